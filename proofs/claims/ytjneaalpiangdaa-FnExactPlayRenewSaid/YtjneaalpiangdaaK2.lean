/- Parts of a proof, joined: VF, VG, VH, VI, VJ, VY, VZ, WA, VK, VL, VM. -/
import Derived.Test.YtjneaalpiangdaaK1
import Derived.WalkKit
import Derived.WalkLawsBesides
import Derived.Scope
import Derived.WalkSpells
/- Part VF. The compiler: a function's entry and its end. Program independent. -/
section
namespace Go.Proofs.Ytjneaalpiangdaa
open Go.RowKit

section
variable (P : Program) (sg : Nat → Option Sig)
def entryV (i b : Nat) (t : TypeId) (own : List Bool) : Option (SV × List (Nat × Ent)) :=
  let l := freshCells P (1000 * i + b) (cellE (.var i) (aggT P t)) 0 (leaves P t) own
  if 400 < (leaves P t).length then none else
  if aggT P t then some (.agg (SVL.of l.1), l.2) else (match l.1 with | [s] => some (s, l.2) | _ => none)
def entryS (i : Nat) (t : TypeId) : PM → Option (SV × List (Nat × Ent))
  | .ro => some (.e (.var i), [])
  | .va own => entryV P i 1 t own
  | .mu own => entryV P i 500 t own
  | .bx own _ => match ptrT P t with
    | some ty =>
      let l := freshCells P (1000 * i + 1) (cellE (.deref (.var i)) true) 0 (leaves P ty) own
      if 400 < (leaves P ty).length then none else some (.bptr (1000 * i) 0, (1000 * i, .box ty (aggT P ty) l.1) :: l.2)
    | none => none
def entryAll : Nat → List TypeId → List PM → Option (List SV × List (Nat × Ent))
  | _, [], _ => some ([], [])
  | i, t :: ts, ms => match entryS P i t (ms.headD .ro), entryAll (i + 1) ts ms.tail with
    | some (s, l), some (ss, ls) => some (s :: ss, l ++ ls)
    | _, _ => none
def entrySt (fn : Func) (s : Sig) : Option St :=
  match entryAll P 0 fn.params.toList s.modes with
  | none => none
  | some (ss, l) =>
    let n := fn.params.size + fn.nfree
    let fr := (List.range fn.nfree).map fun j => SV.e (.var (fn.params.size + j))
    if fn.ntmps < n || 99 < fn.params.size then none else some { sl := ss ++ fr ++ List.replicate (fn.ntmps - n) .undef, hp := l, nx := 100000, nv := n }
def resultSV (σ : St) : ResultVar → Option SV
  | .tmp t => some (slotOf σ t)
  | .cell a ty => match slotOf σ a with
    | .bptr b o => (match hpGet σ.hp b with | some (.box _ _ cs) => if tyOK P ty then loadC P ty cs o else none | _ => none)
    | _ => none
/-- The rows that flagged cells are: each a row of one's own, of the type asked for. -/
def ownedC (σ : St) : List TypeId → List Bool → List SV → Option (List Nat)
  | [], _, [] => some []
  | t :: ts, fl, c :: cs => (match ownedC σ ts fl.tail cs with
    | none => none
    | some l => match fl.headD false, elemT P t with
      | true, some e => if P.cellsOf e = 0 then none else (match c with
        | .nils => some l
        | .own u g => (match hpGet σ.hp u with | some (.row e' z g' _ true) => if g = g' ∧ e' = e ∧ z = P.cellsOf e then some (u :: l) else none | _ => none)
        | _ => none)
      | _, _ => some l)
  | _, _, _ => none
def ownedV (σ : St) (t : TypeId) (fl : List Bool) (s : SV) : Option (List Nat) :=
  if anyFl P t fl then
    if aggT P t then (match s with | .agg cs => ownedC P σ (leaves P t) fl cs.toList | _ => none) else ownedC P σ (leaves P t) fl [s]
  else some []
def ownedVs (σ : St) : List TypeId → List Bool → List SV → Option (List Nat)
  | [], _, [] => some []
  | t :: ts, fl, s :: ss => (match ownedV P σ t fl s, ownedVs σ ts (fl.drop (leaves P t).length) ss with
    | some a, some b => some (a ++ b)
    | _, _ => none)
  | _, _, _ => none
/-- The rows of a parameter whose elements could be written, in the end: header and place are what they were. -/
def muEnd (σ : St) (i : Nat) (mk : Nat → E) : Nat → List TypeId → List Bool → Option (List E × List Nat)
  | _, [], _ => some ([], [])
  | j, t :: ts, fl => match muEnd σ i mk (j + 1) ts fl.tail with
    | none => none
    | some (xs, us) => match fl.headD false, elemT P t with
      | true, some e => (match hpGet σ.hp (1000 * i + 500 + j) with
        | some (.row e' z 0 y true) => if e' = e ∧ z = P.cellsOf e then some (y :: xs, (1000 * i + 500 + j) :: us) else none
        | _ => none)
      | _, _ => some (mk j :: xs, us)
/-- What comes back besides the results: the boxes and rows that were handed over to be written. -/
def backEnd (σ : St) : Nat → List TypeId → List PM → Option (List E × List Nat)
  | _, [], _ => some ([], [])
  | i, t :: ts, ms => match backEnd σ (i + 1) ts ms.tail with
    | none => none
    | some (xs, us) => if 99 < i then none else match ms.headD .ro with
      | .ro => some (xs, us)
      | .va _ => some (xs, us)
      | .mu own => if 400 < (leaves P t).length then none else (match muEnd P σ i (cellE (.var i) (aggT P t)) 0 (leaves P t) own with
        | some (es, vs) => some ((if aggT P t then .mk (EL.of es) else es.headD (.var i)) :: xs, vs ++ us)
        | none => none)
      | .bx _ own' => (match ptrT P t, hpGet σ.hp (1000 * i) with
        | some ty, some (.box ty' _ cs) => if ty' ≠ ty then none else (match toELN (hpGet σ.hp) [] deepFuel cs, ownedC P σ (leaves P ty) own' cs with
          | some es, some vs => some (.mk es :: xs, (1000 * i) :: vs ++ us)
          | _, _ => none)
        | _, _ => none)
/-- What a value that is only read leads to at the end: none of what is handed out. -/
def lentC (σ : St) : List TypeId → List Bool → List SV → List Nat
  | t :: ts, fl, c :: cs => (if fl.headD false && (elemT P t).isSome then [] else tagsN (hpGet σ.hp) [] (deepFuel + 1) [c]) ++ lentC σ ts fl.tail cs
  | _, _, _ => []
def lentV (σ : St) (t : TypeId) (fl : List Bool) (s : SV) : List Nat :=
  if anyFl P t fl then (if aggT P t then (match s with | .agg cs => lentC P σ (leaves P t) fl cs.toList | _ => []) else lentC P σ (leaves P t) fl [s]) else tagsN (hpGet σ.hp) [] (deepFuel + 1) [s]
def lentVs (σ : St) : List TypeId → List Bool → List SV → List Nat
  | t :: ts, fl, s :: ss => lentV P σ t fl s ++ lentVs σ ts (fl.drop (leaves P t).length) ss
  | _, _, _ => []
def lentB (σ : St) : Nat → List TypeId → List PM → List Nat
  | _, [], _ => []
  | i, t :: ts, ms => (match ms.headD .ro, ptrT P t, hpGet σ.hp (1000 * i) with
    | .bx _ own', some ty, some (.box _ _ cs) => lentC P σ (leaves P ty) own' cs
    | _, _, _ => []) ++ lentB σ (i + 1) ts ms.tail
def endTr (fn : Func) (s : Sig) (σ : St) : Option Tr :=
  match fn.results.toList.mapM (resultSV P σ), backEnd P σ 0 fn.params.toList s.modes with
  | some rs, some (bx, us) =>
    match toELN (hpGet σ.hp) [] deepFuel rs, ownedVs P σ fn.resultTypes.toList s.res rs with
    | some es, some vs =>
      if !nodupN (vs ++ us) || (lentVs P σ fn.resultTypes.toList s.res rs ++ lentB P σ 0 fn.params.toList s.modes).any (fun t => (vs ++ us).contains t) then none else
      let r : E := match es with | .cons x .nil => x | es => .tup es
      some (.ret (if bx.isEmpty then r else .tup (EL.of (r :: bx))))
    | _, _ => none
  | _, _ => none
def resBits (fn : Func) (s : Sig) : Nat :=
  fn.results.toList.foldl (fun l r => l ||| match r with | .tmp t => bit t | .cell a _ => bit a) 0 ||| (s.modes.zipIdx.foldl (fun l (m, i) => match m with | .bx .. => l ||| bit i | .mu _ => l ||| bit i | _ => l) 0)
def comp (f : Nat) : Option Tr :=
  match P.funcs[f]?, sg f with
  | some fn, some s => (match fn.body, entrySt P fn s with
    | some c, some σ => (match exec P sg (resBits fn s) c [] (resBits fn s) σ with
      | some t => t.sub (fun _ x τ => match x with | .normal => endTr P fn s τ | .ret => endTr P fn s τ | .exit _ => none) 0
      | none => none)
    | _, _ => none)
  | _, _ => none
end

end Go.Proofs.Ytjneaalpiangdaa
end

/- Part VG. How a symbolic state stands for a frame and a memory. Program independent. -/
section
namespace Go.Proofs.Ytjneaalpiangdaa
open Go.RowKit

/-- Where a box or row lies: its own block, and the blocks of its elements that are the call's own too. -/
structure GI where
  top : List Nat
  O : List Nat
def GI.own (g : GI) : List Nat := g.top ++ g.O
def gdOK (ρ : List AV) (gs : Gd) : Prop := ∀ g ∈ gs, g.1.den ρ = .bool g.2
/-- The surroundings of a reading: the environment, the memory, the places; the headers that were handed out (tag and generation) and what they are; which blocks may be met by what is only read; from which block on memory is the call's own; which tags are used. -/
structure Al where
  ok : Nat → Prop
  pin : Nat → Option Value
instance : CoeFun Al (fun _ => Nat → Prop) := ⟨Al.ok⟩
structure Cx where
  ρ : List AV
  w : World
  G : Nat → GI
  K : Nat → Nat → Prop
  H : Nat → Nat → Value
  A : Al
  w0 : World
  Mu : Nat → Prop
  U : Nat → Prop
def Cx.B (c : Cx) : Nat := c.w0.heap.size
def Cx.M (c : Cx) (b : Nat) : Prop := ∃ t, b ∈ (c.G t).top
/-- A block that a value which is only read may meet. -/
def Cx.ok (c : Cx) (b : Nat) : Prop := ¬ c.M b ∧ (c.A b ∨ c.B ≤ b ∨ c.Mu b)
/-- The entry of a tag, where its guards hold. -/
def Res (ρ : List AV) (o : Option Ent) (e : Ent) : Prop := match o with
  | some (.gd gs e') => gdOK ρ gs ∧ e' = e
  | some e' => e' = e
  | none => False
/-- A reading that meets no block: the elements are flat. -/
def Uni (_ : World) (f : List Nat) : Prop := f = []
/-- A row of one's own. -/
def OwnRow (w : World) (ety sz : Nat) (v : Value) (x : AV) (top N : List Nat) : Prop :=
  ∃ xs, x = .sl xs ∧ (∀ y ∈ xs, y.cells.length = sz) ∧ 0 < sz ∧
    ((xs = [] ∧ (∃ a, v = .slice a 0 0) ∧ top = [] ∧ N = []) ∨
     ∃ g cap C, v = .slice (some ⟨g, 0, none⟩) xs.length cap ∧ xs.length ≤ cap ∧ cap ≤ maxLen ∧ w.heap[g]? = some (.cells C ety (0, 0)) ∧ C.size = cap * sz ∧ top = [g] ∧ (∀ u ∈ C.toList.take (xs.length * sz), u.oneCell' = true) ∧ Rd w (C.toList.take (xs.length * sz)) (flatC xs) N)

inductive SR (c : Cx) : List SV → List Value → Prop where
  | nil : SR c [] []
  | undef {v ss vs} : SR c ss vs → SR c (.undef :: ss) (v :: vs)
  | e {x v f ss vs} : Rd c.w [v] [x.den c.ρ] f → (∀ b ∈ f, c.ok b) → SR c ss vs → SR c (.e x :: ss) (v :: vs)
  | nils {ss vs} : SR c ss vs → SR c (.nils :: ss) (.slice none 0 0 :: vs)
  | emp {a ss vs} : SR c ss vs → SR c (.emp :: ss) (.slice a 0 0 :: vs)
  | own {t g p q r ss vs} : c.K t g → c.H t g = .slice p q r → SR c ss vs → SR c (.own t g :: ss) (.slice p q r :: vs)
  | bptr {t o b ss vs} : c.K t 0 → c.H t 0 = .pointer (some ⟨b, 0, none⟩) → SR c ss vs → SR c (.bptr t o :: ss) (.pointer (some ⟨b, o, none⟩) :: vs)
  | rptr {t g : Nat} {i : E} {sz o b n cap kk} {k : Int} {ss vs} : c.K t g → c.H t g = .slice (some ⟨b, 0, none⟩) n cap → i.den c.ρ = .int kk k → 0 ≤ k → k < n → SR c ss vs →
      SR c (.rptr t g i sz o :: ss) (.pointer (some ⟨b, k.toNat * sz + o, none⟩) :: vs)
  | eptr {x i : E} {sz o b off n cap : Nat} {f kk} {k : Int} {ss vs} : Rd c.w [.slice (some ⟨b, off, none⟩) n cap] [x.den c.ρ] f → (∀ b ∈ f, c.ok b) → i.den c.ρ = .int kk k → 0 ≤ k → k < n → ((x.den c.ρ).nth k.toNat).cells.length = sz →
      SR c ss vs → SR c (.eptr x i sz o :: ss) (.pointer (some ⟨b, off + k.toNat * sz + o, none⟩) :: vs)
  | pptr {x : E} {o b : Nat} {f ss vs} : Rd c.w [.pointer (some ⟨b, 0, none⟩)] [x.den c.ρ] f → (∀ b ∈ f, c.ok b) → SR c ss vs → SR c (.pptr x o :: ss) (.pointer (some ⟨b, o, none⟩) :: vs)
  | agg {cs as ss vs} : (∀ u ∈ as, u.oneCell' = true) → SR c cs.toList as → SR c ss vs → SR c (.agg cs :: ss) (.agg as.toArray :: vs)
  | tup {cs as ss vs} : SR c cs.toList as → SR c ss vs → SR c (.tup cs :: ss) (.tuple as.toArray :: vs)
  | fn {g cs as ss vs} : SR c cs.toList as → SR c ss vs → SR c (.fn g cs :: ss) (.func (.func g) #[] as.toArray :: vs)
  | gd {gs s v ss vs} : (gdOK c.ρ gs → SR c [s] [v]) → (¬ gdOK c.ρ gs → v = undef) → SR c ss vs → SR c (.gd gs s :: ss) (v :: vs)

/-- What an entry says of its place. -/
def EntR (c : Cx) (t : Nat) : Ent → Prop
  | .box ty _ cs => ∃ b C, c.K t 0 ∧ c.H t 0 = .pointer (some ⟨b, 0, none⟩) ∧ (c.G t).top = [b] ∧ (c.G t).O = [] ∧ c.w.heap[b]? = some (.cells C ty (0, 0)) ∧ (∀ u ∈ C.toList, u.oneCell' = true) ∧ SR c cs C.toList
  | .row ety sz g x d => c.K t g ∧ (∀ g', c.K t g' → g' ≤ g) ∧ ∃ N, OwnRow c.w ety sz (c.H t g) (x.den c.ρ) (c.G t).top N ∧ (∀ b ∈ N, c.ok b) ∧ (d = true → Uni c.w N ∧ (c.G t).O = N) ∧ (d = false → (c.G t).O = [])
  | .frz g x => c.K t g ∧ (∃ f, Rd c.w [c.H t g] [x.den c.ρ] f ∧ ∀ b ∈ f, c.ok b) ∧ (c.G t).top = [] ∧ (c.G t).O = []
  | .gd .. => (c.G t).top = [] ∧ (c.G t).O = []
  | .dead => (c.G t).top = [] ∧ (c.G t).O = []
/-- The places are apart. -/
structure GW (c : Cx) : Prop where
  nodup : ∀ t, (c.G t).own.Nodup
  disj : ∀ t u, t ≠ u → ∀ b ∈ (c.G t).own, b ∉ (c.G u).own
  allow : ∀ t, ∀ b ∈ (c.G t).own, c.B ≤ b ∨ c.Mu b
  inb : ∀ t, ∀ b ∈ (c.G t).own, b < c.w.heap.size
/-- What the call has done so far to the world in which it began: nothing but new blocks and writes to what was handed over. -/
structure Base (c : Cx) : Prop where
  os : c.w.os = c.w0.os
  tape : c.w.tape = c.w0.tape
  output : c.w.output = c.w0.output
  size : c.w0.heap.size ≤ c.w.heap.size
  pins : ∀ t v, c.A.pin t = some v → c.U t ∧ (c.K t 0 → c.H t 0 = v)
  block : ∀ b, b < c.w0.heap.size → ¬ c.Mu b → c.w.heap[b]? = c.w0.heap[b]?
structure Rel (c : Cx) (n : Nat) (sl : Nat → SV) (hp : Nat → Option Ent) (a : Act) : Prop where
  defers : a.defers = []
  size : a.tmps.size = n
  base : Base c
  slots : ∀ i, SR c [sl i] [a.tmps.getD i undef]
  ents : ∀ t e, Res c.ρ (hp t) e → EntR c t e
  off : ∀ t, (∀ e, ¬ Res c.ρ (hp t) e) → (c.G t).top = [] ∧ (c.G t).O = []
  gw : GW c
  usedK : ∀ t g, c.K t g → c.U t
  usedH : ∀ t e, hp t = some e → c.U t

theorem SR.app {c : Cx} {ss : List SV} {vs : List Value} (h : SR c ss vs) {ss' : List SV} {vs' : List Value} (k : SR c ss' vs') : SR c (ss ++ ss') (vs ++ vs') := by
  induction h with
  | nil => exact k
  | undef _ ih => exact .undef ih
  | e h1 h2 _ ih => exact .e h1 h2 ih
  | nils _ ih => exact .nils ih
  | emp _ ih => exact .emp ih
  | own h1 h2 _ ih => exact .own h1 h2 ih
  | bptr h1 h2 _ ih => exact .bptr h1 h2 ih
  | rptr h1 h2 h3 h4 h5 _ ih => exact .rptr h1 h2 h3 h4 h5 ih
  | eptr h1 h2 h3 h4 h5 h6 _ ih => exact .eptr h1 h2 h3 h4 h5 h6 ih
  | pptr h1 h2 _ ih => exact .pptr h1 h2 ih
  | agg h9 h1 _ _ ih => exact .agg h9 h1 ih
  | tup h1 _ _ ih => exact .tup h1 ih
  | fn h1 _ _ ih => exact .fn h1 ih
  | gd h1 h2 _ _ ih => exact .gd h1 h2 ih
theorem SR.len {c : Cx} {ss : List SV} {vs : List Value} (h : SR c ss vs) : ss.length = vs.length := by
  induction h <;> simp_all
theorem SR.uncons {c : Cx} {s : SV} {ss : List SV} {v : Value} {vs : List Value} (h : SR c (s :: ss) (v :: vs)) : SR c [s] [v] ∧ SR c ss vs := by
  cases h with
  | undef h => exact ⟨.undef .nil, h⟩
  | e h1 h2 h => exact ⟨.e h1 h2 .nil, h⟩
  | nils h => exact ⟨.nils .nil, h⟩
  | emp h => exact ⟨.emp .nil, h⟩
  | own h1 h2 h => exact ⟨.own h1 h2 .nil, h⟩
  | bptr h1 h2 h => exact ⟨.bptr h1 h2 .nil, h⟩
  | rptr h1 h2 h3 h4 h5 h => exact ⟨.rptr h1 h2 h3 h4 h5 .nil, h⟩
  | eptr h1 h2 h3 h4 h5 h6 h => exact ⟨.eptr h1 h2 h3 h4 h5 h6 .nil, h⟩
  | pptr h1 h2 h => exact ⟨.pptr h1 h2 .nil, h⟩
  | agg h9 h1 h => exact ⟨.agg h9 h1 .nil, h⟩
  | tup h1 h => exact ⟨.tup h1 .nil, h⟩
  | fn h1 h => exact ⟨.fn h1 .nil, h⟩
  | gd h1 h2 h => exact ⟨.gd h1 h2 .nil, h⟩
theorem SR.cons {c : Cx} {s : SV} {ss : List SV} {v : Value} {vs : List Value} (h : SR c [s] [v]) (k : SR c ss vs) : SR c (s :: ss) (v :: vs) := h.app k
theorem SR.get {c : Cx} : ∀ {ss : List SV} {vs : List Value}, SR c ss vs → ∀ {i : Nat} {s : SV}, ss[i]? = some s → ∃ v, vs[i]? = some v ∧ SR c [s] [v]
  | [], vs, h, i, s, hs => by simp at hs
  | s0 :: ss, [], h, _, _, _ => by have := h.len; simp at this
  | s0 :: ss, v0 :: vs, h, i, s, hs => by
    obtain ⟨h1, h2⟩ := h.uncons
    cases i with
    | zero => simp at hs; subst hs; exact ⟨v0, rfl, h1⟩
    | succ i => simpa using h2.get (by simpa using hs)
theorem SR.split {c : Cx} : ∀ {ss : List SV} {vs : List Value} (n : Nat), SR c ss vs → SR c (ss.take n) (vs.take n) ∧ SR c (ss.drop n) (vs.drop n)
  | ss, vs, 0, h => by simpa using ⟨SR.nil, h⟩
  | [], vs, n + 1, h => by
    have := h.len
    cases vs with
    | nil => simpa using SR.nil
    | cons => simp at this
  | s :: ss, [], n + 1, h => by have := h.len; simp at this
  | s :: ss, v :: vs, n + 1, h => by
    obtain ⟨h1, h2⟩ := h.uncons
    obtain ⟨h3, h4⟩ := h2.split n
    exact ⟨h1.app h3, h4⟩

/-! ### What stays -/
/-- A change of surroundings under which what is read stays. -/
structure Keep (c c' : Cx) : Prop where
  ρ : c'.ρ = c.ρ
  ok : ∀ b, b < c.w.heap.size → c.ok b → c'.ok b
  mem : ∀ b, b < c.w.heap.size → c.ok b → c'.w.heap[b]? = c.w.heap[b]?
  K : ∀ t g, c.K t g → c'.K t g ∧ c'.H t g = c.H t g
theorem Rd.keepC {c c' : Cx} (k : Keep c c') {vs : List Value} {xs : List AV} {f : List Nat} (h : Rd c.w vs xs f) (hf : ∀ b ∈ f, c.ok b) : Rd c'.w vs xs f ∧ ∀ b ∈ f, c'.ok b :=
  ⟨h.frame fun b hb => k.mem b (h.inb b hb) (hf b hb), fun b hb => k.ok b (h.inb b hb) (hf b hb)⟩
theorem Keep.refl (c : Cx) : Keep c c := ⟨rfl, fun _ _ h => h, fun _ _ _ => rfl, fun _ _ h => ⟨h, rfl⟩⟩
theorem SR.keep {c c' : Cx} (k : Keep c c') {ss : List SV} {vs : List Value} (h : SR c ss vs) : SR c' ss vs := by
  have hρ := k.ρ
  induction h with
  | nil => exact .nil
  | undef _ ih => exact .undef ih
  | e h1 h2 _ ih => obtain ⟨a, b⟩ := Rd.keepC k h1 h2; exact .e (by rw [hρ]; exact a) b ih
  | nils _ ih => exact .nils ih
  | emp _ ih => exact .emp ih
  | own h1 h2 _ ih => obtain ⟨a, b⟩ := k.K _ _ h1; exact .own a (b.trans h2) ih
  | bptr h1 h2 _ ih => obtain ⟨a, b⟩ := k.K _ _ h1; exact .bptr a (b.trans h2) ih
  | rptr h1 h2 h3 h4 h5 _ ih => obtain ⟨a, b⟩ := k.K _ _ h1; exact .rptr a (b.trans h2) (by rw [hρ]; exact h3) h4 h5 ih
  | eptr h1 h2 h3 h4 h5 h6 _ ih => obtain ⟨a, b⟩ := Rd.keepC k h1 h2; exact .eptr (by rw [hρ]; exact a) b (by rw [hρ]; exact h3) h4 h5 (by rw [hρ]; exact h6) ih
  | pptr h1 h2 _ ih => obtain ⟨a, b⟩ := Rd.keepC k h1 h2; exact .pptr (by rw [hρ]; exact a) b ih
  | agg h9 _ _ ih1 ih2 => exact .agg h9 ih1 ih2
  | tup _ _ ih1 ih2 => exact .tup ih1 ih2
  | fn _ _ ih1 ih2 => exact .fn ih1 ih2
  | gd _ h2 _ ih1 ih2 => exact .gd (fun hg => ih1 (by rw [← hρ]; exact hg)) (fun hg => h2 (by rw [← hρ]; exact hg)) ih2
theorem OwnRow.frame {w w' : World} {ety sz : Nat} {v : Value} {x : AV} {top N : List Nat} (h : OwnRow w ety sz v x top N) (ht : ∀ b ∈ top, w'.heap[b]? = w.heap[b]?) (hN : ∀ b ∈ N, w'.heap[b]? = w.heap[b]?) : OwnRow w' ety sz v x top N := by
  obtain ⟨xs, h1, h2, h3, h4 | ⟨g, cap, C, h5, h6, h7, h8, h9, h10, h10', h11⟩⟩ := h
  · exact ⟨xs, h1, h2, h3, .inl h4⟩
  · exact ⟨xs, h1, h2, h3, .inr ⟨g, cap, C, h5, h6, h7, by rw [ht g (by simp [h10])]; exact h8, h9, h10, h10', h11.frame hN⟩⟩
theorem Uni.frame {w w' : World} {f : List Nat} (h : Uni w f) (hf : ∀ b ∈ f, w'.heap[b]? = w.heap[b]?) : Uni w' f := have _ := hf; h
theorem OwnRow.inbN {w : World} {ety sz : Nat} {v : Value} {x : AV} {top N : List Nat} (h : OwnRow w ety sz v x top N) : ∀ b ∈ N, b < w.heap.size := by
  obtain ⟨xs, h1, h2, h3, h4 | ⟨g, cap, C, h5, h6, h7, h8, h9, h10, h10', h11⟩⟩ := h
  · simp [h4.2.2.2]
  · exact h11.inb
/-- An entry at an untouched place stays. -/
theorem EntR.keep {c c' : Cx} (k : Keep c c') {t : Nat} {e : Ent} (h : EntR c t e) (hG : c'.G t = c.G t) (hK : ∀ g, c'.K t g → c.K t g) (hm : ∀ b ∈ (c.G t).top, c'.w.heap[b]? = c.w.heap[b]?) : EntR c' t e := by
  cases e with
  | box ty g cs =>
    obtain ⟨b, C, h1, h2, h3, h4, h5, h5', h6⟩ := h
    obtain ⟨a1, a2⟩ := k.K _ _ h1
    exact ⟨b, C, a1, a2.trans h2, by rw [hG]; exact h3, by rw [hG]; exact h4, by rw [hm b (by simp [h3])]; exact h5, h5', h6.keep k⟩
  | row ety sz g x d =>
    obtain ⟨h1, h0, N, h2, h3, h4, h5⟩ := h
    obtain ⟨a1, a2⟩ := k.K _ _ h1
    have hN := h2.inbN
    refine ⟨a1, fun g' hg' => h0 g' (hK g' hg'), N, ?_, fun b hb => k.ok b (hN b hb) (h3 b hb), fun hd => ?_, fun hd => by rw [hG]; exact h5 hd⟩
    · rw [a2, k.ρ, hG]; exact h2.frame hm fun b hb => k.mem b (hN b hb) (h3 b hb)
    · obtain ⟨a, b⟩ := h4 hd
      exact ⟨a.frame fun b hb => k.mem b (hN b hb) (h3 b hb), by rw [hG]; exact b⟩
  | frz g x =>
    obtain ⟨h1, ⟨f, h2, h3⟩, h4, h5⟩ := h
    obtain ⟨a1, a2⟩ := k.K _ _ h1
    obtain ⟨a, b⟩ := Rd.keepC k h2 h3
    exact ⟨a1, ⟨f, by rw [a2, k.ρ]; exact a, b⟩, by rw [hG]; exact h4, by rw [hG]; exact h5⟩
  | gd gs e => exact by rw [EntR, hG]; exact h
  | dead => exact by rw [EntR, hG]; exact h
end Go.Proofs.Ytjneaalpiangdaa
end

/- Part VH. Snapshots are right. Program independent. -/
section
namespace Go.Proofs.Ytjneaalpiangdaa
open Go.RowKit

theorem gdMem_ok {ρ : List AV} {g : E × Bool} {gs : Gd} (h : gdMem g gs = true) (k : gdOK ρ gs) : g.1.den ρ = .bool g.2 := by
  simp only [gdMem, List.any_eq_true, Bool.and_eq_true, beq_iff_eq] at h
  obtain ⟨x, hx, h1, h2⟩ := h
  rw [← E.beq_den ρ _ _ h1, ← h2]; exact k x hx
theorem gdSub_ok {ρ : List AV} {hs gs : Gd} (h : gdSub hs gs = true) (k : gdOK ρ gs) : gdOK ρ hs := by
  simp only [gdSub, List.all_eq_true] at h
  exact fun g hg => gdMem_ok (h g hg) k
theorem gdOK_nil (ρ : List AV) : gdOK ρ [] := by simp [gdOK]
def EH (c : Cx) (hp : Nat → Option Ent) : Prop := ∀ t e, Res c.ρ (hp t) e → EntR c t e
theorem look_res {ρ : List AV} {hp : Nat → Option Ent} {gs : Gd} {t : Nat} {e : Ent} (h : look hp gs t = some e) (k : gdOK ρ gs) : Res ρ (hp t) e := by
  unfold look at h
  cases ho : hp t with
  | none => rw [ho] at h; simp at h
  | some o =>
    rw [ho] at h
    simp only [Option.bind_some] at h
    cases o with
    | gd hs e' =>
      simp only [ungdE] at h
      split at h
      · rename_i hsub; simp at h; subst h; exact ⟨gdSub_ok hsub k, rfl⟩
      · cases h
    | box => simp [ungdE] at h; subst h; rfl
    | row => simp [ungdE] at h; subst h; rfl
    | frz => simp [ungdE] at h; subst h; rfl
    | dead => simp [ungdE] at h; subst h; rfl
theorem SR.ungd {c : Cx} {s s' : SV} {v : Value} {gs : Gd} (h : SR c [s] [v]) (hu : ungd gs s = some s') (k : gdOK c.ρ gs) : SR c [s'] [v] := by
  cases s <;> simp only [Go.Proofs.Ytjneaalpiangdaa.ungd] at hu <;> first
    | (cases hu; done)
    | (split at hu
       · rename_i hsub
         simp at hu; subst hu
         cases h with
         | gd h1 _ _ => exact h1 (gdSub_ok hsub k)
       · cases hu)
    | (simp at hu; subst hu; exact h)
theorem SVL.toList_of (l : List SV) : (SVL.of l).toList = l := by induction l <;> simp [SVL.of, SVL.toList, *]
theorem EL.den_of (ρ : List AV) (l : List E) : (EL.of l).den ρ = l.map (E.den ρ) := by induction l <;> simp [EL.of, EL.den, *]
theorem constSV_go {c : Cx} : ∀ (vs : List Value) (l : List SV), constSV.go vs = some l → SR c l vs
  | [], l, h => by simp [constSV.go] at h; subst h; exact .nil
  | v :: vs, l, h => by
    unfold constSV.go at h
    split at h
    · rename_i h0; cases h0
    · rename_i k n vs' h0
      cases h0
      split at h
      · rename_i hk
        obtain ⟨l', hl, rfl⟩ := Option.map_eq_some_iff.1 h
        exact .e (.int hk .nil) (by simp) (constSV_go _ _ hl)
      · cases h
    · rename_i h0; cases h0
      obtain ⟨l', hl, rfl⟩ := Option.map_eq_some_iff.1 h
      exact .e (.bool .nil) (by simp) (constSV_go _ _ hl)
    · rename_i h0; cases h0
      split at h
      · rename_i hk
        obtain ⟨l', hl, rfl⟩ := Option.map_eq_some_iff.1 h
        exact .e (.str hk .nil) (by simp) (constSV_go _ _ hl)
      · cases h
    · rename_i h0; cases h0
      obtain ⟨l', hl, rfl⟩ := Option.map_eq_some_iff.1 h
      exact .nils (constSV_go _ _ hl)
    · rename_i h0; cases h0
      obtain ⟨l', hl, rfl⟩ := Option.map_eq_some_iff.1 h
      exact .e (.nilp .nil) (by simp) (constSV_go _ _ hl)
    · cases h
theorem constSV_one : ∀ (vs : List Value) (l : List SV), constSV.go vs = some l → ∀ u ∈ vs, u.oneCell' = true
  | [], l, h, u, hu => by simp at hu
  | v :: vs, l, h, u, hu => by
    unfold constSV.go at h
    split at h
    · rename_i h0; cases h0
    all_goals (try (cases h; done))
    all_goals
      rename_i h0
      cases h0
      (try split at h)
      all_goals (try (cases h; done))
      all_goals
        obtain ⟨l', hl, rfl⟩ := Option.map_eq_some_iff.1 h
        rcases List.mem_cons.1 hu with rfl | hu
        · rfl
        · exact constSV_one _ _ hl u hu
theorem constSV_SR {c : Cx} {v : Value} {s : SV} (h : constSV v = some s) : SR c [s] [v] := by
  unfold constSV at h
  split at h
  · split at h
    · rename_i hk; simp at h; subst h; exact .e (.int hk .nil) (by simp) .nil
    · cases h
  · simp at h; subst h; exact .e (.bool .nil) (by simp) .nil
  · split at h
    · rename_i hk; simp at h; subst h; exact .e (.str hk .nil) (by simp) .nil
    · cases h
  · simp at h; subst h; exact .nils .nil
  · simp at h; subst h; exact .e (.nilp .nil) (by simp) .nil
  · rename_i cs
    simp only [Option.bind_eq_bind, Option.bind_eq_some_iff] at h
    obtain ⟨l, hl, h⟩ := h
    simp at h; subst h
    have := SR.agg (cs := SVL.of l) (as := cs.toList) (constSV_one _ _ hl) (by rw [SVL.toList_of]; exact constSV_go (c := c) _ _ hl) .nil
    simpa using this
  · cases h
theorem operandSV_SR {c : Cx} {sl : Nat → SV} {gs : Gd} {x : Operand} {s : SV} {a : Act} (h : operandSV sl gs x = some s) (hs : ∀ t, x = .tmp t → SR c [sl t] [a.tmps.getD t undef]) (k : gdOK c.ρ gs) : SR c [s] [a.eval x] := by
  cases x with
  | tmp t => exact (hs t rfl).ungd h k
  | const v => exact constSV_SR h
  | func f => simp [operandSV] at h; subst h; exact SR.fn (as := []) .nil .nil
  | global g => simp [operandSV] at h

/-- A row's content as a reading. -/
theorem OwnRow.rd {w : World} {ety sz : Nat} {v : Value} {x : AV} {top N : List Nat} (h : OwnRow w ety sz v x top N) : ∃ f, Rd w [v] [x] f ∧ (∀ b ∈ f, b ∈ top ∨ b ∈ N) ∧ ∀ b ∈ f.tail, b ∈ N := by
  obtain ⟨xs, rfl, h2, h3, ⟨rfl, ⟨a, rfl⟩, rfl, rfl⟩ | ⟨g, cap, C, rfl, h6, h7, h8, h9, rfl, h10', h11⟩⟩ := h
  · exact ⟨_, .snil .nil, by simp⟩
  · rcases Nat.eq_zero_or_pos xs.length with h0 | h0
    · have : xs = [] := List.eq_nil_of_length_eq_zero h0
      subst this
      exact ⟨_, .snil .nil, by simp⟩
    · have := Rd.scons (o := 0) (c := cap) (cs := C.toList.take (xs.length * sz)) h8 h0 ⟨by have : maxLen = 9223372036854775807 := rfl; omega, by omega⟩ rfl h2 h3 (fun j u hu => by
        rw [Nat.zero_add]
        rw [List.getElem?_take] at hu
        split at hu
        · simpa using hu
        · cases hu) h10' h11 .nil
      exact ⟨_, this, by simp⟩
/-- What a snapshot may meet: what is only read, or the blocks of the tags it goes through. -/
def Cx.see (c : Cx) (ts : List Nat) (b : Nat) : Prop := c.ok b ∨ ∃ t ∈ ts, b ∈ (c.G t).top
theorem Cx.see.mono {c : Cx} {ts us : List Nat} {b : Nat} (h : c.see ts b) (hs : ∀ t ∈ ts, t ∈ us) : c.see us b := h.imp id fun ⟨t, h1, h2⟩ => ⟨t, hs t h1, h2⟩
theorem contentOf_rd {c : Cx} {hp : Nat → Option Ent} {gs : Gd} (eh : EH c hp) (k : gdOK c.ρ gs) {t g : Nat} {x : E} (h : contentOf hp gs t g = some x) :
    ∃ f, Rd c.w [c.H t g] [x.den c.ρ] f ∧ ∀ b ∈ f, c.see [t] b := by
  unfold contentOf at h
  split at h
  · rename_i e z g' y d hl
    split at h
    · rename_i hg; subst hg; simp at h; subst h
      obtain ⟨h1, h0, N, h2, h3, h4, h5⟩ := eh t _ (look_res hl k)
      obtain ⟨f, hr, hf, _⟩ := h2.rd
      exact ⟨f, hr, fun b hb => (hf b hb).elim (fun h => .inr ⟨t, by simp, h⟩) fun h => .inl (h3 b h)⟩
    · cases h
  · rename_i g' y hl
    split at h
    · rename_i hg; subst hg; simp at h; subst h
      obtain ⟨h1, ⟨f, h2, h3⟩, h4, h5⟩ := eh t _ (look_res hl k)
      exact ⟨f, h2, fun b hb => .inl (h3 b hb)⟩
    · cases h
  · cases h
/-- The tags of one value, as the list's function has them. -/
theorem tagsN_cons (hp : Nat → Option Ent) (gs : Gd) (n : Nat) (s : SV) (l : List SV) : ∀ t, t ∈ tagsN hp gs (n + 1) (s :: l) ↔ t ∈ tagsN hp gs (n + 1) [s] ∨ t ∈ tagsN hp gs n l := by
  intro t
  have h0 : ∀ m, tagsN hp gs m [] = [] := fun m => by cases m <;> simp [tagsN]
  simp only [tagsN, List.mem_append, h0, List.not_mem_nil, or_false]
theorem tagsN_nil (hp : Nat → Option Ent) (gs : Gd) : ∀ n, tagsN hp gs n [] = [] := fun m => by cases m <;> simp [tagsN]
theorem tagsN_agg (hp : Nat → Option Ent) (gs : Gd) (n : Nat) (cs : SVL) : tagsN hp gs (n + 1) [.agg cs] = tagsN hp gs n cs.toList := by simp only [tagsN, tagsN_nil, List.append_nil]
theorem tagsN_tup (hp : Nat → Option Ent) (gs : Gd) (n : Nat) (cs : SVL) : tagsN hp gs (n + 1) [.tup cs] = tagsN hp gs n cs.toList := by simp only [tagsN, tagsN_nil, List.append_nil]
theorem tagsN_fn (hp : Nat → Option Ent) (gs : Gd) (n f : Nat) (cs : SVL) : tagsN hp gs (n + 1) [.fn f cs] = tagsN hp gs n cs.toList := by simp only [tagsN, tagsN_nil, List.append_nil]
theorem tagsN_gd (hp : Nat → Option Ent) (gs hs : Gd) (n : Nat) (s : SV) : tagsN hp gs (n + 1) [.gd hs s] = tagsN hp gs n [s] := by simp only [tagsN, tagsN_nil, List.append_nil]
mutual
theorem toEN_rd {c : Cx} {hp : Nat → Option Ent} {gs : Gd} (eh : EH c hp) (k : gdOK c.ρ gs) : ∀ (n : Nat) {s : SV} {x : E} {v : Value}, toEN hp gs n s = some x → SR c [s] [v] → ∀ m, n ≤ m →
    ∃ f, Rd c.w [v] [x.den c.ρ] f ∧ ∀ b ∈ f, c.see (tagsN hp gs (m + 1) [s]) b
  | 0, s, x, v, h, _, m, _ => by simp [toEN] at h
  | n + 1, s, x, v, h, hr, m, hm => by
    obtain ⟨m, rfl⟩ : ∃ m', m = m' + 1 := ⟨m - 1, by omega⟩
    have hm' : n ≤ m := by omega
    have h0 : ∀ m, tagsN hp gs m [] = [] := fun m => by cases m <;> simp [tagsN]
    unfold toEN at h
    split at h
    · cases h
    · simp at h; subst h
      cases hr with
      | e h1 h2 _ => exact ⟨_, h1, fun b hb => .inl (h2 b hb)⟩
    · simp at h; subst h
      cases hr with
      | nils _ => exact ⟨_, .snil .nil, by simp⟩
    · simp at h; subst h
      cases hr with
      | emp _ => exact ⟨_, .snil .nil, by simp⟩
    · cases hr with
      | own _ h8 _ =>
        obtain ⟨f, h1, h2⟩ := contentOf_rd eh k h
        rw [h8] at h1
        exact ⟨f, h1, fun b hb => (h2 b hb).mono (by simp [tagsN])⟩
    · rename_i t
      split at h
      · rename_i ty g0 cs hl
        obtain ⟨l, hl', rfl⟩ := Option.map_eq_some_iff.1 h
        cases hr with
        | bptr h1 h2 _ =>
          obtain ⟨b, C, _, e2, e3, e4, e5, e5', e6⟩ := eh t _ (look_res hl k)
          rw [h2] at e2; cases e2
          obtain ⟨f, g1, g2⟩ := toELN_rd eh k n hl' e6 (m + 1) (by omega)
          refine ⟨_, .ref e5 e5' (by simpa [E.den, AV.cells] using g1) .nil, fun q hq => ?_⟩
          simp only [List.append_nil, List.mem_cons] at hq
          rcases hq with rfl | hq
          · exact .inr ⟨t, by simp [tagsN], by simp [e3]⟩
          · exact (g2 q hq).mono fun u hu => by simp only [tagsN, hl, h0, List.append_nil, List.mem_cons]; exact .inr hu
      · cases h
    · cases h
    · cases h
    · cases h
    · rename_i y
      simp at h; subst h
      cases hr with
      | pptr h1 h2 _ => exact ⟨_, h1, fun b hb => .inl (h2 b hb)⟩
    · cases h
    · rename_i cs
      obtain ⟨l, hl', rfl⟩ := Option.map_eq_some_iff.1 h
      cases hr with
      | agg h9 h1 _ =>
        obtain ⟨f, g1, g2⟩ := toELN_rd eh k n hl' h1 (m + 1) (by omega)
        exact ⟨_, .agg h9 g1 .nil, fun q hq => by rw [tagsN_agg]; exact g2 q (by simpa using hq)⟩
    · rename_i cs
      obtain ⟨l, hl', rfl⟩ := Option.map_eq_some_iff.1 h
      cases hr with
      | tup h1 _ =>
        obtain ⟨f, g1, g2⟩ := toELN_rd eh k n hl' h1 (m + 1) (by omega)
        exact ⟨_, .tup g1 .nil, fun q hq => by rw [tagsN_tup]; exact g2 q (by simpa using hq)⟩
    · rename_i g cs
      obtain ⟨l, hl', rfl⟩ := Option.map_eq_some_iff.1 h
      cases hr with
      | fn h1 _ =>
        obtain ⟨f, g1, g2⟩ := toELN_rd eh k n hl' h1 (m + 1) (by omega)
        exact ⟨_, .fn g1 .nil, fun q hq => by rw [tagsN_fn]; exact g2 q (by simpa using hq)⟩
    · rename_i hs s
      split at h
      · rename_i hsub
        cases hr with
        | gd h1 _ _ =>
          obtain ⟨f, g1, g2⟩ := toEN_rd eh k n h (h1 (gdSub_ok hsub k)) m hm'
          exact ⟨f, g1, fun q hq => by rw [tagsN_gd]; exact g2 q hq⟩
      · cases h
theorem toELN_rd {c : Cx} {hp : Nat → Option Ent} {gs : Gd} (eh : EH c hp) (k : gdOK c.ρ gs) : ∀ (n : Nat) {ss : List SV} {xs : EL} {vs : List Value}, toELN hp gs n ss = some xs → SR c ss vs → ∀ m, n ≤ m →
    ∃ f, Rd c.w vs (xs.den c.ρ) f ∧ ∀ b ∈ f, c.see (tagsN hp gs m ss) b
  | 0, ss, xs, vs, h, _, m, _ => by simp [toELN] at h
  | n + 1, [], xs, vs, h, hr, m, _ => by
    simp [toELN] at h; subst h
    cases hr; exact ⟨[], .nil, by simp⟩
  | n + 1, s :: ss, xs, [], h, hr, m, _ => by have := hr.len; simp at this
  | n + 1, s :: ss, xs, v :: vs, h, hr, m, hm => by
    obtain ⟨m, rfl⟩ : ∃ m', m = m' + 1 := ⟨m - 1, by omega⟩
    obtain ⟨r1, r2⟩ := hr.uncons
    unfold toELN at h
    split at h
    · rename_i x ys h1 h2
      simp at h; subst h
      obtain ⟨f, a1, a2⟩ := toEN_rd eh k n h1 r1 m (by omega)
      obtain ⟨g, b1, b2⟩ := toELN_rd eh k n h2 r2 m (by omega)
      refine ⟨f ++ g, a1.app b1, fun q hq => ?_⟩
      rcases List.mem_append.1 hq with hq | hq
      · exact (a2 q hq).mono fun t ht => (tagsN_cons hp gs m s ss t).2 (.inl ht)
      · exact (b2 q hq).mono fun t ht => (tagsN_cons hp gs m s ss t).2 (.inr ht)
    · cases h
end
end Go.Proofs.Ytjneaalpiangdaa
end

/- Part VI. How a state goes on. Program independent. -/
section
namespace Go.Proofs.Ytjneaalpiangdaa
open Go.RowKit

def updS (n : Nat) (sl : Nat → SV) (d : Option Nat) (s : SV) (i : Nat) : SV := if d = some i ∧ i < n then s else sl i
def updH (hp : Nat → Option Ent) (l : List (Nat × Ent)) : Nat → Option Ent := l.foldl (fun h (t, e) => fun u => if u = t then some e else h u) hp
theorem Rel.put {c : Cx} {n : Nat} {sl : Nat → SV} {hp : Nat → Option Ent} {a : Act} (h : Rel c n sl hp a) {s : SV} {v : Value} (hv : SR c [s] [v]) (d : Option Nat) : Rel c n (updS n sl d s) hp (a.put d v) := by
  cases d with
  | none =>
    have e : updS n sl none s = sl := by funext i; simp [updS]
    rw [e]; exact h
  | some d =>
    refine ⟨h.defers, by simpa [Act.put] using h.size, h.base, fun i => ?_, h.ents, h.off, h.gw, h.usedK, h.usedH⟩
    simp only [updS, Option.some.injEq, Act.put]
    by_cases hi : d = i ∧ i < n
    · rw [if_pos hi]
      obtain ⟨rfl, hi⟩ := hi
      have : (a.tmps.setIfInBounds d v).getD d undef = v := by
        rw [Array.getD_eq_getD_getElem?, Array.getElem?_setIfInBounds]
        simp [h.size, hi]
      rw [this]; exact hv
    · rw [if_neg hi]
      have : (a.tmps.setIfInBounds d v).getD i undef = a.tmps.getD i undef := by
        rw [Array.getD_eq_getD_getElem?, Array.getD_eq_getD_getElem?, Array.getElem?_setIfInBounds]
        by_cases hd : d = i
        · subst hd
          have : ¬ d < a.tmps.size := fun h' => hi ⟨rfl, by rw [← h.size]; exact h'⟩
          simp [this, Array.getElem?_eq_none (Nat.le_of_not_lt this)]
        · simp [hd]
      rw [this]; exact h.slots i
/-- The entries of some tags are new; the others lie as they lay. -/
theorem Rel.change {c c' : Cx} {n : Nat} {sl : Nat → SV} {hp hp' : Nat → Option Ent} {a : Act} (h : Rel c n sl hp a) (T : Nat → Prop) (k : Keep c c') (hb : Base c')
    (h1 : ∀ t, ¬ T t → hp' t = hp t ∧ c'.G t = c.G t ∧ ∀ g, c'.K t g → c.K t g) (h2 : ∀ t, ¬ T t → ∀ b ∈ (c.G t).top, c'.w.heap[b]? = c.w.heap[b]?)
    (h3 : ∀ t, T t → (∀ e, Res c.ρ (hp' t) e → EntR c' t e) ∧ ((∀ e, ¬ Res c.ρ (hp' t) e) → (c'.G t).top = [] ∧ (c'.G t).O = []))
    (h4 : GW c') (h5 : ∀ t g, c'.K t g → c'.U t) (h6 : ∀ t e, hp' t = some e → c'.U t) : Rel c' n sl hp' a := by
  refine ⟨h.defers, h.size, hb, fun i => (h.slots i).keep k, fun t e hr => ?_, fun t hn => ?_, h4, h5, h6⟩
  · rw [k.ρ] at hr
    by_cases ht : T t
    · exact (h3 t ht).1 e hr
    · obtain ⟨e1, e2, e3⟩ := h1 t ht
      rw [e1] at hr
      exact (h.ents t e hr).keep k e2 e3 (h2 t ht)
  · rw [k.ρ] at hn
    by_cases ht : T t
    · exact (h3 t ht).2 hn
    · obtain ⟨e1, e2, e3⟩ := h1 t ht
      rw [e1] at hn
      rw [e2]; exact h.off t hn
theorem Res_mkGdE {ρ : List AV} {gs : Gd} {e e' : Ent} (k : gdOK ρ gs) (hn : ∀ hs f, e ≠ .gd hs f) : Res ρ (some (mkGdE gs e)) e' ↔ e' = e := by
  cases gs with
  | nil =>
    cases e <;> first | (simp [mkGdE, Res, eq_comm]; done) | exact absurd rfl (hn _ _)
  | cons g gs => simp [mkGdE, Res, k, eq_comm]
theorem SR.mkGd {c : Cx} {s : SV} {v : Value} (h : SR c [s] [v]) (gs : Gd) (k : gdOK c.ρ gs := by exact fun _ hh => absurd hh List.not_mem_nil) : SR c [mkGd gs s] [v] := by
  cases gs with
  | nil => exact h
  | cons g gs => exact .gd (fun _ => h) (fun hn => absurd k hn) .nil

/-- The surroundings behind a new block at tag t: a box, or a row of the call's own. -/
def Cx.new (c : Cx) (t : Nat) (o : Obj) (hv : Value) (O : List Nat) : Cx :=
  { c with w := c.w.alloc o, G := fun u => if u = t then ⟨[c.w.heap.size], O⟩ else c.G u, K := fun u g => c.K u g ∨ (u = t ∧ g = 0), H := fun u g => if u = t then hv else c.H u g, U := fun u => c.U u ∨ u = t }
theorem Cx.new_M {c : Cx} {t : Nat} {o : Obj} {hv : Value} {O : List Nat} {b : Nat} (h : (c.new t o hv O).M b) : c.M b ∨ b = c.w.heap.size := by
  obtain ⟨u, hu⟩ := h
  simp only [Cx.new] at hu
  split at hu
  · simp at hu; exact .inr hu
  · exact .inl ⟨u, hu⟩
theorem Cx.new_keep {c : Cx} {t : Nat} {o : Obj} {hv : Value} {O : List Nat} (hk : ∀ g, ¬ c.K t g) : Keep c (c.new t o hv O) := by
  refine ⟨rfl, fun b hb hok => ⟨fun hm => ?_, hok.2⟩, fun b hb _ => Below.heap_alloc _ _ _ hb, fun u g h => ⟨.inl h, ?_⟩⟩
  · rcases Cx.new_M hm with h | h
    · exact hok.1 h
    · omega
  · simp only [Cx.new]
    rw [if_neg]; rintro rfl; exact hk g h
theorem Base.new {c : Cx} (h : Base c) (t : Nat) (ht : ¬ c.U t) (o : Obj) (hv : Value) (O : List Nat) : Base (c.new t o hv O) :=
  ⟨h.os, h.tape, h.output, Nat.le_trans h.size (by simp [Cx.new]), fun u v hp => ⟨.inl (h.pins u v hp).1, fun hk => by
    have hu : u ≠ t := fun hh => ht (hh ▸ (h.pins u v hp).1)
    simp only [Cx.new, if_neg hu]
    exact (h.pins u v hp).2 (hk.resolve_right fun hh => hu hh.1)⟩, fun b hb hm => (Below.heap_alloc _ _ _ (Nat.lt_of_lt_of_le hb h.size)).trans (h.block b hb hm)⟩
/-- A new block under a new tag. O: blocks that its elements take over from other places: none here. -/
theorem Rel.new {c : Cx} {n : Nat} {sl : Nat → SV} {hp : Nat → Option Ent} {a : Act} (h : Rel c n sl hp a) {t : Nat} (ht : ¬ c.U t) (o : Obj) (hv : Value) (e : Ent) (gs : Gd) (k : gdOK c.ρ gs) (hne : ∀ hs f, e ≠ .gd hs f)
    (he : EntR (c.new t o hv []) t e) : Rel (c.new t o hv []) n sl (updH hp [(t, mkGdE gs e)]) a := by
  have hk : ∀ g, ¬ c.K t g := fun g hg => ht (h.usedK t g hg)
  have hno : hp t = none := by
    cases hh : hp t with
    | none => rfl
    | some e => exact absurd (h.usedH t e hh) ht
  have hemp := h.off t (by rw [hno]; simp [Res])
  have hup : ∀ u, updH hp [(t, mkGdE gs e)] u = if u = t then some (mkGdE gs e) else hp u := fun u => rfl
  refine h.change (fun u => u = t) (Cx.new_keep hk) (h.base.new t ht ..) (fun u hu => ⟨by rw [hup, if_neg hu], by simp [Cx.new, hu], fun g hg => hg.resolve_right (fun hh => hu hh.1)⟩)
    (fun u hu b hb => Below.heap_alloc _ _ _ (h.gw.inb u b (by simp [GI.own, hb]))) (fun u hu => ?_) ?_ (fun u g hg => hg.imp (h.usedK u g) (·.1)) (fun u e' hh => ?_)
  · subst hu
    rw [hup, if_pos rfl]
    exact ⟨fun e' hr => by rw [(Res_mkGdE k hne).1 hr]; exact he, fun hn => absurd ((Res_mkGdE k hne).2 rfl) (hn e)⟩
  · have hG : ∀ u, ((c.new t o hv []).G u) = if u = t then ⟨[c.w.heap.size], []⟩ else c.G u := fun u => rfl
    refine ⟨fun u => ?_, fun u u' huu b hb => ?_, fun u b hb => ?_, fun u b hb => ?_⟩
    · rw [hG]; split
      · simp [GI.own]
      · exact h.gw.nodup u
    · rw [hG] at hb ⊢
      split at hb
      · rename_i hu
        simp [GI.own] at hb
        rw [if_neg (fun hh => huu (hu.trans hh.symm))]
        intro hb'
        have := h.gw.inb u' b hb'
        omega
      · split
        · simp only [GI.own, List.append_nil, List.mem_singleton]
          intro hh
          have := h.gw.inb u b hb
          omega
        · exact h.gw.disj u u' huu b hb
    · rw [hG] at hb
      split at hb
      · simp [GI.own] at hb
        exact .inl (by rw [hb]; exact h.base.size)
      · exact h.gw.allow u b hb
    · rw [hG] at hb
      simp only [Cx.new, World.size_alloc]
      split at hb
      · simp [GI.own] at hb; omega
      · have := h.gw.inb u b hb; omega
  · rw [hup] at hh
    split at hh
    · rename_i hu; exact .inr hu
    · exact .inl (h.usedH u e' hh)
end Go.Proofs.Ytjneaalpiangdaa
end

/- Part VJ. Each operation does what its effect says: operations that leave memory alone. Program independent. -/
section
namespace Go.Proofs.Ytjneaalpiangdaa
open Go.RowKit

def AV.scalar : AV → Bool
  | .int .. => true
  | .bool _ => true
  | .str _ => true
  | _ => false
def Cn.den (ρ : List AV) : Cn → Prop
  | .dfd x => x.den ρ ≠ .undef
  | .agg x n => ∃ cs, x.den ρ = .agg cs ∧ cs.length = n
  | .cells x _ => (∀ cs, x.den ρ ≠ .agg cs) ∧ ∀ cs, x.den ρ ≠ .tup cs
  | .inb i x sz => ∃ kk k m, i.den ρ = .int kk k ∧ 0 ≤ k ∧ (x.den ρ).len = .int .i64 m ∧ k < m ∧ ((x.den ρ).nth k.toNat).cells.length = sz
  | .inbS i x => ∃ kk k s, i.den ρ = .int kk k ∧ x.den ρ = .str s ∧ 0 ≤ k ∧ k < s.length
  | .winS x lo hi => ∃ ka a kb b s, lo.den ρ = .int ka a ∧ hi.den ρ = .int kb b ∧ x.den ρ = .str s ∧ 0 ≤ a ∧ a ≤ b ∧ b ≤ s.length
  | .win x lo hi => ∃ ka a kb b m, lo.den ρ = .int ka a ∧ hi.den ρ = .int kb b ∧ (x.den ρ).len = .int .i64 m ∧ 0 ≤ a ∧ a ≤ b ∧ b ≤ m
  | .room x y bytes => ∃ m k, (x.den ρ).len = .int .i64 m ∧ (y.den ρ).len = .int .i64 k ∧ (m + k) * bytes ≤ 140737488355328 ∧ m + k ≤ 140737488355328
  | .roomS x y => ∃ a b, x.den ρ = .str a ∧ y.den ρ = .str b ∧ a.length + b.length ≤ 9223372036854775807
  | .mkroom n bytes => ∃ kk k, n.den ρ = .int kk k ∧ 0 ≤ k ∧ k * bytes ≤ 140737488355328 ∧ k ≤ 140737488355328
  | .nz x => ∃ k n, x.den ρ = .int k n ∧ n ≠ 0
  | .nn x => ∃ k n, x.den ρ = .int k n ∧ 0 ≤ n
  | .isref x n => ∃ y, x.den ρ = .ref y ∧ n ≤ y.cells.length
  | .issl x sz => ∃ xs, x.den ρ = .sl xs ∧ ∀ y ∈ xs, y.cells.length = sz
  | .flat x n g => (x.den ρ).cells.length = n ∧ (∀ y ∈ (x.den ρ).cells, y.scalar = true) ∧ (g = true → ∃ cs, x.den ρ = .agg cs) ∧ (g = false → (x.den ρ).scalar = true)
  | .flatS x sz => ∃ xs, x.den ρ = .sl xs ∧ ∀ y ∈ xs, y.cells.length = sz ∧ ∀ z ∈ y.cells, z.scalar = true
  | .kinds x ks => ∃ cs, x.den ρ = .agg cs ∧ cs.map AV.sk = ks.map some
theorem hc1 {ρ : List AV} {q : Cn} {l : List Cn} (h : ∀ r ∈ q :: l, r.den ρ) : q.den ρ := h q (by simp)
/-- What an operation needs of the state before it. -/
structure Pre (P : Program) (c : Cx) (n nx : Nat) (sl : Nat → SV) (hp : Nat → Option Ent) (a : Act) (sl0 : Nat → SV) (hp0 : Nat → Option Ent) (o : Oper) (gs : Gd) : Prop where
  rel : Rel c n sl hp a
  gs : gdOK c.ρ gs
  sl : ∀ t, Operand.tmp t ∈ o.op.operands → sl0 t = sl t
  hp : ∀ t e, hp0 t = some e → hp t = some e
  new : ∀ t, nx ≤ t → t < nx + idsPerOp → ¬ c.U t
/-- Behind an operation. -/
structure Same (c c' : Cx) (nx : Nat) : Prop where
  ρ : c'.ρ = c.ρ
  A : c'.A = c.A
  w0 : c'.w0 = c.w0
  Mu : c'.Mu = c.Mu
  U : ∀ t, c'.U t → c.U t ∨ (nx ≤ t ∧ t < nx + idsPerOp)
theorem Same.refl (c : Cx) (nx : Nat) : Same c c nx := ⟨rfl, rfl, rfl, rfl, fun _ h => .inl h⟩
def Does (P : Program) (o : Oper) (c : Cx) (n nx : Nat) (sl : Nat → SV) (hp : Nat → Option Ent) (gs : Gd) (a : Act) (e : Eff) : Prop :=
  ∀ (next : Act → World → Prop) (Q : Exit → Act → World → Prop), (∀ a' c', Same c c' nx → Rel c' n (updS n sl o.dst (mkGd gs e.val)) (updH hp e.ent) a' → next a' c'.w) → o.wp P a c.w next Q
section
variable {P : Program} {c : Cx} {n nx : Nat} {sl sl0 : Nat → SV} {hp hp0 : Nat → Option Ent} {a : Act} {o : Oper} {gs : Gd}
theorem Pre.eh (h : Pre P c n nx sl hp a sl0 hp0 o gs) : EH c hp0 := fun t e hr => h.rel.ents t e (by
  cases ho : hp0 t with
  | none => rw [ho] at hr; exact hr.elim
  | some e' => rw [h.hp t e' ho]; rwa [ho] at hr)
theorem Pre.opd (h : Pre P c n nx sl hp a sl0 hp0 o gs) {x : Operand} {s : SV} (hx : operandSV sl0 gs x = some s) (hm : x ∈ o.op.operands) : SR c [s] [a.eval x] :=
  operandSV_SR hx (fun t ht => by subst ht; rw [h.sl t hm]; exact h.rel.slots t) h.gs
/-- An operation that computes a value and leaves the world alone. -/
theorem Does.pure (h : Pre P c n nx sl hp a sl0 hp0 o gs) {e : Eff} {v : Value} (hr : (execOp a.eval o).run P c.w = .ok (.value v) c.w) (hv : SR c [e.val] [v]) (he : e.ent = []) : Does P o c n nx sl hp gs a e := by
  intro next Q hk
  unfold Oper.wp
  rw [hr, Oper.upon_value]
  exact hk _ c (Same.refl _ _) (by rw [he]; exact h.rel.put (hv.mkGd gs h.gs) o.dst)
theorem Does.skip (h : Pre P c n nx sl hp a sl0 hp0 o gs) {e : Eff} (hr : (execOp a.eval o).run P c.w = .ok .skip c.w) (hv : e.val = .undef) (he : e.ent = []) : Does P o c n nx sl hp gs a e := by
  intro next Q hk
  unfold Oper.wp
  rw [hr, Oper.upon_skip]
  exact hk _ c (Same.refl _ _) (by rw [he, hv]; exact h.rel.put ((SR.undef .nil).mkGd gs h.gs) o.dst)
theorem agg_of {v : Value} {x : AV} {cs : List AV} {w : World} {f : List Nat} (h : Rd w [v] [x] f) (hx : x = .agg cs) : ∃ as, v = .agg as.toArray ∧ (∀ u ∈ as, u.oneCell' = true) ∧ Rd w as cs f := by
  subst hx
  rcases h.kind with h | h | h | h | h | h | h | h | h | h
  · obtain ⟨_, _, _, h, _⟩ := h; cases h
  · obtain ⟨_, _, h, _⟩ := h; cases h
  · obtain ⟨_, _, h, _⟩ := h; cases h
  · obtain ⟨_, _, _, h, _⟩ := h; cases h
  · obtain ⟨_, _, _, _, _, _, _, _, _, _, _, _, h, _⟩ := h; cases h
  · obtain ⟨as, cs', h1, h2, h3⟩ := h; cases h2; exact ⟨as, h1, h3⟩
  · obtain ⟨_, _, _, h, _⟩ := h; cases h
  · obtain ⟨_, _, _, _, _, _, _, h, _⟩ := h; cases h
  · obtain ⟨_, _, _, _, h, _⟩ := h; cases h
  · obtain ⟨_, h, _⟩ := h; cases h
theorem int_of {v : Value} {x : AV} {k : IntKind} {m : Int} {w : World} {f : List Nat} (h : Rd w [v] [x] f) (hx : x = .int k m) : v = .int k m ∧ InK k m := by
  subst hx; cases h; exact ⟨rfl, by assumption⟩
theorem bool_of {v : Value} {x : AV} {b : Bool} {w : World} {f : List Nat} (h : Rd w [v] [x] f) (hx : x = .bool b) : v = .bool b := by
  subst hx; cases h; rfl
theorem str_of {v : Value} {x : AV} {l : List UInt8} {w : World} {f : List Nat} (h : Rd w [v] [x] f) (hx : x = .str l) : ∃ s : ByteArray, v = .string s ∧ l = s.data.toList ∧ s.size ≤ 9223372036854775807 := by
  generalize hy : AV.str l = y at hx
  subst hx; cases h <;> cases hy
  exact ⟨_, rfl, rfl, by assumption⟩
theorem ref_of {v : Value} {x : AV} {y : AV} {w : World} {f : List Nat} (h : Rd w [v] [x] f) (hx : x = .ref y) : ∃ b, v = .pointer (some ⟨b, 0, none⟩) := by
  subst hx; cases h; exact ⟨_, rfl⟩
theorem tup_of {v : Value} {x : AV} {cs : List AV} {w : World} {f : List Nat} (h : Rd w [v] [x] f) (hx : x = .tup cs) : ∃ as, v = .tuple as.toArray ∧ Rd w as cs f := by
  subst hx
  cases h with
  | tup h1 h2 => cases h2; exact ⟨_, rfl, by simpa using h1⟩

theorem does_move (h : Pre P c n nx sl hp a sl0 hp0 o gs) {x : Operand} (ho : o.op = .move x ∨ o.op = .assign x) {s : SV} (hx : operandSV sl0 gs x = some s) : Does P o c n nx sl hp gs a { val := s } := by
  refine Does.pure h (v := a.eval x) ?_ (h.opd hx (by rcases ho with ho | ho <;> simp [ho, Op.operands])) rfl
  rcases ho with ho | ho <;> simp [execOp, ho]
theorem does_nilCheck (h : Pre P c n nx sl hp a sl0 hp0 o gs) {x : Operand} (ho : o.op = .nilCheck x) {e : Eff} {sg : Nat → Option Sig} {nv : Nat} (he : opEff P sg sl0 hp0 nv nx gs o = some e) (hc : ∀ q ∈ e.chk, Cn.den c.ρ q) : Does P o c n nx sl hp gs a e := by
  have hm : x ∈ o.op.operands := by simp [ho, Op.operands]
  simp only [opEff, ho, Option.bind_eq_some_iff] at he
  obtain ⟨s, hs, he⟩ := he
  have hr := h.opd hs hm
  have key : ∀ (v : Value), a.eval x = v → (∃ b : Addr, v = .pointer (some b)) → (execOp a.eval o).run P c.w = .ok (.value v) c.w := by
    rintro v hv ⟨b, rfl⟩
    simp only [execOp, ho, hv]; rfl
  split at he
  · simp at he; subst he
    obtain ⟨y, hy, _⟩ := hc1 hc
    generalize ha : a.eval x = v at hr
    cases hr with
    | e h1 h2 _ =>
      obtain ⟨b, rfl⟩ := ref_of h1 hy
      exact Does.pure h (key _ ha ⟨_, rfl⟩) (.pptr h1 h2 .nil) rfl
  · simp at he; subst he
    generalize ha : a.eval x = v at hr
    cases hr with
    | bptr h1 h2 _ => exact Does.pure h (key _ ha ⟨_, rfl⟩) (.bptr h1 h2 .nil) rfl
  · simp at he; subst he
    generalize ha : a.eval x = v at hr
    cases hr with
    | rptr h1 h2 h3 h4 h5 _ => exact Does.pure h (key _ ha ⟨_, rfl⟩) (.rptr h1 h2 h3 h4 h5 .nil) rfl
  · simp at he; subst he
    generalize ha : a.eval x = v at hr
    cases hr with
    | eptr h1 h2 h3 h4 h5 h6 _ => exact Does.pure h (key _ ha ⟨_, rfl⟩) (.eptr h1 h2 h3 h4 h5 h6 .nil) rfl
  · simp at he; subst he
    generalize ha : a.eval x = v at hr
    cases hr with
    | pptr h1 h2 _ => exact Does.pure h (key _ ha ⟨_, rfl⟩) (.pptr h1 h2 .nil) rfl
  · cases he

theorem run_sizeOf {t : TypeId} (h : P.cellsOf t ≠ 0) (w : World) : (sizeOf t).run P w = .ok (P.cellsOf t) w := by
  unfold Program.cellsOf at h ⊢
  cases hi : P.info? t with
  | none => simp [hi] at h
  | some i => simp [sizeOf, typeInfo, hi]
theorem run_sizeOf' {t : TypeId} (h : tyOK P t = true) (w : World) : (sizeOf t).run P w = .ok (P.cellsOf t) w := by
  unfold tyOK at h
  unfold Program.cellsOf
  cases hi : P.info? t with
  | none => simp [hi] at h
  | some i => simp [sizeOf, typeInfo, hi]
theorem run_isAgg {t : TypeId} (h : tyOK P t = true) (w : World) : (isAgg t).run P w = .ok (aggT P t) w := by
  unfold tyOK at h
  cases hu : P.underlying t with
  | none => simp [hu] at h
  | some d =>
    simp only [isAgg, aggT, hu]
    cases d <;> simp [run_underlying hu]
theorem run_load1 {w : World} {p : Addr} {v : Value} (h : w.cell? p = some v) : (load p).run P w = .ok v w := by
  simp only [load, Sem.run, h]
theorem run_loadCellsFrom {w : World} {b : Nat} : ∀ (vs : List Value) (off i : Nat) (acc : Array Value), (∀ j u, vs[j]? = some u → w.cell? ⟨b, off + i + j, none⟩ = some u) →
    (loadCellsFrom ⟨b, off, none⟩ i vs.length acc).run P w = .ok (acc ++ vs.toArray) w
  | [], off, i, acc, h => by simp [loadCellsFrom]
  | v :: vs, off, i, acc, h => by
    have h0 := h 0 v rfl
    have ih := run_loadCellsFrom (w := w) (b := b) vs off (i + 1) (acc.push v) (fun j u hu => by
      have := h (j + 1) u (by simpa using hu)
      rw [show off + (i + 1) + j = off + i + (j + 1) from by omega]; exact this)
    simp only [Nat.add_zero] at h0
    simp only [List.length_cons, loadCellsFrom, Addr.add_lit]
    simp [run_load1 h0, ih]
theorem run_loadVar {w : World} {t : TypeId} {b off : Nat} (h : tyOK P t = true) (vs : List Value) (hl : aggT P t = true → vs.length = P.cellsOf t) (hl' : aggT P t = false → vs.length = 1)
    (hc : ∀ j u, vs[j]? = some u → w.cell? ⟨b, off + j, none⟩ = some u) : (Instr.loadAt t (.pointer (some ⟨b, off, none⟩))).run P w = .ok (if aggT P t then .agg vs.toArray else vs.headD undef) w := by
  simp only [Instr.loadAt, Instr.sureAddr, loadVar]
  cases ha : aggT P t with
  | true =>
    have := run_loadCellsFrom (P := P) (w := w) (b := b) vs off 0 #[] (by simpa using hc)
    rw [hl ha] at this
    simp [run_isAgg h, ha, run_sizeOf' h, loadCells, this]
  | false =>
    obtain ⟨v, rfl⟩ := List.length_eq_one_iff.1 (hl' ha)
    have := hc 0 v rfl
    simp only [Nat.add_zero] at this
    simp [run_isAgg h, ha, run_load1 this, this]
theorem SR.ptrOff {s s' : SV} {v : Value} {k : Nat} (h : SR c [s] [v]) (hp : Go.Proofs.Ytjneaalpiangdaa.ptrOff s k = some s') : ∃ b off, v = .pointer (some ⟨b, off, none⟩) ∧ SR c [s'] [.pointer (some ⟨b, off + k, none⟩)] := by
  cases h with
  | bptr h1 h2 _ => simp [Go.Proofs.Ytjneaalpiangdaa.ptrOff] at hp; subst hp; exact ⟨_, _, rfl, .bptr h1 h2 .nil⟩
  | rptr h1 h2 h3 h4 h5 _ =>
    simp [Go.Proofs.Ytjneaalpiangdaa.ptrOff] at hp; subst hp
    have := SR.rptr (c := c) (sz := ‹_›) (o := ‹_›) h1 h2 h3 h4 h5 .nil
    refine ⟨_, _, rfl, ?_⟩
    rw [Nat.add_assoc]; exact .rptr h1 h2 h3 h4 h5 .nil
  | eptr h1 h2 h3 h4 h5 h6 _ => simp [Go.Proofs.Ytjneaalpiangdaa.ptrOff] at hp; subst hp; exact ⟨_, _, rfl, by rw [Nat.add_assoc]; exact .eptr h1 h2 h3 h4 h5 h6 .nil⟩
  | pptr h1 h2 _ => simp [Go.Proofs.Ytjneaalpiangdaa.ptrOff] at hp; subst hp; exact ⟨_, _, rfl, .pptr h1 h2 .nil⟩
  | _ => simp [Go.Proofs.Ytjneaalpiangdaa.ptrOff] at hp
theorem SR.asPtr {s : SV} {v : Value} (h : SR c [s] [v]) (hc : ∀ q ∈ (Go.Proofs.Ytjneaalpiangdaa.asPtr s).2, q.den c.ρ) : SR c [(Go.Proofs.Ytjneaalpiangdaa.asPtr s).1] [v] := by
  cases s with
  | e x =>
    cases h with
    | e h1 h2 _ =>
      obtain ⟨y, hy, _⟩ := hc1 hc
      obtain ⟨b, rfl⟩ := ref_of h1 hy
      exact .pptr h1 h2 .nil
  | _ => exact h
theorem does_fieldAddr (h : Pre P c n nx sl hp a sl0 hp0 o gs) {t : TypeId} {x : Operand} {f : Nat} (ho : o.op = .fieldAddr t x f) {e : Eff} {sg : Nat → Option Sig} {nv : Nat} (he : opEff P sg sl0 hp0 nv nx gs o = some e) (hc : ∀ q ∈ e.chk, Cn.den c.ρ q) : Does P o c n nx sl hp gs a e := by
  have hm : x ∈ o.op.operands := by simp [ho, Op.operands]
  simp only [opEff, ho, Option.bind_eq_some_iff] at he
  obtain ⟨s, hs, he⟩ := he
  have hr := h.opd hs hm
  split at he
  · rename_i fs hu
    split at he
    · rename_i fd hf
      split at he
      · cases he
      · rename_i hz
        obtain ⟨s', hs', rfl⟩ := Option.map_eq_some_iff.1 he
        obtain ⟨b, off, hv, hr'⟩ := (hr.asPtr hc).ptrOff hs'
        refine Does.pure h ?_ hr' rfl
        simp [execOp, ho, Instr.fieldAt, run_underlying hu, hf, hv, Instr.sureAddr, fieldPlace, run_sizeOf hz, hz, Addr.add_lit]
    · cases he
  · cases he

theorem flatC_get {sz : Nat} : ∀ (ys : List AV), (∀ y ∈ ys, y.cells.length = sz) → ∀ k y, ys[k]? = some y → ∀ o m, o + m ≤ sz → ((flatC ys).drop (k * sz + o)).take m = (y.cells.drop o).take m
  | [], _, k, y, h, _, _, _ => by simp at h
  | z :: ys, hs, 0, y, h, o, m, hm => by
    simp at h; subst h
    have hz := hs z (by simp)
    simp only [flatC, List.flatMap_cons, Nat.zero_mul, Nat.zero_add]
    rw [List.drop_append_of_le_length (by omega), List.take_append_of_le_length (by simp; omega)]
  | z :: ys, hs, k + 1, y, h, o, m, hm => by
    have hz := hs z (by simp)
    have ih := flatC_get ys (fun q hq => hs q (by simp [hq])) k y (by simpa using h) o m hm
    rw [← ih]
    simp only [flatC, List.flatMap_cons]
    rw [show (k + 1) * sz + o = z.cells.length + (k * sz + o) from by rw [hz, Nat.add_mul]; omega, List.drop_append, List.drop_eq_nil_of_le (by omega)]
    simp
theorem flatC_len {sz : Nat} : ∀ (ys : List AV), (∀ y ∈ ys, y.cells.length = sz) → (flatC ys).length = ys.length * sz
  | [], _ => by simp [flatC]
  | z :: ys, hs => by
    have := flatC_len ys (fun q hq => hs q (by simp [hq]))
    simp only [flatC, List.flatMap_cons, List.length_append, List.length_cons] at this ⊢
    rw [this, hs z (by simp), Nat.add_mul]; omega
theorem nth_of {xs : List AV} {k : Nat} (h : k < xs.length) : xs[k]? = some ((AV.sl xs).nth k) := by simp [AV.nth, h]
/-- A piece of an element, as a value. -/
theorem Rd.fldOf {w : World} {vs : List Value} {x : AV} {f : List Nat} (h : Rd w vs x.cells f) (h9 : ∀ u ∈ vs, u.oneCell' = true) (o m : Nat) (g : Bool) (hm : o + m ≤ x.cells.length) (h1 : g = false → m = 1) :
    ∃ q, (∀ b ∈ q, b ∈ f) ∧ Rd w [if g then .agg ((vs.drop o).take m).toArray else ((vs.drop o).take m).headD undef] [x.fld o m g] q := by
  obtain ⟨q, hq, hr⟩ := h.piece o m
  cases g with
  | true => exact ⟨q, hq, by have := Rd.agg (fun u hu => h9 u (List.mem_of_mem_drop (List.mem_of_mem_take hu))) hr .nil; simpa [AV.fld] using this⟩
  | false =>
    have := h1 rfl
    subst this
    have hl := h.len
    have e1 : (vs.drop o).take 1 = [vs[o]'(by omega)] := by rw [List.drop_eq_getElem_cons (by omega), List.take_succ_cons, List.take_zero]
    have e2 : (x.cells.drop o).take 1 = [x.cells[o]'(by omega)] := by rw [List.drop_eq_getElem_cons (by omega), List.take_succ_cons, List.take_zero]
    rw [e1, e2] at hr
    refine ⟨q, hq, ?_⟩
    simpa [e1, AV.fld, show o < x.cells.length by omega] using hr
/-- Loading a piece of an element of a slice. -/
theorem load_elem {w : World} {b off len cap : Nat} {xs : AV} {f : List Nat} {t : TypeId} {k sz fo : Nat} (hr : Rd w [.slice (some ⟨b, off, none⟩) len cap] [xs] f) (hk : k < len) (hsz : (xs.nth k).cells.length = sz) (ht : tyOK P t = true) (hfo : fo + P.cellsOf t ≤ sz) (hg : aggT P t = true ∨ P.cellsOf t = 1) :
    ∃ v q, (Instr.loadAt t (.pointer (some ⟨b, off + k * sz + fo, none⟩))).run P w = .ok v w ∧ (∀ c ∈ q, c ∈ f.tail) ∧ Rd w [v] [(xs.nth k).fld fo (P.cellsOf t) (aggT P t)] q := by
  cases hr with
  | snil => omega
  | scons hb h1 h2 h3 h4 h5 h6 h6' h7 h8 =>
    rename_i ys cs C ty fz sz' f1 f2
    have hy := nth_of (xs := ys) (k := k) (by omega)
    have hs' : sz' = sz := by rw [← hsz]; exact (h4 _ (List.mem_of_getElem? hy)).symm
    subst hs'
    have hfl := flatC_len ys h4
    have hkk : (k + 1) * sz' ≤ ys.length * sz' := Nat.mul_le_mul_right _ (by omega)
    rw [Nat.add_mul] at hkk
    have hp := flatC_get ys h4 k _ hy 0 sz' (by omega)
    obtain ⟨q0, hq0, hr0⟩ := h7.piece (k * sz' + 0) sz'
    rw [hp] at hr0
    have hcl : (((AV.sl ys).nth k).cells.drop 0).take sz' = ((AV.sl ys).nth k).cells := by rw [List.drop_zero, List.take_of_length_le (by omega)]
    rw [hcl] at hr0
    have hlen := h7.len
    obtain ⟨q, hq, hv⟩ := hr0.fldOf (fun u hu => h6' u (List.mem_of_mem_drop (List.mem_of_mem_take hu))) fo (P.cellsOf t) (aggT P t) (by omega) (fun h => by rcases hg with h' | h'; rw [h] at h'; cases h'; exact h')
    have hcs : (((cs.drop (k * sz' + 0)).take sz').drop fo).take (P.cellsOf t) = (cs.drop (k * sz' + fo)).take (P.cellsOf t) := by
      rw [List.drop_take, List.take_take, List.drop_drop, Nat.add_zero, Nat.min_eq_left (by omega)]
    rw [hcs] at hv
    have hlc : ((cs.drop (k * sz' + fo)).take (P.cellsOf t)).length = P.cellsOf t := by
      rw [List.length_take, List.length_drop]; omega
    refine ⟨_, q, run_loadVar ht ((cs.drop (k * sz' + fo)).take (P.cellsOf t)) (fun _ => hlc) (fun h => ?_) (fun j u hu => ?_), fun z hz => ?_, hv⟩
    · rw [hlc]; rcases hg with h' | h'; rw [h] at h'; cases h'; exact h'
    · rw [cell_of_block hb]
      rw [List.getElem?_take] at hu
      split at hu
      · rw [List.getElem?_drop] at hu
        have := h6 _ _ hu
        rw [← this]; congr 1; omega
      · cases hu
    · have := hq0 z (hq z hz)
      simp [this]
end
end Go.Proofs.Ytjneaalpiangdaa
end

/- Part VY. What a tree says, and that code does it. Program independent. -/
section
namespace Go.Proofs.Ytjneaalpiangdaa
open Go.RowKit

abbrev JK := List AV → Prop
abbrev LK := List JK → Xt → St → List AV → Prop
def loopK (body : JK → List AV → Prop) : Nat → List AV → Prop
  | 0, _ => False
  | n + 1, vs => body (loopK body n) vs
section
variable (Rt : Nat → List AV → AV → Prop) (R : AV → Prop)
/-- A call of f, or of the function value f. -/
def callOK (f : Nat ⊕ E) (args : List AV) (ρ : List AV) (r : AV) : Prop :=
  match f with
  | .inl f => Rt f args r
  | .inr x => ∃ g caps, x.den ρ = .fn g caps ∧ Rt (1000000 + g) (args ++ caps) r ∧ ∀ y ∈ r.cells, y.scalar = true
def Tr.den : Tr → LK → List JK → List AV → Prop
  | .leaf x σ, L, js, ρ => L js x σ ρ
  | .ret r, _, _, ρ => R (r.den ρ)
  | .jmp d es, _, js, ρ => match js[d]? with | some j => j (es.den ρ) | none => False
  | .ite c a b, L, js, ρ => ∃ t, c.den ρ = .bool t ∧ (t = true → a.den L js ρ) ∧ (t = false → b.den L js ρ)
  | .chk gs c k, L, js, ρ => (gdOK ρ gs → c.den ρ) ∧ k.den L js ρ
  | .call gs f args k, L, js, ρ => ∃ r, (gdOK ρ gs → callOK Rt f (args.den ρ) ρ r) ∧ k.den L js (ρ ++ [r])
  | .nilq gs x k, L, js, ρ => ∀ b, (gdOK ρ gs → b = true → x.den ρ = .sl []) → k.den L js (ρ ++ [.bool b])
  | .stuck, _, _, _ => False
  | .join t k, L, js, ρ => t.den L ((fun vs => k.den L js (ρ ++ vs)) :: js) ρ
  | .loop i b k, L, js, ρ => ∃ n, loopK (fun W vs => b.den L (W :: (fun us => k.den L js (ρ ++ us)) :: js) (ρ ++ vs)) n (i.den ρ)
end
def Tr.Leaf : Tr → Xt → St → Prop
  | .leaf x σ, y, τ => x = y ∧ σ = τ
  | .ret _, _, _ => False
  | .jmp .., _, _ => False
  | .stuck, _, _ => False
  | .ite _ a b, y, τ => a.Leaf y τ ∨ b.Leaf y τ
  | .chk _ _ k, y, τ => k.Leaf y τ
  | .call _ _ _ k, y, τ => k.Leaf y τ
  | .nilq _ _ k, y, τ => k.Leaf y τ
  | .join t k, y, τ => t.Leaf y τ ∨ k.Leaf y τ
  | .loop _ b k, y, τ => b.Leaf y τ ∨ k.Leaf y τ
theorem Tr.Leaf.norm {t : Tr} {τ : St} (h : t.Leaf .normal τ) : τ ∈ t.norms := by
  induction t with
  | leaf x σ => obtain ⟨rfl, rfl⟩ := h; simp [Tr.norms]
  | ret | jmp | stuck => exact h.elim
  | ite c a b iha ihb => simp only [Tr.norms, List.mem_append]; exact h.imp iha ihb
  | chk _ _ k ih | call _ _ _ k ih | nilq _ _ k ih => exact ih h
  | join t k iht ihk => simp only [Tr.norms, List.mem_append]; exact h.imp iht ihk
  | loop _ b k ihb ihk => simp only [Tr.norms, List.mem_append]; exact h.imp ihb ihk
theorem Tr.Leaf.noExit {t : Tr} (hn : t.firstExit = none) {j : Nat} {τ : St} (h : t.Leaf (.exit j) τ) : False := by
  induction t with
  | leaf x σ => obtain ⟨rfl, rfl⟩ := h; simp [Tr.firstExit] at hn
  | ret | jmp | stuck => exact h.elim
  | ite c a b iha ihb =>
    simp only [Tr.firstExit] at hn
    cases ha : a.firstExit with
    | some x => simp [ha] at hn
    | none => simp [ha] at hn; exact h.elim (iha ha) (ihb hn)
  | chk _ _ k ih | call _ _ _ k ih | nilq _ _ k ih => exact ih hn h
  | join a b iha ihb =>
    simp only [Tr.firstExit] at hn
    cases ha : a.firstExit with
    | some x => simp [ha] at hn
    | none => simp [ha] at hn; exact h.elim (iha ha) (ihb hn)
  | loop _ a b iha ihb =>
    simp only [Tr.firstExit] at hn
    cases ha : a.firstExit with
    | some x => simp [ha] at hn
    | none => simp [ha] at hn; exact h.elim (iha ha) (ihb hn)
/-- Labels that ask for less. -/
inductive JLe : List JK → List JK → Prop where
  | nil : JLe [] []
  | cons {j j' js js'} : (∀ vs, j vs → j' vs) → JLe js js' → JLe (j :: js) (j' :: js')
theorem JLe.refl : ∀ js, JLe js js
  | [] => .nil
  | _ :: js => .cons (fun _ h => h) (JLe.refl js)
theorem JLe.get {js js' : List JK} (h : JLe js js') : ∀ {d : Nat} {j : JK}, js[d]? = some j → ∃ j', js'[d]? = some j' ∧ ∀ vs, j vs → j' vs := by
  induction h with
  | nil => intro d j hd; simp at hd
  | cons h1 _ ih =>
    intro d j hd
    cases d with
    | zero => simp at hd; subst hd; exact ⟨_, rfl, h1⟩
    | succ d => simpa using ih (by simpa using hd)
theorem JLe.app {a b c d : List JK} (h : JLe a b) (k : JLe c d) : JLe (a ++ c) (b ++ d) := by
  induction h with
  | nil => exact k
  | cons h1 _ ih => exact .cons h1 ih
theorem JLe.len {a b : List JK} (h : JLe a b) : a.length = b.length := by induction h <;> simp_all
theorem loopK_mono {b b' : JK → List AV → Prop} (h : ∀ W W', (∀ vs, W vs → W' vs) → ∀ vs, b W vs → b' W' vs) : ∀ n vs, loopK b n vs → loopK b' n vs
  | 0, _, hh => hh.elim
  | n + 1, vs, hh => h _ _ (loopK_mono h n) vs hh
def LMono (L : LK) : Prop := ∀ js js' x τ ρ, JLe js js' → L js x τ ρ → L js' x τ ρ
section
variable {Rt : Nat → List AV → AV → Prop} {R : AV → Prop}
theorem Tr.den_mono (t : Tr) : ∀ {L L' : LK} {js js' : List JK} {ρ : List AV}, t.den Rt R L js ρ → JLe js js' →
    (∀ i i' x τ ρ', t.Leaf x τ → JLe i i' → L (i ++ js) x τ ρ' → L' (i' ++ js') x τ ρ') → t.den Rt R L' js' ρ := by
  induction t with
  | leaf x σ => intro L L' js js' ρ h hj hl; exact hl [] [] x σ ρ ⟨rfl, rfl⟩ .nil h
  | ret r => intro L L' js js' ρ h hj hl; exact h
  | stuck => intro L L' js js' ρ h hj hl; exact h
  | jmp d es =>
    intro L L' js js' ρ h hj hl
    simp only [Tr.den] at h ⊢
    cases hd : js[d]? with
    | none => rw [hd] at h; exact h.elim
    | some j =>
      rw [hd] at h
      obtain ⟨j', hd', hjj⟩ := hj.get hd
      rw [hd']; exact hjj _ h
  | ite c a b iha ihb =>
    intro L L' js js' ρ h hj hl
    obtain ⟨t, h1, h2, h3⟩ := h
    exact ⟨t, h1, fun ht => iha (h2 ht) hj fun i i' x τ ρ' hf => hl i i' x τ ρ' (.inl hf), fun ht => ihb (h3 ht) hj fun i i' x τ ρ' hf => hl i i' x τ ρ' (.inr hf)⟩
  | chk gs c k ih => intro L L' js js' ρ h hj hl; exact ⟨h.1, ih h.2 hj hl⟩
  | call gs f args k ih => intro L L' js js' ρ h hj hl; obtain ⟨r, h1, h2⟩ := h; exact ⟨r, h1, ih h2 hj hl⟩
  | nilq gs x k ih => intro L L' js js' ρ h hj hl; exact fun b hb => ih (h b hb) hj hl
  | join t k iht ihk =>
    intro L L' js js' ρ h hj hl
    refine iht (js' := (fun vs => k.den Rt R L' js' (ρ ++ vs)) :: js') h (.cons (fun vs hv => ihk hv hj fun i i' x τ ρ' hf => hl i i' x τ ρ' (.inr hf)) hj) fun i i' x τ ρ' hf hi hL => ?_
    have := hl (i ++ [_]) (i' ++ [_]) x τ ρ' (.inl hf) (hi.app (.cons (fun vs hv => ihk hv hj fun i i' x τ ρ' hf => hl i i' x τ ρ' (.inr hf)) .nil)) (by simpa using hL)
    simpa using this
  | loop i0 b k ihb ihk =>
    intro L L' js js' ρ h hj hl
    obtain ⟨n, hn⟩ := h
    refine ⟨n, loopK_mono (fun W W' hW vs hv => ?_) n _ hn⟩
    have hk : ∀ us, k.den Rt R L js (ρ ++ us) → k.den Rt R L' js' (ρ ++ us) := fun us hu => ihk hu hj fun i i' x τ ρ' hf => hl i i' x τ ρ' (.inr hf)
    refine ihb hv (.cons hW (.cons hk hj)) fun i i' x τ ρ' hf hi hL => ?_
    have := hl (i ++ [W, _]) (i' ++ [W', _]) x τ ρ' (.inl hf) (hi.app (.cons hW (.cons hk .nil))) (by simpa using hL)
    simpa using this
theorem Tr.den_js (t : Tr) {L : LK} (hL : LMono L) {js js' : List JK} {ρ : List AV} (h : t.den Rt R L js ρ) (hj : JLe js js') : t.den Rt R L js' ρ :=
  t.den_mono h hj fun _ _ x τ ρ' _ hi hl => hL _ _ x τ ρ' (hi.app hj) hl
/-- Where leaves were replaced: the tree before says the same of its leaves. -/
def subL (Rt : Nat → List AV → AV → Prop) (R : AV → Prop) (f : Nat → Xt → St → Option Tr) (L : LK) (m d : Nat) : LK := fun js x τ ρ => ∃ r d', f d' x τ = some r ∧ js.length + d = m + d' ∧ r.den Rt R L js ρ
theorem subL_mono {f : Nat → Xt → St → Option Tr} {L : LK} (hL : LMono L) (m d : Nat) : LMono (subL Rt R f L m d) := by
  rintro js js' x τ ρ hj ⟨r, d', h1, h2, h3⟩
  exact ⟨r, d', h1, by rw [← hj.len]; exact h2, r.den_js hL h3 hj⟩
theorem Tr.sub_den (f : Nat → Xt → St → Option Tr) {L : LK} (hL : LMono L) (t : Tr) : ∀ {d : Nat} {t' : Tr} {js : List JK} {ρ : List AV}, t.sub f d = some t' → t'.den Rt R L js ρ → t.den Rt R (subL Rt R f L js.length d) js ρ := by
  induction t with
  | leaf x σ => intro d t' js ρ h hd; exact ⟨t', d, h, rfl, hd⟩
  | ret r => intro d t' js ρ h hd; simp only [Tr.sub, Option.some.injEq] at h; subst h; exact hd
  | stuck => intro d t' js ρ h hd; simp only [Tr.sub, Option.some.injEq] at h; subst h; exact hd
  | jmp i es => intro d t' js ρ h hd; simp only [Tr.sub, Option.some.injEq] at h; subst h; exact hd
  | ite c a b iha ihb =>
    intro d t' js ρ h hd
    simp only [Tr.sub] at h
    split at h
    · rename_i x y hx hy
      simp at h; subst h
      obtain ⟨t, h1, h2, h3⟩ := hd
      exact ⟨t, h1, fun ht => iha hx (h2 ht), fun ht => ihb hy (h3 ht)⟩
    · cases h
  | chk g c k ih =>
    intro d t' js ρ h hd
    obtain ⟨k', hk, rfl⟩ := Option.map_eq_some_iff.1 h
    exact ⟨hd.1, ih hk hd.2⟩
  | call g h0 as k ih =>
    intro d t' js ρ h hd
    obtain ⟨k', hk, rfl⟩ := Option.map_eq_some_iff.1 h
    obtain ⟨r, h1, h2⟩ := hd
    exact ⟨r, h1, ih hk h2⟩
  | nilq g x k ih =>
    intro d t' js ρ h hd
    obtain ⟨k', hk, rfl⟩ := Option.map_eq_some_iff.1 h
    exact fun b hb => ih hk (hd b hb)
  | join t k iht ihk =>
    intro d t' js ρ h hd
    simp only [Tr.sub] at h
    split at h
    · rename_i x y hx hy
      simp at h; subst h
      have h1 := iht hx hd
      have hk : ∀ vs, y.den Rt R L js (ρ ++ vs) → k.den Rt R (subL Rt R f L js.length d) js (ρ ++ vs) := fun vs hv => ihk hy hv
      refine t.den_mono h1 (.cons hk (JLe.refl js)) fun i i' x τ ρ' _ hi hl => ?_
      obtain ⟨r, d', e1, e2, e3⟩ := hl
      refine ⟨r, d', e1, ?_, r.den_js hL e3 (hi.app (.cons hk (JLe.refl js)))⟩
      have := hi.len
      simp only [List.length_append, List.length_cons] at e2 ⊢
      omega
    · cases h
  | loop i0 b k ihb ihk =>
    intro d t' js ρ h hd
    simp only [Tr.sub] at h
    split at h
    · rename_i x y hx hy
      simp at h; subst h
      obtain ⟨n, hn⟩ := hd
      refine ⟨n, loopK_mono (fun W W' hW vs hv => ?_) n _ hn⟩
      have h1 := ihb hx hv
      have hk : ∀ vs, y.den Rt R L js (ρ ++ vs) → k.den Rt R (subL Rt R f L js.length d) js (ρ ++ vs) := fun vs hv => ihk hy hv
      refine b.den_mono h1 (.cons hW (.cons hk (JLe.refl js))) fun i i' x τ ρ' _ hi hl => ?_
      obtain ⟨r, d', e1, e2, e3⟩ := hl
      refine ⟨r, d', e1, ?_, r.den_js hL e3 (hi.app (.cons hW (.cons hk (JLe.refl js))))⟩
      have := hi.len
      simp only [List.length_append, List.length_cons] at e2 ⊢
      omega
    · cases h
end
end Go.Proofs.Ytjneaalpiangdaa
end

/- Part VZ. Code does what its tree says. Program independent. -/
section
namespace Go.Proofs.Ytjneaalpiangdaa
open Go.RowKit

structure Fix where
  w0 : World
  A : Al
  Mu : Nat → Prop
  pinOK : ∀ t v, A.pin t = some v → isPin t = true
/-- A symbolic state stands for frame and memory. -/
def RelS (F : Fix) (ρ : List AV) (σ : St) (a : Act) (w : World) : Prop :=
  ∃ c : Cx, c.ρ = ρ ∧ c.w = w ∧ c.w0 = F.w0 ∧ c.A = F.A ∧ c.Mu = F.Mu ∧ ρ.length = σ.nv ∧ (∀ t, c.U t → t < σ.nx) ∧ Rel c σ.sl.length (slotOf σ) (hpGet σ.hp) a
def Xt.ex : Xt → Exit
  | .normal => .normal
  | .exit i => .exit i
  | .ret => .ret
section
variable (P : Program) (sg : Nat → Option Sig) (Rt : Nat → List AV → AV → Prop)
def RegionOK : Prop := ∀ (id : Nat) (ops : Array Oper) (draw : Bool) (σ : St) (t : Tr), panics ops = false → σ.sc = true → (σ.hp.all fun (t, _) => decide (t < σ.nx)) = true →
  opsTr P sg ops draw σ.nx (List.range ops.size) [] σ = some t → ∀ (F : Fix) (R : AV → Prop) (L : LK) (js : List JK) (ρ : List AV) (a : Act) (w : World), LMono L → t.den Rt R L js ρ → RelS F ρ σ a w →
  ∀ Q, (∀ i x τ ρ' a' w', ρ <+: ρ' → L (i ++ js) x τ ρ' → RelS F ρ' τ a' w' → Q x.ex a' w') → (Code.region id ops draw).wp P Q a w
def InstOK : Prop := ∀ (F : Fix) (nv : Nat) (pat τ : St) (es : List E) (ρ ρ' : List AV) (a : Act) (w : World), inst nv pat τ = some es → ρ.length = nv → ρ <+: ρ' → RelS F ρ' τ a w → RelS F (ρ ++ (EL.of es).den ρ') pat a w
end
section
variable {P : Program} {sg : Nat → Option Sig} {Rt : Nat → List AV → AV → Prop} {rs : Nat}
theorem RelS.opd {F : Fix} {ρ : List AV} {σ : St} {a : Act} {w : World} (h : RelS F ρ σ a w) {x : Operand} {s : SV} (hx : operandSV (slotOf σ) [] x = some s) : ∃ c : Cx, c.ρ = ρ ∧ SR c [s] [a.eval x] := by
  obtain ⟨c, rfl, _, _, _, _, _, _, hr⟩ := h
  exact ⟨c, rfl, operandSV_SR hx (fun t _ => hr.slots t) (gdOK_nil _)⟩
theorem loopPat_spec {run : St → Option Tr} {nv live : Nat} {σ : St} : ∀ (n : Nat) (p : St × Nat) {pat : St} {t : Tr}, loopPat run nv live σ n p = some (pat, t) → run pat = some t
  | 0, p, pat, t, h => by simp [loopPat] at h
  | n + 1, p, pat, t, h => by
    simp only [loopPat] at h
    split at h
    · cases h
    · rename_i t' ht
      split at h
      · simp at h; obtain ⟨rfl, rfl⟩ := h; exact ht
      · exact loopPat_spec n _ h
theorem get_lab {i js : List JK} {j : JK} {d : Nat} (h : d = i.length) : (i ++ j :: js)[d]? = some j := by subst h; simp
theorem get_lab1 {i js : List JK} {j k : JK} {d : Nat} (h : d = i.length) : (i ++ j :: k :: js)[d + 1]? = some k := by
  subst h
  rw [List.getElem?_append_right (by omega)]
  simp
/-- What a code's tree says, it does. -/
def CodeOK (P : Program) (sg : Nat → Option Sig) (Rt : Nat → List AV → AV → Prop) (rs : Nat) (c : Code) : Prop :=
  ∀ (ex : List (Nat × Nat)) (l : Nat) (σ : St) (t : Tr), exec P sg rs c ex l σ = some t → ∀ (F : Fix) (R : AV → Prop) (L : LK) (js : List JK) (ρ : List AV) (a : Act) (w : World), LMono L → t.den Rt R L js ρ → RelS F ρ σ a w →
    ∀ Q, (∀ i x τ ρ' a' w', ρ <+: ρ' → L (i ++ js) x τ ρ' → RelS F ρ' τ a' w' → Q x.ex a' w') → c.wp P Q a w
theorem CodeOK.leaf {c : Code} (h : CodeOK P sg Rt rs c) {ex : List (Nat × Nat)} {l : Nat} {σ : St} {t : Tr} (he : exec P sg rs c ex l σ = some t) {F : Fix} {R : AV → Prop} {L : LK} {js : List JK} {ρ : List AV} {a : Act} {w : World} (hL : LMono L) (hd : t.den Rt R L js ρ) (hr : RelS F ρ σ a w)
    {Q : Exit → Act → World → Prop} (hq : ∀ i x τ ρ' a' w', ρ <+: ρ' → t.Leaf x τ → L (i ++ js) x τ ρ' → RelS F ρ' τ a' w' → Q x.ex a' w') : c.wp P Q a w :=
  h ex l σ t he F R (fun js x τ ρ => t.Leaf x τ ∧ L js x τ ρ) js ρ a w (fun _ _ _ _ _ hj hh => ⟨hh.1, hL _ _ _ _ _ hj hh.2⟩) (t.den_mono hd (JLe.refl js) fun _ _ _ _ _ hf hi hl => ⟨hf, hL _ _ _ _ _ (hi.app (JLe.refl js)) hl⟩) hr Q fun i x τ ρ' a' w' hp hh hs => hq i x τ ρ' a' w' hp hh.1 hh.2 hs
theorem exec_block {id : Nat} {b : Code} (ih : CodeOK P sg Rt rs b) : CodeOK P sg Rt rs (.block id b) := by
  intro ex l σ t he F R L js ρ a w hL hd hr Q hq
  simp only [exec, Option.bind_eq_some_iff] at he
  obtain ⟨t0, h0, hs⟩ := he
  have h1 := Tr.sub_den _ hL t0 hs hd
  refine wp_block (ih _ _ _ _ h0 F R _ js ρ a w (subL_mono hL _ _) h1 hr _ fun i x τ ρ' a' w' hp hl hrel => ?_)
  obtain ⟨r, d', e1, e2, e3⟩ := hl
  simp only [Option.some.injEq] at e1; subst e1
  have := hq i _ τ ρ' a' w' hp e3 hrel
  cases x with
  | normal => exact this
  | ret => exact this
  | exit j =>
    simp only [Xt.ex, Exit.inBlock] at this ⊢
    split
    · rename_i hj; simpa [hj, Xt.ex] using this
    · rename_i hj; simpa [hj, Xt.ex] using this
theorem exec_seq (hi : InstOK) {x y : Code} (ihx : CodeOK P sg Rt rs x) (ihy : CodeOK P sg Rt rs y) : CodeOK P sg Rt rs (.seq x y) := by
  intro ex l σ t he F R L js ρ a w hL hd hr Q hq
  simp only [exec] at he
  split at he
  · cases he
  · rename_i t0 h0
    refine wp_seq ?_
    split at he
    · rename_i hn
      simp at he; subst he
      refine ihx.leaf h0 hL hd hr fun i x τ ρ' a' w' hp hf hl hrel => ?_
      cases x with
      | normal => have := hf.norm; rw [hn] at this; simp at this
      | exit j => exact hq i _ τ ρ' a' w' hp hl hrel
      | ret => exact hq i _ τ ρ' a' w' hp hl hrel
    · rename_i τ0 hn
      split at he
      · cases he
      · rename_i k hk
        have h1 := Tr.sub_den _ hL t0 he hd
        refine ihx.leaf h0 (subL_mono hL _ _) h1 hr fun i x τ ρ' a' w' hp hf hl hrel => ?_
        obtain ⟨r, d', e1, e2, e3⟩ := hl
        simp only [Option.some.injEq] at e1; subst e1
        cases x with
        | normal =>
          have := hf.norm; rw [hn] at this; simp at this; subst this
          exact ihy _ _ _ _ hk F R L _ ρ' a' w' hL e3 hrel Q fun i' x' τ' ρ'' a'' w'' hp' hl' hrel' => hq (i' ++ i) x' τ' ρ'' a'' w'' (hp.trans hp') (by simpa using hl') hrel'
        | exit j => exact hq i _ τ ρ' a' w' hp e3 hrel
        | ret => exact hq i _ τ ρ' a' w' hp e3 hrel
    · split at he
      · cases he
      · rename_i pat hpat
        split at he
        · cases he
        · rename_i k hk
          obtain ⟨t', ht', rfl⟩ := Option.map_eq_some_iff.1 he
          have h1 := Tr.sub_den _ hL t0 ht' hd
          refine ihx _ _ _ _ h0 F R _ _ ρ a w (subL_mono hL _ _) h1 hr _ fun i x τ ρ' a' w' hp hl hrel => ?_
          obtain ⟨r, d', e1, e2, e3⟩ := hl
          cases x with
          | normal =>
            obtain ⟨es, hes, rfl⟩ := Option.map_eq_some_iff.1 e1
            have hd' : d' = i.length := by simp only [List.length_append, List.length_cons] at e2; omega
            simp only [Tr.den, get_lab hd'] at e3
            obtain ⟨c0, hc1, _, _, _, _, hnv, _⟩ := hr
            have hrel' := hi F _ pat τ es ρ ρ' a' w' hes hnv hp hrel
            refine ihy _ _ _ _ hk F R L js _ a' w' hL e3 hrel' Q fun i' x' τ' ρ'' a'' w'' hp' hl' hrel' => hq i' x' τ' ρ'' a'' w'' ((List.prefix_append _ _).trans hp') hl' hrel'
          | exit j => simp only [Option.some.injEq] at e1; subst e1; exact hq (i ++ [_]) _ τ ρ' a' w' hp (by simpa [Tr.den] using e3) hrel
          | ret => simp only [Option.some.injEq] at e1; subst e1; exact hq (i ++ [_]) _ τ ρ' a' w' hp (by simpa [Tr.den] using e3) hrel
theorem exec_cond {x : Operand} {p q : Code} (ihp : CodeOK P sg Rt rs p) (ihq : CodeOK P sg Rt rs q) : CodeOK P sg Rt rs (.cond x p q) := by
  intro ex l σ t he F R L js ρ a w hL hd hr Q hq
  simp only [exec] at he
  split at he
  · rename_i hx
    obtain ⟨c, rfl, hs⟩ := hr.opd hx
    have : a.eval x = .bool true := by
      generalize a.eval x = v at hs
      cases hs with
      | e h1 _ _ => exact bool_of h1 rfl
    exact wp_cond_true this (ihp _ _ _ _ he F R L js _ a w hL hd hr Q hq)
  · rename_i hx
    obtain ⟨c, rfl, hs⟩ := hr.opd hx
    have : a.eval x = .bool false := by
      generalize a.eval x = v at hs
      cases hs with
      | e h1 _ _ => exact bool_of h1 rfl
    exact wp_cond_false this (ihq _ _ _ _ he F R L js _ a w hL hd hr Q hq)
  · rename_i y _ _ hx
    split at he
    · rename_i ta tb hta htb
      simp at he; subst he
      obtain ⟨b, hb, d1, d2⟩ := hd
      obtain ⟨c, rfl, hs⟩ := hr.opd hx
      have : a.eval x = .bool b := by
        generalize a.eval x = v at hs
        cases hs with
        | e h1 _ _ => exact bool_of h1 hb
      exact wp_cond_split this (fun hh => ihp _ _ _ _ hta F R L js _ a w hL (d1 hh) hr Q hq) (fun hh => ihq _ _ _ _ htb F R L js _ a w hL (d2 hh) hr Q hq)
    · cases he
  · cases he
theorem least {p : Nat → Prop} (h : ∃ n, p n) : ∃ n, p n ∧ ∀ m, p m → n ≤ m := by
  obtain ⟨n, hn⟩ := h
  induction n using Nat.strongRecOn with
  | _ n ih =>
    by_cases hh : ∃ m, m < n ∧ p m
    · obtain ⟨m, hm, hp⟩ := hh; exact ih m hm hp
    · exact ⟨n, hn, fun m hm => Nat.le_of_not_lt fun hlt => hh ⟨m, hlt, hm⟩⟩
theorem exec_loop (hi : InstOK) {b : Code} (ih : CodeOK P sg Rt rs b) : CodeOK P sg Rt rs (.loop b) := by
  intro ex l σ tr he F R L js ρ a w hL hd hr Q hq
  simp only [exec] at he
  split at he
  · cases he
  · rename_i pat t hpt
    have hrun := loopPat_spec _ _ hpt
    split at he
    · cases he
    · rename_i i0 hi0
      obtain ⟨k, f, t', hsub, htr, hfn, hfe, hk⟩ : ∃ (k : Tr) (f : Nat → Xt → St → Option Tr) (t' : Tr), t.sub f 0 = some t' ∧ tr = .loop (EL.of i0) t' k ∧
          (∀ d τ, f d .normal τ = (inst σ.nv pat τ).map fun es => .jmp d (EL.of es)) ∧
          (∀ d x τ r, x ≠ .normal → f d x τ = some r → r = .leaf x τ ∨ ∃ post es, k = .leaf x post ∧ inst σ.nv post τ = some es ∧ r = .jmp (d + 1) (EL.of es)) ∧ True := by
        split at he
        · obtain ⟨t', ht', rfl⟩ := Option.map_eq_some_iff.1 he
          refine ⟨_, _, t', ht', rfl, fun _ _ => rfl, fun d x τ r hx hr => .inl ?_, trivial⟩
          cases x with
          | normal => exact absurd rfl hx
          | exit j => simpa using hr.symm
          | ret => simpa using hr.symm
        · rename_i id hid
          split at he
          · cases he
          · rename_i post hpost
            obtain ⟨t', ht', rfl⟩ := Option.map_eq_some_iff.1 he
            refine ⟨_, _, t', ht', rfl, fun _ _ => rfl, fun d x τ r hx hr => ?_, trivial⟩
            cases x with
            | normal => exact absurd rfl hx
            | exit j =>
              simp only at hr
              split at hr
              · rename_i hj; subst hj
                obtain ⟨es, hes, rfl⟩ := Option.map_eq_some_iff.1 hr
                exact .inr ⟨post, es, rfl, hes, rfl⟩
              · exact .inl (by simpa using hr.symm)
            | ret => exact .inl (by simpa using hr.symm)
      subst htr
      obtain ⟨n0, hn0⟩ := hd
      obtain ⟨c0, hc1, hc2, hc3, hc4, hc5, hnv, hc7, hc8⟩ := id hr
      generalize hbody : (fun (W : JK) (vs : List AV) => t'.den Rt R L (W :: (fun us => k.den Rt R L js (ρ ++ us)) :: js) (ρ ++ vs)) = body at hn0
      let J : Nat → Act → World → Prop := fun n a w => ∃ vs, loopK body n vs ∧ RelS F (ρ ++ vs) pat a w
      have hJ0 : J n0 a w := ⟨_, hn0, hi F _ pat σ i0 ρ ρ a w hi0 hnv (List.prefix_refl _) hr⟩
      classical
      let μ : Act → World → Nat := fun a w => if h : ∃ n, J n a w then Classical.choose (least h) else 0
      refine wp_loop (fun a w => ∃ n, J n a w) μ ⟨n0, hJ0⟩ fun a1 w1 hI => ?_
      have hμ : μ a1 w1 = Classical.choose (least hI) := by simp only [μ]; rw [dif_pos hI]
      have hJ := (Classical.choose_spec (least hI)).1
      rw [hμ]
      generalize Classical.choose (least hI) = m at hJ
      obtain ⟨vs, hvs, hrel⟩ := hJ
      cases m with
      | zero => exact hvs.elim
      | succ m =>
        have hb : t'.den Rt R L (loopK body m :: (fun us => k.den Rt R L js (ρ ++ us)) :: js) (ρ ++ vs) := by
          have h9 : loopK body (m + 1) vs = body (loopK body m) vs := rfl
          rw [h9] at hvs
          have := congrFun (congrFun hbody (loopK body m)) vs
          rw [← this] at hvs; exact hvs
        have h1 := Tr.sub_den _ hL t hsub hb
        refine ih _ _ _ _ hrun F R _ _ _ a1 w1 (subL_mono hL _ _) h1 hrel _ fun i x τ ρ' a' w' hp hl hrel' => ?_
        obtain ⟨r, d', e1, e2, e3⟩ := hl
        have hd' : d' = i.length := by simp only [List.length_append, List.length_cons] at e2; omega
        have hp' : ρ <+: ρ' := (List.prefix_append _ _).trans hp
        by_cases hx : x = .normal
        · subst hx
          rw [hfn] at e1
          obtain ⟨es, hes, rfl⟩ := Option.map_eq_some_iff.1 e1
          simp only [Tr.den, get_lab hd'] at e3
          have hJm : J m a' w' := ⟨_, e3, hi F _ pat τ es ρ ρ' a' w' hes hnv hp' hrel'⟩
          refine ⟨⟨m, hJm⟩, ?_⟩
          simp only [μ]
          rw [dif_pos ⟨m, hJm⟩]
          exact Nat.lt_succ_of_le ((Classical.choose_spec (least ⟨m, hJm⟩)).2 _ hJm)
        · have hthen : Q x.ex a' w' → Exit.then (fun a' w' => (∃ n, J n a' w') ∧ μ a' w' < m + 1) Q x.ex a' w' := by
            cases x with
            | normal => exact absurd rfl hx
            | exit j => exact id
            | ret => exact id
          apply hthen
          rcases hfe _ _ _ _ hx e1 with rfl | ⟨post, es, rfl, hes, rfl⟩
          · exact hq (i ++ [_, _]) x τ ρ' a' w' hp' (by simpa [Tr.den] using e3) hrel'
          · simp only [Tr.den, get_lab1 hd'] at e3
            have := hi F _ post τ es ρ ρ' a' w' hes hnv hp' hrel'
            exact hq [] x post _ a' w' (List.prefix_append _ _) e3 this
theorem exec_sound (hr : RegionOK P sg Rt) (hi : InstOK) : ∀ c, CodeOK P sg Rt rs c := by
  intro c
  induction c with
  | skip =>
    intro ex l σ t he F R L js ρ a w hL hd hr Q hq
    simp only [exec, Option.some.injEq] at he; subst he
    exact wp_skip (hq [] _ _ _ _ _ (List.prefix_refl _) hd hr)
  | label =>
    intro ex l σ t he F R L js ρ a w hL hd hr Q hq
    simp only [exec, Option.some.injEq] at he; subst he
    exact wp_label (hq [] _ _ _ _ _ (List.prefix_refl _) hd hr)
  | ret =>
    intro ex l σ t he F R L js ρ a w hL hd hr Q hq
    simp only [exec, Option.some.injEq] at he; subst he
    exact wp_ret (hq [] _ _ _ _ _ (List.prefix_refl _) hd hr)
  | exit id =>
    intro ex l σ t he F R L js ρ a w hL hd hr Q hq
    simp only [exec, Option.some.injEq] at he; subst he
    exact wp_exit (hq [] _ _ _ _ _ (List.prefix_refl _) hd hr)
  | region id ops draw =>
    intro ex l σ t he F R L js ρ a w hL hd hrel Q hq
    simp only [exec] at he
    split at he
    · simp at he; subst he; exact hd.elim
    · rename_i hp
      split at he
      · cases he
      · rename_i hs
        simp only [Bool.or_eq_true, Bool.not_eq_true', not_or, Bool.not_eq_false] at hs
        exact hr id ops draw σ t (by simpa using hp) hs.1 hs.2 he F R L js ρ a w hL hd hrel Q hq
  | scope b ih =>
    intro ex l σ t he F R L js ρ a w hL hd hr Q hq
    simp only [exec] at he
    refine wp_scope_straight (ih _ _ _ _ he F R L js ρ a w hL hd hr _ fun i x τ ρ' a' w' hp hl hrel => ?_)
    have := hq i x τ ρ' a' w' hp hl hrel
    cases x <;> exact this
  | cond x p q ihp ihq => exact exec_cond ihp ihq
  | block id b ih => exact exec_block ih
  | seq x y ihx ihy => exact exec_seq hi ihx ihy
  | loop b ih => exact exec_loop hi ih
  | _ => intro ex l σ t he; simp [exec] at he
end
end Go.Proofs.Ytjneaalpiangdaa
end

/- Part WA. A state that fits a pattern stands for the pattern. Program independent. -/
section
namespace Go.Proofs.Ytjneaalpiangdaa
open Go.RowKit

theorem hpGet_mem : ∀ {l : List (Nat × Ent)} {t : Nat} {e : Ent}, hpGet l t = some e → (t, e) ∈ l
  | [], _, _, h => by simp [hpGet] at h
  | (u, f) :: l, t, e, h => by
    simp only [hpGet] at h
    split at h
    · rename_i hu; subst hu; simp at h; subst h; simp
    · exact List.mem_cons_of_mem _ (hpGet_mem h)
theorem lookup_mem {α : Type} : ∀ {l : List (Nat × α)} {t : Nat} {e : α}, l.lookup t = some e → (t, e) ∈ l
  | [], _, _, h => by simp at h
  | (u, f) :: l, t, e, h => by
    simp only [List.lookup_cons] at h
    split at h
    · rename_i hu; simp at h hu; subst h; subst hu; simp
    · exact List.mem_cons_of_mem _ (lookup_mem h)
theorem nodupO_inj : ∀ {θ : List (Nat × Option Nat)}, nodupO θ = true → ∀ {t u v : Nat}, (t, some v) ∈ θ → (u, some v) ∈ θ → t = u
  | [], _, t, u, v, h, _ => by simp at h
  | (p, q) :: θ, hn, t, u, v, h1, h2 => by
    have hn' : nodupO θ = true := by
      cases q <;> (simp only [nodupO, Bool.and_eq_true] at hn; exact hn.2)
    have key : ∀ x, (p, some v) = (p, q) → (x, some v) ∈ θ → False := by
      intro x hq hx
      cases hq
      simp only [nodupO, Bool.and_eq_true, List.all_eq_true] at hn
      have := hn.1 _ hx
      simp at this
    rcases List.mem_cons.1 h1 with h3 | h3 <;> rcases List.mem_cons.1 h2 with h4 | h4
    · cases h3; cases h4; rfl
    · cases h3; exact (key u rfl h4).elim
    · cases h4; exact (key t rfl h3).elim
    · exact nodupO_inj hn' h3 h4
def genOf (hp : List (Nat × Ent)) (t : Nat) : Option Nat := match hpGet hp t with
  | some (.box ..) => some 0
  | some (.row _ _ g _ _) => some g
  | some (.frz g _) => some g
  | _ => none
def ownTag (hp : List (Nat × Ent)) (t : Nat) : Bool := match hpGet hp t with
  | some (.box ..) => true
  | some (.row ..) => true
  | _ => false
def instCx (c : Cx) (ρ : List AV) (θ : List (Nat × Option Nat)) (pat leaf : St) : Cx :=
  { c with
    ρ := ρ
    G := fun t => if ownTag pat.hp t then (match θ.lookup t with | some (some t') => c.G t' | _ => ⟨[], []⟩) else ⟨[], []⟩
    K := fun t g => genOf pat.hp t = some g
    H := fun t _ => match θ.lookup t with | some (some t') => c.H t' ((genOf leaf.hp t').getD 0) | _ => .slice none 0 0
    U := fun t => t < pat.nx }
section
variable {c : Cx} {ρ : List AV} {nv n : Nat} {es : List E} {θ : List (Nat × Option Nat)} {pat leaf : St} {sl : Nat → SV} {a : Act}
theorem inst_G {t b : Nat} (h : b ∈ ((instCx c ρ θ pat leaf).G t).own) : ownTag pat.hp t = true ∧ ∃ t', θ.lookup t = some (some t') ∧ (instCx c ρ θ pat leaf).G t = c.G t' ∧ b ∈ (c.G t').own := by
  simp only [instCx] at h ⊢
  split at h
  · rename_i ho
    split at h
    · rename_i t' ht
      exact ⟨ho, t', ht, by simp [ho, ht], h⟩
    · simp [GI.own] at h
  · simp [GI.own] at h
theorem inst_ok {b : Nat} (h : c.ok b) : (instCx c ρ θ pat leaf).ok b := by
  refine ⟨fun ⟨t, ht⟩ => ?_, h.2⟩
  obtain ⟨_, t', _, hg, _⟩ := inst_G (b := b) (by simp only [GI.own, List.mem_append]; exact .inl ht)
  rw [hg] at ht
  exact h.1 ⟨t', ht⟩
theorem okE_den (hp : ρ <+: c.ρ) (hn : ρ.length = nv) {x y : E} (h : okE nv es x y = true) : x.den (ρ ++ (EL.of es).den c.ρ) = y.den c.ρ := by
  obtain ⟨τ, hτ⟩ := hp
  have hgen : x.sc nv = true → x.beq y = true → x.den (ρ ++ (EL.of es).den c.ρ) = y.den c.ρ := by
    intro h1 h2
    rw [← E.beq_den c.ρ x y h2]
    subst hn
    generalize hq : (EL.of es).den c.ρ = q
    rw [E.sc_den ρ q τ x h1, hτ]
  unfold okE at h
  split at h
  · rename_i i
    split at h
    · rename_i hi
      exact hgen (by simpa [E.sc] using hi) h
    · rename_i hi
      split at h
      · rename_i z hz
        rw [← E.beq_den c.ρ z y h]
        simp only [E.den, EL.den_of]
        rw [List.getElem?_append_right (by omega), hn, List.getElem?_map, hz]; rfl
      · cases h
  · simp only [Bool.and_eq_true] at h
    exact hgen h.1 h.2
theorem leafE_rd (hrel : Rel c n sl (hpGet leaf.hp) a) {s : SV} {v : Value} {y : E} (hs : SR c [s] [v]) (h : leafE leaf s = some y) : ∃ f, Rd c.w [v] [y.den c.ρ] f ∧ ∀ b ∈ f, c.see (tagsN (hpGet leaf.hp) [] (deepFuel + 1) [s]) b :=
  toEN_rd (fun t e hr => hrel.ents t e hr) (gdOK_nil _) deepFuel h hs deepFuel (Nat.le_refl _)
mutual
theorem okS_SR (hrel : Rel c n sl (hpGet leaf.hp) a) (hp : ρ <+: c.ρ) (hn : ρ.length = nv) (hents : ∀ t e, (t, e) ∈ pat.hp → okEnt nv es θ pat leaf t e = true) : ∀ (m : Nat) {p s : SV} {v : Value}, okS nv es θ pat leaf m p s = true → SR c [s] [v] → SR (instCx c (ρ ++ (EL.of es).den c.ρ) θ pat leaf) [p] [v]
  | 0, p, s, v, h, _ => by simp [okS] at h
  | m + 1, p, s, v, h, hs => by
    unfold okS at h
    split at h
    · exact .undef .nil
    · rename_i x
      split at h
      · rename_i y hy
        simp only [Bool.and_eq_true, List.all_eq_true, Bool.or_eq_true] at h
        obtain ⟨f, hf, hsee⟩ := leafE_rd hrel hs hy
        have hx := okE_den (c := c) hp hn h.1
        refine .e (by rw [show (instCx c (ρ ++ (EL.of es).den c.ρ) θ pat leaf).ρ = ρ ++ (EL.of es).den c.ρ from rfl, hx]; exact hf) (fun b hb => ?_) .nil
        rcases hsee b hb with hb | ⟨t', ht', hb⟩
        · exact inst_ok hb
        · refine ⟨fun ⟨u, hu⟩ => ?_, .inr (hrel.gw.allow t' b (by simp [GI.own, hb]))⟩
          obtain ⟨ho, v', hl, hg, hbv⟩ := inst_G (b := b) (by simp only [GI.own, List.mem_append]; exact .inl hu)
          have hv : v' = t' := by
            refine Classical.byContradiction fun hne => hrel.gw.disj v' t' hne b hbv (by simp [GI.own, hb])
          subst hv
          have := h.2 _ ht' _ (lookup_mem hl)
          simp only [bne_self_eq_false, Bool.false_eq_true, false_or] at this
          unfold ownTag at ho
          split at this
          · rename_i hh; rw [hh] at ho; simp at ho
          · rename_i hh; rw [hh] at ho; simp at ho
          · cases this
      · cases h
    · split at h
      · cases hs with
        | nils _ => exact .nils .nil
      · cases h
    · split at h
      · cases hs with
        | emp _ => exact .emp .nil
      · cases hs with
        | nils _ => exact .emp .nil
      · cases h
    · rename_i t g
      have key : ∀ t' v', genOf pat.hp t = some g → θ.lookup t = some (some t') → validOwn leaf.hp t' v' = true → SR c [.own t' v'] [v] → SR (instCx c (ρ ++ (EL.of es).den c.ρ) θ pat leaf) [.own t g] [v] := by
        intro t' v' hg hl hv hs
        cases hs with
        | own h1 h2 _ =>
          refine .own hg ?_ .nil
          show (match θ.lookup t with | some (some t') => c.H t' ((genOf leaf.hp t').getD 0) | _ => Value.slice none 0 0) = _
          rw [hl]
          have : (genOf leaf.hp t').getD 0 = v' := by
            unfold validOwn at hv
            unfold genOf
            split at hv
            · rename_i hh; rw [hh]; simpa using (beq_iff_eq.1 hv).symm
            · rename_i hh; rw [hh]; simpa using (beq_iff_eq.1 hv).symm
            · cases hv
          show c.H t' ((genOf leaf.hp t').getD 0) = _
          rw [this]; exact h2
      split at h
      · rename_i g' _ _ hpt
        simp only [Bool.and_eq_true, beq_iff_eq] at h
        obtain ⟨rfl, h⟩ := h
        split at h
        · simp only [Bool.and_eq_true, beq_iff_eq] at h
          exact key _ _ (by simp [genOf, hpt]) h.1 h.2 hs
        · rw [beq_iff_eq] at h
          cases hs with
          | nils _ =>
            refine .own (p := none) (q := 0) (r := 0) (by show genOf pat.hp t = some g; simp [genOf, hpt]) ?_ .nil
            show (match θ.lookup t with | some (some t') => c.H t' ((genOf leaf.hp t').getD 0) | _ => Value.slice none 0 0) = _
            rw [h]
        · cases h
      · rename_i g' _ hpt
        simp only [Bool.and_eq_true, beq_iff_eq] at h
        obtain ⟨rfl, h⟩ := h
        split at h
        · simp only [Bool.and_eq_true, beq_iff_eq] at h
          exact key _ _ (by simp [genOf, hpt]) h.1 h.2 hs
        · cases h
      · cases h
    · rename_i t o
      split at h
      · rename_i ty g cs hpt
        split at h
        · rename_i t' o'
          simp only [Bool.and_eq_true, beq_iff_eq] at h
          obtain ⟨rfl, hl⟩ := h
          have hbox := hents t _ (hpGet_mem hpt)
          simp only [okEnt, hl] at hbox
          split at hbox
          · rename_i hlf
            cases hs with
            | bptr h1 h2 _ =>
              refine .bptr (by show genOf pat.hp t = some 0; simp [genOf, hpt]) ?_ .nil
              show (match θ.lookup t with | some (some t') => c.H t' ((genOf leaf.hp t').getD 0) | _ => Value.slice none 0 0) = _
              rw [hl]
              have : (genOf leaf.hp t').getD 0 = 0 := by simp [genOf, hlf]
              simp only [this]; exact h2
          · cases hbox
        · cases h
      · cases h
    · cases h
    · rename_i x i z o
      split at h
      · rename_i y j z' o'
        simp only [Bool.and_eq_true, beq_iff_eq] at h
        obtain ⟨⟨⟨⟨⟨rfl, rfl⟩, h1⟩, h2⟩, h3⟩, h4⟩ := h
        have hx : x.den (ρ ++ (EL.of es).den c.ρ) = y.den c.ρ := by
          obtain ⟨τ, hτ⟩ := hp
          rw [← E.beq_den c.ρ x y h2]; subst hn
          generalize (EL.of es).den c.ρ = q
          rw [E.sc_den ρ q τ x h1, hτ]
        have hi : i.den (ρ ++ (EL.of es).den c.ρ) = j.den c.ρ := by
          obtain ⟨τ, hτ⟩ := hp
          rw [← E.beq_den c.ρ i j h4]; subst hn
          generalize (EL.of es).den c.ρ = q
          rw [E.sc_den ρ q τ i h3, hτ]
        cases hs with
        | eptr g1 g2 g3 g4 g5 g6 _ =>
          refine .eptr (f := _) (by show Rd c.w _ [x.den (ρ ++ (EL.of es).den c.ρ)] _; rw [hx]; exact g1) (fun b hb => inst_ok (g2 b hb)) (by show i.den (ρ ++ (EL.of es).den c.ρ) = _; rw [hi]; exact g3) g4 g5 (by show ((x.den (ρ ++ (EL.of es).den c.ρ)).nth _).cells.length = _; rw [hx]; exact g6) .nil
      · cases h
    · rename_i x o
      split at h
      · rename_i y o'
        simp only [Bool.and_eq_true, beq_iff_eq] at h
        obtain ⟨⟨rfl, h1⟩, h2⟩ := h
        have hx : x.den (ρ ++ (EL.of es).den c.ρ) = y.den c.ρ := by
          obtain ⟨τ, hτ⟩ := hp
          rw [← E.beq_den c.ρ x y h2]; subst hn
          generalize (EL.of es).den c.ρ = q
          rw [E.sc_den ρ q τ x h1, hτ]
        cases hs with
        | pptr g1 g2 _ => exact .pptr (by show Rd c.w _ [x.den (ρ ++ (EL.of es).den c.ρ)] _; rw [hx]; exact g1) (fun b hb => inst_ok (g2 b hb)) .nil
      · cases h
    · split at h
      · cases hs with
        | agg h9 h1 _ => exact .agg h9 (okSL_SR hrel hp hn hents m h h1) .nil
      · cases h
    · split at h
      · cases hs with
        | tup h1 _ => exact .tup (okSL_SR hrel hp hn hents m h h1) .nil
      · cases h
    · split at h
      · simp only [Bool.and_eq_true, beq_iff_eq] at h
        obtain ⟨rfl, h⟩ := h
        cases hs with
        | fn h1 _ => exact .fn (okSL_SR hrel hp hn hents m h h1) .nil
      · cases h
    · cases h
theorem okSL_SR (hrel : Rel c n sl (hpGet leaf.hp) a) (hp : ρ <+: c.ρ) (hn : ρ.length = nv) (hents : ∀ t e, (t, e) ∈ pat.hp → okEnt nv es θ pat leaf t e = true) : ∀ (m : Nat) {ps ss : List SV} {vs : List Value}, okSL nv es θ pat leaf m ps ss = true → SR c ss vs → SR (instCx c (ρ ++ (EL.of es).den c.ρ) θ pat leaf) ps vs
  | 0, ps, ss, vs, h, _ => by simp [okSL] at h
  | m + 1, [], [], vs, h, hs => by cases hs; exact .nil
  | m + 1, p :: ps, [], vs, h, hs => by simp [okSL] at h
  | m + 1, [], s :: ss, vs, h, hs => by simp [okSL] at h
  | m + 1, p :: ps, s :: ss, [], h, hs => by have := hs.len; simp at this
  | m + 1, p :: ps, s :: ss, v :: vs, h, hs => by
    simp only [okSL, Bool.and_eq_true] at h
    obtain ⟨h1, h2⟩ := hs.uncons
    exact (okS_SR hrel hp hn hents m h.1 h1).cons (okSL_SR hrel hp hn hents m h.2 h2)
end
theorem okEnt_EntR (hrel : Rel c n sl (hpGet leaf.hp) a) (hp : ρ <+: c.ρ) (hn : ρ.length = nv) (hents : ∀ t e, (t, e) ∈ pat.hp → okEnt nv es θ pat leaf t e = true) (hθ : nodupO θ = true) {t : Nat} {e : Ent} (ht : hpGet pat.hp t = some e) : EntR (instCx c (ρ ++ (EL.of es).den c.ρ) θ pat leaf) t e := by
  have h := hents t e (hpGet_mem ht)
  have hG0 : ownTag pat.hp t = false → (instCx c (ρ ++ (EL.of es).den c.ρ) θ pat leaf).G t = ⟨[], []⟩ := by
    intro h0; simp only [instCx]; rw [if_neg (by rw [h0]; simp)]
  have hG1 : ∀ t', ownTag pat.hp t = true → θ.lookup t = some (some t') → (instCx c (ρ ++ (EL.of es).den c.ρ) θ pat leaf).G t = c.G t' := by
    intro t' h0 hl; simp only [instCx]; rw [if_pos h0, hl]
  have hH1 : ∀ t' g, θ.lookup t = some (some t') → genOf leaf.hp t' = some g → ∀ g', (instCx c (ρ ++ (EL.of es).den c.ρ) θ pat leaf).H t g' = c.H t' g := by
    intro t' g hl hg g'; simp only [instCx, hl, hg, Option.getD_some]
  have hgenle : ∀ g, genOf pat.hp t = some g → ∀ g', (instCx c (ρ ++ (EL.of es).den c.ρ) θ pat leaf).K t g' → g' ≤ g := by
    intro g hg g' hk
    have hk' : genOf pat.hp t = some g' := hk
    rw [hg] at hk'; cases hk'; exact Nat.le_refl _
  cases e with
  | box ty g cs =>
    simp only [okEnt] at h
    split at h
    · rename_i t' hl
      split at h
      · rename_i ty' g' ds hlf
        simp only [Bool.and_eq_true, beq_iff_eq] at h
        obtain ⟨⟨rfl, rfl⟩, h⟩ := h
        obtain ⟨b, C, h1, h2, h3, h4, h5, h6, h7⟩ := hrel.ents t' _ (by rw [hlf]; rfl)
        have hg := hG1 t' (by simp [ownTag, ht]) hl
        exact ⟨b, C, by show genOf pat.hp t = some 0; simp [genOf, ht], by rw [hH1 t' 0 hl (by simp [genOf, hlf])]; exact h2, by rw [hg]; exact h3, by rw [hg]; exact h4, h5, h6, okSL_SR hrel hp hn hents _ h h7⟩
      · cases h
    · cases h
  | row et z g x d =>
    simp only [okEnt] at h
    split at h
    · rename_i t' hl
      split at h
      · rename_i et' z' g' y d' hlf
        simp only [Bool.and_eq_true, beq_iff_eq, Bool.or_eq_true, Bool.not_eq_true'] at h
        obtain ⟨⟨⟨rfl, rfl⟩, hx⟩, hd⟩ := h
        obtain ⟨h1, h2, N, h3, h4, h5, h6⟩ := hrel.ents t' _ (by rw [hlf]; rfl)
        have hg := hG1 t' (by simp [ownTag, ht]) hl
        have hx' := okE_den hp hn hx
        have hK : genOf pat.hp t = some g := by simp [genOf, ht]
        refine ⟨hK, hgenle g hK, N, ?_, fun b hb => inst_ok (h4 b hb), fun hdt => ?_, fun hdf => ?_⟩
        · rw [hH1 t' g' hl (by simp [genOf, hlf]), hg]
          show OwnRow c.w et z _ (x.den (ρ ++ (EL.of es).den c.ρ)) _ N
          rw [hx']; exact h3
        · rw [hg]; exact h5 (by rcases hd with hd | hd; rw [hdt] at hd; cases hd; exact hd)
        · rw [hg]
          cases d' with
          | false => exact h6 rfl
          | true => obtain ⟨u1, u2⟩ := h5 rfl; rw [u2]; exact u1
      · cases h
    · rename_i hl
      simp only [Bool.and_eq_true, decide_eq_true_eq] at h
      have hx' := okE_den hp hn h.1
      have hK : genOf pat.hp t = some g := by simp [genOf, ht]
      have hg : (instCx c (ρ ++ (EL.of es).den c.ρ) θ pat leaf).G t = ⟨[], []⟩ := by simp [instCx, hl]
      refine ⟨hK, hgenle g hK, [], ⟨[], ?_, by simp, h.2, .inl ⟨rfl, ⟨none, ?_⟩, by rw [hg], rfl⟩⟩, by simp, fun _ => ⟨rfl, by rw [hg]⟩, fun _ => by rw [hg]⟩
      · show x.den (ρ ++ (EL.of es).den c.ρ) = _
        rw [hx']; rfl
      · simp [instCx, hl]
    · cases h
  | frz g x =>
    have hg := hG0 (by simp [ownTag, ht])
    have hK : genOf pat.hp t = some g := by simp [genOf, ht]
    simp only [okEnt] at h
    split at h
    · rename_i t' hl
      have hsee : ∀ b, b ∈ (c.G t').top → (instCx c (ρ ++ (EL.of es).den c.ρ) θ pat leaf).ok b := by
        intro b hb
        refine ⟨fun ⟨u, hu⟩ => ?_, .inr (hrel.gw.allow t' b (by simp [GI.own, hb]))⟩
        obtain ⟨ho, v', hl', hg', hbv⟩ := inst_G (b := b) (by simp only [GI.own, List.mem_append]; exact .inl hu)
        have hv : v' = t' := Classical.byContradiction fun hne => hrel.gw.disj v' t' hne b hbv (by simp [GI.own, hb])
        subst hv
        have := nodupO_inj hθ (lookup_mem hl') (lookup_mem hl)
        subst this
        simp [ownTag, ht] at ho
      split at h
      · rename_i et' z' g' y d' hlf
        obtain ⟨h1, h2, N, h3, h4, h5, h6⟩ := hrel.ents t' _ (by rw [hlf]; rfl)
        obtain ⟨f, r1, r2, _⟩ := h3.rd
        refine ⟨hK, ⟨f, ?_, fun b hb => (r2 b hb).elim (hsee b) fun hb => inst_ok (h4 b hb)⟩, by rw [hg], by rw [hg]⟩
        rw [hH1 t' g' hl (by simp [genOf, hlf])]
        show Rd c.w _ [x.den (ρ ++ (EL.of es).den c.ρ)] f
        rw [okE_den hp hn h]; exact r1
      · rename_i g' y hlf
        obtain ⟨h1, ⟨f, r1, r2⟩, _, _⟩ := hrel.ents t' _ (by rw [hlf]; rfl)
        refine ⟨hK, ⟨f, ?_, fun b hb => inst_ok (r2 b hb)⟩, by rw [hg], by rw [hg]⟩
        rw [hH1 t' g' hl (by simp [genOf, hlf])]
        show Rd c.w _ [x.den (ρ ++ (EL.of es).den c.ρ)] f
        rw [okE_den hp hn h]; exact r1
      · cases h
    · cases h
  | gd gs e => simp [okEnt] at h
  | dead =>
    have hg := hG0 (by simp [ownTag, ht])
    exact ⟨by rw [hg], by rw [hg]⟩
end
theorem okSL_get {nv : Nat} {es : List E} {θ : List (Nat × Option Nat)} {pat leaf : St} : ∀ (m : Nat) {ps ss : List SV}, okSL nv es θ pat leaf m ps ss = true → ∀ {i : Nat} {p : SV}, ps[i]? = some p → ∃ s k, ss[i]? = some s ∧ okS nv es θ pat leaf k p s = true
  | 0, ps, ss, h, _, _, _ => by simp [okSL] at h
  | m + 1, [], ss, h, i, p, hp => by simp at hp
  | m + 1, q :: ps, [], h, i, p, hp => by simp [okSL] at h
  | m + 1, q :: ps, s :: ss, h, i, p, hp => by
    simp only [okSL, Bool.and_eq_true] at h
    cases i with
    | zero => simp at hp; subst hp; exact ⟨s, m, rfl, h.1⟩
    | succ i => simpa using okSL_get m h.2 (by simpa using hp)
theorem inst_ok' : InstOK := by
  intro F nv pat τ es ρ ρ' a w hi hn hp hr
  obtain ⟨c, rfl, rfl, hw0, hA, hMu, hnv, hU, hrel⟩ := hr
  unfold inst at hi
  simp only at hi
  split at hi
  · rename_i hok
    simp only [Option.some.injEq] at hi
    generalize hes0 : (List.range (pat.nv - nv)).map (fun j => ((inEnts nv pat τ true pat.hp (inEnts nv pat τ false pat.hp (inSL nv pat τ 2000 ⟨[], []⟩ pat.sl τ.sl))).as.lookup (nv + j)).getD (.int .i64 0)) = es0 at hok hi
    subst hi
    generalize (inEnts nv pat τ true pat.hp (inEnts nv pat τ false pat.hp (inSL nv pat τ 2000 ⟨[], []⟩ pat.sl τ.sl))).θ = θ at hok
    clear hes0
    simp only [okSt, Bool.and_eq_true, beq_iff_eq, List.all_eq_true, decide_eq_true_eq] at hok
    obtain ⟨⟨⟨⟨⟨⟨h1, hθ⟩, hlen⟩, hsl⟩, hall⟩, hnx⟩, hpins⟩ := hok
    have hents : ∀ t e, (t, e) ∈ pat.hp → okEnt nv es0 θ pat τ t e = true := fun t e he => (hall _ he).1
    have hlt : ∀ t e, (t, e) ∈ pat.hp → t < pat.nx := fun t e he => (hall _ he).2
    have hnogd : ∀ t e, hpGet pat.hp t = some e → ∀ gs e', e ≠ .gd gs e' := by
      rintro t e he gs e' rfl
      have := hents t _ (hpGet_mem he)
      simp [okEnt] at this
    have hres : ∀ t e e', hpGet pat.hp t = some e → (Res (ρ ++ (EL.of es0).den c.ρ) (hpGet pat.hp t) e' ↔ e' = e) := by
      intro t e e' he
      rw [he]
      cases e with
      | gd gs e9 => exact absurd rfl (hnogd t _ he gs e9)
      | _ => simp [Res, eq_comm]
    refine ⟨instCx c (ρ ++ (EL.of es0).den c.ρ) θ pat τ, rfl, rfl, hw0, hA, hMu, ?_, fun t ht => ht, hrel.defers, by rw [hlen]; exact hrel.size, ⟨hrel.base.os, hrel.base.tape, hrel.base.output, hrel.base.size, fun t v hpv => ?_, hrel.base.block⟩, fun i => ?_, fun t e hr => ?_, fun t hno => ?_, ⟨fun t => ?_, fun t u htu b hb hb' => ?_, fun t b hb => ?_, fun t b hb => ?_⟩, fun t g hk => ?_, fun t e he => hlt t e (hpGet_mem he)⟩
    · rw [h1, EL.den_of]; simp [hn]
    · have hisp : isPin t = true := F.pinOK t v (by rw [← hA]; exact hpv)
      refine ⟨by
        show t < pat.nx
        unfold isPin at hisp
        simp only [Bool.and_eq_true, decide_eq_true_eq] at hisp
        omega, fun hk => ?_⟩
      have hk' : genOf pat.hp t = some 0 := hk
      obtain ⟨e, hpe⟩ : ∃ e, hpGet pat.hp t = some e := by
        unfold genOf at hk'
        cases hh : hpGet pat.hp t with
        | none => rw [hh] at hk'; cases hk'
        | some e => exact ⟨e, rfl⟩
      have hpk := hpins _ (hpGet_mem hpe)
      simp only [hisp, Bool.not_true, Bool.false_or] at hpk
      have main : θ.lookup t = some (some t) → genOf τ.hp t = some 0 → c.K t 0 → (instCx c (ρ ++ (EL.of es0).den c.ρ) θ pat τ).H t 0 = v := by
        intro hl hg hK
        simp only [instCx, hl, hg, Option.getD_some]
        exact (hrel.base.pins t v hpv).2 hK
      unfold okPin at hpk
      simp only [genOf, hpe] at hk'
      rw [hpe] at hpk
      cases e with
      | box ty g cs =>
        simp only [Bool.and_eq_true, beq_iff_eq] at hpk
        obtain ⟨hl, hb⟩ := hpk
        split at hb
        · rename_i ty' g' cs' hlf
          obtain ⟨b, C, q1, _⟩ := hrel.ents t _ (by rw [hlf]; rfl)
          exact main hl (by simp [genOf, hlf]) q1
        · cases hb
      | row ety sz g x d =>
        simp only [Option.some.injEq] at hk'
        subst hk'
        simp only [bne_self_eq_false, Bool.false_or, Bool.and_eq_true, beq_iff_eq] at hpk
        obtain ⟨hl, hb⟩ := hpk
        split at hb
        · rename_i ety' sz' g' x' d' hlf
          rw [beq_iff_eq] at hb
          subst hb
          obtain ⟨q1, _⟩ := hrel.ents t _ (by rw [hlf]; rfl)
          exact main hl (by simp [genOf, hlf]) q1
        · cases hb
      | frz g x =>
        simp only [Option.some.injEq] at hk'
        subst hk'
        simp at hpk
      | gd => simp at hk'
      | dead => simp at hk'
    · unfold slotOf
      cases hpi : pat.sl[i]? with
      | none => exact .undef .nil
      | some p =>
        obtain ⟨s, k, hs, hk⟩ := okSL_get _ hsl hpi
        have := hrel.slots i
        unfold slotOf at this
        rw [hs] at this
        exact okS_SR hrel hp hn hents k hk this
    · cases he : hpGet pat.hp t with
      | none => rw [he] at hr; exact hr.elim
      | some e9 =>
        have hee := (hres t e9 e he).1 hr
        subst hee
        exact okEnt_EntR hrel hp hn hents hθ he
    · have : ownTag pat.hp t = false := by
        cases he : hpGet pat.hp t with
        | none => simp [ownTag, he]
        | some e9 => exact absurd ((hres t e9 e9 he).2 rfl) (hno e9)
      simp [instCx, this]
    · simp only [instCx]
      split
      · split
        · exact hrel.gw.nodup _
        · simp [GI.own]
      · simp [GI.own]
    · obtain ⟨_, t', hl, _, hbt⟩ := inst_G hb
      obtain ⟨_, u', hl', _, hbu⟩ := inst_G hb'
      by_cases hh : t' = u'
      · subst hh; exact htu (nodupO_inj hθ (lookup_mem hl) (lookup_mem hl'))
      · exact hrel.gw.disj t' u' hh b hbt hbu
    · obtain ⟨_, t', hl, _, hbt⟩ := inst_G hb
      exact hrel.gw.allow t' b hbt
    · obtain ⟨_, t', hl, _, hbt⟩ := inst_G hb
      exact hrel.gw.inb t' b hbt
    · have hk' : genOf pat.hp t = some g := hk
      unfold genOf at hk'
      show t < pat.nx
      split at hk'
      · rename_i hh; exact hlt t _ (hpGet_mem hh)
      · rename_i hh; exact hlt t _ (hpGet_mem hh)
      · rename_i hh; exact hlt t _ (hpGet_mem hh)
      · cases hk'
  · cases hi
end Go.Proofs.Ytjneaalpiangdaa
end

/- Part VK. Each operation does what its effect says: operations that leave memory alone, second part. Program independent. -/
section
namespace Go.Proofs.Ytjneaalpiangdaa
open Go.RowKit
section
variable {P : Program} {c : Cx} {n nx : Nat} {sl sl0 : Nat → SV} {hp hp0 : Nat → Option Ent} {a : Act} {o : Oper} {gs : Gd} {e : Eff} {sg : Nat → Option Sig} {nv : Nat}
theorem SVL.of_toList : ∀ l : SVL, SVL.of l.toList = l
  | .nil => rfl
  | .cons s l => by simp [SVL.toList, SVL.of, SVL.of_toList l]
theorem does_load (h : Pre P c n nx sl hp a sl0 hp0 o gs) {t : TypeId} {x : Operand} (ho : o.op = .load t x) (he : opEff P sg sl0 hp0 nv nx gs o = some e) (hc : ∀ q ∈ e.chk, Cn.den c.ρ q) : Does P o c n nx sl hp gs a e := by
  have hm : x ∈ o.op.operands := by simp [ho, Op.operands]
  simp only [opEff, ho, Option.bind_eq_some_iff, Option.map_eq_some_iff] at he
  obtain ⟨s, hs, e1, he, rfl⟩ := he
  have hr := (h.opd hs hm).asPtr (fun q hq => hc q (by simp [hq]))
  have hc' : ∀ q ∈ e1.chk, Cn.den c.ρ q := fun q hq => hc q (by simp [hq])
  have ex : (execOp a.eval o).run P c.w = ((Instr.loadAt t (a.eval x)).run P c.w).andThen fun v w => .ok (.value v) w := by simp [execOp, ho]
  unfold loadEff at he
  split at he
  · cases he
  rename_i hty
  have hty : tyOK P t = true := by simpa using hty
  generalize hs' : (asPtr s).1 = s1 at he hr
  split at he
  · rename_i b o'
    split at he
    · rename_i ty g cs hl
      obtain ⟨s2, hs2, rfl⟩ := Option.map_eq_some_iff.1 he
      generalize ha : a.eval x = v at hr ex
      cases hr with
      | bptr h1 h2 _ =>
        rename_i q
        obtain ⟨q', C, _, e2, e3, e4, e5, e5', e6⟩ := h.eh b _ (look_res hl h.gs)
        rw [h2] at e2; cases e2
        unfold loadC at hs2
        have hlen := e6.len
        split at hs2
        · rename_i hag
          split at hs2
          · rename_i hle
            simp at hs2; subst hs2
            obtain ⟨r1, r2⟩ := e6.split o'
            obtain ⟨r3, r4⟩ := r2.split (P.cellsOf t)
            have := SR.agg (cs := SVL.of ((cs.drop o').take (P.cellsOf t))) (fun u hu => e5' u (List.mem_of_mem_drop (List.mem_of_mem_take hu))) (by rw [SVL.toList_of]; exact r3) .nil
            refine Does.pure h (v := .agg ((C.toList.drop o').take (P.cellsOf t)).toArray) ?_ this rfl
            rw [ex, run_loadVar hty ((C.toList.drop o').take (P.cellsOf t)) (fun _ => by simp at hlen ⊢; omega) (fun h => by rw [hag] at h; cases h) (fun j u hu => by
              rw [cell_of_block e5]
              rw [List.getElem?_take] at hu
              split at hu
              · simpa using hu
              · cases hu)]
            simp [hag]
          · cases hs2
        · rename_i hag
          have hag : aggT P t = false := by simpa using hag
          obtain ⟨u, hu, r⟩ := e6.get hs2
          refine Does.pure h (v := u) ?_ r rfl
          rw [ex, run_loadVar hty [u] (fun h => by rw [hag] at h; cases h) (fun _ => rfl) (fun j z hz => by
            cases j with
            | zero => simp at hz; subst hz; rw [cell_of_block e5]; simpa using hu
            | succ j => simp at hz)]
          simp [hag]
    · cases he
  · rename_i b g i sz o'
    split at he
    · rename_i e0 sz' g' c0 d hl
      split at he
      · rename_i hh
        obtain ⟨rfl, rfl, hle, hag⟩ := hh
        simp at he; subst he
        generalize ha : a.eval x = v at hr ex
        cases hr with
        | rptr h1 h2 h3 h4 h5 _ =>
          rename_i q len cap kk k h6
          obtain ⟨_, _, N, r1, r2, _, _⟩ := h.eh b _ (look_res hl h.gs)
          obtain ⟨f, r3, _, r4⟩ := r1.rd
          obtain ⟨xs, hxs, hcl, h0, hcase⟩ := r1
          rw [h2] at r3 hcase
          have hk : k.toNat < len := by omega
          have hxl : xs.length = len := by
            rcases hcase with ⟨_, ⟨_, hv⟩, _⟩ | ⟨_, _, _, hv, _⟩
            · cases hv; omega
            · simp at hv; exact hv.2.1.symm
          have hsz : ((c0.den c.ρ).nth k.toNat).cells.length = sz := by
            rw [hxs]; exact hcl _ (List.mem_of_getElem? (nth_of (xs := xs) (by omega)))
          obtain ⟨v', q', g1, g2, g3⟩ := load_elem r3 hk hsz hty hle hag
          refine Does.pure h (v := v') ?_ (.e (f := q') ?_ ?_ .nil) rfl
          · rw [ex]; rw [Nat.zero_add] at g1; simp [g1]
          · simpa [E.den, AV.idx, h3] using g3
          · exact fun z hz => r2 z (r4 z (g2 z hz))
      · cases he
    · cases he
  · rename_i y i sz o'
    split at he
    · rename_i hh
      obtain ⟨hle, hag⟩ := hh
      simp at he; subst he
      generalize ha : a.eval x = v at hr ex
      cases hr with
      | eptr h1 h2 h3 h4 h5 h6 _ =>
        rename_i q off len cap f kk k
        obtain ⟨v', q', g1, g2, g3⟩ := load_elem (fo := o') h1 (by omega) h6 hty hle hag
        refine Does.pure h (v := v') ?_ (.e (f := q') (by simpa [E.den, AV.idx, h3] using g3) (fun z hz => h2 z (List.mem_of_mem_tail (g2 z hz))) .nil) rfl
        rw [ex]; simp [g1]
    · cases he
  · rename_i y o'
    split at he
    · rename_i hag
      simp at he; subst he
      generalize ha : a.eval x = v at hr ex
      cases hr with
      | pptr h1 h2 _ =>
        rename_i q f
        obtain ⟨z, hz, hle⟩ := hc1 hc'
        rw [hz] at h1
        cases h1 with
        | ref hb hb' hr1 hr2 =>
          rename_i C ty fz f1 f2
          obtain ⟨q', g1, g2⟩ := hr1.fldOf hb' o' (P.cellsOf t) (aggT P t) hle (fun h => by rcases hag with h' | h'; rw [h] at h'; cases h'; exact h')
          have hlc : ((C.toList.drop o').take (P.cellsOf t)).length = P.cellsOf t := by
            have := hr1.len
            rw [List.length_take, List.length_drop]; omega
          refine Does.pure h ?_ (.e (f := q') (by simpa [E.den, hz, AV.deref] using g2) (fun z hz => h2 z (by simp [g1 z hz])) .nil) rfl
          rw [ex, run_loadVar hty ((C.toList.drop o').take (P.cellsOf t)) (fun _ => hlc) (fun h => by rw [hlc]; rcases hag with h' | h'; rw [h] at h'; cases h'; exact h') (fun j u hu => by
              rw [cell_of_block hb]
              rw [List.getElem?_take] at hu
              split at hu
              · simpa using hu
              · cases hu)]
          simp
    · cases he
  · cases he
end
end Go.Proofs.Ytjneaalpiangdaa
end

/- Part VL. Each operation does what its effect says: numbers, tests, fields, indexes. Program independent. -/
section
namespace Go.Proofs.Ytjneaalpiangdaa
open Go.RowKit

theorem InK_iff (k : IntKind) (n : Int) : InK k n ↔ k.min ≤ n ∧ n ≤ k.max := by
  unfold InK
  cases k <;> simp only [IntKind.wrap, IntKind.bits, IntKind.signed, IntKind.min, IntKind.max] <;> simp <;> (try split) <;> omega
theorem InK_wrap (k : IntKind) (n : Int) : InK k (k.wrap n) := by
  rw [InK_iff]
  cases k <;> simp only [IntKind.wrap, IntKind.bits, IntKind.signed, IntKind.min, IntKind.max] <;> simp <;> (try split) <;> omega
theorem InK_tmod {k : IntKind} {x y : Int} (h : InK k x) : InK k (x.tmod y) := by
  rw [InK_iff] at h ⊢
  have h1 : (x.tmod y).natAbs ≤ x.natAbs := by rw [Int.natAbs_tmod]; exact Nat.mod_le _ _
  have h2 : 0 ≤ x → 0 ≤ x.tmod y := Int.tmod_nonneg y
  have hmin : k.min ≤ 0 := by cases k <;> decide
  have hmax : 0 ≤ k.max := by cases k <;> decide
  constructor
  · by_cases h0 : 0 ≤ x
    · have := h2 h0; omega
    · omega
  · by_cases h0 : 0 ≤ x
    · omega
    · have h3 : x.tmod y ≤ 0 := by
        have := Int.tmod_nonneg (a := -x) y (by omega)
        rw [Int.neg_tmod] at this; omega
      omega
theorem InK_fdiv {k : IntKind} {x : Int} (m : Nat) (h : InK k x) : InK k (x.fdiv (2 ^ m)) := by
  rw [InK_iff] at h ⊢
  have hp : (0 : Int) < 2 ^ m := Int.pow_pos (by decide)
  rw [Int.fdiv_eq_ediv_of_nonneg _ (Int.le_of_lt hp)]
  have hmin : k.min ≤ 0 := by cases k <;> decide
  have hmax : 0 ≤ k.max := by cases k <;> decide
  have h1 : (1 : Int) ≤ 2 ^ m := hp
  constructor
  · rcases Int.le_total 0 x with h0 | h0
    · have := Int.ediv_nonneg h0 (Int.le_of_lt hp); omega
    · have : x ≤ x / 2 ^ m := by
        rw [Int.le_ediv_iff_mul_le hp]
        have := Int.mul_le_mul_of_nonpos_left h0 h1
        omega
      omega
  · rcases Int.le_total 0 x with h0 | h0
    · have := Int.ediv_le_self (2 ^ m) h0; omega
    · have h2 : x / 2 ^ m ≤ 0 := by
        have := Int.ediv_le_ediv hp h0
        simpa using this
      omega
theorem binInt_ok {op : BinOp} {k : IntKind} {x y : Int} (hx : InK k x) (w : World) : ∃ v, Rd w [v] [binInt op k x y] [] := by
  cases op <;> simp only [binInt] <;> first
    | exact ⟨_, .int (InK_wrap _ _) .nil⟩
    | exact ⟨_, .bool .nil⟩
    | exact ⟨_, .int (InK_tmod hx) .nil⟩
    | exact ⟨_, .int (InK_fdiv _ hx) .nil⟩

section
variable {P : Program} {c : Cx} {n nx : Nat} {sl sl0 : Nat → SV} {hp hp0 : Nat → Option Ent} {a : Act} {o : Oper} {gs : Gd} {e : Eff} {sg : Nat → Option Sig} {nv : Nat}
/-- The value of a deep value without memory behind it. -/
def AV.val : AV → Value
  | .int k n => .int k n
  | .bool b => .bool b
  | .str s => .string ⟨s.toArray⟩
  | _ => Go.undef
theorem binInt_run {op : BinOp} {k k' : IntKind} {x y : Int} (hk : k = k' ∨ op = .shl ∨ op = .shr) (hz : op = .quo ∨ op = .rem → y ≠ 0) (hs : op = .shl ∨ op = .shr → 0 ≤ y) (t : TypeId) (p q : Operand) (w : World) :
    (do eqGuard op t p q (.int k x) (.int k' y); binOp op t (.int k x) (.int k' y) : Sem Value).run P w = .ok (binInt op k x y).val w := by
  have hg := eqGuard_at_int op t p q (.int k' y) k x
  cases op <;> simp only [reduceCtorEq, or_false, or_true, or_self] at hk hz hs <;> simp only [hg]
  all_goals first
    | (subst hk; simp [binOp, Op.intArith, Op.intCmp, Op.intBits, binInt, AV.val]; done)
    | (subst hk; have := hz trivial; simp [binOp, Op.intDiv, binInt, AV.val, this]; done)
    | (have := hs trivial; simp [binOp, Op.shift, binInt, AV.val, Int.not_lt.2 this]; done)
theorem binInt_rd {op : BinOp} {k : IntKind} {x y : Int} (hx : InK k x) (w : World) : Rd w [(binInt op k x y).val] [binInt op k x y] [] := by
  cases op <;> simp only [binInt, AV.val] <;> first
    | exact .int (InK_wrap _ _) .nil
    | exact .bool .nil
    | exact .int (InK_tmod hx) .nil
    | exact .int (InK_fdiv _ hx) .nil
theorem Rd.ne_undef {w : World} {v : Value} {x : AV} {f : List Nat} (h : Rd w [v] [x] f) : x ≠ .undef := by
  rintro rfl; cases h
theorem kindE_int {ρ : List AV} : ∀ (x : E) {k : IntKind}, kindE x = some k → x.den ρ ≠ .undef → ∃ m, x.den ρ = .int k m
  | .int k n, _, h, _ => by simp [kindE] at h; subst h; exact ⟨n, rfl⟩
  | .len y, _, h, hd => by
    simp [kindE] at h; subst h
    simp only [E.den, AV.len] at hd ⊢
    split at hd
    · exact ⟨_, rfl⟩
    · exact absurd rfl hd
  | .slen y, _, h, hd => by
    simp [kindE] at h; subst h
    simp only [E.den, AV.slen] at hd ⊢
    split at hd
    · exact ⟨_, rfl⟩
    · exact absurd rfl hd
  | .conv k y, _, h, hd => by
    simp [kindE] at h; subst h
    simp only [E.den, AV.conv] at hd ⊢
    split at hd
    · exact ⟨_, rfl⟩
    · exact absurd rfl hd
  | .bin op x y, k, h, hd => by
    simp only [E.den] at hd ⊢
    have hx : x.den ρ ≠ .undef := by rintro hh; rw [hh] at hd; exact hd (by simp [AV.bin])
    cases op <;> simp only [kindE, reduceCtorEq] at h
    all_goals
      obtain ⟨m, hm⟩ := kindE_int x h hx
      rw [hm] at hd ⊢
      cases hy : y.den ρ <;> rw [hy] at hd <;> simp only [AV.bin] at hd ⊢ <;> first
        | exact absurd rfl hd
        | (split at hd
           · rename_i hk; rw [if_pos hk]; exact ⟨_, rfl⟩
           · exact absurd rfl hd)
  | .var _, _, h, _ => by simp [kindE] at h
  | .bool _, _, h, _ => by simp [kindE] at h
  | .str _, _, h, _ => by simp [kindE] at h
  | .nilp, _, h, _ => by simp [kindE] at h
  | .lst _, _, h, _ => by simp [kindE] at h
  | .mk _, _, h, _ => by simp [kindE] at h
  | .tup _, _, h, _ => by simp [kindE] at h
  | .ref _, _, h, _ => by simp [kindE] at h
  | .fn .., _, h, _ => by simp [kindE] at h
  | .fld .., _, h, _ => by simp [kindE] at h
  | .proj .., _, h, _ => by simp [kindE] at h
  | .deref _, _, h, _ => by simp [kindE] at h
  | .idx .., _, h, _ => by simp [kindE] at h
  | .sidx .., _, h, _ => by simp [kindE] at h
  | .win .., _, h, _ => by simp [kindE] at h
  | .swin .., _, h, _ => by simp [kindE] at h
  | .app .., _, h, _ => by simp [kindE] at h
  | .set .., _, h, _ => by simp [kindE] at h
  | .put .., _, h, _ => by simp [kindE] at h
  | .rep .., _, h, _ => by simp [kindE] at h
  | .sbin .., _, h, _ => by simp [kindE] at h
  | .bbin .., _, h, _ => by simp [kindE] at h
  | .not _, _, h, _ => by simp [kindE] at h
  | .neg _, _, h, _ => by simp [kindE] at h
  | .ite .., _, h, _ => by simp [kindE] at h
  | .bytes _, _, h, _ => by simp [kindE] at h
  | .text _, _, h, _ => by simp [kindE] at h
end
end Go.Proofs.Ytjneaalpiangdaa
end

/- Part VM. Each operation does what its effect says: tests, fields, indexes, third part. Program independent. -/
section
namespace Go.Proofs.Ytjneaalpiangdaa
open Go.RowKit
section
variable {P : Program} {c : Cx} {n nx : Nat} {sl sl0 : Nat → SV} {hp hp0 : Nat → Option Ent} {a : Act} {o : Oper} {gs : Gd} {e : Eff} {sg : Nat → Option Sig} {nv : Nat}
theorem scalar_rd {s : SV} {v : Value} {x : E} (h : SR c [s] [v]) (hx : scalarSV s = some x) : ∃ f, Rd c.w [v] [x.den c.ρ] f ∧ ∀ b ∈ f, c.ok b := by
  cases s <;> simp only [scalarSV, Option.some.injEq, reduceCtorEq] at hx
  subst hx
  cases h with
  | e h1 h2 _ => exact ⟨_, h1, h2⟩
theorem SR.ofRd0 {v : Value} {x : E} (h : Rd c.w [v] [x.den c.ρ] []) : SR c [.e x] [v] := .e h (by simp) .nil
theorem binInt_den {ρ : List AV} {op : BinOp} {x y : E} {w : World} {v u : Value} {f g : List Nat} (h1 : Rd w [v] [x.den ρ] f) (h2 : Rd w [u] [y.den ρ] g) (hd : needsDfd (.bin op x y) = true → (E.bin op x y).den ρ ≠ .undef) :
    ∃ k k' p q, x.den ρ = .int k p ∧ y.den ρ = .int k' q ∧ (k = k' ∨ op = .shl ∨ op = .shr) ∧ (E.bin op x y).den ρ = binInt op k p q ∧ InK k p ∧ v = .int k p ∧ u = .int k' q := by
  have key : (∃ k k' p q, x.den ρ = .int k p ∧ y.den ρ = .int k' q ∧ (k = k' ∨ op = .shl ∨ op = .shr)) := by
    by_cases hn : needsDfd (.bin op x y) = true
    · have := hd hn
      simp only [E.den] at this
      cases hx : x.den ρ <;> cases hy : y.den ρ <;> simp only [hx, hy, AV.bin, ne_eq, not_true_eq_false] at this
      split at this
      · exact ⟨_, _, _, _, rfl, rfl, by assumption⟩
      · exact absurd rfl this
    · have hn : needsDfd (.bin op x y) = false := by simpa using hn
      have hk : (kindE x).isSome = true ∧ (kindE x == kindE y) = true := by
        cases op <;> simp [needsDfd] at hn <;> simpa using hn
      obtain ⟨k, hk1⟩ := Option.isSome_iff_exists.1 hk.1
      have hk2 : kindE y = some k := by rw [← beq_iff_eq.1 hk.2, hk1]
      obtain ⟨p, hp⟩ := kindE_int x hk1 h1.ne_undef
      obtain ⟨q, hq⟩ := kindE_int y hk2 h2.ne_undef
      exact ⟨k, k, p, q, hp, hq, .inl rfl⟩
  obtain ⟨k, k', p, q, hp, hq, hkk⟩ := key
  obtain ⟨hv, hin⟩ := int_of h1 hp
  obtain ⟨hu, _⟩ := int_of h2 hq
  exact ⟨k, k', p, q, hp, hq, hkk, by simp only [E.den, hp, hq, AV.bin, if_pos hkk], hin, hv, hu⟩
theorem toList_eq_iff (a b : ByteArray) : (a.toList == b.toList) = (a.data.toList == b.data.toList) := by rw [ByteArray.toList_eq, ByteArray.toList_eq]
theorem andThen_assoc {α β γ : Type} (r : Result α) (f : α → World → Result β) (g : β → World → Result γ) : (r.andThen f).andThen g = r.andThen fun a w => (f a w).andThen g := by cases r <;> rfl
theorem run_eqBool (d : Nat) {t : TypeId} (p q : Bool) (h : P.underlying t = some .bool) (w : World) : (Op.equalIn (d + 1) t (.bool p) (.bool q)).run P w = .ok (p == q) w := by
  simp [Op.equalIn, run_underlying h]
theorem run_boolEq {t : TypeId} (p q : Bool) (h : P.underlying t = some .bool) (w : World) : (binOp .eql t (.bool p) (.bool q)).run P w = .ok (.bool (p == q)) w := by
  simp only [binOp]
  simp [Op.equal, Op.maxDepth, run_eqBool 9999 p q h]
theorem run_boolNe {t : TypeId} (p q : Bool) (h : P.underlying t = some .bool) (w : World) : (binOp .neq t (.bool p) (.bool q)).run P w = .ok (.bool (!(p == q))) w := by
  simp only [binOp]
  simp [Op.equal, Op.maxDepth, run_eqBool 9999 p q h]
theorem ex_bin {op : BinOp} {t ty : TypeId} {x y : Operand} (ho : o.op = .binOp op t x y ty) (w : World) {v u : Value} (hv : a.eval x = v) (hu : a.eval y = u) :
    (execOp a.eval o).run P w = ((do eqGuard op t x y v u; binOp op t v u : Sem Value).run P w).andThen fun v w => .ok (.value v) w := by
  simp only [execOp, ho, hv, hu, Sem.run_bind, andThen_assoc, Sem.run_pure]
theorem does_bin_slice (h : Pre P c n nx sl hp a sl0 hp0 o gs) {op : BinOp} {t el : TypeId} {x y : Operand} {ty : TypeId} (ho : o.op = .binOp op t x y ty) (hu : P.underlying t = some (.slice el)) (r1 : SR c [.nils] [a.eval x]) (r2 : SR c [.nils] [a.eval y])
    (hop : op = .eql ∨ op = .neq) : Does P o c n nx sl hp gs a { val := .e (.bool (op == .eql)) } := by
  have ex := fun (v u : Value) (hv : a.eval x = v) (hu : a.eval y = u) => ex_bin (P := P) (o := o) ho c.w hv hu
  generalize hv1 : a.eval x = v1 at r1
  generalize hv2 : a.eval y = v2 at r2
  cases r1 with
  | nils _ => cases r2 with
    | nils _ =>
      refine Does.pure h (v := .bool (op == .eql)) ?_ (.ofRd0 (.bool .nil)) rfl
      rw [ex _ _ hv1 hv2, eqGuard_at_slice]
      rcases hop with rfl | rfl
      · simp [run_eql_nil_slice c.w t el none 0 0 0 0 hu]
      · simp [run_neq_nil_slice c.w t el none 0 0 0 0 hu]
theorem does_bin_int (h : Pre P c n nx sl hp a sl0 hp0 o gs) {op : BinOp} {t : TypeId} {x y : Operand} {ty : TypeId} (ho : o.op = .binOp op t x y ty) {s1 s2 : SV} (r1 : SR c [s1] [a.eval x]) (r2 : SR c [s2] [a.eval y])
    {x' y' : E} (hx' : scalarSV s1 = some x') (hy' : scalarSV s2 = some y') (hd : needsDfd (.bin op x' y') = true → Cn.den c.ρ (.dfd (.bin op x' y'))) (hnz : op = .quo ∨ op = .rem → Cn.den c.ρ (.nz y')) (hnn : op = .shl ∨ op = .shr → Cn.den c.ρ (.nn y')) {ck : List Cn} :
    Does P o c n nx sl hp gs a { chk := ck, val := .e (.bin op x' y') } := by
  obtain ⟨f1, g1, _⟩ := scalar_rd r1 hx'
  obtain ⟨f2, g2, _⟩ := scalar_rd r2 hy'
  obtain ⟨k, k', p, q, e1, e2, hkk, e3, hin, hv, hu'⟩ := binInt_den (op := op) g1 g2 hd
  refine Does.pure h (v := (binInt op k p q).val) ?_ (.ofRd0 (by rw [e3]; exact binInt_rd hin _)) rfl
  rw [ex_bin ho c.w hv hu', binInt_run hkk (fun hop => ?_) (fun hop => ?_)]
  · simp
  · obtain ⟨_, m, hm, hm0⟩ := hnz hop
    rw [e2] at hm; cases hm; exact hm0
  · obtain ⟨_, m, hm, hm0⟩ := hnn hop
    rw [e2] at hm; cases hm; exact hm0
theorem does_bin_str (h : Pre P c n nx sl hp a sl0 hp0 o gs) {op : BinOp} {t : TypeId} {x y : Operand} {ty : TypeId} (ho : o.op = .binOp op t x y ty) {s1 s2 : SV} (r1 : SR c [s1] [a.eval x]) (r2 : SR c [s2] [a.eval y])
    {x' y' : E} (hx' : scalarSV s1 = some x') (hy' : scalarSV s2 = some y') (hd : Cn.den c.ρ (.dfd (.sbin op x' y'))) (hroom : op = .add → Cn.den c.ρ (.roomS x' y')) {ck : List Cn} :
    Does P o c n nx sl hp gs a { chk := ck, val := .e (.sbin op x' y') } := by
  obtain ⟨f1, g1, _⟩ := scalar_rd r1 hx'
  obtain ⟨f2, g2, _⟩ := scalar_rd r2 hy'
  have hd : AV.sbin op (x'.den c.ρ) (y'.den c.ρ) ≠ .undef := hd
  cases hx : x'.den c.ρ <;> cases hy : y'.den c.ρ <;> simp only [hx, hy, AV.sbin, ne_eq, not_true_eq_false] at hd
  obtain ⟨b1, hv1, rfl, _⟩ := str_of g1 hx
  obtain ⟨b2, hv2, rfl, _⟩ := str_of g2 hy
  have hle : op = .add → b1.size + b2.size ≤ 9223372036854775807 := fun hop => by
    obtain ⟨p, q, hp, hq, hle⟩ := hroom hop
    rw [hx] at hp; rw [hy] at hq; cases hp; cases hq
    simpa using hle
  refine Does.pure h (v := match op with | .add => .string (b1 ++ b2) | _ => (binStr op b1.data.toList b2.data.toList).val) ?_ (.ofRd0 ?_) rfl
  · rw [ex_bin ho c.w hv1 hv2, eqGuard_at_string]
    cases op <;> first
      | (exact absurd rfl hd)
      | (have := hle rfl; simp [binOp, Op.stringOp]; omega)
      | (simp [binOp, Op.stringOp, binStr, AV.val, ByteArray.toList_eq, bne]; done)
  · simp only [E.den, hx, hy, AV.sbin]
    cases op <;> simp only [binStr, AV.val, ne_eq, not_true_eq_false] at hd ⊢ <;> first
      | exact .bool .nil
      | (have := hle rfl
         have h9 := Rd.str (w := c.w) (s := b1 ++ b2) (by simpa using this) .nil
         simpa using h9)
theorem does_bin_bool (h : Pre P c n nx sl hp a sl0 hp0 o gs) {op : BinOp} {t : TypeId} {x y : Operand} {ty : TypeId} (ho : o.op = .binOp op t x y ty) (hu : P.underlying t = some .bool) {s1 s2 : SV} (r1 : SR c [s1] [a.eval x]) (r2 : SR c [s2] [a.eval y])
    {x' y' : E} (hx' : scalarSV s1 = some x') (hy' : scalarSV s2 = some y') (hd : Cn.den c.ρ (.dfd (.bbin op x' y'))) {ck : List Cn} :
    Does P o c n nx sl hp gs a { chk := ck, val := .e (.bbin op x' y') } := by
  obtain ⟨f1, g1, _⟩ := scalar_rd r1 hx'
  obtain ⟨f2, g2, _⟩ := scalar_rd r2 hy'
  have hd : AV.bbin op (x'.den c.ρ) (y'.den c.ρ) ≠ .undef := hd
  cases hx : x'.den c.ρ <;> cases hy : y'.den c.ρ <;> simp only [hx, hy, AV.bbin, ne_eq, not_true_eq_false] at hd
  rename_i p q
  have hv1 := bool_of g1 hx
  have hv2 := bool_of g2 hy
  refine Does.pure h (v := (AV.bbin op (.bool p) (.bool q)).val) ?_ (.ofRd0 ?_) rfl
  · rw [ex_bin ho c.w hv1 hv2, eqGuard_at_bool]
    cases op <;> simp only [ne_eq, not_true_eq_false] at hd
    · simp [run_boolEq p q hu, AV.bbin, AV.val]
    · simp [run_boolNe p q hu, AV.bbin, AV.val, bne]
  · simp only [E.den, hx, hy]
    cases op <;> simp only [AV.bbin, AV.val, ne_eq, not_true_eq_false] at hd ⊢ <;> exact .bool .nil
theorem does_bin (h : Pre P c n nx sl hp a sl0 hp0 o gs) {op : BinOp} {t : TypeId} {x y : Operand} {ty : TypeId} (ho : o.op = .binOp op t x y ty) (hns : ∀ fs, P.underlying t ≠ some (.struct fs)) (he : opEff P sg sl0 hp0 nv nx gs o = some e) (hq : e.nilq = none) (hc : ∀ q ∈ e.chk, Cn.den c.ρ q) : Does P o c n nx sl hp gs a e := by
  have hm1 : x ∈ o.op.operands := by simp [ho, Op.operands]
  have hm2 : y ∈ o.op.operands := by simp [ho, Op.operands]
  simp only [opEff, ho, Option.bind_eq_some_iff] at he
  obtain ⟨s1, hs1, s2, hs2, he⟩ := he
  have r1 := h.opd hs1 hm1
  have r2 := h.opd hs2 hm2
  unfold binEff at he
  split at he
  · rename_i el hu
    split at he
    · simp at he; subst he
      exact does_bin_slice h ho hu r1 r2 (.inl rfl)
    · simp at he; subst he
      exact does_bin_slice h ho hu r1 r2 (.inr rfl)
    · obtain ⟨_, _, rfl⟩ := Option.map_eq_some_iff.1 he; cases hq
    · obtain ⟨_, _, rfl⟩ := Option.map_eq_some_iff.1 he; cases hq
    · cases he
  · rename_i kk hu
    split at he
    · rename_i x' y' hx' hy'
      simp at he; subst he
      exact does_bin_int h ho r1 r2 hx' hy' (fun hn => hc _ (by simp [hn])) (fun hop => hc _ (by rcases hop with rfl | rfl <;> simp)) (fun hop => hc _ (by rcases hop with rfl | rfl <;> simp))
    · cases he
  · rename_i hu
    split at he
    · rename_i x' y' hx' hy'
      simp at he; subst he
      exact does_bin_str h ho r1 r2 hx' hy' (hc _ (by simp)) (fun hop => hc _ (by subst hop; simp))
    · cases he
  · rename_i hu
    split at he
    · rename_i x' y' hx' hy'
      simp at he; subst he
      exact does_bin_bool h ho hu r1 r2 hx' hy' (hc _ (by simp))
    · cases he
  · rename_i fs hu; exact absurd hu (hns fs)
  · cases he
end
end Go.Proofs.Ytjneaalpiangdaa
end

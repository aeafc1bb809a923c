/- Parts of a proof, joined: Op, OA, OB, OC, F2. -/
import Derived.Test.YtjneaalpiangdaaK8
import Derived.WalkKit
import Derived.ProofKit
import Derived.OpenShut
import Derived.ChangeOld
import Derived.Below
import Derived.Test.YtjneaalpiangdaaChecked
import Derived.Test.YtjneaalpiangdaaRows
import Derived.ShutString
/- Part Op. How an argument that came in is opened: its cells read as plain data. -/
section
namespace Go.Proofs.Ytjneaalpiangdaa
open Go.ChangeShapes Go.WideShapes Go.ChangeAt Go.RowKit
/-- Whatever reads as a datum of this type reads as plain data. -/
def Opens {α : Type} (P : Program) (t : TypeId) (T : GT α) : Prop :=
  P.cellsOf t = T.size ∧ ∀ (H : Type) (enc : TypeId × Value → H) (w : World) (spare : Nat → Bool) (held : Bool) (fuel : Nat) (cs : List Value) (x : DataW H × List MemPlace),
    DataW.trod enc P w 0 spare held fuel t cs = some x → ∃ y fp, T.rd w cs y fp
theorem addr_add0 (a : Addr) : a.add 0 = a := by simp [Addr.add]
theorem addr_add (b o n : Nat) : Addr.add ⟨b, o, none⟩ n = ⟨b, o + n, none⟩ := by
  unfold Addr.add
  split
  · subst_vars; rfl
  · rfl
theorem opens_int {P : Program} {t : TypeId} (ht : P.underlying t = some (.int .i64)) (hc : P.cellsOf t = 1) : Opens P t gInt := by
  refine ⟨hc, fun H enc w spare held fuel cs x h => ?_⟩
  obtain ⟨n, rfl, _, hw⟩ := DataW.trod_int ht h
  simp only [Lit.wf, Bool.and_eq_true, decide_eq_true_eq] at hw
  exact ⟨n, [], rfl, rfl, hw⟩
theorem open_row {α : Type} {P : Program} {t e : TypeId} {T : GT α} (hs : 0 < T.size) (ht : P.underlying t = some (.slice e)) (he : Opens P e T) {H : Type} {enc : TypeId × Value → H} {w : World} {spare : Nat → Bool} {held : Bool} {fuel : Nat} {cs : List Value}
    {x : DataW H × List MemPlace} (h : DataW.trod enc P w 0 spare held fuel t cs = some x) : ∃ a n c xs fp, cs = [.slice a n c] ∧ n ≤ c ∧ c ≤ maxLen ∧ RdS T w a n xs fp := by
  rcases DataW.trod_slice ht h with ⟨rfl, _⟩ | ⟨a, len, cap, elems, rest, n, _, rfl, _, _, hl, hm, hlen, hel, _, _⟩
  · exact ⟨none, 0, 0, [], [], rfl, Nat.le_refl _, by decide, rfl, Or.inl ⟨rfl, rfl⟩⟩
  rcases Nat.eq_zero_or_pos len with h0 | h0
  · exact ⟨some a, len, cap, [], [], rfl, hl, hm, h0.symm, Or.inl ⟨rfl, rfl⟩⟩
  have hsp : a.spot = none := by
    have hi := hel 0 h0
    rw [List.getElem?_eq_getElem (by rw [hlen]; exact h0), Nat.zero_mul, addr_add0] at hi
    obtain ⟨c1, h1, h2⟩ := Option.bind_eq_some_iff.1 hi
    obtain ⟨_, hcl, hcell⟩ := World.cells?_some h1
    rw [he.1] at hcl hcell
    have h3 := hcell 0 hs
    rw [List.getElem?_eq_getElem (by rw [hcl]; exact hs), addr_add0] at h3
    exact World.cell?_spot h3
  obtain ⟨b, o, s⟩ := a
  dsimp only at hsp
  subst hsp
  have key : ∀ i : Fin len, ∃ p : α × List Nat, ∃ cs, T.rd w cs p.1 p.2 ∧ b < w.heap.size ∧ ∀ j v, cs[j]? = some v → w.cell? ⟨b, o + i * T.size + j, none⟩ = some v := by
    intro i
    have hi := hel i i.2
    rw [List.getElem?_eq_getElem (by rw [hlen]; exact i.2), addr_add] at hi
    obtain ⟨c1, h1, h2⟩ := Option.bind_eq_some_iff.1 hi
    obtain ⟨y, f, hr⟩ := he.2 _ _ _ _ _ _ _ _ h2
    have hb := World.cells?_block h1 (by rw [he.1]; exact hs)
    obtain ⟨_, hcl, hcell⟩ := World.cells?_some h1
    rw [he.1] at hcl hcell
    refine ⟨(y, f), c1, hr, hb, fun j v hj => ?_⟩
    have hjl : j < T.size := by
      rw [← hcl]
      rcases Nat.lt_or_ge j c1.length with h | h
      · exact h
      · rw [List.getElem?_eq_none h] at hj; cases hj
    have h3 := hcell j hjl
    rw [hj, addr_add] at h3
    exact h3
  obtain ⟨f, hf⟩ := Classical.axiomOfChoice key
  obtain ⟨c0, _, hb, _⟩ := hf ⟨0, h0⟩
  refine ⟨_, len, cap, List.ofFn fun i => (f i).1, b :: (List.ofFn fun i => (f i).2).flatten, rfl, hl, hm, by simp, Or.inr ⟨b, o, _, rfl, rfl, hb, by simp, ?_⟩⟩
  intro i x fp hx hfp
  have hi : i < len := by
    rcases Nat.lt_or_ge i len with h | h
    · exact h
    · rw [List.getElem?_eq_none (by simpa using h)] at hx; cases hx
  obtain ⟨cs, h1, _, h2⟩ := hf ⟨i, hi⟩
  rw [List.getElem?_eq_getElem (by simpa using hi)] at hx hfp
  simp only [List.getElem_ofFn, Option.some.injEq] at hx hfp
  subst hx hfp
  exact ⟨cs, h1, h2⟩
/-- A field that reads as a datum. -/
theorem open_field {α : Type} {P : Program} {t : TypeId} {T : GT α} (he : Opens P t T) {H : Type} {enc : TypeId × Value → H} {w : World} {spare : Nat → Bool} {held : Bool} {fuel : Nat} {cs : List Value} {xs : List (DataW H × List MemPlace)} {i : Nat}
    (h : DataW.trod enc P w 0 spare held fuel t cs = xs[i]?) (hi : i < xs.length) : ∃ y fp, T.rd w cs y fp := by
  rw [List.getElem?_eq_getElem hi] at h
  exact he.2 _ _ _ _ _ _ _ _ h
theorem open_row_field {α : Type} {P : Program} {t e : TypeId} {T : GT α} (hs : 0 < T.size) (ht : P.underlying t = some (.slice e)) (he : Opens P e T) {H : Type} {enc : TypeId × Value → H} {w : World} {spare : Nat → Bool} {held : Bool} {fuel : Nat} {cs : List Value}
    {xs : List (DataW H × List MemPlace)} {i : Nat} (h : DataW.trod enc P w 0 spare held fuel t cs = xs[i]?) (hi : i < xs.length) : ∃ a n c ys fp, cs = [.slice a n c] ∧ n ≤ c ∧ c ≤ maxLen ∧ RdS T w a n ys fp := by
  rw [List.getElem?_eq_getElem hi] at h
  exact open_row hs ht he h
end Go.Proofs.Ytjneaalpiangdaa
end

/- Part OA. How an argument that came in is opened as a deep value: by its type, once for all programs. -/
section
namespace Go.Proofs.Ytjneaalpiangdaa
open Go.ChangeShapes Go.WideShapes Go.ChangeAt Go.RowKit
/-- Whatever reads as a datum of this type reads as cells of which Q holds. -/
def OpA (P : Program) (t : TypeId) (Q : List AV → Prop) : Prop :=
  0 < P.cellsOf t ∧ ∀ (H : Type) (enc : TypeId × Value → H) (w : World) (spare : Nat → Bool) (held : Bool) (fuel : Nat) (cs : List Value) (x : DataW H × List MemPlace),
    DataW.trod enc P w 0 spare held fuel t cs = some x → cs.length = P.cellsOf t ∧ (∀ u ∈ cs, u.oneCell' = true) ∧ ∃ xs f, Rd w cs xs f ∧ Q xs
theorem OpA.mono {P : Program} {t : TypeId} {Q R : List AV → Prop} (h : OpA P t Q) (hq : ∀ xs, Q xs → R xs) : OpA P t R :=
  ⟨h.1, fun H enc w s hd fuel cs x hx => by
    obtain ⟨a, b, xs, f, c, d⟩ := h.2 H enc w s hd fuel cs x hx
    exact ⟨a, b, xs, f, c, hq _ d⟩⟩
theorem opA_int {P : Program} {t : TypeId} {k : IntKind} (ht : P.underlying t = some (.int k)) (hc : P.cellsOf t = 1) : OpA P t fun xs => ∃ n, InK k n ∧ xs = [.int k n] := by
  refine ⟨by omega, fun H enc w spare held fuel cs x h => ?_⟩
  obtain ⟨n, rfl, _, hw⟩ := DataW.trod_int ht h
  have hk : InK k n := by
    simp only [Lit.wf, Bool.and_eq_true, decide_eq_true_eq] at hw
    obtain ⟨h1, h2⟩ := hw
    unfold InK IntKind.wrap
    cases k <;> simp [IntKind.min, IntKind.max, IntKind.bits, IntKind.signed] at h1 h2 ⊢ <;> (try split) <;> omega
  exact ⟨by simp [hc], by simp [Value.oneCell'], [.int k n], [], .int hk .nil, n, hk, rfl⟩
theorem opA_bool {P : Program} {t : TypeId} (ht : P.underlying t = some .bool) (hc : P.cellsOf t = 1) : OpA P t fun xs => ∃ b, xs = [.bool b] := by
  refine ⟨by omega, fun H enc w spare held fuel cs x h => ?_⟩
  obtain ⟨b, rfl, _⟩ := DataW.trod_bool ht h
  exact ⟨by simp [hc], by simp [Value.oneCell'], [.bool b], [], .bool .nil, b, rfl⟩
theorem opA_string {P : Program} {t : TypeId} (ht : P.underlying t = some .string) (hc : P.cellsOf t = 1) : OpA P t fun xs => ∃ s : List UInt8, s.length ≤ 9223372036854775807 ∧ xs = [.str s] := by
  refine ⟨by omega, fun H enc w spare held fuel cs x h => ?_⟩
  obtain ⟨s, rfl, _, hs⟩ := DataW.trod_string ht h
  have hs' : s.size ≤ 9223372036854775807 := hs
  exact ⟨by simp [hc], by simp [Value.oneCell'], [.str s.data.toList], [], .str hs' .nil, s.data.toList, by simpa using hs', rfl⟩
/-- A row's element. -/
def ElA (ag : Bool) (Q : List AV → Prop) (y : AV) : Prop := if ag then ∃ zs, y = .agg zs ∧ Q zs else y.cells = [y] ∧ Q [y]
theorem elA_of {ag : Bool} {Q : List AV → Prop} {xs : List AV} (hq : Q xs) (h : ag = true ∨ (xs.length = 1 ∧ ∀ y ∈ xs, y.cells = [y])) : ∃ y, ElA ag Q y ∧ y.cells = xs := by
  cases ag with
  | true => exact ⟨.agg xs, by simpa [ElA] using hq, rfl⟩
  | false =>
    obtain ⟨hl, hy⟩ := h.resolve_left (by simp)
    match xs, hl with
    | [y], _ => exact ⟨y, by simpa [ElA] using ⟨hy y (by simp), hq⟩, hy y (by simp)⟩
theorem opened_one {w : World} {v : Value} {x : AV} {f : List Nat} (h : Rd w [v] [x] f) (hv : v.oneCell' = true) : x.cells = [x] := by
  cases x <;> first | rfl | (cases h; simp [Value.oneCell'] at hv)
theorem rows_rd {w : World} {b o sz : Nat} {C : Array Value} {T : TypeId} {fz} (hC : w.heap[b]? = some (.cells C T fz)) (ag : Bool) (Q : List AV → Prop) :
    ∀ (n i : Nat), (∀ k, k < n → ∃ cs y f, Rd w cs y.cells f ∧ ElA ag Q y ∧ cs.length = sz ∧ (∀ u ∈ cs, u.oneCell' = true) ∧ ∀ j v, cs[j]? = some v → w.cell? ⟨b, o + (i + k) * sz + j, none⟩ = some v) →
      ∃ cs ys f, ys.length = n ∧ Rd w cs (flatC ys) f ∧ (∀ y ∈ ys, ElA ag Q y ∧ y.cells.length = sz) ∧ (∀ u ∈ cs, u.oneCell' = true) ∧ ∀ j v, cs[j]? = some v → C[o + i * sz + j]? = some v := by
  intro n
  induction n with
  | zero => exact fun i _ => ⟨[], [], [], rfl, .nil, by simp, by simp, by simp⟩
  | succ n ih =>
    intro i h
    obtain ⟨cs, y, f, h1, h2, h3, h4, h5⟩ := h 0 (by omega)
    obtain ⟨cs', ys, f', g1, g2, g3, g4, g5⟩ := ih (i + 1) fun k hk => by
      have := h (k + 1) (by omega)
      rw [show i + (k + 1) = i + 1 + k by omega] at this
      exact this
    refine ⟨cs ++ cs', y :: ys, f ++ f', by simp [g1], ?_, ?_, ?_, ?_⟩
    · have e : flatC (y :: ys) = y.cells ++ flatC ys := by simp [flatC]
      rw [e]
      exact h1.app g2
    · intro z hz
      rcases List.mem_cons.1 hz with rfl | hz
      · exact ⟨h2, by rw [← h1.len, h3]⟩
      · exact g3 z hz
    · intro u hu
      rcases List.mem_append.1 hu with hu | hu
      · exact h4 u hu
      · exact g4 u hu
    · intro j v hj
      rcases Nat.lt_or_ge j cs.length with hl | hl
      · rw [List.getElem?_append_left hl] at hj
        have := h5 j v hj
        unfold World.cell? at this
        rw [hC] at this
        simpa using this
      · rw [List.getElem?_append_right hl] at hj
        have := g5 _ v hj
        rw [h3] at this hl
        rw [show o + i * sz + j = o + (i + 1) * sz + (j - sz) by rw [Nat.add_mul]; omega]
        exact this
theorem opA_slice {P : Program} {t e : TypeId} {Q : List AV → Prop} (ag : Bool) (ht : P.underlying t = some (.slice e)) (hc : P.cellsOf t = 1) (he : OpA P e Q) (ha : ag = true ∨ P.cellsOf e = 1) :
    OpA P t fun xs => ∃ ys, ys.length ≤ 9223372036854775807 ∧ (∀ y ∈ ys, ElA ag Q y) ∧ xs = [.sl ys] := by
  refine ⟨by omega, fun H enc w spare held fuel cs x h => ?_⟩
  have emp : ∀ a c, ([Value.slice a 0 c]).length = P.cellsOf t ∧ (∀ u ∈ [Value.slice a 0 c], u.oneCell' = true) ∧ ∃ xs f, Rd w [.slice a 0 c] xs f ∧ ∃ ys, ys.length ≤ 9223372036854775807 ∧ (∀ y ∈ ys, ElA ag Q y) ∧ xs = [.sl ys] :=
    fun a c => ⟨by simp [hc], by simp [Value.oneCell'], [.sl []], [], .snil .nil, [], by simp, by simp, rfl⟩
  rcases DataW.trod_slice ht h with ⟨rfl, _⟩ | ⟨a, len, cap, elems, rest, n, _, rfl, _, _, hl, hm, hlen, hel, _, _⟩
  · exact emp none 0
  rcases Nat.eq_zero_or_pos len with h0 | h0
  · subst h0
    exact emp (some a) cap
  have h0e := he.1
  have hsp : a.spot = none := by
    have hi := hel 0 h0
    rw [List.getElem?_eq_getElem (by rw [hlen]; exact h0), Nat.zero_mul, addr_add0] at hi
    obtain ⟨c1, h1, h2⟩ := Option.bind_eq_some_iff.1 hi
    obtain ⟨_, hcl, hcell⟩ := World.cells?_some h1
    have h3 := hcell 0 h0e
    rw [List.getElem?_eq_getElem (by rw [hcl]; exact h0e), addr_add0] at h3
    exact World.cell?_spot h3
  obtain ⟨b, o, s⟩ := a
  dsimp only at hsp
  subst hsp
  have key : ∀ i, i < len → ∃ cs y f, Rd w cs y.cells f ∧ ElA ag Q y ∧ cs.length = P.cellsOf e ∧ (∀ u ∈ cs, u.oneCell' = true) ∧ ∀ j v, cs[j]? = some v → w.cell? ⟨b, o + (0 + i) * P.cellsOf e + j, none⟩ = some v := by
    intro i hlt
    have hi := hel i hlt
    rw [List.getElem?_eq_getElem (by rw [hlen]; exact hlt), addr_add] at hi
    obtain ⟨c1, h1, h2⟩ := Option.bind_eq_some_iff.1 hi
    obtain ⟨hc1, ho1, xs, f, hr, hq⟩ := he.2 _ _ _ _ _ _ _ _ h2
    obtain ⟨_, hcl, hcell⟩ := World.cells?_some h1
    have hone : ag = true ∨ (xs.length = 1 ∧ ∀ y ∈ xs, y.cells = [y]) := by
      rcases ha with ha | ha
      · exact .inl ha
      · have hx1 : xs.length = 1 := by rw [← hr.len, hc1, ha]
        refine .inr ⟨hx1, fun y hy => ?_⟩
        have hc11 : c1.length = 1 := by rw [hc1, ha]
        match xs, c1, hx1, hc11 with
        | [z], [v], _, _ =>
          obtain rfl := List.mem_singleton.1 hy
          exact opened_one hr (ho1 v (by simp))
    obtain ⟨y, hy, rfl⟩ := elA_of hq hone
    refine ⟨c1, y, f, hr, hy, hc1, ho1, fun j v hj => ?_⟩
    have hjl : j < P.cellsOf e := by
      rw [← hcl]
      rcases Nat.lt_or_ge j c1.length with h | h
      · exact h
      · rw [List.getElem?_eq_none h] at hj; cases hj
    have h3 := hcell j hjl
    rw [hj, addr_add] at h3
    rw [Nat.zero_add]
    exact h3
  obtain ⟨C, T, fz, hC⟩ : ∃ C T fz, w.heap[b]? = some (.cells C T fz) := by
    obtain ⟨cs, y, f, _, _, hl1, _, hcl⟩ := key 0 h0
    have h3 := hcl 0 _ (List.getElem?_eq_getElem (by omega))
    unfold World.cell? at h3
    split at h3
    · next c t fz hh => exact ⟨c, t, fz, hh⟩
    · cases h3
  obtain ⟨cs, ys, f, g1, g2, g3, g4, g5⟩ := rows_rd hC ag Q len 0 key
  have hlen' : len ≤ 9223372036854775807 := by have : maxLen = 9223372036854775807 := by decide +kernel
                                               omega
  refine ⟨by simp [hc], by simp [Value.oneCell'], [.sl ys], b :: (f ++ []), .scons hC h0 ⟨hlen', hl⟩ g1 (fun y hy => (g3 y hy).2) h0e (fun j v hj => by simpa using g5 j v hj) g4 g2 .nil, ys, by omega, fun y hy => (g3 y hy).1, rfl⟩
/-! Structs. -/
def offsB (P : Program) : Nat → List Field → Nat → Bool
  | o, [], n => o == n
  | o, f :: fs, n => f.offset == o && offsB P (o + P.cellsOf f.type) fs n
inductive FldsA (P : Program) : List Field → List (List AV → Prop) → Prop where
  | nil : FldsA P [] []
  | cons {f fs Q Qs} : OpA P f.type Q → FldsA P fs Qs → FldsA P (f :: fs) (Q :: Qs)
def QFlds : List (List AV → Prop) → List AV → Prop
  | [], xs => xs = []
  | Q :: Qs, xs => ∃ a b, xs = a ++ b ∧ Q a ∧ QFlds Qs b
theorem flds_rd {P : Program} {H : Type} {enc : TypeId × Value → H} {w : World} {spare : Nat → Bool} {held : Bool} {n : Nat} {cs : List Value} {fs : List Field} {Qs : List (List AV → Prop)} (hF : FldsA P fs Qs) :
    ∀ o, offsB P o fs cs.length = true → (∀ f ∈ fs, ∃ x, DataW.trod enc P w 0 spare held n f.type ((cs.drop f.offset).take (P.cellsOf f.type)) = some x) →
      (∀ u ∈ cs.drop o, u.oneCell' = true) ∧ ∃ xs f, Rd w (cs.drop o) xs f ∧ QFlds Qs xs := by
  induction hF with
  | nil =>
    intro o ho _
    have : o = cs.length := by simpa [offsB] using ho
    subst this
    simp only [List.drop_length]
    exact ⟨by simp, [], [], .nil, rfl⟩
  | @cons fd fs' Q Qs' hQ _ ih =>
    intro o ho hx
    simp only [offsB, Bool.and_eq_true, beq_iff_eq] at ho
    obtain ⟨rfl, ho⟩ := ho
    obtain ⟨x, h1⟩ := hx _ (List.mem_cons_self ..)
    obtain ⟨hl, h2, xs, f, h3, h4⟩ := hQ.2 _ _ _ _ _ _ _ _ h1
    obtain ⟨k2, ys, g, k3, k4⟩ := ih _ ho fun f hf => hx f (List.mem_cons_of_mem _ hf)
    rw [← List.drop_drop] at k2 k3
    rw [← List.take_append_drop (P.cellsOf fd.type) (cs.drop fd.offset)]
    refine ⟨fun u hu => ?_, xs ++ ys, f ++ g, h3.app k3, xs, ys, rfl, h4, k4⟩
    rcases List.mem_append.1 hu with hu | hu
    · exact h2 u hu
    · exact k2 u hu
theorem opA_struct {P : Program} {t : TypeId} {fs : Array Field} {Qs : List (List AV → Prop)} (ht : P.underlying t = some (.struct fs)) (h0 : 0 < P.cellsOf t) (ho : offsB P 0 fs.toList (P.cellsOf t) = true) (hF : FldsA P fs.toList Qs) :
    OpA P t (QFlds Qs) := by
  refine ⟨h0, fun H enc w spare held fuel cs x h => ?_⟩
  obtain ⟨xs, n, _, _, hl, hlen, hf⟩ := DataW.trod_struct ht h
  have := flds_rd (cs := cs) (enc := enc) (w := w) (spare := spare) (held := held) (n := n) hF 0 (by rw [hl]; exact ho) fun f hm => by
    obtain ⟨i, hi⟩ := List.getElem?_of_mem hm
    have hi' : fs[i]? = some f := by simpa using hi
    have hlt : i < xs.length := by
      rw [hlen]
      rcases Nat.lt_or_ge i fs.size with h | h
      · exact h
      · rw [Array.getElem?_eq_none h] at hi'; cases hi'
    exact ⟨xs[i], by rw [hf i f hi', List.getElem?_eq_getElem hlt]⟩
  rw [List.drop_zero] at this
  exact ⟨hl, this⟩
end Go.Proofs.Ytjneaalpiangdaa
end

/- Part OB. From the contract of a law over deep values to what a statement asks: it returns true, and nothing is changed. -/
section
namespace Go.Proofs.Ytjneaalpiangdaa
open Go.ChangeShapes Go.WideShapes Go.ChangeAt Go.RowKit
theorem args_nil {P : Program} {w : World} : ArgsR P w [] [] [] [] [] [] := .nil
theorem args_cons {P : Program} {w : World} {t : TypeId} {ts : List TypeId} {v : Value} {vs : List Value} {x : AV} {xs : List AV} {f rf : List Nat} (h : Rd w [v] [x] f) (k : ArgsR P w ts [] vs xs rf []) : ArgsR P w (t :: ts) [] (v :: vs) (x :: xs) (f ++ rf) [] :=
  ArgsR.cons (h := []) (hs := []) (ms := []) ⟨h, rfl⟩ k
theorem law_true {P : Program} {sg : Nat → Option Sig} {f : Nat} {fn : Func} {t : TypeId} {xs : List AV} (h : Rts P sg f xs (.bool true)) (hf : f < 1000000) {s : Sig} (hs : sg f = some s) (hro : ∀ m ∈ s.modes, m = .ro) (hfl : anyFl P t s.res = false) (hfn : P.funcs[f]? = some fn) (hr : fn.resultTypes.toList = [t])
    {w : World} {vs : List Value} {rf : List Nat} (ha : ArgsR P w fn.params.toList [] vs xs rf []) :
    Calls P f vs.toArray w fun e w' => e = .returned (.bool true) ∧ Below w.heap.size w w' := by
  unfold Rts at h
  rw [if_pos hf] at h
  obtain ⟨s', hs', fn', hfn', _, _, _, _, hc⟩ := h
  rw [hs] at hs'
  obtain rfl := Option.some.inj hs'
  rw [hfn] at hfn'
  obtain rfl := Option.some.inj hfn'
  refine (hc w vs rf [] (ha.anyRo _ hro) (by simp) (by simp)).mono fun e w' ⟨v, he, hp⟩ => ?_
  obtain ⟨⟨R, bs, f1, o1, f2, o2, hR, hres, _⟩, hm⟩ := hp
  have hRt : R = .bool true := by
    cases bs with
    | nil => exact hR.symm
    | cons => cases hR
  subst hRt
  rw [hr] at hres
  have h2 : ValR P w' t s.res v (.bool true) f1 o1 := hres
  unfold ValR at h2
  rw [hfl] at h2
  obtain ⟨h3, _⟩ := h2
  have : v = .bool true := by cases h3; rfl
  subst this
  exact ⟨he, hm.below⟩
section
variable {P : Program} {t : TypeId} {Q : List AV → Prop} {H : Type} {enc : TypeId × Value → H} {w : World} {spare : Nat → Bool} {held : Bool} {v : Value} {d : DataW H} {p : List MemPlace} {r : Reach} {base : Nat}
theorem arg_one (hO : OpA P t Q) (hc : v.cells = #[v]) (h : DataW.Trod enc P w 0 spare held t v d p) : ∃ x f, Rd w [v] [x] f ∧ Q [x] := by
  obtain ⟨n, h⟩ := h
  rw [hc] at h
  obtain ⟨_, _, xs, f, hr, hq⟩ := hO.2 _ _ _ _ _ _ _ _ h
  have hl := hr.len
  match xs, hl with
  | [x], _ => exact ⟨x, f, hr, hq⟩
theorem arg_struct {fs : Array Field} (hO : OpA P t Q) (ht : P.underlying t = some (.struct fs)) (hv : Value.okWide P w r base t v) (h : DataW.Trod enc P w 0 spare held t v d p) : ∃ xs f, Rd w [v] [.agg xs] f ∧ Q xs := by
  obtain ⟨n, h⟩ := h
  obtain ⟨cs, rfl, _⟩ := okWide_struct ht hv
  obtain ⟨_, h1, xs, f, hr, hq⟩ := hO.2 _ _ _ _ _ _ _ _ h
  refine ⟨xs, f ++ [], ?_, hq⟩
  have := Rd.agg (w := w) h1 hr .nil
  simpa [Value.cells] using this
theorem arg_slice {e : TypeId} (hO : OpA P t Q) (ht : P.underlying t = some (.slice e)) (hv : Value.okWide P w r base t v) (h : DataW.Trod enc P w 0 spare held t v d p) : ∃ x f, Rd w [v] [x] f ∧ Q [x] := by
  obtain ⟨a, l, c, rfl⟩ := okWide_slice ht hv
  exact arg_one hO rfl h
theorem arg_int {k : IntKind} (hO : OpA P t Q) (ht : P.underlying t = some (.int k)) (hv : Value.okWide P w r base t v) (h : DataW.Trod enc P w 0 spare held t v d p) : ∃ x f, Rd w [v] [x] f ∧ Q [x] := by
  obtain ⟨n, rfl⟩ := okWide_int ht hv
  exact arg_one hO rfl h
theorem arg_bool (hO : OpA P t Q) (ht : P.underlying t = some .bool) (hv : Value.okWide P w r base t v) (h : DataW.Trod enc P w 0 spare held t v d p) : ∃ x f, Rd w [v] [x] f ∧ Q [x] := by
  obtain ⟨n, rfl⟩ := okWide_bool ht hv
  exact arg_one hO rfl h
theorem arg_string (hO : OpA P t Q) (ht : P.underlying t = some .string) (hv : Value.okWide P w r base t v) (h : DataW.Trod enc P w 0 spare held t v d p) : ∃ x f, Rd w [v] [x] f ∧ Q [x] := by
  obtain ⟨n, rfl⟩ := okWide_string ht hv
  exact arg_one hO rfl h
end
end Go.Proofs.Ytjneaalpiangdaa
end

/- Part OC. How the arguments of the seat's laws are opened as deep values. -/
section
namespace Go.Proofs.Ytjneaalpiangdaa
open Go.ChangeShapes Go.WideShapes Go.ChangeAt Go.RowKit
theorem list_of {α : Type} {av : α → AV} : ∀ {ys : List AV}, (∀ y ∈ ys, ElA true (fun xs => ∃ c, .agg xs = av c) y) → ∃ l : List α, ys = l.map av
  | [], _ => ⟨[], rfl⟩
  | y :: ys, h => by
    obtain ⟨l, rfl⟩ := list_of fun z hz => h z (List.mem_cons_of_mem _ hz)
    have h0 := h y (List.mem_cons_self ..)
    simp only [ElA, if_true] at h0
    obtain ⟨zs, rfl, c, hc⟩ := h0
    exact ⟨c :: l, by simp [hc]⟩
theorem opInt : OpA Try.prog 3 fun xs => ∃ n, InK .i64 n ∧ xs = [.int .i64 n] := opA_int Try.underlying3 (by kernel_rfl)
theorem opClock : OpA Try.prog 51 fun xs => ∃ c, .agg xs = avClock c :=
  (opA_struct Try.underlying51 (by decide +kernel) (by kernel_rfl) (.cons opInt .nil)).mono fun _ ⟨_, _, e, ⟨n, _, h0⟩, h1⟩ => by
    subst e h0 h1
    exact ⟨⟨n⟩, rfl⟩
theorem opVLease : OpA Try.prog 121 fun xs => ∃ c, .agg xs = avVLease c :=
  (opA_struct Try.underlying121 (by decide +kernel) (by kernel_rfl) (.cons opInt (.cons opInt .nil))).mono fun _ ⟨_, _, e, ⟨n, _, h0⟩, _, _, e1, ⟨n1, _, h1⟩, h2⟩ => by
    subst e1 h1 h2 e h0
    exact ⟨⟨n, n1⟩, rfl⟩
theorem opAct : OpA Try.prog 56 fun xs => ∃ c, .agg xs = avAct c :=
  (opA_struct Try.underlying56 (by decide +kernel) (by kernel_rfl) (.cons opInt (.cons opInt (.cons opInt .nil)))).mono fun _ ⟨_, _, e, ⟨n, _, h0⟩, _, _, e1, ⟨n1, _, h1⟩, _, _, e2, ⟨n2, _, h2⟩, h3⟩ => by
    subst e2 h2 h3 e1 h1 e h0
    exact ⟨⟨n, n1, n2⟩, rfl⟩
theorem opClocks : OpA Try.prog 52 fun xs => ∃ l : List DClock, l.length ≤ 9223372036854775807 ∧ xs = [.sl (l.map avClock)] :=
  (opA_slice true Try.underlying52 (by kernel_rfl) opClock (.inl rfl)).mono fun _ ⟨ys, hl, hy, e⟩ => by
    obtain ⟨l, rfl⟩ := list_of hy
    exact ⟨l, by simpa using hl, e⟩
theorem opVLeases : OpA Try.prog 53 fun xs => ∃ l : List DVLease, l.length ≤ 9223372036854775807 ∧ xs = [.sl (l.map avVLease)] :=
  (opA_slice true Try.underlying53 (by kernel_rfl) opVLease (.inl rfl)).mono fun _ ⟨ys, hl, hy, e⟩ => by
    obtain ⟨l, rfl⟩ := list_of hy
    exact ⟨l, by simpa using hl, e⟩
theorem opActs : OpA Try.prog 72 fun xs => ∃ l : List DRenewAct, l.length ≤ 9223372036854775807 ∧ xs = [avActs l] :=
  (opA_slice true Try.underlying72 (by kernel_rfl) opAct (.inl rfl)).mono fun _ ⟨ys, hl, hy, e⟩ => by
    obtain ⟨l, rfl⟩ := list_of hy
    exact ⟨l, by simpa using hl, e⟩
theorem opRenew : OpA Try.prog 55 fun xs => ∃ x : DRenew, x.fClocks.length ≤ 9223372036854775807 ∧ x.fLeases.length ≤ 9223372036854775807 ∧ .agg xs = avRenew x :=
  (opA_struct Try.underlying55 (by decide +kernel) (by kernel_rfl) (.cons opInt (.cons opClock (.cons opClocks (.cons opInt (.cons opVLeases .nil)))))).mono
    fun _ ⟨_, _, e, ⟨n, _, h0⟩, _, _, e1, ⟨m, h1⟩, _, _, e2, ⟨l, hl, h2⟩, _, _, e3, ⟨n3, _, h3⟩, _, _, e4, ⟨l4, hl4, h4⟩, h5⟩ => by
    have h1' := AV.agg.inj h1
    subst e4 h4 h5 e3 h3 e2 h2 h1' e1 h0 e
    exact ⟨⟨n, m, l, n3, l4⟩, hl, hl4, rfl⟩
end Go.Proofs.Ytjneaalpiangdaa
end

/- Part F2. The law FnExactPlayRenew returns true at every input, and every argument reads afterwards as it read before. Condition: none beyond the given row. -/
section
namespace Go.Proofs.Ytjneaalpiangdaa.fnExactPlayRenewDone
open Go.ChangeShapes Go.WideShapes Go.ChangeAt Go.RowKit
open Go.Proofs.Ytjneaalpiangdaa
set_option linter.unusedVariables false
theorem own : ownKnob Try.prog.godebug = none := by kernel_rfl
theorem laidOut : laidOutB Try.prog = true := by kernel_rfl
theorem sig : sgs 6 = some ⟨[.ro, .ro], [false]⟩ := by kernel_rfl
set_option maxRecDepth 100000 in
theorem lifted (os : Os) (started : os.Started) (H : Type) (enc : TypeId × Value → H) :
    ReturnsInHanded {} Try.checked os 6 .any (Rows.fnExactPlayRenewSpec.pre6 enc Try.prog Try.f6 Rows.fnExactPlayRenewRow.domain false) (Rows.fnExactPlayRenewSpec.post enc Try.prog Try.f6 false true false false) := by
  refine returnsInHanded_of_change (C := Try.checked) own started (by kernel_rfl) Try.func6
    (ChangeSpec.witness6 (enc := enc) (C := Try.checked) false ⟨#[], #[.agg #[.int .i64 0, .int .i64 0, .slice none 0 0, .int .i64 0, .slice none 0 0], .slice none 0 0], []⟩ 8 (by kernel_rfl) (by kernel_rfl) (by kernel_rfl) (by kernel_rfl)) ?_
  intro W base args ds gs before hval0 hW hcnd _
  have hval : ∀ (j : Nat) t v, Try.f6.params[j]? = some t → args[j]? = some v → Value.okWide Try.prog W .any base t v := hval0
  have hW' := hW
  obtain ⟨p, q, hA0, hV, rfl, hfz, hnd⟩ := hW
  have hA : DataW.TrodAll enc Try.prog W 0 (fun _ => true) true Try.f6.params.toList args.toList ds p := hA0
  rw [Try.params6] at hA hval
  obtain ⟨v0, vs0, d0, ds0, p0, q0, hargs, rfl, rfl, h0, r0⟩ := trodAll_cons hA
  obtain ⟨v1, vs1, d1, ds1, p1, q1, rfl, rfl, rfl, h1, r1⟩ := trodAll_cons r0
  obtain ⟨rfl, rfl, rfl⟩ := trodAll_nil r1
  obtain rfl : args = #[v0, v1] := by cases args; simp_all
  obtain ⟨rfl, rfl⟩ := trodVars_none hV
  obtain ⟨_, f0, a0, x, hx1, hx2, e0⟩ := arg_struct opRenew Try.underlying55 (hval 0 55 v0 rfl rfl) h0
  obtain ⟨_, f1, a1, l, hl, e1⟩ := arg_slice opActs Try.underlying72 (hval 1 72 v1 rfl rfl) h1
  rw [e0] at a0
  obtain rfl := (List.cons.inj e1).1
  have k0 := h0
  have lt0 : ∀ x ∈ p0, x.block < W.heap.size := by obtain ⟨m, hm⟩ := k0; exact DataW.trod_lt m _ _ _ hm
  have k1 := h1
  have lt1 : ∀ x ∈ p1, x.block < W.heap.size := by obtain ⟨m, hm⟩ := k1; exact DataW.trod_lt m _ _ _ hm
  clear hA0 hval0
  refine (law_true (R_lawPlay x l hx1 hx2 hl) (by decide) sig (by simp) (by kernel_rfl) Try.func6 (t := 4) rfl (vs := [v0, v1]) (w := W) (by
    rw [Try.params6]
    exact args_cons a0 (args_cons a1 args_nil))).mono fun e W' ⟨he, bel⟩ => ?_
  subst he
  exact ⟨_, rfl, _, _, _, [], _, [], hW', trodAll_mk1 (shut_bool Try.underlying4 _), (trodAll_cons_mk (Below.trod laidOut (by kernel_rfl) (of_decide_eq_true (by kernel_rfl)) k0 bel lt0) (trodAll_cons_mk (Below.trod laidOut (by kernel_rfl) (of_decide_eq_true (by kernel_rfl)) k1 bel lt1) trodAll_mk0)), rfl, bel.frame _, fun h => by cases h⟩

theorem over : Rows.fnExactPlayRenewRow.holds Try.pinned (OpenSpec.ofChange Rows.fnExactPlayRenewSpec) :=
  OpenClaim.holds_of_wide 6 Try.f6 rfl rfl rfl rfl rfl rfl rfl ⟨rfl, rfl, rfl, rfl, rfl⟩ rfl rfl rfl rfl rfl (by kernel_rfl) Try.func6 (by kernel_rfl)
    (of_decide_eq_true (by kernel_rfl)) (by unfold Func.isWrapper; first | (rw [if_pos (by decide +kernel)]; kernel_rfl) | (rw [if_neg (by decide +kernel)]; exact ⟨rfl, rfl⟩))
    (fun os started H enc _ => lifted os started H enc)
end Go.Proofs.Ytjneaalpiangdaa.fnExactPlayRenewDone
namespace Go.Proofs.Ytjneaalpiangdaa
/-- The statement. -/
theorem fnExactPlayRenewProved : Rows.FnExactPlayRenewSaid := fnExactPlayRenewDone.over
#print axioms fnExactPlayRenewProved
end Go.Proofs.Ytjneaalpiangdaa
end

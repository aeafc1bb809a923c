/- Parts of a proof, joined: DA, DB, MA, MB, OB, OG, QA, QO, NA, QM, ND, N1, N2, N3, N4. -/
import Derived.Test.YtjneaalpiangdaaKB4
import Derived.Test.YtjneaalpiangdaaChecked
/- Part DA. How functions of the program are handed over to, and the road from a tree to a contract. -/
section
namespace Go.Proofs.Ytjneaalpiangdaa
open Go.RowKit

noncomputable def flT (t : TypeId) : List Bool := (leaves Try.prog t).map fun u => match elemT Try.prog u with | some e => flatT Try.prog e | none => false
def fl5 : List Bool := [false, false, true, false, true]
noncomputable def ptrFl (u : TypeId) : List Bool := if (leaves Try.prog u).length = 5 then fl5 else []
noncomputable def sgGen (fn : Func) : Sig := { modes := fn.params.toList.map fun t => match ptrT Try.prog t with | some u => .bx (ptrFl u) (ptrFl u) | none => .ro, res := fn.resultTypes.toList.flatMap flT }
def sgSpec (f : Nat) : Option Sig :=
  match f with
  | 49 => some { modes := [.va fl5, .ro], res := fl5 }
  | 24 => some { modes := [.mu fl5, .ro], res := [] }
  | 75 => some { modes := [.mu [true], .ro], res := [] }
  | 76 => some { modes := [.mu [true], .ro], res := [] }
  | 39 => some { modes := [.mu [true], .ro], res := [] }
  | 40 => some { modes := [.mu [true], .ro], res := [] }
  | 7 => some { modes := [], res := [] }
  | 26 => some { modes := [], res := [] }
  | _ => none
noncomputable def sgs (f : Nat) : Option Sig := match Try.prog.funcs[f]? with
  | some fn => some ((sgSpec f).getD (sgGen fn))
  | none => none
theorem mixedT : Try.prog.follows .mixedOrders = true := by kernel_rfl
theorem fewT : Try.prog.funcs.size < 1000000 := by
  have : (decide (Try.prog.funcs.size < 1000000)) = true := by kernel_rfl
  exact of_decide_eq_true this
theorem sgs_lt (f : Nat) (s : Sig) (h : sgs f = some s) : f < 1000000 := by
  unfold sgs at h
  split at h
  · rename_i fn hf
    have := (Array.getElem?_eq_some_iff.1 hf).1
    exact Nat.lt_trans this fewT
  · cases h
/-- What a contract asks of a function beside its tree. -/
def chkF (P : Program) (sg : Nat → Option Sig) (f : Nat) (xs : List AV) (r : AV) : Bool :=
  match P.funcs[f]?, sg f with
  | some fn, some s => !(fn.name == "runtime.NumGoroutine") && resFlat P fn s r && xs.length == fn.params.size + fn.nfree
  | _, _ => false
abbrev Den (t : Tr) (r : AV) (xs : List AV) : Prop := t.den (Rts Try.prog sgs) (fun r' => r' = r) (fun _ _ _ _ => False) [] xs
theorem rts_of {f : Nat} {t : Tr} {xs : List AV} {r : AV} (hc : comp Try.prog sgs f = some t) (hk : chkF Try.prog sgs f xs r = true) (hd : Den t r xs) : Rts Try.prog sgs f xs r := by
  unfold chkF at hk
  split at hk
  · rename_i fn s hf hs
    simp only [Bool.and_eq_true, Bool.not_eq_true', beq_iff_eq] at hk
    unfold Rts
    rw [if_pos (sgs_lt f s hs)]
    exact ⟨s, hs, comp_ret mixedT sgs_lt hf hs hk.1.1 hc hk.1.2 hk.2 hd⟩
  · cases hk
/-! ### Steps of a tree -/
section
variable {Rt : Nat → List AV → AV → Prop} {R : AV → Prop} {L : LK} {js : List JK} {ρ : List AV}
theorem den_loop {i : EL} {b k : Tr} (hL : LMono L) (I : Nat → List AV → Prop) {m : Nat} (h0 : I m (i.den ρ)) (hstep : ∀ m vs, I m vs → b.den Rt R L ((fun us => ∃ m', m' < m ∧ I m' us) :: (fun us => k.den Rt R L js (ρ ++ us)) :: js) (ρ ++ vs)) : (Tr.loop i b k).den Rt R L js ρ := by
  have hb : ∀ W W' : JK, (∀ vs, W vs → W' vs) → ∀ vs, b.den Rt R L (W :: (fun us => k.den Rt R L js (ρ ++ us)) :: js) (ρ ++ vs) → b.den Rt R L (W' :: (fun us => k.den Rt R L js (ρ ++ us)) :: js) (ρ ++ vs) :=
    fun W W' hW vs hv => b.den_js hL hv (.cons hW (JLe.refl _))
  have mono : ∀ n vs, loopK (fun W vs => b.den Rt R L (W :: (fun us => k.den Rt R L js (ρ ++ us)) :: js) (ρ ++ vs)) n vs → ∀ n', n ≤ n' → loopK (fun W vs => b.den Rt R L (W :: (fun us => k.den Rt R L js (ρ ++ us)) :: js) (ρ ++ vs)) n' vs := by
    intro n
    induction n with
    | zero => intro vs h; exact h.elim
    | succ n ih =>
      intro vs h n' hn
      cases n' with
      | zero => omega
      | succ n' => exact hb _ _ (fun us hu => ih us hu n' (by omega)) vs h
  have key : ∀ m vs, I m vs → loopK (fun W vs => b.den Rt R L (W :: (fun us => k.den Rt R L js (ρ ++ us)) :: js) (ρ ++ vs)) (m + 1) vs := by
    intro m
    induction m using Nat.strongRecOn with
    | _ m ih =>
      intro vs hI
      exact hb _ _ (fun us ⟨m', hm, hu⟩ => mono _ _ (ih m' hm us hu) m (by omega)) vs (hstep m vs hI)
  exact ⟨m + 1, key m _ h0⟩
theorem lmono_false : LMono (fun _ _ _ _ => False) := fun _ _ _ _ _ _ h => h
end
@[simp] theorem gd_nil (ρ : List AV) : gdOK ρ [] ↔ True := ⟨fun _ => trivial, fun _ => gdOK_nil ρ⟩
@[simp] theorem gd_cons (ρ : List AV) (x : E) (b : Bool) (gs : Gd) : gdOK ρ ((x, b) :: gs) ↔ x.den ρ = .bool b ∧ gdOK ρ gs :=
  ⟨fun h => ⟨h (x, b) (by simp), fun g hg => h g (by simp [hg])⟩, fun h g hg => by rcases List.mem_cons.1 hg with rfl | hg; exact h.1; exact h.2 g hg⟩
attribute [simp] E.den EL.den Cn.den AV.fld AV.proj AV.deref AV.len AV.slen AV.idx AV.nth AV.notB AV.negI AV.conv AV.bin AV.bbin AV.sbin AV.app AV.setNth AV.win AV.rep
@[simp] theorem cells_agg (cs : List AV) : (AV.agg cs).cells = cs := rfl
@[simp] theorem cells_int (k : IntKind) (n : Int) : (AV.int k n).cells = [.int k n] := rfl
@[simp] theorem cells_bool (b : Bool) : (AV.bool b).cells = [.bool b] := rfl
@[simp] theorem cells_str (s : List UInt8) : (AV.str s).cells = [.str s] := rfl
@[simp] theorem cells_sl (xs : List AV) : (AV.sl xs).cells = [.sl xs] := rfl
@[simp] theorem scalar_int (k : IntKind) (n : Int) : (AV.int k n).scalar = true := rfl
@[simp] theorem scalar_bool (b : Bool) : (AV.bool b).scalar = true := rfl
@[simp] theorem scalar_str (s : List UInt8) : (AV.str s).scalar = true := rfl
@[simp] theorem cond_bb (b c d : Bool) : AV.cond (.bool b) (.bool c) (.bool d) = .bool (bif b then c else d) := by cases b <;> rfl
theorem cells_scalar {y : AV} (h : y.scalar = true) : y.cells = [y] := by cases y <;> first | rfl | simp [AV.scalar] at h
theorem wrap64 {n : Int} (h1 : -9223372036854775808 ≤ n) (h2 : n ≤ 9223372036854775807) : IntKind.i64.wrap n = n := by
  rw [IntKind.wrap_i64]; omega
end Go.Proofs.Ytjneaalpiangdaa
end

/- Part DB. Steps of a tree; loops over slices; the shapes that the laws' helpers have. -/
section
namespace Go.Proofs.Ytjneaalpiangdaa
open Go.RowKit
section
variable {Rt : Nat → List AV → AV → Prop} {R : AV → Prop} {L : LK} {js : List JK} {ρ : List AV}
theorem den_chk {gs : Gd} {c : Cn} {k : Tr} (h : gdOK ρ gs → c.den ρ) (hk : k.den Rt R L js ρ) : (Tr.chk gs c k).den Rt R L js ρ := ⟨h, hk⟩
theorem den_call {gs : Gd} {f : Nat} {args : EL} {k : Tr} {r : AV} (h : gdOK ρ gs → Rt f (args.den ρ) r) (hk : k.den Rt R L js (ρ ++ [r])) : (Tr.call gs (.inl f) args k).den Rt R L js ρ := ⟨r, h, hk⟩
theorem den_callV {gs : Gd} {x : E} {args : EL} {k : Tr} {r : AV} (h : gdOK ρ gs → ∃ g caps, x.den ρ = .fn g caps ∧ Rt (1000000 + g) (args.den ρ ++ caps) r ∧ ∀ y ∈ r.cells, y.scalar = true) (hk : k.den Rt R L js (ρ ++ [r])) : (Tr.call gs (.inr x) args k).den Rt R L js ρ := ⟨r, h, hk⟩
theorem den_ite {c : E} {a b : Tr} {t : Bool} (h : c.den ρ = .bool t) (ha : t = true → a.den Rt R L js ρ) (hb : t = false → b.den Rt R L js ρ) : (Tr.ite c a b).den Rt R L js ρ := ⟨t, h, ha, hb⟩
theorem den_ret {r : E} (h : R (r.den ρ)) : (Tr.ret r).den Rt R L js ρ := h
theorem den_jmp0 {es : EL} {j : JK} (h : j (es.den ρ)) : (Tr.jmp 0 es).den Rt R L (j :: js) ρ := h
theorem den_jmp1 {es : EL} {i j : JK} (h : j (es.den ρ)) : (Tr.jmp 1 es).den Rt R L (i :: j :: js) ρ := h
/-- A loop that goes through the states st 0, st 1, .. st n. -/
theorem den_for {i : EL} {b k : Tr} (hL : LMono L) (n : Nat) (st : Nat → List AV) (h0 : i.den ρ = st 0) (hb : ∀ q, q ≤ n → ∀ W : JK, (q < n → W (st (q + 1))) → b.den Rt R L (W :: (fun us => k.den Rt R L js (ρ ++ us)) :: js) (ρ ++ st q)) : (Tr.loop i b k).den Rt R L js ρ := by
  refine den_loop hL (fun m vs => ∃ q, q + m = n ∧ vs = st q) (m := n) ⟨0, by omega, h0⟩ ?_
  rintro m vs ⟨q, hq, rfl⟩
  exact hb q (by omega) _ fun hlt => ⟨m - 1, by omega, q + 1, by omega, rfl⟩
end
/-- A call by the plain way is a call by the function's own way where nothing is handed over. -/
theorem E.den_app_nil : True := trivial
/-! ### The laws' helpers -/
def tSz : Tr :=
  .chk [] (.dfd (.len (.var 0))) <|
  .chk [] (.dfd (.bin .sub (.var 1) (.len (.var 0)))) <|
  .chk [] (.dfd (.bin .lss (.bin .sub (.var 1) (.len (.var 0))) (.int .i64 (0)))) <|
  .ite (.bin .lss (.bin .sub (.var 1) (.len (.var 0))) (.int .i64 (0))) (
   .ret (.int .i64 (-1))) (
   .ret (.bin .sub (.var 1) (.len (.var 0))))
def szOf (n : Nat) (k : Int) : Int := if k - n < 0 then -1 else k - n
theorem sz_den {xs : List AV} {k : Int} (hk : 0 ≤ k) (hk2 : k ≤ 9223372036854775807) (hn : xs.length ≤ 9223372036854775807) : Den tSz (.int .i64 (szOf xs.length k)) [.sl xs, .int .i64 k] := by
  have hw : IntKind.i64.wrap (k - xs.length) = k - xs.length := wrap64 (by omega) (by omega)
  unfold Den tSz
  by_cases h : k - xs.length < 0 <;> simp [Tr.den, binInt, hw, h, szOf]
def tEqS (f cn : Nat) : Tr :=
  .chk [] (.dfd (.len (.var 0))) <|
  .chk [] (.dfd (.len (.var 1))) <|
  .ite (.bin .neq (.len (.var 0)) (.len (.var 1))) (
   .ret (.bool false)) (
   .loop (.cons (.int .i64 (0)) .nil) (
    .chk [] (.dfd (.len (.var 0))) <|
    .chk [] (.dfd (.bin .lss (.var 2) (.len (.var 0)))) <|
    .ite (.bin .lss (.var 2) (.len (.var 0))) (
     .chk [] (.inb (.var 2) (.var 0) cn) <|
     .chk [] (.inb (.var 2) (.var 1) cn) <|
     .call [] (.inl f) (.cons (.fld (.idx (.var 0) (.var 2)) 0 cn true) (.cons (.fld (.idx (.var 1) (.var 2)) 0 cn true) .nil)) <|
     .chk [] (.dfd (.not (.var 3))) <|
     .ite (.not (.var 3)) (
      .ret (.bool false)) (
      .chk [] (.dfd (.bin .add (.var 2) (.int .i64 (1)))) <|
      .jmp 0 (.cons (.bin .add (.var 2) (.int .i64 (1))) .nil))) (
     .jmp 1 .nil)) (
    .ret (.bool true)))
/-- Elements of a slice of structs of cn cells. -/
def Structs (cn : Nat) (xs : List AV) : Prop := ∀ x ∈ xs, ∃ cs, x = .agg cs ∧ cs.length = cn
theorem Structs.at {cn : Nat} {xs : List AV} (h : Structs cn xs) {q : Nat} (hq : q < xs.length) : ∃ cs, xs[q] = .agg cs ∧ cs.length = cn := h _ (List.getElem_mem hq)
theorem eqS_same {f cn : Nat} {xs : List AV} (hs : Structs cn xs) (hn : xs.length ≤ 9223372036854775806) (hf : ∀ x ∈ xs, Rts Try.prog sgs f [x, x] (.bool true)) : Den (tEqS f cn) (.bool true) [.sl xs, .sl xs] := by
  unfold Den tEqS
  refine den_chk (by simp) (den_chk (by simp) (den_ite (t := false) (by simp [binInt]) (by simp) fun _ => ?_))
  refine den_for lmono_false xs.length (fun q => [.int .i64 q]) (by simp) fun q hq W hW => ?_
  by_cases hlt : q < xs.length
  · obtain ⟨cs, hc, hl⟩ := hs.at hlt
    have hx : (xs[(q : Int).toNat]?).getD .undef = .agg cs := by simp [hlt, hc]
    have hin : Cn.den [AV.sl xs, .sl xs, .int .i64 q] (.inb (.var 2) (.var 0) cn) := ⟨.i64, q, xs.length, by simp, by omega, by simp, by omega, by simp [hlt, hc, hl]⟩
    have hin1 : Cn.den [AV.sl xs, .sl xs, .int .i64 q] (.inb (.var 2) (.var 1) cn) := ⟨.i64, q, xs.length, by simp, by omega, by simp, by omega, by simp [hlt, hc, hl]⟩
    refine den_chk (by simp) (den_chk (by simp [binInt]) (den_ite (t := true) (by simp [binInt, hlt]) (fun _ => ?_) (by simp)))
    refine den_chk (fun _ => hin) (den_chk (fun _ => hin1) (den_call (r := .bool true) (fun _ => ?_) ?_))
    · have := hf xs[q] (List.getElem_mem hlt)
      rw [hc] at this
      simpa [hlt, hc, ← hl] using this
    · refine den_chk (by simp) (den_ite (t := false) (by simp) (by simp) fun _ => den_chk (by simp [binInt]) (den_jmp0 ?_))
      have := hW hlt
      simpa [binInt, wrap64 (n := (q : Int) + 1) (by omega) (by omega)] using this
  · have hqe : q = xs.length := by omega
    refine den_chk (by simp) (den_chk (by simp [binInt]) (den_ite (t := false) (by simp [binInt]; omega) (by simp) fun _ => den_jmp1 ?_))
    exact den_ret (by simp)
end Go.Proofs.Ytjneaalpiangdaa
end

/- Part MA. Typed models of functions: what the steps of a tree ask for, in terms of a typed function that gives the result, where it gives one. -/
section
namespace Go.Proofs.Ytjneaalpiangdaa
open Go.RowKit
/-! ### Words for typed models -/
/-- An element of a list, where the index is one. -/
def getI {α : Type} (xs : List α) (i : Int) : Option α := if 0 ≤ i then xs[i.toNat]? else none
/-- .. only where a condition holds. -/
def req {α : Type} (p : Prop) [Decidable p] (k : Option α) : Option α := if p then k else none
def winL {α : Type} (xs : List α) (lo hi : Int) : List α := (xs.take hi.toNat).drop lo.toNat
def iterN {σ α : Type} (body : σ → Option (σ ⊕ Option α)) : Nat → σ → Option α
  | 0, _ => none
  | n + 1, s => match body s with
    | none => none
    | some (.inl s') => iterN body n s'
    | some (.inr o) => o
theorem iterN_succ {σ α : Type} {body : σ → Option (σ ⊕ Option α)} : ∀ {n : Nat} {s : σ} {r : α}, iterN body n s = some r → iterN body (n + 1) s = some r
  | 0, _, _, h => by cases h
  | n + 1, s, r, h => by
    rcases hb : body s with _ | s' | o
    · simp [iterN, hb] at h
    · have h' : iterN body n s' = some r := by simpa [iterN, hb] using h
      have := iterN_succ h'
      simp only [iterN, hb] at this ⊢
      exact this
    · have h' : o = some r := by simpa [iterN, hb] using h
      simp [iterN, hb, h']
theorem iterN_le {σ α : Type} {body : σ → Option (σ ⊕ Option α)} {n m : Nat} (hm : n ≤ m) {s : σ} {r : α} (h : iterN body n s = some r) : iterN body m s = some r := by
  induction hm with
  | refl => exact h
  | step _ ih => exact iterN_succ ih
open Classical in
/-- A loop: the body gives the next state, or what comes of the whole. -/
noncomputable def loopO {σ α : Type} (body : σ → Option (σ ⊕ Option α)) (s : σ) : Option α :=
  if h : ∃ n r, iterN body n s = some r then some (Classical.choose (Classical.choose_spec h)) else none
theorem loopO_some {σ α : Type} {body : σ → Option (σ ⊕ Option α)} {s : σ} {r : α} : loopO body s = some r ↔ ∃ n, iterN body n s = some r := by
  unfold loopO
  constructor
  · intro h
    split at h
    · rename_i hx
      simp only [Option.some.injEq] at h
      exact ⟨_, h ▸ Classical.choose_spec (Classical.choose_spec hx)⟩
    · cases h
  · rintro ⟨n, hn⟩
    have hx : ∃ n r, iterN body n s = some r := ⟨n, r, hn⟩
    rw [dif_pos hx]
    have h2 := Classical.choose_spec (Classical.choose_spec hx)
    have h3 := iterN_le (Nat.le_max_left n (Classical.choose hx)) hn
    have h4 := iterN_le (Nat.le_max_right n (Classical.choose hx)) h2
    rw [h3] at h4
    exact h4.symm
theorem loopO_eq {σ α : Type} (body : σ → Option (σ ⊕ Option α)) (s : σ) : loopO body s = match body s with | none => none | some (.inl s') => loopO body s' | some (.inr o) => o := by
  apply Option.ext
  intro r
  rw [loopO_some]
  constructor
  · rintro ⟨n, hn⟩
    cases n with
    | zero => cases hn
    | succ n =>
      rcases hb : body s with _ | s' | o
      · simp [iterN, hb] at hn
      · exact loopO_some.2 ⟨n, by simpa [iterN, hb] using hn⟩
      · simpa [iterN, hb] using hn
  · intro h
    rcases hb : body s with _ | s' | o
    · simp [hb] at h
    · simp only [hb] at h
      obtain ⟨n, hn⟩ := loopO_some.1 h
      exact ⟨n + 1, by simpa [iterN, hb] using hn⟩
    · exact ⟨1, by simpa [iterN, hb] using h⟩
/-! ### A tree's steps beside a model's -/
theorem bindE {α β : Type} {o : Option α} {k : α → Option β} {r : β} (h : o.bind k = some r) : ∃ x, o = some x ∧ k x = some r := by
  cases o with
  | none => cases h
  | some x => exact ⟨x, rfl, h⟩
theorem reqE {α : Type} {p : Prop} [Decidable p] {k : Option α} {r : α} (h : req p k = some r) : p ∧ k = some r := by
  unfold req at h
  split at h
  · exact ⟨‹_›, h⟩
  · cases h
theorem getIE {α : Type} {xs : List α} {i : Int} {x : α} (h : getI xs i = some x) : 0 ≤ i ∧ i < xs.length ∧ xs[i.toNat]? = some x := by
  unfold getI at h
  split at h
  · rename_i h0
    have := (List.getElem?_eq_some_iff.1 h).1
    exact ⟨h0, by omega, h⟩
  · cases h
section
variable {Rt : Nat → List AV → AV → Prop} {R : AV → Prop} {L : LK} {js : List JK} {ρ : List AV} {α β σ τ : Type}
theorem s_chk {gs : Gd} {c : Cn} {k : Tr} (h : gdOK ρ gs → c.den ρ) (hk : k.den Rt R L js ρ) : (Tr.chk gs c k).den Rt R L js ρ := ⟨h, hk⟩
theorem s_ite {c : E} {a b : Tr} {t : Bool} {A B : Option α} {r : α} (h : (if t = true then A else B) = some r) (hc : c.den ρ = .bool t) (ha : t = true → A = some r → a.den Rt R L js ρ) (hb : t = false → B = some r → b.den Rt R L js ρ) : (Tr.ite c a b).den Rt R L js ρ :=
  ⟨t, hc, fun e => ha e (by rwa [if_pos e] at h), fun e => hb e (by rwa [if_neg (by simp [e])] at h)⟩
theorem s_iteT {c : E} {a b : Tr} (hc : c.den ρ = .bool true) (ha : a.den Rt R L js ρ) : (Tr.ite c a b).den Rt R L js ρ := ⟨true, hc, fun _ => ha, fun h => Bool.noConfusion h⟩
theorem s_iteF {c : E} {a b : Tr} (hc : c.den ρ = .bool false) (hb : b.den Rt R L js ρ) : (Tr.ite c a b).den Rt R L js ρ := ⟨false, hc, fun h => Bool.noConfusion h, fun _ => hb⟩
theorem s_split {P : Prop} {t : Bool} {A B : Option α} {r : α} (h : (if t = true then A else B) = some r) (ha : t = true → A = some r → P) (hb : t = false → B = some r → P) : P := by
  cases t with
  | true => exact ha rfl (by simpa using h)
  | false => exact hb rfl (by simpa using h)
theorem s_call {gs : Gd} {f : Nat} {args : EL} {k : Tr} {o : Option α} {K : α → Option β} {r : β} (av : α → AV) (h : o.bind K = some r) (hR : ∀ x, o = some x → Rt f (args.den ρ) (av x)) (hk : ∀ x, o = some x → K x = some r → k.den Rt R L js (ρ ++ [av x])) : (Tr.call gs (.inl f) args k).den Rt R L js ρ := by
  obtain ⟨x, hx, hK⟩ := bindE h
  exact ⟨av x, fun _ => hR x hx, hk x hx hK⟩
/-- A call that is not made. -/
theorem s_skip {gs : Gd} {f : Nat ⊕ E} {args : EL} {k : Tr} (h : ¬ gdOK ρ gs) (hk : k.den Rt R L js (ρ ++ [.undef])) : (Tr.call gs f args k).den Rt R L js ρ := ⟨.undef, fun h' => absurd h' h, hk⟩
theorem s_ret {e : E} {x y : α} {av : α → AV} (h : some x = some y) (he : e.den ρ = av x) : (Tr.ret e).den Rt (fun r' => r' = av y) L js ρ := by
  cases h; exact he
theorem s_jmp {d : Nat} {es : EL} {j : JK} {emb : τ → List AV} {K : τ → Option α} {s : τ} {r : α} (hj : ∀ s, K s = some r → j (emb s)) (h : K s = some r) (hd : js[d]? = some j) (he : es.den ρ = emb s) : (Tr.jmp d es).den Rt R L js ρ := by
  show match js[d]? with | some j => j (es.den ρ) | none => False
  rw [hd]; show j (es.den ρ); rw [he]; exact hj s h
theorem s_join {t k : Tr} {emb : τ → List AV} {K : τ → Option α} {r : α} (hK : ∀ s, K s = some r → k.den Rt R L js (ρ ++ emb s)) (ht : ∀ j : JK, (∀ s, K s = some r → j (emb s)) → t.den Rt R L (j :: js) ρ) : (Tr.join t k).den Rt R L js ρ :=
  ht _ hK
/-- A join whose rest is written out at each jump. -/
theorem s_joinI {t k : Tr} (ht : ∀ j : JK, (∀ vs, k.den Rt R L js (ρ ++ vs) → j vs) → t.den Rt R L (j :: js) ρ) : (Tr.join t k).den Rt R L js ρ := ht _ fun _ h => h
theorem s_jmpI {d : Nat} {es : EL} {j : JK} {P : List AV → Prop} (hj : ∀ vs, P vs → j vs) (hd : js[d]? = some j) {vs : List AV} (he : es.den ρ = vs) (h : P vs) : (Tr.jmp d es).den Rt R L js ρ := by
  show match js[d]? with | some j => j (es.den ρ) | none => False
  rw [hd]; show j (es.den ρ); rw [he]; exact hj _ h
theorem s_loop {i : EL} {b k : Tr} {body : σ → Option (σ ⊕ Option α)} {s0 : σ} {r : α} (emb : σ → List AV) (h : loopO body s0 = some r) (h0 : i.den ρ = emb s0)
    (hb : ∀ (W A : JK) (s : σ) (o : σ ⊕ Option α), body s = some o → (∀ s', some (Sum.inl s') = some o → W (emb s')) → (∀ q, some (Sum.inr q) = some o → q = some r) → (∀ vs, k.den Rt R L js (ρ ++ vs) → A vs) → b.den Rt R L (W :: A :: js) (ρ ++ emb s)) : (Tr.loop i b k).den Rt R L js ρ := by
  obtain ⟨n, hn⟩ := loopO_some.1 h
  refine ⟨n, ?_⟩
  rw [h0]
  clear h h0
  induction n generalizing s0 with
  | zero => cases hn
  | succ n ih =>
    rcases ho : body s0 with _ | s' | o
    · simp [iterN, ho] at hn
    · have hn' : iterN body n s' = some r := by simpa [iterN, ho] using hn
      exact hb _ _ s0 _ ho (fun s2 h2 => by cases h2; exact ih hn') (fun q hq => by cases hq) (fun _ h => h)
    · have hn' : o = some r := by simpa [iterN, ho] using hn
      exact hb _ _ s0 _ ho (fun s2 h2 => by cases h2) (fun q hq => by cases hq; exact hn') (fun _ h => h)
theorem s_loopK {i : EL} {b k : Tr} {body : σ → Option (σ ⊕ Option α)} {s0 : σ} {r : α} (emb : σ → List AV) (embK : τ → List AV) (h : loopO body s0 = some r) (h0 : i.den ρ = emb s0) {K : τ → Option α} (hK : ∀ s, K s = some r → k.den Rt R L js (ρ ++ embK s))
    (hb : ∀ (W A : JK) (s : σ) (o : σ ⊕ Option α), body s = some o → (∀ s', some (Sum.inl s') = some o → W (emb s')) → (∀ q, some (Sum.inr q) = some o → q = some r) → (∀ s, K s = some r → A (embK s)) → b.den Rt R L (W :: A :: js) (ρ ++ emb s)) : (Tr.loop i b k).den Rt R L js ρ :=
  s_loop emb h h0 fun W A s o ho hn hf hk => hb W A s o ho hn hf fun s hs => hk _ (hK s hs)
/-! ### Checks -/
theorem c_inb {i x : E} {sz : Nat} {kk : IntKind} {n : Int} {xs : List α} {y : α} {f : α → AV} (hi : i.den ρ = .int kk n) (hx : x.den ρ = .sl (xs.map f)) (h : getI xs n = some y) (hf : (f y).cells.length = sz) : Cn.den ρ (.inb i x sz) := by
  obtain ⟨h1, h2, h3⟩ := getIE h
  exact ⟨kk, n, xs.length, hi, h1, by rw [hx]; simp, h2, by rw [hx]; simp [h3, hf]⟩
theorem c_inbS {i x : E} {kk : IntKind} {n : Int} {xs : List UInt8} {y : UInt8} (hi : i.den ρ = .int kk n) (hx : x.den ρ = .str xs) (h : getI xs n = some y) : Cn.den ρ (.inbS i x) := by
  obtain ⟨h1, h2, h3⟩ := getIE h
  exact ⟨kk, n, xs, hi, hx, h1, h2⟩
theorem c_win {x lo hi : E} {ka kb : IntKind} {a b : Int} {xs : List AV} (ha : lo.den ρ = .int ka a) (hb : hi.den ρ = .int kb b) (hx : x.den ρ = .sl xs) (h : 0 ≤ a ∧ a ≤ b ∧ b ≤ xs.length) : Cn.den ρ (.win x lo hi) :=
  ⟨ka, a, kb, b, xs.length, ha, hb, by rw [hx]; simp, h.1, h.2.1, h.2.2⟩
theorem c_winS {x lo hi : E} {ka kb : IntKind} {a b : Int} {xs : List UInt8} (ha : lo.den ρ = .int ka a) (hb : hi.den ρ = .int kb b) (hx : x.den ρ = .str xs) (h : 0 ≤ a ∧ a ≤ b ∧ b ≤ xs.length) : Cn.den ρ (.winS x lo hi) :=
  ⟨ka, a, kb, b, xs, ha, hb, hx, h.1, h.2.1, h.2.2⟩
theorem c_room {x y : E} {bytes : Nat} {xs ys : List AV} (hx : x.den ρ = .sl xs) (hy : y.den ρ = .sl ys) (h : ((xs.length : Int) + ys.length) * bytes ≤ 140737488355328 ∧ (xs.length : Int) + ys.length ≤ 140737488355328) : Cn.den ρ (.room x y bytes) :=
  ⟨xs.length, ys.length, by rw [hx]; simp, by rw [hy]; simp, h.1, h.2⟩
theorem c_roomS {x y : E} {xs ys : List UInt8} (hx : x.den ρ = .str xs) (hy : y.den ρ = .str ys) (h : xs.length + ys.length ≤ 9223372036854775807) : Cn.den ρ (.roomS x y) := ⟨xs, ys, hx, hy, h⟩
theorem c_mkroom {n : E} {bytes : Nat} {kk : IntKind} {k : Int} (hn : n.den ρ = .int kk k) (h : 0 ≤ k ∧ k * bytes ≤ 140737488355328 ∧ k ≤ 140737488355328) : Cn.den ρ (.mkroom n bytes) := ⟨kk, k, hn, h.1, h.2.1, h.2.2⟩
theorem c_nz {x : E} {kk : IntKind} {n : Int} (hx : x.den ρ = .int kk n) (h : n ≠ 0) : Cn.den ρ (.nz x) := ⟨kk, n, hx, h⟩
theorem c_nn {x : E} {kk : IntKind} {n : Int} (hx : x.den ρ = .int kk n) (h : 0 ≤ n) : Cn.den ρ (.nn x) := ⟨kk, n, hx, h⟩
theorem c_issl {x : E} {sz : Nat} {xs : List α} (f : α → AV) (hx : x.den ρ = .sl (xs.map f)) (hf : ∀ y, (f y).cells.length = sz) : Cn.den ρ (.issl x sz) := ⟨_, hx, by simp [hf]⟩
theorem c_flatS {x : E} {sz : Nat} {xs : List α} (f : α → AV) (hx : x.den ρ = .sl (xs.map f)) (hf : ∀ y, (f y).cells.length = sz ∧ ∀ z ∈ (f y).cells, z.scalar = true) : Cn.den ρ (.flatS x sz) := ⟨_, hx, by simp only [List.mem_map]; rintro _ ⟨y, _, rfl⟩; exact hf y⟩
theorem c_isref {x : E} {n : Nat} {y : AV} (hx : x.den ρ = .ref y) (hn : n ≤ y.cells.length) : Cn.den ρ (.isref x n) := ⟨y, hx, hn⟩
theorem c_agg {x : E} {n : Nat} {cs : List AV} (hx : x.den ρ = .agg cs) (hn : cs.length = n) : Cn.den ρ (.agg x n) := ⟨cs, hx, hn⟩
end
@[simp] def avI64 (n : Int) : AV := .int .i64 n
@[simp] def avU64 (n : Int) : AV := .int .u64 n
@[simp] def avI32 (n : Int) : AV := .int .i32 n
@[simp] def avU32 (n : Int) : AV := .int .u32 n
@[simp] def avU8 (n : Int) : AV := .int .u8 n
@[simp] def avB (b : Bool) : AV := .bool b
@[simp] def avStr (x : List UInt8) : AV := .str x
attribute [simp] winL
attribute [simp] binInt binStr AV.sidx AV.swin AV.aeq AV.leq AV.seq AV.sk AV.putF AV.bytes AV.text
@[simp] theorem set_self_at {α : Type} (l : List α) (i : Nat) (a : α) : (l.set i a)[i]? = l[i]?.map fun _ => a := by
  rcases Nat.lt_or_ge i l.length with h | h
  · simp [h]
  · simp [h]
theorem getI_set {α : Type} {xs : List α} {i : Int} {y : α} (h : getI xs i = some y) (v : α) : getI (xs.set i.toNat v) i = some v := by
  obtain ⟨h1, h2, h3⟩ := getIE h
  unfold getI
  rw [if_pos h1]
  have : i.toNat < xs.length := by omega
  simp [this]
@[simp] theorem cond_ii (b : Bool) (k : IntKind) (x y : Int) : AV.cond (.bool b) (.int k x) (.int k y) = .int k (bif b then x else y) := by cases b <;> rfl
@[simp] theorem cond_ss (b : Bool) (x y : List UInt8) : AV.cond (.bool b) (.str x) (.str y) = .str (bif b then x else y) := by cases b <;> rfl
@[simp] theorem cond_t (x y : AV) : AV.cond (.bool true) x y = x := rfl
@[simp] theorem cond_f (x y : AV) : AV.cond (.bool false) x y = y := rfl
end Go.Proofs.Ytjneaalpiangdaa
end

/- Part MB. Function values that are lent; typed models of library functions. -/
section
namespace Go.Proofs.Ytjneaalpiangdaa
open Go.RowKit
section
variable {P : Program} {w : World}
theorem ArgsR.anyRo {ts : List TypeId} {vs : List Value} {xs : List AV} {rf hs : List Nat} (h : ArgsR P w ts [] vs xs rf hs) : ∀ (ms : List PM), (∀ m ∈ ms, m = .ro) → ArgsR P w ts ms vs xs rf hs := by
  generalize hm : ([] : List PM) = m0 at h
  induction h with
  | nil => intro ms _; exact .nil
  | @cons t ts ms' v vs x xs f h rf hs harg _ ih =>
    subst hm
    intro ms hms
    refine .cons ?_ (ih rfl ms.tail fun m hm => hms m (List.mem_of_mem_tail hm))
    have : ms.headD .ro = .ro := by cases ms with | nil => rfl | cons m ms => exact hms m (by simp)
    rw [this]; exact harg
  | free h1 _ ih =>
    subst hm
    intro ms hms
    exact .free h1 (ih rfl ms.tail fun m hm => hms m (List.mem_of_mem_tail hm))
theorem BacksR.anyRo {ts : List TypeId} {ms : List PM} {vs : List Value} {Bs : List AV} {f o : List Nat} (h : BacksR P w ts ms vs Bs f o) (hms : ∀ m ∈ ms, m = .ro) : BacksR P w ts [] vs Bs f o := by
  have hd : ∀ {ms : List PM}, (∀ m ∈ ms, m = .ro) → ms.headD .ro = .ro := by
    intro ms h; cases ms with | nil => rfl | cons m ms => exact h m (by simp)
  induction h with
  | nil => exact .nil
  | ro _ _ ih => exact .ro rfl (ih fun m hm => hms m (List.mem_of_mem_tail hm))
  | va h9 _ _ => rw [hd hms] at h9; cases h9
  | mu h9 _ _ _ _ => rw [hd hms] at h9; cases h9
  | bx h9 _ _ _ _ _ _ _ _ => rw [hd hms] at h9; cases h9
end
/-- Is a function called by the plain way called as by its own? -/
noncomputable def plainF (f : Nat) (r : AV) : Bool :=
  match Try.prog.funcs[f]?, sgs f with
  | some fn, some s => s.modes.all (fun m => match m with | .ro => true | _ => false) && (match fn.resultTypes.toList with | [t] => !anyFl Try.prog t s.res | _ => false) && resFlat Try.prog fn ⟨[], []⟩ r
  | _, _ => false
theorem rts_plain {f : Nat} {xs : List AV} {r : AV} (h : Rts Try.prog sgs f xs r) (hp : plainF f r = true) : Rts Try.prog sgs (1000000 + f) xs r := by
  unfold plainF at hp
  split at hp
  · rename_i fn s hf hs
    simp only [Bool.and_eq_true, List.all_eq_true] at hp
    obtain ⟨⟨h1, h2⟩, h3⟩ := hp
    have hro : ∀ m ∈ s.modes, m = .ro := fun m hm => by
      have := h1 m hm
      split at this
      · rfl
      · cases this
    unfold Rts at h ⊢
    rw [if_pos (sgs_lt f s hs)] at h
    rw [if_neg (by omega), Nat.add_sub_cancel_left]
    obtain ⟨s', hs', fn', hf', hb, hn, _, hl, hc⟩ := h
    rw [hs] at hs'; cases hs'
    rw [hf] at hf'; cases hf'
    refine ⟨fn, hf, hb, hn, h3, hl, fun w vs rf hs' hargs hd hnd => (hc w vs rf hs' (hargs.anyRo _ hro) hd hnd).mono ?_⟩
    rintro e w' ⟨v, rfl, ⟨R, Bs, f1, o1, f2, o2, e1, e2, e3, e4, e5, e6⟩, hm⟩
    refine ⟨v, rfl, ⟨R, Bs, f1, o1, f2, o2, e1, ?_, e3.anyRo hro, e4, e5, e6⟩, hm⟩
    unfold ResR at e2 ⊢
    split at h2
    · rename_i t ht
      rw [ht] at e2 ⊢
      simp only at e2 ⊢
      unfold ValR at e2 ⊢
      have h2 : anyFl Try.prog t s.res = false := by simpa using h2
      rw [if_neg (by rw [h2]; simp)] at e2
      rw [if_neg (by simp [anyFl])]
      exact e2
    · cases h2
  · cases hp
section
variable {Rt : Nat → List AV → AV → Prop} {R : AV → Prop} {L : LK} {js : List JK} {ρ : List AV}
/-- A loop through the states st 0 .. st n, with what is known on the way. -/
theorem den_forJ {i : EL} {b k : Tr} (hL : LMono L) (n : Nat) (st : Nat → List AV) (J : Nat → Prop) (hJ : J 0) (h0 : i.den ρ = st 0) (hb : ∀ q, q ≤ n → J q → ∀ W : JK, (q < n → J (q + 1) → W (st (q + 1))) → b.den Rt R L (W :: (fun us => k.den Rt R L js (ρ ++ us)) :: js) (ρ ++ st q)) : (Tr.loop i b k).den Rt R L js ρ := by
  refine den_loop hL (fun m vs => ∃ q, q + m = n ∧ vs = st q ∧ J q) (m := n) ⟨0, by omega, h0, hJ⟩ ?_
  rintro m vs ⟨q, hq, rfl, hj⟩
  exact hb q (by omega) hj _ fun hlt hj' => ⟨m - 1, by omega, q + 1, by omega, rfl, hj'⟩
end
def tIdxF (cn : Nat) : Tr :=
  .chk [] (.dfd (.len (.var 0))) <|
  .loop (.cons (.int .i64 (0)) .nil) (
   .chk [] (.dfd (.bin .lss (.var 2) (.len (.var 0)))) <|
   .ite (.bin .lss (.var 2) (.len (.var 0))) (
    .chk [] (.inb (.var 2) (.var 0) cn) <|
    .call [] (.inr (.var 1)) (.cons (.fld (.idx (.var 0) (.var 2)) 0 cn true) .nil) <|
    .ite (.var 3) (
     .ret (.var 2)) (
     .chk [] (.dfd (.bin .add (.var 2) (.int .i64 (1)))) <|
     .jmp 0 (.cons (.bin .add (.var 2) (.int .i64 (1))) .nil))) (
    .jmp 1 .nil)) (
   .ret (.int .i64 (-1)))
def tIdxF1 : Tr :=
  .chk [] (.dfd (.len (.var 0))) <|
  .loop (.cons (.int .i64 (0)) .nil) (
   .chk [] (.dfd (.bin .lss (.var 2) (.len (.var 0)))) <|
   .ite (.bin .lss (.var 2) (.len (.var 0))) (
    .chk [] (.inb (.var 2) (.var 0) 1) <|
    .call [] (.inr (.var 1)) (.cons (.fld (.idx (.var 0) (.var 2)) 0 1 false) .nil) <|
    .ite (.var 3) (
     .ret (.var 2)) (
     .chk [] (.dfd (.bin .add (.var 2) (.int .i64 (1)))) <|
     .jmp 0 (.cons (.bin .add (.var 2) (.int .i64 (1))) .nil))) (
    .jmp 1 .nil)) (
   .ret (.int .i64 (-1)))
/-- The first place where p holds, counted from i on; -1 where there is none. -/
def idxO {α : Type} (p : α → Option Bool) : List α → Int → Option Int
  | [], _ => some (-1)
  | x :: xs, i => (p x).bind fun b => if b = true then some i else idxO p xs (i + 1)
def m_IndexFunc {α : Type} (xs : List α) (p : α → Option Bool) : Option Int := req (xs.length ≤ 9223372036854775806) (idxO p xs 0)
def m_ContainsFunc {α : Type} (xs : List α) (p : α → Option Bool) : Option Bool := (m_IndexFunc xs p).bind fun i => some (decide (i ≥ 0))
def m_Clone {α : Type} (bytes : Nat) (xs : List α) : Option (List α) := req ((xs.length : Int) * bytes ≤ 140737488355328 ∧ (xs.length : Int) ≤ 140737488355328) (some xs)
theorem idxO_drop {α : Type} {p : α → Option Bool} {l : List α} {r : Int} {q : Nat} (hq : q < l.length) (h : idxO p (l.drop q) q = some r) : ∃ b, p l[q] = some b ∧ (b = true → r = q) ∧ (b = false → idxO p (l.drop (q + 1)) ((q + 1 : Nat) : Int) = some r) := by
  rw [List.drop_eq_getElem_cons hq] at h
  obtain ⟨b, hb, h⟩ := bindE h
  refine ⟨b, hb, ?_, ?_⟩
  · rintro rfl; simpa using h.symm
  · rintro rfl; simpa using h
theorem hof_idx {α : Type} {av : α → AV} {l : List α} {p : α → Option Bool} {cn g : Nat} {caps : List AV} {r : Int} (hs : ∀ x, ∃ cs, av x = .agg cs ∧ cs.length = cn) (h : m_IndexFunc l p = some r) (hf : ∀ x b, p x = some b → Rts Try.prog sgs (1000000 + g) (av x :: caps) (.bool b)) : Den (tIdxF cn) (.int .i64 r) [.sl (l.map av), .fn g caps] := by
  obtain ⟨hn, h⟩ := reqE h
  unfold Den tIdxF
  refine den_chk (by simp) ?_
  refine den_forJ lmono_false l.length (fun q => [.int .i64 q]) (fun q => idxO p (l.drop q) q = some r) (by simpa using h) (by simp) fun q hq hJ W hW => ?_
  by_cases hlt : q < l.length
  · obtain ⟨cs, hc, hl⟩ := hs l[q]
    obtain ⟨b, hb, hb1, hb2⟩ := idxO_drop hlt hJ
    refine den_chk (by simp [binInt]) (den_ite (t := true) (by simp [binInt, hlt]) (fun _ => ?_) (by simp))
    refine den_chk (fun _ => ⟨.i64, q, l.length, by simp, by omega, by simp, by omega, by simp [hlt, hc, hl]⟩) (den_callV (r := .bool b) (fun _ => ⟨g, caps, by simp, ?_, by simp⟩) ?_)
    · have := hf l[q] b hb
      rw [hc] at this
      simpa [hlt, hc, ← hl] using this
    · cases b with
      | true => exact den_ite (t := true) (by simp) (fun _ => den_ret (by simp [hb1 rfl])) (by simp)
      | false =>
        refine den_ite (t := false) (by simp) (by simp) fun _ => den_chk (by simp [binInt]) (den_jmp0 ?_)
        have := hW hlt (hb2 rfl)
        simpa [binInt, wrap64 (n := (q : Int) + 1) (by omega) (by omega)] using this
  · have hqe : q = l.length := by omega
    subst hqe
    have hr : r = -1 := by simpa [idxO] using hJ.symm
    refine den_chk (by simp [binInt]) (den_ite (t := false) (by simp [binInt]) (by simp) fun _ => den_jmp1 ?_)
    exact den_ret (by simp [hr])
theorem hof_idx1 {α : Type} {av : α → AV} {l : List α} {p : α → Option Bool} {g : Nat} {caps : List AV} {r : Int} (hs : ∀ x, (av x).cells = [av x]) (h : m_IndexFunc l p = some r) (hf : ∀ x b, p x = some b → Rts Try.prog sgs (1000000 + g) (av x :: caps) (.bool b)) : Den tIdxF1 (.int .i64 r) [.sl (l.map av), .fn g caps] := by
  obtain ⟨hn, h⟩ := reqE h
  unfold Den tIdxF1
  refine den_chk (by simp) ?_
  refine den_forJ lmono_false l.length (fun q => [.int .i64 q]) (fun q => idxO p (l.drop q) q = some r) (by simpa using h) (by simp) fun q hq hJ W hW => ?_
  by_cases hlt : q < l.length
  · obtain ⟨b, hb, hb1, hb2⟩ := idxO_drop hlt hJ
    refine den_chk (by simp [binInt]) (den_ite (t := true) (by simp [binInt, hlt]) (fun _ => ?_) (by simp))
    refine den_chk (fun _ => ⟨.i64, q, l.length, by simp, by omega, by simp, by omega, by simp [hlt, hs]⟩) (den_callV (r := .bool b) (fun _ => ⟨g, caps, by simp, ?_, by simp⟩) ?_)
    · have := hf l[q] b hb
      simpa [hlt, hs] using this
    · cases b with
      | true => exact den_ite (t := true) (by simp) (fun _ => den_ret (by simp [hb1 rfl])) (by simp)
      | false =>
        refine den_ite (t := false) (by simp) (by simp) fun _ => den_chk (by simp [binInt]) (den_jmp0 ?_)
        have := hW hlt (hb2 rfl)
        simpa [binInt, wrap64 (n := (q : Int) + 1) (by omega) (by omega)] using this
  · have hqe : q = l.length := by omega
    subst hqe
    have hr : r = -1 := by simpa [idxO] using hJ.symm
    refine den_chk (by simp [binInt]) (den_ite (t := false) (by simp [binInt]) (by simp) fun _ => den_jmp1 ?_)
    exact den_ret (by simp [hr])
def tHasF (f : Nat) : Tr :=
  .call [] (.inl f) (.cons (.var 0) (.cons (.var 1) .nil)) <|
  .chk [] (.dfd (.bin .geq (.var 2) (.int .i64 (0)))) <|
  .ret (.bin .geq (.var 2) (.int .i64 (0)))
theorem hof_has {α : Type} {l : List α} {p : α → Option Bool} {f : Nat} {x y : AV} {r : Bool} (h : m_ContainsFunc l p = some r) (hf : ∀ i, m_IndexFunc l p = some i → Rts Try.prog sgs f [x, y] (.int .i64 i)) : Den (tHasF f) (.bool r) [x, y] := by
  obtain ⟨i, hi, h⟩ := bindE h
  unfold Den tHasF
  refine den_call (fun _ => by simpa using hf i hi) (den_chk (by simp [binInt]) (den_ret ?_))
  simp only [Option.some.injEq] at h
  simp [binInt, ← h]
def tClone (bytes sz : Nat) : Tr :=
  .chk [] (.dfd (.len (.var 0))) <|
  .nilq [] (.var 0) <|
  .ite (.var 1) (
   .ret (.lst .nil)) (
   .chk [] (.room (.lst .nil) (.var 0) bytes) <|
   .chk [] (.flatS (.var 0) sz) <|
   .ret (.app (.lst .nil) (.var 0)))
def tCloneD (bytes sz : Nat) : Tr :=
  .chk [] (.dfd (.len (.var 0))) <|
  .nilq [] (.var 0) <|
  .ite (.var 1) (
   .ret (.lst .nil)) (
   .chk [] (.room (.lst .nil) (.var 0) bytes) <|
   .chk [] (.issl (.var 0) sz) <|
   .ret (.app (.lst .nil) (.var 0)))
theorem lib_clone {α : Type} {av : α → AV} {xs r : List α} {bytes sz : Nat} (hs : ∀ x, (av x).cells.length = sz ∧ ∀ z ∈ (av x).cells, z.scalar = true) (h : m_Clone bytes xs = some r) : Den (tClone bytes sz) (.sl (r.map av)) [.sl (xs.map av)] := by
  obtain ⟨hq, h⟩ := reqE h
  cases h
  unfold Den tClone
  refine den_chk (by simp) fun b hb => ?_
  cases b with
  | true =>
    have := hb (by simp) rfl
    exact den_ite (t := true) (by simp) (fun _ => den_ret (by simpa using this.symm)) (by simp)
  | false => exact den_ite (t := false) (by simp) (by simp) fun _ => den_chk (fun _ => ⟨0, xs.length, by simp, by simp, by simpa using hq.1, by simpa using hq.2⟩) (den_chk (fun _ => c_flatS (xs := xs) av (by simp) hs) (den_ret (by simp)))
theorem lib_cloneD {α : Type} {av : α → AV} {xs r : List α} {bytes sz : Nat} (hs : ∀ x, (av x).cells.length = sz) (h : m_Clone bytes xs = some r) : Den (tCloneD bytes sz) (.sl (r.map av)) [.sl (xs.map av)] := by
  obtain ⟨hq, h⟩ := reqE h
  cases h
  unfold Den tCloneD
  refine den_chk (by simp) fun b hb => ?_
  cases b with
  | true =>
    have := hb (by simp) rfl
    exact den_ite (t := true) (by simp) (fun _ => den_ret (by simpa using this.symm)) (by simp)
  | false => exact den_ite (t := false) (by simp) (by simp) fun _ => den_chk (fun _ => ⟨0, xs.length, by simp, by simp, by simpa using hq.1, by simpa using hq.2⟩) (den_chk (fun _ => c_issl (xs := xs) av (by simp) hs) (den_ret (by simp)))
end Go.Proofs.Ytjneaalpiangdaa
end

/- Part OB. From the contract of a law over deep values to what a statement asks: it returns true, and nothing is changed. -/
section
namespace Go.Proofs.Ytjneaalpiangdaa
open Go.ChangeShapes Go.WideShapes Go.ChangeAt Go.RowKit
theorem args_nil {P : Program} {w : World} : ArgsR P w [] [] [] [] [] [] := .nil
theorem args_cons {P : Program} {w : World} {t : TypeId} {ts : List TypeId} {v : Value} {vs : List Value} {x : AV} {xs : List AV} {f rf : List Nat} (h : Rd w [v] [x] f) (k : ArgsR P w ts [] vs xs rf []) : ArgsR P w (t :: ts) [] (v :: vs) (x :: xs) (f ++ rf) [] :=
  ArgsR.cons (h := []) (hs := []) (ms := []) ⟨h, rfl⟩ k
theorem law_true {P : Program} {sg : Nat → Option Sig} {f : Nat} {fn : Func} {t : TypeId} {xs : List AV} (h : Rts P sg f xs (.bool true)) (hf : f < 1000000) {s : Sig} (hs : sg f = some s) (hro : ∀ m ∈ s.modes, m = .ro) (hfl : anyFl P t s.res = false) (hfn : P.funcs[f]? = some fn) (hr : fn.resultTypes.toList = [t])
    {w : World} {vs : List Value} {rf : List Nat} (ha : ArgsR P w fn.params.toList [] vs xs rf []) :
    Calls P f vs.toArray w fun e w' => e = .returned (.bool true) ∧ Below w.heap.size w w' := by
  unfold Rts at h
  rw [if_pos hf] at h
  obtain ⟨s', hs', fn', hfn', _, _, _, _, hc⟩ := h
  rw [hs] at hs'
  obtain rfl := Option.some.inj hs'
  rw [hfn] at hfn'
  obtain rfl := Option.some.inj hfn'
  refine (hc w vs rf [] (ha.anyRo _ hro) (by simp) (by simp)).mono fun e w' ⟨v, he, hp⟩ => ?_
  obtain ⟨⟨R, bs, f1, o1, f2, o2, hR, hres, _⟩, hm⟩ := hp
  have hRt : R = .bool true := by
    cases bs with
    | nil => exact hR.symm
    | cons => cases hR
  subst hRt
  rw [hr] at hres
  have h2 : ValR P w' t s.res v (.bool true) f1 o1 := hres
  unfold ValR at h2
  rw [hfl] at h2
  obtain ⟨h3, _⟩ := h2
  have : v = .bool true := by cases h3; rfl
  subst this
  exact ⟨he, hm.below⟩
section
variable {P : Program} {t : TypeId} {Q : List AV → Prop} {H : Type} {enc : TypeId × Value → H} {w : World} {spare : Nat → Bool} {held : Bool} {v : Value} {d : DataW H} {p : List MemPlace} {r : Reach} {base : Nat}
theorem arg_one (hO : OpA P t Q) (hc : v.cells = #[v]) (h : DataW.Trod enc P w 0 spare held t v d p) : ∃ x f, Rd w [v] [x] f ∧ Q [x] := by
  obtain ⟨n, h⟩ := h
  rw [hc] at h
  obtain ⟨_, _, xs, f, hr, hq⟩ := hO.2 _ _ _ _ _ _ _ _ h
  have hl := hr.len
  match xs, hl with
  | [x], _ => exact ⟨x, f, hr, hq⟩
theorem arg_struct {fs : Array Field} (hO : OpA P t Q) (ht : P.underlying t = some (.struct fs)) (hv : Value.okWide P w r base t v) (h : DataW.Trod enc P w 0 spare held t v d p) : ∃ xs f, Rd w [v] [.agg xs] f ∧ Q xs := by
  obtain ⟨n, h⟩ := h
  obtain ⟨cs, rfl, _⟩ := okWide_struct ht hv
  obtain ⟨_, h1, xs, f, hr, hq⟩ := hO.2 _ _ _ _ _ _ _ _ h
  refine ⟨xs, f ++ [], ?_, hq⟩
  have := Rd.agg (w := w) h1 hr .nil
  simpa [Value.cells] using this
theorem arg_slice {e : TypeId} (hO : OpA P t Q) (ht : P.underlying t = some (.slice e)) (hv : Value.okWide P w r base t v) (h : DataW.Trod enc P w 0 spare held t v d p) : ∃ x f, Rd w [v] [x] f ∧ Q [x] := by
  obtain ⟨a, l, c, rfl⟩ := okWide_slice ht hv
  exact arg_one hO rfl h
theorem arg_int {k : IntKind} (hO : OpA P t Q) (ht : P.underlying t = some (.int k)) (hv : Value.okWide P w r base t v) (h : DataW.Trod enc P w 0 spare held t v d p) : ∃ x f, Rd w [v] [x] f ∧ Q [x] := by
  obtain ⟨n, rfl⟩ := okWide_int ht hv
  exact arg_one hO rfl h
theorem arg_bool (hO : OpA P t Q) (ht : P.underlying t = some .bool) (hv : Value.okWide P w r base t v) (h : DataW.Trod enc P w 0 spare held t v d p) : ∃ x f, Rd w [v] [x] f ∧ Q [x] := by
  obtain ⟨n, rfl⟩ := okWide_bool ht hv
  exact arg_one hO rfl h
theorem arg_string (hO : OpA P t Q) (ht : P.underlying t = some .string) (hv : Value.okWide P w r base t v) (h : DataW.Trod enc P w 0 spare held t v d p) : ∃ x f, Rd w [v] [x] f ∧ Q [x] := by
  obtain ⟨n, rfl⟩ := okWide_string ht hv
  exact arg_one hO rfl h
end
end Go.Proofs.Ytjneaalpiangdaa
end

/- Part OG. Arguments of laws opened as typed values. Program independent. -/
section
namespace Go.Proofs.Ytjneaalpiangdaa
open Go.ChangeShapes Go.WideShapes Go.ChangeAt Go.RowKit
def okI64 (n : Int) : Prop := -9223372036854775808 ≤ n ∧ n ≤ 9223372036854775807
def okU8 (n : Int) : Prop := 0 ≤ n ∧ n ≤ 255
def okB (_ : Bool) : Prop := True
def okStr (s : List UInt8) : Prop := s.length ≤ 9223372036854775807
def okL {α : Type} (ok : α → Prop) (l : List α) : Prop := l.length ≤ 9223372036854775807 ∧ ∀ x ∈ l, ok x
theorem inK64 {n : Int} (h : InK .i64 n) : okI64 n := by
  unfold InK at h
  rw [IntKind.wrap_i64] at h
  unfold okI64
  omega
theorem inK8 {n : Int} (h : InK .u8 n) : okU8 n := by
  unfold InK at h
  simp only [IntKind.wrap, IntKind.bits, IntKind.signed] at h
  unfold okU8
  simp at h
  omega
section
variable {P : Program} {t e : TypeId} {α : Type} {ok : α → Prop} {av : α → AV}
theorem opI64 (ht : P.underlying t = some (.int .i64)) (hc : P.cellsOf t = 1) : OpA P t fun xs => ∃ n, okI64 n ∧ xs = [avI64 n] :=
  (opA_int ht hc).mono fun _ ⟨n, h, e⟩ => ⟨n, inK64 h, e⟩
theorem opU8 (ht : P.underlying t = some (.int .u8)) (hc : P.cellsOf t = 1) : OpA P t fun xs => ∃ n, okU8 n ∧ xs = [avU8 n] :=
  (opA_int ht hc).mono fun _ ⟨n, h, e⟩ => ⟨n, inK8 h, e⟩
theorem opB (ht : P.underlying t = some .bool) (hc : P.cellsOf t = 1) : OpA P t fun xs => ∃ b, okB b ∧ xs = [avB b] :=
  (opA_bool ht hc).mono fun _ ⟨b, e⟩ => ⟨b, trivial, e⟩
theorem opStr (ht : P.underlying t = some .string) (hc : P.cellsOf t = 1) : OpA P t fun xs => ∃ s, okStr s ∧ xs = [avStr s] :=
  (opA_string ht hc).mono fun _ ⟨s, h, e⟩ => ⟨s, h, e⟩
theorem list_ofA : ∀ {ys : List AV}, (∀ y ∈ ys, ElA true (fun xs => ∃ c, ok c ∧ .agg xs = av c) y) → ∃ l : List α, (∀ c ∈ l, ok c) ∧ ys = l.map av
  | [], _ => ⟨[], by simp, rfl⟩
  | y :: ys, h => by
    obtain ⟨l, hl, rfl⟩ := list_ofA fun z hz => h z (List.mem_cons_of_mem _ hz)
    have h0 := h y (List.mem_cons_self ..)
    simp only [ElA, if_true] at h0
    obtain ⟨zs, rfl, c, hk, hc⟩ := h0
    exact ⟨c :: l, by simpa using ⟨hk, hl⟩, by simp [hc]⟩
theorem list_ofS : ∀ {ys : List AV}, (∀ y ∈ ys, ElA false (fun xs => ∃ c, ok c ∧ xs = [av c]) y) → ∃ l : List α, (∀ c ∈ l, ok c) ∧ ys = l.map av
  | [], _ => ⟨[], by simp, rfl⟩
  | y :: ys, h => by
    obtain ⟨l, hl, rfl⟩ := list_ofS fun z hz => h z (List.mem_cons_of_mem _ hz)
    have h0 := h y (List.mem_cons_self ..)
    simp only [ElA, Bool.false_eq_true, if_false] at h0
    obtain ⟨_, c, hk, hc⟩ := h0
    exact ⟨c :: l, by simpa using ⟨hk, hl⟩, by simp at hc; simp [hc]⟩
theorem opSlA (ht : P.underlying t = some (.slice e)) (hc : P.cellsOf t = 1) (he : OpA P e fun xs => ∃ c, ok c ∧ .agg xs = av c) : OpA P t fun xs => ∃ l : List α, okL ok l ∧ xs = [.sl (l.map av)] :=
  (opA_slice true ht hc he (.inl rfl)).mono fun _ ⟨ys, hl, hy, e⟩ => by
    obtain ⟨l, hk, rfl⟩ := list_ofA hy
    exact ⟨l, ⟨by simpa using hl, hk⟩, e⟩
theorem opSlS (ht : P.underlying t = some (.slice e)) (hc : P.cellsOf t = 1) (he1 : P.cellsOf e = 1) (he : OpA P e fun xs => ∃ c, ok c ∧ xs = [av c]) : OpA P t fun xs => ∃ l : List α, okL ok l ∧ xs = [.sl (l.map av)] :=
  (opA_slice false ht hc he (.inr he1)).mono fun _ ⟨ys, hl, hy, e⟩ => by
    obtain ⟨l, hk, rfl⟩ := list_ofS hy
    exact ⟨l, ⟨by simpa using hl, hk⟩, e⟩
end
end Go.Proofs.Ytjneaalpiangdaa
end

/- Part QA. Typed models: the types and their reading. -/
section
namespace Go.Proofs.Ytjneaalpiangdaa
open Go.RowKit
set_option maxRecDepth 100000
set_option maxHeartbeats 4000000
structure DL1Cur where
  fcode : List Int
  fat : Int
  fseed : Int
@[simp] def avL1Cur (x : DL1Cur) : AV := .agg [.sl (x.fcode.map avU8), .int .i64 x.fat, .int .u64 x.fseed]
@[simp] def avTI64L1CurZ2 (x : Int × DL1Cur) : AV := .tup [.int .i64 x.1, avL1Cur x.2]
@[simp] def avRL1Cur (x : DL1Cur) : AV := .ref (avL1Cur x)
structure DClock where
  fOff : Int
@[simp] def avClock (x : DClock) : AV := .agg [.int .i64 x.fOff]
structure DVLease where
  fVer : Int
  fUntil : Int
@[simp] def avVLease (x : DVLease) : AV := .agg [.int .i64 x.fVer, .int .i64 x.fUntil]
structure DRenew where
  fNow : Int
  fMaster : DClock
  fClocks : List DClock
  fVer : Int
  fLeases : List DVLease
@[simp] def avRenew (x : DRenew) : AV := .agg [.int .i64 x.fNow, .int .i64 x.fMaster.fOff, .sl (x.fClocks.map avClock), .int .i64 x.fVer, .sl (x.fLeases.map avVLease)]
@[simp] def avTRenewBZ2 (x : DRenew × Bool) : AV := .tup [avRenew x.1, .bool x.2]
structure DRenewAct where
  fKind : Int
  fWho : Int
  fBy : Int
@[simp] def avRenewAct (x : DRenewAct) : AV := .agg [.int .i64 x.fKind, .int .i64 x.fWho, .int .i64 x.fBy]
@[simp] def avTRenewActL1CurZ2 (x : DRenewAct × DL1Cur) : AV := .tup [avRenewAct x.1, avL1Cur x.2]
@[simp] def avTSRenewActL1CurZ2 (x : List DRenewAct × DL1Cur) : AV := .tup [.sl (x.1.map avRenewAct), avL1Cur x.2]
@[simp] def avTRenewSBBZ3 (x : DRenew × List Bool × Bool) : AV := .tup [avRenew x.1, .sl (x.2.1.map avB), .bool x.2.2]
@[simp] def avTBL1CurZ2 (x : Bool × DL1Cur) : AV := .tup [.bool x.1, avL1Cur x.2]
@[simp] def avTRenewL1CurZ2 (x : DRenew × DL1Cur) : AV := .tup [avRenew x.1, avL1Cur x.2]
@[simp] def avTRenewRenewActZ2 (x : DRenew × DRenewAct) : AV := .tup [avRenew x.1, avRenewAct x.2]
@[simp] def avRRenew (x : DRenew) : AV := .ref (avRenew x)
@[simp] def avSVLease (x : List DVLease) : AV := .sl (x.map avVLease)
@[simp] def avSClock (x : List DClock) : AV := .sl (x.map avClock)
structure DSpan where
  fLow : Int
  fHigh : Int
@[simp] def avSpan (x : DSpan) : AV := .agg [.int .i64 x.fLow, .int .i64 x.fHigh]
@[simp] def avRRRenew (x : DRenew) : AV := .ref (.agg [avRRenew x])
@[simp] def avRI64 (x : Int) : AV := .ref (.agg [.int .i64 x])
@[simp] def avTBRenewZ2 (x : Bool × DRenew) : AV := .tup [.bool x.1, avRenew x.2]
@[simp] def avTRenewBBZ3 (x : DRenew × Bool × Bool) : AV := .tup [avRenew x.1, .bool x.2.1, .bool x.2.2]
@[simp] def avTBBZ2 (x : Bool × Bool) : AV := .tup [.bool x.1, .bool x.2]
@[simp] def avTRenewI64Z2 (x : DRenew × Int) : AV := .tup [avRenew x.1, .int .i64 x.2]
@[simp] def avTI64BBZ3 (x : Int × Bool × Bool) : AV := .tup [.int .i64 x.1, .bool x.2.1, .bool x.2.2]
@[simp] def avTSpanBZ2 (x : DSpan × Bool) : AV := .tup [avSpan x.1, .bool x.2]
@[simp] def avTI64SClockZ2 (x : Int × List DClock) : AV := .tup [.int .i64 x.1, .sl (x.2.map avClock)]
@[simp] def avTI64SVLeaseZ2 (x : Int × List DVLease) : AV := .tup [.int .i64 x.1, .sl (x.2.map avVLease)]
@[simp] def avTI64RenewZ2 (x : Int × DRenew) : AV := .tup [.int .i64 x.1, avRenew x.2]
@[simp] def avTRenewSRenewActZ2 (x : DRenew × List DRenewAct) : AV := .tup [avRenew x.1, .sl (x.2.map avRenewAct)]
@[simp] def avSRenewAct (x : List DRenewAct) : AV := .sl (x.map avRenewAct)
@[simp] def avTI64SRenewActZ2 (x : Int × List DRenewAct) : AV := .tup [.int .i64 x.1, .sl (x.2.map avRenewAct)]
@[simp] def avTI64SBZ2 (x : Int × List Bool) : AV := .tup [.int .i64 x.1, .sl (x.2.map avB)]
end Go.Proofs.Ytjneaalpiangdaa
end

/- Part QO. How the arguments of the laws are opened as typed values. -/
section
namespace Go.Proofs.Ytjneaalpiangdaa
open Go.ChangeShapes Go.WideShapes Go.ChangeAt Go.RowKit
set_option maxRecDepth 100000
theorem op1 : OpA Try.prog 5 fun xs => ∃ n, okU8 n ∧ xs = [avU8 n] := opU8 Try.underlying5 (by kernel_rfl)
theorem op0 : OpA Try.prog 22 fun xs => ∃ l : List Int, okL okU8 l ∧ xs = [.sl (l.map avU8)] := opSlS Try.underlying22 (by kernel_rfl) (by kernel_rfl) op1
end Go.Proofs.Ytjneaalpiangdaa
end

/- Part NA. Plain tools for typed models: loops over lists, searches. Program independent. -/
section
namespace Go.Proofs.Ytjneaalpiangdaa
open Go.RowKit
theorem getI_nat {α : Type} {xs : List α} {i : Nat} (h : i < xs.length) : getI xs (i : Int) = some xs[i] := by simp [getI, h]
theorem getI_lt {α : Type} {xs : List α} {i : Int} (h0 : 0 ≤ i) (h : i < xs.length) : ∃ x, getI xs i = some x ∧ x ∈ xs ∧ xs[i.toNat]? = some x := by
  have hi : i.toNat < xs.length := by omega
  exact ⟨xs[i.toNat], by simp [getI, h0, hi], List.getElem_mem hi, by simp [hi]⟩
theorem getI_mem {α : Type} {xs : List α} {i : Int} {x : α} (h : getI xs i = some x) : x ∈ xs := by
  obtain ⟨h1, h2, h3⟩ := getIE h
  exact List.mem_of_getElem? h3
theorem wrapN {q n : Nat} (h : q < n) (hn : n ≤ 9223372036854775807) : IntKind.i64.wrap ((q : Int) + 1) = ((q + 1 : Nat) : Int) := by rw [wrap64 (by omega) (by omega)]; simp
theorem req_pos {α : Type} {p : Prop} [Decidable p] {k : Option α} (h : p) : req p k = k := by simp [req, h]
/-- A walk through a list: each element gives the next state or ends it. -/
def goL {α σ β : Type} (step : α → σ → Option (σ ⊕ Option β)) (fin : σ → Option β) : List α → σ → Option β
  | [], s => fin s
  | x :: xs, s => match step x s with
    | none => none
    | some (.inl s') => goL step fin xs s'
    | some (.inr o) => o
/-- What a round of a loop gives, the index put in. -/
def nextI {σ τ β : Type} (f : σ → τ) : Option (σ ⊕ Option β) → Option (τ ⊕ Option β)
  | none => none
  | some (.inl s) => some (.inl (f s))
  | some (.inr o) => some (.inr o)
theorem loop_from {α σ τ β : Type} {xs : List α} {body : τ → Option (τ ⊕ Option β)} (emb : Int → σ → τ) (step : α → σ → Option (σ ⊕ Option β)) (fin : σ → Option β) (q0 : Nat)
    (hs : ∀ (i : Nat) (hi : i < xs.length) (s : σ), q0 ≤ i → body (emb i s) = nextI (emb ((i + 1 : Nat) : Int)) (step xs[i] s)) (he : ∀ s, body (emb xs.length s) = some (.inr (fin s))) (s : σ) (h0 : q0 ≤ xs.length) : loopO body (emb q0 s) = goL step fin (xs.drop q0) s := by
  have key : ∀ (n q : Nat) (s : σ), q0 ≤ q → q + n = xs.length → loopO body (emb q s) = goL step fin (xs.drop q) s := by
    intro n
    induction n with
    | zero =>
      intro q s _ hq
      have : q = xs.length := by omega
      subst this
      rw [loopO_eq, he s]
      simp [goL]
    | succ n ih =>
      intro q s h0 hq
      have hlt : q < xs.length := by omega
      rw [loopO_eq, hs q hlt s h0, List.drop_eq_getElem_cons hlt]
      rcases hst : step xs[q] s with _ | s' | o
      · simp [goL, hst, nextI]
      · simp only [goL, hst, nextI]; exact ih (q + 1) s' (by omega) (by omega)
      · simp [goL, hst, nextI]
  exact key (xs.length - q0) q0 s (Nat.le_refl _) (by omega)
theorem loop_list {α σ τ β : Type} {xs : List α} {body : τ → Option (τ ⊕ Option β)} (emb : Int → σ → τ) (step : α → σ → Option (σ ⊕ Option β)) (fin : σ → Option β)
    (hs : ∀ (i : Nat) (hi : i < xs.length) (s : σ), body (emb i s) = nextI (emb ((i + 1 : Nat) : Int)) (step xs[i] s)) (he : ∀ s, body (emb xs.length s) = some (.inr (fin s))) (s : σ) : loopO body (emb 0 s) = goL step fin xs s := by
  have := loop_from emb step fin 0 (fun i hi s _ => hs i hi s) he s (by omega)
  simpa using this
theorem goL_all {α σ β : Type} {step : α → σ → Option (σ ⊕ Option β)} {fin : σ → Option β} {xs : List α} (p : α → Bool) (b : β) (h : ∀ x ∈ xs, ∀ s, step x s = some (if p x = true then .inl s else .inr (some b))) (s : σ) : goL step fin xs s = if xs.all p = true then fin s else some b := by
  induction xs with
  | nil => simp [goL]
  | cons x xs ih =>
    simp only [goL, h x (by simp) s]
    cases hp : p x with
    | true => simp [hp, ih fun y hy => h y (by simp [hy])]
    | false => simp [hp]
theorem goL_fold {α σ β : Type} {step : α → σ → Option (σ ⊕ Option β)} {fin : σ → Option β} {xs : List α} (f : σ → α → σ) (I : σ → Prop) (hI : ∀ x ∈ xs, ∀ s, I s → I (f s x)) (h : ∀ x ∈ xs, ∀ s, I s → step x s = some (.inl (f s x))) {s : σ} (hs : I s) : goL step fin xs s = fin (xs.foldl f s) := by
  induction xs generalizing s with
  | nil => simp [goL]
  | cons x xs ih =>
    simp only [goL, h x (by simp) s hs, List.foldl_cons]
    exact ih (fun y hy => hI y (by simp [hy])) (fun y hy => h y (by simp [hy])) (hI x (by simp) s hs)
theorem goL_foldN {α σ β : Type} {step : α → σ → Option (σ ⊕ Option β)} {fin : σ → Option β} (f : σ → α → σ) (n : Nat) (I : Nat → σ → Prop) {xs : List α} (h : ∀ q, q < n → ∀ x ∈ xs, ∀ s, I q s → step x s = some (.inl (f s x)) ∧ I (q + 1) (f s x)) {q : Nat} {s : σ} (hq : q + xs.length ≤ n) (hs : I q s) : goL step fin xs s = fin (xs.foldl f s) ∧ I (q + xs.length) (xs.foldl f s) := by
  induction xs generalizing s q with
  | nil => exact ⟨rfl, hs⟩
  | cons x xs ih =>
    simp only [List.length_cons] at hq
    obtain ⟨h1, h2⟩ := h q (by omega) x (by simp) s hs
    simp only [goL, h1, List.foldl_cons, List.length_cons]
    have := ih (fun q hq y hy => h q hq y (by simp [hy])) (q := q + 1) (by omega) h2
    rw [show q + (xs.length + 1) = q + 1 + xs.length by omega]
    exact this
theorem loop_fold {α σ τ β : Type} {xs : List α} {body : τ → Option (τ ⊕ Option β)} (emb : Int → σ → τ) (f : σ → α → σ) (fin : σ → Option β) (I : Nat → σ → Prop)
    (hs : ∀ (i : Nat) (hi : i < xs.length) (s : σ), I i s → body (emb i s) = some (.inl (emb ((i + 1 : Nat) : Int) (f s xs[i]))) ∧ I (i + 1) (f s xs[i])) (he : ∀ s, I xs.length s → body (emb xs.length s) = some (.inr (fin s))) {s : σ} (h0 : I 0 s) : loopO body (emb 0 s) = fin (xs.foldl f s) ∧ I xs.length (xs.foldl f s) := by
  have key : ∀ (n q : Nat) (s : σ), q + n = xs.length → I q s → loopO body (emb q s) = fin ((xs.drop q).foldl f s) ∧ I xs.length ((xs.drop q).foldl f s) := by
    intro n
    induction n with
    | zero =>
      intro q s hq hI
      have : q = xs.length := by omega
      subst this
      rw [loopO_eq, he s hI]
      simp [hI]
    | succ n ih =>
      intro q s hq hI
      have hlt : q < xs.length := by omega
      obtain ⟨h1, h2⟩ := hs q hlt s hI
      rw [loopO_eq, h1, List.drop_eq_getElem_cons hlt, List.foldl_cons]
      exact ih (q + 1) _ (by omega) h2
  have := key xs.length 0 s (by omega) h0
  simpa using this
theorem has_any {α : Type} {xs : List α} {p : α → Option Bool} (q : α → Bool) (hp : ∀ x ∈ xs, p x = some (q x)) (hn : xs.length ≤ 9223372036854775806) : m_ContainsFunc xs p = some (xs.any q) := by
  have key : ∀ (l : List α) (i : Int), 0 ≤ i → (∀ x ∈ l, p x = some (q x)) → ∃ r, idxO p l i = some r ∧ decide (r ≥ 0) = l.any q := by
    intro l
    induction l with
    | nil => intro i _ _; exact ⟨-1, rfl, by simp⟩
    | cons x l ih =>
      intro i hi h
      simp only [idxO, h x (by simp), Option.bind_some]
      cases hq : q x with
      | true => exact ⟨i, by simp, by simp [hq, hi]⟩
      | false =>
        obtain ⟨r, h1, h2⟩ := ih (i + 1) (by omega) fun y hy => h y (by simp [hy])
        exact ⟨r, by simp [h1], by simp [hq, h2]⟩
  obtain ⟨r, h1, h2⟩ := key xs 0 (by omega) hp
  simp [m_ContainsFunc, m_IndexFunc, req_pos hn, h1, h2]
theorem clone_id {α : Type} {b : Nat} {xs : List α} (h : (xs.length : Int) * b ≤ 140737488355328) (h2 : (xs.length : Int) ≤ 140737488355328) : m_Clone b xs = some xs := req_pos ⟨h, h2⟩
theorem iteC {α : Type} {b : Bool} {A B : Option α} {y : Option α} (ha : b = true → A = y) (hb : b = false → B = y) : (if b = true then A else B) = y := by
  cases b with
  | true => simpa using ha rfl
  | false => simpa using hb rfl
theorem iteF {α : Type} {b : Bool} {A B y : Option α} (h : b = false) (hb : B = y) : (if b = true then A else B) = y := by rw [if_neg (by simp [h])]; exact hb
theorem iteT {α : Type} {b : Bool} {A B y : Option α} (h : b = true) (ha : A = y) : (if b = true then A else B) = y := by rw [if_pos h]; exact ha
theorem bind_eq {α β : Type} {o : Option α} {x : α} {f : α → Option β} (h : o = some x) : o.bind f = f x := by rw [h]; rfl
end Go.Proofs.Ytjneaalpiangdaa
end

/- Part QM. Typed models: what the functions give. -/
section
namespace Go.Proofs.Ytjneaalpiangdaa
open Go.RowKit
set_option maxRecDepth 100000
set_option maxHeartbeats 4000000
noncomputable def m___spec_l1Cur__next (a0 : DL1Cur) : Option (Int × DL1Cur) :=
  if (decide (a0.fat < (a0.fcode.length : Int))) then
    (getI a0.fcode a0.fat).bind fun y3 =>
    if (decide ((IntKind.i64.wrap (a0.fat + 1)) ≤ (a0.fcode.length : Int))) then
      some ((IntKind.i64.wrap y3), (⟨a0.fcode, (IntKind.i64.wrap (a0.fat + 1)), (IntKind.u64.wrap ((IntKind.u64.wrap ((IntKind.u64.wrap (a0.fseed * 6364136223846793005)) + (IntKind.u64.wrap (IntKind.i64.wrap y3)))) + 1442695040888963407))⟩ : DL1Cur))
    else
      some ((IntKind.i64.wrap (IntKind.u64.wrap ((BitVec.ofInt (IntKind.bits .u64) (Int.fdiv (IntKind.u64.wrap ((IntKind.u64.wrap ((IntKind.u64.wrap (a0.fseed * 6364136223846793005)) + (IntKind.u64.wrap (IntKind.i64.wrap y3)))) + 1442695040888963407)) (2 ^ (min ((40 : Int)).toNat (IntKind.bits .u64)))) &&& BitVec.ofInt (IntKind.bits .u64) 255).toNat : Int))), (⟨a0.fcode, (IntKind.i64.wrap (a0.fat + 1)), (IntKind.u64.wrap ((IntKind.u64.wrap ((IntKind.u64.wrap (a0.fseed * 6364136223846793005)) + (IntKind.u64.wrap (IntKind.i64.wrap y3)))) + 1442695040888963407))⟩ : DL1Cur))
  else
    if (decide ((IntKind.i64.wrap (a0.fat + 1)) ≤ (a0.fcode.length : Int))) then
      some (0, (⟨a0.fcode, (IntKind.i64.wrap (a0.fat + 1)), (IntKind.u64.wrap ((IntKind.u64.wrap ((IntKind.u64.wrap (a0.fseed * 6364136223846793005)) + (IntKind.u64.wrap 0))) + 1442695040888963407))⟩ : DL1Cur))
    else
      some ((IntKind.i64.wrap (IntKind.u64.wrap ((BitVec.ofInt (IntKind.bits .u64) (Int.fdiv (IntKind.u64.wrap ((IntKind.u64.wrap ((IntKind.u64.wrap (a0.fseed * 6364136223846793005)) + (IntKind.u64.wrap 0))) + 1442695040888963407)) (2 ^ (min ((40 : Int)).toNat (IntKind.bits .u64)))) &&& BitVec.ofInt (IntKind.bits .u64) 255).toNat : Int))), (⟨a0.fcode, (IntKind.i64.wrap (a0.fat + 1)), (IntKind.u64.wrap ((IntKind.u64.wrap ((IntKind.u64.wrap (a0.fseed * 6364136223846793005)) + (IntKind.u64.wrap 0))) + 1442695040888963407))⟩ : DL1Cur))
noncomputable def m___spec_l1Cur__pick (a0 : DL1Cur) (a1 : Int) : Option (Int × DL1Cur) :=
  if (decide (a1 ≤ 1)) then
    some (0, a0)
  else
    (m___spec_l1Cur__next a0).bind fun v2 =>
    if (decide (a1 > 200)) then
      (m___spec_l1Cur__next v2.2).bind fun v5 =>
      req (a1 ≠ 0) <|
      some ((Int.tmod (IntKind.i64.wrap ((IntKind.i64.wrap (v2.1 * 256)) + v5.1)) a1), v5.2)
    else
      req (a1 ≠ 0) <|
      some ((Int.tmod v2.1 a1), v2.2)
noncomputable def m_spec_l1In (a0 : Int) (a1 : Int) (a2 : Int) : Option (Bool) :=
  some ((decide (a0 ≥ a1)) && (decide (a0 ≤ a2)))
noncomputable def m_spec_NewRenew (a0 : Int) : Option (DRenew × Bool) :=
  (m_spec_l1In a0 1 3).bind fun v1 =>
  if (!v1) then
    some ((⟨0, (⟨0⟩ : DClock), [], 0, []⟩ : DRenew), false)
  else
    req (0 ≤ a0 ∧ a0 * 8 ≤ 140737488355328 ∧ a0 ≤ 140737488355328) <|
    req (0 ≤ a0 ∧ a0 * 16 ≤ 140737488355328 ∧ a0 ≤ 140737488355328) <|
    some ((⟨0, (⟨0⟩ : DClock), (List.replicate (a0).toNat (⟨0⟩ : DClock)), 0, (List.replicate (a0).toNat (⟨0, 0⟩ : DVLease))⟩ : DRenew), true)
noncomputable def m___spec_l1Cur__among (a0 : DL1Cur) (a1 : List Int) : Option (Int × DL1Cur) :=
  (m___spec_l1Cur__pick a0 (a1.length : Int)).bind fun v1 =>
  (getI a1 v1.1).bind fun y2 =>
  some (y2, v1.2)
noncomputable def m___spec_l1Cur__renewAct_j1 (a1 : DRenew) (v1 : Int × DL1Cur) (v3 : Bool) : Option (DRenewAct × DL1Cur) :=
  if v3 then
    (m___spec_l1Cur__among v1.2 ([1, 2, 5, 9, 14, 30, 50] : List Int)).bind fun v5 =>
    some ((⟨1, 0, v5.1⟩ : DRenewAct), v5.2)
  else
    if (v1.1 == 3) then
      (m___spec_l1Cur__pick v1.2 (IntKind.i64.wrap ((a1.fClocks.length : Int) + 1))).bind fun v7 =>
      (m___spec_l1Cur__pick v7.2 11).bind fun v8 =>
      some ((⟨2, v7.1, (IntKind.i64.wrap (v8.1 - 5))⟩ : DRenewAct), v8.2)
    else
      if (v1.1 == 4) then
        (m___spec_l1Cur__pick v1.2 (a1.fClocks.length : Int)).bind fun v11 =>
        some ((⟨3, v11.1, 0⟩ : DRenewAct), v11.2)
      else
        if (v1.1 == 5) then
          (m___spec_l1Cur__pick v1.2 (a1.fClocks.length : Int)).bind fun v13 =>
          some ((⟨3, v13.1, 0⟩ : DRenewAct), v13.2)
        else
          some ((⟨4, 0, 0⟩ : DRenewAct), v1.2)
noncomputable def m___spec_l1Cur__renewAct (a0 : DL1Cur) (a1 : DRenew) : Option (DRenewAct × DL1Cur) :=
  (m___spec_l1Cur__pick a0 8).bind fun v1 =>
  if (v1.1 == 0) then
    m___spec_l1Cur__renewAct_j1 a1 v1 (v1.1 == 0)
  else
    if (v1.1 == 1) then
      m___spec_l1Cur__renewAct_j1 a1 v1 (v1.1 == 1)
    else
      m___spec_l1Cur__renewAct_j1 a1 v1 (v1.1 == 2)
noncomputable def m___spec_l1Cur__renewActs_b1 (a1 : DRenew) (v2 : List DRenewAct) (v3 : Int) (v4 : List Int) (v5 : Int) (v6 : Int) : Option ((List DRenewAct × Int × List Int × Int × Int) ⊕ Option (List DRenewAct × DL1Cur)) :=
  if (decide (v3 > 0)) then
    (m___spec_l1Cur__renewAct (⟨v4, v5, v6⟩ : DL1Cur) a1).bind fun v8 =>
    req ((((v2).length : Int) + (([v8.1] : List DRenewAct).length : Int)) * 24 ≤ 140737488355328 ∧ ((v2).length : Int) + (([v8.1] : List DRenewAct).length : Int) ≤ 140737488355328) <|
    some (.inl ((v2 ++ [v8.1]), (IntKind.i64.wrap (v3 - 1)), v8.2.fcode, v8.2.fat, v8.2.fseed))
  else
    some (.inr (some (v2, (⟨v4, v5, v6⟩ : DL1Cur))))
noncomputable def m___spec_l1Cur__renewActs (a0 : DL1Cur) (a1 : DRenew) (a2 : Int) : Option (List DRenewAct × DL1Cur) :=
  (m___spec_l1Cur__pick a0 (IntKind.i64.wrap (a2 + 1))).bind fun v1 =>
  loopO (fun s : List DRenewAct × Int × List Int × Int × Int => m___spec_l1Cur__renewActs_b1 a1 s.1 s.2.1 s.2.2.1 s.2.2.2.1 s.2.2.2.2) ([], v1.1, v1.2.fcode, v1.2.fat, v1.2.fseed)
noncomputable def m_spec_l2Clock (a0 : DClock) : Option (Bool) :=
  (m_spec_l1In a0.fOff (-5) 5).bind fun v1 =>
  some v1
noncomputable def m_spec_GoodClock (a0 : DClock) : Option (Bool) :=
  (m_spec_l2Clock a0).bind fun v1 =>
  some v1
noncomputable def m_spec_l28Clocks_k1 (a0 : List DClock) : Option (Bool) :=
  (m_spec_l1In (a0.length : Int) 1 3).bind fun v1 =>
  some v1
noncomputable def m_spec_l28Clocks_b2 (a0 : List DClock) (v2 : Int) : Option ((Int) ⊕ Option (Bool)) :=
  if (decide (v2 < (a0.length : Int))) then
    (getI a0 v2).bind fun y4 =>
    (m_spec_GoodClock y4).bind fun v5 =>
    if (!v5) then
      some (.inr (some false))
    else
      some (.inl (IntKind.i64.wrap (v2 + 1)))
  else
    some (.inr (m_spec_l28Clocks_k1 a0))
noncomputable def m_spec_l28Clocks (a0 : List DClock) : Option (Bool) :=
  loopO (fun s : Int => m_spec_l28Clocks_b2 a0 s) 0
noncomputable def m_spec_GoodRenew_b1 (a0 : DRenew) (v9 : Int) : Option ((Int) ⊕ Option (Bool)) :=
  if (decide (v9 < (a0.fLeases.length : Int))) then
    (getI a0.fLeases v9).bind fun y11 =>
    (m_spec_l1In y11.fVer 0 a0.fVer).bind fun v12 =>
    if v12 then
      (m_spec_l1In y11.fUntil 0 1020).bind fun v14 =>
      if (!v14) then
        some (.inr (some false))
      else
        some (.inl (IntKind.i64.wrap (v9 + 1)))
    else
      some (.inr (some false))
  else
    some (.inr (some true))
noncomputable def m_spec_GoodRenew (a0 : DRenew) : Option (Bool) :=
  (m_spec_l1In a0.fNow 0 1000).bind fun v1 =>
  if v1 then
    (m_spec_GoodClock a0.fMaster).bind fun v3 =>
    if v3 then
      (m_spec_l28Clocks a0.fClocks).bind fun v5 =>
      if v5 then
        (m_spec_l1In a0.fVer 0 20).bind fun v7 =>
        if ((!v7) || ((a0.fLeases.length : Int) != (a0.fClocks.length : Int))) then
          some false
        else
          loopO (fun s : Int => m_spec_GoodRenew_b1 a0 s) 0
      else
        some false
    else
      some false
  else
    some false
noncomputable def m_spec_l28Own (a0 : DRenew) : Option (DRenew) :=
  req (((([] : List DClock).length : Int) + ((a0.fClocks).length : Int)) * 8 ≤ 140737488355328 ∧ (([] : List DClock).length : Int) + ((a0.fClocks).length : Int) ≤ 140737488355328) <|
  req (((([] : List DVLease).length : Int) + ((a0.fLeases).length : Int)) * 16 ≤ 140737488355328 ∧ (([] : List DVLease).length : Int) + ((a0.fLeases).length : Int) ≤ 140737488355328) <|
  some a0
noncomputable def m_spec_l28Good (a0 : DRenew) (a1 : DRenewAct) : Option (Bool) :=
  if (a1.fKind == 1) then
    if (a1.fWho == 0) then
      (m_spec_l1In a1.fBy 1 50).bind fun v3 =>
      some v3
    else
      some false
  else
    if (a1.fKind == 2) then
      (m_spec_l1In a1.fWho 0 (a0.fClocks.length : Int)).bind fun v5 =>
      if v5 then
        (m_spec_GoodClock (⟨a1.fBy⟩ : DClock)).bind fun v7 =>
        some v7
      else
        some false
    else
      if (a1.fKind == 3) then
        (m_spec_l1In a1.fWho 0 (IntKind.i64.wrap ((a0.fClocks.length : Int) - 1))).bind fun v9 =>
        some (v9 && (a1.fBy == 0))
      else
        if (a1.fKind == 4) then
          some ((a1.fWho == 0) && (a1.fBy == 0))
        else
          some false
noncomputable def m_spec_l28Low (a0 : DRenew) (a1 : DClock) : Option (Int) :=
  some (IntKind.i64.wrap ((IntKind.i64.wrap (a0.fNow + a1.fOff)) - 5))
noncomputable def m_spec_l28Raise_k1 (a0 : DRenew) : Option (Bool) :=
  some (decide (a0.fVer < 20))
noncomputable def m_spec_l28Raise_b2 (a0 : DRenew) (v1 : Int) : Option ((Int) ⊕ Option (Bool)) :=
  if (decide (v1 < (a0.fLeases.length : Int))) then
    (getI a0.fLeases v1).bind fun y3 =>
    if (y3.fVer != a0.fVer) then
      (m_spec_l28Low a0 a0.fMaster).bind fun v5 =>
      if (decide (y3.fUntil ≥ v5)) then
        some (.inr (some false))
      else
        some (.inl (IntKind.i64.wrap (v1 + 1)))
    else
      some (.inl (IntKind.i64.wrap (v1 + 1)))
  else
    some (.inr (m_spec_l28Raise_k1 a0))
noncomputable def m_spec_l28Raise (a0 : DRenew) : Option (Bool) :=
  loopO (fun s : Int => m_spec_l28Raise_b2 a0 s) 0
noncomputable def m_spec_l28Do (a0 : DRenew) (a1 : DRenewAct) : Option (DRenew × Bool) :=
  if (a1.fKind == 1) then
    if (decide ((IntKind.i64.wrap (a0.fNow + a1.fBy)) > 1000)) then
      some (a0, false)
    else
      some ((⟨(IntKind.i64.wrap (a0.fNow + a1.fBy)), a0.fMaster, a0.fClocks, a0.fVer, a0.fLeases⟩ : DRenew), true)
  else
    if (a1.fKind == 2) then
      if (a1.fWho == 0) then
        some ((⟨a0.fNow, (⟨a1.fBy⟩ : DClock), a0.fClocks, a0.fVer, a0.fLeases⟩ : DRenew), true)
      else
        (getI a0.fClocks (IntKind.i64.wrap (a1.fWho - 1))).bind fun y6 =>
        some ((⟨a0.fNow, a0.fMaster, (a0.fClocks.set ((IntKind.i64.wrap (a1.fWho - 1))).toNat { y6 with fOff := a1.fBy }), a0.fVer, a0.fLeases⟩ : DRenew), true)
    else
      if (a1.fKind == 3) then
        (m_spec_l28Low a0 a0.fMaster).bind fun v8 =>
        if (decide (v8 < 0)) then
          some (a0, false)
        else
          (getI a0.fLeases a1.fWho).bind fun y10 =>
          some ((⟨a0.fNow, a0.fMaster, a0.fClocks, a0.fVer, (a0.fLeases.set (a1.fWho).toNat (⟨a0.fVer, (IntKind.i64.wrap (v8 + 20))⟩ : DVLease))⟩ : DRenew), true)
      else
        (m_spec_l28Raise a0).bind fun v11 =>
        if (!v11) then
          some (a0, false)
        else
          some ((⟨a0.fNow, a0.fMaster, a0.fClocks, (IntKind.i64.wrap (a0.fVer + 1)), a0.fLeases⟩ : DRenew), true)
noncomputable def m_spec_PlayRenew_b1 (a1 : List DRenewAct) (v4 : List Bool) (v5 : Int) (v6 : Int) (v7 : Int) (v8 : Int) (v9 : List DClock) (v10 : List DVLease) : Option ((List Bool × Int × Int × Int × Int × List DClock × List DVLease) ⊕ Option (DRenew × List Bool × Bool)) :=
  if (decide (v5 < (a1.length : Int))) then
    (getI a1 v5).bind fun y12 =>
    (m_spec_l28Good (⟨v6, (⟨v7⟩ : DClock), v9, v8, v10⟩ : DRenew) y12).bind fun v13 =>
    if v13 then
      (m_spec_l28Do (⟨v6, (⟨v7⟩ : DClock), v9, v8, v10⟩ : DRenew) y12).bind fun v16 =>
      req ((((v4).length : Int) + (([v16.2] : List Bool).length : Int)) * 1 ≤ 140737488355328 ∧ ((v4).length : Int) + (([v16.2] : List Bool).length : Int) ≤ 140737488355328) <|
      some (.inl ((v4 ++ [v16.2]), (IntKind.i64.wrap (v5 + 1)), v16.1.fNow, v16.1.fMaster.fOff, v16.1.fVer, v16.1.fClocks, v16.1.fLeases))
    else
      req ((((v4).length : Int) + (([v13] : List Bool).length : Int)) * 1 ≤ 140737488355328 ∧ ((v4).length : Int) + (([v13] : List Bool).length : Int) ≤ 140737488355328) <|
      some (.inl ((v4 ++ [v13]), (IntKind.i64.wrap (v5 + 1)), v6, v7, v8, v9, v10))
  else
    some (.inr (some ((⟨v6, (⟨v7⟩ : DClock), v9, v8, v10⟩ : DRenew), v4, true)))
noncomputable def m_spec_PlayRenew (a0 : DRenew) (a1 : List DRenewAct) : Option (DRenew × List Bool × Bool) :=
  (m_spec_GoodRenew a0).bind fun v1 =>
  if ((!v1) || (decide ((a1.length : Int) > 40))) then
    some ((⟨0, (⟨0⟩ : DClock), [], 0, []⟩ : DRenew), [], false)
  else
    (m_spec_l28Own a0).bind fun v3 =>
    loopO (fun s : List Bool × Int × Int × Int × Int × List DClock × List DVLease => m_spec_PlayRenew_b1 a1 s.1 s.2.1 s.2.2.1 s.2.2.2.1 s.2.2.2.2.1 s.2.2.2.2.2.1 s.2.2.2.2.2.2) ([], 0, v3.fNow, v3.fMaster.fOff, v3.fVer, v3.fClocks, v3.fLeases)
noncomputable def m___spec_l1Cur__one (a0 : DL1Cur) (a1 : Int) : Option (Bool × DL1Cur) :=
  (m___spec_l1Cur__pick a0 a1).bind fun v1 =>
  some ((v1.1 == 0), v1.2)
noncomputable def m___spec_l1Cur__renew (a0 : DL1Cur) : Option (DRenew × DL1Cur) :=
  (m___spec_l1Cur__pick a0 3).bind fun v1 =>
  (m_spec_NewRenew (IntKind.i64.wrap ((1 : Int) + v1.1))).bind fun v2 =>
  (m___spec_l1Cur__renewActs v1.2 v2.1 20).bind fun v3 =>
  (m_spec_PlayRenew v2.1 v3.1).bind fun v4 =>
  (m___spec_l1Cur__one v3.2 4).bind fun v6 =>
  if v6.1 then
    (m___spec_l1Cur__pick v6.2 (v4.1.fLeases.length : Int)).bind fun v8 =>
    (getI v4.1.fLeases v8.1).bind fun y9 =>
    (m___spec_l1Cur__among v8.2 ([0, v4.1.fNow, (IntKind.i64.wrap (v4.1.fNow + 1)), (IntKind.i64.wrap (v4.1.fNow + 20)), 1020] : List Int)).bind fun v10 =>
    (m___spec_l1Cur__pick v10.2 (IntKind.i64.wrap (v4.1.fVer + 1))).bind fun v11 =>
    some ((⟨v4.1.fNow, v4.1.fMaster, v4.1.fClocks, v4.1.fVer, ((v4.1.fLeases.set (v8.1).toNat { y9 with fUntil := v10.1 }).set (v8.1).toNat { { y9 with fUntil := v10.1 } with fVer := v11.1 })⟩ : DRenew), v11.2)
  else
    some (v4.1, v6.2)
noncomputable def m___spec_l1Cur__bentRenew (a0 : DL1Cur) : Option (DRenew × DL1Cur) :=
  (m___spec_l1Cur__renew a0).bind fun v1 =>
  (m___spec_l1Cur__pick v1.2 14).bind fun v3 =>
  if (v3.1 == 0) then
    (m___spec_l1Cur__among v3.2 ([(-1), 0, 999, 1000, 1001] : List Int)).bind fun v5 =>
    some ((⟨v5.1, v1.1.fMaster, v1.1.fClocks, v1.1.fVer, v1.1.fLeases⟩ : DRenew), v5.2)
  else
    if (v3.1 == 1) then
      (m___spec_l1Cur__among v3.2 ([(-1), 20, 21] : List Int)).bind fun v7 =>
      some ((⟨v1.1.fNow, v1.1.fMaster, v1.1.fClocks, v7.1, v1.1.fLeases⟩ : DRenew), v7.2)
    else
      if (v3.1 == 2) then
        (m___spec_l1Cur__among v3.2 ([(-6), 6, 5] : List Int)).bind fun v9 =>
        (getI v1.1.fClocks 0).bind fun y10 =>
        some ((⟨v1.1.fNow, v1.1.fMaster, (v1.1.fClocks.set ((0 : Int)).toNat { y10 with fOff := v9.1 }), v1.1.fVer, v1.1.fLeases⟩ : DRenew), v9.2)
      else
        if (v3.1 == 3) then
          req ((((v1.1.fLeases).length : Int) + (([(⟨0, 0⟩ : DVLease)] : List DVLease).length : Int)) * 16 ≤ 140737488355328 ∧ ((v1.1.fLeases).length : Int) + (([(⟨0, 0⟩ : DVLease)] : List DVLease).length : Int) ≤ 140737488355328) <|
          some ((⟨v1.1.fNow, v1.1.fMaster, v1.1.fClocks, v1.1.fVer, (v1.1.fLeases ++ [(⟨0, 0⟩ : DVLease)])⟩ : DRenew), v3.2)
        else
          if (v3.1 == 4) then
            (m___spec_l1Cur__pick v3.2 25).bind fun v14 =>
            (m___spec_l1Cur__among v14.2 ([(-1), 1021] : List Int)).bind fun v15 =>
            (getI v1.1.fLeases 0).bind fun y16 =>
            some ((⟨v1.1.fNow, v1.1.fMaster, v1.1.fClocks, v1.1.fVer, (v1.1.fLeases.set ((0 : Int)).toNat (⟨(IntKind.i64.wrap (v14.1 - 1)), v15.1⟩ : DVLease))⟩ : DRenew), v15.2)
          else
            some (v1.1, v3.2)
noncomputable def m_spec_DrawStepRenew (a0 : List Int) : Option (DRenew × DRenewAct) :=
  (m___spec_l1Cur__bentRenew (⟨a0, 0, 0⟩ : DL1Cur)).bind fun v1 =>
  (m___spec_l1Cur__renewAct v1.2 v1.1).bind fun v2 =>
  (m___spec_l1Cur__pick v2.2 12).bind fun v4 =>
  if (v4.1 == 0) then
    (m___spec_l1Cur__pick v4.2 6).bind fun v6 =>
    some (v1.1, (⟨v6.1, v2.1.fWho, v2.1.fBy⟩ : DRenewAct))
  else
    if (v4.1 == 1) then
      (m___spec_l1Cur__pick v4.2 6).bind fun v8 =>
      some (v1.1, (⟨v2.1.fKind, (IntKind.i64.wrap (v8.1 - 1)), v2.1.fBy⟩ : DRenewAct))
    else
      if (v4.1 == 2) then
        (m___spec_l1Cur__among v4.2 ([(-6), 0, 50, 51] : List Int)).bind fun v10 =>
        some (v1.1, (⟨v2.1.fKind, v2.1.fWho, v10.1⟩ : DRenewAct))
      else
        some (v1.1, v2.1)
noncomputable def m_impl_within (a0 : Int) (a1 : Int) (a2 : Int) : Option (Bool) :=
  some ((decide (a0 ≥ a1)) && (decide (a0 ≤ a2)))
noncomputable def m_impl_GoodClock (a0 : DClock) : Option (Bool) :=
  (m_impl_within a0.fOff (-5) 5).bind fun v1 =>
  some v1
noncomputable def m_impl_GoodRenew_1 (a0 : DClock) : Option (Bool) :=
  (m_impl_GoodClock a0).bind fun v1 =>
  some (!v1)
noncomputable def m_impl_GoodRenew_2 (a0 : DVLease) (a1 : DRenew) : Option (Bool) :=
  (m_impl_within a0.fVer 0 a1.fVer).bind fun v1 =>
  if v1 then
    (m_impl_within a0.fUntil 0 1020).bind fun v3 =>
    some (!v3)
  else
    some true
noncomputable def m_impl_GoodRenew (a0 : DRenew) : Option (Bool) :=
  (m_impl_within a0.fNow 0 1000).bind fun v1 =>
  if v1 then
    (m_impl_GoodClock a0.fMaster).bind fun v3 =>
    if v3 then
      (m_impl_within (a0.fClocks.length : Int) 1 3).bind fun v5 =>
      if v5 then
        (m_impl_within a0.fVer 0 20).bind fun v7 =>
        if v7 then
          if ((a0.fLeases.length : Int) == (a0.fClocks.length : Int)) then
            (m_ContainsFunc a0.fClocks (fun y0 => m_impl_GoodRenew_1 y0)).bind fun v10 =>
            if v10 then
              some false
            else
              (m_ContainsFunc a0.fLeases (fun y0 => m_impl_GoodRenew_2 y0 a0)).bind fun v12 =>
              some (!v12)
          else
            some false
        else
          some false
      else
        some false
    else
      some false
  else
    some false
noncomputable def m__impl_Renew__isRenewAct (a0 : DRenew) (a1 : DRenewAct) : Option (Bool) :=
  if (a1.fKind == 1) then
    if (a1.fWho == 0) then
      (m_impl_within a1.fBy 1 50).bind fun v3 =>
      some v3
    else
      some false
  else
    if (a1.fKind == 2) then
      (m_impl_within a1.fWho 0 (a0.fClocks.length : Int)).bind fun v5 =>
      if v5 then
        (m_impl_GoodClock (⟨a1.fBy⟩ : DClock)).bind fun v7 =>
        some v7
      else
        some false
    else
      if (a1.fKind == 3) then
        (m_impl_within a1.fWho 0 (IntKind.i64.wrap ((a0.fClocks.length : Int) - 1))).bind fun v9 =>
        some (v9 && (a1.fBy == 0))
      else
        if (a1.fKind == 4) then
          some ((a1.fWho == 0) && (a1.fBy == 0))
        else
          some false
noncomputable def m_impl_GoodRenewAct (a0 : DRenew) (a1 : DRenewAct) : Option (Bool) :=
  (m_impl_GoodRenew a0).bind fun v1 =>
  if v1 then
    (m__impl_Renew__isRenewAct a0 a1).bind fun v3 =>
    some v3
  else
    some false
noncomputable def m_slices_Clone___impl_Clock_impl_Clock_ (xs : List DClock) : Option (List DClock) := m_Clone 8 xs
noncomputable def m_slices_Clone___impl_VLease_impl_VLease_ (xs : List DVLease) : Option (List DVLease) := m_Clone 16 xs
noncomputable def m_impl_copyRenew (a0 : DRenew) : Option (DRenew) :=
  (m_slices_Clone___impl_Clock_impl_Clock_ a0.fClocks).bind fun v1 =>
  (m_slices_Clone___impl_VLease_impl_VLease_ a0.fLeases).bind fun v2 =>
  some (⟨a0.fNow, a0.fMaster, v1, a0.fVer, v2⟩ : DRenew)
noncomputable def m__impl_Clock__span (a0 : DClock) (a1 : Int) : Option (DSpan) :=
  some (⟨(IntKind.i64.wrap ((IntKind.i64.wrap (a1 + a0.fOff)) - 5)), (IntKind.i64.wrap ((IntKind.i64.wrap (a1 + a0.fOff)) + 5))⟩ : DSpan)
noncomputable def m___impl_Renew__step_1 (a0 : DVLease) (a1 : DRenew) (a2 : Int) : Option (Bool) :=
  some ((a0.fVer != a1.fVer) && (decide (a0.fUntil ≥ a2)))
noncomputable def m___impl_Renew__step (a0 : DRenew) (a1 : DRenewAct) : Option (Bool × DRenew) :=
  (m__impl_Clock__span a0.fMaster a0.fNow).bind fun v1 =>
  if ((a1.fKind == 1) && (decide ((IntKind.i64.wrap (a0.fNow + a1.fBy)) ≤ 1000))) then
    some (true, (⟨(IntKind.i64.wrap (a0.fNow + a1.fBy)), a0.fMaster, a0.fClocks, a0.fVer, a0.fLeases⟩ : DRenew))
  else
    if ((a1.fKind == 2) && (a1.fWho == 0)) then
      some (true, (⟨a0.fNow, (⟨a1.fBy⟩ : DClock), a0.fClocks, a0.fVer, a0.fLeases⟩ : DRenew))
    else
      if (a1.fKind == 2) then
        (getI a0.fClocks (IntKind.i64.wrap (a1.fWho - 1))).bind fun y6 =>
        some (true, (⟨a0.fNow, a0.fMaster, (a0.fClocks.set ((IntKind.i64.wrap (a1.fWho - 1))).toNat { y6 with fOff := a1.fBy }), a0.fVer, a0.fLeases⟩ : DRenew))
      else
        if ((a1.fKind == 3) && (decide (v1.fLow ≥ 0))) then
          (getI a0.fLeases a1.fWho).bind fun y8 =>
          some (true, (⟨a0.fNow, a0.fMaster, a0.fClocks, a0.fVer, (a0.fLeases.set (a1.fWho).toNat (⟨a0.fVer, (IntKind.i64.wrap (v1.fLow + 20))⟩ : DVLease))⟩ : DRenew))
        else
          if (a1.fKind == 4) then
            if (decide (a0.fVer < 20)) then
              (m_ContainsFunc a0.fLeases (fun y0 => m___impl_Renew__step_1 y0 a0 v1.fLow)).bind fun v11 =>
              if (!v11) then
                some (true, (⟨a0.fNow, a0.fMaster, a0.fClocks, (IntKind.i64.wrap (a0.fVer + 1)), a0.fLeases⟩ : DRenew))
              else
                some (false, a0)
            else
              some (false, a0)
          else
            some (false, a0)
noncomputable def m_impl_StepRenew (a0 : DRenew) (a1 : DRenewAct) : Option (DRenew × Bool × Bool) :=
  (m_impl_GoodRenewAct a0 a1).bind fun v1 =>
  if (!v1) then
    some ((⟨0, (⟨0⟩ : DClock), [], 0, []⟩ : DRenew), false, false)
  else
    (m_impl_copyRenew a0).bind fun v3 =>
    (m___impl_Renew__step v3 a1).bind fun v4 =>
    some (v4.2, v4.1, true)
noncomputable def m_spec_GoodRenewAct (a0 : DRenew) (a1 : DRenewAct) : Option (Bool) :=
  (m_spec_GoodRenew a0).bind fun v1 =>
  if v1 then
    (m_spec_l28Good a0 a1).bind fun v3 =>
    some v3
  else
    some false
noncomputable def m_spec_StepRenew (a0 : DRenew) (a1 : DRenewAct) : Option (DRenew × Bool × Bool) :=
  (m_spec_GoodRenewAct a0 a1).bind fun v1 =>
  if (!v1) then
    some ((⟨0, (⟨0⟩ : DClock), [], 0, []⟩ : DRenew), false, false)
  else
    (m_spec_l28Own a0).bind fun v3 =>
    (m_spec_l28Do v3 a1).bind fun v4 =>
    some (v4.1, v4.2, true)
noncomputable def m_impl_SoundRenew_1 (a0 : DVLease) (a1 : DRenew) : Option (Bool) :=
  some ((decide (a0.fVer < (IntKind.i64.wrap (a1.fVer - 1)))) && (decide (a0.fUntil ≥ a1.fNow)))
noncomputable def m_impl_SoundRenew (a0 : DRenew) : Option (Bool × Bool) :=
  (m_impl_GoodRenew a0).bind fun v1 =>
  if (!v1) then
    some (false, false)
  else
    (m_ContainsFunc a0.fLeases (fun y0 => m_impl_SoundRenew_1 y0 a0)).bind fun v3 =>
    some ((!v3), true)
noncomputable def m_spec_SoundRenew_b1 (a0 : DRenew) (v3 : Int) : Option ((Int) ⊕ Option (Bool × Bool)) :=
  if (decide (v3 < (a0.fLeases.length : Int))) then
    (getI a0.fLeases v3).bind fun y5 =>
    if ((decide (y5.fVer < (IntKind.i64.wrap (a0.fVer - 1)))) && (decide (y5.fUntil ≥ a0.fNow))) then
      some (.inr (some (false, true)))
    else
      some (.inl (IntKind.i64.wrap (v3 + 1)))
  else
    some (.inr (some (true, true)))
noncomputable def m_spec_SoundRenew (a0 : DRenew) : Option (Bool × Bool) :=
  (m_spec_GoodRenew a0).bind fun v1 =>
  if (!v1) then
    some (false, false)
  else
    loopO (fun s : Int => m_spec_SoundRenew_b1 a0 s) 0
noncomputable def m_spec_DrawUsableIn (a0 : List Int) : Option (DRenew × Int) :=
  (m___spec_l1Cur__bentRenew (⟨a0, 0, 0⟩ : DL1Cur)).bind fun v1 =>
  (m___spec_l1Cur__pick v1.2 5).bind fun v2 =>
  some (v1.1, (IntKind.i64.wrap (v2.1 - 1)))
noncomputable def m__impl_Renew__usable (a0 : DRenew) (a1 : Int) : Option (Bool) :=
  (getI a0.fClocks a1).bind fun y1 =>
  (m__impl_Clock__span y1 a0.fNow).bind fun v2 =>
  (getI a0.fLeases a1).bind fun y3 =>
  some (decide (v2.fHigh < y3.fUntil))
noncomputable def m_impl_UsableIn (a0 : DRenew) (a1 : Int) : Option (Int × Bool × Bool) :=
  (m_impl_GoodRenew a0).bind fun v1 =>
  if v1 then
    (m_impl_within a1 0 (IntKind.i64.wrap ((a0.fClocks.length : Int) - 1))).bind fun v3 =>
    if (!v3) then
      some (0, false, false)
    else
      (getI a0.fLeases a1).bind fun y5 =>
      (m__impl_Renew__usable a0 a1).bind fun v6 =>
      some (y5.fVer, v6, true)
  else
    some (0, false, false)
noncomputable def m_spec_l28High (a0 : DRenew) (a1 : DClock) : Option (Int) :=
  some (IntKind.i64.wrap ((IntKind.i64.wrap (a0.fNow + a1.fOff)) + 5))
noncomputable def m_spec_l28Usable (a0 : DRenew) (a1 : Int) : Option (Bool) :=
  (getI a0.fClocks a1).bind fun y1 =>
  (m_spec_l28High a0 y1).bind fun v2 =>
  (getI a0.fLeases a1).bind fun y3 =>
  some (decide (v2 < y3.fUntil))
noncomputable def m_spec_UsableIn (a0 : DRenew) (a1 : Int) : Option (Int × Bool × Bool) :=
  (m_spec_GoodRenew a0).bind fun v1 =>
  if v1 then
    (m_spec_l1In a1 0 (IntKind.i64.wrap ((a0.fClocks.length : Int) - 1))).bind fun v3 =>
    if (!v3) then
      some (0, false, false)
    else
      (getI a0.fLeases a1).bind fun y5 =>
      (m_spec_l28Usable a0 a1).bind fun v6 =>
      some (y5.fVer, v6, true)
  else
    some (0, false, false)
noncomputable def m_laws_qSameR_b2 (a0 : DRenew) (a1 : DRenew) (v2 : Int) : Option ((Int) ⊕ Option (Bool)) :=
  if (decide (v2 < (a0.fLeases.length : Int))) then
    (getI a0.fLeases v2).bind fun y4 =>
    (getI a1.fLeases v2).bind fun y5 =>
    if (!(y4.fVer == y5.fVer && (y4.fUntil == y5.fUntil))) then
      some (.inr (some false))
    else
      some (.inl (IntKind.i64.wrap (v2 + 1)))
  else
    some (.inr (some true))
noncomputable def m_laws_qSameR_k1 (a0 : DRenew) (a1 : DRenew) : Option (Bool) :=
  loopO (fun s : Int => m_laws_qSameR_b2 a0 a1 s) 0
noncomputable def m_laws_qSameR_b3 (a0 : DRenew) (a1 : DRenew) (v7 : Int) : Option ((Int) ⊕ Option (Bool)) :=
  if (decide (v7 < (a0.fClocks.length : Int))) then
    (getI a0.fClocks v7).bind fun y9 =>
    (getI a1.fClocks v7).bind fun y10 =>
    if (!(y9.fOff == y10.fOff)) then
      some (.inr (some false))
    else
      some (.inl (IntKind.i64.wrap (v7 + 1)))
  else
    some (.inr (m_laws_qSameR_k1 a0 a1))
noncomputable def m_laws_qSameR (a0 : DRenew) (a1 : DRenew) : Option (Bool) :=
  if (((((a0.fNow != a1.fNow) || (!(a0.fMaster.fOff == a1.fMaster.fOff))) || (a0.fVer != a1.fVer)) || ((a0.fClocks.length : Int) != (a1.fClocks.length : Int))) || ((a0.fLeases.length : Int) != (a1.fLeases.length : Int))) then
    some false
  else
    loopO (fun s : Int => m_laws_qSameR_b3 a0 a1 s) 0
noncomputable def m_spec_l2True (a0 : Int) : Option (Bool) :=
  (m_spec_l1In a0 0 100000).bind fun v1 =>
  some v1
noncomputable def m_spec_l2At (a0 : DClock) (a1 : Int) : Option (DSpan) :=
  some (⟨(IntKind.i64.wrap ((IntKind.i64.wrap (a1 + a0.fOff)) - 5)), (IntKind.i64.wrap ((IntKind.i64.wrap (a1 + a0.fOff)) + 5))⟩ : DSpan)
noncomputable def m_spec_SpanAt (a0 : DClock) (a1 : Int) : Option (DSpan × Bool) :=
  (m_spec_l2Clock a0).bind fun v1 =>
  if v1 then
    (m_spec_l2True a1).bind fun v3 =>
    if (!v3) then
      some ((⟨0, 0⟩ : DSpan), false)
    else
      (m_spec_l2At a0 a1).bind fun v5 =>
      some (v5, true)
  else
    some ((⟨0, 0⟩ : DSpan), false)
noncomputable def m_laws_FnRenew (a0 : List Int) (a1 : List Int) : Option (Bool) :=
  if (decide ((IntKind.i64.wrap ((a0.length : Int) + (a1.length : Int))) > 1048576)) then
    some true
  else
    (m_spec_DrawStepRenew a0).bind fun v2 =>
    (m_impl_StepRenew v2.1 v2.2).bind fun v3 =>
    (m_spec_StepRenew v2.1 v2.2).bind fun v4 =>
    (m_impl_SoundRenew v2.1).bind fun v5 =>
    (m_spec_SoundRenew v2.1).bind fun v6 =>
    (m_spec_DrawUsableIn a1).bind fun v7 =>
    (m_impl_UsableIn v7.1 v7.2).bind fun v8 =>
    (m_spec_UsableIn v7.1 v7.2).bind fun v9 =>
    if (v3.2.2 != v4.2.2) then
      some false
    else
      if (v3.2.1 != v4.2.1) then
        some false
      else
        (m_laws_qSameR v3.1 v4.1).bind fun v12 =>
        if v12 then
          if (v5.2 != v6.2) then
            some false
          else
            if (v5.1 != v6.1) then
              some false
            else
              if (v8.2.2 != v9.2.2) then
                some false
              else
                if (v8.1 != v9.1) then
                  some false
                else
                  if (v8.2.1 != v9.2.1) then
                    some false
                  else
                    (m_impl_GoodRenew v2.1).bind fun v19 =>
                    (m_spec_GoodRenew v2.1).bind fun v20 =>
                    if (v19 != v20) then
                      some false
                    else
                      (m_impl_GoodRenewAct v2.1 v2.2).bind fun v22 =>
                      if (v22 != v3.2.2) then
                        some false
                      else
                        if (v8.2.2 && v8.2.1) then
                          (getI v7.1.fClocks v7.2).bind fun y26 =>
                          (m_spec_SpanAt y26 v7.1.fNow).bind fun v27 =>
                          if v27.2 then
                            (getI v7.1.fLeases v7.2).bind fun y29 =>
                            if (decide (v27.1.fHigh ≥ y29.fUntil)) then
                              some false
                            else
                              if (!v3.2.2) then
                                some true
                              else
                                (m_impl_SoundRenew v3.1).bind fun v32 =>
                                some (((v32.2 && ((!v5.1) || v32.1)) && (decide (v3.1.fNow ≥ v2.1.fNow))) && (decide (v3.1.fVer ≥ v2.1.fVer)))
                          else
                            some false
                        else
                          if (!v3.2.2) then
                            some true
                          else
                            (m_impl_SoundRenew v3.1).bind fun v34 =>
                            some (((v34.2 && ((!v5.1) || v34.1)) && (decide (v3.1.fNow ≥ v2.1.fNow))) && (decide (v3.1.fVer ≥ v2.1.fVer)))
        else
          some false
noncomputable def m_laws_szClockS (a0 : List DClock) (a1 : Int) : Option (Int) :=
  if (decide ((IntKind.i64.wrap (a1 - (a0.length : Int))) < 0)) then
    some (-1)
  else
    some (IntKind.i64.wrap (a1 - (a0.length : Int)))
noncomputable def m_laws_szVLeaseS (a0 : List DVLease) (a1 : Int) : Option (Int) :=
  if (decide ((IntKind.i64.wrap (a1 - (a0.length : Int))) < 0)) then
    some (-1)
  else
    some (IntKind.i64.wrap (a1 - (a0.length : Int)))
noncomputable def m_laws_szRenew (a0 : DRenew) (a1 : Int) : Option (Int) :=
  (m_laws_szClockS a0.fClocks a1).bind fun v1 =>
  if (decide (v1 < 0)) then
    some (-1)
  else
    (m_laws_szVLeaseS a0.fLeases v1).bind fun v3 =>
    if (decide (v3 < 0)) then
      some (-1)
    else
      some v3
noncomputable def m_laws_toClock (a0 : DClock) : Option (DClock) :=
  some a0
noncomputable def m_laws_toClockS_b1 (a0 : List DClock) (v2 : Int) (v3 : List DClock) : Option ((Int × List DClock) ⊕ Option (List DClock)) :=
  if (decide (v2 < (a0.length : Int))) then
    (getI a0 v2).bind fun y5 =>
    (m_laws_toClock y5).bind fun v6 =>
    (getI v3 v2).bind fun y7 =>
    some (.inl ((IntKind.i64.wrap (v2 + 1)), (v3.set (v2).toNat v6)))
  else
    some (.inr (some v3))
noncomputable def m_laws_toClockS (a0 : List DClock) : Option (List DClock) :=
  req (0 ≤ (a0.length : Int) ∧ (a0.length : Int) * 8 ≤ 140737488355328 ∧ (a0.length : Int) ≤ 140737488355328) <|
  loopO (fun s : Int × List DClock => m_laws_toClockS_b1 a0 s.1 s.2) (0, (List.replicate ((a0.length : Int)).toNat (⟨0⟩ : DClock)))
noncomputable def m_laws_toVLease (a0 : DVLease) : Option (DVLease) :=
  some a0
noncomputable def m_laws_toVLeaseS_b1 (a0 : List DVLease) (v2 : Int) (v3 : List DVLease) : Option ((Int × List DVLease) ⊕ Option (List DVLease)) :=
  if (decide (v2 < (a0.length : Int))) then
    (getI a0 v2).bind fun y5 =>
    (m_laws_toVLease y5).bind fun v6 =>
    (getI v3 v2).bind fun y7 =>
    some (.inl ((IntKind.i64.wrap (v2 + 1)), (v3.set (v2).toNat v6)))
  else
    some (.inr (some v3))
noncomputable def m_laws_toVLeaseS (a0 : List DVLease) : Option (List DVLease) :=
  req (0 ≤ (a0.length : Int) ∧ (a0.length : Int) * 16 ≤ 140737488355328 ∧ (a0.length : Int) ≤ 140737488355328) <|
  loopO (fun s : Int × List DVLease => m_laws_toVLeaseS_b1 a0 s.1 s.2) (0, (List.replicate ((a0.length : Int)).toNat (⟨0, 0⟩ : DVLease)))
noncomputable def m_laws_toRenew (a0 : DRenew) : Option (DRenew) :=
  (m_laws_toClock a0.fMaster).bind fun v1 =>
  (m_laws_toClockS a0.fClocks).bind fun v2 =>
  (m_laws_toVLeaseS a0.fLeases).bind fun v3 =>
  some (⟨a0.fNow, v1, v2, a0.fVer, v3⟩ : DRenew)
noncomputable def m_laws_toRenewAct (a0 : DRenewAct) : Option (DRenewAct) :=
  some a0
noncomputable def m_laws_eqClock (a0 : DClock) (a1 : DClock) : Option (Bool) :=
  if (a0.fOff != a1.fOff) then
    some false
  else
    some true
noncomputable def m_laws_eqClockS_b1 (a0 : List DClock) (a1 : List DClock) (v2 : Int) : Option ((Int) ⊕ Option (Bool)) :=
  if (decide (v2 < (a0.length : Int))) then
    (getI a0 v2).bind fun y4 =>
    (getI a1 v2).bind fun y5 =>
    (m_laws_eqClock y4 y5).bind fun v6 =>
    if (!v6) then
      some (.inr (some false))
    else
      some (.inl (IntKind.i64.wrap (v2 + 1)))
  else
    some (.inr (some true))
noncomputable def m_laws_eqClockS (a0 : List DClock) (a1 : List DClock) : Option (Bool) :=
  if ((a0.length : Int) != (a1.length : Int)) then
    some false
  else
    loopO (fun s : Int => m_laws_eqClockS_b1 a0 a1 s) 0
noncomputable def m_laws_eqVLease (a0 : DVLease) (a1 : DVLease) : Option (Bool) :=
  if (a0.fVer != a1.fVer) then
    some false
  else
    if (a0.fUntil != a1.fUntil) then
      some false
    else
      some true
noncomputable def m_laws_eqVLeaseS_b1 (a0 : List DVLease) (a1 : List DVLease) (v2 : Int) : Option ((Int) ⊕ Option (Bool)) :=
  if (decide (v2 < (a0.length : Int))) then
    (getI a0 v2).bind fun y4 =>
    (getI a1 v2).bind fun y5 =>
    (m_laws_eqVLease y4 y5).bind fun v6 =>
    if (!v6) then
      some (.inr (some false))
    else
      some (.inl (IntKind.i64.wrap (v2 + 1)))
  else
    some (.inr (some true))
noncomputable def m_laws_eqVLeaseS (a0 : List DVLease) (a1 : List DVLease) : Option (Bool) :=
  if ((a0.length : Int) != (a1.length : Int)) then
    some false
  else
    loopO (fun s : Int => m_laws_eqVLeaseS_b1 a0 a1 s) 0
noncomputable def m_laws_eqRenew (a0 : DRenew) (a1 : DRenew) : Option (Bool) :=
  if (a0.fNow != a1.fNow) then
    some false
  else
    (m_laws_eqClock a0.fMaster a1.fMaster).bind fun v2 =>
    if (!v2) then
      some false
    else
      (m_laws_eqClockS a0.fClocks a1.fClocks).bind fun v4 =>
      if (!v4) then
        some false
      else
        if (a0.fVer != a1.fVer) then
          some false
        else
          (m_laws_eqVLeaseS a0.fLeases a1.fLeases).bind fun v7 =>
          if (!v7) then
            some false
          else
            some true
noncomputable def m_laws_markClockS_b1 (v1 : Int) (v2 : Int) (v3 : List DClock) : Option ((Int × Int × List DClock) ⊕ Option (Int × List DClock)) :=
  if (decide (v2 < (v3.length : Int))) then
    (getI v3 v2).bind fun y5 =>
    some (.inl ((IntKind.i64.wrap (v1 + 1)), (IntKind.i64.wrap (v2 + 1)), (v3.set (v2).toNat { y5 with fOff := v1 })))
  else
    some (.inr (some (v1, v3)))
noncomputable def m_laws_markClockS (a0 : List DClock) (a1 : Int) : Option (Int × List DClock) :=
  loopO (fun s : Int × Int × List DClock => m_laws_markClockS_b1 s.1 s.2.1 s.2.2) (a1, 0, a0)
noncomputable def m_laws_markVLeaseS_b1 (v1 : Int) (v2 : Int) (v3 : List DVLease) : Option ((Int × Int × List DVLease) ⊕ Option (Int × List DVLease)) :=
  if (decide (v2 < (v3.length : Int))) then
    (getI v3 v2).bind fun y5 =>
    some (.inl ((IntKind.i64.wrap ((IntKind.i64.wrap (v1 + 1)) + 1)), (IntKind.i64.wrap (v2 + 1)), ((v3.set (v2).toNat { y5 with fVer := v1 }).set (v2).toNat { { y5 with fVer := v1 } with fUntil := (IntKind.i64.wrap (v1 + 1)) })))
  else
    some (.inr (some (v1, v3)))
noncomputable def m_laws_markVLeaseS (a0 : List DVLease) (a1 : Int) : Option (Int × List DVLease) :=
  loopO (fun s : Int × Int × List DVLease => m_laws_markVLeaseS_b1 s.1 s.2.1 s.2.2) (a1, 0, a0)
noncomputable def m_laws_markRenew (a0 : DRenew) (a1 : Int) : Option (Int × DRenew) :=
  (m_laws_markClockS a0.fClocks a1).bind fun v1 =>
  (m_laws_markVLeaseS a0.fLeases v1.1).bind fun v2 =>
  some (v2.1, (⟨a0.fNow, a0.fMaster, v1.2, a0.fVer, v2.2⟩ : DRenew))
noncomputable def m_laws_heldClockS_b1 (a0 : List DClock) (v1 : Int) (v2 : Int) : Option ((Int × Int) ⊕ Option (Int)) :=
  if (decide (v2 < (a0.length : Int))) then
    (getI a0 v2).bind fun y4 =>
    if (y4.fOff != v1) then
      some (.inr (some (-1)))
    else
      some (.inl ((IntKind.i64.wrap (v1 + 1)), (IntKind.i64.wrap (v2 + 1))))
  else
    some (.inr (some v1))
noncomputable def m_laws_heldClockS (a0 : List DClock) (a1 : Int) : Option (Int) :=
  loopO (fun s : Int × Int => m_laws_heldClockS_b1 a0 s.1 s.2) (a1, 0)
noncomputable def m_laws_heldVLeaseS_b1 (a0 : List DVLease) (v1 : Int) (v2 : Int) : Option ((Int × Int) ⊕ Option (Int)) :=
  if (decide (v2 < (a0.length : Int))) then
    (getI a0 v2).bind fun y4 =>
    if (y4.fVer != v1) then
      some (.inr (some (-1)))
    else
      if (y4.fUntil != (IntKind.i64.wrap (v1 + 1))) then
        some (.inr (some (-1)))
      else
        some (.inl ((IntKind.i64.wrap ((IntKind.i64.wrap (v1 + 1)) + 1)), (IntKind.i64.wrap (v2 + 1))))
  else
    some (.inr (some v1))
noncomputable def m_laws_heldVLeaseS (a0 : List DVLease) (a1 : Int) : Option (Int) :=
  loopO (fun s : Int × Int => m_laws_heldVLeaseS_b1 a0 s.1 s.2) (a1, 0)
noncomputable def m_laws_heldRenew (a0 : DRenew) (a1 : Int) : Option (Int) :=
  (m_laws_heldClockS a0.fClocks a1).bind fun v1 =>
  if (decide (v1 < 0)) then
    some (-1)
  else
    (m_laws_heldVLeaseS a0.fLeases v1).bind fun v3 =>
    if (decide (v3 < 0)) then
      some (-1)
    else
      some v3
noncomputable def m_laws_FnExactStepRenew (a0 : DRenew) (a1 : DRenewAct) : Option (Bool) :=
  (m_laws_szRenew a0 1048576).bind fun v1 =>
  if (decide (v1 < 0)) then
    some true
  else
    (m_laws_toRenew a0).bind fun v3 =>
    (m_laws_toRenewAct a1).bind fun v4 =>
    (m_spec_StepRenew v3 v4).bind fun v5 =>
    (m_laws_toRenew a0).bind fun v6 =>
    (m_laws_toRenewAct a1).bind fun v7 =>
    (m_impl_StepRenew v6 v7).bind fun v8 =>
    (m_laws_eqRenew v8.1 v5.1).bind fun v9 =>
    if (((!v9) || (v8.2.1 != v5.2.1)) || (v8.2.2 != v5.2.2)) then
      some false
    else
      (m_laws_toRenew a0).bind fun v11 =>
      (m_laws_eqRenew v6 v11).bind fun v12 =>
      if (!v12) then
        some false
      else
        (m_laws_markRenew v6 1).bind fun v14 =>
        if (decide (v14.1 < 0)) then
          some false
        else
          (m_laws_eqRenew v8.1 v5.1).bind fun v16 =>
          if (((!v16) || (v8.2.1 != v5.2.1)) || (v8.2.2 != v5.2.2)) then
            some false
          else
            (m_laws_markRenew v8.1 1).bind fun v18 =>
            (m_laws_heldRenew (⟨v8.1.fNow, v8.1.fMaster, v18.2.fClocks, v8.1.fVer, v18.2.fLeases⟩ : DRenew) 1).bind fun v19 =>
            if (decide (v19 < 0)) then
              some false
            else
              if (v19 != v18.1) then
                some false
              else
                (m_laws_toRenew a0).bind fun v22 =>
                (m_laws_toRenewAct a1).bind fun v23 =>
                (m_impl_StepRenew v22 v23).bind fun v24 =>
                (m_laws_eqRenew v24.1 v5.1).bind fun v25 =>
                if (((!v25) || (v24.2.1 != v5.2.1)) || (v24.2.2 != v5.2.2)) then
                  some false
                else
                  (m_laws_heldRenew (⟨v8.1.fNow, v8.1.fMaster, v18.2.fClocks, v8.1.fVer, v18.2.fLeases⟩ : DRenew) 1).bind fun v27 =>
                  if (decide (v27 < 0)) then
                    some false
                  else
                    if (v27 != v18.1) then
                      some false
                    else
                      some true
noncomputable def m_spec_DrawPlayRenew_j1 (v3 : List Int) (v4 : Int) (v5 : Int) (v6 : Int) (v7 : Int) (v8 : Int) (v9 : List DClock) (v10 : List DVLease) : Option (DRenew × List DRenewAct) :=
  (m___spec_l1Cur__renewActs (⟨v3, v4, v5⟩ : DL1Cur) (⟨v6, (⟨v7⟩ : DClock), v9, v8, v10⟩ : DRenew) 40).bind fun v11 =>
  (m___spec_l1Cur__one v11.2 8).bind fun v13 =>
  if v13.1 then
    (m___spec_l1Cur__pick v13.2 6).bind fun v15 =>
    (m___spec_l1Cur__pick v15.2 5).bind fun v16 =>
    (m___spec_l1Cur__pick v16.2 5).bind fun v17 =>
    req ((((v11.1).length : Int) + (([(⟨v15.1, (IntKind.i64.wrap (v16.1 - 1)), v17.1⟩ : DRenewAct)] : List DRenewAct).length : Int)) * 24 ≤ 140737488355328 ∧ ((v11.1).length : Int) + (([(⟨v15.1, (IntKind.i64.wrap (v16.1 - 1)), v17.1⟩ : DRenewAct)] : List DRenewAct).length : Int) ≤ 140737488355328) <|
    some ((⟨v6, (⟨v7⟩ : DClock), v9, v8, v10⟩ : DRenew), (v11.1 ++ [(⟨v15.1, (IntKind.i64.wrap (v16.1 - 1)), v17.1⟩ : DRenewAct)]))
  else
    some ((⟨v6, (⟨v7⟩ : DClock), v9, v8, v10⟩ : DRenew), v11.1)
noncomputable def m_spec_DrawPlayRenew (a0 : List Int) : Option (DRenew × List DRenewAct) :=
  (m___spec_l1Cur__renew (⟨a0, 0, 0⟩ : DL1Cur)).bind fun v1 =>
  (m___spec_l1Cur__one v1.2 12).bind fun v19 =>
  if v19.1 then
    (m___spec_l1Cur__bentRenew v19.2).bind fun v21 =>
    m_spec_DrawPlayRenew_j1 v21.2.fcode v21.2.fat v21.2.fseed v21.1.fNow v21.1.fMaster.fOff v21.1.fVer v21.1.fClocks v21.1.fLeases
  else
    m_spec_DrawPlayRenew_j1 v19.2.fcode v19.2.fat v19.2.fseed v1.1.fNow v1.1.fMaster.fOff v1.1.fVer v1.1.fClocks v1.1.fLeases
noncomputable def m_impl_PlayRenew_b1 (a1 : List DRenewAct) (v4 : Int) (v5 : Int) (v6 : Int) (v7 : Int) (v8 : List DClock) (v9 : List DVLease) (v10 : List Bool) : Option ((Int × Int × Int × Int × List DClock × List DVLease × List Bool) ⊕ Option (DRenew × List Bool × Bool)) :=
  if (decide (v4 < (a1.length : Int))) then
    (getI a1 v4).bind fun y13 =>
    (m__impl_Renew__isRenewAct (⟨v5, (⟨v6⟩ : DClock), v8, v7, v9⟩ : DRenew) y13).bind fun v14 =>
    if v14 then
      (m___impl_Renew__step (⟨v5, (⟨v6⟩ : DClock), v8, v7, v9⟩ : DRenew) y13).bind fun v16 =>
      req ((((v10).length : Int) + (([v16.1] : List Bool).length : Int)) * 1 ≤ 140737488355328 ∧ ((v10).length : Int) + (([v16.1] : List Bool).length : Int) ≤ 140737488355328) <|
      some (.inl ((IntKind.i64.wrap (v4 + 1)), v16.2.fNow, v16.2.fMaster.fOff, v16.2.fVer, v16.2.fClocks, v16.2.fLeases, (v10 ++ [v16.1])))
    else
      req ((((v10).length : Int) + (([false] : List Bool).length : Int)) * 1 ≤ 140737488355328 ∧ ((v10).length : Int) + (([false] : List Bool).length : Int) ≤ 140737488355328) <|
      some (.inl ((IntKind.i64.wrap (v4 + 1)), v5, v6, v7, v8, v9, (v10 ++ [false])))
  else
    some (.inr (some ((⟨v5, (⟨v6⟩ : DClock), v8, v7, v9⟩ : DRenew), v10, true)))
noncomputable def m_impl_PlayRenew (a0 : DRenew) (a1 : List DRenewAct) : Option (DRenew × List Bool × Bool) :=
  (m_impl_GoodRenew a0).bind fun v1 =>
  if ((!v1) || (decide ((a1.length : Int) > 40))) then
    some ((⟨0, (⟨0⟩ : DClock), [], 0, []⟩ : DRenew), [], false)
  else
    (m_impl_copyRenew a0).bind fun v3 =>
    loopO (fun s : Int × Int × Int × Int × List DClock × List DVLease × List Bool => m_impl_PlayRenew_b1 a1 s.1 s.2.1 s.2.2.1 s.2.2.2.1 s.2.2.2.2.1 s.2.2.2.2.2.1 s.2.2.2.2.2.2) (0, v3.fNow, v3.fMaster.fOff, v3.fVer, v3.fClocks, v3.fLeases, [])
noncomputable def m_slices_Max___int_int__b1 (a0 : List Int) (v3 : Int) (v4 : Int) : Option ((Int × Int) ⊕ Option (Int)) :=
  if (decide (v4 < (a0.length : Int))) then
    (getI a0 v4).bind fun y6 =>
    some (.inl ((bif (decide (y6 > v3)) then y6 else v3), (IntKind.i64.wrap (v4 + 1))))
  else
    some (.inr (some v3))
noncomputable def m_slices_Max___int_int_ (a0 : List Int) : Option (Int) :=
  if (decide ((a0.length : Int) < 1)) then
    none
  else
    (getI a0 0).bind fun y2 =>
    loopO (fun s : Int × Int => m_slices_Max___int_int__b1 a0 s.1 s.2) (y2, 1)
noncomputable def m_slices_Min___int_int__b1 (a0 : List Int) (v3 : Int) (v4 : Int) : Option ((Int × Int) ⊕ Option (Int)) :=
  if (decide (v4 < (a0.length : Int))) then
    (getI a0 v4).bind fun y6 =>
    some (.inl ((bif (decide (y6 < v3)) then y6 else v3), (IntKind.i64.wrap (v4 + 1))))
  else
    some (.inr (some v3))
noncomputable def m_slices_Min___int_int_ (a0 : List Int) : Option (Int) :=
  if (decide ((a0.length : Int) < 1)) then
    none
  else
    (getI a0 0).bind fun y2 =>
    loopO (fun s : Int × Int => m_slices_Min___int_int__b1 a0 s.1 s.2) (y2, 1)
noncomputable def m_impl_AreNear_k1 (v3 : List Int) : Option (Bool × Bool) :=
  if ((v3.length : Int) == 0) then
    some (true, true)
  else
    (m_slices_Max___int_int_ v3).bind fun v5 =>
    (m_slices_Min___int_int_ v3).bind fun v6 =>
    some ((decide ((IntKind.i64.wrap (v5 - v6)) ≤ 1)), true)
noncomputable def m_impl_AreNear_b2 (a0 : DRenew) (v7 : Int) (v8 : List Int) : Option ((Int × List Int) ⊕ Option (Bool × Bool)) :=
  if (decide (v7 < (a0.fLeases.length : Int))) then
    (getI a0.fLeases v7).bind fun y11 =>
    (m__impl_Renew__usable a0 v7).bind fun v12 =>
    if v12 then
      req ((((v8).length : Int) + (([y11.fVer] : List Int).length : Int)) * 8 ≤ 140737488355328 ∧ ((v8).length : Int) + (([y11.fVer] : List Int).length : Int) ≤ 140737488355328) <|
      some (.inl ((IntKind.i64.wrap (v7 + 1)), (v8 ++ [y11.fVer])))
    else
      some (.inl ((IntKind.i64.wrap (v7 + 1)), v8))
  else
    some (.inr (m_impl_AreNear_k1 v8))
noncomputable def m_impl_AreNear (a0 : DRenew) : Option (Bool × Bool) :=
  (m_impl_GoodRenew a0).bind fun v1 =>
  if (!v1) then
    some (false, false)
  else
    loopO (fun s : Int × List Int => m_impl_AreNear_b2 a0 s.1 s.2) (0, [])
noncomputable def m_spec_AreNear_k2 (v3 : Int) : Option ((Int) ⊕ Option (Bool × Bool)) :=
  some (.inl (IntKind.i64.wrap (v3 + 1)))
noncomputable def m_spec_AreNear_b3 (a0 : DRenew) (v3 : Int) (v5 : Int) : Option ((Int) ⊕ Option ((Int) ⊕ Option (Bool × Bool))) :=
  if (decide (v5 < (a0.fLeases.length : Int))) then
    (m_spec_l28Usable a0 v3).bind fun v7 =>
    if v7 then
      (m_spec_l28Usable a0 v5).bind fun v9 =>
      if v9 then
        (getI a0.fLeases v3).bind fun y11 =>
        (getI a0.fLeases v5).bind fun y12 =>
        if (decide ((IntKind.i64.wrap (y11.fVer - y12.fVer)) > 1)) then
          some (.inr (some (.inr (some (false, true)))))
        else
          some (.inl (IntKind.i64.wrap (v5 + 1)))
      else
        some (.inl (IntKind.i64.wrap (v5 + 1)))
    else
      some (.inl (IntKind.i64.wrap (v5 + 1)))
  else
    some (.inr (m_spec_AreNear_k2 v3))
noncomputable def m_spec_AreNear_b1 (a0 : DRenew) (v3 : Int) : Option ((Int) ⊕ Option (Bool × Bool)) :=
  if (decide (v3 < (a0.fLeases.length : Int))) then
    loopO (fun s : Int => m_spec_AreNear_b3 a0 v3 s) 0
  else
    some (.inr (some (true, true)))
noncomputable def m_spec_AreNear (a0 : DRenew) : Option (Bool × Bool) :=
  (m_spec_GoodRenew a0).bind fun v1 =>
  if (!v1) then
    some (false, false)
  else
    loopO (fun s : Int => m_spec_AreNear_b1 a0 s) 0
noncomputable def m_laws_qSameB_b1 (a0 : List Bool) (a1 : List Bool) (v2 : Int) : Option ((Int) ⊕ Option (Bool)) :=
  if (decide (v2 < (a0.length : Int))) then
    (getI a0 v2).bind fun y4 =>
    (getI a1 v2).bind fun y5 =>
    if (y4 != y5) then
      some (.inr (some false))
    else
      some (.inl (IntKind.i64.wrap (v2 + 1)))
  else
    some (.inr (some true))
noncomputable def m_laws_qSameB (a0 : List Bool) (a1 : List Bool) : Option (Bool) :=
  if ((a0.length : Int) != (a1.length : Int)) then
    some false
  else
    loopO (fun s : Int => m_laws_qSameB_b1 a0 a1 s) 0
noncomputable def m_spec_DrawNewRenew (a0 : List Int) : Option (Int) :=
  (m___spec_l1Cur__pick (⟨a0, 0, 0⟩ : DL1Cur) 6).bind fun v1 =>
  some (IntKind.i64.wrap (v1.1 - 1))
noncomputable def m_impl_NewRenew (a0 : Int) : Option (DRenew × Bool) :=
  (m_impl_within a0 1 3).bind fun v1 =>
  if (!v1) then
    some ((⟨0, (⟨0⟩ : DClock), [], 0, []⟩ : DRenew), false)
  else
    req (0 ≤ a0 ∧ a0 * 8 ≤ 140737488355328 ∧ a0 ≤ 140737488355328) <|
    req (0 ≤ a0 ∧ a0 * 16 ≤ 140737488355328 ∧ a0 ≤ 140737488355328) <|
    some ((⟨0, (⟨0⟩ : DClock), (List.replicate (a0).toNat (⟨0⟩ : DClock)), 0, (List.replicate (a0).toNat (⟨0, 0⟩ : DVLease))⟩ : DRenew), true)
noncomputable def m_laws_FnNear (a0 : List Int) (a1 : List Int) : Option (Bool) :=
  if (decide ((IntKind.i64.wrap ((a0.length : Int) + (a1.length : Int))) > 1048576)) then
    some true
  else
    (m_spec_DrawPlayRenew a0).bind fun v2 =>
    (m_impl_PlayRenew v2.1 v2.2).bind fun v3 =>
    (m_spec_PlayRenew v2.1 v2.2).bind fun v4 =>
    (m_impl_AreNear v2.1).bind fun v5 =>
    (m_spec_AreNear v2.1).bind fun v6 =>
    if (v3.2.2 != v4.2.2) then
      some false
    else
      (m_laws_qSameB v3.2.1 v4.2.1).bind fun v8 =>
      if v8 then
        (m_laws_qSameR v3.1 v4.1).bind fun v10 =>
        if (((!v10) || (v5.2 != v6.2)) || (v5.1 != v6.1)) then
          some false
        else
          (m_impl_SoundRenew v2.1).bind fun v12 =>
          if (v5.2 && ((!v12.2) || (v12.1 && (!v5.1)))) then
            some false
          else
            (m_spec_DrawNewRenew a1).bind fun v14 =>
            (m_impl_NewRenew v14).bind fun v15 =>
            (m_spec_NewRenew v14).bind fun v16 =>
            if (v15.2 != v16.2) then
              some false
            else
              (m_laws_qSameR v15.1 v16.1).bind fun v18 =>
              if (!v18) then
                some false
              else
                if ((!v15.2) || (!v3.2.2)) then
                  some true
                else
                  (m_impl_PlayRenew v15.1 v2.2).bind fun v21 =>
                  (m_impl_SoundRenew v21.1).bind fun v22 =>
                  (m_impl_AreNear v21.1).bind fun v23 =>
                  some ((((v21.2.2 && v22.2) && v23.2) && v22.1) && v23.1)
      else
        some false
noncomputable def m_laws_szRenewActS (a0 : List DRenewAct) (a1 : Int) : Option (Int) :=
  if (decide ((IntKind.i64.wrap (a1 - (a0.length : Int))) < 0)) then
    some (-1)
  else
    some (IntKind.i64.wrap (a1 - (a0.length : Int)))
noncomputable def m_laws_toRenewActS_b1 (a0 : List DRenewAct) (v2 : Int) (v3 : List DRenewAct) : Option ((Int × List DRenewAct) ⊕ Option (List DRenewAct)) :=
  if (decide (v2 < (a0.length : Int))) then
    (getI a0 v2).bind fun y5 =>
    (m_laws_toRenewAct y5).bind fun v6 =>
    (getI v3 v2).bind fun y7 =>
    some (.inl ((IntKind.i64.wrap (v2 + 1)), (v3.set (v2).toNat v6)))
  else
    some (.inr (some v3))
noncomputable def m_laws_toRenewActS (a0 : List DRenewAct) : Option (List DRenewAct) :=
  req (0 ≤ (a0.length : Int) ∧ (a0.length : Int) * 24 ≤ 140737488355328 ∧ (a0.length : Int) ≤ 140737488355328) <|
  loopO (fun s : Int × List DRenewAct => m_laws_toRenewActS_b1 a0 s.1 s.2) (0, (List.replicate ((a0.length : Int)).toNat (⟨0, 0, 0⟩ : DRenewAct)))
noncomputable def m_laws_eqBoolS_b1 (a0 : List Bool) (a1 : List Bool) (v2 : Int) : Option ((Int) ⊕ Option (Bool)) :=
  if (decide (v2 < (a0.length : Int))) then
    (getI a0 v2).bind fun y4 =>
    (getI a1 v2).bind fun y5 =>
    if (y4 != y5) then
      some (.inr (some false))
    else
      some (.inl (IntKind.i64.wrap (v2 + 1)))
  else
    some (.inr (some true))
noncomputable def m_laws_eqBoolS (a0 : List Bool) (a1 : List Bool) : Option (Bool) :=
  if ((a0.length : Int) != (a1.length : Int)) then
    some false
  else
    loopO (fun s : Int => m_laws_eqBoolS_b1 a0 a1 s) 0
noncomputable def m_laws_eqRenewAct (a0 : DRenewAct) (a1 : DRenewAct) : Option (Bool) :=
  if (a0.fKind != a1.fKind) then
    some false
  else
    if (a0.fWho != a1.fWho) then
      some false
    else
      if (a0.fBy != a1.fBy) then
        some false
      else
        some true
noncomputable def m_laws_eqRenewActS_b1 (a0 : List DRenewAct) (a1 : List DRenewAct) (v2 : Int) : Option ((Int) ⊕ Option (Bool)) :=
  if (decide (v2 < (a0.length : Int))) then
    (getI a0 v2).bind fun y4 =>
    (getI a1 v2).bind fun y5 =>
    (m_laws_eqRenewAct y4 y5).bind fun v6 =>
    if (!v6) then
      some (.inr (some false))
    else
      some (.inl (IntKind.i64.wrap (v2 + 1)))
  else
    some (.inr (some true))
noncomputable def m_laws_eqRenewActS (a0 : List DRenewAct) (a1 : List DRenewAct) : Option (Bool) :=
  if ((a0.length : Int) != (a1.length : Int)) then
    some false
  else
    loopO (fun s : Int => m_laws_eqRenewActS_b1 a0 a1 s) 0
noncomputable def m_laws_markRenewActS_b1 (v1 : Int) (v2 : Int) (v3 : List DRenewAct) : Option ((Int × Int × List DRenewAct) ⊕ Option (Int × List DRenewAct)) :=
  if (decide (v2 < (v3.length : Int))) then
    (getI v3 v2).bind fun y5 =>
    some (.inl ((IntKind.i64.wrap ((IntKind.i64.wrap ((IntKind.i64.wrap (v1 + 1)) + 1)) + 1)), (IntKind.i64.wrap (v2 + 1)), (((v3.set (v2).toNat { y5 with fKind := v1 }).set (v2).toNat { { y5 with fKind := v1 } with fWho := (IntKind.i64.wrap (v1 + 1)) }).set (v2).toNat { { { y5 with fKind := v1 } with fWho := (IntKind.i64.wrap (v1 + 1)) } with fBy := (IntKind.i64.wrap ((IntKind.i64.wrap (v1 + 1)) + 1)) })))
  else
    some (.inr (some (v1, v3)))
noncomputable def m_laws_markRenewActS (a0 : List DRenewAct) (a1 : Int) : Option (Int × List DRenewAct) :=
  loopO (fun s : Int × Int × List DRenewAct => m_laws_markRenewActS_b1 s.1 s.2.1 s.2.2) (a1, 0, a0)
noncomputable def m_laws_markBoolS_b1 (v1 : Int) (v2 : Int) (v3 : List Bool) : Option ((Int × Int × List Bool) ⊕ Option (Int × List Bool)) :=
  if (decide (v2 < (v3.length : Int))) then
    (getI v3 v2).bind fun y5 =>
    some (.inl ((IntKind.i64.wrap (v1 + 1)), (IntKind.i64.wrap (v2 + 1)), (v3.set (v2).toNat ((Int.tmod v1 3) == 0))))
  else
    some (.inr (some (v1, v3)))
noncomputable def m_laws_markBoolS (a0 : List Bool) (a1 : Int) : Option (Int × List Bool) :=
  loopO (fun s : Int × Int × List Bool => m_laws_markBoolS_b1 s.1 s.2.1 s.2.2) (a1, 0, a0)
noncomputable def m_laws_heldBoolS_b1 (a0 : List Bool) (v1 : Int) (v2 : Int) : Option ((Int × Int) ⊕ Option (Int)) :=
  if (decide (v2 < (a0.length : Int))) then
    (getI a0 v2).bind fun y4 =>
    if (y4 != ((Int.tmod v1 3) == 0)) then
      some (.inr (some (-1)))
    else
      some (.inl ((IntKind.i64.wrap (v1 + 1)), (IntKind.i64.wrap (v2 + 1))))
  else
    some (.inr (some v1))
noncomputable def m_laws_heldBoolS (a0 : List Bool) (a1 : Int) : Option (Int) :=
  loopO (fun s : Int × Int => m_laws_heldBoolS_b1 a0 s.1 s.2) (a1, 0)
noncomputable def m_laws_FnExactPlayRenew (a0 : DRenew) (a1 : List DRenewAct) : Option (Bool) :=
  (m_laws_szRenew a0 1048576).bind fun v1 =>
  if (decide (v1 < 0)) then
    some true
  else
    (m_laws_szRenewActS a1 v1).bind fun v3 =>
    if (decide (v3 < 0)) then
      some true
    else
      (m_laws_toRenew a0).bind fun v5 =>
      (m_laws_toRenewActS a1).bind fun v6 =>
      (m_spec_PlayRenew v5 v6).bind fun v7 =>
      (m_laws_toRenew a0).bind fun v8 =>
      (m_laws_toRenewActS a1).bind fun v9 =>
      (m_impl_PlayRenew v8 v9).bind fun v10 =>
      (m_laws_eqRenew v10.1 v7.1).bind fun v11 =>
      if v11 then
        (m_laws_eqBoolS v10.2.1 v7.2.1).bind fun v13 =>
        if ((!v13) || (v10.2.2 != v7.2.2)) then
          some false
        else
          (m_laws_toRenew a0).bind fun v15 =>
          (m_laws_eqRenew v8 v15).bind fun v16 =>
          if (!v16) then
            some false
          else
            (m_laws_toRenewActS a1).bind fun v18 =>
            (m_laws_eqRenewActS v9 v18).bind fun v19 =>
            if (!v19) then
              some false
            else
              (m_laws_markRenew v8 1).bind fun v21 =>
              (m_laws_markRenewActS v9 v21.1).bind fun v22 =>
              if (decide (v22.1 < 0)) then
                some false
              else
                (m_laws_eqRenew v10.1 v7.1).bind fun v24 =>
                if v24 then
                  (m_laws_eqBoolS v10.2.1 v7.2.1).bind fun v26 =>
                  if ((!v26) || (v10.2.2 != v7.2.2)) then
                    some false
                  else
                    (m_laws_markRenew v10.1 1).bind fun v28 =>
                    (m_laws_markBoolS v10.2.1 v28.1).bind fun v29 =>
                    (m_laws_heldRenew (⟨v10.1.fNow, v10.1.fMaster, v28.2.fClocks, v10.1.fVer, v28.2.fLeases⟩ : DRenew) 1).bind fun v30 =>
                    if (decide (v30 < 0)) then
                      some false
                    else
                      (m_laws_heldBoolS v29.2 v30).bind fun v32 =>
                      if (decide (v32 < 0)) then
                        some false
                      else
                        if (v32 != v29.1) then
                          some false
                        else
                          (m_laws_toRenew a0).bind fun v35 =>
                          (m_laws_toRenewActS a1).bind fun v36 =>
                          (m_impl_PlayRenew v35 v36).bind fun v37 =>
                          (m_laws_eqRenew v37.1 v7.1).bind fun v38 =>
                          if v38 then
                            (m_laws_eqBoolS v37.2.1 v7.2.1).bind fun v40 =>
                            if ((!v40) || (v37.2.2 != v7.2.2)) then
                              some false
                            else
                              (m_laws_heldRenew (⟨v10.1.fNow, v10.1.fMaster, v28.2.fClocks, v10.1.fVer, v28.2.fLeases⟩ : DRenew) 1).bind fun v42 =>
                              if (decide (v42 < 0)) then
                                some false
                              else
                                (m_laws_heldBoolS v29.2 v42).bind fun v44 =>
                                if (decide (v44 < 0)) then
                                  some false
                                else
                                  if (v44 != v29.1) then
                                    some false
                                  else
                                    some true
                          else
                            some false
                else
                  some false
      else
        some false
end Go.Proofs.Ytjneaalpiangdaa
end

/- Part ND. Draws: a reader of bytes, over typed models. -/
section
namespace Go.Proofs.Ytjneaalpiangdaa
open Go.RowKit
def Gives {α : Type} (o : Option α) (Q : α → Prop) : Prop := ∃ x, o = some x ∧ Q x
section
variable {α β σ : Type} {Q : β → Prop}
theorem Gives.bind {o : Option α} {P : α → Prop} {f : α → Option β} (h : Gives o P) (hf : ∀ x, P x → Gives (f x) Q) : Gives (o.bind f) Q := by
  obtain ⟨x, rfl, hx⟩ := h
  exact hf x hx
theorem Gives.ret {x : β} (h : Q x) : Gives (some x) Q := ⟨x, rfl, h⟩
theorem Gives.ite {b : Bool} {A B : Option β} (ha : b = true → Gives A Q) (hb : b = false → Gives B Q) : Gives (if b = true then A else B) Q := by
  cases b with
  | true => simpa using ha rfl
  | false => simpa using hb rfl
theorem Gives.req {p : Prop} [Decidable p] {k : Option β} (hp : p) (hk : Gives k Q) : Gives (req p k) Q := by rw [req_pos hp]; exact hk
theorem Gives.mono {o : Option β} {P : β → Prop} (h : Gives o P) (hPQ : ∀ x, P x → Q x) : Gives o Q := by
  obtain ⟨x, hx, h⟩ := h
  exact ⟨x, hx, hPQ x h⟩
theorem Gives.getI {xs : List β} {i : Int} (h0 : 0 ≤ i) (h : i < xs.length) (hq : ∀ x, x ∈ xs → Q x) : Gives (getI xs i) Q := by
  obtain ⟨x, h1, h2, _⟩ := getI_lt h0 h
  exact ⟨x, h1, hq x h2⟩
theorem loop_gives {body : σ → Option (σ ⊕ Option β)} (I : Nat → σ → Prop) (h : ∀ n s, I n s → Gives (body s) fun o => match o with | .inl s' => ∃ m, m < n ∧ I m s' | .inr q => Gives q Q) : ∀ {n : Nat} {s : σ}, I n s → Gives (loopO body s) Q := by
  intro n
  induction n using Nat.strongRecOn with
  | _ n ih =>
    intro s hI
    obtain ⟨o, ho, h2⟩ := h n s hI
    rw [loopO_eq, ho]
    match o, h2 with
    | .inl s', ⟨m, hm, hI'⟩ => exact ih m hm hI'
    | .inr q, hq => exact hq
end
/-- The bytes are bytes, and at most k were read. -/
def okC (c : DL1Cur) (k : Int) : Prop := (∀ b ∈ c.fcode, 0 ≤ b ∧ b ≤ 255) ∧ 0 ≤ c.fat ∧ c.fat ≤ k
theorem okC.up {c : DL1Cur} {i j : Int} (h : okC c i) (hij : i ≤ j) : okC c j := ⟨h.1, h.2.1, by have := h.2.2; omega⟩
theorem okC.start {code : List Int} (h : ∀ b ∈ code, 0 ≤ b ∧ b ≤ 255) : okC ⟨code, 0, 0⟩ 0 := ⟨h, by simp, by simp⟩
theorem and255 (a : Int) : 0 ≤ IntKind.i64.wrap (IntKind.u64.wrap ((BitVec.ofInt (IntKind.bits .u64) a &&& BitVec.ofInt (IntKind.bits .u64) 255).toNat : Int)) ∧ IntKind.i64.wrap (IntKind.u64.wrap ((BitVec.ofInt (IntKind.bits .u64) a &&& BitVec.ofInt (IntKind.bits .u64) 255).toNat : Int)) ≤ 255 := by
  have h : (BitVec.ofInt (IntKind.bits .u64) a &&& BitVec.ofInt (IntKind.bits .u64) 255).toNat ≤ 255 := by
    rw [BitVec.toNat_and]
    exact Nat.le_trans Nat.and_le_right (by decide)
  generalize (BitVec.ofInt (IntKind.bits .u64) a &&& BitVec.ofInt (IntKind.bits .u64) 255).toNat = m at h ⊢
  have e : IntKind.u64.wrap (m : Int) = m := by simp [IntKind.wrap, IntKind.bits, IntKind.signed]; omega
  rw [e, wrap64 (by omega) (by omega)]
  omega
theorem next_ok {c : DL1Cur} {k : Int} (h : okC c k) (hk : k ≤ 4611686018427387904) : Gives (m___spec_l1Cur__next c) fun p => (0 ≤ p.1 ∧ p.1 ≤ 255) ∧ okC p.2 (k + 1) := by
  obtain ⟨hb, h0, h1⟩ := h
  have w : IntKind.i64.wrap (c.fat + 1) = c.fat + 1 := wrap64 (by omega) (by omega)
  unfold m___spec_l1Cur__next
  refine .ite (fun hlt => ?_) fun hlt => ?_
  · simp only [decide_eq_true_eq] at hlt
    refine Gives.bind (P := fun y => 0 ≤ y ∧ y ≤ 255) (.getI h0 hlt hb) fun y hy => ?_
    have wy : IntKind.i64.wrap y = y := wrap64 (by omega) (by omega)
    refine .ite (fun _ => .ret ⟨by dsimp only; rw [wy]; exact hy, hb, by dsimp only; omega, by dsimp only; omega⟩) fun _ => .ret ⟨and255 _, hb, by dsimp only; omega, by dsimp only; omega⟩
  · refine .ite (fun _ => .ret ⟨by simp, hb, by dsimp only; omega, by dsimp only; omega⟩) fun _ => .ret ⟨and255 _, hb, by dsimp only; omega, by dsimp only; omega⟩
theorem pick_ok {c : DL1Cur} {k : Int} (n : Int) (h : okC c k) (hk : k ≤ 4611686018427387000) : Gives (m___spec_l1Cur__pick c n) fun p => (0 ≤ p.1 ∧ (1 ≤ n → p.1 < n) ∧ p.1 ≤ 65535) ∧ okC p.2 (k + 2) := by
  have tm : ∀ x : Int, 0 ≤ x → 1 < n → 0 ≤ x.tmod n ∧ x.tmod n < n ∧ x.tmod n ≤ x := fun x hx hn => by
    rw [Int.tmod_eq_emod_of_nonneg hx]
    exact ⟨Int.emod_nonneg _ (by omega), Int.emod_lt_of_pos _ (by omega), by
      have := Int.emod_add_mul_ediv x n
      have h2 : 0 ≤ n * (x / n) := Int.mul_nonneg (by omega) (Int.ediv_nonneg hx (by omega))
      omega⟩
  unfold m___spec_l1Cur__pick
  refine .ite (fun hn => .ret ⟨⟨by simp, fun h1 => by dsimp only; omega, by simp⟩, h.up (by omega)⟩) fun hn => ?_
  simp only [decide_eq_false_iff_not] at hn
  refine (next_ok h (by omega)).bind fun p ⟨hp, hc⟩ => ?_
  refine .ite (fun _ => ?_) fun _ => ?_
  · refine (next_ok hc (by omega)).bind fun q ⟨hq, hd⟩ => .req (by omega) (.ret ?_)
    have w1 : IntKind.i64.wrap (p.1 * 256) = p.1 * 256 := wrap64 (by omega) (by omega)
    have w2 : IntKind.i64.wrap (p.1 * 256 + q.1) = p.1 * 256 + q.1 := wrap64 (by omega) (by omega)
    have := tm (p.1 * 256 + q.1) (by omega) (by omega)
    dsimp only
    rw [w1, w2]
    exact ⟨⟨this.1, fun _ => this.2.1, by omega⟩, hd.up (by omega)⟩
  · have := tm p.1 hp.1 (by omega)
    exact .req (by omega) (.ret ⟨⟨this.1, fun _ => this.2.1, by dsimp only; omega⟩, hc.up (by omega)⟩)
theorem among_ok {c : DL1Cur} {k : Int} (l : List Int) (hl : l ≠ []) (h : okC c k) (hk : k ≤ 4611686018427387000) : Gives (m___spec_l1Cur__among c l) fun p => p.1 ∈ l ∧ okC p.2 (k + 2) := by
  unfold m___spec_l1Cur__among
  have hpos : 0 < l.length := List.length_pos_iff.2 hl
  refine (pick_ok l.length h hk).bind fun p ⟨hp, hc⟩ => ?_
  exact Gives.bind (P := fun y => y ∈ l) (.getI hp.1 (hp.2.1 (by omega)) fun x hx => hx) fun y hy => .ret ⟨hy, hc⟩
theorem one_ok {c : DL1Cur} {k : Int} (n : Int) (h : okC c k) (hk : k ≤ 4611686018427387000) : Gives (m___spec_l1Cur__one c n) fun p => okC p.2 (k + 2) := by
  unfold m___spec_l1Cur__one
  exact (pick_ok n h hk).bind fun p ⟨_, hc⟩ => .ret hc
end Go.Proofs.Ytjneaalpiangdaa
end

/- Part N1. Lease systems: what the functions give, plainly. -/
section
namespace Go.Proofs.Ytjneaalpiangdaa
open Go.RowKit
def inB (a b c : Int) : Bool := decide (a ≥ b) && decide (a ≤ c)
theorem inB_true {a b c : Int} : inB a b c = true ↔ b ≤ a ∧ a ≤ c := by simp [inB]
@[simp] theorem v_l1In (a b c : Int) : m_spec_l1In a b c = some (inB a b c) := rfl
@[simp] theorem v_within (a b c : Int) : m_impl_within a b c = some (inB a b c) := rfl
def goodClock (c : DClock) : Bool := inB c.fOff (-5) 5
@[simp] theorem v_l2Clock (c : DClock) : m_spec_l2Clock c = some (goodClock c) := rfl
@[simp] theorem v_sGoodClock (c : DClock) : m_spec_GoodClock c = some (goodClock c) := rfl
@[simp] theorem v_iGoodClock (c : DClock) : m_impl_GoodClock c = some (goodClock c) := rfl
def goodLease (ver : Int) (l : DVLease) : Bool := inB l.fVer 0 ver && inB l.fUntil 0 1020
def goodRenew (r : DRenew) : Bool := inB r.fNow 0 1000 && goodClock r.fMaster && (r.fClocks.all goodClock && inB r.fClocks.length 1 3) && inB r.fVer 0 20 && ((r.fLeases.length : Int) == r.fClocks.length) && r.fLeases.all (goodLease r.fVer)
structure GoodR (r : DRenew) : Prop where
  now0 : 0 ≤ r.fNow
  now1 : r.fNow ≤ 1000
  m0 : -5 ≤ r.fMaster.fOff
  m1 : r.fMaster.fOff ≤ 5
  cl : ∀ c ∈ r.fClocks, -5 ≤ c.fOff ∧ c.fOff ≤ 5
  n0 : 1 ≤ r.fClocks.length
  n1 : r.fClocks.length ≤ 3
  v0 : 0 ≤ r.fVer
  v1 : r.fVer ≤ 20
  len : r.fLeases.length = r.fClocks.length
  ls : ∀ l ∈ r.fLeases, 0 ≤ l.fVer ∧ l.fVer ≤ r.fVer ∧ 0 ≤ l.fUntil ∧ l.fUntil ≤ 1020
theorem goodRenew_iff {r : DRenew} : goodRenew r = true ↔ GoodR r := by
  simp only [goodRenew, goodClock, goodLease, Bool.and_eq_true, inB_true, List.all_eq_true, beq_iff_eq]
  constructor
  · rintro ⟨⟨⟨⟨⟨a, b⟩, c, d⟩, e⟩, f⟩, g⟩
    exact ⟨a.1, a.2, b.1, b.2, c, by omega, by omega, e.1, e.2, by omega, fun l hl => ⟨(g l hl).1.1, (g l hl).1.2, (g l hl).2.1, (g l hl).2.2⟩⟩
  · intro h
    exact ⟨⟨⟨⟨⟨⟨h.now0, h.now1⟩, h.m0, h.m1⟩, h.cl, by have := h.n0; omega, by have := h.n1; omega⟩, h.v0, h.v1⟩, by have := h.len; omega⟩, fun l hl => ⟨⟨(h.ls l hl).1, (h.ls l hl).2.1⟩, (h.ls l hl).2.2⟩⟩
theorem v_sClocks {cs : List DClock} (h : cs.length ≤ 2000000) : m_spec_l28Clocks cs = some (cs.all goodClock && inB cs.length 1 3) := by
  have h1 := loop_list (xs := cs) (body := fun s : Int => m_spec_l28Clocks_b2 cs s) (fun i (_ : Unit) => i) (fun x _ => some (if goodClock x = true then .inl () else .inr (some false))) (fun _ => m_spec_l28Clocks_k1 cs)
    (fun i hi s => by simp only [m_spec_l28Clocks_b2]; simp [hi, getI_nat hi, wrapN hi (by omega : cs.length ≤ _)]; cases goodClock cs[i] <;> simp [nextI]) (fun s => by simp [m_spec_l28Clocks_b2]) ()
  rw [goL_all goodClock false fun x _ s => rfl] at h1
  unfold m_spec_l28Clocks
  rw [h1]
  simp only [m_spec_l28Clocks_k1, v_l1In, Option.bind_some]
  cases cs.all goodClock <;> simp
theorem v_sLeases {r : DRenew} (h : r.fLeases.length ≤ 2000000) : loopO (fun s : Int => m_spec_GoodRenew_b1 r s) 0 = some (r.fLeases.all (goodLease r.fVer)) := by
  have h1 := loop_list (xs := r.fLeases) (body := fun s : Int => m_spec_GoodRenew_b1 r s) (fun i (_ : Unit) => i) (fun x _ => some (if goodLease r.fVer x = true then .inl () else .inr (some false))) (fun _ => some true)
    (fun i hi s => by simp only [m_spec_GoodRenew_b1, goodLease]; simp [hi, getI_nat hi, wrapN hi (by omega : r.fLeases.length ≤ _)]; cases inB r.fLeases[i].fVer 0 r.fVer <;> cases inB r.fLeases[i].fUntil 0 1020 <;> simp [nextI]) (fun s => by simp [m_spec_GoodRenew_b1]) ()
  rw [goL_all (goodLease r.fVer) false fun x _ s => rfl] at h1
  rw [h1]
  cases r.fLeases.all (goodLease r.fVer) <;> simp
theorem v_sGoodRenew {r : DRenew} (h1 : r.fClocks.length ≤ 2000000) (h2 : r.fLeases.length ≤ 2000000) : m_spec_GoodRenew r = some (goodRenew r) := by
  simp only [m_spec_GoodRenew, v_l1In, v_sGoodClock, v_sClocks h1, Option.bind_some, v_sLeases h2, goodRenew, bne]
  generalize r.fLeases.all (goodLease r.fVer) = b1
  generalize ((r.fLeases.length : Int) == r.fClocks.length) = b2
  generalize inB r.fVer 0 20 = b3
  generalize (r.fClocks.all goodClock && inB r.fClocks.length 1 3) = b4
  cases inB r.fNow 0 1000 <;> cases goodClock r.fMaster <;> cases b4 <;> cases b3 <;> cases b2 <;> simp
theorem v_iGoodRenew {r : DRenew} (h1 : r.fClocks.length ≤ 2000000) (h2 : r.fLeases.length ≤ 2000000) : m_impl_GoodRenew r = some (goodRenew r) := by
  have e1 : m_ContainsFunc r.fClocks (fun y0 => m_impl_GoodRenew_1 y0) = some (r.fClocks.any fun c => !goodClock c) := has_any _ (fun x _ => rfl) (by omega)
  have e2 : m_ContainsFunc r.fLeases (fun y0 => m_impl_GoodRenew_2 y0 r) = some (r.fLeases.any fun l => !goodLease r.fVer l) := has_any _ (fun x _ => by
    simp only [m_impl_GoodRenew_2, v_within, Option.bind_some, goodLease]
    cases inB x.fVer 0 r.fVer <;> simp) (by omega)
  simp only [m_impl_GoodRenew, v_within, v_iGoodClock, Option.bind_some, e1, e2, goodRenew, ← List.not_all_eq_any_not]
  generalize r.fLeases.all (goodLease r.fVer) = b1
  generalize ((r.fLeases.length : Int) == r.fClocks.length) = b2
  generalize inB r.fVer 0 20 = b3
  generalize r.fClocks.all goodClock = b4
  generalize inB r.fClocks.length 1 3 = b5
  cases inB r.fNow 0 1000 <;> cases goodClock r.fMaster <;> cases b5 <;> cases b4 <;> cases b3 <;> cases b2 <;> simp
/-! ### Actions -/
def goodAct (r : DRenew) (a : DRenewAct) : Bool :=
  if (a.fKind == 1) = true then a.fWho == 0 && inB a.fBy 1 50
  else if (a.fKind == 2) = true then inB a.fWho 0 r.fClocks.length && goodClock ⟨a.fBy⟩
  else if (a.fKind == 3) = true then inB a.fWho 0 (IntKind.i64.wrap ((r.fClocks.length : Int) - 1)) && a.fBy == 0
  else if (a.fKind == 4) = true then a.fWho == 0 && a.fBy == 0
  else false
theorem v_sGood (r : DRenew) (a : DRenewAct) : m_spec_l28Good r a = some (goodAct r a) := by
  simp only [m_spec_l28Good, goodAct, v_l1In, v_sGoodClock, Option.bind_some]
  repeat' split
  all_goals simp_all
theorem v_iGood (r : DRenew) (a : DRenewAct) : m__impl_Renew__isRenewAct r a = some (goodAct r a) := by
  simp only [m__impl_Renew__isRenewAct, goodAct, v_within, v_iGoodClock, Option.bind_some]
  repeat' split
  all_goals simp_all
def lowM (r : DRenew) : Int := r.fNow + r.fMaster.fOff - 5
def mayRaise (r : DRenew) : Bool := decide (r.fVer < 20) && r.fLeases.all fun l => !(l.fVer != r.fVer && decide (l.fUntil ≥ lowM r))
def doN (r : DRenew) (a : DRenewAct) : DRenew × Bool :=
  if a.fKind = 1 then (if r.fNow + a.fBy ≤ 1000 then (⟨r.fNow + a.fBy, r.fMaster, r.fClocks, r.fVer, r.fLeases⟩, true) else (r, false))
  else if a.fKind = 2 then (if a.fWho = 0 then (⟨r.fNow, ⟨a.fBy⟩, r.fClocks, r.fVer, r.fLeases⟩, true) else (⟨r.fNow, r.fMaster, r.fClocks.set (a.fWho - 1).toNat ⟨a.fBy⟩, r.fVer, r.fLeases⟩, true))
  else if a.fKind = 3 then (if 0 ≤ lowM r then (⟨r.fNow, r.fMaster, r.fClocks, r.fVer, r.fLeases.set a.fWho.toNat ⟨r.fVer, lowM r + 20⟩⟩, true) else (r, false))
  else (if mayRaise r = true then (⟨r.fNow, r.fMaster, r.fClocks, r.fVer + 1, r.fLeases⟩, true) else (r, false))
theorem goodAct_cases {r : DRenew} {a : DRenewAct} (hg : GoodR r) (h : goodAct r a = true) : (a.fKind = 1 ∧ a.fWho = 0 ∧ 1 ≤ a.fBy ∧ a.fBy ≤ 50) ∨ (a.fKind = 2 ∧ 0 ≤ a.fWho ∧ a.fWho ≤ r.fClocks.length ∧ -5 ≤ a.fBy ∧ a.fBy ≤ 5) ∨ (a.fKind = 3 ∧ 0 ≤ a.fWho ∧ a.fWho ≤ (r.fClocks.length : Int) - 1) ∨ a.fKind = 4 := by
  have w := wrap64 (n := (r.fClocks.length : Int) - 1) (by have := hg.n0; omega) (by have := hg.n1; omega)
  unfold goodAct at h
  rw [w] at h
  simp only [beq_iff_eq, goodClock] at h
  split at h
  · simp [inB_true] at h; omega
  · split at h
    · simp [inB_true] at h; omega
    · split at h
      · simp [inB_true] at h; omega
      · split at h
        · omega
        · cases h
theorem wlow {r : DRenew} (hg : GoodR r) : IntKind.i64.wrap ((IntKind.i64.wrap (r.fNow + r.fMaster.fOff)) - 5) = lowM r := by
  have := hg.now0; have := hg.now1; have := hg.m0; have := hg.m1
  rw [wrap64 (n := r.fNow + r.fMaster.fOff) (by omega) (by omega), wrap64 (by omega) (by omega)]; rfl
theorem v_raise {r : DRenew} (hg : GoodR r) : m_spec_l28Raise r = some (mayRaise r) := by
  have hn : r.fLeases.length ≤ 9223372036854775807 := by have := hg.len; have := hg.n1; omega
  have h1 := loop_list (xs := r.fLeases) (body := fun s : Int => m_spec_l28Raise_b2 r s) (fun i (_ : Unit) => i) (fun l _ => some (if (!(l.fVer != r.fVer && decide (l.fUntil ≥ lowM r))) = true then .inl () else .inr (some false))) (fun _ => m_spec_l28Raise_k1 r)
    (fun i hi s => by
      simp only [m_spec_l28Raise_b2, m_spec_l28Low, wlow hg, Option.bind_some, bne]; simp only [hi, getI_nat hi, wrapN hi hn, Int.ofNat_lt, decide_true, if_true, Option.bind_some]
      by_cases hv : r.fLeases[i].fVer = r.fVer <;> by_cases hu : r.fLeases[i].fUntil ≥ lowM r <;> simp [nextI, hv, hu]) (fun s => by simp [m_spec_l28Raise_b2]) ()
  rw [goL_all (fun l : DVLease => (!(l.fVer != r.fVer && decide (l.fUntil ≥ lowM r)))) false fun x _ s => rfl] at h1
  unfold m_spec_l28Raise
  rw [h1]
  unfold mayRaise m_spec_l28Raise_k1
  cases (r.fLeases.all fun l => !(l.fVer != r.fVer && decide (l.fUntil ≥ lowM r))) <;> simp
theorem v_sDo {r : DRenew} {a : DRenewAct} (hg : GoodR r) (h : goodAct r a = true) : m_spec_l28Do r a = some (doN r a) := by
  have := hg.now0; have := hg.now1; have := hg.m0; have := hg.m1; have := hg.n1; have := hg.v0; have := hg.v1; have hl := hg.len
  unfold m_spec_l28Do doN
  rcases goodAct_cases hg h with ⟨hk, h1, h2, h3⟩ | ⟨hk, h1, h2, h3, h4⟩ | ⟨hk, h1, h2⟩ | hk
  · have w := wrap64 (n := r.fNow + a.fBy) (by omega) (by omega)
    simp only [hk, w]
    by_cases hc : r.fNow + a.fBy ≤ 1000
    · have : ¬ r.fNow + a.fBy > 1000 := by omega
      simp [hc, this]
    · have : r.fNow + a.fBy > 1000 := by omega
      simp [hc, this]
  · simp only [hk]
    by_cases hw : a.fWho = 0
    · simp [hw]
    · have w := wrap64 (n := a.fWho - 1) (by omega) (by omega)
      obtain ⟨x, hx, _, _⟩ := getI_lt (xs := r.fClocks) (i := a.fWho - 1) (by omega) (by omega)
      simp [hw, w, hx]
  · obtain ⟨x, hx, _, _⟩ := getI_lt (xs := r.fLeases) (i := a.fWho) (by omega) (by omega)
    simp only [hk, m_spec_l28Low, wlow hg, Option.bind_some, hx]
    by_cases hc : 0 ≤ lowM r
    · have hc' : ¬ lowM r < 0 := by omega
      have w := wrap64 (n := lowM r + 20) (by omega) (by unfold lowM; omega)
      simp [hc, hc', w]
    · have hc' : lowM r < 0 := by omega
      simp [hc, hc']
  · have w := wrap64 (n := r.fVer + 1) (by omega) (by omega)
    simp only [hk, v_raise hg, Option.bind_some, w]
    cases mayRaise r <;> simp
theorem v_iDo {r : DRenew} {a : DRenewAct} (hg : GoodR r) (h : goodAct r a = true) : m___impl_Renew__step r a = some ((doN r a).2, (doN r a).1) := by
  have := hg.now0; have := hg.now1; have := hg.m0; have := hg.m1; have := hg.n1; have := hg.v0; have := hg.v1; have hl := hg.len
  unfold m___impl_Renew__step doN
  simp only [m__impl_Clock__span, Option.bind_some, wlow hg]
  rcases goodAct_cases hg h with ⟨hk, h1, h2, h3⟩ | ⟨hk, h1, h2, h3, h4⟩ | ⟨hk, h1, h2⟩ | hk
  · have w := wrap64 (n := r.fNow + a.fBy) (by omega) (by omega)
    simp only [hk, w]
    by_cases hc : r.fNow + a.fBy ≤ 1000
    · simp [hc]
    · simp [hc]
  · simp only [hk]
    by_cases hw : a.fWho = 0
    · simp [hw]
    · have w := wrap64 (n := a.fWho - 1) (by omega) (by omega)
      obtain ⟨x, hx, _, _⟩ := getI_lt (xs := r.fClocks) (i := a.fWho - 1) (by omega) (by omega)
      simp [hw, w, hx]
  · obtain ⟨x, hx, _, _⟩ := getI_lt (xs := r.fLeases) (i := a.fWho) (by omega) (by omega)
    simp only [hk, hx]
    by_cases hc : 0 ≤ lowM r
    · have w := wrap64 (n := lowM r + 20) (by omega) (by unfold lowM; omega)
      simp [hc, w]
    · simp [hc]
  · have w := wrap64 (n := r.fVer + 1) (by omega) (by omega)
    have e : m_ContainsFunc r.fLeases (fun y0 => m___impl_Renew__step_1 y0 r (lowM r)) = some (r.fLeases.any fun l => !!(l.fVer != r.fVer && decide (l.fUntil ≥ lowM r))) := has_any _ (fun x _ => by simp [m___impl_Renew__step_1]) (by omega)
    simp only [hk, e, Option.bind_some, w, mayRaise, ← List.not_all_eq_any_not]
    by_cases hx : (r.fLeases.all fun l => !(l.fVer != r.fVer && decide (l.fUntil ≥ lowM r))) = true <;> by_cases hv : r.fVer < 20 <;> simp only [hx, hv] <;> simp
def noR : DRenew := ⟨0, ⟨0⟩, [], 0, []⟩
def stepN (r : DRenew) (a : DRenewAct) : DRenew × Bool × Bool := if goodRenew r && goodAct r a then ((doN r a).1, (doN r a).2, true) else (noR, false, false)
theorem v_own {r : DRenew} (h1 : r.fClocks.length ≤ 2000000) (h2 : r.fLeases.length ≤ 2000000) : m_spec_l28Own r = some r := by
  unfold m_spec_l28Own
  rw [req_pos (by simp; omega), req_pos (by simp; omega)]
theorem v_copy {r : DRenew} (h1 : r.fClocks.length ≤ 2000000) (h2 : r.fLeases.length ≤ 2000000) : m_impl_copyRenew r = some r := by
  unfold m_impl_copyRenew m_slices_Clone___impl_Clock_impl_Clock_ m_slices_Clone___impl_VLease_impl_VLease_
  rw [clone_id (by omega) (by omega), clone_id (by omega) (by omega)]; rfl
theorem v_sGoodAct {r : DRenew} (a : DRenewAct) (h1 : r.fClocks.length ≤ 2000000) (h2 : r.fLeases.length ≤ 2000000) : m_spec_GoodRenewAct r a = some (goodRenew r && goodAct r a) := by
  simp only [m_spec_GoodRenewAct, v_sGoodRenew h1 h2, Option.bind_some, v_sGood]
  cases goodRenew r <;> simp
theorem v_iGoodAct {r : DRenew} (a : DRenewAct) (h1 : r.fClocks.length ≤ 2000000) (h2 : r.fLeases.length ≤ 2000000) : m_impl_GoodRenewAct r a = some (goodRenew r && goodAct r a) := by
  simp only [m_impl_GoodRenewAct, v_iGoodRenew h1 h2, Option.bind_some, v_iGood]
  cases goodRenew r <;> simp
theorem v_sStep {r : DRenew} (a : DRenewAct) (h1 : r.fClocks.length ≤ 2000000) (h2 : r.fLeases.length ≤ 2000000) : m_spec_StepRenew r a = some (stepN r a) := by
  simp only [m_spec_StepRenew, v_sGoodAct a h1 h2, Option.bind_some, stepN, v_own h1 h2]
  cases hg : goodRenew r <;> cases ha : goodAct r a <;> simp [noR]
  rw [v_sDo (goodRenew_iff.1 hg) ha]; rfl
theorem v_iStep {r : DRenew} (a : DRenewAct) (h1 : r.fClocks.length ≤ 2000000) (h2 : r.fLeases.length ≤ 2000000) : m_impl_StepRenew r a = some (stepN r a) := by
  simp only [m_impl_StepRenew, v_iGoodAct a h1 h2, Option.bind_some, stepN, v_copy h1 h2]
  cases hg : goodRenew r <;> cases ha : goodAct r a <;> simp [noR]
  rw [v_iDo (goodRenew_iff.1 hg) ha]; rfl
/-! ### The invariant -/
def sound (r : DRenew) : Bool := r.fLeases.all fun l => !(decide (l.fVer < r.fVer - 1) && decide (l.fUntil ≥ r.fNow))
theorem sound_iff {r : DRenew} : sound r = true ↔ ∀ l ∈ r.fLeases, l.fVer < r.fVer - 1 → l.fUntil < r.fNow := by
  simp only [sound, List.all_eq_true, Bool.not_eq_true', Bool.and_eq_false_iff, decide_eq_false_iff_not]
  exact ⟨fun h l hl hv => by have := h l hl; omega, fun h l hl => by have := h l hl; omega⟩
def soundN (r : DRenew) : Bool × Bool := if goodRenew r = true then (sound r, true) else (false, false)
theorem v_iSound {r : DRenew} (h1 : r.fClocks.length ≤ 2000000) (h2 : r.fLeases.length ≤ 2000000) : m_impl_SoundRenew r = some (soundN r) := by
  simp only [m_impl_SoundRenew, v_iGoodRenew h1 h2, Option.bind_some, soundN]
  cases hg : goodRenew r
  · simp
  · have hR := goodRenew_iff.1 hg
    have w := wrap64 (n := r.fVer - 1) (by have := hR.v0; omega) (by have := hR.v1; omega)
    have e : m_ContainsFunc r.fLeases (fun y0 => m_impl_SoundRenew_1 y0 r) = some (r.fLeases.any fun l => !!(decide (l.fVer < r.fVer - 1) && decide (l.fUntil ≥ r.fNow))) := has_any _ (fun x _ => by simp [m_impl_SoundRenew_1, w]) (by omega)
    simp only [e, Option.bind_some, ← List.not_all_eq_any_not, sound]
    simp
theorem v_sSound {r : DRenew} (h1 : r.fClocks.length ≤ 2000000) (h2 : r.fLeases.length ≤ 2000000) : m_spec_SoundRenew r = some (soundN r) := by
  simp only [m_spec_SoundRenew, v_sGoodRenew h1 h2, Option.bind_some, soundN]
  cases hg : goodRenew r
  · simp
  · have hR := goodRenew_iff.1 hg
    have w := wrap64 (n := r.fVer - 1) (by have := hR.v0; omega) (by have := hR.v1; omega)
    have h3 := loop_list (xs := r.fLeases) (body := fun s : Int => m_spec_SoundRenew_b1 r s) (fun i (_ : Unit) => i) (fun l _ => some (if (!(decide (l.fVer < r.fVer - 1) && decide (l.fUntil ≥ r.fNow))) = true then .inl () else .inr (some (false, true)))) (fun _ => some (true, true))
      (fun i hi s => by
        simp only [m_spec_SoundRenew_b1, w, hi, getI_nat hi, wrapN hi (by omega : r.fLeases.length ≤ _), Int.ofNat_lt, decide_true, if_true, Option.bind_some]
        cases (decide (r.fLeases[i].fVer < r.fVer - 1) && decide (r.fLeases[i].fUntil ≥ r.fNow)) <;> simp [nextI]) (fun s => by simp [m_spec_SoundRenew_b1]) ()
    rw [goL_all (fun l : DVLease => (!(decide (l.fVer < r.fVer - 1) && decide (l.fUntil ≥ r.fNow)))) (false, true) fun x _ s => rfl] at h3
    rw [h3]
    unfold sound
    cases (r.fLeases.all fun l => !(decide (l.fVer < r.fVer - 1) && decide (l.fUntil ≥ r.fNow))) <;> simp
theorem do_good {r : DRenew} {a : DRenewAct} (hg : GoodR r) (h : goodAct r a = true) : GoodR (doN r a).1 ∧ r.fNow ≤ (doN r a).1.fNow ∧ r.fVer ≤ (doN r a).1.fVer ∧ (sound r = true → sound (doN r a).1 = true) := by
  have same : GoodR r ∧ r.fNow ≤ r.fNow ∧ r.fVer ≤ r.fVer ∧ (sound r = true → sound r = true) := ⟨hg, Int.le_refl _, Int.le_refl _, id⟩
  obtain ⟨now0, now1, m0, m1, cl, n0, n1, v0, v1, len, ls⟩ := hg
  have hg : GoodR r := ⟨now0, now1, m0, m1, cl, n0, n1, v0, v1, len, ls⟩
  unfold doN
  rcases goodAct_cases hg h with ⟨hk, h1, h2, h3⟩ | ⟨hk, h1, h2, h3, h4⟩ | ⟨hk, h1, h2⟩ | hk
  · rw [if_pos hk]
    split
    · refine ⟨⟨by dsimp only; omega, ‹_›, m0, m1, cl, n0, n1, v0, v1, len, ls⟩, by dsimp only; omega, Int.le_refl _, fun hs => ?_⟩
      rw [sound_iff] at hs ⊢
      intro l hl hv
      have := hs l hl hv
      show l.fUntil < r.fNow + a.fBy
      omega
    · exact same
  · rw [if_neg (by omega), if_pos hk]
    split
    · exact ⟨⟨now0, now1, h3, h4, cl, n0, n1, v0, v1, len, ls⟩, Int.le_refl _, Int.le_refl _, id⟩
    · refine ⟨⟨now0, now1, m0, m1, fun c hc => ?_, by simpa using n0, by simpa using n1, v0, v1, by simpa using len, ls⟩, Int.le_refl _, Int.le_refl _, id⟩
      rcases List.mem_or_eq_of_mem_set hc with hc | rfl
      · exact cl c hc
      · exact ⟨h3, h4⟩
  · rw [if_neg (by omega), if_neg (by omega), if_pos hk]
    split
    · rename_i hlow
      have hle : lowM r ≤ 1000 := by unfold lowM; omega
      refine ⟨⟨now0, now1, m0, m1, cl, n0, n1, v0, v1, by simpa using len, fun l hl => ?_⟩, Int.le_refl _, Int.le_refl _, fun hs => ?_⟩
      · rcases List.mem_or_eq_of_mem_set hl with hl | rfl
        · exact ls l hl
        · exact ⟨v0, Int.le_refl _, by dsimp only; omega, by dsimp only; omega⟩
      · rw [sound_iff] at hs ⊢
        intro l hl hv
        rcases List.mem_or_eq_of_mem_set hl with hl | rfl
        · exact hs l hl hv
        · dsimp only at hv; omega
    · exact same
  · rw [if_neg (by omega), if_neg (by omega), if_neg (by omega)]
    split
    · rename_i hr
      simp only [mayRaise, Bool.and_eq_true, decide_eq_true_eq, List.all_eq_true, Bool.not_eq_true', Bool.and_eq_false_iff, bne_eq_false_iff_eq, decide_eq_false_iff_not] at hr
      refine ⟨⟨now0, now1, m0, m1, cl, n0, n1, by dsimp only; omega, by dsimp only; omega, len, fun l hl => ?_⟩, Int.le_refl _, by dsimp only; omega, fun _ => ?_⟩
      · have := ls l hl; dsimp only; omega
      · rw [sound_iff]
        intro l hl hv
        dsimp only at hv ⊢
        have := hr.2 l hl
        unfold lowM at this
        omega
    · exact same
end Go.Proofs.Ytjneaalpiangdaa
end

/- Part N2. Lease systems: drawn systems and runs. -/
section
namespace Go.Proofs.Ytjneaalpiangdaa
open Go.RowKit
set_option maxRecDepth 100000
def newR (n : Nat) : DRenew := ⟨0, ⟨0⟩, List.replicate n ⟨0⟩, 0, List.replicate n ⟨0, 0⟩⟩
theorem v_sNew (n : Nat) (h1 : 1 ≤ n) (h2 : n ≤ 3) : m_spec_NewRenew n = some (newR n, true) := by
  unfold m_spec_NewRenew
  have : inB (n : Int) 1 3 = true := by rw [inB_true]; omega
  simp only [v_l1In, Option.bind_some, this]
  simp only [Bool.not_true, Bool.false_eq_true, if_false]
  rw [req_pos (by omega), req_pos (by omega)]; simp [newR]
theorem v_iNew (n : Nat) (h1 : 1 ≤ n) (h2 : n ≤ 3) : m_impl_NewRenew n = some (newR n, true) := by
  unfold m_impl_NewRenew
  have : inB (n : Int) 1 3 = true := by rw [inB_true]; omega
  simp only [v_within, Option.bind_some, this]
  simp only [Bool.not_true, Bool.false_eq_true, if_false]
  rw [req_pos (by omega), req_pos (by omega)]; simp [newR]
theorem newR_good {n : Nat} (h1 : 1 ≤ n) (h2 : n ≤ 3) : GoodR (newR n) :=
  ⟨by simp [newR], by simp [newR], by simp [newR], by simp [newR], fun c hc => by simp only [newR, List.mem_replicate] at hc; simp [hc.2], by simpa [newR] using h1, by simpa [newR] using h2, by simp [newR], by simp [newR], by simp [newR],
    fun l hl => by simp only [newR, List.mem_replicate] at hl; simp [hl.2, newR]⟩
theorem newR_sound (n : Nat) : sound (newR n) = true := by
  rw [sound_iff]
  intro l hl hv
  simp only [newR, List.mem_replicate] at hl hv
  simp [hl.2] at hv
theorem renewAct_ok {c : DL1Cur} {k : Int} (r : DRenew) (h : okC c k) (hk : k ≤ 4611686018427380000) (hr : r.fClocks.length ≤ 1000) : Gives (m___spec_l1Cur__renewAct c r) fun p => okC p.2 (k + 6) := by
  have key : ∀ (v : Int × DL1Cur) (b : Bool), okC v.2 (k + 2) → Gives (m___spec_l1Cur__renewAct_j1 r v b) fun p => okC p.2 (k + 6) := by
    intro v b hv
    unfold m___spec_l1Cur__renewAct_j1
    refine .ite (fun _ => ?_) fun _ => .ite (fun _ => ?_) fun _ => .ite (fun _ => ?_) fun _ => .ite (fun _ => ?_) fun _ => .ret (hv.up (by omega))
    · exact (among_ok _ (by simp) hv (by omega)).bind fun p ⟨_, hp⟩ => .ret (hp.up (by omega))
    · exact (pick_ok _ hv (by omega)).bind fun p ⟨_, hp⟩ => (pick_ok _ hp (by omega)).bind fun q ⟨_, hq⟩ => .ret (hq.up (by omega))
    · exact (pick_ok _ hv (by omega)).bind fun p ⟨_, hp⟩ => .ret (hp.up (by omega))
    · exact (pick_ok _ hv (by omega)).bind fun p ⟨_, hp⟩ => .ret (hp.up (by omega))
  unfold m___spec_l1Cur__renewAct
  refine (pick_ok 8 h (by omega)).bind fun p ⟨_, hp⟩ => .ite (fun _ => key _ _ hp) fun _ => .ite (fun _ => key _ _ hp) fun _ => key _ _ hp
theorem renewActs_ok {c : DL1Cur} {k : Int} (r : DRenew) (n : Nat) (hn : n ≤ 40) (h : okC c k) (hk : k ≤ 4611686018427370000) (hr : r.fClocks.length ≤ 1000) : Gives (m___spec_l1Cur__renewActs c r n) fun p => p.1.length ≤ n ∧ okC p.2 (k + 500) := by
  unfold m___spec_l1Cur__renewActs
  rw [wrap64 (by omega) (by omega)]
  refine (pick_ok _ h (by omega)).bind fun p ⟨hp, hc⟩ => ?_
  have hp2 := hp.2.1 (by omega)
  refine loop_gives (fun m s => s.2.1 = (m : Int) ∧ (m : Int) + s.1.length ≤ n ∧ okC ⟨s.2.2.1, s.2.2.2.1, s.2.2.2.2⟩ (k + 2 + 6 * s.1.length)) ?_ (n := p.1.toNat) ⟨by dsimp only; omega, by simp; omega, by simpa using hc⟩
  rintro m ⟨l, j, c1, c2, c3⟩ ⟨h1, h2, h3⟩
  dsimp only at h1 h2 h3 ⊢
  subst h1
  unfold m___spec_l1Cur__renewActs_b1
  refine .ite (fun hm => ?_) fun _ => .ret (.ret ⟨by dsimp only; omega, h3.up (by omega)⟩)
  simp only [decide_eq_true_eq] at hm
  refine (renewAct_ok r h3 (by omega) hr).bind fun q hq => .req (by simp; omega) (.ret ⟨m - 1, by omega, ?_, by simp; omega, hq.up (by simp; omega)⟩)
  dsimp only
  rw [wrap64 (by omega) (by omega)]; omega
/-! ### Runs -/
def playF (s : DRenew × List Bool) (a : DRenewAct) : DRenew × List Bool := if goodAct s.1 a = true then ((doN s.1 a).1, s.2 ++ [(doN s.1 a).2]) else (s.1, s.2 ++ [false])
def playN (r : DRenew) (l : List DRenewAct) : DRenew × List Bool := l.foldl playF (r, [])
def playI (r : DRenew) (q : Nat) (s : DRenew × List Bool) : Prop := GoodR s.1 ∧ s.2.length = q ∧ (sound r = true → sound s.1 = true)
theorem playF_I {r : DRenew} {q : Nat} {s : DRenew × List Bool} (a : DRenewAct) (h : playI r q s) : playI r (q + 1) (playF s a) := by
  obtain ⟨h1, h2, h3⟩ := h
  unfold playF
  split
  · rename_i hg
    have := do_good h1 hg
    exact ⟨this.1, by simp [h2], fun hs => this.2.2.2 (h3 hs)⟩
  · exact ⟨h1, by simp [h2], h3⟩
theorem v_sPlay {r : DRenew} {l : List DRenewAct} (hg : GoodR r) (hl : l.length ≤ 40) : m_spec_PlayRenew r l = some ((playN r l).1, (playN r l).2, true) ∧ playI r l.length (playN r l) := by
  have b1 : r.fClocks.length ≤ 2000000 := by have := hg.n1; omega
  have b2 : r.fLeases.length ≤ 2000000 := by have := hg.n1; have := hg.len; omega
  have hl' : ¬ ((l.length : Int) > 40) := by omega
  simp only [m_spec_PlayRenew, v_sGoodRenew b1 b2, goodRenew_iff.2 hg, Option.bind_some, v_own b1 b2, Bool.not_true, hl', decide_false, Bool.or_self, Bool.false_eq_true, if_false]
  have h1 := loop_fold (xs := l) (body := fun s : List Bool × Int × Int × Int × Int × List DClock × List DVLease => m_spec_PlayRenew_b1 l s.1 s.2.1 s.2.2.1 s.2.2.2.1 s.2.2.2.2.1 s.2.2.2.2.2.1 s.2.2.2.2.2.2)
    (fun i (s : DRenew × List Bool) => (s.2, i, s.1.fNow, s.1.fMaster.fOff, s.1.fVer, s.1.fClocks, s.1.fLeases)) playF (fun s => some (s.1, s.2, true)) (playI r)
    (fun i hi s hI => by
      refine ⟨?_, playF_I l[i] hI⟩
      have hlen := hI.2.1
      simp only [m_spec_PlayRenew_b1, Int.ofNat_lt, hi, decide_true, if_true, getI_nat hi, Option.bind_some, v_sGood, wrapN hi (by omega : l.length ≤ _)]
      rw [show (⟨s.1.fNow, ⟨s.1.fMaster.fOff⟩, s.1.fClocks, s.1.fVer, s.1.fLeases⟩ : DRenew) = s.1 from rfl]
      unfold playF
      split
      · rename_i ha
        rw [v_sDo hI.1 ha, Option.bind_some, req_pos (by rw [List.length_singleton]; omega)]
      · rename_i ha
        rw [req_pos (by rw [List.length_singleton]; omega)]
        simp only [Bool.not_eq_true] at ha
        rw [ha])
    (fun s _ => by simp [m_spec_PlayRenew_b1]) (s := (r, [])) ⟨hg, rfl, id⟩
  exact h1
theorem v_iPlay {r : DRenew} {l : List DRenewAct} (hg : GoodR r) (hl : l.length ≤ 40) : m_impl_PlayRenew r l = some ((playN r l).1, (playN r l).2, true) := by
  have b1 : r.fClocks.length ≤ 2000000 := by have := hg.n1; omega
  have b2 : r.fLeases.length ≤ 2000000 := by have := hg.n1; have := hg.len; omega
  have hl' : ¬ ((l.length : Int) > 40) := by omega
  simp only [m_impl_PlayRenew, v_iGoodRenew b1 b2, goodRenew_iff.2 hg, Option.bind_some, v_copy b1 b2, Bool.not_true, hl', decide_false, Bool.or_self, Bool.false_eq_true, if_false]
  have h1 := loop_fold (xs := l) (body := fun s : Int × Int × Int × Int × List DClock × List DVLease × List Bool => m_impl_PlayRenew_b1 l s.1 s.2.1 s.2.2.1 s.2.2.2.1 s.2.2.2.2.1 s.2.2.2.2.2.1 s.2.2.2.2.2.2)
    (fun i (s : DRenew × List Bool) => (i, s.1.fNow, s.1.fMaster.fOff, s.1.fVer, s.1.fClocks, s.1.fLeases, s.2)) playF (fun s => some (s.1, s.2, true)) (playI r)
    (fun i hi s hI => by
      refine ⟨?_, playF_I l[i] hI⟩
      have hlen := hI.2.1
      simp only [m_impl_PlayRenew_b1, Int.ofNat_lt, hi, decide_true, if_true, getI_nat hi, Option.bind_some, v_iGood, wrapN hi (by omega : l.length ≤ _)]
      rw [show (⟨s.1.fNow, ⟨s.1.fMaster.fOff⟩, s.1.fClocks, s.1.fVer, s.1.fLeases⟩ : DRenew) = s.1 from rfl]
      unfold playF
      split
      · rename_i ha
        rw [v_iDo hI.1 ha, Option.bind_some, req_pos (by rw [List.length_singleton]; omega)]
      · rw [req_pos (by rw [List.length_singleton]; omega)])
    (fun s _ => by simp [m_impl_PlayRenew_b1]) (s := (r, [])) ⟨hg, rfl, id⟩
  exact h1.1
/-! ### Drawn systems -/
def Sh (r : DRenew) : Prop := 1 ≤ r.fClocks.length ∧ r.fClocks.length ≤ 3 ∧ 1 ≤ r.fLeases.length ∧ r.fLeases.length ≤ 4
theorem GoodR.sh {r : DRenew} (h : GoodR r) : Sh r := ⟨h.n0, h.n1, by have := h.n0; have := h.len; omega, by have := h.n1; have := h.len; omega⟩
theorem renew_ok {c : DL1Cur} {k : Int} (h : okC c k) (hk : k ≤ 4611686018427300000) : Gives (m___spec_l1Cur__renew c) fun p => (Sh p.1 ∧ 0 ≤ p.1.fVer ∧ p.1.fVer ≤ 20 ∧ p.1.fLeases.length ≤ 3) ∧ okC p.2 (k + 1000) := by
  unfold m___spec_l1Cur__renew
  refine (pick_ok 3 h (by omega)).bind fun p ⟨hp, hc⟩ => ?_
  have hp2 := hp.2.1 (by omega)
  obtain ⟨m, hm⟩ := Int.eq_ofNat_of_zero_le (a := 1 + p.1) (by omega)
  rw [wrap64 (by omega) (by omega), hm, v_sNew m (by omega) (by omega), Option.bind_some]
  have hgN := newR_good (n := m) (by omega) (by omega)
  refine (renewActs_ok (newR m) 20 (by omega) hc (by omega) (by have := hgN.n1; omega)).bind fun q ⟨hq, hd⟩ => ?_
  obtain ⟨hp1, hpI⟩ := v_sPlay hgN (l := q.1) (by omega)
  rw [hp1, Option.bind_some]
  generalize playN (newR m) q.1 = w at hpI
  have hsh := hpI.1.sh
  refine (one_ok 4 hd (by omega)).bind fun u hu => .ite (fun _ => ?_) fun _ => .ret ⟨⟨hsh, hpI.1.v0, hpI.1.v1, by have := hpI.1.len; have := hpI.1.n1; dsimp only; omega⟩, hu.up (by omega)⟩
  refine (pick_ok _ hu (by omega)).bind fun i ⟨hi, he⟩ => ?_
  refine Gives.bind (P := fun _ => True) (.getI hi.1 (hi.2.1 (by have := hsh.2.2.1; show (1 : Int) ≤ (w.1.fLeases.length : Int); omega)) fun _ _ => trivial) fun y _ => ?_
  refine (among_ok _ (by simp) he (by omega)).bind fun t ⟨_, hf⟩ => (pick_ok _ hf (by omega)).bind fun z ⟨_, hz⟩ => .ret ⟨⟨⟨hsh.1, hsh.2.1, by simpa using hsh.2.2.1, by simpa using hsh.2.2.2⟩, hpI.1.v0, hpI.1.v1, by have := hpI.1.len; have := hpI.1.n1; simp; omega⟩, hz.up (by omega)⟩
theorem bent_ok {c : DL1Cur} {k : Int} (h : okC c k) (hk : k ≤ 4611686018427200000) : Gives (m___spec_l1Cur__bentRenew c) fun p => Sh p.1 ∧ okC p.2 (k + 2000) := by
  unfold m___spec_l1Cur__bentRenew
  refine (renew_ok h (by omega)).bind fun p ⟨⟨hs, _, _, hl3⟩, hc⟩ => (pick_ok 14 hc (by omega)).bind fun q ⟨_, hd⟩ => ?_
  refine .ite (fun _ => ?_) fun _ => .ite (fun _ => ?_) fun _ => .ite (fun _ => ?_) fun _ => .ite (fun _ => ?_) fun _ => .ite (fun _ => ?_) fun _ => .ret ⟨hs, hd.up (by omega)⟩
  · exact (among_ok _ (by simp) hd (by omega)).bind fun t ⟨_, ht⟩ => .ret ⟨hs, ht.up (by omega)⟩
  · exact (among_ok _ (by simp) hd (by omega)).bind fun t ⟨_, ht⟩ => .ret ⟨hs, ht.up (by omega)⟩
  · refine (among_ok _ (by simp) hd (by omega)).bind fun t ⟨_, ht⟩ => Gives.bind (P := fun _ => True) (.getI (by omega) (by have := hs.1; omega) fun _ _ => trivial) fun y _ => .ret ⟨⟨by simpa using hs.1, by simpa using hs.2.1, hs.2.2⟩, ht.up (by omega)⟩
  · exact .req (by simp; omega) (.ret ⟨⟨hs.1, hs.2.1, by simp, by simpa using hl3⟩, hd.up (by omega)⟩)
  · refine (pick_ok 25 hd (by omega)).bind fun u ⟨_, hu⟩ => (among_ok _ (by simp) hu (by omega)).bind fun t ⟨_, ht⟩ => Gives.bind (P := fun _ => True) (.getI (by omega) (by have := hs.2.2.1; omega) fun _ _ => trivial) fun y _ => .ret ⟨⟨hs.1, hs.2.1, by simpa using hs.2.2.1, by simpa using hs.2.2.2⟩, ht.up (by omega)⟩
theorem drawStep_ok {code : List Int} (h : ∀ b ∈ code, 0 ≤ b ∧ b ≤ 255) : Gives (m_spec_DrawStepRenew code) fun p => Sh p.1 := by
  unfold m_spec_DrawStepRenew
  refine (bent_ok (.start h) (by omega)).bind fun p ⟨hs, hc⟩ => (renewAct_ok _ hc (by omega) (by have := hs.2.1; omega)).bind fun q hq => (pick_ok 12 hq (by omega)).bind fun u ⟨_, hu⟩ => ?_
  refine .ite (fun _ => ?_) fun _ => .ite (fun _ => ?_) fun _ => .ite (fun _ => ?_) fun _ => .ret hs
  · exact (pick_ok 6 hu (by omega)).bind fun t _ => .ret hs
  · exact (pick_ok 6 hu (by omega)).bind fun t _ => .ret hs
  · exact (among_ok _ (by simp) hu (by omega)).bind fun t _ => .ret hs
theorem drawUsable_ok {code : List Int} (h : ∀ b ∈ code, 0 ≤ b ∧ b ≤ 255) : Gives (m_spec_DrawUsableIn code) fun p => Sh p.1 := by
  unfold m_spec_DrawUsableIn
  exact (bent_ok (.start h) (by omega)).bind fun p ⟨hs, hc⟩ => (pick_ok 5 hc (by omega)).bind fun q _ => .ret hs
theorem drawNew_ok {code : List Int} (h : ∀ b ∈ code, 0 ≤ b ∧ b ≤ 255) : Gives (m_spec_DrawNewRenew code) fun n => -1 ≤ n ∧ n ≤ 4 := by
  unfold m_spec_DrawNewRenew
  refine (pick_ok 6 (.start h) (by omega)).bind fun p ⟨hp, hc⟩ => ?_
  have := hp.2.1 (by omega)
  exact .ret (by rw [wrap64 (by omega) (by omega)]; omega)
theorem drawPlay_ok {code : List Int} (h : ∀ b ∈ code, 0 ≤ b ∧ b ≤ 255) : Gives (m_spec_DrawPlayRenew code) fun p => Sh p.1 ∧ p.2.length ≤ 41 := by
  have key : ∀ (a : List Int) (b c d e f : Int) (g : List DClock) (i : List DVLease), okC ⟨a, b, c⟩ 10000 → Sh ⟨d, ⟨e⟩, g, f, i⟩ → Gives (m_spec_DrawPlayRenew_j1 a b c d e f g i) fun p => Sh p.1 ∧ p.2.length ≤ 41 := by
    intro a b c d e f g i hc hs
    unfold m_spec_DrawPlayRenew_j1
    refine (renewActs_ok _ 40 (by omega) hc (by omega) (by have := hs.2.1; dsimp only at this ⊢; omega)).bind fun p ⟨hp, hd⟩ => (one_ok 8 hd (by omega)).bind fun u hu => .ite (fun _ => ?_) fun _ => .ret ⟨hs, by dsimp only; omega⟩
    refine (pick_ok 6 hu (by omega)).bind fun x ⟨_, hx⟩ => (pick_ok 5 hx (by omega)).bind fun y ⟨_, hy⟩ => (pick_ok 5 hy (by omega)).bind fun z ⟨_, hz⟩ => .req (by simp; omega) (.ret ⟨hs, by simp; omega⟩)
  unfold m_spec_DrawPlayRenew
  refine (renew_ok (.start h) (by omega)).bind fun p ⟨⟨hs, _⟩, hc⟩ => (one_ok 12 hc (by omega)).bind fun q hq => .ite (fun _ => ?_) fun _ => key _ _ _ _ _ _ _ _ (hq.up (by omega)) hs
  exact (bent_ok hq (by omega)).bind fun t ⟨ht, hd⟩ => key _ _ _ _ _ _ _ _ (hd.up (by omega)) ht
end Go.Proofs.Ytjneaalpiangdaa
end

/- Part N3. Lease systems: the laws FnRenew and FnNear of typed models. -/
section
namespace Go.Proofs.Ytjneaalpiangdaa
open Go.RowKit
set_option maxRecDepth 100000
theorem Sh.b1 {r : DRenew} (h : Sh r) : r.fClocks.length ≤ 2000000 := by have := h.2.1; omega
theorem Sh.b2 {r : DRenew} (h : Sh r) : r.fLeases.length ≤ 2000000 := by have := h.2.2.2; omega
theorem v_same (r : DRenew) (h1 : r.fClocks.length ≤ 2000000) (h2 : r.fLeases.length ≤ 2000000) : m_laws_qSameR r r = some true := by
  have e1 := loop_list (xs := r.fLeases) (body := fun s : Int => m_laws_qSameR_b2 r r s) (fun i (_ : Unit) => i) (fun l _ => some (if (fun _ => true) l = true then .inl () else .inr (some false))) (fun _ => some true)
    (fun i hi s => by simp [m_laws_qSameR_b2, hi, getI_nat hi, wrapN hi (by omega : r.fLeases.length ≤ _), nextI]) (fun s => by simp [m_laws_qSameR_b2]) ()
  rw [goL_all (fun _ => true) false fun x _ s => rfl] at e1
  have e2 := loop_list (xs := r.fClocks) (body := fun s : Int => m_laws_qSameR_b3 r r s) (fun i (_ : Unit) => i) (fun l _ => some (if (fun _ => true) l = true then .inl () else .inr (some false))) (fun _ => m_laws_qSameR_k1 r r)
    (fun i hi s => by simp [m_laws_qSameR_b3, hi, getI_nat hi, wrapN hi (by omega : r.fClocks.length ≤ _), nextI]) (fun s => by simp [m_laws_qSameR_b3]) ()
  rw [goL_all (fun _ => true) false fun x _ s => rfl] at e2
  unfold m_laws_qSameR
  simp only [bne_self_eq_false, Bool.false_or, beq_self_eq_true, Bool.not_true, Bool.false_eq_true, if_false]
  rw [e2]
  simp only [List.all_eq_true, implies_true, if_true]
  unfold m_laws_qSameR_k1
  rw [e1]
  simp
theorem v_sameB (l : List Bool) (h : l.length ≤ 2000000) : m_laws_qSameB l l = some true := by
  have e1 := loop_list (xs := l) (body := fun s : Int => m_laws_qSameB_b1 l l s) (fun i (_ : Unit) => i) (fun l _ => some (if (fun _ => true) l = true then .inl () else .inr (some false))) (fun _ => some true)
    (fun i hi s => by simp [m_laws_qSameB_b1, hi, getI_nat hi, wrapN hi (by omega : l.length ≤ _), nextI]) (fun s => by simp [m_laws_qSameB_b1]) ()
  rw [goL_all (fun _ => true) false fun x _ s => rfl] at e1
  unfold m_laws_qSameB
  simp only [bne_self_eq_false, Bool.false_eq_true, if_false]
  rw [e1]
  simp
theorem noR_b1 : noR.fClocks.length ≤ 2000000 := by simp [noR]
theorem noR_b2 : noR.fLeases.length ≤ 2000000 := by simp [noR]
/-! ### What a server may use -/
def usableN (r : DRenew) (i : Int) : Bool := match r.fClocks[i.toNat]?, r.fLeases[i.toNat]? with
  | some c, some l => decide (r.fNow + c.fOff + 5 < l.fUntil)
  | _, _ => false
theorem v_usable {r : DRenew} (hg : GoodR r) {i : Int} (h0 : 0 ≤ i) (h1 : i < r.fClocks.length) : m__impl_Renew__usable r i = some (usableN r i) ∧ m_spec_l28Usable r i = some (usableN r i) := by
  obtain ⟨c, hc, hcm, hc2⟩ := getI_lt (xs := r.fClocks) h0 h1
  obtain ⟨l, hl, hlm, hl2⟩ := getI_lt (xs := r.fLeases) h0 (by have := hg.len; omega)
  have := hg.cl c hcm; have := hg.now0; have := hg.now1
  have w1 := wrap64 (n := r.fNow + c.fOff) (by omega) (by omega)
  have w2 := wrap64 (n := r.fNow + c.fOff + 5) (by omega) (by omega)
  constructor
  · simp [m__impl_Renew__usable, hc, hl, m__impl_Clock__span, w1, w2, usableN, hc2, hl2]
  · simp [m_spec_l28Usable, hc, hl, m_spec_l28High, w1, w2, usableN, hc2, hl2]
def useN (r : DRenew) (i : Int) : Int × Bool × Bool := if goodRenew r && inB i 0 ((r.fClocks.length : Int) - 1) then (((r.fLeases[i.toNat]?).getD ⟨0, 0⟩).fVer, usableN r i, true) else (0, false, false)
theorem v_use {r : DRenew} (h1 : r.fClocks.length ≤ 2000000) (h2 : r.fLeases.length ≤ 2000000) (i : Int) : m_impl_UsableIn r i = some (useN r i) ∧ m_spec_UsableIn r i = some (useN r i) := by
  simp only [m_impl_UsableIn, m_spec_UsableIn, v_iGoodRenew h1 h2, v_sGoodRenew h1 h2, Option.bind_some, useN, v_l1In, v_within]
  cases hg : goodRenew r with
  | false => simp
  | true =>
    have hR := goodRenew_iff.1 hg
    rw [wrap64 (n := (r.fClocks.length : Int) - 1) (by omega) (by omega)]
    cases hi : inB i 0 ((r.fClocks.length : Int) - 1) with
    | false => simp
    | true =>
      rw [inB_true] at hi
      obtain ⟨l, hl, _, hl2⟩ := getI_lt (xs := r.fLeases) hi.1 (by have := hR.len; omega)
      obtain ⟨u1, u2⟩ := v_usable hR hi.1 (by omega)
      simp [hl, u1, u2, hl2]
theorem law_FnRenew {code more : List Int} (hc : ∀ b ∈ code, 0 ≤ b ∧ b ≤ 255) (hm : ∀ b ∈ more, 0 ≤ b ∧ b ≤ 255) : m_laws_FnRenew code more = some true := by
  unfold m_laws_FnRenew
  refine iteC (fun _ => rfl) fun _ => ?_
  obtain ⟨⟨r, a⟩, hd, hs⟩ := drawStep_ok hc
  obtain ⟨⟨x, i⟩, hx, ht⟩ := drawUsable_ok hm
  have hs1 := hs.b1; have hs2 := hs.b2; have ht1 := ht.b1; have ht2 := ht.b2
  dsimp only at hs1 hs2 ht1 ht2
  have hq : m_laws_qSameR (stepN r a).1 (stepN r a).1 = some true := by
    unfold stepN
    split
    · rename_i hg
      simp only [Bool.and_eq_true] at hg
      have := (do_good (goodRenew_iff.1 hg.1) hg.2).1.sh
      exact v_same _ this.b1 this.b2
    · exact v_same _ noR_b1 noR_b2
  refine (bind_eq hd).trans ((bind_eq (v_iStep a hs1 hs2)).trans ((bind_eq (v_sStep a hs1 hs2)).trans ((bind_eq (v_iSound hs1 hs2)).trans ((bind_eq (v_sSound hs1 hs2)).trans ((bind_eq hx).trans ((bind_eq (v_use ht1 ht2 i).1).trans ((bind_eq (v_use ht1 ht2 i).2).trans ?_)))))))
  refine iteF (by simp) (iteF (by simp) ?_)
  refine (bind_eq hq).trans (iteT rfl (iteF (by simp) (iteF (by simp) (iteF (by simp) (iteF (by simp) (iteF (by simp) ?_))))))
  refine (bind_eq (v_iGoodRenew hs1 hs2)).trans ((bind_eq (v_sGoodRenew hs1 hs2)).trans ?_)
  refine iteF (by simp) ((bind_eq (v_iGoodAct a hs1 hs2)).trans ?_)
  have hend : (if (!(stepN r a).2.2) = true then some true else (m_impl_SoundRenew (stepN r a).1).bind fun v34 => some (((v34.2 && ((!(soundN r).1) || v34.1)) && (decide ((stepN r a).1.fNow ≥ r.fNow))) && (decide ((stepN r a).1.fVer ≥ r.fVer)))) = some true := by
    unfold stepN
    cases hg : (goodRenew r && goodAct r a) with
    | false => simp
    | true =>
      simp only [Bool.and_eq_true] at hg
      have hR := goodRenew_iff.1 hg.1
      obtain ⟨h1, h2, h3, h4⟩ := do_good hR hg.2
      simp only [if_true, Bool.not_true, Bool.false_eq_true, if_false]
      rw [v_iSound h1.sh.b1 h1.sh.b2]
      simp only [soundN, hg.1, goodRenew_iff.2 h1, if_true, Option.bind_some]
      cases hso : sound r with
      | false => simp [h2, h3]
      | true => simp [h2, h3, h4 hso]
  have hact : ((goodRenew r && goodAct r a) != (stepN r a).2.2) = false := by
    unfold stepN
    cases (goodRenew r && goodAct r a) <;> rfl
  refine iteF hact (iteC (fun hu => ?_) fun _ => hend)
  unfold useN at hu
  by_cases hg : (goodRenew x && inB i 0 ((x.fClocks.length : Int) - 1)) = true
  · rw [if_pos hg] at hu
    simp only [Bool.and_eq_true, inB_true, Bool.true_and] at hg hu
    have hR := goodRenew_iff.1 hg.1
    have hi0 := hg.2.1
    obtain ⟨c, hc1, hcm, hc2⟩ := getI_lt (xs := x.fClocks) hi0 (by omega)
    obtain ⟨l, hl1, hlm, hl2⟩ := getI_lt (xs := x.fLeases) hi0 (by have := hR.len; omega)
    have hcl := hR.cl c hcm; have := hR.now0; have := hR.now1
    have w1 := wrap64 (n := x.fNow + c.fOff) (by omega) (by omega)
    have w2 := wrap64 (n := x.fNow + c.fOff + 5) (by omega) (by omega)
    have g1 : goodClock c = true := by unfold goodClock; rw [inB_true]; exact hcl
    have g2 : inB x.fNow 0 100000 = true := by rw [inB_true]; omega
    simp only [usableN, hc2, hl2, decide_eq_true_eq] at hu
    have hge : decide (x.fNow + c.fOff + 5 ≥ l.fUntil) = false := by rw [decide_eq_false_iff_not]; omega
    have hsp : m_spec_SpanAt c x.fNow = some (⟨IntKind.i64.wrap (IntKind.i64.wrap (x.fNow + c.fOff) - 5), x.fNow + c.fOff + 5⟩, true) := by
      simp [m_spec_SpanAt, g1, m_spec_l2True, g2, m_spec_l2At, w1, w2]
    exact (bind_eq hc1).trans ((bind_eq hsp).trans (iteT rfl ((bind_eq hl1).trans (iteF hge hend))))
  · rw [if_neg hg] at hu; simp at hu
end Go.Proofs.Ytjneaalpiangdaa
end

/- Part N4. Lease systems: versions in use, and the law FnNear of typed models. -/
section
namespace Go.Proofs.Ytjneaalpiangdaa
open Go.RowKit
set_option maxRecDepth 100000
theorem max_ok {l : List Int} (hl : l ≠ []) (hn : l.length ≤ 2000000) : ∃ m, m_slices_Max___int_int_ l = some m ∧ m ∈ l ∧ ∀ v ∈ l, v ≤ m := by
  obtain ⟨x, xs, rfl⟩ := List.exists_cons_of_ne_nil hl
  have h1 := loop_from (xs := x :: xs) (body := fun s : Int × Int => m_slices_Max___int_int__b1 (x :: xs) s.1 s.2) (fun i (m : Int) => (m, i)) (fun y m => some (.inl (bif decide (y > m) then y else m))) (fun m => some m) 1
    (fun i hi s _ => by
      simp only [m_slices_Max___int_int__b1, Int.ofNat_lt, hi, decide_true, if_true, getI_nat hi, Option.bind_some, wrapN hi (by omega), nextI]) (fun s => by simp [m_slices_Max___int_int__b1]) x (by simp)
  rw [goL_fold (fun m y => bif decide (y > m) then y else m) (fun _ => True) (fun _ _ _ _ => trivial) (fun _ _ _ _ => rfl) trivial] at h1
  have hf : ∀ (l : List Int) (m : Int), (l.foldl (fun m y => bif decide (y > m) then y else m) m = m ∨ l.foldl (fun m y => bif decide (y > m) then y else m) m ∈ l) ∧ m ≤ l.foldl (fun m y => bif decide (y > m) then y else m) m ∧ ∀ v ∈ l, v ≤ l.foldl (fun m y => bif decide (y > m) then y else m) m := by
    intro l
    induction l with
    | nil => intro m; simp
    | cons y l ih =>
      intro m
      obtain ⟨i1, i2, i3⟩ := ih (bif decide (y > m) then y else m)
      simp only [List.foldl_cons, List.mem_cons]
      generalize List.foldl (fun m y => bif decide (y > m) then y else m) (bif decide (y > m) then y else m) l = z at i1 i2 i3
      by_cases h : y > m
      · simp only [h, decide_true, cond_true] at i1 i2
        exact ⟨.inr (i1.imp id id), by omega, fun v hv => by rcases hv with rfl | hv; omega; exact i3 v hv⟩
      · simp only [h, decide_false, cond_false] at i1 i2
        exact ⟨by rcases i1 with h | h; exact .inl h; exact .inr (.inr h), by omega, fun v hv => by rcases hv with rfl | hv; omega; exact i3 v hv⟩
  obtain ⟨f1, f2, f3⟩ := hf xs x
  refine ⟨xs.foldl (fun m y => bif decide (y > m) then y else m) x, ?_, ?_, ?_⟩
  · unfold m_slices_Max___int_int_
    have hlen : ¬ (((x :: xs).length : Int) < 1) := by simp; omega
    simp only [hlen, decide_false, Bool.false_eq_true, if_false]
    rw [show getI (x :: xs) 0 = some x from rfl, Option.bind_some]
    simpa using h1
  · rcases f1 with h | h
    · rw [h]; simp
    · simp [h]
  · intro v hv
    rcases List.mem_cons.1 hv with rfl | hv
    · exact f2
    · exact f3 v hv
theorem min_ok {l : List Int} (hl : l ≠ []) (hn : l.length ≤ 2000000) : ∃ m, m_slices_Min___int_int_ l = some m ∧ m ∈ l ∧ ∀ v ∈ l, m ≤ v := by
  obtain ⟨x, xs, rfl⟩ := List.exists_cons_of_ne_nil hl
  have h1 := loop_from (xs := x :: xs) (body := fun s : Int × Int => m_slices_Min___int_int__b1 (x :: xs) s.1 s.2) (fun i (m : Int) => (m, i)) (fun y m => some (.inl (bif decide (y < m) then y else m))) (fun m => some m) 1
    (fun i hi s _ => by
      simp only [m_slices_Min___int_int__b1, Int.ofNat_lt, hi, decide_true, if_true, getI_nat hi, Option.bind_some, wrapN hi (by omega), nextI]) (fun s => by simp [m_slices_Min___int_int__b1]) x (by simp)
  rw [goL_fold (fun m y => bif decide (y < m) then y else m) (fun _ => True) (fun _ _ _ _ => trivial) (fun _ _ _ _ => rfl) trivial] at h1
  have hf : ∀ (l : List Int) (m : Int), (l.foldl (fun m y => bif decide (y < m) then y else m) m = m ∨ l.foldl (fun m y => bif decide (y < m) then y else m) m ∈ l) ∧ l.foldl (fun m y => bif decide (y < m) then y else m) m ≤ m ∧ ∀ v ∈ l, l.foldl (fun m y => bif decide (y < m) then y else m) m ≤ v := by
    intro l
    induction l with
    | nil => intro m; simp
    | cons y l ih =>
      intro m
      obtain ⟨i1, i2, i3⟩ := ih (bif decide (y < m) then y else m)
      simp only [List.foldl_cons, List.mem_cons]
      generalize List.foldl (fun m y => bif decide (y < m) then y else m) (bif decide (y < m) then y else m) l = z at i1 i2 i3
      by_cases h : y < m
      · simp only [h, decide_true, cond_true] at i1 i2
        exact ⟨.inr (i1.imp id id), by omega, fun v hv => by rcases hv with rfl | hv; omega; exact i3 v hv⟩
      · simp only [h, decide_false, cond_false] at i1 i2
        exact ⟨by rcases i1 with h | h; exact .inl h; exact .inr (.inr h), by omega, fun v hv => by rcases hv with rfl | hv; omega; exact i3 v hv⟩
  obtain ⟨f1, f2, f3⟩ := hf xs x
  refine ⟨xs.foldl (fun m y => bif decide (y < m) then y else m) x, ?_, ?_, ?_⟩
  · unfold m_slices_Min___int_int_
    have hlen : ¬ (((x :: xs).length : Int) < 1) := by simp; omega
    simp only [hlen, decide_false, Bool.false_eq_true, if_false]
    rw [show getI (x :: xs) 0 = some x from rfl, Option.bind_some]
    simpa using h1
  · rcases f1 with h | h
    · rw [h]; simp
    · simp [h]
  · intro v hv
    rcases List.mem_cons.1 hv with rfl | hv
    · exact f2
    · exact f3 v hv
def verAt (r : DRenew) (i : Nat) : Int := ((r.fLeases[i]?).getD ⟨0, 0⟩).fVer
def farAt (r : DRenew) (i j : Nat) : Bool := usableN r i && usableN r j && decide (verAt r i - verAt r j > 1)
def nearN (r : DRenew) : Bool := (List.range r.fLeases.length).all fun i => (List.range r.fLeases.length).all fun j => !farAt r i j
theorem verAt_get {r : DRenew} {i : Nat} (hi : i < r.fLeases.length) : r.fLeases[i].fVer = verAt r i := by simp [verAt, hi]
theorem verAt_b {r : DRenew} (hg : GoodR r) {i : Nat} (hi : i < r.fLeases.length) : 0 ≤ verAt r i ∧ verAt r i ≤ 20 := by
  have := hg.ls _ (List.getElem_mem hi)
  rw [verAt_get hi] at this
  have := hg.v1
  omega
theorem v_sNear {r : DRenew} (hg : GoodR r) : m_spec_AreNear r = some (nearN r, true) := by
  have b1 := hg.sh.b1; have b2 := hg.sh.b2; have hlen := hg.len
  have inner : ∀ i : Nat, i < r.fLeases.length → loopO (fun s : Int => m_spec_AreNear_b3 r i s) 0 = some (if ((List.range r.fLeases.length).all fun j => !farAt r i j) = true then .inl ((i + 1 : Nat) : Int) else .inr (some (false, true))) := by
    intro i hi
    have h1 := loop_list (xs := List.range r.fLeases.length) (body := fun s : Int => m_spec_AreNear_b3 r i s) (fun j (_ : Unit) => j) (fun j _ => some (if (!farAt r i j) = true then .inl () else .inr (some (.inr (some (false, true)))))) (fun _ => m_spec_AreNear_k2 i)
      (fun j hj s => by
        simp only [List.length_range] at hj
        have := verAt_b hg hi; have := verAt_b hg hj
        have w := wrap64 (n := verAt r i - verAt r j) (by omega) (by omega)
        simp only [m_spec_AreNear_b3, Int.ofNat_lt, hj, decide_true, if_true, (v_usable hg (i := i) (by omega) (by omega)).2, (v_usable hg (i := j) (by omega) (by omega)).2, getI_nat hi, getI_nat hj, Option.bind_some, wrapN hj (by omega), verAt_get hi, verAt_get hj, w, List.getElem_range, farAt]
        by_cases hd : verAt r i - verAt r j > 1 <;> cases usableN r i <;> cases usableN r j <;> simp [nextI, hd]) (fun s => by simp [m_spec_AreNear_b3]) ()
    rw [goL_all (fun j => !farAt r i j) _ fun x _ s => rfl] at h1
    rw [h1]
    simp only [m_spec_AreNear_k2, wrapN hi (by omega)]
    split <;> rfl
  have h2 := loop_list (xs := List.range r.fLeases.length) (body := fun s : Int => m_spec_AreNear_b1 r s) (fun i (_ : Unit) => i) (fun i _ => some (if ((List.range r.fLeases.length).all fun j => !farAt r i j) = true then .inl () else .inr (some (false, true)))) (fun _ => some (true, true))
    (fun i hi s => by
      simp only [List.length_range] at hi
      simp only [m_spec_AreNear_b1, Int.ofNat_lt, hi, decide_true, if_true, inner i hi, List.getElem_range]
      split <;> simp [nextI]) (fun s => by simp [m_spec_AreNear_b1]) ()
  rw [goL_all (fun i => (List.range r.fLeases.length).all fun j => !farAt r i j) _ fun x _ s => rfl] at h2
  simp only [m_spec_AreNear, v_sGoodRenew b1 b2, goodRenew_iff.2 hg, Option.bind_some, Bool.not_true, Bool.false_eq_true, if_false]
  rw [h2]
  unfold nearN
  cases ((List.range r.fLeases.length).all fun i => (List.range r.fLeases.length).all fun j => !farAt r i j) <;> rfl
def addU (r : DRenew) (l : List Int) (i : Nat) : List Int := if usableN r i = true then l ++ [verAt r i] else l
theorem v_iNear {r : DRenew} (hg : GoodR r) : m_impl_AreNear r = some (nearN r, true) := by
  have b1 := hg.sh.b1; have b2 := hg.sh.b2; have hlen := hg.len
  have hn3 : r.fLeases.length ≤ 3 := by have := hg.n1; omega
  have h1 := loop_fold (xs := List.range r.fLeases.length) (body := fun s : Int × List Int => m_impl_AreNear_b2 r s.1 s.2) (fun i (l : List Int) => (i, l)) (addU r) (fun l => m_impl_AreNear_k1 l) (fun q l => l.length ≤ q)
    (fun i hi s hI => by
      simp only [List.length_range] at hi
      simp only [m_impl_AreNear_b2, Int.ofNat_lt, hi, decide_true, if_true, getI_nat hi, Option.bind_some, (v_usable hg (i := i) (by omega) (by omega)).1, wrapN hi (by omega : r.fLeases.length ≤ _), verAt_get hi, List.getElem_range]
      unfold addU
      cases usableN r i with
      | true =>
        simp only [if_true]
        rw [req_pos (by rw [List.length_singleton]; omega)]
        exact ⟨rfl, by simp; omega⟩
      | false => exact ⟨rfl, by simp; omega⟩) (fun s _ => by simp [m_impl_AreNear_b2]) (s := []) (by simp)
  have hmem : ∀ (is : List Nat) (l : List Int) (v : Int), v ∈ is.foldl (addU r) l ↔ v ∈ l ∨ ∃ i ∈ is, usableN r i = true ∧ v = verAt r i := by
    intro is
    induction is with
    | nil => intro l v; simp
    | cons i is ih =>
      intro l v
      simp only [List.foldl_cons, ih, addU]
      cases hu : usableN r i with
      | true => simp [hu, or_assoc]
      | false => simp [hu]
  have hlv := h1.2
  simp only [List.length_range] at hlv
  have hm := fun v => hmem (List.range r.fLeases.length) [] v
  simp only [m_impl_AreNear, v_iGoodRenew b1 b2, goodRenew_iff.2 hg, Option.bind_some, Bool.not_true, Bool.false_eq_true, if_false]
  rw [h1.1]
  generalize (List.range r.fLeases.length).foldl (addU r) [] = vs at hlv hm
  simp only [List.not_mem_nil, false_or, List.mem_range] at hm
  unfold m_impl_AreNear_k1
  have hb : ∀ v ∈ vs, 0 ≤ v ∧ v ≤ 20 := by
    intro v hv
    obtain ⟨i, hi, _, rfl⟩ := (hm v).1 hv
    exact verAt_b hg hi
  have hnear : nearN r = decide (∀ u ∈ vs, ∀ v ∈ vs, u - v ≤ 1) := by
    rw [Bool.eq_iff_iff]
    simp only [nearN, List.all_eq_true, List.mem_range, Bool.not_eq_true', decide_eq_true_eq, farAt, Bool.and_eq_false_iff, decide_eq_false_iff_not]
    constructor
    · intro h u hu v hv
      obtain ⟨i, hi, ui, rfl⟩ := (hm u).1 hu
      obtain ⟨j, hj, uj, rfl⟩ := (hm v).1 hv
      have := h i hi j hj
      simp [ui, uj] at this
      omega
    · intro h i hi j hj
      cases ui : usableN r i with
      | false => simp
      | true =>
        cases uj : usableN r j with
        | false => simp
        | true =>
          have := h _ ((hm _).2 ⟨i, hi, ui, rfl⟩) _ ((hm _).2 ⟨j, hj, uj, rfl⟩)
          simp; omega
  by_cases hz : vs = []
  · subst hz
    simp [hnear]
  · have hl0 : ((vs.length : Int) == 0) = false := by
      have := List.length_pos_iff.2 hz
      rw [beq_eq_false_iff_ne]; omega
    obtain ⟨x, hx, x1, x2⟩ := max_ok hz (by omega)
    obtain ⟨y, hy, y1, y2⟩ := min_ok hz (by omega)
    have := hb x x1; have := hb y y1
    simp only [hl0, Bool.false_eq_true, if_false, hx, hy, Option.bind_some]
    rw [wrap64 (by omega) (by omega), hnear]
    have : (x - y ≤ 1) ↔ ∀ u ∈ vs, ∀ v ∈ vs, u - v ≤ 1 := ⟨fun h u hu v hv => by have := x2 u hu; have := y2 v hv; omega, fun h => h x x1 y y1⟩
    simp [this]
theorem near_sound {r : DRenew} (hg : GoodR r) (h : sound r = true) : nearN r = true := by
  have hs := sound_iff.1 h
  simp only [nearN, List.all_eq_true, List.mem_range, Bool.not_eq_true', farAt, Bool.and_eq_false_iff, decide_eq_false_iff_not]
  intro i hi j hj
  have key : ∀ j, j < r.fLeases.length → usableN r j = true → r.fVer - 1 ≤ verAt r j := by
    intro j hj hu
    have hj2 : j < r.fClocks.length := by have := hg.len; omega
    have := hg.cl _ (List.getElem_mem hj2)
    simp only [usableN, Int.toNat_natCast, List.getElem?_eq_getElem hj, List.getElem?_eq_getElem hj2, decide_eq_true_eq] at hu
    have h2 := hs _ (List.getElem_mem hj)
    rw [verAt_get hj] at h2
    omega
  have hle : verAt r i ≤ r.fVer := by
    have := hg.ls _ (List.getElem_mem hi)
    rw [verAt_get hi] at this
    exact this.2.1
  cases usableN r i with
  | false => simp
  | true =>
    cases uj : usableN r j with
    | false => simp
    | true =>
      have := key j hj uj
      simp; omega
def playL (r : DRenew) (l : List DRenewAct) : DRenew × List Bool × Bool := if goodRenew r = true ∧ l.length ≤ 40 then ((playN r l).1, (playN r l).2, true) else (noR, [], false)
theorem v_playL {r : DRenew} {l : List DRenewAct} (h1 : r.fClocks.length ≤ 2000000) (h2 : r.fLeases.length ≤ 2000000) : m_impl_PlayRenew r l = some (playL r l) ∧ m_spec_PlayRenew r l = some (playL r l) := by
  unfold playL
  by_cases hg : goodRenew r = true
  · by_cases hl : l.length ≤ 40
    · rw [if_pos ⟨hg, hl⟩]
      exact ⟨v_iPlay (goodRenew_iff.1 hg) hl, (v_sPlay (goodRenew_iff.1 hg) hl).1⟩
    · rw [if_neg (fun h => hl h.2)]
      have : (l.length : Int) > 40 := by omega
      simp [m_impl_PlayRenew, m_spec_PlayRenew, v_iGoodRenew h1 h2, v_sGoodRenew h1 h2, this, noR]
  · rw [if_neg (fun h => hg h.1)]
    simp [m_impl_PlayRenew, m_spec_PlayRenew, v_iGoodRenew h1 h2, v_sGoodRenew h1 h2, hg, noR]
def nearL (r : DRenew) : Bool × Bool := if goodRenew r = true then (nearN r, true) else (false, false)
theorem v_nearL {r : DRenew} (h1 : r.fClocks.length ≤ 2000000) (h2 : r.fLeases.length ≤ 2000000) : m_impl_AreNear r = some (nearL r) ∧ m_spec_AreNear r = some (nearL r) := by
  unfold nearL
  by_cases hg : goodRenew r = true
  · rw [if_pos hg]
    exact ⟨v_iNear (goodRenew_iff.1 hg), v_sNear (goodRenew_iff.1 hg)⟩
  · rw [if_neg hg]
    simp [m_impl_AreNear, m_spec_AreNear, v_iGoodRenew h1 h2, v_sGoodRenew h1 h2, hg]
theorem v_newL {n : Int} (h0 : -1 ≤ n) (h1 : n ≤ 4) : (∃ m : Nat, 1 ≤ m ∧ m ≤ 3 ∧ m_impl_NewRenew n = some (newR m, true) ∧ m_spec_NewRenew n = some (newR m, true)) ∨ (m_impl_NewRenew n = some (noR, false) ∧ m_spec_NewRenew n = some (noR, false)) := by
  by_cases h : 1 ≤ n ∧ n ≤ 3
  · obtain ⟨m, rfl⟩ := Int.eq_ofNat_of_zero_le (a := n) (by omega)
    exact .inl ⟨m, by omega, by omega, v_iNew m (by omega) (by omega), v_sNew m (by omega) (by omega)⟩
  · have : inB n 1 3 = false := by
      cases hb : inB n 1 3 with
      | false => rfl
      | true => exact absurd (inB_true.1 hb) h
    exact .inr ⟨by simp [m_impl_NewRenew, this, noR], by simp [m_spec_NewRenew, this, noR]⟩
theorem law_FnNear {code more : List Int} (hc : ∀ b ∈ code, 0 ≤ b ∧ b ≤ 255) (hm : ∀ b ∈ more, 0 ≤ b ∧ b ≤ 255) : m_laws_FnNear code more = some true := by
  unfold m_laws_FnNear
  refine iteC (fun _ => rfl) fun _ => ?_
  obtain ⟨⟨r, l⟩, hd, hs, hll⟩ := drawPlay_ok hc
  obtain ⟨n, hx, hn0, hn1⟩ := drawNew_ok hm
  have hs1 := hs.b1; have hs2 := hs.b2
  dsimp only at hs1 hs2 hll
  have hq : m_laws_qSameR (playL r l).1 (playL r l).1 = some true ∧ m_laws_qSameB (playL r l).2.1 (playL r l).2.1 = some true := by
    unfold playL
    split
    · rename_i hg
      have := (v_sPlay (goodRenew_iff.1 hg.1) hg.2).2
      exact ⟨v_same _ this.1.sh.b1 this.1.sh.b2, v_sameB _ (by have := this.2.1; dsimp only; omega)⟩
    · exact ⟨v_same _ noR_b1 noR_b2, v_sameB _ (by simp)⟩
  have hbad : ((nearL r).2 && ((!(soundN r).2) || ((soundN r).1 && (!(nearL r).1)))) = false := by
    unfold nearL soundN
    by_cases hg : goodRenew r = true
    · rw [if_pos hg, if_pos hg]
      cases hso : sound r with
      | false => simp
      | true => simp [near_sound (goodRenew_iff.1 hg) hso]
    · rw [if_neg hg]; rfl
  refine (bind_eq hd).trans ((bind_eq (v_playL hs1 hs2).1).trans ((bind_eq (v_playL hs1 hs2).2).trans ((bind_eq (v_nearL hs1 hs2).1).trans ((bind_eq (v_nearL hs1 hs2).2).trans (iteF (by simp) ((bind_eq hq.2).trans (iteT rfl ((bind_eq hq.1).trans (iteF (by simp) ((bind_eq (v_iSound hs1 hs2)).trans (iteF hbad ((bind_eq hx).trans ?_))))))))))))
  rcases v_newL hn0 hn1 with ⟨m, hm1, hm3, e1, e2⟩ | ⟨e1, e2⟩
  · have hgN := newR_good hm1 hm3
    refine (bind_eq e1).trans ((bind_eq e2).trans (iteF (by simp) ((bind_eq (v_same _ hgN.sh.b1 hgN.sh.b2)).trans (iteF (by simp) ?_))))
    cases hok : (playL r l).2.2 with
    | false => exact iteT (by simp [hok]) rfl
    | true =>
      have hl : l.length ≤ 40 := by
        unfold playL at hok
        split at hok
        · rename_i h; exact h.2
        · cases hok
      obtain ⟨hp, hI⟩ := v_sPlay hgN hl
      have hp2 := v_iPlay hgN hl
      have hso := hI.2.2 (newR_sound m)
      have g := hI.1
      refine iteF (by simp [hok]) ((bind_eq hp2).trans ((bind_eq (v_iSound g.sh.b1 g.sh.b2)).trans ((bind_eq (v_iNear g)).trans ?_)))
      simp [soundN, goodRenew_iff.2 g, hso, near_sound g hso]
  · exact (bind_eq e1).trans ((bind_eq e2).trans (iteF (by simp) ((bind_eq (v_same _ noR_b1 noR_b2)).trans (iteF (by simp) (iteT (by simp) rfl)))))
end Go.Proofs.Ytjneaalpiangdaa
end

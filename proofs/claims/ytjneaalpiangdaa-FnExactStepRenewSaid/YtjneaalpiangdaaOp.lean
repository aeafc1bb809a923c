/- How an argument that came in is opened: its cells read as plain data. -/
import Derived.Test.YtjneaalpiangdaaLib
import Derived.WalkKit
import Derived.ProofKit
import Derived.OpenShut
import Derived.ChangeOld
import Derived.Below
namespace Go.Proofs.Ytjneaalpiangdaa
open Go.ChangeShapes Go.WideShapes Go.ChangeAt Go.RowKit
/-- Whatever reads as a datum of this type reads as plain data. -/
def Opens {α : Type} (P : Program) (t : TypeId) (T : GT α) : Prop :=
  P.cellsOf t = T.size ∧ ∀ (H : Type) (enc : TypeId × Value → H) (w : World) (spare : Nat → Bool) (held : Bool) (fuel : Nat) (cs : List Value) (x : DataW H × List MemPlace),
    DataW.trod enc P w 0 spare held fuel t cs = some x → ∃ y fp, T.rd w cs y fp
theorem addr_add0 (a : Addr) : a.add 0 = a := by simp [Addr.add]
theorem addr_add (b o n : Nat) : Addr.add ⟨b, o, none⟩ n = ⟨b, o + n, none⟩ := by
  unfold Addr.add
  split
  · subst_vars; rfl
  · rfl
theorem opens_int {P : Program} {t : TypeId} (ht : P.underlying t = some (.int .i64)) (hc : P.cellsOf t = 1) : Opens P t gInt := by
  refine ⟨hc, fun H enc w spare held fuel cs x h => ?_⟩
  obtain ⟨n, rfl, _, hw⟩ := DataW.trod_int ht h
  simp only [Lit.wf, Bool.and_eq_true, decide_eq_true_eq] at hw
  exact ⟨n, [], rfl, rfl, hw⟩
theorem open_row {α : Type} {P : Program} {t e : TypeId} {T : GT α} (hs : 0 < T.size) (ht : P.underlying t = some (.slice e)) (he : Opens P e T) {H : Type} {enc : TypeId × Value → H} {w : World} {spare : Nat → Bool} {held : Bool} {fuel : Nat} {cs : List Value}
    {x : DataW H × List MemPlace} (h : DataW.trod enc P w 0 spare held fuel t cs = some x) : ∃ a n c xs fp, cs = [.slice a n c] ∧ n ≤ c ∧ c ≤ maxLen ∧ RdS T w a n xs fp := by
  rcases DataW.trod_slice ht h with ⟨rfl, _⟩ | ⟨a, len, cap, elems, rest, n, _, rfl, _, _, hl, hm, hlen, hel, _, _⟩
  · exact ⟨none, 0, 0, [], [], rfl, Nat.le_refl _, by decide, rfl, Or.inl ⟨rfl, rfl⟩⟩
  rcases Nat.eq_zero_or_pos len with h0 | h0
  · exact ⟨some a, len, cap, [], [], rfl, hl, hm, h0.symm, Or.inl ⟨rfl, rfl⟩⟩
  have hsp : a.spot = none := by
    have hi := hel 0 h0
    rw [List.getElem?_eq_getElem (by rw [hlen]; exact h0), Nat.zero_mul, addr_add0] at hi
    obtain ⟨c1, h1, h2⟩ := Option.bind_eq_some_iff.1 hi
    obtain ⟨_, hcl, hcell⟩ := World.cells?_some h1
    rw [he.1] at hcl hcell
    have h3 := hcell 0 hs
    rw [List.getElem?_eq_getElem (by rw [hcl]; exact hs), addr_add0] at h3
    exact World.cell?_spot h3
  obtain ⟨b, o, s⟩ := a
  dsimp only at hsp
  subst hsp
  have key : ∀ i : Fin len, ∃ p : α × List Nat, ∃ cs, T.rd w cs p.1 p.2 ∧ b < w.heap.size ∧ ∀ j v, cs[j]? = some v → w.cell? ⟨b, o + i * T.size + j, none⟩ = some v := by
    intro i
    have hi := hel i i.2
    rw [List.getElem?_eq_getElem (by rw [hlen]; exact i.2), addr_add] at hi
    obtain ⟨c1, h1, h2⟩ := Option.bind_eq_some_iff.1 hi
    obtain ⟨y, f, hr⟩ := he.2 _ _ _ _ _ _ _ _ h2
    have hb := World.cells?_block h1 (by rw [he.1]; exact hs)
    obtain ⟨_, hcl, hcell⟩ := World.cells?_some h1
    rw [he.1] at hcl hcell
    refine ⟨(y, f), c1, hr, hb, fun j v hj => ?_⟩
    have hjl : j < T.size := by
      rw [← hcl]
      rcases Nat.lt_or_ge j c1.length with h | h
      · exact h
      · rw [List.getElem?_eq_none h] at hj; cases hj
    have h3 := hcell j hjl
    rw [hj, addr_add] at h3
    exact h3
  obtain ⟨f, hf⟩ := Classical.axiomOfChoice key
  obtain ⟨c0, _, hb, _⟩ := hf ⟨0, h0⟩
  refine ⟨_, len, cap, List.ofFn fun i => (f i).1, b :: (List.ofFn fun i => (f i).2).flatten, rfl, hl, hm, by simp, Or.inr ⟨b, o, _, rfl, rfl, hb, by simp, ?_⟩⟩
  intro i x fp hx hfp
  have hi : i < len := by
    rcases Nat.lt_or_ge i len with h | h
    · exact h
    · rw [List.getElem?_eq_none (by simpa using h)] at hx; cases hx
  obtain ⟨cs, h1, _, h2⟩ := hf ⟨i, hi⟩
  rw [List.getElem?_eq_getElem (by simpa using hi)] at hx hfp
  simp only [List.getElem_ofFn, Option.some.injEq] at hx hfp
  subst hx hfp
  exact ⟨cs, h1, h2⟩
/-- A field that reads as a datum. -/
theorem open_field {α : Type} {P : Program} {t : TypeId} {T : GT α} (he : Opens P t T) {H : Type} {enc : TypeId × Value → H} {w : World} {spare : Nat → Bool} {held : Bool} {fuel : Nat} {cs : List Value} {xs : List (DataW H × List MemPlace)} {i : Nat}
    (h : DataW.trod enc P w 0 spare held fuel t cs = xs[i]?) (hi : i < xs.length) : ∃ y fp, T.rd w cs y fp := by
  rw [List.getElem?_eq_getElem hi] at h
  exact he.2 _ _ _ _ _ _ _ _ h
theorem open_row_field {α : Type} {P : Program} {t e : TypeId} {T : GT α} (hs : 0 < T.size) (ht : P.underlying t = some (.slice e)) (he : Opens P e T) {H : Type} {enc : TypeId × Value → H} {w : World} {spare : Nat → Bool} {held : Bool} {fuel : Nat} {cs : List Value}
    {xs : List (DataW H × List MemPlace)} {i : Nat} (h : DataW.trod enc P w 0 spare held fuel t cs = xs[i]?) (hi : i < xs.length) : ∃ a n c ys fp, cs = [.slice a n c] ∧ n ≤ c ∧ c ≤ maxLen ∧ RdS T w a n ys fp := by
  rw [List.getElem?_eq_getElem hi] at h
  exact open_row hs ht he h
end Go.Proofs.Ytjneaalpiangdaa

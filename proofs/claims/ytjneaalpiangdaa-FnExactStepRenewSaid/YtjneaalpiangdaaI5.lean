/- impl: StepRenew. -/
import Derived.Test.YtjneaalpiangdaaI4
namespace Go.Proofs.Ytjneaalpiangdaa
open Go.RowKit
theorem Own.raise {B B' : Nat} {w : World} {fp : List Nat} (h : Own B' w fp) (hB : ∀ q ∈ fp, B ≤ q) : Own B w fp := ⟨h.1, fun b hb => ⟨hB b hb, (h.2 b hb).2⟩⟩
theorem ResRenew.mod {B : Nat} {S : List Nat} {w w' : World} {v : Value} {y : DRenew} (h : ResRenew B w v y) (hm : Mod S w w') (hS : ∀ q ∈ S, q < B) : ResRenew B w' v y := by
  obtain ⟨b1, n1, d1, g1, b2, n2, d2, g2, e, k1, k2, r1, r2, o⟩ := h
  have hq : ∀ q ∈ g1 ++ g2, q ∉ S := fun q hq hs => by have := (o.2 q hq).1; have := hS q hs; omega
  exact ⟨b1, n1, d1, g1, b2, n2, d2, g2, e, k1, k2, r1.mod hm (fun q h => hq q (by simp [h])), r2.mod hm (fun q h => hq q (by simp [h])), o.mod hm hq⟩
theorem ResRenew.mono {B B' : Nat} {w : World} {v : Value} {y : DRenew} (h : ResRenew B w v y) (hB : B' ≤ B) : ResRenew B' w v y := by
  obtain ⟨b1, n1, d1, g1, b2, n2, d2, g2, e, k1, k2, r1, r2, o⟩ := h
  exact ⟨b1, n1, d1, g1, b2, n2, d2, g2, e, k1, k2, r1, r2, o.mono hB⟩
theorem resNo (B : Nat) (w : World) : ResRenew B w (.agg #[.int .i64 0, .int .i64 0, .slice none 0 0, .int .i64 0, .slice none 0 0]) noRenew :=
  ⟨none, 0, 0, [], none, 0, 0, [], rfl, Nat.le_refl _, Nat.le_refl _, ⟨rfl, Or.inl ⟨rfl, rfl⟩⟩, ⟨rfl, Or.inl ⟨rfl, rfl⟩⟩, Own.nil _ _⟩
set_option maxRecDepth 100000 in
set_option maxHeartbeats 1600000 in
theorem stepRenew_any (w0 : World) (x : DRenew) (a1 a2 : Option Addr) (n1 c1 n2 c2 : Nat) (f1 f2 : List Nat) (a : DRenewAct) (w : World) (hn1 : n1 ≤ 1048576) (hn2 : n2 ≤ 1048576) (hm0 : Mod [] w0 w)
    (h1 : RdS gClock w0 a1 n1 x.fClocks f1) (h2 : RdS gVLease w0 a2 n2 x.fLeases f2) :
    Calls Try.prog 8 #[.agg #[.int .i64 x.fNow, .int .i64 x.fMaster.fOff, .slice a1 n1 c1, .int .i64 x.fVer, .slice a2 n2 c2], .agg #[.int .i64 a.fKind, .int .i64 a.fWho, .int .i64 a.fBy]] w
      fun e w' => ∃ v, e = .returned (.tuple #[v, .bool (stepRenew x a).2.1, .bool (stepRenew x a).2.2]) ∧ ResRenew w.heap.size w' v (stepRenew x a).1 ∧ Mod [] w w' := by
  go_enter Try.func8, Try.ntmps8
  go_wp2_with fail
  refine (goodRenewAct_any w0 x _ _ _ _ _ _ _ _ a _ (by omega) (by omega) (((hm0.alloc _).alloc _).alloc _) h1 h2).mono ?_
  rintro e w1 ⟨rfl, hm1⟩
  have hM1 := Lib.hid (((((Mod.refl [] w).alloc _).alloc _).alloc _).trans hm1 (by simp))
  have hz1 : w.heap.size + 2 < w1.heap.size := by have := hm1.size; simp at this; omega
  have kB := hm1.blk (b := w.heap.size) (heap3_0 w _ _ _) (by simp)
  have kA := hm1.blk (b := w.heap.size + 1) (heap3_1 w _ _ _) (by simp)
  have kR := hm1.blk (b := w.heap.size + 2) (heap3_2 w _ _ _) (by simp)
  have cB := blk_cell kB; have cA := blk_cell kA; have cR := blk_cell kR; have fR := blk_free kR
  have KA := Lib.hid kA; have KR := Lib.hid kR
  clear hm1 kB kA kR
  cases e1 : (goodRenew x && isAct x.fClocks.length a) with
  | false =>
    go_wp2
    refine bodyPost_ret (v := .tuple #[.agg #[.int .i64 0, .int .i64 0, .slice none 0 0, .int .i64 0, .slice none 0 0], .bool false, .bool false]) (by simp [results, Try.results8, go_sem, *]) rfl ?_
    have key : ∀ W, Mod [w.heap.size + 2] w1 W → ∃ v, Ending.returned (.tuple #[.agg #[.int .i64 0, .int .i64 0, .slice none 0 0, .int .i64 0, .slice none 0 0], .bool false, .bool false]) = .returned (.tuple #[v, .bool (stepRenew x a).2.1, .bool (stepRenew x a).2.2]) ∧ ResRenew w.heap.size W v (stepRenew x a).1 ∧ Mod [] w W := fun W hW => by
      have es : stepRenew x a = (noRenew, false, false) := by unfold stepRenew; rw [e1]; rfl
      rw [es]
      exact ⟨_, rfl, resNo _ _, hM1.out.trans hW (fun q hq => Or.inr (by simp at hq; omega))⟩
    exact key _ (by repeat (first | with_reducible exact Mod.refl _ _ | with_reducible refine Mod.setCell ?_ (Or.inl (by simp)) _))
  | true =>
    have E1 := Lib.hid e1
    obtain ⟨hg, ha⟩ := Bool.and_eq_true_iff.1 e1
    have HG := Lib.hid hg; have HA := Lib.hid ha
    clear e1 hg ha
    go_wp2_with fail
    refine (copyRenew_any w0 x _ _ _ _ _ _ _ _ _ hn1 hn2 (hm0.trans hM1.out (by simp)) h1 h2).mono ?_
    rintro e w2 ⟨v, rfl, ⟨b1, m1, d1, g1, b2, m2, d2, g2, rfl, k1, k2, r1, r2, o⟩, hm2⟩
    have kA := hm2.blk KA.out (by simp)
    have kR := hm2.blk KR.out (by simp)
    have hz2 : w.heap.size + 2 < w2.heap.size := by have := hm2.size; omega
    have hz3 : w.heap.size + 1 < w2.heap.size := by omega
    have cA2 := blk_cell kA; have cR2 := blk_cell kR; have fR2 := blk_free kR
    have hM2 := Lib.hid (hM1.out.trans hm2 (by simp))
    have KR2 := Lib.hid kR
    have hS : Mod [] w2 (w2.alloc (.cells #[.int .i64 x.fNow, .int .i64 x.fMaster.fOff, .slice b1 m1 d1, .int .i64 x.fVer, .slice b2 m2 d2] 28)) := (Mod.refl [] w2).alloc _
    have hlt : ∀ q ∈ g1 ++ g2, q < w2.heap.size := o.lt
    have hge : ∀ q ∈ g1 ++ g2, w1.heap.size ≤ q := fun q hq => (o.2 q hq).1
    have r1' := r1.mod0 hS; have r2' := r2.mod0 hS; have o' := o.mod hS (by simp)
    have HK1 := Lib.hid r1.1
    clear hm2 kA kR cB cA cR fR r1 r2 o hS
    go_wp2_with fail
    refine (step_any x a w2.heap.size _ _ _ _ _ _ g1 g2 _ (heap1_0 w2 _) r1' r2' (o'.mono (by omega)) (fun h => by have := hlt _ h; omega) HG.out (by rw [← HK1.out]; exact HA.out)).mono ?_
    rintro e w3 ⟨rfl, hC, q1, q2, oo, hm3⟩
    have kR3 := hm3.blk (b := w.heap.size + 2) (((Mod.refl [] w2).alloc _).blk KR2.out (by simp)) (fun h => by
      rcases List.mem_cons.1 h with h | h
      · omega
      · have := hge _ h; omega)
    have cC := blk_cell hC; have cR3 := blk_cell kR3; have fR3 := blk_free kR3
    have hne : w.heap.size + 2 ≠ w2.heap.size := by omega
    have hM3 := Lib.hid ((hM2.out.alloc (.cells #[.int .i64 x.fNow, .int .i64 x.fMaster.fOff, .slice b1 m1 d1, .int .i64 x.fVer, .slice b2 m2 d2] 28)).trans hm3 (fun q hq => Or.inr (by
      rcases List.mem_cons.1 hq with h | h
      · omega
      · have := hge _ h; omega)))
    have Q1 := Lib.hid q1; have Q2 := Lib.hid q2; have OO := Lib.hid oo
    have hgt : ∀ q ∈ g1 ++ g2, w.heap.size + 2 < q := fun q hq => by have := hge q hq; omega
    have OB := Lib.hid (Own.raise (B := w.heap.size) oo (fun q hq => by have := hgt q hq; omega))
    clear hC kR3 q1 q2 oo hm3 r1' r2' o' cA2 cR2 fR2
    go_wp2
    refine bodyPost_ret (v := .tuple #[.agg #[.int .i64 (doRenew x a).1.fNow, .int .i64 (doRenew x a).1.fMaster.fOff, .slice b1 m1 d1, .int .i64 (doRenew x a).1.fVer, .slice b2 m2 d2], .bool (doRenew x a).2, .bool true]) (by simp [results, Try.results8, go_sem, *]) rfl ?_
    have key : ∀ W, Mod [w.heap.size + 2] w3 W → ∃ v, Ending.returned (.tuple #[.agg #[.int .i64 (doRenew x a).1.fNow, .int .i64 (doRenew x a).1.fMaster.fOff, .slice b1 m1 d1, .int .i64 (doRenew x a).1.fVer, .slice b2 m2 d2], .bool (doRenew x a).2, .bool true]) = .returned (.tuple #[v, .bool (stepRenew x a).2.1, .bool (stepRenew x a).2.2]) ∧ ResRenew w.heap.size W v (stepRenew x a).1 ∧ Mod [] w W := fun W hW => by
      have es : stepRenew x a = ((doRenew x a).1, (doRenew x a).2, true) := by unfold stepRenew; rw [if_pos E1.out]
      rw [es]
      have hq : ∀ q ∈ g1 ++ g2, q ∉ [w.heap.size + 2] := fun q hq h => by have := hgt q hq; simp at h; omega
      exact ⟨_, rfl, ⟨b1, m1, d1, g1, b2, m2, d2, g2, rfl, k1, k2, Q1.out.mod hW (fun q h => hq q (by simp [h])), Q2.out.mod hW (fun q h => hq q (by simp [h])), OB.out.mod hW hq⟩, hM3.out.trans hW (fun q hq => Or.inr (by simp at hq; omega))⟩
    exact key _ (by repeat (first | with_reducible exact Mod.refl _ _ | with_reducible refine Mod.setCell ?_ (Or.inl (by simp)) _))
end Go.Proofs.Ytjneaalpiangdaa

/- spec: l28Good, GoodRenewAct, l28Own. -/
import Derived.Test.YtjneaalpiangdaaS1
import Derived.Test.YtjneaalpiangdaaI5
import Derived.Test.YtjneaalpiangdaaLib2
namespace Go.Proofs.Ytjneaalpiangdaa
open Go.RowKit
set_option maxRecDepth 100000 in
set_option maxHeartbeats 400000 in
theorem l28Good_any (x0 x1 x3 : Int) (a1 a2 : Option Addr) (n1 c1 n2 c2 : Nat) (a : DRenewAct) (w : World) (hn1 : n1 ≤ 140737488351232) :
    Calls Try.prog 82 #[.agg #[.int .i64 x0, .int .i64 x1, .slice a1 n1 c1, .int .i64 x3, .slice a2 n2 c2], .agg #[.int .i64 a.fKind, .int .i64 a.fWho, .int .i64 a.fBy]] w fun e w' => e = .returned (.bool (isAct n1 a)) ∧ Mod [] w w' := by
  obtain ⟨k, wh, b⟩ := a
  by_cases h1 : k = 1
  · subst h1
    by_cases hw : wh = 0
    · subst hw
      go_enter Try.func82, Try.ntmps82
      go_wp2_with (go_at_call 55; refine (l1In_any _ _ _ _).mono ?_; rintro e w' ⟨rfl, rfl⟩)
      go_ret
      exact ⟨by simp [isAct], ((Mod.refl _ _).alloc _).alloc _⟩
    · have t : (wh == 0) = false := by simp [hw]
      go_enter Try.func82, Try.ntmps82
      go_wp2
      go_ret
      exact ⟨by simp [isAct, hw], ((Mod.refl _ _).alloc _).alloc _⟩
  have t1 : (k == 1) = false := by simp [h1]
  by_cases h2 : k = 2
  · subst h2
    cases e1 : within wh 0 n1 with
    | true =>
      go_enter Try.func82, Try.ntmps82
      go_wp2_with fail
      refine (l1In_any _ _ _ _).mono ?_
      rintro e w' ⟨rfl, rfl⟩
      rw [e1]
      go_wp2_with fail
      refine (sGoodClock_any _ _).mono ?_
      rintro e w1 ⟨rfl, hm⟩
      go_wp2
      go_ret
      exact ⟨by simp [isAct, e1], (((Mod.refl _ _).alloc _).alloc _).trans hm (by simp)⟩
    | false =>
      go_enter Try.func82, Try.ntmps82
      go_wp2_with fail
      refine (l1In_any _ _ _ _).mono ?_
      rintro e w' ⟨rfl, rfl⟩
      rw [e1]
      go_wp2
      go_ret
      exact ⟨by simp [isAct, e1], ((Mod.refl _ _).alloc _).alloc _⟩
  have t2 : (k == 2) = false := by simp [h2]
  by_cases h3 : k = 3
  · subst h3
    cases e1 : within wh 0 (n1 - 1) with
    | true =>
      go_enter Try.func82, Try.ntmps82
      go_wp2_with fail
      refine (l1In_any _ _ _ _).mono ?_
      rintro e w' ⟨rfl, rfl⟩
      rw [e1]
      go_wp2
      go_ret
      exact ⟨by simp [isAct, e1], ((Mod.refl _ _).alloc _).alloc _⟩
    | false =>
      go_enter Try.func82, Try.ntmps82
      go_wp2_with fail
      refine (l1In_any _ _ _ _).mono ?_
      rintro e w' ⟨rfl, rfl⟩
      rw [e1]
      go_wp2
      go_ret
      exact ⟨by simp [isAct, e1], ((Mod.refl _ _).alloc _).alloc _⟩
  have t3 : (k == 3) = false := by simp [h3]
  by_cases h4 : k = 4
  · subst h4
    by_cases hw : wh = 0
    · subst hw
      go_enter Try.func82, Try.ntmps82
      go_wp2
      go_ret
      exact ⟨by simp [isAct], ((Mod.refl _ _).alloc _).alloc _⟩
    · have t : (wh == 0) = false := by simp [hw]
      go_enter Try.func82, Try.ntmps82
      go_wp2
      go_ret
      exact ⟨by simp [isAct, hw], ((Mod.refl _ _).alloc _).alloc _⟩
  have t4 : (k == 4) = false := by simp [h4]
  go_enter Try.func82, Try.ntmps82
  go_wp2
  go_ret
  exact ⟨by simp [isAct, h1, h2, h3, h4], ((Mod.refl _ _).alloc _).alloc _⟩
set_option maxRecDepth 100000 in
set_option maxHeartbeats 400000 in
theorem sGoodRenewAct_any (w0 : World) (x : DRenew) (a1 a2 : Option Addr) (n1 c1 n2 c2 : Nat) (f1 f2 : List Nat) (a : DRenewAct) (w : World) (hn1 : n1 ≤ 140737488351232) (hn2 : n2 ≤ 140737488351232) (hm0 : Mod [] w0 w)
    (h1 : RdS gClock w0 a1 n1 x.fClocks f1) (h2 : RdS gVLease w0 a2 n2 x.fLeases f2) :
    Calls Try.prog 48 #[.agg #[.int .i64 x.fNow, .int .i64 x.fMaster.fOff, .slice a1 n1 c1, .int .i64 x.fVer, .slice a2 n2 c2], .agg #[.int .i64 a.fKind, .int .i64 a.fWho, .int .i64 a.fBy]] w fun e w' => e = .returned (.bool (goodRenew x && isAct x.fClocks.length a)) ∧ Mod [] w w' := by
  have hl1 := Lib.hid h1.1
  go_enter Try.func48, Try.ntmps48
  go_wp2_with fail
  refine (sGoodRenew_any w0 x _ _ _ _ _ _ _ _ _ hn1 hn2 ((hm0.alloc _).alloc _) h1 h2).mono ?_
  rintro e w1 ⟨rfl, hm1⟩
  have hM1 := Lib.hid ((((Mod.refl [] w).alloc _).alloc _).trans hm1 (by simp))
  have hA := blk_cell (hm1.blk (b := w.heap.size) (heap2_0 w _ _) (by simp))
  have hB := blk_cell (hm1.blk (b := w.heap.size + 1) (heap2_1 w _ _) (by simp))
  clear hm1
  cases e1 : goodRenew x with
  | false =>
    go_wp2
    go_ret
    exact ⟨by rw [e1]; rfl, hM1.out⟩
  | true =>
    go_wp2_with fail
    refine (l28Good_any _ _ _ _ _ _ _ _ _ a _ hn1).mono ?_
    rintro e w2 ⟨rfl, hm2⟩
    go_wp2
    go_ret
    exact ⟨by rw [hl1.out, e1]; rfl, hM1.out.trans hm2 (by simp)⟩

set_option maxRecDepth 100000 in
set_option maxHeartbeats 800000 in
theorem l28Own_any (w0 : World) (x : DRenew) (a1 a2 : Option Addr) (n1 c1 n2 c2 : Nat) (f1 f2 : List Nat) (w : World) (hn1 : n1 ≤ 1048576) (hn2 : n2 ≤ 1048576) (hm0 : Mod [] w0 w)
    (h1 : RdS gClock w0 a1 n1 x.fClocks f1) (h2 : RdS gVLease w0 a2 n2 x.fLeases f2) :
    Calls Try.prog 50 #[.agg #[.int .i64 x.fNow, .int .i64 x.fMaster.fOff, .slice a1 n1 c1, .int .i64 x.fVer, .slice a2 n2 c2]] w fun e w' => ∃ v, e = .returned v ∧ ResRenew w.heap.size w' v x ∧ Mod [] w w' := by
  obtain ⟨i0, hi, hz0, hz1, hz2⟩ := info_parts info_Clock
  obtain ⟨j0, ji, jz0, jz1, jz2⟩ := info_parts info_VLease
  obtain ⟨L1, p1, hL1, hS1, _⟩ := h1.src (by decide)
  obtain ⟨L2, p2, hL2, hS2, _⟩ := h2.src (by decide)
  have HL1 := Lib.hid hL1; have HL2 := Lib.hid hL2
  have HS1 := Lib.hid (hS1.mod hm0); have HS2 := Lib.hid (hS2.mod hm0)
  clear hL1 hL2 hS1 hS2
  have hl1 := Lib.hid h1.1
  have hl2 := Lib.hid h2.1
  go_enter Try.func50, Try.ntmps50
  go_wp2_with (at_builtin; refine wpList_append_src _ rfl _ _ 25 rfl (w.heap.size + 2) 24 i0 _ 1 8 und_ClockS hi hz0 hz1 hz2 rfl (by decide) _ 0 [] rfl (made_at _ (w.heap.size + 1 + 1) _ _ _ ?q0 ?q5) a1 n1 c1 L1.flatten rfl ?q1 ?q2 ?q3 ?q4 ?_)
  case q0 => simp
  case q5 => exact Nat.le_refl _
  case q1 => exact HS1.out.mod ((((Mod.refl [] w).alloc _).alloc _).alloc _)
  case q2 => unfold maxLen; omega
  case q3 => omega
  case q4 => simp
  intro v1 w1 ho1 hg1
  have hm3 : Mod [w.heap.size + 2] _ w1 := (Mod.refl _ _).grown hg1 (by intro k hk; simp [Value.ownBlock] at hk; subst hk; simp)
  have hM1 := Lib.hid (((((Mod.refl [] w).alloc _).alloc _).alloc _).trans hm3 (by simp))
  have kB := hm3.blk (b := w.heap.size) (heap3_0 w _ _ _) (by simp)
  have kR := hm3.blk (b := w.heap.size + 1) (heap3_1 w _ _ _) (by simp)
  have hz1 : w.heap.size + 2 < w1.heap.size := by have := hm3.size; simp at this; omega
  have hz0 : w.heap.size < w1.heap.size := by omega
  have hz2 : w.heap.size + 1 < w1.heap.size := by omega
  obtain ⟨b1, d1, g1, rfl, k1, r1, o1, _⟩ := own_flat (by decide) gClock_flat HL1.out (by simpa [hl1.out, show gClock.size = 1 from rfl] using ho1)
  rw [hl1.out] at k1 r1 ⊢
  have cB := blk_cell kB; have fB := blk_free kB; have cR := blk_cell kR; have fR := blk_free kR
  have KB := Lib.hid kB; have KR := Lib.hid kR
  clear kB kR hm3 hg1 ho1
  have hms : Mod [w.heap.size] w1 (w1.setCell ⟨w.heap.size, 2, none⟩ (.slice b1 n1 d1)) := (Mod.refl _ _).setCell (by simp) _
  go_wp2_with (at_builtin; refine wpList_append_src _ rfl _ _ 26 rfl w1.heap.size 49 j0 _ 2 16 und_VLeaseS ji jz0 jz1 jz2 rfl (by decide) _ 0 [] rfl (made_at _ w1.heap.size _ _ _ ?q0 ?q5) a2 n2 c2 L2.flatten rfl ?q1 ?q2 ?q3 ?q4 ?_)
  case q0 => simp
  case q5 => exact Nat.le_refl _
  case q1 => exact HS2.out.mod ((hM1.out.setCell (Or.inr (by dsimp only; omega)) _).alloc _)
  case q2 => unfold maxLen; omega
  case q3 => omega
  case q4 => simp
  intro v2 w2 ho2 hg2
  have hm4 : Mod [w1.heap.size] _ w2 := (Mod.refl _ _).grown hg2 (by intro k hk; simp [Value.ownBlock] at hk; subst hk; simp)
  have hm5 : Mod [w.heap.size] w1 w2 := (hms.alloc _).trans hm4 (by simp)
  have kB := hm4.blk (b := w.heap.size) (((Mod.refl [] _).alloc _).blk (heap_setCell_same _ _ _ _ _ _ KB.out) (by simp)) (by simp; omega)
  have kR := hm5.blk KR.out (by simp)
  have hM2 := Lib.hid (hM1.out.trans hm5 (by simp))
  obtain ⟨b2, d2, g2, rfl, k2, r2, o2, _⟩ := own_flat (by decide) gVLease_flat HL2.out (by simpa [hl2.out, show gVLease.size = 2 from rfl] using ho2)
  rw [hl2.out] at k2 r2 ⊢
  have hge1 : ∀ q ∈ g1, w.heap.size + 2 ≤ q := fun q hq => (o1.2 q hq).1
  have hlt1 := o1.lt
  have hge2 : ∀ q ∈ g2, w1.heap.size ≤ q := fun q hq => (o2.2 q hq).1
  have R1 := Lib.hid (r1.mod hm5 (fun q hq => by have := hge1 q hq; simp; omega))
  have R2 := Lib.hid r2
  have OO := Lib.hid (((o1.mono (B' := w.heap.size) (by omega)).mod hm5 (fun q hq => by have := hge1 q hq; simp; omega)).app (o2.mono (by omega)) (fun q hq hq2 => by have := hlt1 q hq; have := hge2 q hq2; omega))
  have cB2 := blk_cell kB; have fB2 := blk_free kB; have cR2 := blk_cell kR; have fR2 := blk_free kR
  clear kB kR hm4 hm5 hms hg2 ho2 cB fB cR fR r1 r2 o1 o2
  go_wp2
  refine bodyPost_ret (v := .agg #[.int .i64 x.fNow, .int .i64 x.fMaster.fOff, .slice b1 n1 d1, .int .i64 x.fVer, .slice b2 n2 d2]) (by simp [results, Try.results50, go_sem, *]) rfl ?_
  have key : ∀ W, Mod [w.heap.size, w.heap.size + 1] w2 W → ∃ v, Ending.returned (.agg #[.int .i64 x.fNow, .int .i64 x.fMaster.fOff, .slice b1 n1 d1, .int .i64 x.fVer, .slice b2 n2 d2]) = .returned v ∧ ResRenew w.heap.size W v x ∧ Mod [] w W := fun W hW => by
    have hq : ∀ q ∈ g1 ++ g2, q ∉ [w.heap.size, w.heap.size + 1] := fun q hq => by
      rcases List.mem_append.1 hq with h | h
      · have := hge1 q h; simp; omega
      · have := hge2 q h; simp; omega
    exact ⟨_, rfl, ⟨b1, n1, d1, g1, b2, n2, d2, g2, rfl, k1, k2, R1.out.mod hW (fun q h => hq q (by simp [h])), R2.out.mod hW (fun q h => hq q (by simp [h])), OO.out.mod hW hq⟩, hM2.out.trans hW (fun q hq => Or.inr (by simp at hq; omega))⟩
  exact key _ (by repeat (first | with_reducible exact Mod.refl _ _ | with_reducible refine Mod.setCell ?_ (Or.inl (by simp)) _))
end Go.Proofs.Ytjneaalpiangdaa

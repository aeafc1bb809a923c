/- impl: isRenewAct, GoodRenewAct, span. -/
import Derived.Test.YtjneaalpiangdaaI2
import Derived.Test.YtjneaalpiangdaaARenewAct
namespace Go.Proofs.Ytjneaalpiangdaa
open Go.RowKit
set_option maxRecDepth 100000 in
set_option maxHeartbeats 400000 in
theorem isRenewAct_any (x0 x1 x3 : Int) (a1 a2 : Option Addr) (n1 c1 n2 c2 : Nat) (a : DRenewAct) (w : World) (hn1 : n1 ≤ 140737488351232) :
    Calls Try.prog 63 #[.agg #[.int .i64 x0, .int .i64 x1, .slice a1 n1 c1, .int .i64 x3, .slice a2 n2 c2], .agg #[.int .i64 a.fKind, .int .i64 a.fWho, .int .i64 a.fBy]] w fun e w' => e = .returned (.bool (isAct n1 a)) ∧ Mod [] w w' := by
  obtain ⟨k, wh, b⟩ := a
  by_cases h1 : k = 1
  · subst h1
    by_cases hw : wh = 0
    · subst hw
      go_enter Try.func63, Try.ntmps63
      go_wp2_with (go_at_call 53; refine (within_any _ _ _ _).mono ?_; rintro e w' ⟨rfl, rfl⟩)
      go_ret
      exact ⟨by simp [isAct], ((Mod.refl _ _).alloc _).alloc _⟩
    · have t : (wh == 0) = false := by simp [hw]
      go_enter Try.func63, Try.ntmps63
      go_wp2
      go_ret
      exact ⟨by simp [isAct, hw], ((Mod.refl _ _).alloc _).alloc _⟩
  have t1 : (k == 1) = false := by simp [h1]
  by_cases h2 : k = 2
  · subst h2
    cases e1 : within wh 0 n1 with
    | true =>
      go_enter Try.func63, Try.ntmps63
      go_wp2_with fail
      refine (within_any _ _ _ _).mono ?_
      rintro e w' ⟨rfl, rfl⟩
      rw [e1]
      go_wp2_with fail
      refine (goodClock_any _ _).mono ?_
      rintro e w1 ⟨rfl, hm⟩
      go_wp2
      go_ret
      exact ⟨by simp [isAct, e1], (((Mod.refl _ _).alloc _).alloc _).trans hm (by simp)⟩
    | false =>
      go_enter Try.func63, Try.ntmps63
      go_wp2_with fail
      refine (within_any _ _ _ _).mono ?_
      rintro e w' ⟨rfl, rfl⟩
      rw [e1]
      go_wp2
      go_ret
      exact ⟨by simp [isAct, e1], ((Mod.refl _ _).alloc _).alloc _⟩
  have t2 : (k == 2) = false := by simp [h2]
  by_cases h3 : k = 3
  · subst h3
    cases e1 : within wh 0 (n1 - 1) with
    | true =>
      go_enter Try.func63, Try.ntmps63
      go_wp2_with fail
      refine (within_any _ _ _ _).mono ?_
      rintro e w' ⟨rfl, rfl⟩
      rw [e1]
      go_wp2
      go_ret
      exact ⟨by simp [isAct, e1], ((Mod.refl _ _).alloc _).alloc _⟩
    | false =>
      go_enter Try.func63, Try.ntmps63
      go_wp2_with fail
      refine (within_any _ _ _ _).mono ?_
      rintro e w' ⟨rfl, rfl⟩
      rw [e1]
      go_wp2
      go_ret
      exact ⟨by simp [isAct, e1], ((Mod.refl _ _).alloc _).alloc _⟩
  have t3 : (k == 3) = false := by simp [h3]
  by_cases h4 : k = 4
  · subst h4
    by_cases hw : wh = 0
    · subst hw
      go_enter Try.func63, Try.ntmps63
      go_wp2
      go_ret
      exact ⟨by simp [isAct], ((Mod.refl _ _).alloc _).alloc _⟩
    · have t : (wh == 0) = false := by simp [hw]
      go_enter Try.func63, Try.ntmps63
      go_wp2
      go_ret
      exact ⟨by simp [isAct, hw], ((Mod.refl _ _).alloc _).alloc _⟩
  have t4 : (k == 4) = false := by simp [h4]
  go_enter Try.func63, Try.ntmps63
  go_wp2
  go_ret
  exact ⟨by simp [isAct, h1, h2, h3, h4], ((Mod.refl _ _).alloc _).alloc _⟩
set_option maxRecDepth 100000 in
set_option maxHeartbeats 400000 in
theorem goodRenewAct_any (w0 : World) (x : DRenew) (a1 a2 : Option Addr) (n1 c1 n2 c2 : Nat) (f1 f2 : List Nat) (a : DRenewAct) (w : World) (hn1 : n1 ≤ 140737488351232) (hn2 : n2 ≤ 140737488351232) (hm0 : Mod [] w0 w)
    (h1 : RdS gClock w0 a1 n1 x.fClocks f1) (h2 : RdS gVLease w0 a2 n2 x.fLeases f2) :
    Calls Try.prog 18 #[.agg #[.int .i64 x.fNow, .int .i64 x.fMaster.fOff, .slice a1 n1 c1, .int .i64 x.fVer, .slice a2 n2 c2], .agg #[.int .i64 a.fKind, .int .i64 a.fWho, .int .i64 a.fBy]] w fun e w' => e = .returned (.bool (goodRenew x && isAct x.fClocks.length a)) ∧ Mod [] w w' := by
  have hl1 := Lib.hid h1.1
  go_enter Try.func18, Try.ntmps18
  go_wp2_with fail
  refine (goodRenew_any w0 x _ _ _ _ _ _ _ _ _ hn1 hn2 ((hm0.alloc _).alloc _) h1 h2).mono ?_
  rintro e w1 ⟨rfl, hm1⟩
  have hM1 := Lib.hid ((((Mod.refl [] w).alloc _).alloc _).trans hm1 (by simp))
  have hA := blk_cell (hm1.blk (b := w.heap.size) (heap2_0 w _ _) (by simp))
  have hB := blk_cell (hm1.blk (b := w.heap.size + 1) (heap2_1 w _ _) (by simp))
  clear hm1
  cases e1 : goodRenew x with
  | false =>
    go_wp2
    go_ret
    exact ⟨by rw [e1]; rfl, hM1.out⟩
  | true =>
    go_wp2_with fail
    refine (isRenewAct_any _ _ _ _ _ _ _ _ _ a _ hn1).mono ?_
    rintro e w2 ⟨rfl, hm2⟩
    go_wp2
    go_ret
    exact ⟨by rw [hl1.out, e1]; rfl, hM1.out.trans hm2 (by simp)⟩
set_option maxHeartbeats 400000 in
theorem span_any (o n : Int) (w : World) (ho : -1000000 ≤ o ∧ o ≤ 1000000) (hn : -1000000 ≤ n ∧ n ≤ 1000000) : Calls Try.prog 89 #[.agg #[.int .i64 o], .int .i64 n] w fun e w' => e = .returned (.agg #[.int .i64 (n + o - 5), .int .i64 (n + o + 5)]) ∧ Mod [] w w' := by
  obtain ⟨ho1, ho2⟩ := ho
  obtain ⟨hn1, hn2⟩ := hn
  go_enter Try.func89, Try.ntmps89
  go_wp2
  exact bodyPost_ret (v := .agg #[.int .i64 (n + o - 5), .int .i64 (n + o + 5)]) (by simp [results, Try.results89, go_sem]) rfl ⟨rfl, ((Mod.refl _ _).alloc _).alloc _⟩
end Go.Proofs.Ytjneaalpiangdaa

/- spec: l1In, GoodClock, l28Clocks, GoodRenew, l28Good, GoodRenewAct, l28Low. -/
import Derived.Test.YtjneaalpiangdaaP1
import Derived.Test.YtjneaalpiangdaaAClock
import Derived.Test.YtjneaalpiangdaaAVLease
import Derived.Test.YtjneaalpiangdaaARenewAct
import Derived.Deep.RegionHeld3
namespace Go.Proofs.Ytjneaalpiangdaa
open Go.RowKit
set_option maxHeartbeats 400000 in
theorem l1In_any (a b c : Int) (w : World) : Calls Try.prog 55 #[.int .i64 a, .int .i64 b, .int .i64 c] w fun e w' => e = .returned (.bool (within a b c)) ∧ w = w' := by
  by_cases h1 : b ≤ a
  · go_enter Try.func55, Try.ntmps55
    go_wp2
    go_ret
    exact ⟨by simp [within, h1], rfl⟩
  · have h2 : a < b := by omega
    go_enter Try.func55, Try.ntmps55
    go_wp2
    go_ret
    exact ⟨by simp [within]; omega, rfl⟩
set_option maxHeartbeats 400000 in
theorem l2Clock_any (x : Int) (w : World) : Calls Try.prog 64 #[.agg #[.int .i64 x]] w fun e w' => e = .returned (.bool (goodClock ⟨x⟩)) ∧ Mod [] w w' := by
  go_enter Try.func64, Try.ntmps64
  go_wp2_with (go_at_call 55; refine (l1In_any _ _ _ _).mono ?_; rintro e w' ⟨rfl, rfl⟩)
  go_ret
  exact ⟨rfl, (Mod.refl _ _).alloc _⟩
set_option maxHeartbeats 400000 in
theorem sGoodClock_any (x : Int) (w : World) : Calls Try.prog 61 #[.agg #[.int .i64 x]] w fun e w' => e = .returned (.bool (goodClock ⟨x⟩)) ∧ Mod [] w w' := by
  go_enter Try.func61, Try.ntmps61
  go_wp2_with (go_at_call 64; refine (l2Clock_any _ _).mono ?_; rintro e w' ⟨rfl, hm⟩)
  go_ret
  exact ⟨rfl, ((Mod.refl _ _).alloc _).trans hm (by simp)⟩
set_option maxRecDepth 100000 in
set_option maxHeartbeats 400000 in
theorem l28Clocks_any (w0 : World) (a : Option Addr) (n c : Nat) (xs : List DClock) (fp : List Nat) (w : World) (hn : n ≤ 140737488351232) (hm0 : Mod [] w0 w) (h : RdS gClock w0 a n xs fp) :
    Calls Try.prog 62 #[.slice a n c] w fun e w' => e = .returned (.bool (!(xs.any fun c => !goodClock c) && within n 1 3)) ∧ Mod [] w w' := by
  have hl := Lib.hid h.1
  have HH := Lib.hid h
  clear h
  go_enter Try.func62, Try.ntmps62
  go_wp2
  go_loopw [7] (fun s7 wr => ∃ k : Nat, k ≤ n ∧ s7 = .int .i64 k ∧ Mod [] w wr ∧ Hid ((xs.take k).any (fun c => !goodClock c) = false)) (fun s7 _ => n - (intOf s7).toNat)
  case atStart => exact ⟨0, by omega, rfl, Mod.refl _ _, by simp [Hid]⟩
  case round =>
    obtain ⟨k, hk, rfl, hm, A⟩ := hrel
    by_cases hlt : k < n
    · obtain ⟨x, hx⟩ := HH.out.some_of_lt hlt
      have hM := hm0.trans hm (by simp)
      obtain ⟨b, o, cs, f, rfl, hb1, hbf, hrd, hfin, hc⟩ := HH.out.at hx
      obtain ⟨rfl, _⟩ := gClock_open hrd
      simp only [show gClock.size = 1 from rfl, Nat.mul_one] at hc
      have c0 : wr.cell? ⟨b, o + k, none⟩ = _ := (hM.cell hb1 (by simp)).trans (hc 0 _ rfl)
      have HX := Lib.hid hx
      have HM := Lib.hid hm
      clear hrd hc hx hM hm
      go_wp2_with fail
      refine (sGoodClock_any _ _).mono ?_
      rintro e w1 ⟨rfl, hm1⟩
      have hM1 := Lib.hid ((HM.out.alloc _).trans hm1 (by simp))
      clear hm1
      cases hq : goodClock ⟨x.fOff⟩ with
      | false =>
        have ha : xs.any (fun c => !goodClock c) = true := List.any_eq_true.2 ⟨x, List.mem_of_getElem? HX.out, by rw [show goodClock x = false from hq]; rfl⟩
        have HA := Lib.hid ha
        clear ha hq
        go_wp2
        go_ret
        exact ⟨by rw [HA.out]; rfl, hM1.out⟩
      | true =>
        have HQ := Lib.hid hq
        clear hq
        go_wp2
        go_roundw
        case rel => exact ⟨k + 1, by omega, by go_num, hM1.out, show _ = false by rw [any_take_succ _ HX.out, A.out, show goodClock x = true from HQ.out]; rfl⟩
        case measure => simp [intOf]; omega
    · obtain rfl : k = n := by omega
      have hA := A.out
      rw [List.take_of_length_le (by rw [hl.out]; exact Nat.le_refl _)] at hA
      have HA := Lib.hid hA
      clear hA
      go_wp2_with (go_at_call 55; refine (l1In_any _ _ _ _).mono ?_; rintro e w' ⟨rfl, rfl⟩)
      go_ret
      exact ⟨by rw [HA.out]; rfl, hm⟩
set_option maxRecDepth 100000 in
set_option maxHeartbeats 800000 in
theorem sGoodRenew_any (w0 : World) (x : DRenew) (a1 a2 : Option Addr) (n1 c1 n2 c2 : Nat) (f1 f2 : List Nat) (w : World) (hn1 : n1 ≤ 140737488351232) (hn2 : n2 ≤ 140737488351232) (hm0 : Mod [] w0 w)
    (h1 : RdS gClock w0 a1 n1 x.fClocks f1) (h2 : RdS gVLease w0 a2 n2 x.fLeases f2) :
    Calls Try.prog 17 #[.agg #[.int .i64 x.fNow, .int .i64 x.fMaster.fOff, .slice a1 n1 c1, .int .i64 x.fVer, .slice a2 n2 c2]] w fun e w' => e = .returned (.bool (goodRenew x)) ∧ Mod [] w w' := by
  have hl1 := Lib.hid h1.1
  have hl2 := Lib.hid h2.1
  go_enter Try.func17, Try.ntmps17
  go_wp2_with fail
  refine (l1In_any _ _ _ _).mono ?_
  rintro e w' ⟨rfl, rfl⟩
  cases e1 : within x.fNow 0 1000 with
  | false =>
    go_wp2
    go_ret
    exact ⟨by simp [goodRenew, e1], (Mod.refl _ _).alloc _⟩
  | true =>
  have E1 := Lib.hid e1
  clear e1
  go_wp2_with fail
  refine (sGoodClock_any _ _).mono ?_
  rintro e w1 ⟨rfl, hm1⟩
  have hM1 := Lib.hid (((Mod.refl [] w).alloc _).trans hm1 (by simp))
  have kB := hm1.blk (heap1_0 w _) (by simp)
  have cB := blk_cell kB
  have KB := Lib.hid kB
  clear hm1 kB
  cases e2 : goodClock ⟨x.fMaster.fOff⟩ with
  | false =>
    go_wp2
    go_ret
    exact ⟨by simp [goodRenew, E1.out, show goodClock x.fMaster = false from e2], hM1.out⟩
  | true =>
  have E2 : Hid (goodClock x.fMaster = true) := e2
  clear e2
  go_wp2_with fail
  refine (l28Clocks_any w0 _ _ _ _ _ _ hn1 (hm0.trans hM1.out (by simp)) h1).mono ?_
  rintro e w2 ⟨rfl, hm2⟩
  have hM2 := Lib.hid (hM1.out.trans hm2 (by simp))
  have kB := hm2.blk KB.out (by simp)
  have cB2 := blk_cell kB
  have KB2 := Lib.hid kB
  clear hm2 kB cB
  cases e3 : (!(x.fClocks.any fun c => !goodClock c) && within n1 1 3) with
  | false =>
    go_wp2
    go_ret
    refine ⟨?_, hM2.out⟩
    have : goodRenew x = false := by
      unfold goodRenew; rw [hl1.out]
      revert e3; cases (x.fClocks.any fun c => !goodClock c) <;> cases within (n1 : Int) 1 3 <;> simp
    rw [this]; rfl
  | true =>
  have E3 : Hid (x.fClocks.any (fun c => !goodClock c) = false ∧ within n1 1 3 = true) := by simpa [Hid] using e3
  clear e3
  go_wp2_with fail
  refine (l1In_any _ _ _ _).mono ?_
  rintro e w' ⟨rfl, rfl⟩
  cases e4 : within x.fVer 0 20 with
  | false =>
    go_wp2
    go_ret
    exact ⟨by simp [goodRenew, e4], hM2.out⟩
  | true =>
  have E4 := Lib.hid e4
  clear e4
  by_cases e5 : n2 = n1
  case neg =>
    have t5 : ((n2 : Int) != (n1 : Int)) = true := by simp; omega
    go_wp2
    go_ret
    exact ⟨by simp only [goodRenew, hl1.out, hl2.out]; rw [show ((n2 : Int) == (n1 : Int)) = false by simp; omega]; simp, hM2.out⟩
  obtain rfl := e5
  have E0 : Hid (goodRenew x = !(x.fLeases.any (badLease x.fVer))) := by
    show _ = _
    simp only [goodRenew, E1.out, E2.out, hl1.out, hl2.out, E3.out.1, E3.out.2, E4.out]; simp
  have t5 : ((n2 : Int) != (n2 : Int)) = false := by simp
  go_wp2
  go_loopw [39] (fun s wr => ∃ k : Nat, k ≤ n2 ∧ s = .int .i64 k ∧ Mod [] w2 wr ∧ Hid ((x.fLeases.take k).any (badLease x.fVer) = false)) (fun s _ => n2 - (intOf s).toNat)
  case atStart => exact ⟨0, by omega, rfl, Mod.refl _ _, by simp [Hid]⟩
  case round =>
    obtain ⟨k, hk, rfl, hm, A⟩ := hrel
    have cBr := blk_cell (hm.blk KB2.out (by simp))
    by_cases hlt : k < n2
    · obtain ⟨y, hx⟩ := h2.some_of_lt hlt
      have hM := (hm0.trans hM2.out (by simp)).trans hm (by simp)
      obtain ⟨b, o, cs, f, rfl, hb1, hbf, hrd, hfin, hc⟩ := h2.at hx
      obtain ⟨rfl, _⟩ := gVLease_open hrd
      have c0 : wr.cell? ⟨b, o + k * 2, none⟩ = _ := (hM.cell hb1 (by simp)).trans (hc 0 _ rfl)
      have c1 : wr.cell? ⟨b, o + k * 2 + 1, none⟩ = _ := (hM.cell hb1 (by simp)).trans (hc 1 _ rfl)
      have hwr : w.heap.size < wr.heap.size := by have := hm.size; have := hM2.out.size; have := lt_of_heap KB2.out; omega
      have HX := Lib.hid hx
      have HM := Lib.hid hm
      clear hrd hc hx hM hm cB2
      cases hq1 : within y.fVer 0 x.fVer with
      | false =>
        have ha : x.fLeases.any (badLease x.fVer) = true := List.any_eq_true.2 ⟨y, List.mem_of_getElem? HX.out, by simp [badLease, hq1]⟩
        have HA := Lib.hid ha
        clear ha
        go_wp2_with fail
        refine (l1In_any _ _ _ _).mono ?_
        rintro e w' ⟨rfl, rfl⟩
        rw [hq1]
        clear hq1
        go_wp2
        go_ret
        exact ⟨by rw [E0.out, HA.out]; rfl, (hM2.out.trans HM.out (by simp)).alloc _⟩
      | true =>
        go_wp2_with fail
        refine (l1In_any _ _ _ _).mono ?_
        rintro e w' ⟨rfl, rfl⟩
        rw [hq1]
        have HQ1 := Lib.hid hq1
        clear hq1
        go_wp2_with fail
        refine (l1In_any _ _ _ _).mono ?_
        rintro e w' ⟨rfl, rfl⟩
        cases hq2 : within y.fUntil 0 1020 with
        | false =>
          have ha : x.fLeases.any (badLease x.fVer) = true := List.any_eq_true.2 ⟨y, List.mem_of_getElem? HX.out, by simp [badLease, hq2]⟩
          have HA := Lib.hid ha
          clear ha hq2
          go_wp2
          go_ret
          exact ⟨by rw [E0.out, HA.out]; rfl, (hM2.out.trans HM.out (by simp)).alloc _⟩
        | true =>
          have HQ2 := Lib.hid hq2
          clear hq2
          go_wp2
          go_roundw
          case rel => exact ⟨k + 1, by omega, by go_num, HM.out.alloc _, show _ = false by rw [any_take_succ _ HX.out, A.out]; simp [badLease, HQ1.out, HQ2.out]⟩
          case measure => simp [intOf]; omega
    · obtain rfl : k = n2 := by omega
      have hA := A.out
      rw [List.take_of_length_le (by rw [hl2.out]; exact Nat.le_refl _)] at hA
      have HA := Lib.hid hA
      clear hA
      go_wp2
      go_ret
      exact ⟨by rw [E0.out, HA.out]; rfl, hM2.out.trans hm (by simp)⟩
set_option maxHeartbeats 400000 in
theorem l28Low_any (x0 x1 x3 o : Int) (a1 a2 : Option Addr) (n1 c1 n2 c2 : Nat) (w : World) (h0 : -1000000 ≤ x0 ∧ x0 ≤ 1000000) (ho : -1000000 ≤ o ∧ o ≤ 1000000) :
    Calls Try.prog 91 #[.agg #[.int .i64 x0, .int .i64 x1, .slice a1 n1 c1, .int .i64 x3, .slice a2 n2 c2], .agg #[.int .i64 o]] w fun e w' => e = .returned (.int .i64 (x0 + o - 5)) ∧ Mod [] w w' := by
  obtain ⟨h1, h2⟩ := h0
  obtain ⟨h3, h4⟩ := ho
  go_enter Try.func91, Try.ntmps91
  go_wp2
  go_ret
  exact ⟨rfl, ((Mod.refl _ _).alloc _).alloc _⟩
end Go.Proofs.Ytjneaalpiangdaa

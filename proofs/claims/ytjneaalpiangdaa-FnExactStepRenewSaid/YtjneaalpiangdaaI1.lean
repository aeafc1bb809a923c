import Derived.Test.YtjneaalpiangdaaP1
import Derived.Test.YtjneaalpiangdaaGClock
import Derived.Test.YtjneaalpiangdaaGVLease
namespace Go.Proofs.Ytjneaalpiangdaa
open Go.RowKit

set_option maxHeartbeats 400000 in
theorem within_any (a b c : Int) (w : World) : Calls Try.prog 53 #[.int .i64 a, .int .i64 b, .int .i64 c] w fun e w' => e = .returned (.bool (within a b c)) ∧ w = w' := by
  by_cases h1 : b ≤ a
  · go_enter Try.func53, Try.ntmps53
    go_wp2
    go_ret
    exact ⟨by simp [within, h1], rfl⟩
  · have h2 : a < b := by omega
    go_enter Try.func53, Try.ntmps53
    go_wp2
    go_ret
    exact ⟨by simp [within]; omega, rfl⟩
set_option maxHeartbeats 400000 in
theorem goodClock_any (x : Int) (w : World) : Calls Try.prog 57 #[.agg #[.int .i64 x]] w fun e w' => e = .returned (.bool (goodClock ⟨x⟩)) ∧ Mod [] w w' := by
  go_enter Try.func57, Try.ntmps57
  go_wp2_with (go_at_call 53; refine (within_any _ _ _ _).mono ?_; rintro e w' ⟨rfl, rfl⟩)
  go_ret
  exact ⟨rfl, (Mod.refl _ _).alloc _⟩
set_option maxHeartbeats 400000 in
theorem goodRenew1_any (x : Int) (w : World) : Calls Try.prog 59 #[.agg #[.int .i64 x]] w fun e w' => e = .returned (.bool (!goodClock ⟨x⟩)) ∧ Mod [] w w' := by
  go_enter Try.func59, Try.ntmps59
  go_wp2_with (go_at_call 57; refine (goodClock_any _ _).mono ?_; rintro e w' ⟨rfl, hm⟩)
  go_ret
  exact ⟨rfl, ((Mod.refl _ _).alloc _).trans hm (by simp)⟩
set_option maxHeartbeats 400000 in
theorem goodRenew2_any (x y v : Int) (b : Nat) (w : World) (hv : w.cell? ⟨b, 3, none⟩ = some (.int .i64 v)) : Calls Try.prog 60 #[.agg #[.int .i64 x, .int .i64 y], .pointer (some ⟨b, 0, none⟩)] w fun e w' => e = .returned (.bool (badLease v ⟨x, y⟩)) ∧ Mod [] w w' := by
  have hb := World.block_lt_of_cell? w _ hv
  dsimp only at hb
  have H : ∀ q, badLease v ⟨x, y⟩ = q → Hid (badLease v ⟨x, y⟩ = q) := fun _ h => h
  cases h1 : within x 0 v with
  | true =>
    go_enter Try.func60, Try.ntmps60
    go_wp2_with (go_at_call 53; refine (within_any _ _ _ _).mono ?_; rintro e w' ⟨rfl, rfl⟩)
    go_ret
    exact ⟨by simp [badLease, h1], (Mod.refl _ _).alloc _⟩
  | false =>
    go_enter Try.func60, Try.ntmps60
    go_wp2_with (go_at_call 53; refine (within_any _ _ _ _).mono ?_; rintro e w' ⟨rfl, rfl⟩)
    go_ret
    exact ⟨by simp [badLease, h1], (Mod.refl _ _).alloc _⟩
set_option maxRecDepth 100000 in
set_option maxHeartbeats 400000 in
theorem goodRenew_any (w0 : World) (x : DRenew) (a1 a2 : Option Addr) (n1 c1 n2 c2 : Nat) (f1 f2 : List Nat) (w : World) (hn1 : n1 ≤ 140737488351232) (hn2 : n2 ≤ 140737488351232) (hm0 : Mod [] w0 w)
    (h1 : RdS gClock w0 a1 n1 x.fClocks f1) (h2 : RdS gVLease w0 a2 n2 x.fLeases f2) :
    Calls Try.prog 16 #[.agg #[.int .i64 x.fNow, .int .i64 x.fMaster.fOff, .slice a1 n1 c1, .int .i64 x.fVer, .slice a2 n2 c2]] w fun e w' => e = .returned (.bool (goodRenew x)) ∧ Mod [] w w' := by
  have hl1 := Lib.hid h1.1
  have hl2 := Lib.hid h2.1
  go_enter Try.func16, Try.ntmps16
  go_wp2_with fail
  refine (within_any _ _ _ _).mono ?_
  rintro e w' ⟨rfl, rfl⟩
  cases e1 : within x.fNow 0 1000 with
  | false =>
    go_wp2
    go_ret
    exact ⟨by simp [goodRenew, e1], (Mod.refl _ _).alloc _⟩
  | true =>
  have E1 := Lib.hid e1
  clear e1
  go_wp2_with fail
  refine (goodClock_any _ _).mono ?_
  rintro e w1 ⟨rfl, hm1⟩
  have hM1 := Lib.hid (((Mod.refl [] w).alloc _).trans hm1 (by simp))
  obtain ⟨hc1, hf1⟩ := mcell0 hm1
  have hz1 : w.heap.size < w1.heap.size := by have := hm1.size; simp at this; omega
  clear hm1
  cases e2 : goodClock ⟨x.fMaster.fOff⟩ with
  | false =>
    go_wp2
    go_ret
    exact ⟨by simp [goodRenew, E1.out, show goodClock x.fMaster = false from e2], hM1.out⟩
  | true =>
  have E2 : Hid (goodClock x.fMaster = true) := e2
  clear e2
  go_wp2_with fail
  refine (within_any _ _ _ _).mono ?_
  rintro e w' ⟨rfl, rfl⟩
  cases e3 : within (n1 : Int) 1 3 with
  | false =>
    go_wp2
    go_ret
    exact ⟨by simp [goodRenew, E1.out, E2.out, hl1.out, e3], hM1.out⟩
  | true =>
  have E3 := Lib.hid e3
  clear e3
  go_wp2_with fail
  refine (within_any _ _ _ _).mono ?_
  rintro e w' ⟨rfl, rfl⟩
  cases e4 : within x.fVer 0 20 with
  | false =>
    go_wp2
    go_ret
    exact ⟨by simp [goodRenew, E1.out, E2.out, hl1.out, E3.out, e4], hM1.out⟩
  | true =>
  have E4 := Lib.hid e4
  clear e4
  by_cases e5 : n2 = n1
  case neg =>
    have t5 : ((n2 : Int) == (n1 : Int)) = false := by simp; omega
    go_wp2
    go_ret
    exact ⟨by simp only [goodRenew, E1.out, E2.out, hl1.out, hl2.out, E3.out, E4.out, t5]; rfl, hM1.out⟩
  obtain rfl := e5
  go_wp2_with fail
  refine (hasClock_any w0 (fun c => !goodClock c) _ _ (fun _ _ => by kernel_rfl) _ _ _ _ _ _ hn1 (hm0.trans hM1.out (by simp)) h1 ?_).mono ?_
  · intro W cs y fp _ _ hr
    obtain ⟨rfl, _⟩ := gClock_open hr
    exact goodRenew1_any _ _
  rintro e w2 ⟨rfl, hm2⟩
  have hM2 := Lib.hid (hM1.out.trans hm2 (by simp))
  obtain ⟨hc2, hf2⟩ := mcell0 hm2
  have hz2 : w.heap.size < w2.heap.size := by have := hm2.size; omega
  clear hm2
  cases e6 : x.fClocks.any (fun c => !goodClock c) with
  | true =>
    go_wp2
    go_ret
    exact ⟨by simp only [goodRenew, E1.out, E2.out, hl1.out, hl2.out, E3.out, E4.out, e6]; simp, hM2.out⟩
  | false =>
  have E6 := Lib.hid e6
  clear e6
  go_wp2_with fail
  refine (hasVLease_any w0 (badLease x.fVer) _ _ (fun _ _ => by kernel_rfl) _ _ _ _ _ _ hn2 (hm0.trans hM2.out (by simp)) h2 ?_).mono ?_
  · intro W cs y fp _ hW hr
    obtain ⟨rfl, _⟩ := gVLease_open hr
    refine goodRenew2_any _ _ _ _ _ ?_
    rw [hW.cell (p := ⟨w.heap.size, 3, none⟩) hz2 (by simp), hc2 _ _ hz1, hc1 _ _ (by simp)]
    simp
  rintro e w3 ⟨rfl, hm3⟩
  have hM3 := Lib.hid (hM2.out.trans hm3 (by simp))
  clear hm3
  cases e7 : x.fLeases.any (badLease x.fVer) with
  | true =>
    go_wp2
    go_ret
    exact ⟨by simp only [goodRenew, E1.out, E2.out, hl1.out, hl2.out, E3.out, E4.out, E6.out, e7]; simp, hM3.out⟩
  | false =>
    go_wp2
    go_ret
    exact ⟨by simp only [goodRenew, E1.out, E2.out, hl1.out, hl2.out, E3.out, E4.out, E6.out, e7]; simp, hM3.out⟩
end Go.Proofs.Ytjneaalpiangdaa

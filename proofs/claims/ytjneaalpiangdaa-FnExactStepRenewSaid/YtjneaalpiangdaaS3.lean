/- spec: l28Raise. -/
import Derived.Test.YtjneaalpiangdaaS2
namespace Go.Proofs.Ytjneaalpiangdaa
open Go.RowKit
set_option maxRecDepth 100000 in
set_option maxHeartbeats 1600000 in
theorem l28Raise_any (w0 : World) (x : DRenew) (a1 a2 : Option Addr) (n1 c1 n2 c2 : Nat) (f2 : List Nat) (w : World) (hn2 : n2 ≤ 140737488351232) (hm0 : Mod [] w0 w)
    (h2 : RdS gVLease w0 a2 n2 x.fLeases f2) (hg : goodRenew x = true) :
    Calls Try.prog 92 #[.agg #[.int .i64 x.fNow, .int .i64 x.fMaster.fOff, .slice a1 n1 c1, .int .i64 x.fVer, .slice a2 n2 c2]] w fun e w' => e = .returned (.bool (!(x.fLeases.any (stale x.fVer (lowOf x))) && decide (x.fVer < 20))) ∧ Mod [] w w' := by
  have hl2 := Lib.hid h2.1
  have HH := Lib.hid h2
  obtain ⟨g1, g2, g3, g4, _⟩ := good_bounds hg
  clear h2
  go_enter Try.func92, Try.ntmps92
  go_wp2
  go_loopw [8] (fun s wr => ∃ k : Nat, k ≤ n2 ∧ s = .int .i64 k ∧ Mod [] w wr ∧ wr.heap[w.heap.size]? = some (.cells #[.int .i64 x.fNow, .int .i64 x.fMaster.fOff, .slice a1 n1 c1, .int .i64 x.fVer, .slice a2 n2 c2] 28 (0, 0)) ∧ Hid ((x.fLeases.take k).any (stale x.fVer (lowOf x)) = false)) (fun s _ => n2 - (intOf s).toNat)
  case atStart => exact ⟨0, by omega, rfl, (Mod.refl _ _).alloc _, heap1_0 w _, by simp [Hid]⟩
  case round =>
    obtain ⟨k, hk, rfl, hm, hbx, A⟩ := hrel
    have cB := blk_cell hbx
    have hwr := lt_of_heap hbx
    have KB := Lib.hid hbx
    clear hbx
    by_cases hlt : k < n2
    · obtain ⟨y, hx⟩ := HH.out.some_of_lt hlt
      have hM := hm0.trans hm (by simp)
      obtain ⟨b, o, cs, f, rfl, hb1, hbf, hrd, hfin, hc⟩ := HH.out.at hx
      obtain ⟨rfl, _⟩ := gVLease_open hrd
      have c0 : wr.cell? ⟨b, o + k * 2, none⟩ = _ := (hM.cell hb1 (by simp)).trans (hc 0 _ rfl)
      have cc1 : wr.cell? ⟨b, o + k * 2 + 1, none⟩ = _ := (hM.cell hb1 (by simp)).trans (hc 1 _ rfl)
      have HX := Lib.hid hx
      have HM := Lib.hid hm
      clear hrd hc hx hM hm
      cases hq : (y.fVer != x.fVer) with
      | false =>
        go_wp2_with fail
        go_quiet (fail)
        go_wp2
        go_roundw
        case rel => exact ⟨k + 1, by omega, by go_num, (HM.out.alloc _).trans (mod_drewN _ _) (by simp), ((Mod.refl [] _).alloc _).blk KB.out (by simp), show _ = false by rw [any_take_succ _ HX.out, A.out]; simp [stale, hq]⟩
        case measure => simp [intOf]; omega
      | true =>
        go_wp2_with fail
        go_region_held3 (fun W => W.cell? ⟨wr.heap.size, 0, none⟩ = some (.int .i64 y.fVer) ∧ W.cell? ⟨wr.heap.size, 1, none⟩ = some (.int .i64 y.fUntil) ∧ W.cell? ⟨w.heap.size, 0, none⟩ = some (.int .i64 x.fNow) ∧ W.cell? ⟨w.heap.size, 1, none⟩ = some (.int .i64 x.fMaster.fOff) ∧
            W.cell? ⟨w.heap.size, 2, none⟩ = some (.slice a1 n1 c1) ∧ W.cell? ⟨w.heap.size, 3, none⟩ = some (.int .i64 x.fVer) ∧ W.cell? ⟨w.heap.size, 4, none⟩ = some (.slice (some ⟨b, o, none⟩) n2 c2))
          (first | exact ⟨s0, s1, s2, s3, s4, s5, s6⟩ | go_keep)
          (first
            | (go_at_call 91; refine (l28Low_any _ _ _ _ _ _ _ _ _ _ _ (by omega) (by omega)).mono ?_; rintro e w' ⟨rfl, hm1⟩
               have kC := hm1.blk (b := wr.heap.size) (heap1_0 wr _) (by simp)
               have kB := hm1.blk (b := w.heap.size) (((Mod.refl [] _).alloc _).blk KB.out (by simp)) (by simp)
               have s0 := blk_cell kC 0; have s1 := blk_cell kC 1; have s2 := blk_cell kB 0; have s3 := blk_cell kB 1; have s4 := blk_cell kB 2; have s5 := blk_cell kB 3; have s6 := blk_cell kB 4
               have KB2 := Lib.hid kB; have HM2 := Lib.hid ((HM.out.alloc _).drew.trans hm1 (by simp)); clear kB kC hm1))
        by_cases hu : lowOf x ≤ y.fUntil
        · have ha : x.fLeases.any (stale x.fVer (lowOf x)) = true := List.any_eq_true.2 ⟨y, List.mem_of_getElem? HX.out, by simp [stale, hq, hu]⟩
          have HA := Lib.hid ha
          have hu' : x.fNow + x.fMaster.fOff - 5 ≤ y.fUntil := hu
          clear ha hu
          go_wp2
          go_ret
          exact ⟨by rw [HA.out]; rfl, HM2.out⟩
        · have hs : stale x.fVer (lowOf x) y = false := by simp [stale, hq, hu]
          have HS := Lib.hid hs
          have hu' : ¬ x.fNow + x.fMaster.fOff - 5 ≤ y.fUntil := hu
          clear hs hu
          go_wp2
          go_roundw
          case rel => exact ⟨k + 1, by omega, by go_num, HM2.out, KB2.out, show _ = false by rw [any_take_succ _ HX.out, A.out, HS.out]; rfl⟩
          case measure => simp [intOf]; omega
    · obtain rfl : k = n2 := by omega
      have hA := A.out
      rw [List.take_of_length_le (by rw [hl2.out]; exact Nat.le_refl _)] at hA
      have HA := Lib.hid hA
      clear hA
      go_wp2
      go_ret
      exact ⟨by rw [HA.out]; rfl, hm⟩
end Go.Proofs.Ytjneaalpiangdaa

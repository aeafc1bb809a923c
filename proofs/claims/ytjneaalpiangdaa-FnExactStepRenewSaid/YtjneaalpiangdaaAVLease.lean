/- VLease and slices of it: to, eq, mark, held, sz. -/
import Derived.Test.YtjneaalpiangdaaProg
import Derived.Test.YtjneaalpiangdaaTy1
import Derived.Deep.QuietTactic
import Derived.BigQuiet
import Derived.StillTailTactics
namespace Go.Proofs.Ytjneaalpiangdaa
open Go.RowKit
set_option maxRecDepth 100000 in
set_option maxHeartbeats 400000 in
theorem eqVLease_any (x0 x1 : Int) (w : World) : Calls Try.prog 97 #[.agg #[.int .i64 x0, .int .i64 x1], .agg #[.int .i64 x0, .int .i64 x1]] w fun e w' => e = .returned (.bool true) ∧ Mod [] w w' := by
  have h0 : (x0 != x0) = false := by simp
  have h1 : (x1 != x1) = false := by simp
  go_enter Try.func97, Try.ntmps97
  go_wp2
  go_ret
  exact ⟨rfl, ((Mod.refl _ _).alloc _).alloc _⟩

set_option maxRecDepth 100000 in
set_option maxHeartbeats 400000 in
theorem eqVLeaseS_any (w0 : World) (a1 a2 : Option Addr) (n c1 c2 : Nat) (xs : List DVLease) (f1 f2 : List Nat) (w : World) (hn : n ≤ 140737488351232) (hm0 : Mod [] w0 w)
  (h1 : RdS gVLease w0 a1 n xs f1) (h2 : RdS gVLease w0 a2 n xs f2) : Calls Try.prog 74 #[.slice a1 n c1, .slice a2 n c2] w fun e w' => e = .returned (.bool true) ∧ Mod [] w w' := by
  have hl := h1.1
  go_enter Try.func74, Try.ntmps74
  go_wp2
  go_loopw [5] (fun i wr => ∃ k : Nat, k ≤ n ∧ i = .int .i64 k ∧ Mod [] w wr) (fun i _ => n - (intOf i).toNat)
  case atStart => exact ⟨0, by omega, rfl, Mod.refl _ _⟩
  case round =>
    obtain ⟨k, hk, rfl, hm1⟩ := hrel
    by_cases hlt : k < n
    · obtain ⟨x, hx⟩ := h1.some_of_lt hlt
      have hm := hm0.trans hm1 (by simp)
      obtain ⟨b1, o1, cs1, g1, rfl, hb1, _, hr1, _, hc1⟩ := h1.at hx
      obtain ⟨b2, o2, cs2, g2, rfl, hb2, _, hr2, _, hc2⟩ := h2.at hx
      obtain ⟨rfl, _⟩ := gVLease_open hr1
      obtain ⟨rfl, _⟩ := gVLease_open hr2
      have c10 : wr.cell? ⟨b1, o1 + k * 2, none⟩ = _ := (hm.cell hb1 (by simp)).trans (hc1 0 _ rfl)
      have c11 : wr.cell? ⟨b1, o1 + k * 2 + 1, none⟩ = _ := (hm.cell hb1 (by simp)).trans (hc1 1 _ rfl)
      have c20 : wr.cell? ⟨b2, o2 + k * 2, none⟩ = _ := (hm.cell hb2 (by simp)).trans (hc2 0 _ rfl)
      have c21 : wr.cell? ⟨b2, o2 + k * 2 + 1, none⟩ = _ := (hm.cell hb2 (by simp)).trans (hc2 1 _ rfl)
      clear hc1 hc2 hr1 hr2 h1 h2 hx hl
      go_wp2
      go_still_tail 8, (by kernel_rfl)
      go_wp2_with (go_at_call 97; refine (eqVLease_any _ _ _).mono ?_; rintro e w' ⟨rfl, hm2⟩)
      go_roundw
      case rel => exact ⟨k + 1, by omega, by go_num, hm1.drew.trans hm2 (by simp)⟩
      case measure => simp [intOf]; omega
    · go_wp2
      go_ret
      exact ⟨rfl, hm1⟩

set_option maxRecDepth 100000 in
set_option maxHeartbeats 400000 in
theorem markVLeaseS_any (a : Option Addr) (n c : Nat) (xs : List DVLease) (fp : List Nat) (k : Int) (w : World) (hn : n ≤ 140737488351232) (h0 : 0 ≤ k) (hb : k + cntL cntVLease xs ≤ 1099511627776)
  (h : RdS gVLease w a n xs fp) (ho : Own 0 w fp) : Calls Try.prog 76 #[.slice a n c, .int .i64 k] w fun e w' => e = .returned (.int .i64 (mkL mkVLease k xs).2) ∧ RdS gVLease w' a n (mkL mkVLease k xs).1 fp ∧ Own 0 w' fp ∧ Mod fp w w' := by
  have hl := Lib.hid h.1
  have HZ := Lib.hid (mkAt_zero mkVLease k xs)
  have HA := Lib.hid (mkAt_all mkVLease k xs n h.1)
  have HC := Lib.hid (mkAt_cnt mkVLease_cnt xs k)
  have HH := Lib.hid h
  have HO := Lib.hid ho
  clear h ho
  go_enter Try.func76, Try.ntmps76
  go_wp2
  go_loopw [1, 5] (fun kk i wr => ∃ j : Nat, j ≤ n ∧ i = .int .i64 j ∧ kk = .int .i64 (mkAt mkVLease k xs j).2 ∧ RdS gVLease wr a n (mkAt mkVLease k xs j).1 fp ∧ Own 0 wr fp ∧ Mod fp w wr) (fun _ i _ => n - (intOf i).toNat)
  case atStart => exact ⟨0, by omega, rfl, by rw [HZ.out], by rw [HZ.out]; exact HH.out, HO.out, Mod.refl _ _⟩
  case round =>
    obtain ⟨j, hj, rfl, rfl, hr, hw, hm⟩ := hrel
    by_cases hlt : j < n
    · obtain ⟨x, hx⟩ := HH.out.some_of_lt hlt
      obtain ⟨b, o, cs, f, rfl, hb1, hbf, hrd, _, hc⟩ := hr.at (mkAt_get mkVLease k hx)
      obtain ⟨rfl, _⟩ := gVLease_open hrd
      obtain ⟨_, C, t, hC⟩ := hw.2 b hbf
      have c0 : wr.cell? ⟨b, o + j * 2, none⟩ = _ := hc 0 _ rfl
      have f0 : wr.frozen? ⟨b, o + j * 2, none⟩ = false := free_of_block hC
      have c1 : wr.cell? ⟨b, o + j * 2 + 1, none⟩ = _ := hc 1 _ rfl
      have f1 : wr.frozen? ⟨b, o + j * 2 + 1, none⟩ = false := free_of_block hC
      have HS := Lib.hid (mkAt_succ mkVLease k hx)
      have hq0 : 0 ≤ (mkAt mkVLease k xs j).2 ∧ (mkAt mkVLease k xs j).2 + cntVLease x ≤ 1099511627776 := by
        have e1 := cntL_take_succ cntVLease hx
        have e2 := cntL_take_le cntVLease xs (j + 1)
        rw [HC.out j]; omega
      unfold cntVLease at hq0
      have HX := Lib.hid hx
      have HR := Lib.hid hr
      clear hC hrd hr hc hx
      generalize hq : (mkAt mkVLease k xs j).2 = q at hq0 HS
      obtain ⟨hq1, hq2⟩ := hq0
      clear hq
      go_wp2
      go_roundw
      case rel =>
        have P := HR.out.put (x' := (⟨q, q + 1⟩ : DVLease)) (cs' := [.int .i64 (q), .int .i64 (q + 1)]) hw (mkAt_get mkVLease k HX.out) gVLease_flat (by decide) (fun _ => gVLease_mk (I64_of (by omega) (by omega)) (I64_of (by omega) (by omega)))
        have hx' : (⟨q, q + 1⟩ : DVLease) = (mkVLease q x).1 := rfl
        rw [hx'] at P
        refine ⟨j + 1, by omega, by go_num, ?_, ?_, P.2.1, hm.trans P.2.2 (fun x hx => Or.inl hx)⟩
        · rw [HS.out]; exact congrArg (Value.int .i64) (by show q + 1 + 1 = q + 2; omega)
        · rw [HS.out]; exact P.1
      case measure => simp [intOf]; omega
    · obtain rfl : j = n := by omega
      go_wp2
      go_ret
      rw [HA.out] at hr ⊢
      exact ⟨rfl, hr, hw, hm⟩

set_option maxRecDepth 100000 in
set_option maxHeartbeats 400000 in
theorem heldVLeaseS_any (w0 : World) (a : Option Addr) (n c : Nat) (xs : List DVLease) (fp : List Nat) (k : Int) (w : World) (hn : n ≤ 140737488351232) (h0 : 0 ≤ k) (hb : k + cntL cntVLease xs ≤ 1099511627776) (hm0 : Mod [] w0 w)
  (h : RdS gVLease w0 a n (mkL mkVLease k xs).1 fp) : Calls Try.prog 78 #[.slice a n c, .int .i64 k] w fun e w' => e = .returned (.int .i64 (mkL mkVLease k xs).2) ∧ Mod [] w w' := by
  have hl := Lib.hid (show xs.length = n by rw [← h.1, mkL_length])
  have HZ := Lib.hid (mkAt_zero mkVLease k xs)
  have HA := Lib.hid (mkAt_all mkVLease k xs n hl.out)
  have HC := Lib.hid (mkAt_cnt mkVLease_cnt xs k)
  have HH := Lib.hid h
  clear h
  go_enter Try.func78, Try.ntmps78
  go_wp2
  go_loop [1, 5] (fun kk i => ∃ j : Nat, j ≤ n ∧ i = .int .i64 j ∧ kk = .int .i64 (mkAt mkVLease k xs j).2) (fun _ i => n - (intOf i).toNat)
  case atStart => exact ⟨0, by omega, rfl, by rw [HZ.out]⟩
  case round =>
    obtain ⟨j, hj, rfl, rfl⟩ := hrel
    by_cases hlt : j < n
    · obtain ⟨x, hx⟩ : ∃ x, xs[j]? = some x := ⟨xs[j]'(by rw [hl.out]; exact hlt), by simp⟩
      obtain ⟨b, o, cs, f, rfl, hb1, _, hrd, _, hc⟩ := HH.out.at (mkL_get mkVLease xs k j hx)
      obtain ⟨rfl, _⟩ := gVLease_open hrd
      have hq0 : 0 ≤ (mkAt mkVLease k xs j).2 ∧ (mkAt mkVLease k xs j).2 + cntVLease x ≤ 1099511627776 := by
        have e1 := cntL_take_succ cntVLease hx
        have e2 := cntL_take_le cntVLease xs (j + 1)
        rw [HC.out j]; omega
      unfold cntVLease at hq0
      have HS := Lib.hid (congrArg Prod.snd (mkAt_succ mkVLease k hx))
      have c0 : w.cell? ⟨b, o + j * 2, none⟩ = some (.int .i64 ((mkAt mkVLease k xs j).2)) := (hm0.cell hb1 (by simp)).trans (hc 0 _ rfl)
      have c1 : w.cell? ⟨b, o + j * 2 + 1, none⟩ = some (.int .i64 ((mkAt mkVLease k xs j).2 + 1)) := (hm0.cell hb1 (by simp)).trans (hc 1 _ rfl)
      clear hrd hc hx
      generalize hq : (mkAt mkVLease k xs j).2 = q at hq0 HS c0 c1
      obtain ⟨hq1, hq2⟩ := hq0
      clear hq
      have t0 : ((q) != (q)) = false := by simp
      have t1 : ((q + 1) != (q + 1)) = false := by simp
      go_wp2
      go_round
      case rel => exact ⟨j + 1, by omega, by go_num, by rw [HS.out]; exact congrArg (Value.int .i64) (by show q + 1 + 1 = q + 2; omega)⟩
      case measure => simp [intOf]; omega
    · obtain rfl : j = n := by omega
      go_wp2
      go_ret
      rw [HA.out]
      exact ⟨rfl, Mod.refl _ _⟩

set_option maxRecDepth 100000 in
set_option maxHeartbeats 400000 in
theorem szVLeaseS_any (a : Option Addr) (n c : Nat) (left : Int) (w : World) (hn : n ≤ 140737488351232) (h0 : 0 ≤ left) (h1 : left ≤ 1048576) :
    Calls Try.prog 68 #[.slice a n c, .int .i64 left] w fun e w' => SzPost left n e ∧ Mod [] w w' := by
  by_cases h : left < (n : Int)
  · go_enter Try.func68, Try.ntmps68
    go_wp2
    go_ret
    exact ⟨⟨_, rfl, Or.inr ⟨rfl, h⟩⟩, Mod.refl _ _⟩
  · go_enter Try.func68, Try.ntmps68
    go_wp2
    go_ret
    exact ⟨⟨_, rfl, Or.inl ⟨rfl, by omega⟩⟩, Mod.refl _ _⟩

set_option maxRecDepth 100000 in
set_option maxHeartbeats 400000 in
theorem toVLease_any (x0 x1 : Int) (w : World) :
    Calls Try.prog 96 #[.agg #[.int .i64 x0, .int .i64 x1]] w fun e w' => e = .returned (.agg #[.int .i64 x0, .int .i64 x1]) ∧ Mod [] w w' := by
  go_enter Try.func96, Try.ntmps96
  go_wp2
  exact bodyPost_ret (v := .agg #[.int .i64 x0, .int .i64 x1]) (by simp [results, Try.results96, go_sem]) rfl ⟨rfl, (((Mod.refl _ _).alloc _).alloc _).alloc _⟩

theorem info_VLease : (Try.prog.info? 49).map (fun i => (i.zero, i.size, i.bytes)) = some (some (.agg #[.int .i64 0, .int .i64 0]), 2, 16) := by kernel_rfl
theorem und_VLeaseS : Try.prog.underlying 26 = some (.slice 49) := by kernel_rfl
set_option maxRecDepth 100000 in
set_option maxHeartbeats 400000 in
theorem toVLeaseS_any (w0 : World) (a : Option Addr) (n c : Nat) (xs : List DVLease) (fp : List Nat) (w : World) (hn : n ≤ 1048576) (hm0 : Mod [] w0 w) (h : RdS gVLease w0 a n xs fp) :
    Calls Try.prog 71 #[.slice a n c] w fun e w' => ∃ a' fp', e = .returned (.slice a' n n) ∧ RdS gVLease w' a' n xs fp' ∧ Own w.heap.size w' fp' ∧ Mod [] w w' := by
  obtain ⟨i0, hi, hz0, hz1, hz2⟩ := info_parts info_VLease
  obtain ⟨M, hM, hmk⟩ := make_any (P := Try.prog) 26 49 i0 _ und_VLeaseS hi hz0 n (by rw [hz2]; omega) (by omega)
  rw [hz1] at hM
  have HH := Lib.hid h
  have HM := Lib.hid hM
  clear h hM hi hz0 hz1 hz2
  go_enter Try.func71, Try.ntmps71
  go_wp2
  go_loopw [4] (fun i wr => ∃ (j : Nat) (fps : List (List Nat)), j ≤ n ∧ i = .int .i64 j ∧ Bld gVLease w.heap.size wr w.heap.size 49 (n * 2) (xs.take j) fps ∧ Mod [] w wr) (fun i _ => n - (intOf i).toNat)
  case atStart =>
    refine ⟨0, [], by omega, rfl, ⟨⟨M, heap_alloc_new _ _, HM.out⟩, RdE.nil _ _ _ _, ⟨by simp, fun b hb => ?_⟩⟩, (Mod.refl _ _).alloc _⟩
    simp at hb; subst hb
    exact ⟨Nat.le_refl _, M, _, heap_alloc_new _ _⟩
  case round =>
    obtain ⟨j, fps, hj, rfl, hB, hm⟩ := hrel
    by_cases hlt : j < n
    · obtain ⟨x, hx⟩ := HH.out.some_of_lt hlt
      obtain ⟨b, o, cs, f, rfl, hb1, hbf, hrd, _, hc⟩ := HH.out.at hx
      obtain ⟨rfl, rfl, hr0, hr1⟩ := gVLease_open hrd
      have c0 : wr.cell? ⟨b, o + j * 2, none⟩ = _ := ((hm0.trans hm (by simp)).cell hb1 (by simp)).trans (hc 0 _ rfl)
      have c1 : wr.cell? ⟨b, o + j * 2 + 1, none⟩ = _ := ((hm0.trans hm (by simp)).cell hb1 (by simp)).trans (hc 1 _ rfl)
      have HX := Lib.hid hx
      clear hrd hc hx
      have htl : (xs.take j).length = j := by have := HH.out.1; simp; omega
      have HT := Lib.hid htl
      clear htl
      go_wp2_with fail
      refine (toVLease_any _ _ _).mono ?_
      rintro e w1 ⟨rfl, hm1⟩
      obtain ⟨⟨d0, k0⟩, g0⟩ := hB.cell hm1 (i := j * 2) (by omega)
      obtain ⟨⟨d1, k1⟩, g1⟩ := hB.cell hm1 (i := j * 2 + 1) (by omega)
      have P := Lib.hid (hB.step hm1 (gVLease_mk (w := w1) hr0 hr1) (Own.nil _ _) hm.size (by rw [HT.out]; show (j + 1) * 2 ≤ n * 2; omega))
      have HM1 := Lib.hid hm1
      clear hm1 hr0 hr1
      go_wp2
      go_roundw
      case rel =>
        have Q := P.out
        rw [HT.out] at Q
        rw [← take_snoc_of HX.out] at Q
        exact ⟨j + 1, _, by omega, by go_num, Q.1, hm.trans Q.2 (fun y hy => Or.inr (by simp at hy; omega))⟩
      case measure => simp [intOf]; omega
    · obtain rfl : j = n := by omega
      go_wp2
      go_ret
      have hl := HH.out.1
      rw [List.take_of_length_le (by omega)] at hB
      exact ⟨_, _, rfl, hB.done hl, hB.own, hm⟩

end Go.Proofs.Ytjneaalpiangdaa

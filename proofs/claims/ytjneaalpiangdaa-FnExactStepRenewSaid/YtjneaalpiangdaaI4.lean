/- impl: step. -/
import Derived.Test.YtjneaalpiangdaaI3
import Derived.Deep.RegionHeld3
import Derived.Deep.DeepCutAuto
namespace Go.Proofs.Ytjneaalpiangdaa
open Go.RowKit
def StepPost (x : DRenew) (a : DRenewAct) (b : Nat) (a1 a2 : Option Addr) (n1 c1 n2 c2 : Nat) (f1 f2 : List Nat) (w : World) (e : Ending) (w' : World) : Prop :=
  e = .returned (.bool (doRenew x a).2) ∧ w'.heap[b]? = some (.cells #[.int .i64 (doRenew x a).1.fNow, .int .i64 (doRenew x a).1.fMaster.fOff, .slice a1 n1 c1, .int .i64 (doRenew x a).1.fVer, .slice a2 n2 c2] 28 (0, 0)) ∧
    RdS gClock w' a1 n1 (doRenew x a).1.fClocks f1 ∧ RdS gVLease w' a2 n2 (doRenew x a).1.fLeases f2 ∧ Own 0 w' (f1 ++ f2) ∧ Mod (b :: (f1 ++ f2)) w w'
/-- What good numbers are. -/
theorem good_bounds {x : DRenew} (h : goodRenew x = true) : 0 ≤ x.fNow ∧ x.fNow ≤ 1000 ∧ -5 ≤ x.fMaster.fOff ∧ x.fMaster.fOff ≤ 5 ∧ 1 ≤ x.fClocks.length ∧ x.fClocks.length ≤ 3 ∧ 0 ≤ x.fVer ∧ x.fVer ≤ 20 ∧ x.fLeases.length = x.fClocks.length := by
  simp [goodRenew, goodClock, within] at h
  omega
set_option maxHeartbeats 800000 in
theorem step1_any (x y v low : Int) (q b p : Nat) (w : World) (h0 : w.cell? ⟨q, 0, none⟩ = some (.pointer (some ⟨b, 0, none⟩))) (h1 : w.cell? ⟨b, 3, none⟩ = some (.int .i64 v)) (h2 : w.cell? ⟨p, 0, none⟩ = some (.int .i64 low)) :
    Calls Try.prog 90 #[.agg #[.int .i64 x, .int .i64 y], .pointer (some ⟨q, 0, none⟩), .pointer (some ⟨p, 0, none⟩)] w fun e w' => e = .returned (.bool (stale v low ⟨x, y⟩)) ∧ Mod [] w w' := by
  have l0 := World.block_lt_of_cell? w _ h0
  have l1 := World.block_lt_of_cell? w _ h1
  have l2 := World.block_lt_of_cell? w _ h2
  dsimp only at l0 l1 l2
  cases hx : (x != v) with
  | false =>
    go_enter Try.func90, Try.ntmps90
    go_wp2_with fail
    go_quiet (fail)
    go_wp2
    go_ret
    exact ⟨by simp [stale, hx], ((Mod.refl _ _).alloc _).trans (mod_drewN _ _) (by simp)⟩
  | true =>
    go_enter Try.func90, Try.ntmps90
    go_wp2_with fail
    go_quiet (fail)
    go_wp2
    go_ret
    exact ⟨by simp [stale, hx], ((Mod.refl _ _).alloc _).trans (mod_drewN _ _) (by simp)⟩
theorem step_close {x y : DRenew} {a : DRenewAct} {d : Bool} {b : Nat} {a1 a2 : Option Addr} {n1 c1 n2 c2 : Nat} {f1 f2 : List Nat} {w wx W : World} (HM : Mod [] w wx)
    (R1 : RdS gClock wx a1 n1 x.fClocks f1) (R2 : RdS gVLease wx a2 n2 x.fLeases f2) (O : Own 0 wx (f1 ++ f2)) (hnb : b ∉ f1 ++ f2) (hd : doRenew x a = (y, d)) (e1 : y.fClocks = x.fClocks) (e2 : y.fLeases = x.fLeases)
    (hC : W.heap[b]? = some (.cells #[.int .i64 y.fNow, .int .i64 y.fMaster.fOff, .slice a1 n1 c1, .int .i64 y.fVer, .slice a2 n2 c2] 28 (0, 0))) (hW : Mod [b] wx W) :
    StepPost x a b a1 a2 n1 c1 n2 c2 f1 f2 w (.returned (.bool d)) W := by
  have hq : ∀ q ∈ f1 ++ f2, q ∉ [b] := fun q hq h => by simp at h; subst h; exact hnb hq
  unfold StepPost
  rw [hd]
  exact ⟨rfl, hC, by rw [e1]; exact R1.mod hW (fun q h => hq q (by simp [h])), by rw [e2]; exact R2.mod hW (fun q h => hq q (by simp [h])), O.mod hW hq, (HM.weaken (by simp)).trans hW (fun q h => Or.inl (by simp at h; simp [h]))⟩
theorem step_clocks {x y : DRenew} {a : DRenewAct} {d : Bool} {b : Nat} {a1 a2 : Option Addr} {n1 c1 n2 c2 : Nat} {f1 f2 : List Nat} {w wx W : World} (HM : Mod [] w wx)
    (R2 : RdS gVLease wx a2 n2 x.fLeases f2) (O : Own 0 wx (f1 ++ f2)) (hnb : b ∉ f1 ++ f2) (hd : doRenew x a = (y, d)) (e2 : y.fLeases = x.fLeases)
    (hC : wx.heap[b]? = some (.cells #[.int .i64 y.fNow, .int .i64 y.fMaster.fOff, .slice a1 n1 c1, .int .i64 y.fVer, .slice a2 n2 c2] 28 (0, 0))) (P : RdS gClock W a1 n1 y.fClocks f1) (PO : Own 0 W f1) (hW : Mod f1 wx W) :
    StepPost x a b a1 a2 n1 c1 n2 c2 f1 f2 w (.returned (.bool d)) W.drew := by
  have hW' : Mod f1 wx W.drew := hW.drew
  have hD : Mod [] W W.drew := (Mod.refl [] W).drew
  unfold StepPost
  rw [hd]
  exact ⟨rfl, hW'.blk hC (fun h => hnb (by simp [h])), P.mod0 hD, by rw [e2]; exact R2.mod hW' (fun q h1 h2 => O.apart q h2 h1), (PO.mod hD (by simp)).app (O.right.mod hW' (fun q h1 h2 => O.apart q h2 h1)) O.apart, (HM.weaken (by simp)).trans hW' (fun q h => Or.inl (by simp [h]))⟩
theorem step_leases {x y : DRenew} {a : DRenewAct} {d : Bool} {b : Nat} {a1 a2 : Option Addr} {n1 c1 n2 c2 : Nat} {f1 f2 : List Nat} {w wx W : World} (HM : Mod [] w wx)
    (R1 : RdS gClock wx a1 n1 x.fClocks f1) (O : Own 0 wx (f1 ++ f2)) (hnb : b ∉ f1 ++ f2) (hd : doRenew x a = (y, d)) (e2 : y.fClocks = x.fClocks)
    (hC : wx.heap[b]? = some (.cells #[.int .i64 y.fNow, .int .i64 y.fMaster.fOff, .slice a1 n1 c1, .int .i64 y.fVer, .slice a2 n2 c2] 28 (0, 0))) (P : RdS gVLease W a2 n2 y.fLeases f2) (PO : Own 0 W f2) (hW : Mod f2 wx W) :
    StepPost x a b a1 a2 n1 c1 n2 c2 f1 f2 w (.returned (.bool d)) W.drew := by
  have hW' : Mod f2 wx W.drew := hW.drew
  have hD : Mod [] W W.drew := (Mod.refl [] W).drew
  unfold StepPost
  rw [hd]
  exact ⟨rfl, hW'.blk hC (fun h => hnb (by simp [h])), by rw [e2]; exact R1.mod hW' (fun q h1 h2 => O.apart q h1 h2), P.mod0 hD, (O.left.mod hW' (fun q h1 h2 => O.apart q h1 h2)).app (PO.mod hD (by simp)) O.apart, (HM.weaken (by simp)).trans hW' (fun q h => Or.inl (by simp [h]))⟩
set_option maxRecDepth 100000 in
set_option maxHeartbeats 1600000 in
theorem step_any (x : DRenew) (a : DRenewAct) (b : Nat) (a1 a2 : Option Addr) (n1 c1 n2 c2 : Nat) (f1 f2 : List Nat) (w : World)
    (hb : w.heap[b]? = some (.cells #[.int .i64 x.fNow, .int .i64 x.fMaster.fOff, .slice a1 n1 c1, .int .i64 x.fVer, .slice a2 n2 c2] 28 (0, 0)))
    (h1 : RdS gClock w a1 n1 x.fClocks f1) (h2 : RdS gVLease w a2 n2 x.fLeases f2) (ho : Own 0 w (f1 ++ f2)) (hnb : b ∉ f1 ++ f2) (hg : goodRenew x = true) (ha : isAct n1 a = true) :
    Calls Try.prog 47 #[.pointer (some ⟨b, 0, none⟩), .agg #[.int .i64 a.fKind, .int .i64 a.fWho, .int .i64 a.fBy]] w (StepPost x a b a1 a2 n1 c1 n2 c2 f1 f2 w) := by
  have hbl := lt_of_heap hb
  obtain ⟨g1, g2, g3, g4, g5, g6, g7, g8, g9⟩ := good_bounds hg
  have hl1 := Lib.hid h1.1
  have hl2 := Lib.hid h2.1
  go_enter Try.func47, Try.ntmps47
  go_upto_region 1 with fail
  go_cut [5] (fun s5 wx => ∃ p : Nat, s5 = .pointer (some ⟨p, 0, none⟩) ∧ w.heap.size + 2 ≤ p ∧ wx.heap[p]? = some (.cells #[.int .i64 (lowOf x)] 3 (0, 0)) ∧
    wx.heap[w.heap.size]? = some (.cells #[.pointer (some ⟨b, 0, none⟩)] 115 (0, 0)) ∧ wx.heap[w.heap.size + 1]? = some (.cells #[.int .i64 a.fKind, .int .i64 a.fWho, .int .i64 a.fBy] 30 (0, 0)) ∧ Mod [] w wx)
  case first =>
    have u0 := blk_cell hb
    have v1 : b < w.heap.size + 1 := by omega
    have v2 : b < w.heap.size + 1 + 1 := by omega
    have v3 : b < w.heap.size + 1 + 1 + 1 := by omega
    have v4 : w.heap.size < w.heap.size + 1 + 1 := by omega
    have v5 : w.heap.size < w.heap.size + 1 + 1 + 1 := by omega
    have hfd : ∀ (u v : Int) (w : World), (Instr.field 45 (.agg #[.int .i64 u, .int .i64 v]) 0).run Try.prog w = .ok (.int .i64 u) w := fun _ _ _ => by kernel_rfl
    go_region_held3 (fun W => W.cell? ⟨w.heap.size, 0, none⟩ = some (.pointer (some ⟨b, 0, none⟩)) ∧ W.cell? ⟨b, 0, none⟩ = some (.int .i64 x.fNow) ∧ W.cell? ⟨b, 1, none⟩ = some (.int .i64 x.fMaster.fOff)) (first | exact ⟨s0, s1, s2⟩ | exact ⟨blk_cell (heap3_0 w _ _ _) 0, ((((((Mod.refl [] w).alloc _).alloc _).alloc _).drew.cell (p := ⟨b, 0, none⟩) hbl (by simp)).trans (u0 0)), ((((((Mod.refl [] w).alloc _).alloc _).alloc _).drew.cell (p := ⟨b, 1, none⟩) hbl (by simp)).trans (u0 1))⟩ | exact ⟨blk_cell (heap2_0 w _ _) 0, (((((Mod.refl [] w).alloc _).alloc _).drew.cell (p := ⟨b, 0, none⟩) hbl (by simp)).trans (u0 0)), (((((Mod.refl [] w).alloc _).alloc _).drew.cell (p := ⟨b, 1, none⟩) hbl (by simp)).trans (u0 1))⟩ | exact ⟨((Mod.refl [] _).alloc _ |>.cell (p := ⟨w.heap.size, 0, none⟩) (by omega) (by simp)).trans s0, ((Mod.refl [] _).alloc _ |>.cell (p := ⟨b, 0, none⟩) (by omega) (by simp)).trans s1, ((Mod.refl [] _).alloc _ |>.cell (p := ⟨b, 1, none⟩) (by omega) (by simp)).trans s2⟩ | exact ⟨(World.cell?_setCell_other _ _ _ _ (by intro h; injection h with h; omega)).trans s0, (World.cell?_setCell_other _ _ _ _ (by intro h; injection h with h; omega)).trans s1, (World.cell?_setCell_other _ _ _ _ (by intro h; injection h with h; omega)).trans s2⟩ | go_keep)
      (first
        | (go_at_call 89; refine (span_any _ _ _ (by omega) (by omega)).mono ?_; rintro e w' ⟨rfl, hm⟩
           have kp := hm.blk (heap3_2 w _ _ _) (by simp)
           have k0 := hm.blk (heap3_0 w _ _ _) (by simp)
           have k1 := hm.blk (heap3_1 w _ _ _) (by simp)
           have kM := ((((Mod.refl [] w).alloc _).alloc _).alloc _).drew.trans hm (by simp)
           have kz : w.heap.size + 2 ≤ w'.heap.size := (by have := hm.size; simp at this; omega)
           have kb := kM.blk hb (by simp)
           have s0 : w'.cell? ⟨w.heap.size, 0, none⟩ = some (.pointer (some ⟨b, 0, none⟩)) := (by rw [blk_cell k0]; rfl)
           have s1 : w'.cell? ⟨b, 0, none⟩ = some (.int .i64 x.fNow) := (by rw [blk_cell kb]; rfl)
           have s2 : w'.cell? ⟨b, 1, none⟩ = some (.int .i64 x.fMaster.fOff) := (by rw [blk_cell kb]; rfl)
           have kpc := blk_cell kp; have kpf := blk_free kp
           have KP := Lib.hid kp; have K0 := Lib.hid k0; have K1 := Lib.hid k1; have KM := Lib.hid kM; have KB := Lib.hid kb; clear k0 k1 kM kb hm kp)
        | (go_at_call 89; refine (span_any _ _ _ (by omega) (by omega)).mono ?_; rintro e w' ⟨rfl, hm⟩
           have k0 := hm.blk (heap2_0 w _ _) (by simp)
           have k1 := hm.blk (heap2_1 w _ _) (by simp)
           have kM := (((Mod.refl [] w).alloc _).alloc _).drew.trans hm (by simp)
           have kz : w.heap.size + 2 ≤ w'.heap.size := (by have := hm.size; simp at this; omega)
           have kb := kM.blk hb (by simp)
           have s0 : w'.cell? ⟨w.heap.size, 0, none⟩ = some (.pointer (some ⟨b, 0, none⟩)) := (by rw [blk_cell k0]; rfl)
           have s1 : w'.cell? ⟨b, 0, none⟩ = some (.int .i64 x.fNow) := (by rw [blk_cell kb]; rfl)
           have s2 : w'.cell? ⟨b, 1, none⟩ = some (.int .i64 x.fMaster.fOff) := (by rw [blk_cell kb]; rfl)
           have K0 := Lib.hid k0; have K1 := Lib.hid k1; have KM := Lib.hid kM; have KB := Lib.hid kb; clear k0 k1 kM kb hm))
    all_goals
      go_wp2_with fail
      go_meet
      first
        | exact ⟨_, rfl, kz, heap_alloc_new _ _, ((Mod.refl [] _).alloc _).blk K0.out (by simp), ((Mod.refl [] _).alloc _).blk K1.out (by simp), KM.out.alloc _⟩
        | exact ⟨_, rfl, by omega, heap_setCell_same _ _ _ _ _ _ KP.out, ((Mod.refl [w.heap.size + 2] _).setCell (by simp) _).blk K0.out (by simp), ((Mod.refl [w.heap.size + 2] _).setCell (by simp) _).blk K1.out (by simp), KM.out.setCell (Or.inr (by dsimp only; omega)) _⟩
  case rest =>
    obtain ⟨p, rfl, hp, hp1, hp2, hp3, hm⟩ := hcut
    have hpl := lt_of_heap hp1
    have kb := hm.blk hb (by simp)
    have cB := blk_cell kb; have fB := blk_free kb; have cP := blk_cell hp1; have cR := blk_cell hp2; have cA := blk_cell hp3
    have R1 := Lib.hid (h1.mod0 hm); have R2 := Lib.hid (h2.mod0 hm); have O := Lib.hid (ho.mod hm (by simp)); have HM := Lib.hid hm; have KB := Lib.hid kb
    clear hp1 hp2 hp3 hm kb h1 h2 ho hb
    obtain ⟨k, wh, by_⟩ := a
    by_cases e1 : k = 1
    · subst e1
      obtain ⟨hwh, hby1, hby2⟩ : wh = 0 ∧ 1 ≤ by_ ∧ by_ ≤ 50 := by simpa [isAct, within] using ha
      subst hwh
      clear ha
      by_cases hle : x.fNow + by_ ≤ 1000
      · go_wp2_with fail
        go_quiet (fail)
        go_wp2
        go_region
        all_goals
          go_wp2
          go_ret
          exact step_close HM.out R1.out R2.out O.out hnb (y := ⟨x.fNow + by_, x.fMaster, x.fClocks, x.fVer, x.fLeases⟩) (d := true) (by simp [doRenew, hle]) rfl rfl (heap_setCell_same _ _ _ _ _ _ KB.out) ((mod_drewN _ _).drew.weaken (by simp) |>.setCell (by simp) _)
      · have t1 : decide (x.fNow + by_ ≤ 1000) = false := by simpa using hle
        go_wp2_with fail
        go_quiet (fail)
        go_wp2
        go_ret
        exact step_close HM.out R1.out R2.out O.out hnb (y := x) (d := false) (by simp [doRenew, hle]) rfl rfl KB.out ((mod_drewN _ _).weaken (by simp))
    by_cases e2 : k = 2
    · subst e2
      obtain ⟨⟨hwh1, hwh2⟩, hby1, hby2⟩ : (0 ≤ wh ∧ wh ≤ n1) ∧ -5 ≤ by_ ∧ by_ ≤ 5 := by simpa [isAct, within, goodClock] using ha
      clear ha e1
      by_cases hw0 : wh = 0
      · subst hw0
        go_wp2_with fail
        go_quiet (fail)
        go_wp2
        go_ret
        exact step_close HM.out R1.out R2.out O.out hnb (y := ⟨x.fNow, ⟨by_⟩, x.fClocks, x.fVer, x.fLeases⟩) (d := true) (by simp [doRenew]) rfl rfl (heap_setCell_same _ _ _ _ _ _ KB.out) ((mod_drewN _ _).weaken (by simp) |>.setCell (by simp) _)
      · have t0 : (wh == 0) = false := by simp [hw0]
        obtain ⟨y0, hy⟩ := R1.out.some_of_lt (k := wh.toNat - 1) (by omega)
        obtain ⟨b1, o1, cs, f, rfl, hb1, hbf, hrd, _, hc⟩ := R1.out.at hy
        obtain ⟨rfl, _⟩ := gClock_open hrd
        simp only [show gClock.size = 1 from rfl, Nat.mul_one] at hc
        have HY := Lib.hid hy
        obtain ⟨_, C, t, hC⟩ := O.out.left.2 b1 hbf
        have cc : wc.cell? ⟨b1, o1 + (wh.toNat - 1), none⟩ = some (.int .i64 y0.fOff) := hc 0 _ rfl
        have ff : wc.frozen? ⟨b1, o1 + (wh.toNat - 1), none⟩ = false := free_of_block hC
        have hj2 : 1 ≤ wh := by omega
        have hj0 : 0 ≤ wh - 1 := by omega
        have hj1 : wh - 1 < (n1 : Int) := by omega
        have hwA := IntWalk.i64_in (wh - 1) (by have := R1.out.1; omega)
        clear hy hc hrd hC
        go_wp2_with fail
        go_quiet (fail)
        have dB : ∀ o, (wc.drewN nq).cell? ⟨b, o, none⟩ = _ := cB
        have dR : ∀ o, (wc.drewN nq).cell? ⟨w.heap.size, o, none⟩ = _ := cR
        have dA : ∀ o, (wc.drewN nq).cell? ⟨w.heap.size + 1, o, none⟩ = _ := cA
        have dc : (wc.drewN nq).cell? ⟨b1, o1 + (wh.toNat - 1), none⟩ = _ := cc
        have df : (wc.drewN nq).frozen? ⟨b1, o1 + (wh.toNat - 1), none⟩ = _ := ff
        have HD := Lib.hid (mod_drewN wc nq)
        generalize wc.drewN nq = wd at *
        clear cB cR cA cc ff cP fB
        go_wp2_with fail
        go_still_tail 11, (by kernel_rfl)
        change wpList _ _ _ _ _ wd.drew
        go_wp2
        go_ret
        have P := (R1.out.mod0 HD.out).put (x' := (⟨by_⟩ : DClock)) (cs' := [.int .i64 by_]) (O.out.left.mod HD.out (by simp)) HY.out gClock_flat (by decide) (fun _ => gClock_mk (I64_of (by omega) (by omega)))
        simp only [show gClock.size = 1 from rfl, Nat.mul_one] at P
        exact step_clocks (HM.out.trans HD.out (by simp)) (R2.out.mod0 HD.out) (O.out.mod HD.out (by simp)) hnb (y := ⟨x.fNow, x.fMaster, x.fClocks.set (wh.toNat - 1) ⟨by_⟩, x.fVer, x.fLeases⟩) (d := true) (by simp only [doRenew, hw0]; simp) rfl (HD.out.blk KB.out (by simp)) P.1 P.2.1 P.2.2
    by_cases e3 : k = 3
    · subst e3
      obtain ⟨⟨hwh1, hwh2⟩, hby⟩ : (0 ≤ wh ∧ wh ≤ n1 - 1) ∧ by_ = 0 := by simpa [isAct, within] using ha
      subst hby
      clear ha e1 e2
      by_cases hlo : 0 ≤ lowOf x
      · obtain ⟨y0, hy⟩ := R2.out.some_of_lt (k := wh.toNat) (by have := R1.out.1; have := R2.out.1; omega)
        obtain ⟨b1, o1, cs, f, rfl, hb1, hbf, hrd, _, hc⟩ := R2.out.at hy
        obtain ⟨rfl, _⟩ := gVLease_open hrd
        have HY := Lib.hid hy
        obtain ⟨_, C, t, hC⟩ := O.out.right.2 b1 hbf
        have cc0 : wc.cell? ⟨b1, o1 + wh.toNat * 2, none⟩ = some (.int .i64 y0.fVer) := hc 0 _ rfl
        have cc1 : wc.cell? ⟨b1, o1 + wh.toNat * 2 + 1, none⟩ = some (.int .i64 y0.fUntil) := hc 1 _ rfl
        have ff0 : wc.frozen? ⟨b1, o1 + wh.toNat * 2, none⟩ = false := free_of_block hC
        have ff1 : wc.frozen? ⟨b1, o1 + wh.toNat * 2 + 1, none⟩ = false := free_of_block hC
        have hn2 : wh < (n2 : Int) := by have := R1.out.1; have := R2.out.1; omega
        have hl20 : lowOf x ≤ 2000 := by unfold lowOf; omega
        clear hy hc hrd hC
        go_wp2_with fail
        go_quiet (fail)
        have dB : ∀ o, (wc.drewN nq).cell? ⟨b, o, none⟩ = _ := cB
        have dR : ∀ o, (wc.drewN nq).cell? ⟨w.heap.size, o, none⟩ = _ := cR
        have dA : ∀ o, (wc.drewN nq).cell? ⟨w.heap.size + 1, o, none⟩ = _ := cA
        have dP : ∀ o, (wc.drewN nq).cell? ⟨p, o, none⟩ = _ := cP
        have dc0 : (wc.drewN nq).cell? ⟨b1, o1 + wh.toNat * 2, none⟩ = _ := cc0
        have dc1 : (wc.drewN nq).cell? ⟨b1, o1 + wh.toNat * 2 + 1, none⟩ = _ := cc1
        have df0 : (wc.drewN nq).frozen? ⟨b1, o1 + wh.toNat * 2, none⟩ = _ := ff0
        have df1 : (wc.drewN nq).frozen? ⟨b1, o1 + wh.toNat * 2 + 1, none⟩ = _ := ff1
        have HD := Lib.hid (mod_drewN wc nq)
        generalize wc.drewN nq = wd at *
        clear cB cR cA cc0 cc1 ff0 ff1 cP fB
        go_wp2_with fail
        go_still_tail 14, (by kernel_rfl)
        change wpList _ _ _ _ _ wd.drew
        go_wp2
        go_ret
        have P := (R2.out.mod0 HD.out).put (x' := (⟨x.fVer, lowOf x + 20⟩ : DVLease)) (cs' := [.int .i64 x.fVer, .int .i64 (lowOf x + 20)]) (O.out.right.mod HD.out (by simp)) HY.out gVLease_flat (by decide) (fun _ => gVLease_mk (I64_of (by omega) (by omega)) (I64_of (by omega) (by omega)))
        exact step_leases (HM.out.trans HD.out (by simp)) (R1.out.mod0 HD.out) (O.out.mod HD.out (by simp)) hnb (y := ⟨x.fNow, x.fMaster, x.fClocks, x.fVer, x.fLeases.set wh.toNat ⟨x.fVer, lowOf x + 20⟩⟩) (d := true) (by simp [doRenew, hlo]) rfl (HD.out.blk KB.out (by simp)) P.1 P.2.1 P.2.2
      · have t1 : decide (0 ≤ lowOf x) = false := by simpa using hlo
        go_wp2_with fail
        go_quiet (fail)
        go_wp2
        go_ret
        exact step_close HM.out R1.out R2.out O.out hnb (y := x) (d := false) (by simp [doRenew, hlo]) rfl rfl KB.out ((mod_drewN _ _).weaken (by simp))
    have e4 : k = 4 := by
      simp [isAct, e1, e2, e3] at ha; exact ha.1
    subst e4
    clear ha e1 e2 e3
    by_cases hv : x.fVer < 20
    · go_wp2_with fail
      go_quiet (fail)
      have dB : ∀ o, (wc.drewN nq).cell? ⟨b, o, none⟩ = _ := cB
      have eB : ∀ o, (wc.drewN nq).frozen? ⟨b, o, none⟩ = _ := fB
      have dR : ∀ o, (wc.drewN nq).cell? ⟨w.heap.size, o, none⟩ = _ := cR
      have dA : ∀ o, (wc.drewN nq).cell? ⟨w.heap.size + 1, o, none⟩ = _ := cA
      have dP : ∀ o, (wc.drewN nq).cell? ⟨p, o, none⟩ = _ := cP
      have HD := Lib.hid (mod_drewN wc nq)
      generalize wc.drewN nq = wd at *
      clear cB cR cA cP fB
      go_wp2_with fail
      refine (hasVLease_any wd (stale x.fVer (lowOf x)) _ _ (fun _ _ => by kernel_rfl) _ _ _ _ _ _ (by have := R1.out.1; have := R2.out.1; omega) (Mod.refl _ _) (R2.out.mod0 HD.out) ?_).mono ?_
      · intro W cs y fp _ hW hr
        obtain ⟨rfl, _⟩ := gVLease_open hr
        exact step1_any _ _ _ _ _ b _ _ ((hW.cell (p := ⟨w.heap.size, 0, none⟩) (by have := HM.out.size; have := HD.out.size; dsimp only; omega) (by simp)).trans (dR 0)) ((hW.cell (p := ⟨b, 3, none⟩) (by have := HM.out.size; have := HD.out.size; dsimp only; omega) (by simp)).trans (dB 3)) ((hW.cell (p := ⟨p, 0, none⟩) (by have := HD.out.size; dsimp only; omega) (by simp)).trans (dP 0))
      rintro e w2 ⟨rfl, hm2⟩
      have kb := hm2.blk (HD.out.blk KB.out (by simp)) (by simp)
      have KB2 := Lib.hid kb
      have cB2 := blk_cell kb
      have fB2 := blk_free kb
      have cR2 : w2.cell? ⟨w.heap.size, 0, none⟩ = _ := (hm2.cell (p := ⟨w.heap.size, 0, none⟩) (by have := HM.out.size; have := HD.out.size; dsimp only; omega) (by simp)).trans (dR 0)
      have HM2 := Lib.hid (HD.out.trans hm2 (by simp))
      clear hm2 kb
      cases hs : x.fLeases.any (stale x.fVer (lowOf x)) with
      | true =>
        go_wp2
        go_ret
        exact step_close HM.out R1.out R2.out O.out hnb (y := x) (d := false) (by simp [doRenew, hs]) rfl rfl (HM2.out.blk KB.out (by simp)) (HM2.out.weaken (by simp))
      | false =>
        go_wp2
        go_ret
        exact step_close HM.out R1.out R2.out O.out hnb (y := ⟨x.fNow, x.fMaster, x.fClocks, x.fVer + 1, x.fLeases⟩) (d := true) (by simp [doRenew, hs, hv]) rfl rfl (heap_setCell_same _ _ _ _ _ _ KB2.out) ((HM2.out.weaken (by simp)).setCell (by simp) _)
    · have t1 : decide (x.fVer < 20) = false := by simpa using hv
      go_wp2_with fail
      go_quiet (fail)
      go_wp2
      go_ret
      exact step_close HM.out R1.out R2.out O.out hnb (y := x) (d := false) (by simp [doRenew]; intro h; omega) rfl rfl KB.out ((mod_drewN _ _).weaken (by simp))
end Go.Proofs.Ytjneaalpiangdaa

/- spec: l28Do. -/
import Derived.Test.YtjneaalpiangdaaS3
namespace Go.Proofs.Ytjneaalpiangdaa
open Go.RowKit
def DoPost (x : DRenew) (a : DRenewAct) (a1 a2 : Option Addr) (n1 c1 n2 c2 : Nat) (f1 f2 : List Nat) (w : World) (e : Ending) (w' : World) : Prop :=
  e = .returned (.tuple #[.agg #[.int .i64 (doRenew x a).1.fNow, .int .i64 (doRenew x a).1.fMaster.fOff, .slice a1 n1 c1, .int .i64 (doRenew x a).1.fVer, .slice a2 n2 c2], .bool (doRenew x a).2]) ∧
    RdS gClock w' a1 n1 (doRenew x a).1.fClocks f1 ∧ RdS gVLease w' a2 n2 (doRenew x a).1.fLeases f2 ∧ Own 0 w' (f1 ++ f2) ∧ Mod (f1 ++ f2) w w'
theorem do_close {x y : DRenew} {a : DRenewAct} {d : Bool} {a1 a2 : Option Addr} {n1 c1 n2 c2 : Nat} {f1 f2 : List Nat} {w W : World} (R1 : RdS gClock w a1 n1 x.fClocks f1) (R2 : RdS gVLease w a2 n2 x.fLeases f2) (O : Own 0 w (f1 ++ f2))
    (hd : doRenew x a = (y, d)) (e1 : y.fClocks = x.fClocks) (e2 : y.fLeases = x.fLeases) (hW : Mod [] w W) :
    DoPost x a a1 a2 n1 c1 n2 c2 f1 f2 w (.returned (.tuple #[.agg #[.int .i64 y.fNow, .int .i64 y.fMaster.fOff, .slice a1 n1 c1, .int .i64 y.fVer, .slice a2 n2 c2], .bool d])) W := by
  unfold DoPost
  rw [hd]
  exact ⟨rfl, by rw [e1]; exact R1.mod0 hW, by rw [e2]; exact R2.mod0 hW, O.mod hW (by simp), hW.weaken (by simp)⟩
theorem do_close1 {x y : DRenew} {a : DRenewAct} {d : Bool} {a1 a2 : Option Addr} {n1 c1 n2 c2 : Nat} {f1 f2 : List Nat} {w wp W : World} (R2 : RdS gVLease w a2 n2 x.fLeases f2) (O : Own 0 w (f1 ++ f2))
    (hd : doRenew x a = (y, d)) (e2 : y.fLeases = x.fLeases) (P : RdS gClock wp a1 n1 y.fClocks f1) (PO : Own 0 wp f1) (hP : Mod f1 w wp) {S : List Nat} (hW : Mod S wp W) (hS : ∀ q ∈ S, w.heap.size ≤ q) (hfw : ∀ q ∈ f1 ++ f2, q < w.heap.size) :
    DoPost x a a1 a2 n1 c1 n2 c2 f1 f2 w (.returned (.tuple #[.agg #[.int .i64 y.fNow, .int .i64 y.fMaster.fOff, .slice a1 n1 c1, .int .i64 y.fVer, .slice a2 n2 c2], .bool d])) W := by
  have hq : ∀ q ∈ f1 ++ f2, q ∉ S := fun q h hs => by have := hS q hs; have := hfw q h; omega
  unfold DoPost
  rw [hd]
  exact ⟨rfl, P.mod hW (fun q h => hq q (by simp [h])), by rw [e2]; exact (R2.mod hP (fun q h1 h2 => O.apart q h2 h1)).mod hW (fun q h => hq q (by simp [h])),
    (PO.app (O.right.mod hP (fun q h1 h2 => O.apart q h2 h1)) O.apart).mod hW hq, (hP.weaken (S' := f1 ++ f2) (fun q h => Or.inl (by simp [h]))).trans hW (fun q h => Or.inr (hS q h))⟩
theorem do_close2 {x y : DRenew} {a : DRenewAct} {d : Bool} {a1 a2 : Option Addr} {n1 c1 n2 c2 : Nat} {f1 f2 : List Nat} {w wp W : World} (R1 : RdS gClock w a1 n1 x.fClocks f1) (O : Own 0 w (f1 ++ f2))
    (hd : doRenew x a = (y, d)) (e2 : y.fClocks = x.fClocks) (P : RdS gVLease wp a2 n2 y.fLeases f2) (PO : Own 0 wp f2) (hP : Mod f2 w wp) {S : List Nat} (hW : Mod S wp W) (hS : ∀ q ∈ S, w.heap.size ≤ q) (hfw : ∀ q ∈ f1 ++ f2, q < w.heap.size) :
    DoPost x a a1 a2 n1 c1 n2 c2 f1 f2 w (.returned (.tuple #[.agg #[.int .i64 y.fNow, .int .i64 y.fMaster.fOff, .slice a1 n1 c1, .int .i64 y.fVer, .slice a2 n2 c2], .bool d])) W := by
  have hq : ∀ q ∈ f1 ++ f2, q ∉ S := fun q h hs => by have := hS q hs; have := hfw q h; omega
  unfold DoPost
  rw [hd]
  exact ⟨rfl, by rw [e2]; exact (R1.mod hP (fun q h1 h2 => O.apart q h1 h2)).mod hW (fun q h => hq q (by simp [h])), P.mod hW (fun q h => hq q (by simp [h])),
    ((O.left.mod hP (fun q h1 h2 => O.apart q h1 h2)).app PO O.apart).mod hW hq, (hP.weaken (S' := f1 ++ f2) (fun q h => Or.inl (by simp [h]))).trans hW (fun q h => Or.inr (hS q h))⟩
set_option maxRecDepth 100000 in
set_option maxHeartbeats 1600000 in
theorem l28Do_any (x : DRenew) (a : DRenewAct) (a1 a2 : Option Addr) (n1 c1 n2 c2 : Nat) (f1 f2 : List Nat) (w : World)
    (h1 : RdS gClock w a1 n1 x.fClocks f1) (h2 : RdS gVLease w a2 n2 x.fLeases f2) (ho : Own 0 w (f1 ++ f2)) (hg : goodRenew x = true) (ha : isAct n1 a = true) :
    Calls Try.prog 49 #[.agg #[.int .i64 x.fNow, .int .i64 x.fMaster.fOff, .slice a1 n1 c1, .int .i64 x.fVer, .slice a2 n2 c2], .agg #[.int .i64 a.fKind, .int .i64 a.fWho, .int .i64 a.fBy]] w (DoPost x a a1 a2 n1 c1 n2 c2 f1 f2 w) := by
  obtain ⟨g1, g2, g3, g4, g5, g6, g7, g8, g9⟩ := good_bounds hg
  have hfw := ho.lt
  have R1 := Lib.hid h1; have R2 := Lib.hid h2; have O := Lib.hid ho; have HG := Lib.hid hg
  have hn1 : n1 ≤ 3 := by have := h1.1; omega
  have hn12 : n2 = n1 := by have := h1.1; have := h2.1; omega
  have HN := Lib.hid hn12
  clear h1 h2 ho hg hn12 g9
  obtain ⟨k, wh, by_⟩ := a
  by_cases e1 : k = 1
  · subst e1
    obtain ⟨hwh, hby1, hby2⟩ : wh = 0 ∧ 1 ≤ by_ ∧ by_ ≤ 50 := by simpa [isAct, within] using ha
    subst hwh
    clear ha
    by_cases hle : x.fNow + by_ ≤ 1000
    · go_enter Try.func49, Try.ntmps49
      go_wp2
      refine bodyPost_ret (v := .tuple #[.agg #[.int .i64 (x.fNow + by_), .int .i64 x.fMaster.fOff, .slice a1 n1 c1, .int .i64 x.fVer, .slice a2 n2 c2], .bool true]) (by simp [results, Try.results49, go_sem]) rfl ?_
      exact do_close R1.out R2.out O.out (y := ⟨x.fNow + by_, x.fMaster, x.fClocks, x.fVer, x.fLeases⟩) (by simp [doRenew, hle]) rfl rfl ((((Mod.refl _ _).alloc _).alloc _).alloc _)
    · have hlt : 1000 < x.fNow + by_ := by omega
      go_enter Try.func49, Try.ntmps49
      go_wp2
      refine bodyPost_ret (v := .tuple #[.agg #[.int .i64 x.fNow, .int .i64 x.fMaster.fOff, .slice a1 n1 c1, .int .i64 x.fVer, .slice a2 n2 c2], .bool false]) (by simp [results, Try.results49, go_sem]) rfl ?_
      exact do_close R1.out R2.out O.out (y := x) (by simp [doRenew, hle]) rfl rfl ((((Mod.refl _ _).alloc _).alloc _).alloc _)
  by_cases e2 : k = 2
  · subst e2
    obtain ⟨⟨hwh1, hwh2⟩, hby1, hby2⟩ : (0 ≤ wh ∧ wh ≤ n1) ∧ -5 ≤ by_ ∧ by_ ≤ 5 := by simpa [isAct, within, goodClock] using ha
    clear ha e1
    by_cases hw0 : wh = 0
    · subst hw0
      go_enter Try.func49, Try.ntmps49
      go_wp2
      refine bodyPost_ret (v := .tuple #[.agg #[.int .i64 x.fNow, .int .i64 by_, .slice a1 n1 c1, .int .i64 x.fVer, .slice a2 n2 c2], .bool true]) (by simp [results, Try.results49, go_sem]) rfl ?_
      exact do_close R1.out R2.out O.out (y := ⟨x.fNow, ⟨by_⟩, x.fClocks, x.fVer, x.fLeases⟩) (by simp [doRenew]) rfl rfl ((((Mod.refl _ _).alloc _).alloc _).alloc _)
    · have t0 : (wh == 0) = false := by simp [hw0]
      obtain ⟨y0, hy⟩ := R1.out.some_of_lt (k := wh.toNat - 1) (by omega)
      obtain ⟨b1, o1, cs, f, rfl, hb1, hbf, hrd, _, hc⟩ := R1.out.at hy
      obtain ⟨rfl, _⟩ := gClock_open hrd
      simp only [show gClock.size = 1 from rfl, Nat.mul_one] at hc
      have HY := Lib.hid hy
      obtain ⟨_, C, t, hC⟩ := O.out.left.2 b1 hbf
      have cc : w.cell? ⟨b1, o1 + (wh.toNat - 1), none⟩ = some (.int .i64 y0.fOff) := hc 0 _ rfl
      have ff : w.frozen? ⟨b1, o1 + (wh.toNat - 1), none⟩ = false := free_of_block hC
      have hj2 : 1 ≤ wh := by omega
      have hj0 : 0 ≤ wh - 1 := by omega
      have hj1 : wh - 1 < (n1 : Int) := by omega
      have hv1 : b1 < w.heap.size + 1 := by omega
      have hv2 : b1 < w.heap.size + 1 + 1 := by omega
      clear hy hc hrd hC
      go_enter Try.func49, Try.ntmps49
      go_wp2
      refine bodyPost_ret (v := .tuple #[.agg #[.int .i64 x.fNow, .int .i64 x.fMaster.fOff, .slice (some ⟨b1, o1, none⟩) n1 c1, .int .i64 x.fVer, .slice a2 n2 c2], .bool true]) (by simp [results, Try.results49, go_sem]) rfl ?_
      have P := R1.out.put (x' := (⟨by_⟩ : DClock)) (cs' := [.int .i64 by_]) O.out.left HY.out gClock_flat (by decide) (fun _ => gClock_mk (I64_of (by omega) (by omega)))
      simp only [show gClock.size = 1 from rfl, Nat.mul_one] at P
      exact do_close1 R2.out O.out (y := ⟨x.fNow, x.fMaster, x.fClocks.set (wh.toNat - 1) ⟨by_⟩, x.fVer, x.fLeases⟩) (by simp only [doRenew, hw0]; simp) rfl P.1 P.2.1 P.2.2 (S := []) ((((Mod.refl _ _).alloc _).alloc _).alloc _) (by simp) hfw
  by_cases e3 : k = 3
  · subst e3
    obtain ⟨⟨hwh1, hwh2⟩, hby⟩ : (0 ≤ wh ∧ wh ≤ n1 - 1) ∧ by_ = 0 := by simpa [isAct, within] using ha
    subst hby
    clear ha e1 e2
    obtain ⟨y0, hy⟩ := R2.out.some_of_lt (k := wh.toNat) (by have := HN.out; omega)
    obtain ⟨b1, o1, cs, f, rfl, hb1, hbf, hrd, _, hc⟩ := R2.out.at hy
    obtain ⟨rfl, _⟩ := gVLease_open hrd
    have HY := Lib.hid hy
    obtain ⟨_, C, t, hC⟩ := O.out.right.2 b1 hbf
    have hn2 : wh < (n2 : Int) := by have := HN.out; omega
    have HC := Lib.hid hC; have Hc := Lib.hid hc
    clear hy hc hrd hC
    go_enter Try.func49, Try.ntmps49
    go_wp2_with fail
    refine (l28Low_any _ _ _ _ _ _ _ _ _ _ _ (by omega) (by omega)).mono ?_
    rintro e w1 ⟨rfl, hm1⟩
    have kB := hm1.blk (b := w.heap.size) (heap3_0 w _ _ _) (by simp)
    have kA := hm1.blk (b := w.heap.size + 1) (heap3_1 w _ _ _) (by simp)
    have kR := hm1.blk (b := w.heap.size + 2) (heap3_2 w _ _ _) (by simp)
    have cB := blk_cell kB; have cA := blk_cell kA; have cR := blk_cell kR; have fR := blk_free kR
    have hM1 := Lib.hid (((((Mod.refl [] w).alloc _).alloc _).alloc _).trans hm1 (by simp))
    have hz : w.heap.size + 2 < w1.heap.size := by have := hm1.size; simp at this; omega
    clear hm1 kB kA kR
    have hx1 : b1 ≠ w.heap.size := by omega
    have hx2 : b1 ≠ w.heap.size + 1 := by omega
    have hx3 : b1 ≠ w.heap.size + 1 + 1 := by omega
    by_cases hlo : 0 ≤ lowOf x
    · have hlo' : ¬ x.fNow + x.fMaster.fOff - 5 < 0 := by unfold lowOf at hlo; omega
      have cc0 : w1.cell? ⟨b1, o1 + wh.toNat * 2, none⟩ = some (.int .i64 y0.fVer) := (hM1.out.cell hb1 (by simp)).trans (Hc.out 0 _ rfl)
      have cc1 : w1.cell? ⟨b1, o1 + wh.toNat * 2 + 1, none⟩ = some (.int .i64 y0.fUntil) := (hM1.out.cell hb1 (by simp)).trans (Hc.out 1 _ rfl)
      have ff0 : w1.frozen? ⟨b1, o1 + wh.toNat * 2, none⟩ = false := free_of_block (hM1.out.blk HC.out (by simp))
      have ff1 : w1.frozen? ⟨b1, o1 + wh.toNat * 2 + 1, none⟩ = false := free_of_block (hM1.out.blk HC.out (by simp))
      go_wp2
      refine bodyPost_ret (v := .tuple #[.agg #[.int .i64 x.fNow, .int .i64 x.fMaster.fOff, .slice a1 n1 c1, .int .i64 x.fVer, .slice (some ⟨b1, o1, none⟩) n2 c2], .bool true]) (by simp [results, Try.results49, go_sem, *]) rfl ?_
      have P := (R2.out.mod0 hM1.out).put (x' := (⟨x.fVer, x.fNow + x.fMaster.fOff - 5 + 20⟩ : DVLease)) (cs' := [.int .i64 x.fVer, .int .i64 (x.fNow + x.fMaster.fOff - 5 + 20)]) (O.out.right.mod hM1.out (by simp)) HY.out gVLease_flat (by decide) (fun _ => gVLease_mk (I64_of (by omega) (by omega)) (I64_of (by omega) (by omega)))
      exact do_close2 R1.out O.out (y := ⟨x.fNow, x.fMaster, x.fClocks, x.fVer, x.fLeases.set wh.toNat ⟨x.fVer, x.fNow + x.fMaster.fOff - 5 + 20⟩⟩) (by have hlw : lowOf x = x.fNow + x.fMaster.fOff - 5 := rfl; rw [← hlw]; simp [doRenew, hlo]) rfl P.1 P.2.1 ((hM1.out.weaken (by simp)).trans P.2.2 (fun q h => Or.inl h)) (S := [w.heap.size + 2]) ((((((Mod.refl _ _).setCell (Or.inl (by simp)) _).setCell (Or.inl (by simp)) _).setCell (Or.inl (by simp)) _).setCell (Or.inl (by simp)) _).setCell (Or.inl (by simp)) _) (by simp) hfw
    · have hlo' : x.fNow + x.fMaster.fOff - 5 < 0 := by unfold lowOf at hlo; omega
      go_wp2
      refine bodyPost_ret (v := .tuple #[.agg #[.int .i64 x.fNow, .int .i64 x.fMaster.fOff, .slice a1 n1 c1, .int .i64 x.fVer, .slice (some ⟨b1, o1, none⟩) n2 c2], .bool false]) (by simp [results, Try.results49, go_sem, *]) rfl ?_
      exact do_close R1.out R2.out O.out (y := x) (by simp [doRenew, hlo]) rfl rfl (hM1.out.trans (S' := [w.heap.size + 2]) (by repeat (first | with_reducible exact Mod.refl _ _ | with_reducible refine Mod.setCell ?_ (Or.inl (by simp)) _)) (by simp))
  have e4 : k = 4 := by
    simp [isAct, e1, e2, e3] at ha; exact ha.1
  subst e4
  clear ha e1 e2 e3
  go_enter Try.func49, Try.ntmps49
  go_wp2_with fail
  refine (l28Raise_any w x _ _ _ _ _ _ _ _ (by have := HN.out; omega) ((((Mod.refl _ _).alloc _).alloc _).alloc _) R2.out HG.out).mono ?_
  rintro e w1 ⟨rfl, hm1⟩
  have kB := hm1.blk (b := w.heap.size) (heap3_0 w _ _ _) (by simp)
  have kR := hm1.blk (b := w.heap.size + 2) (heap3_2 w _ _ _) (by simp)
  have cB := blk_cell kB; have fB := blk_free kB; have cR := blk_cell kR; have fR := blk_free kR
  have hM1 := Lib.hid (((((Mod.refl [] w).alloc _).alloc _).alloc _).trans hm1 (by simp))
  clear hm1 kB kR
  cases hs : (!(x.fLeases.any (stale x.fVer (lowOf x))) && decide (x.fVer < 20)) with
  | false =>
    go_wp2
    refine bodyPost_ret (v := .tuple #[.agg #[.int .i64 x.fNow, .int .i64 x.fMaster.fOff, .slice a1 n1 c1, .int .i64 x.fVer, .slice a2 n2 c2], .bool false]) (by simp [results, Try.results49, go_sem, *]) rfl ?_
    have hd : doRenew x ⟨4, wh, by_⟩ = (x, false) := by
      have hn : ¬ (x.fVer < 20 ∧ x.fLeases.any (stale x.fVer (lowOf x)) = false) := fun ⟨h1, h2⟩ => by rw [h2] at hs; simp at hs; omega
      unfold doRenew
      rw [if_neg (by simp), if_neg (by simp), if_neg (by simp), if_neg hn]
    exact do_close R1.out R2.out O.out (y := x) hd rfl rfl (hM1.out.trans (S' := [w.heap.size + 2]) (by repeat (first | with_reducible exact Mod.refl _ _ | with_reducible refine Mod.setCell ?_ (Or.inl (by simp)) _)) (by simp))
  | true =>
    have hs' : x.fLeases.any (stale x.fVer (lowOf x)) = false ∧ x.fVer < 20 := by simpa using hs
    have hd : doRenew x ⟨4, wh, by_⟩ = (⟨x.fNow, x.fMaster, x.fClocks, x.fVer + 1, x.fLeases⟩, true) := by simp [doRenew, hs'.1, hs'.2]
    have HD := Lib.hid hd
    clear hs' hd
    go_wp2
    refine bodyPost_ret (v := .tuple #[.agg #[.int .i64 x.fNow, .int .i64 x.fMaster.fOff, .slice a1 n1 c1, .int .i64 (x.fVer + 1), .slice a2 n2 c2], .bool true]) (by simp [results, Try.results49, go_sem, *]) rfl ?_
    exact do_close R1.out R2.out O.out HD.out rfl rfl (hM1.out.trans (S' := [w.heap.size, w.heap.size + 2]) (by repeat (first | with_reducible exact Mod.refl _ _ | with_reducible refine Mod.setCell ?_ (Or.inl (by simp)) _)) (by simp))
end Go.Proofs.Ytjneaalpiangdaa

/- spec: StepRenew. -/
import Derived.Test.YtjneaalpiangdaaS4
import Derived.Deep.DeepCutAuto
import Derived.Deep.RegionWith
namespace Go.Proofs.Ytjneaalpiangdaa
open Go.RowKit
theorem put5 {w : World} {P : Nat} {z0 z1 z2 z3 z4 : Value} {T : TypeId} (h : w.heap[P]? = some (.cells #[z0, z1, z2, z3, z4] T (0, 0))) (v0 v1 v2 v3 v4 : Value) :
    (((((w.setCell ⟨P, 0, none⟩ v0).setCell ⟨P, 1, none⟩ v1).setCell ⟨P, 2, none⟩ v2).setCell ⟨P, 3, none⟩ v3).setCell ⟨P, 4, none⟩ v4).heap[P]? = some (.cells #[v0, v1, v2, v3, v4] T (0, 0)) ∧
      Mod [P] w (((((w.setCell ⟨P, 0, none⟩ v0).setCell ⟨P, 1, none⟩ v1).setCell ⟨P, 2, none⟩ v2).setCell ⟨P, 3, none⟩ v3).setCell ⟨P, 4, none⟩ v4) :=
  ⟨heap_setCell_same _ _ _ _ _ _ (heap_setCell_same _ _ _ _ _ _ (heap_setCell_same _ _ _ _ _ _ (heap_setCell_same _ _ _ _ _ _ (heap_setCell_same _ _ _ _ _ _ h)))),
   (((((Mod.refl [P] w).setCell (p := ⟨P, 0, none⟩) (Or.inl (by simp)) v0).setCell (p := ⟨P, 1, none⟩) (Or.inl (by simp)) v1).setCell (p := ⟨P, 2, none⟩) (Or.inl (by simp)) v2).setCell (p := ⟨P, 3, none⟩) (Or.inl (by simp)) v3).setCell (p := ⟨P, 4, none⟩) (Or.inl (by simp)) v4⟩
theorem sp_of {W : World} {h : Nat} {x : DRenew} {a : DRenewAct} {a1 a2 : Option Addr} {n1 c1 n2 c2 : Nat} (kB : W.heap[h]? = some (.cells #[.int .i64 x.fNow, .int .i64 x.fMaster.fOff, .slice a1 n1 c1, .int .i64 x.fVer, .slice a2 n2 c2] 28 (0, 0)))
    (kA : W.heap[h + 1]? = some (.cells #[.int .i64 a.fKind, .int .i64 a.fWho, .int .i64 a.fBy] 30 (0, 0))) :
    W.cell? ⟨h, 0, none⟩ = some (.int .i64 x.fNow) ∧ W.cell? ⟨h, 1, none⟩ = some (.int .i64 x.fMaster.fOff) ∧ W.cell? ⟨h, 2, none⟩ = some (.slice a1 n1 c1) ∧ W.cell? ⟨h, 3, none⟩ = some (.int .i64 x.fVer) ∧ W.cell? ⟨h, 4, none⟩ = some (.slice a2 n2 c2) ∧
      W.cell? ⟨h + 1, 0, none⟩ = some (.int .i64 a.fKind) ∧ W.cell? ⟨h + 1, 1, none⟩ = some (.int .i64 a.fWho) ∧ W.cell? ⟨h + 1, 2, none⟩ = some (.int .i64 a.fBy) :=
  ⟨blk_cell kB 0, blk_cell kB 1, blk_cell kB 2, blk_cell kB 3, blk_cell kB 4, blk_cell kA 0, blk_cell kA 1, blk_cell kA 2⟩
set_option maxRecDepth 100000 in
set_option maxHeartbeats 1600000 in
theorem sStepRenew_any (w0 : World) (x : DRenew) (a1 a2 : Option Addr) (n1 c1 n2 c2 : Nat) (f1 f2 : List Nat) (a : DRenewAct) (w : World) (hn1 : n1 ≤ 1048576) (hn2 : n2 ≤ 1048576) (hm0 : Mod [] w0 w)
    (h1 : RdS gClock w0 a1 n1 x.fClocks f1) (h2 : RdS gVLease w0 a2 n2 x.fLeases f2) :
    Calls Try.prog 9 #[.agg #[.int .i64 x.fNow, .int .i64 x.fMaster.fOff, .slice a1 n1 c1, .int .i64 x.fVer, .slice a2 n2 c2], .agg #[.int .i64 a.fKind, .int .i64 a.fWho, .int .i64 a.fBy]] w
      fun e w' => ∃ v, e = .returned (.tuple #[v, .bool (stepRenew x a).2.1, .bool (stepRenew x a).2.2]) ∧ ResRenew w.heap.size w' v (stepRenew x a).1 ∧ Mod [] w w' := by
  go_enter Try.func9, Try.ntmps9
  go_wp2_with fail
  refine (sGoodRenewAct_any w0 x _ _ _ _ _ _ _ _ a _ (by omega) (by omega) (((hm0.alloc _).alloc _).alloc _) h1 h2).mono ?_
  rintro e w1 ⟨rfl, hm1⟩
  have hM1 := Lib.hid (((((Mod.refl [] w).alloc _).alloc _).alloc _).trans hm1 (by simp))
  have hz1 : w.heap.size + 2 < w1.heap.size := by have := hm1.size; simp at this; omega
  have kB := hm1.blk (b := w.heap.size) (heap3_0 w _ _ _) (by simp)
  have kA := hm1.blk (b := w.heap.size + 1) (heap3_1 w _ _ _) (by simp)
  have kR := hm1.blk (b := w.heap.size + 2) (heap3_2 w _ _ _) (by simp)
  have cB := blk_cell kB; have cA := blk_cell kA; have cR := blk_cell kR; have fR := blk_free kR
  have KA := Lib.hid kA; have KR := Lib.hid kR; have KB := Lib.hid kB
  clear hm1 kB kA kR
  cases e1 : (goodRenew x && isAct x.fClocks.length a) with
  | false =>
    go_wp2
    refine bodyPost_ret (v := .tuple #[.agg #[.int .i64 0, .int .i64 0, .slice none 0 0, .int .i64 0, .slice none 0 0], .bool false, .bool false]) (by simp [results, Try.results9, go_sem, *]) rfl ?_
    have key : ∀ W, Mod [w.heap.size + 2] w1 W → ∃ v, Ending.returned (.tuple #[.agg #[.int .i64 0, .int .i64 0, .slice none 0 0, .int .i64 0, .slice none 0 0], .bool false, .bool false]) = .returned (.tuple #[v, .bool (stepRenew x a).2.1, .bool (stepRenew x a).2.2]) ∧ ResRenew w.heap.size W v (stepRenew x a).1 ∧ Mod [] w W := fun W hW => by
      have es : stepRenew x a = (noRenew, false, false) := by unfold stepRenew; rw [e1]; rfl
      rw [es]
      exact ⟨_, rfl, resNo _ _, hM1.out.trans hW (fun q hq => Or.inr (by simp at hq; omega))⟩
    exact key _ (by repeat (first | with_reducible exact Mod.refl _ _ | with_reducible refine Mod.setCell ?_ (Or.inl (by simp)) _))
  | true =>
    have E1 := Lib.hid e1
    obtain ⟨hg, ha⟩ := Bool.and_eq_true_iff.1 e1
    have HG := Lib.hid hg; have HA := Lib.hid ha
    have HW := Lib.hid (hm0.trans hM1.out (by simp))
    have HH1 := Lib.hid h1; have HH2 := Lib.hid h2
    have hp0 : w.heap.size < w1.heap.size := by omega
    have hp1 : w.heap.size + 1 < w1.heap.size := by omega
    clear e1 hg ha h1 h2
    go_upto_region 3 with fail
    go_cut [7, 8] (fun s7 s8 wx => ∃ (p : Nat) (b1 b2 : Option Addr) (m1 d1 m2 d2 : Nat) (q1 q2 : List Nat), s7 = .pointer (some ⟨p, 0, none⟩) ∧ s8 = .bool (doRenew x a).2 ∧ w.heap.size + 2 < p ∧
      wx.heap[p]? = some (.cells #[.int .i64 (doRenew x a).1.fNow, .int .i64 (doRenew x a).1.fMaster.fOff, .slice b1 m1 d1, .int .i64 (doRenew x a).1.fVer, .slice b2 m2 d2] 28 (0, 0)) ∧
      wx.heap[w.heap.size + 2]? = some (.cells #[.int .i64 0, .int .i64 0, .slice none 0 0, .int .i64 0, .slice none 0 0] 28 (0, 0)) ∧ m1 ≤ d1 ∧ m2 ≤ d2 ∧
      RdS gClock wx b1 m1 (doRenew x a).1.fClocks q1 ∧ RdS gVLease wx b2 m2 (doRenew x a).1.fLeases q2 ∧ Own (w.heap.size + 3) wx (q1 ++ q2) ∧ Mod [] w wx)
    case first =>
      have q1 := sp_of (W := w1.drew) KB.out KA.out
      have q1a := fun Z => sp_of (W := (w1.alloc Z).drew) (((Mod.refl [] w1).alloc Z).blk KB.out (by simp)) (((Mod.refl [] w1).alloc Z).blk KA.out (by simp))
      have hfx : ∀ (u : Value) (d : Bool) (w : World), (Instr.extract (.tuple #[u, .bool d]) 1).run Try.prog w = .ok (.bool d) w := fun _ _ _ => by kernel_rfl
      go_region_held3 (fun W => W.cell? ⟨w.heap.size, 0, none⟩ = some (.int .i64 x.fNow) ∧ W.cell? ⟨w.heap.size, 1, none⟩ = some (.int .i64 x.fMaster.fOff) ∧ W.cell? ⟨w.heap.size, 2, none⟩ = some (.slice a1 n1 c1) ∧ W.cell? ⟨w.heap.size, 3, none⟩ = some (.int .i64 x.fVer) ∧ W.cell? ⟨w.heap.size, 4, none⟩ = some (.slice a2 n2 c2) ∧
          W.cell? ⟨w.heap.size + 1, 0, none⟩ = some (.int .i64 a.fKind) ∧ W.cell? ⟨w.heap.size + 1, 1, none⟩ = some (.int .i64 a.fWho) ∧ W.cell? ⟨w.heap.size + 1, 2, none⟩ = some (.int .i64 a.fBy))
        (first | with_reducible exact q3 | with_reducible exact q3a _ | with_reducible exact q3c _ _ _ _ _ | with_reducible exact q2 | with_reducible exact q2a _ | with_reducible exact q1 | with_reducible exact q1a _)
        (first
          | (go_at_call 50; refine (l28Own_any w0 x _ _ _ _ _ _ _ _ _ hn1 hn2 ?_ HH1.out HH2.out).mono ?_; · first | exact HW.out.trans (Mod.refl [] w1).drew (by simp) | exact HW.out.trans ((Mod.refl [] w1).alloc _).drew (by simp)
             rintro e w2 ⟨v, rfl, ⟨b1, m1, d1, g1, b2, m2, d2, g2, rfl, k1, k2, r1, r2, o⟩, hm2⟩
             first
             | (have hm12 : Mod [] w1 w2 := ((Mod.refl [] w1).alloc _).drew.trans hm2 (by simp)
                have kp := hm2.blk (heap1_0 w1 _) (by simp)
                have hgp : ∀ q ∈ g1 ++ g2, w1.heap.size + 1 ≤ q := (fun q hq => by have := (o.2 q hq).1; simp at this; omega)
                have KB2 := hm12.blk KB.out (by simp); have KA2 := hm12.blk KA.out (by simp); have KR2 := Lib.hid (hm12.blk KR.out (by simp))
                have q2 := sp_of KB2 KA2; have q2a := fun Z => sp_of (W := w2.alloc Z) (((Mod.refl [] w2).alloc Z).blk KB2 (by simp)) (((Mod.refl [] w2).alloc Z).blk KA2 (by simp)); have s0 := q2.1; have s1 := q2.2.1; have s2 := q2.2.2.1; have s3 := q2.2.2.2.1; have s4 := q2.2.2.2.2.1; have s5 := q2.2.2.2.2.2.1; have s6 := q2.2.2.2.2.2.2.1; have s7 := q2.2.2.2.2.2.2.2
                have hge : ∀ q ∈ g1 ++ g2, w1.heap.size ≤ q := (fun q hq => by have := (o.2 q hq).1; simp at this; omega)
                have hlt : ∀ q ∈ g1 ++ g2, q < w2.heap.size := o.lt
                have KB2' := Lib.hid KB2; have KA2' := Lib.hid KA2; have HM12 := Lib.hid hm12; have HA1 := Lib.hid (show isAct m1 a = true by rw [← r1.1]; exact HA.out); clear KB2 KA2 hm12 hm2)
             | (have hm12 : Mod [] w1 w2 := ((Mod.refl [] w1).drew).trans hm2 (by simp)
                have KB2 := hm12.blk KB.out (by simp); have KA2 := hm12.blk KA.out (by simp); have KR2 := Lib.hid (hm12.blk KR.out (by simp))
                have q2 := sp_of KB2 KA2; have q2a := fun Z => sp_of (W := w2.alloc Z) (((Mod.refl [] w2).alloc Z).blk KB2 (by simp)) (((Mod.refl [] w2).alloc Z).blk KA2 (by simp)); have s0 := q2.1; have s1 := q2.2.1; have s2 := q2.2.2.1; have s3 := q2.2.2.2.1; have s4 := q2.2.2.2.2.1; have s5 := q2.2.2.2.2.2.1; have s6 := q2.2.2.2.2.2.2.1; have s7 := q2.2.2.2.2.2.2.2
                have hge : ∀ q ∈ g1 ++ g2, w1.heap.size ≤ q := (fun q hq => by have := (o.2 q hq).1; simp at this; omega)
                have hlt : ∀ q ∈ g1 ++ g2, q < w2.heap.size := o.lt
                have KB2' := Lib.hid KB2; have KA2' := Lib.hid KA2; have HM12 := Lib.hid hm12; have HA1 := Lib.hid (show isAct m1 a = true by rw [← r1.1]; exact HA.out); clear KB2 KA2 hm12 hm2))
          | (go_at_call 49
             first
             | (have kpx := kp
                clear kpx
                have oz := o.mono (Nat.zero_le _)
                (with_reducible refine (l28Do_any x a b1 b2 m1 d1 m2 d2 g1 g2 w2 r1 r2 oz HG.out HA1.out).mono ?_)
                rintro e w3 ⟨rfl, pr1, pr2, po, hmW⟩
                have kp3 := hmW.blk kp (fun h => by have := hgp _ h; omega)
                have HNP := Lib.hid (fun q (h : q ∈ g1 ++ g2) => (by have := hgp q h; simp; omega : q ∉ [w1.heap.size])); have hPW : w.heap.size + 2 < w1.heap.size := hz1; have hQW : w.heap.size + 2 ≠ w1.heap.size := (by omega)
                have kpc := blk_cell kp3; have kpf := blk_free kp3; have KP := Lib.hid kp3; clear kp3 kp
                have HE : ∀ q ∈ g1 ++ g2, w.heap.size + 2 < q := (fun q hq => by have := hge q hq; omega)
                have kB3 := hmW.blk KB2'.out (fun h => by have := HE _ h; omega); have kA3 := hmW.blk KA2'.out (fun h => by have := HE _ h; omega); have KR3 := Lib.hid (hmW.blk KR2.out (fun h => by have := HE _ h; omega))
                have hltw0 := HM12.out.size; have q3 := sp_of kB3 kA3; have q3c := fun v0 v1 v2 v3 v4 => sp_of (W := (((((w3.setCell ⟨w1.heap.size, 0, none⟩ v0).setCell ⟨w1.heap.size, 1, none⟩ v1).setCell ⟨w1.heap.size, 2, none⟩ v2).setCell ⟨w1.heap.size, 3, none⟩ v3).setCell ⟨w1.heap.size, 4, none⟩ v4)) (((((((Mod.refl [w1.heap.size] w3).setCell (p := ⟨w1.heap.size, 0, none⟩) (Or.inl (by simp)) v0).setCell (p := ⟨w1.heap.size, 1, none⟩) (Or.inl (by simp)) v1).setCell (p := ⟨w1.heap.size, 2, none⟩) (Or.inl (by simp)) v2).setCell (p := ⟨w1.heap.size, 3, none⟩) (Or.inl (by simp)) v3).setCell (p := ⟨w1.heap.size, 4, none⟩) (Or.inl (by simp)) v4).blk kB3 (by simp; omega)) (((((((Mod.refl [w1.heap.size] w3).setCell (p := ⟨w1.heap.size, 0, none⟩) (Or.inl (by simp)) v0).setCell (p := ⟨w1.heap.size, 1, none⟩) (Or.inl (by simp)) v1).setCell (p := ⟨w1.heap.size, 2, none⟩) (Or.inl (by simp)) v2).setCell (p := ⟨w1.heap.size, 3, none⟩) (Or.inl (by simp)) v3).setCell (p := ⟨w1.heap.size, 4, none⟩) (Or.inl (by simp)) v4).blk kA3 (by simp; omega)); have q3a := fun Z => sp_of (W := w3.alloc Z) (((Mod.refl [] w3).alloc Z).blk kB3 (by simp)) (((Mod.refl [] w3).alloc Z).blk kA3 (by simp))
                have HM3 := Lib.hid ((hM1.out.trans HM12.out (by simp)).trans hmW (fun q h => Or.inr (by have := HE q h; omega)))
                have P1 := Lib.hid pr1; have P2 := Lib.hid pr2; have PO := Lib.hid (Own.raise (B := w.heap.size + 3) po (fun q h => by have := HE q h; omega)); have hltw : w1.heap.size ≤ w2.heap.size := HM12.out.size; have hlt3 : w2.heap.size ≤ w3.heap.size := hmW.size; clear pr1 pr2 po hmW kB3 kA3)
             | (have mz := (Mod.refl [] w2).alloc (.cells #[.int .i64 0, .int .i64 0, .slice none 0 0, .int .i64 0, .slice none 0 0] 28)
                have ra := r1.mod0 mz
                have rb := r2.mod0 mz
                have oz := (o.mono (Nat.zero_le _)).mod mz (by simp)
                (with_reducible refine (l28Do_any x a b1 b2 m1 d1 m2 d2 g1 g2 _ ra rb oz HG.out HA1.out).mono ?_)
                clear mz ra rb oz
                rintro e w3 ⟨rfl, pr1, pr2, po, hmV⟩
                have kp3 := hmV.blk (heap1_0 w2 _) (fun h => by have := hlt _ h; omega)
                have HNP := Lib.hid (fun q (h : q ∈ g1 ++ g2) => (by have := hlt q h; simp; omega : q ∉ [w2.heap.size])); have hPW : w.heap.size + 2 < w2.heap.size := (by have := HM12.out.size; omega); have hQW : w.heap.size + 2 ≠ w2.heap.size := (by omega)
                have hmW : Mod (g1 ++ g2) w2 w3 := ((Mod.refl (g1 ++ g2) w2).alloc _).trans hmV (fun q h => Or.inl h)
                have kpc := blk_cell kp3; have kpf := blk_free kp3; have KP := Lib.hid kp3; clear kp3 hmV
                have HE : ∀ q ∈ g1 ++ g2, w.heap.size + 2 < q := (fun q hq => by have := hge q hq; omega)
                have kB3 := hmW.blk KB2'.out (fun h => by have := HE _ h; omega); have kA3 := hmW.blk KA2'.out (fun h => by have := HE _ h; omega); have KR3 := Lib.hid (hmW.blk KR2.out (fun h => by have := HE _ h; omega))
                have hltw0 := HM12.out.size; have q3 := sp_of kB3 kA3; have q3c := fun v0 v1 v2 v3 v4 => sp_of (W := (((((w3.setCell ⟨w2.heap.size, 0, none⟩ v0).setCell ⟨w2.heap.size, 1, none⟩ v1).setCell ⟨w2.heap.size, 2, none⟩ v2).setCell ⟨w2.heap.size, 3, none⟩ v3).setCell ⟨w2.heap.size, 4, none⟩ v4)) (((((((Mod.refl [w2.heap.size] w3).setCell (p := ⟨w2.heap.size, 0, none⟩) (Or.inl (by simp)) v0).setCell (p := ⟨w2.heap.size, 1, none⟩) (Or.inl (by simp)) v1).setCell (p := ⟨w2.heap.size, 2, none⟩) (Or.inl (by simp)) v2).setCell (p := ⟨w2.heap.size, 3, none⟩) (Or.inl (by simp)) v3).setCell (p := ⟨w2.heap.size, 4, none⟩) (Or.inl (by simp)) v4).blk kB3 (by simp; omega)) (((((((Mod.refl [w2.heap.size] w3).setCell (p := ⟨w2.heap.size, 0, none⟩) (Or.inl (by simp)) v0).setCell (p := ⟨w2.heap.size, 1, none⟩) (Or.inl (by simp)) v1).setCell (p := ⟨w2.heap.size, 2, none⟩) (Or.inl (by simp)) v2).setCell (p := ⟨w2.heap.size, 3, none⟩) (Or.inl (by simp)) v3).setCell (p := ⟨w2.heap.size, 4, none⟩) (Or.inl (by simp)) v4).blk kA3 (by simp; omega)); have q3a := fun Z => sp_of (W := w3.alloc Z) (((Mod.refl [] w3).alloc Z).blk kB3 (by simp)) (((Mod.refl [] w3).alloc Z).blk kA3 (by simp))
                have HM3 := Lib.hid ((hM1.out.trans HM12.out (by simp)).trans hmW (fun q h => Or.inr (by have := HE q h; omega)))
                have P1 := Lib.hid pr1; have P2 := Lib.hid pr2; have PO := Lib.hid (Own.raise (B := w.heap.size + 3) po (fun q h => by have := HE q h; omega)); have hltw : w1.heap.size ≤ w2.heap.size := HM12.out.size; have hlt3 : w2.heap.size ≤ w3.heap.size := hmW.size; clear pr1 pr2 po hmW kB3 kA3)
             | (have oz := o.mono (Nat.zero_le _)
                (with_reducible refine (l28Do_any x a b1 b2 m1 d1 m2 d2 g1 g2 w2 r1 r2 oz HG.out HA1.out).mono ?_)
                rintro e w3 ⟨rfl, pr1, pr2, po, hmW⟩
                have HE : ∀ q ∈ g1 ++ g2, w.heap.size + 2 < q := (fun q hq => by have := hge q hq; omega)
                have kB3 := hmW.blk KB2'.out (fun h => by have := HE _ h; omega); have kA3 := hmW.blk KA2'.out (fun h => by have := HE _ h; omega); have KR3 := Lib.hid (hmW.blk KR2.out (fun h => by have := HE _ h; omega))
                have hltw0 := HM12.out.size; have q3 := sp_of kB3 kA3; have q3c := fun (_ _ _ _ _ : Nat) => q3; have q3a := fun Z => sp_of (W := w3.alloc Z) (((Mod.refl [] w3).alloc Z).blk kB3 (by simp)) (((Mod.refl [] w3).alloc Z).blk kA3 (by simp))
                have HM3 := Lib.hid ((hM1.out.trans HM12.out (by simp)).trans hmW (fun q h => Or.inr (by have := HE q h; omega)))
                have P1 := Lib.hid pr1; have P2 := Lib.hid pr2; have PO := Lib.hid (Own.raise (B := w.heap.size + 3) po (fun q h => by have := HE q h; omega)); have hltw : w1.heap.size ≤ w2.heap.size := HM12.out.size; have hlt3 : w2.heap.size ≤ w3.heap.size := hmW.size; clear pr1 pr2 po hmW kB3 kA3)))
      all_goals
        go_wp2_with fail
        go_meet
        first
          | (have f := put5 KP.out (.int .i64 (doRenew x a).1.fNow) (.int .i64 (doRenew x a).1.fMaster.fOff) (.slice b1 m1 d1) (.int .i64 (doRenew x a).1.fVer) (.slice b2 m2 d2)
             exact ⟨_, b1, b2, m1, d1, m2, d2, g1, g2, rfl, rfl, hPW, f.1, f.2.blk KR3.out (by simpa using hQW), k1, k2, P1.out.mod f.2 (fun q h => HNP.out q (by simp [h])), P2.out.mod f.2 (fun q h => HNP.out q (by simp [h])), PO.out.mod f.2 HNP.out, HM3.out.trans f.2 (fun q h => Or.inr (by simp at h; omega))⟩)
          | exact ⟨_, b1, b2, m1, d1, m2, d2, g1, g2, rfl, rfl, by omega, heap_alloc_new _ _, ((Mod.refl [] _).alloc _).blk KR3.out (by simp), k1, k2, P1.out.mod0 ((Mod.refl [] _).alloc _), P2.out.mod0 ((Mod.refl [] _).alloc _), PO.out.mod ((Mod.refl [] _).alloc _) (by simp), HM3.out.alloc _⟩
    case rest =>
      obtain ⟨p, b1, b2, m1, d1, m2, d2, q1, q2, rfl, rfl, hp, kp, kr, k1, k2, r1, r2, o, hm⟩ := hcut
      have cP := blk_cell kp; have cR2 := blk_cell kr; have fR2 := blk_free kr
      have R1 := Lib.hid r1; have R2 := Lib.hid r2; have OO := Lib.hid o; have HM := Lib.hid hm
      have hne : w.heap.size + 2 ≠ p := by omega
      clear kp kr r1 r2 o hm cB cA cR fR
      go_wp2
      refine bodyPost_ret (v := .tuple #[.agg #[.int .i64 (doRenew x a).1.fNow, .int .i64 (doRenew x a).1.fMaster.fOff, .slice b1 m1 d1, .int .i64 (doRenew x a).1.fVer, .slice b2 m2 d2], .bool (doRenew x a).2, .bool true]) (by simp [results, Try.results9, go_sem, *]) rfl ?_
      have key : ∀ W, Mod [w.heap.size + 2] wc W → ∃ v, Ending.returned (.tuple #[.agg #[.int .i64 (doRenew x a).1.fNow, .int .i64 (doRenew x a).1.fMaster.fOff, .slice b1 m1 d1, .int .i64 (doRenew x a).1.fVer, .slice b2 m2 d2], .bool (doRenew x a).2, .bool true]) = .returned (.tuple #[v, .bool (stepRenew x a).2.1, .bool (stepRenew x a).2.2]) ∧ ResRenew w.heap.size W v (stepRenew x a).1 ∧ Mod [] w W := fun W hW => by
        have es : stepRenew x a = ((doRenew x a).1, (doRenew x a).2, true) := by unfold stepRenew; rw [if_pos E1.out]
        rw [es]
        have hq : ∀ q ∈ q1 ++ q2, q ∉ [w.heap.size + 2] := fun q hq h => by have := (OO.out.2 q hq).1; simp at h; omega
        exact ⟨_, rfl, ⟨b1, m1, d1, q1, b2, m2, d2, q2, rfl, k1, k2, R1.out.mod hW (fun q h => hq q (by simp [h])), R2.out.mod hW (fun q h => hq q (by simp [h])), (OO.out.mono (by omega)).mod hW hq⟩, HM.out.trans hW (fun q hq => Or.inr (by simp at hq; omega))⟩
      exact key _ (by repeat (first | with_reducible exact Mod.refl _ _ | with_reducible refine Mod.setCell ?_ (Or.inl (by simp)) _))
end Go.Proofs.Ytjneaalpiangdaa

import Derived.Test.YtjneaalpiangdaaI1
import Derived.Deep.RegionWith
namespace Go.Proofs.Ytjneaalpiangdaa
open Go.RowKit
/-- A lease system handed back in memory of the call's own. -/
def ResRenew (B : Nat) (w : World) (v : Value) (y : DRenew) : Prop := ∃ b1 n1 d1 g1 b2 n2 d2 g2, v = .agg #[.int .i64 y.fNow, .int .i64 y.fMaster.fOff, .slice b1 n1 d1, .int .i64 y.fVer, .slice b2 n2 d2] ∧ n1 ≤ d1 ∧ n2 ≤ d2 ∧
  RdS gClock w b1 n1 y.fClocks g1 ∧ RdS gVLease w b2 n2 y.fLeases g2 ∧ Own B w (g1 ++ g2)
set_option maxRecDepth 100000 in
set_option maxHeartbeats 800000 in
theorem copyRenew_any (w0 : World) (x : DRenew) (a1 a2 : Option Addr) (n1 c1 n2 c2 : Nat) (f1 f2 : List Nat) (w : World) (hn1 : n1 ≤ 1048576) (hn2 : n2 ≤ 1048576) (hm0 : Mod [] w0 w)
    (h1 : RdS gClock w0 a1 n1 x.fClocks f1) (h2 : RdS gVLease w0 a2 n2 x.fLeases f2) :
    Calls Try.prog 46 #[.agg #[.int .i64 x.fNow, .int .i64 x.fMaster.fOff, .slice a1 n1 c1, .int .i64 x.fVer, .slice a2 n2 c2]] w fun e w' => ∃ v, e = .returned v ∧ ResRenew w.heap.size w' v x ∧ Mod [] w w' := by
  go_enter Try.func46, Try.ntmps46
  go_wp2
  go_region_with (first
    | (go_at_call 87; refine (cloneClock_any w0 _ _ _ _ _ _ hn1 ?_ h1).mono ?_; · exact hm0.trans (((Mod.refl [] w).alloc _).alloc _).drew (by simp)
       rintro e w1 ⟨b1, d1, g1, rfl, k1, r1, o1, hm1⟩; have hM1 := Lib.hid ((((Mod.refl [] w).alloc _).alloc _).drew.trans hm1 (by simp)); have hz1 : w.heap.size + 1 < w1.heap.size := by (have := hm1.size; simp at this; omega)
       have hz0 : w.heap.size < w1.heap.size := (by omega); have hB := hm1.blk (b := w.heap.size) (heap2_0 w _ _) (by simp); have hR := hm1.blk (b := w.heap.size + 1) (heap2_1 w _ _) (by simp); have hB1 := blk_cell hB; have HB := Lib.hid hB; have HR := Lib.hid hR; clear hm1 hB hR)
    | (go_at_call 88; refine (cloneVLease_any w0 _ _ _ _ _ _ hn2 ?_ h2).mono ?_; · exact hm0.trans hM1.out (by simp)
       rintro e w2 ⟨b2, d2, g2, rfl, k2, r2, o2, hm2⟩; have hM2 := Lib.hid (hM1.out.trans hm2 (by simp)); have hy1 : w.heap.size + 1 < w2.heap.size := by (have := hm2.size; omega)
       have hy0 : w.heap.size < w2.heap.size := (by omega); have hB := hm2.blk HB.out (by simp); have hR := hm2.blk HR.out (by simp); have hB2 := blk_cell hB; have hF2 := blk_free hB; have hR2 := blk_cell hR; have hG2 := blk_free hR; have HM2 := Lib.hid hm2; clear hm2 hB hR))
  all_goals
    go_wp2
    refine bodyPost_ret (v := .agg #[.int .i64 x.fNow, .int .i64 x.fMaster.fOff, .slice b1 n1 d1, .int .i64 x.fVer, .slice b2 n2 d2]) (by simp [results, Try.results46, go_sem, *]) rfl ?_
    have hg1 : ∀ q ∈ g1, w.heap.size + 1 < q := fun q hq => by have := (o1.2 q hq).1; simp at this; omega
    have hl1 : ∀ q ∈ g1, q < w1.heap.size := o1.lt
    have hg2 : ∀ q ∈ g2, w1.heap.size ≤ q := fun q hq => by have := (o2.2 q hq).1; simpa using this
    have key : ∀ W, Mod [w.heap.size, w.heap.size + 1] w2 W → ∃ v, Ending.returned (.agg #[.int .i64 x.fNow, .int .i64 x.fMaster.fOff, .slice b1 n1 d1, .int .i64 x.fVer, .slice b2 n2 d2]) = .returned v ∧ ResRenew w.heap.size W v x ∧ Mod [] w W := fun W hW =>
      ⟨_, rfl, ⟨b1, n1, d1, g1, b2, n2, d2, g2, rfl, k1, k2, (r1.mod0 HM2.out).mod hW (fun q hq => by have := hg1 q hq; simp; omega), r2.mod hW (fun q hq => by have := hg2 q hq; simp; omega),
        ((o1.mono (B' := w.heap.size) (by simp; omega)).mod HM2.out (by simp) |>.mod hW (fun q hq => by have := hg1 q hq; simp; omega)).app ((o2.mono (B' := w.heap.size) (by omega)).mod hW (fun q hq => by have := hg2 q hq; simp; omega)) (fun q hq hq2 => by have := hl1 q hq; have := hg2 q hq2; omega)⟩,
        hM2.out.trans hW (fun q hq => Or.inr (by simp at hq; omega))⟩
    exact key _ (by repeat (first | with_reducible exact Mod.refl _ _ | with_reducible refine Mod.setCell ?_ (Or.inl (by simp)) _))
end Go.Proofs.Ytjneaalpiangdaa

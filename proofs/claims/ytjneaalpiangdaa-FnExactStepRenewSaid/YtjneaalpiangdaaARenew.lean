/- The lease system: sz, to, eq, mark, held. -/
import Derived.Test.YtjneaalpiangdaaTy2
import Derived.Test.YtjneaalpiangdaaAClock
import Derived.Test.YtjneaalpiangdaaAVLease
namespace Go.Proofs.Ytjneaalpiangdaa
open Go.RowKit
set_option maxRecDepth 100000 in
set_option maxHeartbeats 400000 in
theorem szRenew_any (x0 x1 x3 : Int) (a1 a2 : Option Addr) (n1 c1 n2 c2 : Nat) (left : Int) (w : World) (hn1 : n1 ≤ 140737488351232) (hn2 : n2 ≤ 140737488351232) (h0 : 0 ≤ left) (h1 : left ≤ 1048576) :
    Calls Try.prog 20 #[.agg #[.int .i64 x0, .int .i64 x1, .slice a1 n1 c1, .int .i64 x3, .slice a2 n2 c2], .int .i64 left] w fun e w' => SzPost left (n1 + n2) e ∧ Mod [] w w' := by
  go_enter Try.func20, Try.ntmps20
  go_wp2_with fail
  refine (szClockS_any _ _ _ _ _ hn1 h0 h1).mono ?_
  rintro e w1 ⟨⟨r, rfl, hr⟩, hm1⟩
  have hM1 := Lib.hid (((Mod.refl [] w).alloc _).trans hm1 (by simp))
  obtain ⟨hc, hf⟩ := mcell0 hm1
  clear hm1
  rcases hr with ⟨rfl, hr⟩ | ⟨rfl, hr⟩
  · go_wp2_with fail
    refine (szVLeaseS_any _ _ _ _ _ hn2 (by omega) (by omega)).mono ?_
    rintro e w2 ⟨⟨r, rfl, hr2⟩, hm2⟩
    have hM2 := Lib.hid (hM1.out.trans hm2 (by simp))
    clear hm2
    rcases hr2 with ⟨rfl, hr2⟩ | ⟨rfl, hr2⟩
    · go_wp2
      go_ret
      exact ⟨⟨_, rfl, Or.inl ⟨by omega, by omega⟩⟩, hM2.out⟩
    · go_wp2
      go_ret
      exact ⟨⟨_, rfl, Or.inr ⟨rfl, by omega⟩⟩, hM2.out⟩
  · go_wp2
    go_ret
    exact ⟨⟨_, rfl, Or.inr ⟨rfl, by omega⟩⟩, hM1.out⟩

set_option maxRecDepth 100000 in
set_option maxHeartbeats 400000 in
theorem eqRenew_any (w0 : World) (x0 x1 x3 : Int) (a1 a2 b1 b2 : Option Addr) (n1 c1 n2 c2 d1 d2 : Nat) (l1 : List DClock) (l2 : List DVLease) (f1 f2 g1 g2 : List Nat) (w : World) (hn1 : n1 ≤ 140737488351232) (hn2 : n2 ≤ 140737488351232) (hm0 : Mod [] w0 w)
    (h1 : RdS gClock w0 a1 n1 l1 f1) (k1 : RdS gClock w0 b1 n1 l1 g1) (h2 : RdS gVLease w0 a2 n2 l2 f2) (k2 : RdS gVLease w0 b2 n2 l2 g2) :
    Calls Try.prog 23 #[.agg #[.int .i64 x0, .int .i64 x1, .slice a1 n1 c1, .int .i64 x3, .slice a2 n2 c2], .agg #[.int .i64 x0, .int .i64 x1, .slice b1 n1 d1, .int .i64 x3, .slice b2 n2 d2]] w fun e w' => e = .returned (.bool true) ∧ Mod [] w w' := by
  have t0 : (x0 != x0) = false := by simp
  have t3 : (x3 != x3) = false := by simp
  go_enter Try.func23, Try.ntmps23
  go_wp2_with fail
  refine (eqClock_any _ _).mono ?_
  rintro e w1 ⟨rfl, hm1⟩
  have hM1 := Lib.hid ((((Mod.refl [] w).alloc _).alloc _).trans hm1 (by simp))
  obtain ⟨hc1, hf1⟩ := mcell0 hm1
  have hz1 : w.heap.size + 1 < w1.heap.size := by have := hm1.size; simp at this; omega
  have hz0 : w.heap.size < w1.heap.size := by omega
  clear hm1
  go_wp2_with fail
  refine (eqClockS_any w0 _ _ _ _ _ _ _ _ _ hn1 (hm0.trans hM1.out (by simp)) h1 k1).mono ?_
  rintro e w2 ⟨rfl, hm2⟩
  have hM2 := Lib.hid (hM1.out.trans hm2 (by simp))
  obtain ⟨hc2, hf2⟩ := mcell0 hm2
  clear hm2
  go_wp2_with fail
  refine (eqVLeaseS_any w0 _ _ _ _ _ _ _ _ _ hn2 (hm0.trans hM2.out (by simp)) h2 k2).mono ?_
  rintro e w3 ⟨rfl, hm3⟩
  have hM3 := Lib.hid (hM2.out.trans hm3 (by simp))
  clear hm3
  go_wp2
  go_ret
  exact ⟨rfl, hM3.out⟩

set_option maxRecDepth 100000 in
set_option maxHeartbeats 400000 in
theorem toRenew_any (w0 : World) (x0 x1 x3 : Int) (a1 a2 : Option Addr) (n1 c1 n2 c2 : Nat) (l1 : List DClock) (l2 : List DVLease) (f1 f2 : List Nat) (w : World) (hn1 : n1 ≤ 1048576) (hn2 : n2 ≤ 1048576) (hm0 : Mod [] w0 w)
    (h1 : RdS gClock w0 a1 n1 l1 f1) (h2 : RdS gVLease w0 a2 n2 l2 f2) :
    Calls Try.prog 21 #[.agg #[.int .i64 x0, .int .i64 x1, .slice a1 n1 c1, .int .i64 x3, .slice a2 n2 c2]] w fun e w' => ∃ b1 b2 g1 g2, e = .returned (.agg #[.int .i64 x0, .int .i64 x1, .slice b1 n1 n1, .int .i64 x3, .slice b2 n2 n2]) ∧
      RdS gClock w' b1 n1 l1 g1 ∧ RdS gVLease w' b2 n2 l2 g2 ∧ Own w.heap.size w' (g1 ++ g2) ∧ Mod [] w w' := by
  go_enter Try.func21, Try.ntmps21
  go_wp2_with fail
  refine (toClock_any _ _).mono ?_
  rintro e w1 ⟨rfl, hm1⟩
  have hM1 := Lib.hid (((((Mod.refl [] w).alloc _).alloc _).alloc _).trans hm1 (by simp))
  obtain ⟨hc1, hf1⟩ := mcell0 hm1
  have hz1 : w.heap.size + 2 < w1.heap.size := by have := hm1.size; simp at this; omega
  have hz0 : w.heap.size < w1.heap.size := by omega
  have hz3 : w.heap.size + 1 < w1.heap.size := by omega
  clear hm1
  go_wp2_with fail
  refine (toClockS_any w0 _ _ _ _ _ _ hn1 (hm0.trans (hM1.out.setCell (Or.inr (by dsimp only; omega)) _) (by simp)) h1).mono ?_
  rintro e w2 ⟨b1, g1, rfl, r1, o1, hm2⟩
  have hM2 := Lib.hid ((hM1.out.setCell (Or.inr (by dsimp only; omega)) _).trans hm2 (by simp))
  obtain ⟨hc2, hf2⟩ := mcell0 hm2
  have hy1 : w.heap.size + 2 < w2.heap.size := by have := hm2.size; simp at this; omega
  have hy0 : w.heap.size < w2.heap.size := by omega
  have hy3 : w.heap.size + 1 < w2.heap.size := by omega
  clear hm2
  go_wp2_with fail
  have hM2' := Lib.hid (((hM2.out.setCell (p := ⟨w.heap.size + 2, 2, none⟩) (Or.inr (by dsimp only; omega)) (.slice b1 n1 n1)).setCell (p := ⟨w.heap.size + 2, 3, none⟩) (Or.inr (by dsimp only; omega)) (.int .i64 x3)))
  refine (toVLeaseS_any w0 _ _ _ _ _ _ hn2 (hm0.trans hM2'.out (by simp)) h2).mono ?_
  rintro e w3 ⟨b2, g2, rfl, r2, o2, hm3⟩
  have hM3 := Lib.hid (hM2'.out.trans hm3 (by simp))
  have hW : Mod [w.heap.size + 2] w2 ((w2.setCell ⟨w.heap.size + 2, 2, none⟩ (.slice b1 n1 n1)).setCell ⟨w.heap.size + 2, 3, none⟩ (.int .i64 x3)) := ((Mod.refl _ w2).setCell (by simp) _).setCell (by simp) _
  have hge : ∀ q ∈ g1, w.heap.size + 2 < q := fun q hq => by have := (o1.2 q hq).1; simp at this; omega
  have hlt2 : ∀ q ∈ g1, q < w2.heap.size := o1.lt
  have r1' := (r1.mod hW (fun q hq => by have := hge q hq; simp; omega)).mod0 hm3
  have o1' := (o1.mod hW (fun q hq => by have := hge q hq; simp; omega)).mod hm3 (by simp)
  have hO := Lib.hid ((o1'.mono (B' := w.heap.size + 2) (by simp; omega)).app (o2.mono (by simp; omega)) (fun q hq hq2 => by have := hlt2 q hq; have := (o2.2 q hq2).1; simp at this; omega))
  have hgt2 : ∀ q ∈ g2, w2.heap.size ≤ q := fun q hq => by have := (o2.2 q hq).1; simpa using this
  have R1 := Lib.hid r1'
  have R2 := Lib.hid r2
  have hv1 : w.heap.size + 2 < w3.heap.size := by have := hm3.size; simp at this; omega
  have hv0 : w.heap.size < w3.heap.size := by omega
  have hv3 : w.heap.size + 1 < w3.heap.size := by omega
  obtain ⟨hc3, hf3⟩ := mcell0 hm3
  clear hm3 r1 r1' o1 o1' o2 r2 hW
  go_wp2
  refine bodyPost_ret (v := .agg #[.int .i64 x0, .int .i64 x1, .slice b1 n1 n1, .int .i64 x3, .slice b2 n2 n2]) (by simp [results, Try.results21, go_sem, *]) rfl ?_
  have key : ∀ W, Mod [w.heap.size + 1, w.heap.size + 2] w3 W → ∃ b1' b2' g1 g2, Ending.returned (.agg #[.int .i64 x0, .int .i64 x1, .slice b1 n1 n1, .int .i64 x3, .slice b2 n2 n2]) = .returned (.agg #[.int .i64 x0, .int .i64 x1, .slice b1' n1 n1, .int .i64 x3, .slice b2' n2 n2]) ∧
      RdS gClock W b1' n1 l1 g1 ∧ RdS gVLease W b2' n2 l2 g2 ∧ Own w.heap.size W (g1 ++ g2) ∧ Mod [] w W := fun W hW =>
    ⟨b1, b2, g1, g2, rfl, R1.out.mod hW (fun q hq => by have := hge q hq; simp; omega), R2.out.mod hW (fun q hq => by have := hgt2 q hq; simp; omega),
      (hO.out.mod hW (fun q hq => by
        rcases List.mem_append.1 hq with h | h
        · have := hge q h; simp; omega
        · have := hgt2 q h; simp; omega)).mono (by omega), hM3.out.trans hW (fun q hq => Or.inr (by simp at hq; omega))⟩
  exact key _ (by repeat (first | with_reducible exact Mod.refl _ _ | with_reducible refine Mod.setCell ?_ (Or.inl (by simp)) _))

set_option maxRecDepth 100000 in
set_option maxHeartbeats 400000 in
theorem markRenew_any (x0 x1 x3 : Int) (a1 a2 : Option Addr) (n1 c1 n2 c2 : Nat) (l1 : List DClock) (l2 : List DVLease) (f1 f2 : List Nat) (k : Int) (w : World) (hn1 : n1 ≤ 140737488351232) (hn2 : n2 ≤ 140737488351232) (h0 : 0 ≤ k) (hb : k + cntL cntClock l1 + cntL cntVLease l2 ≤ 1099511627776)
    (h1 : RdS gClock w a1 n1 l1 f1) (h2 : RdS gVLease w a2 n2 l2 f2) (ho : Own 0 w (f1 ++ f2)) :
    Calls Try.prog 24 #[.agg #[.int .i64 x0, .int .i64 x1, .slice a1 n1 c1, .int .i64 x3, .slice a2 n2 c2], .int .i64 k] w fun e w' => e = .returned (.int .i64 (mkL mkVLease (mkL mkClock k l1).2 l2).2) ∧
      RdS gClock w' a1 n1 (mkL mkClock k l1).1 f1 ∧ RdS gVLease w' a2 n2 (mkL mkVLease (mkL mkClock k l1).2 l2).1 f2 ∧ Own 0 w' (f1 ++ f2) ∧ Mod (f1 ++ f2) w w' := by
  have HE := Lib.hid (mkL_cnt mkClock_cnt l1 k)
  have hl1 : ∀ q ∈ f1, q < w.heap.size := h1.inb
  have hl2 : ∀ q ∈ f2, q < w.heap.size := h2.inb
  go_enter Try.func24, Try.ntmps24
  go_wp2_with fail
  refine (markClockS_any _ _ _ _ f1 _ _ hn1 h0 (by omega) (h1.mod0 ((Mod.refl _ _).alloc _)) (ho.left.mod ((Mod.refl [] _).alloc _) (by simp))).mono ?_
  rintro e w1 ⟨rfl, r1, o1, hm1⟩
  have hq : w.heap.size ∉ f1 := fun h => by have := hl1 _ h; omega
  obtain ⟨hc1, hf1⟩ := mcell hm1
  have hz1 : w.heap.size < w1.heap.size := by have := hm1.size; simp at this; omega
  have hM1 : Mod f1 w w1 := ((Mod.refl f1 w).alloc _).trans hm1 (fun q hq => Or.inl hq)
  have r2 := h2.mod hM1 (fun q hq hq1 => ho.apart q hq1 hq)
  have o2 := ho.right.mod hM1 (fun q hq hq1 => ho.apart q hq1 hq)
  have HM1 := Lib.hid hM1
  have R1 := Lib.hid r1
  have O1 := Lib.hid o1
  have hp0 : 0 ≤ (mkL mkClock k l1).2 := by rw [HE.out]; omega
  have hp1 : (mkL mkClock k l1).2 + cntL cntVLease l2 ≤ 1099511627776 := by rw [HE.out]; omega
  clear hm1 hM1 r1 o1
  go_wp2_with fail
  refine (markVLeaseS_any a2 n2 c2 l2 f2 (mkL mkClock k l1).2 w1 hn2 hp0 hp1 r2 o2).mono ?_
  rintro e w2 ⟨rfl, r2', o2', hm2⟩
  have R2 := Lib.hid r2'
  have O2 := Lib.hid o2'
  have HM2 := Lib.hid hm2
  clear hm2 r2 o2 r2' o2'
  go_wp2
  go_ret
  refine ⟨rfl, R1.out.mod HM2.out (fun q hq hq2 => ho.apart q hq hq2), R2.out, (O1.out.mod HM2.out (fun q hq hq2 => ho.apart q hq hq2)).app O2.out (fun q hq hq2 => ho.apart q hq hq2), (HM1.out.weaken (S' := f1 ++ f2) (fun q hq => Or.inl (by simp [hq]))).trans HM2.out (fun q hq => Or.inl (by simp [hq]))⟩

set_option maxRecDepth 100000 in
set_option maxHeartbeats 400000 in
theorem heldRenew_any (w0 : World) (x0 x1 x3 : Int) (a1 a2 : Option Addr) (n1 c1 n2 c2 : Nat) (l1 : List DClock) (l2 : List DVLease) (f1 f2 : List Nat) (k : Int) (w : World) (hn1 : n1 ≤ 140737488351232) (hn2 : n2 ≤ 140737488351232) (h0 : 0 ≤ k) (hb : k + cntL cntClock l1 + cntL cntVLease l2 ≤ 1099511627776)
    (hm0 : Mod [] w0 w) (h1 : RdS gClock w0 a1 n1 (mkL mkClock k l1).1 f1) (h2 : RdS gVLease w0 a2 n2 (mkL mkVLease (mkL mkClock k l1).2 l2).1 f2) :
    Calls Try.prog 25 #[.agg #[.int .i64 x0, .int .i64 x1, .slice a1 n1 c1, .int .i64 x3, .slice a2 n2 c2], .int .i64 k] w fun e w' => e = .returned (.int .i64 (mkL mkVLease (mkL mkClock k l1).2 l2).2) ∧ Mod [] w w' := by
  have HE := Lib.hid (mkL_cnt mkClock_cnt l1 k)
  have HE2 := Lib.hid (mkL_cnt mkVLease_cnt l2 (mkL mkClock k l1).2)
  go_enter Try.func25, Try.ntmps25
  go_wp2_with fail
  refine (heldClockS_any w0 _ _ _ l1 f1 _ _ hn1 h0 (by omega) (hm0.alloc _) h1).mono ?_
  rintro e w1 ⟨rfl, hm1⟩
  have hM1 := Lib.hid (((Mod.refl [] w).alloc _).trans hm1 (by simp))
  obtain ⟨hc1, hf1⟩ := mcell0 hm1
  have hz1 : w.heap.size < w1.heap.size := by have := hm1.size; simp at this; omega
  have hp1 : 0 ≤ (mkL mkClock k l1).2 := by rw [HE.out]; omega
  clear hm1
  go_wp2_with fail
  refine (heldVLeaseS_any w0 _ _ _ l2 f2 _ _ hn2 hp1 (by rw [HE.out]; omega) (hm0.trans hM1.out (by simp)) h2).mono ?_
  rintro e w2 ⟨rfl, hm2⟩
  have hp2 : 0 ≤ (mkL mkVLease (mkL mkClock k l1).2 l2).2 := by rw [HE2.out, HE.out]; omega
  have hM2 := Lib.hid (hM1.out.trans hm2 (by simp))
  clear hm2
  go_wp2
  go_ret
  exact ⟨rfl, hM2.out⟩
end Go.Proofs.Ytjneaalpiangdaa

/- The law FnExactStepRenew. -/
import Derived.Test.YtjneaalpiangdaaS5
import Derived.Test.YtjneaalpiangdaaAZ
namespace Go.Proofs.Ytjneaalpiangdaa
open Go.RowKit
/-- A variable at block p that holds a lease system whose slices lie in blocks fp, from B on. -/
structure VarR (B : Nat) (w : World) (p : Nat) (y : DRenew) (b1 : Option Addr) (n1 d1 : Nat) (g1 : List Nat) (b2 : Option Addr) (n2 d2 : Nat) (g2 : List Nat) : Prop where
  blk : w.heap[p]? = some (.cells #[.int .i64 y.fNow, .int .i64 y.fMaster.fOff, .slice b1 n1 d1, .int .i64 y.fVer, .slice b2 n2 d2] 28 (0, 0))
  r1 : RdS gClock w b1 n1 y.fClocks g1
  r2 : RdS gVLease w b2 n2 y.fLeases g2
  own : Own B w (g1 ++ g2)
  far : p ∉ g1 ++ g2
  low : B ≤ p
theorem VarR.mod {B : Nat} {S : List Nat} {w w' : World} {p : Nat} {y : DRenew} {b1 : Option Addr} {n1 d1 : Nat} {g1 : List Nat} {b2 : Option Addr} {n2 d2 : Nat} {g2 : List Nat} (h : VarR B w p y b1 n1 d1 g1 b2 n2 d2 g2) (hm : Mod S w w') (hp : p ∉ S) (hS : ∀ q ∈ g1 ++ g2, q ∉ S) : VarR B w' p y b1 n1 d1 g1 b2 n2 d2 g2 :=
  ⟨hm.blk h.blk hp, h.r1.mod hm (fun q hq => hS q (by simp [hq])), h.r2.mod hm (fun q hq => hS q (by simp [hq])), h.own.mod hm hS, h.far, h.low⟩
theorem VarR.mod0 {B : Nat} {w w' : World} {p : Nat} {y : DRenew} {b1 : Option Addr} {n1 d1 : Nat} {g1 : List Nat} {b2 : Option Addr} {n2 d2 : Nat} {g2 : List Nat} (h : VarR B w p y b1 n1 d1 g1 b2 n2 d2 g2) (hm : Mod [] w w') : VarR B w' p y b1 n1 d1 g1 b2 n2 d2 g2 := h.mod hm (by simp) (by simp)
theorem spx {W : World} {h : Nat} {x : DRenew} {a : DRenewAct} {a1 a2 : Option Addr} {n1 c1 n2 c2 : Nat} {T1 T2 : TypeId} {q : Nat} (kB : W.heap[h]? = some (.cells #[.int .i64 x.fNow, .int .i64 x.fMaster.fOff, .slice a1 n1 c1, .int .i64 x.fVer, .slice a2 n2 c2] T1 (0, 0)))
    (kA : W.heap[q]? = some (.cells #[.int .i64 a.fKind, .int .i64 a.fWho, .int .i64 a.fBy] T2 (0, 0))) :
    W.cell? ⟨h, 0, none⟩ = some (.int .i64 x.fNow) ∧ W.cell? ⟨h, 1, none⟩ = some (.int .i64 x.fMaster.fOff) ∧ W.cell? ⟨h, 2, none⟩ = some (.slice a1 n1 c1) ∧ W.cell? ⟨h, 3, none⟩ = some (.int .i64 x.fVer) ∧ W.cell? ⟨h, 4, none⟩ = some (.slice a2 n2 c2) ∧
      W.cell? ⟨q, 0, none⟩ = some (.int .i64 a.fKind) ∧ W.cell? ⟨q, 1, none⟩ = some (.int .i64 a.fWho) ∧ W.cell? ⟨q, 2, none⟩ = some (.int .i64 a.fBy) :=
  ⟨blk_cell kB 0, blk_cell kB 1, blk_cell kB 2, blk_cell kB 3, blk_cell kB 4, blk_cell kA 0, blk_cell kA 1, blk_cell kA 2⟩
/-- What a region keeps: the two boxes. -/
structure Bx (h q : Nat) (T1 T2 : TypeId) (x : DRenew) (a : DRenewAct) (a1 a2 : Option Addr) (n1 c1 n2 c2 : Nat) (w W : World) : Prop where
  kB : W.heap[h]? = some (.cells #[.int .i64 x.fNow, .int .i64 x.fMaster.fOff, .slice a1 n1 c1, .int .i64 x.fVer, .slice a2 n2 c2] T1 (0, 0))
  kA : W.heap[q]? = some (.cells #[.int .i64 a.fKind, .int .i64 a.fWho, .int .i64 a.fBy] T2 (0, 0))
  m : Mod [] w W
theorem Bx.go {h q : Nat} {T1 T2 : TypeId} {x : DRenew} {a : DRenewAct} {a1 a2 : Option Addr} {n1 c1 n2 c2 : Nat} {w W W' : World} (b : Bx h q T1 T2 x a a1 a2 n1 c1 n2 c2 w W) (hm : Mod [] W W') : Bx h q T1 T2 x a a1 a2 n1 c1 n2 c2 w W' :=
  ⟨hm.blk b.kB (by simp), hm.blk b.kA (by simp), b.m.trans hm (by simp)⟩
theorem notin_of {w : World} {P : Nat} {o : Obj} {l : List Nat} (kp : w.heap[P]? = some o) (hge : ∀ q ∈ l, w.heap.size ≤ q) : P ∉ l := fun h => Nat.lt_irrefl _ (Nat.lt_of_lt_of_le (lt_of_heap kp) (hge P h))
theorem Bx.put {h q : Nat} {T1 T2 : TypeId} {x : DRenew} {a : DRenewAct} {a1 a2 : Option Addr} {n1 c1 n2 c2 P : Nat} {w W W' : World} (b : Bx h q T1 T2 x a a1 a2 n1 c1 n2 c2 w W) (hm : Mod [P] W W') (h1 : h ≠ P) (h2 : q ≠ P) (h3 : w.heap.size ≤ P) : Bx h q T1 T2 x a a1 a2 n1 c1 n2 c2 w W' :=
  ⟨hm.blk b.kB (by simpa using h1), hm.blk b.kA (by simpa using h2), b.m.trans hm (fun x hx => Or.inr (by simp at hx; omega))⟩
theorem stepRenew_len (x : DRenew) (a : DRenewAct) : (stepRenew x a).1.fClocks.length ≤ x.fClocks.length ∧ (stepRenew x a).1.fLeases.length ≤ x.fLeases.length := by
  unfold stepRenew doRenew
  repeat' split
  all_goals simp [noRenew]
theorem cntClock_len : ∀ l : List DClock, cntL cntClock l = l.length
  | [] => by simp [cntL]
  | x :: l => by have := cntClock_len l; simp only [cntL, List.map_cons, List.sum_cons, List.length_cons] at this ⊢; simp only [cntClock]; omega
theorem cntVLease_len : ∀ l : List DVLease, cntL cntVLease l = 2 * l.length
  | [] => by simp [cntL]
  | x :: l => by have := cntVLease_len l; simp only [cntL, List.map_cons, List.sum_cons, List.length_cons] at this ⊢; simp only [cntVLease]; omega
theorem Bx.putL {h q : Nat} {T1 T2 : TypeId} {x : DRenew} {a : DRenewAct} {a1 a2 : Option Addr} {n1 c1 n2 c2 : Nat} {w W W' : World} {S : List Nat} (b : Bx h q T1 T2 x a a1 a2 n1 c1 n2 c2 w W) (hm : Mod S W W') (h1 : h ∉ S) (h2 : q ∉ S) (h3 : ∀ k ∈ S, w.heap.size ≤ k) : Bx h q T1 T2 x a a1 a2 n1 c1 n2 c2 w W' :=
  ⟨hm.blk b.kB h1, hm.blk b.kA h2, b.m.trans hm (fun x hx => Or.inr (h3 x hx))⟩
theorem spy {W : World} {h : Nat} {x y : DRenew} {a1 a2 b1 b2 : Option Addr} {n1 c1 n2 c2 m1 d1 m2 d2 : Nat} {T1 T2 : TypeId} {q : Nat} (kB : W.heap[h]? = some (.cells #[.int .i64 x.fNow, .int .i64 x.fMaster.fOff, .slice a1 n1 c1, .int .i64 x.fVer, .slice a2 n2 c2] T1 (0, 0)))
    (kA : W.heap[q]? = some (.cells #[.int .i64 y.fNow, .int .i64 y.fMaster.fOff, .slice b1 m1 d1, .int .i64 y.fVer, .slice b2 m2 d2] T2 (0, 0))) :
    W.cell? ⟨h, 0, none⟩ = some (.int .i64 x.fNow) ∧ W.cell? ⟨h, 1, none⟩ = some (.int .i64 x.fMaster.fOff) ∧ W.cell? ⟨h, 2, none⟩ = some (.slice a1 n1 c1) ∧ W.cell? ⟨h, 3, none⟩ = some (.int .i64 x.fVer) ∧ W.cell? ⟨h, 4, none⟩ = some (.slice a2 n2 c2) ∧
      W.cell? ⟨q, 0, none⟩ = some (.int .i64 y.fNow) ∧ W.cell? ⟨q, 1, none⟩ = some (.int .i64 y.fMaster.fOff) ∧ W.cell? ⟨q, 2, none⟩ = some (.slice b1 m1 d1) ∧ W.cell? ⟨q, 3, none⟩ = some (.int .i64 y.fVer) ∧ W.cell? ⟨q, 4, none⟩ = some (.slice b2 m2 d2) :=
  ⟨blk_cell kB 0, blk_cell kB 1, blk_cell kB 2, blk_cell kB 3, blk_cell kB 4, blk_cell kA 0, blk_cell kA 1, blk_cell kA 2, blk_cell kA 3, blk_cell kA 4⟩
set_option maxRecDepth 100000 in
set_option maxHeartbeats 4000000 in
theorem law_StepRenew (x : DRenew) (a : DRenewAct) (a1 a2 : Option Addr) (n1 c1 n2 c2 : Nat) (f1 f2 : List Nat) (w : World) (hn1 : n1 ≤ 9223372036854775807) (hn2 : n2 ≤ 9223372036854775807)
    (h1 : RdS gClock w a1 n1 x.fClocks f1) (h2 : RdS gVLease w a2 n2 x.fLeases f2) :
    Calls Try.prog 4 #[.agg #[.int .i64 x.fNow, .int .i64 x.fMaster.fOff, .slice a1 n1 c1, .int .i64 x.fVer, .slice a2 n2 c2], .agg #[.int .i64 a.fKind, .int .i64 a.fWho, .int .i64 a.fBy]] w fun e w' => e = .returned (.bool true) ∧ Mod [] w w' := by
  go_enter Try.func4, Try.ntmps4
  go_wp2_with fail
  refine (szRenew_big _ _ _ _ _ _ _ _ _ _ _ hn1 hn2 (by omega) (by omega)).mono ?_
  rintro e w1 ⟨⟨r, rfl, hr⟩, hm1⟩
  have B1 := Lib.hid (show Bx w.heap.size (w.heap.size + 1) 55 56 x a a1 a2 n1 c1 n2 c2 w w1 from ⟨hm1.blk (heap2_0 w _ _) (by simp), hm1.blk (heap2_1 w _ _) (by simp), (((Mod.refl [] w).alloc _).alloc _).trans hm1 (by simp)⟩)
  have hz1 : w.heap.size + 2 ≤ w1.heap.size := by have := hm1.size; simp at this; omega
  clear hm1
  rcases hr with ⟨rfl, hr⟩ | ⟨rfl, hr⟩
  case inr =>
    go_wp2
    go_ret
    exact ⟨rfl, B1.out.m⟩
  have hs1 : n1 ≤ 1048576 := by omega
  have hs2 : n2 ≤ 1048576 := by omega
  have HH1 := Lib.hid h1; have HH2 := Lib.hid h2
  clear h1 h2
  go_upto_region 5 with fail
  go_cut [6, 7, 8] (fun s6 s7 s8 wx => ∃ (p : Nat) (b1 : Option Addr) (m1 d1 : Nat) (g1 : List Nat) (b2 : Option Addr) (m2 d2 : Nat) (g2 : List Nat), s6 = .pointer (some ⟨p, 0, none⟩) ∧ s7 = .bool (stepRenew x a).2.1 ∧ s8 = .bool (stepRenew x a).2.2 ∧
    VarR (w.heap.size + 2) wx p (stepRenew x a).1 b1 m1 d1 g1 b2 m2 d2 g2 ∧ Bx w.heap.size (w.heap.size + 1) 55 56 x a a1 a2 n1 c1 n2 c2 w wx)
  case first =>
    have q1 := spx (W := w1.drew) B1.out.kB B1.out.kA
    have q1a := fun Z => spx (W := (w1.alloc Z).drew) (B1.out.go ((Mod.refl [] w1).alloc Z)).kB (B1.out.go ((Mod.refl [] w1).alloc Z)).kA
    go_region_held3 (fun W => W.cell? ⟨w.heap.size, 0, none⟩ = some (.int .i64 x.fNow) ∧ W.cell? ⟨w.heap.size, 1, none⟩ = some (.int .i64 x.fMaster.fOff) ∧ W.cell? ⟨w.heap.size, 2, none⟩ = some (.slice a1 n1 c1) ∧ W.cell? ⟨w.heap.size, 3, none⟩ = some (.int .i64 x.fVer) ∧ W.cell? ⟨w.heap.size, 4, none⟩ = some (.slice a2 n2 c2) ∧
          W.cell? ⟨w.heap.size + 1, 0, none⟩ = some (.int .i64 a.fKind) ∧ W.cell? ⟨w.heap.size + 1, 1, none⟩ = some (.int .i64 a.fWho) ∧ W.cell? ⟨w.heap.size + 1, 2, none⟩ = some (.int .i64 a.fBy))
        (first | with_reducible exact q4 | with_reducible exact q4a _ | with_reducible exact q4c _ _ _ _ _ | with_reducible exact q3 | with_reducible exact q3a _ | with_reducible exact q2 | with_reducible exact q2a _ | with_reducible exact q1 | with_reducible exact q1a _)
        (first
          | (go_at_call 21
             first
             | ((with_reducible refine (toRenew_any w _ _ _ _ _ _ _ _ _ _ _ _ _ (w1.alloc (.cells #[.int .i64 0, .int .i64 0, .slice none 0 0, .int .i64 0, .slice none 0 0] 28)).drew hs1 hs2 (B1.out.go ((Mod.refl [] w1).alloc _).drew).m HH1.out HH2.out).mono ?_)
                rintro e w2 ⟨b1, b2, g1, g2, rfl, r1, r2, o, hm⟩
                have kp := hm.blk (heap1_0 w1 _) (by simp); have hpl : w.heap.size + 2 ≤ w1.heap.size := hz1
                have hm' : Mod [] w1 w2 := ((Mod.refl [] w1).alloc _).drew.trans hm (by simp)
                have B2 := Lib.hid (B1.out.go hm'); have q2 := spx B2.out.kB B2.out.kA; have q2a := fun Z => spx (B2.out.go ((Mod.refl [] w2).alloc Z)).kB (B2.out.go ((Mod.refl [] w2).alloc Z)).kA
                have hz2 := hm'.size; have HO2 := Lib.hid o; clear hm hm' o)
             | ((with_reducible refine (toRenew_any w _ _ _ _ _ _ _ _ _ _ _ _ _ w1.drew hs1 hs2 (B1.out.go (Mod.refl [] w1).drew).m HH1.out HH2.out).mono ?_)
                rintro e w2 ⟨b1, b2, g1, g2, rfl, r1, r2, o, hm⟩
                have hm' : Mod [] w1 w2 := (Mod.refl [] w1).drew.trans hm (by simp)
                have B2 := Lib.hid (B1.out.go hm'); have q2 := spx B2.out.kB B2.out.kA; have q2a := fun Z => spx (B2.out.go ((Mod.refl [] w2).alloc Z)).kB (B2.out.go ((Mod.refl [] w2).alloc Z)).kA
                have hz2 := hm'.size; have HO2 := Lib.hid o; clear hm hm' o))
          | (go_at_call 22
             refine (toRenewAct_any _ _ _ _).mono ?_
             rintro e w3 ⟨rfl, hm⟩
             first
             | (have kp2 := hm.blk (heap1_0 w2 _) (by simp)
                have hm' : Mod [] w2 w3 := ((Mod.refl [] w2).alloc _).trans hm (by simp)
                have kp := kp2; have hpl : w.heap.size + 2 ≤ w2.heap.size := (by omega)
                have B3 := Lib.hid (B2.out.go hm'); have q3 := spx B3.out.kB B3.out.kA; have q3a := fun Z => spx (B3.out.go ((Mod.refl [] w3).alloc Z)).kB (B3.out.go ((Mod.refl [] w3).alloc Z)).kA
                have hz3 := hm'.size; have HM3 := Lib.hid hm'; clear hm hm' kp2)
             | (have kp := hm.blk kp (by simp)
                have B3 := Lib.hid (B2.out.go hm); have q3 := spx B3.out.kB B3.out.kA; have q3a := fun Z => spx (B3.out.go ((Mod.refl [] w3).alloc Z)).kB (B3.out.go ((Mod.refl [] w3).alloc Z)).kA
                have hz3 := hm.size; have HM3 := Lib.hid hm; clear hm)
             | (have B3 := Lib.hid (B2.out.go hm); have q3 := spx B3.out.kB B3.out.kA; have q3a := fun Z => spx (B3.out.go ((Mod.refl [] w3).alloc Z)).kB (B3.out.go ((Mod.refl [] w3).alloc Z)).kA
                have hz3 := hm.size; have HM3 := Lib.hid hm; clear hm))
          | (go_at_call 9
             first
             | ((with_reducible refine (sStepRenew_any w2 x _ _ _ _ _ _ _ _ a (w3.alloc (.cells #[.int .i64 0, .int .i64 0, .slice none 0 0, .int .i64 0, .slice none 0 0] 28)) hs1 hs2 (HM3.out.alloc _) r1 r2).mono ?_)
                rintro e w4 ⟨v, rfl, ⟨e1, m1, d1, i1, e2, m2, d2, i2, rfl, k1, k2, s1, s2, o⟩, hm⟩
                have kp4 := hm.blk (heap1_0 w3 _) (by simp)
                have hge : ∀ q ∈ i1 ++ i2, w3.heap.size + 1 ≤ q := (fun q h => by have := (o.2 q h).1; simp at this; omega)
                have hpq : w3.heap.size ∉ i1 ++ i2 := (fun h => by have := hge _ h; omega)
                have hm' : Mod [] w3 w4 := ((Mod.refl [] w3).alloc _).trans hm (by simp)
                have kp := kp4; have hpl : w.heap.size + 2 ≤ w3.heap.size := (by omega)
                have B4 := Lib.hid (B3.out.go hm'); have q4 := spx B4.out.kB B4.out.kA; have q4a := fun Z => spx (B4.out.go ((Mod.refl [] w4).alloc Z)).kB (B4.out.go ((Mod.refl [] w4).alloc Z)).kA
                have hz4 := hm'.size; have HM4 := Lib.hid hm'; have kpc := blk_cell kp; have kpf := blk_free kp;  have q4c := fun v0 v1 v2 v3 v4 => spx ((put5 kp v0 v1 v2 v3 v4).2.blk B4.out.kB (by simp; omega)) ((put5 kp v0 v1 v2 v3 v4).2.blk B4.out.kA (by simp; omega)); have HKP := Lib.hid kp; clear hm hm' kp kp4)
             | ((with_reducible refine (sStepRenew_any w2 x _ _ _ _ _ _ _ _ a w3 hs1 hs2 HM3.out r1 r2).mono ?_)
                rintro e w4 ⟨v, rfl, ⟨e1, m1, d1, i1, e2, m2, d2, i2, rfl, k1, k2, s1, s2, o⟩, hm⟩
                have hge : ∀ q ∈ i1 ++ i2, w3.heap.size ≤ q := (fun q h => (o.2 q h).1)
                have hpq := notin_of kp hge
                have kp := hm.blk kp (by simp)
                have hm' : Mod [] w3 w4 := hm
                have B4 := Lib.hid (B3.out.go hm'); have q4 := spx B4.out.kB B4.out.kA; have q4a := fun Z => spx (B4.out.go ((Mod.refl [] w4).alloc Z)).kB (B4.out.go ((Mod.refl [] w4).alloc Z)).kA
                have hz4 := hm'.size; have HM4 := Lib.hid hm'; have kpc := blk_cell kp; have kpf := blk_free kp;  have q4c := fun v0 v1 v2 v3 v4 => spx ((put5 kp v0 v1 v2 v3 v4).2.blk B4.out.kB (by simp; omega)) ((put5 kp v0 v1 v2 v3 v4).2.blk B4.out.kA (by simp; omega)); have HKP := Lib.hid kp; clear hm hm' kp)
             | ((with_reducible refine (sStepRenew_any w2 x _ _ _ _ _ _ _ _ a w3 hs1 hs2 HM3.out r1 r2).mono ?_)
                rintro e w4 ⟨v, rfl, ⟨e1, m1, d1, i1, e2, m2, d2, i2, rfl, k1, k2, s1, s2, o⟩, hm⟩
                have hm' : Mod [] w3 w4 := hm
                have B4 := Lib.hid (B3.out.go hm'); have q4 := spx B4.out.kB B4.out.kA; have q4a := fun Z => spx (B4.out.go ((Mod.refl [] w4).alloc Z)).kB (B4.out.go ((Mod.refl [] w4).alloc Z)).kA
                have hz4 := hm'.size; have HM4 := Lib.hid hm'; clear hm hm')))
    all_goals
      go_wp2_with fail
      go_meet
      first
        | (have f := put5 HKP.out (.int .i64 (stepRenew x a).1.fNow) (.int .i64 (stepRenew x a).1.fMaster.fOff) (.slice e1 m1 d1) (.int .i64 (stepRenew x a).1.fVer) (.slice e2 m2 d2)
           exact ⟨_, e1, m1, d1, i1, e2, m2, d2, i2, rfl, rfl, rfl, ⟨f.1, s1.mod f.2 (fun q h1 h2 => hpq (by simp at h2; subst h2; simp [h1])), s2.mod f.2 (fun q h1 h2 => hpq (by simp at h2; subst h2; simp [h1])), (Own.raise o (fun q h => by have := hge q h; omega)).mod f.2 (fun q h1 h2 => hpq (by simp at h2; subst h2; exact h1)), hpq, hpl⟩, B4.out.put f.2 (by omega) (by omega) (by omega)⟩)
        | exact ⟨_, e1, m1, d1, i1, e2, m2, d2, i2, rfl, rfl, rfl, ⟨heap_alloc_new _ _, s1.mod0 ((Mod.refl [] _).alloc _), s2.mod0 ((Mod.refl [] _).alloc _), (Own.raise o (fun q h => by have := (o.2 q h).1; omega)).mod ((Mod.refl [] _).alloc _) (by simp), fun h => Nat.lt_irrefl _ (o.lt _ h), by omega⟩, B4.out.go ((Mod.refl [] _).alloc _)⟩
  case rest =>
  obtain ⟨p6, e1, m1, d1, i1, e2, m2, d2, i2, rfl, rfl, rfl, V6, B5⟩ := hcut
  have HV6 := Lib.hid V6; have HB5 := Lib.hid B5
  have cB := blk_cell B5.kB; have cA := blk_cell B5.kA
  have hz5 := B5.m.size
  clear B1 V6 B5 hz1
  go_wp2_with fail
  refine (toRenew_any w _ _ _ _ _ _ _ _ _ _ _ _ _ _ hs1 hs2 HB5.out.m HH1.out HH2.out).mono ?_
  rintro e w5 ⟨b1, b2, j1, j2, rfl, r1, r2, o, hm⟩
  have hlt := o.lt
  have hz6 := hm.size
  have HV9 := Lib.hid (show VarR wc.heap.size (w5.alloc (.cells #[.int .i64 x.fNow, .int .i64 x.fMaster.fOff, .slice b1 n1 n1, .int .i64 x.fVer, .slice b2 n2 n2] 28)) w5.heap.size x b1 n1 n1 j1 b2 n2 n2 j2 from
    ⟨heap_alloc_new _ _, r1.mod0 ((Mod.refl [] w5).alloc _), r2.mod0 ((Mod.refl [] w5).alloc _), o.mod ((Mod.refl [] w5).alloc _) (by simp), fun h => Nat.lt_irrefl _ (hlt _ h), hz6⟩)
  have HV6' := Lib.hid (HV6.out.mod0 (hm.alloc (.cells #[.int .i64 x.fNow, .int .i64 x.fMaster.fOff, .slice b1 n1 n1, .int .i64 x.fVer, .slice b2 n2 n2] 28)))
  have HB6 := Lib.hid (HB5.out.go (hm.alloc (.cells #[.int .i64 x.fNow, .int .i64 x.fMaster.fOff, .slice b1 n1 n1, .int .i64 x.fVer, .slice b2 n2 n2] 28)))
  have hl6 : p6 < wc.heap.size ∧ (∀ q ∈ i1 ++ i2, q < wc.heap.size) ∧ w.heap.size + 1 < wc.heap.size := ⟨lt_of_heap HV6.out.blk, HV6.out.own.lt, lt_of_heap HB5.out.kA⟩
  have HL6 := Lib.hid hl6
  clear hm r1 r2 o cB cA HV6 HB5 hl6
  go_upto_region 7 with fail
  generalize hw6 : (w5.alloc (.cells #[.int .i64 x.fNow, .int .i64 x.fMaster.fOff, .slice b1 n1 n1, .int .i64 x.fVer, .slice b2 n2 n2] 28)) = w6 at *
  have hp9 : w5.heap.size < w6.heap.size := by rw [← hw6]; simp
  clear hw6
  go_cut [10, 11, 12] (fun s6 s7 s8 wx => ∃ (p : Nat) (b1 : Option Addr) (m1 d1 : Nat) (g1 : List Nat) (b2 : Option Addr) (m2 d2 : Nat) (g2 : List Nat), s6 = .pointer (some ⟨p, 0, none⟩) ∧ s7 = .bool (stepRenew x a).2.1 ∧ s8 = .bool (stepRenew x a).2.2 ∧
    VarR w6.heap.size wx p (stepRenew x a).1 b1 m1 d1 g1 b2 m2 d2 g2 ∧ Mod [] w6 wx)
  case first =>
    have hq9 : w.heap.size + 1 < w6.heap.size := by have := lt_of_heap HB6.out.kA; exact this
    have B1 := Lib.hid (show Bx w5.heap.size (w.heap.size + 1) 28 56 x a b1 b2 n1 n1 n2 n2 w6 w6 from ⟨HV9.out.blk, HB6.out.kA, Mod.refl _ _⟩)
    have q1 := spx (W := w6.drew) B1.out.kB B1.out.kA
    have q1a := fun Z => spx (W := (w6.alloc Z).drew) (B1.out.go ((Mod.refl [] w6).alloc Z)).kB (B1.out.go ((Mod.refl [] w6).alloc Z)).kA
    go_region_held3 (fun W => W.cell? ⟨w5.heap.size, 0, none⟩ = some (.int .i64 x.fNow) ∧ W.cell? ⟨w5.heap.size, 1, none⟩ = some (.int .i64 x.fMaster.fOff) ∧ W.cell? ⟨w5.heap.size, 2, none⟩ = some (.slice b1 n1 n1) ∧ W.cell? ⟨w5.heap.size, 3, none⟩ = some (.int .i64 x.fVer) ∧ W.cell? ⟨w5.heap.size, 4, none⟩ = some (.slice b2 n2 n2) ∧
          W.cell? ⟨w.heap.size + 1, 0, none⟩ = some (.int .i64 a.fKind) ∧ W.cell? ⟨w.heap.size + 1, 1, none⟩ = some (.int .i64 a.fWho) ∧ W.cell? ⟨w.heap.size + 1, 2, none⟩ = some (.int .i64 a.fBy))
        (first | with_reducible exact q4 | with_reducible exact q4a _ | with_reducible exact q4c _ _ _ _ _ | with_reducible exact q3 | with_reducible exact q3a _ | with_reducible exact q1 | with_reducible exact q1a _)
        (first
          | (go_at_call 22
             refine (toRenewAct_any _ _ _ _).mono ?_
             rintro e w3 ⟨rfl, hm⟩
             first
             | (have kp2 := hm.blk (heap1_0 w6 _) (by simp)
                have hm' : Mod [] w6 w3 := ((Mod.refl [] w6).alloc _).drew.trans hm (by simp)
                have kp := kp2; have hpl : w6.heap.size ≤ w6.heap.size := Nat.le_refl _
                have B3 := Lib.hid (B1.out.go hm'); have q3 := spx B3.out.kB B3.out.kA; have q3a := fun Z => spx (B3.out.go ((Mod.refl [] w3).alloc Z)).kB (B3.out.go ((Mod.refl [] w3).alloc Z)).kA
                have hz3 := hm'.size; have HM3 := Lib.hid hm'; clear hm hm' kp2)
             | (have hm' : Mod [] w6 w3 := (Mod.refl [] w6).drew.trans hm (by simp)
                have B3 := Lib.hid (B1.out.go hm'); have q3 := spx B3.out.kB B3.out.kA; have q3a := fun Z => spx (B3.out.go ((Mod.refl [] w3).alloc Z)).kB (B3.out.go ((Mod.refl [] w3).alloc Z)).kA
                have hz3 := hm'.size; have HM3 := Lib.hid hm'; clear hm hm'))
          | (go_at_call 8
             first
             | ((with_reducible refine (stepRenew_any w6 x _ _ _ _ _ _ _ _ a (w3.alloc (.cells #[.int .i64 0, .int .i64 0, .slice none 0 0, .int .i64 0, .slice none 0 0] 28)) hs1 hs2 (HM3.out.alloc _) HV9.out.r1 HV9.out.r2).mono ?_)
                rintro e w4 ⟨v, rfl, ⟨e1, m1, d1, i1, e2, m2, d2, i2, rfl, k1, k2, s1, s2, o⟩, hm⟩
                have kp4 := hm.blk (heap1_0 w3 _) (by simp)
                have hge : ∀ q ∈ i1 ++ i2, w3.heap.size + 1 ≤ q := (fun q h => by have := (o.2 q h).1; simp at this; omega)
                have hpq : w3.heap.size ∉ i1 ++ i2 := (fun h => by have := hge _ h; omega)
                have hm' : Mod [] w3 w4 := ((Mod.refl [] w3).alloc _).trans hm (by simp)
                have kp := kp4; have hpl : w6.heap.size ≤ w3.heap.size := (by omega)
                have B4 := Lib.hid (B3.out.go hm'); have q4 := spx B4.out.kB B4.out.kA; have q4a := fun Z => spx (B4.out.go ((Mod.refl [] w4).alloc Z)).kB (B4.out.go ((Mod.refl [] w4).alloc Z)).kA
                have hz4 := hm'.size; have HM4 := Lib.hid hm'; have kpc := blk_cell kp; have kpf := blk_free kp;  have q4c := fun v0 v1 v2 v3 v4 => spx ((put5 kp v0 v1 v2 v3 v4).2.blk B4.out.kB (by simp; omega)) ((put5 kp v0 v1 v2 v3 v4).2.blk B4.out.kA (by simp; omega)); have HKP := Lib.hid kp; clear hm hm' kp kp4)
             | ((with_reducible refine (stepRenew_any w6 x _ _ _ _ _ _ _ _ a w3 hs1 hs2 HM3.out HV9.out.r1 HV9.out.r2).mono ?_)
                rintro e w4 ⟨v, rfl, ⟨e1, m1, d1, i1, e2, m2, d2, i2, rfl, k1, k2, s1, s2, o⟩, hm⟩
                have hge : ∀ q ∈ i1 ++ i2, w3.heap.size ≤ q := (fun q h => (o.2 q h).1)
                have hpq := notin_of kp hge
                have kp := hm.blk kp (by simp)
                have hm' : Mod [] w3 w4 := hm
                have B4 := Lib.hid (B3.out.go hm'); have q4 := spx B4.out.kB B4.out.kA; have q4a := fun Z => spx (B4.out.go ((Mod.refl [] w4).alloc Z)).kB (B4.out.go ((Mod.refl [] w4).alloc Z)).kA
                have hz4 := hm'.size; have HM4 := Lib.hid hm'; have kpc := blk_cell kp; have kpf := blk_free kp;  have q4c := fun v0 v1 v2 v3 v4 => spx ((put5 kp v0 v1 v2 v3 v4).2.blk B4.out.kB (by simp; omega)) ((put5 kp v0 v1 v2 v3 v4).2.blk B4.out.kA (by simp; omega)); have HKP := Lib.hid kp; clear hm hm' kp)
             | ((with_reducible refine (stepRenew_any w6 x _ _ _ _ _ _ _ _ a w3 hs1 hs2 HM3.out HV9.out.r1 HV9.out.r2).mono ?_)
                rintro e w4 ⟨v, rfl, ⟨e1, m1, d1, i1, e2, m2, d2, i2, rfl, k1, k2, s1, s2, o⟩, hm⟩
                have hm' : Mod [] w3 w4 := hm
                have B4 := Lib.hid (B3.out.go hm'); have q4 := spx B4.out.kB B4.out.kA; have q4a := fun Z => spx (B4.out.go ((Mod.refl [] w4).alloc Z)).kB (B4.out.go ((Mod.refl [] w4).alloc Z)).kA
                have hz4 := hm'.size; have HM4 := Lib.hid hm'; clear hm hm')))
    all_goals
      go_wp2_with fail
      go_meet
      first
        | (have f := put5 HKP.out (.int .i64 (stepRenew x a).1.fNow) (.int .i64 (stepRenew x a).1.fMaster.fOff) (.slice e1 m1 d1) (.int .i64 (stepRenew x a).1.fVer) (.slice e2 m2 d2)
           exact ⟨_, e1, m1, d1, i1, e2, m2, d2, i2, rfl, rfl, rfl, ⟨f.1, s1.mod f.2 (fun q h1 h2 => hpq (by simp at h2; subst h2; simp [h1])), s2.mod f.2 (fun q h1 h2 => hpq (by simp at h2; subst h2; simp [h1])), (Own.raise o (fun q h => by have := hge q h; omega)).mod f.2 (fun q h1 h2 => hpq (by simp at h2; subst h2; exact h1)), hpq, hpl⟩, (HM3.out.trans HM4.out (by simp)).trans f.2 (fun q h => Or.inr (by simp at h; omega))⟩)
        | exact ⟨_, e1, m1, d1, i1, e2, m2, d2, i2, rfl, rfl, rfl, ⟨heap_alloc_new _ _, s1.mod0 ((Mod.refl [] _).alloc _), s2.mod0 ((Mod.refl [] _).alloc _), (Own.raise o (fun q h => by have := (o.2 q h).1; omega)).mod ((Mod.refl [] _).alloc _) (by simp), fun h => Nat.lt_irrefl _ (o.lt _ h), by omega⟩, (HM3.out.trans HM4.out (by simp)).alloc _⟩
  case rest =>
  obtain ⟨p10, e3, m3, d3, i3, e4, m4, d4, i4, rfl, rfl, rfl, V10, M7⟩ := hcut
  have len1 : m3 = m1 := by rw [← V10.r1.len, ← HV6'.out.r1.len]
  have len2 : m4 = m2 := by rw [← V10.r2.len, ← HV6'.out.r2.len]
  subst len1 len2
  have hlx := stepRenew_len x a
  have hnx1 : x.fClocks.length = n1 := HV9.out.r1.len
  have hnx2 : x.fLeases.length = n2 := HV9.out.r2.len
  have hm1 : m3 ≤ 1048576 := by rw [← V10.r1.len]; omega
  have hm2 : m4 ≤ 1048576 := by rw [← V10.r2.len]; omega
  have HX := Lib.hid (show ∀ q ∈ j1 ++ j2, q ≠ p6 ∧ q ∉ i1 ++ i2 ∧ w.heap.size + 1 < q ∧ q < w6.heap.size from fun q h => by
    have h1 := (HV9.out.own.2 q h).1; have h2 := HV9.out.own.lt q h; have h3 := HL6.out.1; have h4 := HL6.out.2.2
    exact ⟨by omega, fun h5 => by have := HL6.out.2.1 q h5; omega, by omega, h2⟩)
  have HG := Lib.hid (show ∀ q ∈ i3 ++ i4, q ≠ p6 ∧ q ∉ i1 ++ i2 ∧ w.heap.size + 1 < q ∧ q ∉ j1 ++ j2 from fun q h => by
    have h1 := (V10.own.2 q h).1; have h2 := lt_of_heap HV6'.out.blk; have h3 := lt_of_heap HB6.out.kA
    exact ⟨by omega, fun h5 => by have := HV6'.out.own.lt q h5; omega, by omega, fun h5 => by have := (HX.out q h5).2.2.2; omega⟩)
  have HP := Lib.hid (show p10 ∉ j1 ++ j2 from fun h => by have := (HX.out _ h).2.2.2; have := V10.low; omega)
  have HV10 := Lib.hid V10
  have HV6 := Lib.hid (HV6'.out.mod0 M7)
  have HX0 := Lib.hid (HV9.out.mod0 M7)
  have HB7 := Lib.hid (HB6.out.go M7)
  have cG := blk_cell HV10.out.blk; have cW := blk_cell HV6.out.blk
  have tb1 : ((stepRenew x a).2.1 != (stepRenew x a).2.1) = false := by simp
  have tb2 : ((stepRenew x a).2.2 != (stepRenew x a).2.2) = false := by simp
  clear V10 M7 HV9 HV6' HB6
  go_wp2_with fail
  refine (eqRenew_any wc _ _ _ _ _ _ _ _ _ _ _ _ _ _ _ _ _ _ _ wc (by omega) (by omega) (Mod.refl _ _) HV10.out.r1 HV6.out.r1 HV10.out.r2 HV6.out.r2).mono ?_
  rintro e w8 ⟨rfl, M8⟩
  have HV10' := Lib.hid (HV10.out.mod0 M8); have HV6' := Lib.hid (HV6.out.mod0 M8); have HX0' := Lib.hid (HX0.out.mod0 M8); have HB8 := Lib.hid (HB7.out.go M8)
  clear cG cW M8 HV10 HV6 HX0 HB7
  go_upto_region 10 with fail
  go_cut [61] (fun s wx => s = .bool false ∧ Mod [] w8 wx)
  case first =>
    have q1 := spy (W := w8.drew) HX0'.out.blk HB8.out.kB
    go_region_held3 (fun W => W.cell? ⟨w5.heap.size, 0, none⟩ = some (.int .i64 x.fNow) ∧ W.cell? ⟨w5.heap.size, 1, none⟩ = some (.int .i64 x.fMaster.fOff) ∧ W.cell? ⟨w5.heap.size, 2, none⟩ = some (.slice b1 n1 n1) ∧ W.cell? ⟨w5.heap.size, 3, none⟩ = some (.int .i64 x.fVer) ∧ W.cell? ⟨w5.heap.size, 4, none⟩ = some (.slice b2 n2 n2) ∧
          W.cell? ⟨w.heap.size, 0, none⟩ = some (.int .i64 x.fNow) ∧ W.cell? ⟨w.heap.size, 1, none⟩ = some (.int .i64 x.fMaster.fOff) ∧ W.cell? ⟨w.heap.size, 2, none⟩ = some (.slice a1 n1 c1) ∧ W.cell? ⟨w.heap.size, 3, none⟩ = some (.int .i64 x.fVer) ∧ W.cell? ⟨w.heap.size, 4, none⟩ = some (.slice a2 n2 c2))
        (first | with_reducible exact q3 | with_reducible exact q2 | with_reducible exact q1)
        (first
          | (go_at_call 21
             with_reducible refine (toRenew_any w _ _ _ _ _ _ _ _ _ _ _ _ _ w8.drew hs1 hs2 HB8.out.m.drew HH1.out HH2.out).mono ?_
             rintro e w9 ⟨k1, k2, g1, g2, rfl, r1, r2, o, hm⟩
             have hm' : Mod [] w8 w9 := (Mod.refl [] w8).drew.trans hm (by simp)
             have q2 := spy (hm'.blk HX0'.out.blk (by simp)) (HB8.out.go hm').kB
             have HM9 := Lib.hid hm'; clear hm hm' o)
          | (go_at_call 23
             with_reducible refine (eqRenew_any w9 _ _ _ _ _ _ _ _ _ _ _ _ _ _ _ _ _ _ _ w9 (by omega) (by omega) (Mod.refl _ _) (HX0'.out.mod0 HM9.out).r1 r1 (HX0'.out.mod0 HM9.out).r2 r2).mono ?_
             rintro e w10 ⟨rfl, hm⟩
             have HM10 := Lib.hid (HM9.out.trans hm (by simp)); have q3 := spy (HM10.out.blk HX0'.out.blk (by simp)) (HB8.out.go HM10.out).kB; clear hm))
    all_goals
      go_wp2_with fail
      go_meet
      exact ⟨rfl, HM10.out⟩
  case rest =>
  obtain ⟨rfl, M10⟩ := hcut
  have HV10 := Lib.hid (HV10'.out.mod0 M10); have HV6 := Lib.hid (HV6'.out.mod0 M10); have HX0 := Lib.hid (HX0'.out.mod0 M10); have HB7 := Lib.hid (HB8.out.go M10)
  have cX := blk_cell HX0.out.blk
  have hcx : (mkL mkVLease (mkL mkClock 1 x.fClocks).2 x.fLeases).2 = 1 + cntL cntClock x.fClocks + cntL cntVLease x.fLeases := by rw [mkL_cnt mkVLease_cnt, mkL_cnt mkClock_cnt]
  have hbx : cntL cntClock x.fClocks + cntL cntVLease x.fLeases ≤ 4194304 := by rw [cntClock_len, cntVLease_len]; omega
  have hkx : 0 ≤ (mkL mkVLease (mkL mkClock 1 x.fClocks).2 x.fLeases).2 := by rw [hcx]; omega
  clear M10 HV10' HV6' HX0' HB8 hcx
  go_wp2_with fail
  refine (markRenew_any _ _ _ _ _ _ _ _ _ x.fClocks x.fLeases j1 j2 1 _ (by omega) (by omega) (by omega) (by omega) HX0.out.r1 HX0.out.r2 (HX0.out.own.mono (Nat.zero_le _))).mono ?_
  rintro e w9 ⟨rfl, -, -, -, M9⟩
  have HV10' := Lib.hid (HV10.out.mod M9 HP.out (fun q h h2 => (HG.out q h).2.2.2 h2))
  have HV6' := Lib.hid (HV6.out.mod M9 (fun h => (HX.out _ h).1 rfl) (fun q h h2 => (HX.out q h2).2.1 h))
  have HB8 := Lib.hid (HB7.out.putL M9 (fun h => by have := (HX.out _ h).2.2.1; omega) (fun h => by have := (HX.out _ h).2.2.1; omega) (fun k h => by have := (HX.out _ h).2.2.1; omega))
  have cG := blk_cell HV10'.out.blk; have cW := blk_cell HV6'.out.blk
  clear cX M9 HV10 HV6 HX0 HB7
  go_wp2_with fail
  refine (eqRenew_any w9 _ _ _ _ _ _ _ _ _ _ _ _ _ _ _ _ _ _ _ w9 (by omega) (by omega) (Mod.refl _ _) HV10'.out.r1 HV6'.out.r1 HV10'.out.r2 HV6'.out.r2).mono ?_
  rintro e w10 ⟨rfl, M10⟩
  have HV10 := Lib.hid (HV10'.out.mod0 M10); have HV6 := Lib.hid (HV6'.out.mod0 M10); have HB7 := Lib.hid (HB8.out.go M10)
  have cG := blk_cell HV10.out.blk
  have hcg : (mkL mkVLease (mkL mkClock 1 (stepRenew x a).1.fClocks).2 (stepRenew x a).1.fLeases).2 = 1 + cntL cntClock (stepRenew x a).1.fClocks + cntL cntVLease (stepRenew x a).1.fLeases := by rw [mkL_cnt mkVLease_cnt, mkL_cnt mkClock_cnt]
  have hbg : cntL cntClock (stepRenew x a).1.fClocks + cntL cntVLease (stepRenew x a).1.fLeases ≤ 4194304 := by rw [cntClock_len, cntVLease_len]; omega
  have hkg : 0 ≤ (mkL mkVLease (mkL mkClock 1 (stepRenew x a).1.fClocks).2 (stepRenew x a).1.fLeases).2 := by rw [hcg]; omega
  have tkg : ((mkL mkVLease (mkL mkClock 1 (stepRenew x a).1.fClocks).2 (stepRenew x a).1.fLeases).2 != (mkL mkVLease (mkL mkClock 1 (stepRenew x a).1.fClocks).2 (stepRenew x a).1.fLeases).2) = false := by simp
  clear cW M10 HV10' HV6' HB8 hcg
  go_wp2_with fail
  refine (markRenew_any _ _ _ _ _ _ _ _ _ (stepRenew x a).1.fClocks (stepRenew x a).1.fLeases i3 i4 1 _ (by omega) (by omega) (by omega) (by omega) HV10.out.r1 HV10.out.r2 (HV10.out.own.mono (Nat.zero_le _))).mono ?_
  rintro e w11 ⟨rfl, R1, R2, -, M11⟩
  have HV6' := Lib.hid (HV6.out.mod M11 (fun h => (HG.out _ h).1 rfl) (fun q h h2 => (HG.out q h2).2.1 h))
  have HB8 := Lib.hid (HB7.out.putL M11 (fun h => by have := (HG.out _ h).2.2.1; omega) (fun h => by have := (HG.out _ h).2.2.1; omega) (fun k h => by have := (HG.out _ h).2.2.1; omega))
  have kG := M11.blk HV10.out.blk HV10.out.far
  have R1 := Lib.hid R1; have R2 := Lib.hid R2
  have HkG := Lib.hid kG
  have cG := blk_cell kG
  clear M11 HV10 HV6 HB7 kG
  go_wp2_with fail
  refine (heldRenew_any w11 _ _ _ _ _ _ _ _ _ (stepRenew x a).1.fClocks (stepRenew x a).1.fLeases i3 i4 1 _ (by omega) (by omega) (by omega) (by omega) (Mod.refl _ _) R1.out R2.out).mono ?_
  rintro e w12 ⟨rfl, M12⟩
  have HV6 := Lib.hid (HV6'.out.mod0 M12)
  have HBO := Lib.hid (HB8.out.go M12)
  have HB7 := Lib.hid (show Bx w.heap.size (w.heap.size + 1) 55 56 x a a1 a2 n1 c1 n2 c2 w12 w12 from ⟨HBO.out.kB, HBO.out.kA, Mod.refl _ _⟩)
  have HkG' := Lib.hid (M12.blk HkG.out (by simp))
  have R1' := Lib.hid (R1.out.mod0 M12); have R2' := Lib.hid (R2.out.mod0 M12)
  have hz12 := HBO.out.m.size
  clear cG M12 HV6' HB8 HkG R1 R2
  go_upto_region 24 with fail
  go_cut [16, 17, 18] (fun s6 s7 s8 wx => ∃ (p : Nat) (b1 : Option Addr) (m1 d1 : Nat) (g1 : List Nat) (b2 : Option Addr) (m2 d2 : Nat) (g2 : List Nat), s6 = .pointer (some ⟨p, 0, none⟩) ∧ s7 = .bool (stepRenew x a).2.1 ∧ s8 = .bool (stepRenew x a).2.2 ∧
    VarR (w.heap.size + 2) wx p (stepRenew x a).1 b1 m1 d1 g1 b2 m2 d2 g2 ∧ Bx w.heap.size (w.heap.size + 1) 55 56 x a a1 a2 n1 c1 n2 c2 w12 wx)
  case first =>
    have B1 := HB7
    have hz1 : w.heap.size + 2 ≤ w12.heap.size := (by have := lt_of_heap HB7.out.kA; omega)
    have q1 := spx (W := w12.drew) B1.out.kB B1.out.kA
    have q1a := fun Z => spx (W := (w12.alloc Z).drew) (B1.out.go ((Mod.refl [] w12).alloc Z)).kB (B1.out.go ((Mod.refl [] w12).alloc Z)).kA
    go_region_held3 (fun W => W.cell? ⟨w.heap.size, 0, none⟩ = some (.int .i64 x.fNow) ∧ W.cell? ⟨w.heap.size, 1, none⟩ = some (.int .i64 x.fMaster.fOff) ∧ W.cell? ⟨w.heap.size, 2, none⟩ = some (.slice a1 n1 c1) ∧ W.cell? ⟨w.heap.size, 3, none⟩ = some (.int .i64 x.fVer) ∧ W.cell? ⟨w.heap.size, 4, none⟩ = some (.slice a2 n2 c2) ∧
          W.cell? ⟨w.heap.size + 1, 0, none⟩ = some (.int .i64 a.fKind) ∧ W.cell? ⟨w.heap.size + 1, 1, none⟩ = some (.int .i64 a.fWho) ∧ W.cell? ⟨w.heap.size + 1, 2, none⟩ = some (.int .i64 a.fBy))
        (first | with_reducible exact q4 | with_reducible exact q4a _ | with_reducible exact q4c _ _ _ _ _ | with_reducible exact q3 | with_reducible exact q3a _ | with_reducible exact q2 | with_reducible exact q2a _ | with_reducible exact q1 | with_reducible exact q1a _)
        (first
          | (go_at_call 21
             first
             | ((with_reducible refine (toRenew_any w _ _ _ _ _ _ _ _ _ _ _ _ _ (w12.alloc (.cells #[.int .i64 0, .int .i64 0, .slice none 0 0, .int .i64 0, .slice none 0 0] 28)).drew hs1 hs2 (HBO.out.m.trans (B1.out.go ((Mod.refl [] w12).alloc _).drew).m (by simp)) HH1.out HH2.out).mono ?_)
                rintro e w2 ⟨b1, b2, g1, g2, rfl, r1, r2, o, hm⟩
                have kp := hm.blk (heap1_0 w12 _) (by simp); have hpl : w.heap.size + 2 ≤ w12.heap.size := hz1
                have hm' : Mod [] w12 w2 := ((Mod.refl [] w12).alloc _).drew.trans hm (by simp)
                have B2 := Lib.hid (B1.out.go hm'); have q2 := spx B2.out.kB B2.out.kA; have q2a := fun Z => spx (B2.out.go ((Mod.refl [] w2).alloc Z)).kB (B2.out.go ((Mod.refl [] w2).alloc Z)).kA
                have hz2 := hm'.size; have HO2 := Lib.hid o; clear hm hm' o)
             | ((with_reducible refine (toRenew_any w _ _ _ _ _ _ _ _ _ _ _ _ _ w12.drew hs1 hs2 (HBO.out.m.trans (B1.out.go (Mod.refl [] w12).drew).m (by simp)) HH1.out HH2.out).mono ?_)
                rintro e w2 ⟨b1, b2, g1, g2, rfl, r1, r2, o, hm⟩
                have hm' : Mod [] w12 w2 := (Mod.refl [] w12).drew.trans hm (by simp)
                have B2 := Lib.hid (B1.out.go hm'); have q2 := spx B2.out.kB B2.out.kA; have q2a := fun Z => spx (B2.out.go ((Mod.refl [] w2).alloc Z)).kB (B2.out.go ((Mod.refl [] w2).alloc Z)).kA
                have hz2 := hm'.size; have HO2 := Lib.hid o; clear hm hm' o))
          | (go_at_call 22
             refine (toRenewAct_any _ _ _ _).mono ?_
             rintro e w3 ⟨rfl, hm⟩
             first
             | (have kp2 := hm.blk (heap1_0 w2 _) (by simp)
                have hm' : Mod [] w2 w3 := ((Mod.refl [] w2).alloc _).trans hm (by simp)
                have kp := kp2; have hpl : w.heap.size + 2 ≤ w2.heap.size := (by omega)
                have B3 := Lib.hid (B2.out.go hm'); have q3 := spx B3.out.kB B3.out.kA; have q3a := fun Z => spx (B3.out.go ((Mod.refl [] w3).alloc Z)).kB (B3.out.go ((Mod.refl [] w3).alloc Z)).kA
                have hz3 := hm'.size; have HM3 := Lib.hid hm'; clear hm hm' kp2)
             | (have kp := hm.blk kp (by simp)
                have B3 := Lib.hid (B2.out.go hm); have q3 := spx B3.out.kB B3.out.kA; have q3a := fun Z => spx (B3.out.go ((Mod.refl [] w3).alloc Z)).kB (B3.out.go ((Mod.refl [] w3).alloc Z)).kA
                have hz3 := hm.size; have HM3 := Lib.hid hm; clear hm)
             | (have B3 := Lib.hid (B2.out.go hm); have q3 := spx B3.out.kB B3.out.kA; have q3a := fun Z => spx (B3.out.go ((Mod.refl [] w3).alloc Z)).kB (B3.out.go ((Mod.refl [] w3).alloc Z)).kA
                have hz3 := hm.size; have HM3 := Lib.hid hm; clear hm))
          | (go_at_call 8
             first
             | ((with_reducible refine (stepRenew_any w2 x _ _ _ _ _ _ _ _ a (w3.alloc (.cells #[.int .i64 0, .int .i64 0, .slice none 0 0, .int .i64 0, .slice none 0 0] 28)) hs1 hs2 (HM3.out.alloc _) r1 r2).mono ?_)
                rintro e w4 ⟨v, rfl, ⟨e1, m1, d1, i1, e2, m2, d2, i2, rfl, k1, k2, s1, s2, o⟩, hm⟩
                have kp4 := hm.blk (heap1_0 w3 _) (by simp)
                have hge : ∀ q ∈ i1 ++ i2, w3.heap.size + 1 ≤ q := (fun q h => by have := (o.2 q h).1; simp at this; omega)
                have hpq : w3.heap.size ∉ i1 ++ i2 := (fun h => by have := hge _ h; omega)
                have hm' : Mod [] w3 w4 := ((Mod.refl [] w3).alloc _).trans hm (by simp)
                have kp := kp4; have hpl : w.heap.size + 2 ≤ w3.heap.size := (by omega)
                have B4 := Lib.hid (B3.out.go hm'); have q4 := spx B4.out.kB B4.out.kA; have q4a := fun Z => spx (B4.out.go ((Mod.refl [] w4).alloc Z)).kB (B4.out.go ((Mod.refl [] w4).alloc Z)).kA
                have hz4 := hm'.size; have HM4 := Lib.hid hm'; have kpc := blk_cell kp; have kpf := blk_free kp;  have q4c := fun v0 v1 v2 v3 v4 => spx ((put5 kp v0 v1 v2 v3 v4).2.blk B4.out.kB (by simp; omega)) ((put5 kp v0 v1 v2 v3 v4).2.blk B4.out.kA (by simp; omega)); have HKP := Lib.hid kp; clear hm hm' kp kp4)
             | ((with_reducible refine (stepRenew_any w2 x _ _ _ _ _ _ _ _ a w3 hs1 hs2 HM3.out r1 r2).mono ?_)
                rintro e w4 ⟨v, rfl, ⟨e1, m1, d1, i1, e2, m2, d2, i2, rfl, k1, k2, s1, s2, o⟩, hm⟩
                have hge : ∀ q ∈ i1 ++ i2, w3.heap.size ≤ q := (fun q h => (o.2 q h).1)
                have hpq := notin_of kp hge
                have kp := hm.blk kp (by simp)
                have hm' : Mod [] w3 w4 := hm
                have B4 := Lib.hid (B3.out.go hm'); have q4 := spx B4.out.kB B4.out.kA; have q4a := fun Z => spx (B4.out.go ((Mod.refl [] w4).alloc Z)).kB (B4.out.go ((Mod.refl [] w4).alloc Z)).kA
                have hz4 := hm'.size; have HM4 := Lib.hid hm'; have kpc := blk_cell kp; have kpf := blk_free kp;  have q4c := fun v0 v1 v2 v3 v4 => spx ((put5 kp v0 v1 v2 v3 v4).2.blk B4.out.kB (by simp; omega)) ((put5 kp v0 v1 v2 v3 v4).2.blk B4.out.kA (by simp; omega)); have HKP := Lib.hid kp; clear hm hm' kp)
             | ((with_reducible refine (stepRenew_any w2 x _ _ _ _ _ _ _ _ a w3 hs1 hs2 HM3.out r1 r2).mono ?_)
                rintro e w4 ⟨v, rfl, ⟨e1, m1, d1, i1, e2, m2, d2, i2, rfl, k1, k2, s1, s2, o⟩, hm⟩
                have hm' : Mod [] w3 w4 := hm
                have B4 := Lib.hid (B3.out.go hm'); have q4 := spx B4.out.kB B4.out.kA; have q4a := fun Z => spx (B4.out.go ((Mod.refl [] w4).alloc Z)).kB (B4.out.go ((Mod.refl [] w4).alloc Z)).kA
                have hz4 := hm'.size; have HM4 := Lib.hid hm'; clear hm hm')))
    all_goals
      go_wp2_with fail
      go_meet
      first
        | (have f := put5 HKP.out (.int .i64 (stepRenew x a).1.fNow) (.int .i64 (stepRenew x a).1.fMaster.fOff) (.slice e1 m1 d1) (.int .i64 (stepRenew x a).1.fVer) (.slice e2 m2 d2)
           exact ⟨_, e1, m1, d1, i1, e2, m2, d2, i2, rfl, rfl, rfl, ⟨f.1, s1.mod f.2 (fun q h1 h2 => hpq (by simp at h2; subst h2; simp [h1])), s2.mod f.2 (fun q h1 h2 => hpq (by simp at h2; subst h2; simp [h1])), (Own.raise o (fun q h => by have := hge q h; omega)).mod f.2 (fun q h1 h2 => hpq (by simp at h2; subst h2; exact h1)), hpq, hpl⟩, B4.out.put f.2 (by omega) (by omega) (by omega)⟩)
        | exact ⟨_, e1, m1, d1, i1, e2, m2, d2, i2, rfl, rfl, rfl, ⟨heap_alloc_new _ _, s1.mod0 ((Mod.refl [] _).alloc _), s2.mod0 ((Mod.refl [] _).alloc _), (Own.raise o (fun q h => by have := (o.2 q h).1; omega)).mod ((Mod.refl [] _).alloc _) (by simp), fun h => Nat.lt_irrefl _ (o.lt _ h), by omega⟩, B4.out.go ((Mod.refl [] _).alloc _)⟩
  case rest =>
  obtain ⟨p16, e5, m5, d5, i5, e6, m6, d6, i6, rfl, rfl, rfl, V16, B24⟩ := hcut
  have len1 : m5 = m3 := by rw [← V16.r1.len, ← HV6.out.r1.len]
  have len2 : m6 = m4 := by rw [← V16.r2.len, ← HV6.out.r2.len]
  subst len1 len2
  have HV16 := Lib.hid V16
  have HV6' := Lib.hid (HV6.out.mod0 B24.m)
  have HM := Lib.hid (HBO.out.m.trans B24.m (by simp))
  have HkG := Lib.hid (B24.m.blk HkG'.out (by simp))
  have R1 := Lib.hid (R1'.out.mod0 B24.m); have R2 := Lib.hid (R2'.out.mod0 B24.m)
  have cG := blk_cell HV16.out.blk; have cW := blk_cell HV6'.out.blk
  clear V16 HV6 B24 HkG' R1' R2' HBO HB7
  go_wp2_with fail
  refine (eqRenew_any wc _ _ _ _ _ _ _ _ _ _ _ _ _ _ _ _ _ _ _ wc (by omega) (by omega) (Mod.refl _ _) HV16.out.r1 HV6'.out.r1 HV16.out.r2 HV6'.out.r2).mono ?_
  rintro e w14 ⟨rfl, M14⟩
  have cH := blk_cell (M14.blk HkG.out (by simp))
  have HM14 := Lib.hid (HM.out.trans M14 (by simp))
  have R1' := Lib.hid (R1.out.mod0 M14); have R2' := Lib.hid (R2.out.mod0 M14)
  clear cG cW M14
  go_wp2_with fail
  refine (heldRenew_any w14 _ _ _ _ _ _ _ _ _ (stepRenew x a).1.fClocks (stepRenew x a).1.fLeases i3 i4 1 _ (by omega) (by omega) (by omega) (by omega) (Mod.refl _ _) R1'.out R2'.out).mono ?_
  rintro e w15 ⟨rfl, M15⟩
  have HM15 := Lib.hid (HM14.out.trans M15 (by simp))
  clear M15 cH
  go_wp2
  go_ret
  exact ⟨rfl, HM15.out⟩
end Go.Proofs.Ytjneaalpiangdaa

/- The law FnExactStepRenew returns true at every input, and every argument reads afterwards as it read before. Condition: none beyond the given row. -/
import Derived.Test.YtjneaalpiangdaaRows
import Derived.Test.YtjneaalpiangdaaL1
import Derived.Test.YtjneaalpiangdaaOpR
import Derived.WalkKit
import Derived.ProofKit
import Derived.OpenShut
import Derived.ShutString
import Derived.ChangeOld
import Derived.Below
namespace Go.Proofs.Ytjneaalpiangdaa.fnExactStepRenewDone
open Go.ChangeShapes Go.WideShapes Go.ChangeAt Go.RowKit
open Go.Proofs.Ytjneaalpiangdaa
set_option linter.unusedVariables false
theorem own : ownKnob Try.prog.godebug = none := by kernel_rfl
theorem laidOut : laidOutB Try.prog = true := by kernel_rfl
/-- What an argument is: its cells. -/
theorem agg_of {cs : Array Value} {l : List Value} (h : (Value.agg cs).cells.toList = l) : cs = l.toArray := by
  cases cs
  simp [Value.cells] at h
  rw [h]
theorem walk (x : DRenew) (a : DRenewAct) (a1 a2 : Option Addr) (n1 c1 n2 c2 : Nat) (f1 f2 : List Nat) (w : World) (hn1 : n1 ≤ 9223372036854775807) (hn2 : n2 ≤ 9223372036854775807)
    (h1 : RdS gClock w a1 n1 x.fClocks f1) (h2 : RdS gVLease w a2 n2 x.fLeases f2) :
    Calls Try.prog 4 #[.agg #[.int .i64 x.fNow, .int .i64 x.fMaster.fOff, .slice a1 n1 c1, .int .i64 x.fVer, .slice a2 n2 c2], .agg #[.int .i64 a.fKind, .int .i64 a.fWho, .int .i64 a.fBy]] w fun e w' => e = .returned (.bool true) ∧ Below w.heap.size w w' :=
  (law_StepRenew x a a1 a2 n1 c1 n2 c2 f1 f2 w hn1 hn2 h1 h2).mono fun _ _ ⟨he, hm⟩ => ⟨he, hm.below⟩

set_option maxRecDepth 100000 in
theorem lifted (os : Os) (started : os.Started) (H : Type) (enc : TypeId × Value → H) :
    ReturnsInHanded {} Try.checked os 4 .any (Rows.fnExactStepRenewSpec.pre6 enc Try.prog Try.f4 Rows.fnExactStepRenewRow.domain false) (Rows.fnExactStepRenewSpec.post enc Try.prog Try.f4 false true false false) := by
  refine returnsInHanded_of_change (C := Try.checked) own started (by kernel_rfl) Try.func4
    (ChangeSpec.witness6 (enc := enc) (C := Try.checked) false ⟨#[], #[.agg #[.int .i64 0, .int .i64 0, .slice none 0 0, .int .i64 0, .slice none 0 0], .agg #[.int .i64 0, .int .i64 0, .int .i64 0]], []⟩ 8 (by kernel_rfl) (by kernel_rfl) (by kernel_rfl) (by kernel_rfl)) ?_
  intro W base args ds gs before hval0 hW hcnd _
  have hval : ∀ (j : Nat) t v, Try.f4.params[j]? = some t → args[j]? = some v → Value.okWide Try.prog W .any base t v := hval0
  have hW' := hW
  obtain ⟨p, q, hA0, hV, rfl, hfz, hnd⟩ := hW
  have hA : DataW.TrodAll enc Try.prog W 0 (fun _ => true) true Try.f4.params.toList args.toList ds p := hA0
  rw [Try.params4] at hA hval
  obtain ⟨v0, vs0, d0, ds0, p0, q0, hargs, rfl, rfl, h0, r0⟩ := trodAll_cons hA
  obtain ⟨v1, vs1, d1, ds1, p1, q1, rfl, rfl, rfl, h1, r1⟩ := trodAll_cons r0
  obtain ⟨rfl, rfl, rfl⟩ := trodAll_nil r1
  obtain rfl : args = #[v0, v1] := by cases args; simp_all
  obtain ⟨rfl, rfl⟩ := trodVars_none hV
  obtain ⟨cs0, rfl, _⟩ := okWide_struct Try.underlying55 (hval 0 55 v0 rfl rfl)
  obtain ⟨cs1, rfl, _⟩ := okWide_struct Try.underlying56 (hval 1 56 v1 rfl rfl)
  have k0 := h0
  have lt0 : ∀ x ∈ p0, x.block < W.heap.size := by obtain ⟨m, hm⟩ := k0; exact DataW.trod_lt m _ _ _ hm
  have k1 := h1
  have lt1 : ∀ x ∈ p1, x.block < W.heap.size := by obtain ⟨m, hm⟩ := k1; exact DataW.trod_lt m _ _ _ hm
  obtain ⟨fuel0, hf0⟩ := h0
  obtain ⟨x, a1, n1, c1, f1, a2, n2, c2, f2, hc0, hn1, hr1, hn2, hr2⟩ := openRenew hf0
  obtain rfl := agg_of hc0
  obtain ⟨fuel1, hf1⟩ := h1
  obtain ⟨a, fa, hra⟩ := opensRenewAct.2 _ _ _ _ _ _ _ _ hf1
  obtain rfl := agg_of (gRenewAct_open hra).1
  clear hA0 hval0
  refine (walk x a a1 a2 n1 c1 n2 c2 f1 f2 W hn1 hn2 hr1 hr2).mono fun e W' ⟨he, bel⟩ => ?_
  subst he
  exact ⟨_, rfl, _, _, _, [], _, [], hW', trodAll_mk1 (shut_bool Try.underlying4 _), (trodAll_cons_mk (Below.trod laidOut (by kernel_rfl) (of_decide_eq_true (by kernel_rfl)) k0 bel lt0) (trodAll_cons_mk (Below.trod laidOut (by kernel_rfl) (of_decide_eq_true (by kernel_rfl)) k1 bel lt1) trodAll_mk0)), rfl, bel.frame _, fun h => by cases h⟩

theorem over : Rows.fnExactStepRenewRow.holds Try.pinned (OpenSpec.ofChange Rows.fnExactStepRenewSpec) :=
  OpenClaim.holds_of_wide 4 Try.f4 rfl rfl rfl rfl rfl rfl rfl ⟨rfl, rfl, rfl, rfl, rfl⟩ rfl rfl rfl rfl rfl (by kernel_rfl) Try.func4 (by kernel_rfl)
    (of_decide_eq_true (by kernel_rfl)) (by unfold Func.isWrapper; first | (rw [if_pos (by decide +kernel)]; kernel_rfl) | (rw [if_neg (by decide +kernel)]; exact ⟨rfl, rfl⟩))
    (fun os started H enc _ => lifted os started H enc)
end Go.Proofs.Ytjneaalpiangdaa.fnExactStepRenewDone
namespace Go.Proofs.Ytjneaalpiangdaa
/-- The statement. -/
theorem fnExactStepRenewProved : Rows.FnExactStepRenewSaid := fnExactStepRenewDone.over
#print axioms fnExactStepRenewProved
end Go.Proofs.Ytjneaalpiangdaa

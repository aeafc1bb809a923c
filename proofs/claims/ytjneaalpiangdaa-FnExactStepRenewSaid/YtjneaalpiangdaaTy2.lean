/- The lease system: how it reads. -/
import Derived.Test.YtjneaalpiangdaaTy1
namespace Go.Proofs.Ytjneaalpiangdaa
open Go.RowKit
structure DRenew where
  fNow : Int
  fMaster : DClock
  fClocks : List DClock
  fVer : Int
  fLeases : List DVLease
def gRenew : GT DRenew := (gPair gInt (gPair gClock (gPair (gS gClock) (gPair gInt (gS gVLease))))).via fun x => (x.fNow, x.fMaster, x.fClocks, x.fVer, x.fLeases)
theorem gRenew_open {w : World} {cs : List Value} {x : DRenew} {fp : List Nat} (h : gRenew.rd w cs x fp) : ∃ a1 n1 c1 f1 a2 n2 c2 f2,
    cs = [.int .i64 x.fNow, .int .i64 x.fMaster.fOff, .slice a1 n1 c1, .int .i64 x.fVer, .slice a2 n2 c2] ∧ fp = f1 ++ f2 ∧ I64 x.fNow ∧ I64 x.fMaster.fOff ∧ (n1 ≤ c1 ∧ n1 ≤ 140737488351232 ∧ RdS gClock w a1 n1 x.fClocks f1) ∧ I64 x.fVer ∧ (n2 ≤ c2 ∧ n2 ≤ 140737488351232 ∧ RdS gVLease w a2 n2 x.fLeases f2) := by
  obtain ⟨_, _, _, _, rfl, rfl, ⟨rfl, rfl, h1⟩, _, _, _, _, rfl, rfl, ⟨rfl, rfl, h2⟩, _, _, _, _, rfl, rfl, ⟨a1, n1, c1, rfl, h3⟩, _, _, _, _, rfl, rfl, ⟨rfl, rfl, h4⟩, a2, n2, c2, rfl, h5⟩ := h
  exact ⟨a1, n1, c1, _, a2, n2, c2, _, rfl, by simp, h1, h2, h3, h4, h5⟩
theorem gRenew_mk {w : World} {x : DRenew} {a1 : Option Addr} {n1 c1 : Nat} {f1 : List Nat} {a2 : Option Addr} {n2 c2 : Nat} {f2 : List Nat} (h1 : I64 x.fNow) (h2 : I64 x.fMaster.fOff)
    (h3 : n1 ≤ c1 ∧ n1 ≤ 140737488351232 ∧ RdS gClock w a1 n1 x.fClocks f1) (h4 : I64 x.fVer) (h5 : n2 ≤ c2 ∧ n2 ≤ 140737488351232 ∧ RdS gVLease w a2 n2 x.fLeases f2) :
    gRenew.rd w [.int .i64 x.fNow, .int .i64 x.fMaster.fOff, .slice a1 n1 c1, .int .i64 x.fVer, .slice a2 n2 c2] x (f1 ++ f2) :=
  ⟨[_], _, [], _, rfl, rfl, ⟨rfl, rfl, h1⟩, [_], _, [], _, rfl, rfl, ⟨rfl, rfl, h2⟩, [_], _, f1, _, rfl, rfl, ⟨a1, n1, c1, rfl, h3⟩, [_], _, [], _, rfl, rfl, ⟨rfl, rfl, h4⟩, a2, n2, c2, rfl, h5⟩
end Go.Proofs.Ytjneaalpiangdaa

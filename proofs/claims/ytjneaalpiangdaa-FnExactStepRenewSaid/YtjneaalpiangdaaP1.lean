/- What the functions on lease systems compute, on plain data. -/
import Derived.Test.YtjneaalpiangdaaTy2
namespace Go.Proofs.Ytjneaalpiangdaa
open Go.RowKit
def within (a lo hi : Int) : Bool := decide (lo ≤ a) && decide (a ≤ hi)
def goodClock (c : DClock) : Bool := within c.fOff (-5) 5
def badLease (v : Int) (l : DVLease) : Bool := !within l.fVer 0 v || !within l.fUntil 0 1020
def goodRenew (r : DRenew) : Bool :=
  within r.fNow 0 1000 && goodClock r.fMaster && within r.fClocks.length 1 3 && within r.fVer 0 20 && ((r.fLeases.length : Int) == (r.fClocks.length : Int)) &&
    !(r.fClocks.any fun c => !goodClock c) && !(r.fLeases.any (badLease r.fVer))
theorem within_iff {a b c : Int} : within a b c = true ↔ b ≤ a ∧ a ≤ c := by simp [within]
def isAct (n : Int) (a : DRenewAct) : Bool :=
  if a.fKind = 1 then (a.fWho == 0) && within a.fBy 1 50
  else if a.fKind = 2 then within a.fWho 0 n && goodClock ⟨a.fBy⟩
  else if a.fKind = 3 then within a.fWho 0 (n - 1) && (a.fBy == 0)
  else if a.fKind = 4 then (a.fWho == 0) && (a.fBy == 0)
  else false
def lowOf (r : DRenew) : Int := r.fNow + r.fMaster.fOff - 5
def stale (v low : Int) (l : DVLease) : Bool := (l.fVer != v) && decide (low ≤ l.fUntil)
def doRenew (r : DRenew) (a : DRenewAct) : DRenew × Bool :=
  if a.fKind = 1 then (if r.fNow + a.fBy ≤ 1000 then ({ r with fNow := r.fNow + a.fBy }, true) else (r, false))
  else if a.fKind = 2 then (if a.fWho = 0 then ({ r with fMaster := ⟨a.fBy⟩ }, true) else ({ r with fClocks := r.fClocks.set (a.fWho - 1).toNat ⟨a.fBy⟩ }, true))
  else if a.fKind = 3 then (if 0 ≤ lowOf r then ({ r with fLeases := r.fLeases.set a.fWho.toNat ⟨r.fVer, lowOf r + 20⟩ }, true) else (r, false))
  else (if r.fVer < 20 ∧ r.fLeases.any (stale r.fVer (lowOf r)) = false then ({ r with fVer := r.fVer + 1 }, true) else (r, false))
def noRenew : DRenew := ⟨0, ⟨0⟩, [], 0, []⟩
def stepRenew (r : DRenew) (a : DRenewAct) : DRenew × Bool × Bool :=
  if (goodRenew r && isAct r.fClocks.length a) = true then ((doRenew r a).1, (doRenew r a).2, true) else (noRenew, false, false)
end Go.Proofs.Ytjneaalpiangdaa

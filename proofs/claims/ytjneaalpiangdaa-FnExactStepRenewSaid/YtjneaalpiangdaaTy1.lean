/- Flat structs of ints: how they read. -/
import Derived.Test.YtjneaalpiangdaaLib
namespace Go.Proofs.Ytjneaalpiangdaa
open Go.RowKit
structure DClock where
  fOff : Int
def gClock : GT DClock := gInt.via fun x => x.fOff
theorem gClock_open {w : World} {cs : List Value} {x : DClock} {fp : List Nat} (h : gClock.rd w cs x fp) : cs = [.int .i64 x.fOff] ∧ fp = [] ∧ I64 x.fOff := by
  obtain ⟨rfl, rfl, h0⟩ := h
  exact ⟨rfl, rfl, h0⟩
theorem gClock_mk {w : World} {a0 : Int} (h0 : I64 a0) : gClock.rd w [.int .i64 a0] ⟨a0⟩ [] :=
  ⟨rfl, rfl, h0⟩
theorem gClock_flat (w : World) (cs : List Value) (x : DClock) (f : List Nat) (h : gClock.rd w cs x f) : f = [] := (gClock_open h).2.1
def mkClock (k : Int) (_ : DClock) : DClock × Int := (⟨k⟩, k + 1)
def cntClock (_ : DClock) : Nat := 1
theorem mkClock_cnt (k : Int) (x : DClock) : (mkClock k x).2 = k + cntClock x := rfl

structure DVLease where
  fVer : Int
  fUntil : Int
def gVLease : GT DVLease := (gPair gInt gInt).via fun x => (x.fVer, x.fUntil)
theorem gVLease_open {w : World} {cs : List Value} {x : DVLease} {fp : List Nat} (h : gVLease.rd w cs x fp) : cs = [.int .i64 x.fVer, .int .i64 x.fUntil] ∧ fp = [] ∧ I64 x.fVer ∧ I64 x.fUntil := by
  obtain ⟨_, _, _, _, rfl, rfl, ⟨rfl, rfl, h0⟩, rfl, rfl, h1⟩ := h
  exact ⟨rfl, rfl, h0, h1⟩
theorem gVLease_mk {w : World} {a0 a1 : Int} (h0 : I64 a0) (h1 : I64 a1) : gVLease.rd w [.int .i64 a0, .int .i64 a1] ⟨a0, a1⟩ [] :=
  ⟨[_], _, [], _, rfl, rfl, ⟨rfl, rfl, h0⟩, rfl, rfl, h1⟩
theorem gVLease_flat (w : World) (cs : List Value) (x : DVLease) (f : List Nat) (h : gVLease.rd w cs x f) : f = [] := (gVLease_open h).2.1
def mkVLease (k : Int) (_ : DVLease) : DVLease × Int := (⟨k, k + 1⟩, k + 2)
def cntVLease (_ : DVLease) : Nat := 2
theorem mkVLease_cnt (k : Int) (x : DVLease) : (mkVLease k x).2 = k + cntVLease x := rfl

structure DRenewAct where
  fKind : Int
  fWho : Int
  fBy : Int
def gRenewAct : GT DRenewAct := (gPair gInt (gPair gInt gInt)).via fun x => (x.fKind, (x.fWho, x.fBy))
theorem gRenewAct_open {w : World} {cs : List Value} {x : DRenewAct} {fp : List Nat} (h : gRenewAct.rd w cs x fp) : cs = [.int .i64 x.fKind, .int .i64 x.fWho, .int .i64 x.fBy] ∧ fp = [] ∧ I64 x.fKind ∧ I64 x.fWho ∧ I64 x.fBy := by
  obtain ⟨_, _, _, _, rfl, rfl, ⟨rfl, rfl, h0⟩, _, _, _, _, rfl, rfl, ⟨rfl, rfl, h1⟩, rfl, rfl, h2⟩ := h
  exact ⟨rfl, rfl, h0, h1, h2⟩
theorem gRenewAct_mk {w : World} {a0 a1 a2 : Int} (h0 : I64 a0) (h1 : I64 a1) (h2 : I64 a2) : gRenewAct.rd w [.int .i64 a0, .int .i64 a1, .int .i64 a2] ⟨a0, a1, a2⟩ [] :=
  ⟨[_], _, [], _, rfl, rfl, ⟨rfl, rfl, h0⟩, [_], _, [], _, rfl, rfl, ⟨rfl, rfl, h1⟩, rfl, rfl, h2⟩
theorem gRenewAct_flat (w : World) (cs : List Value) (x : DRenewAct) (f : List Nat) (h : gRenewAct.rd w cs x f) : f = [] := (gRenewAct_open h).2.1
def mkRenewAct (k : Int) (_ : DRenewAct) : DRenewAct × Int := (⟨k, k + 1, k + 1 + 1⟩, k + 3)
def cntRenewAct (_ : DRenewAct) : Nat := 3
theorem mkRenewAct_cnt (k : Int) (x : DRenewAct) : (mkRenewAct k x).2 = k + cntRenewAct x := rfl

/-- What 'sz' hands back. -/
def SzPost (left : Int) (s : Nat) (e : Ending) : Prop := ∃ r : Int, e = .returned (.int .i64 r) ∧ ((r = left - s ∧ (s : Int) ≤ left) ∨ (r = -1 ∧ left < s))
end Go.Proofs.Ytjneaalpiangdaa

/- How a lease system and an action that came in are opened. -/
import Derived.Test.YtjneaalpiangdaaOp
import Derived.Test.YtjneaalpiangdaaTy2
import Derived.Test.YtjneaalpiangdaaChecked
namespace Go.Proofs.Ytjneaalpiangdaa
open Go.ChangeShapes Go.WideShapes Go.ChangeAt Go.RowKit
theorem list1 {l : List Value} (h : l.length = 1) : ∃ a, l = [a] := by
  match l, h with
  | [a], _ => exact ⟨a, rfl⟩
theorem list2 {l : List Value} (h : l.length = 2) : ∃ a b, l = [a, b] := by
  match l, h with
  | [a, b], _ => exact ⟨a, b, rfl⟩
theorem list3 {l : List Value} (h : l.length = 3) : ∃ a b c, l = [a, b, c] := by
  match l, h with
  | [a, b, c], _ => exact ⟨a, b, c, rfl⟩
theorem list5 {l : List Value} (h : l.length = 5) : ∃ a b c d e, l = [a, b, c, d, e] := by
  match l, h with
  | [a, b, c, d, e], _ => exact ⟨a, b, c, d, e, rfl⟩
theorem cellsInt : Try.prog.cellsOf 3 = 1 := by kernel_rfl
theorem cellsClock : Try.prog.cellsOf 51 = 1 := by kernel_rfl
theorem opensClock : Opens Try.prog 51 gClock := by
  refine ⟨cellsClock, fun H enc w spare held fuel cs x h => ?_⟩
  obtain ⟨xs, m, _, _, hl, hlen, hf⟩ := DataW.trod_struct Try.underlying51 h
  rw [cellsClock] at hl
  obtain ⟨c0, rfl⟩ := list1 hl
  have hlen : xs.length = 1 := hlen
  have h0 : DataW.trod enc Try.prog w 0 spare held m 3 (([c0].drop 0).take (Try.prog.cellsOf 3)) = xs[0]? := hf 0 _ rfl
  rw [cellsInt] at h0
  obtain ⟨y0, _, e0, rfl, i0⟩ := open_field (opens_int Try.underlying3 cellsInt) h0 (by omega)
  simp at e0
  subst e0
  exact ⟨⟨y0⟩, [], gClock_mk i0⟩
theorem cellsVLease : Try.prog.cellsOf 121 = 2 := by kernel_rfl
theorem opensVLease : Opens Try.prog 121 gVLease := by
  refine ⟨cellsVLease, fun H enc w spare held fuel cs x h => ?_⟩
  obtain ⟨xs, m, _, _, hl, hlen, hf⟩ := DataW.trod_struct Try.underlying121 h
  rw [cellsVLease] at hl
  obtain ⟨c0, c1, rfl⟩ := list2 hl
  have hlen : xs.length = 2 := hlen
  have h0 : DataW.trod enc Try.prog w 0 spare held m 3 (([c0, c1].drop 0).take (Try.prog.cellsOf 3)) = xs[0]? := hf 0 _ rfl
  have h1 : DataW.trod enc Try.prog w 0 spare held m 3 (([c0, c1].drop 1).take (Try.prog.cellsOf 3)) = xs[1]? := hf 1 _ rfl
  rw [cellsInt] at h0
  obtain ⟨y0, _, e0, rfl, i0⟩ := open_field (opens_int Try.underlying3 cellsInt) h0 (by omega)
  simp at e0
  subst e0
  rw [cellsInt] at h1
  obtain ⟨y1, _, e1, rfl, i1⟩ := open_field (opens_int Try.underlying3 cellsInt) h1 (by omega)
  simp at e1
  subst e1
  exact ⟨⟨y0, y1⟩, [], gVLease_mk i0 i1⟩
theorem cellsRenewAct : Try.prog.cellsOf 56 = 3 := by kernel_rfl
theorem opensRenewAct : Opens Try.prog 56 gRenewAct := by
  refine ⟨cellsRenewAct, fun H enc w spare held fuel cs x h => ?_⟩
  obtain ⟨xs, m, _, _, hl, hlen, hf⟩ := DataW.trod_struct Try.underlying56 h
  rw [cellsRenewAct] at hl
  obtain ⟨c0, c1, c2, rfl⟩ := list3 hl
  have hlen : xs.length = 3 := hlen
  have h0 : DataW.trod enc Try.prog w 0 spare held m 3 (([c0, c1, c2].drop 0).take (Try.prog.cellsOf 3)) = xs[0]? := hf 0 _ rfl
  have h1 : DataW.trod enc Try.prog w 0 spare held m 3 (([c0, c1, c2].drop 1).take (Try.prog.cellsOf 3)) = xs[1]? := hf 1 _ rfl
  have h2 : DataW.trod enc Try.prog w 0 spare held m 3 (([c0, c1, c2].drop 2).take (Try.prog.cellsOf 3)) = xs[2]? := hf 2 _ rfl
  rw [cellsInt] at h0
  obtain ⟨y0, _, e0, rfl, i0⟩ := open_field (opens_int Try.underlying3 cellsInt) h0 (by omega)
  simp at e0
  subst e0
  rw [cellsInt] at h1
  obtain ⟨y1, _, e1, rfl, i1⟩ := open_field (opens_int Try.underlying3 cellsInt) h1 (by omega)
  simp at e1
  subst e1
  rw [cellsInt] at h2
  obtain ⟨y2, _, e2, rfl, i2⟩ := open_field (opens_int Try.underlying3 cellsInt) h2 (by omega)
  simp at e2
  subst e2
  exact ⟨⟨y0, y1, y2⟩, [], gRenewAct_mk i0 i1 i2⟩
theorem cellsRenew : Try.prog.cellsOf 55 = 5 := by kernel_rfl
theorem cellsRenewClockS : Try.prog.cellsOf 52 = 1 := by kernel_rfl
theorem cellsRenewVLeaseS : Try.prog.cellsOf 53 = 1 := by kernel_rfl
theorem openRenew {H : Type} {enc : TypeId × Value → H} {w : World} {spare : Nat → Bool} {held : Bool} {fuel : Nat} {cs : List Value} {x : DataW H × List MemPlace} (h : DataW.trod enc Try.prog w 0 spare held fuel 55 cs = some x) :
    ∃ (y : DRenew) (a2 : Option Addr) (n2 k2 : Nat) (f2 : List Nat) (a4 : Option Addr) (n4 k4 : Nat) (f4 : List Nat), cs = [.int .i64 y.fNow, .int .i64 y.fMaster.fOff, .slice a2 n2 k2, .int .i64 y.fVer, .slice a4 n4 k4] ∧ n2 ≤ 9223372036854775807 ∧ RdS gClock w a2 n2 y.fClocks f2 ∧ n4 ≤ 9223372036854775807 ∧ RdS gVLease w a4 n4 y.fLeases f4 := by
  obtain ⟨xs, m, _, _, hl, hlen, hf⟩ := DataW.trod_struct Try.underlying55 h
  rw [cellsRenew] at hl
  obtain ⟨c0, c1, c2, c3, c4, rfl⟩ := list5 hl
  have hlen : xs.length = 5 := hlen
  have h0 : DataW.trod enc Try.prog w 0 spare held m 3 (([c0, c1, c2, c3, c4].drop 0).take (Try.prog.cellsOf 3)) = xs[0]? := hf 0 _ rfl
  have h1 : DataW.trod enc Try.prog w 0 spare held m 51 (([c0, c1, c2, c3, c4].drop 1).take (Try.prog.cellsOf 51)) = xs[1]? := hf 1 _ rfl
  have h2 : DataW.trod enc Try.prog w 0 spare held m 52 (([c0, c1, c2, c3, c4].drop 2).take (Try.prog.cellsOf 52)) = xs[2]? := hf 2 _ rfl
  have h3 : DataW.trod enc Try.prog w 0 spare held m 3 (([c0, c1, c2, c3, c4].drop 3).take (Try.prog.cellsOf 3)) = xs[3]? := hf 3 _ rfl
  have h4 : DataW.trod enc Try.prog w 0 spare held m 53 (([c0, c1, c2, c3, c4].drop 4).take (Try.prog.cellsOf 53)) = xs[4]? := hf 4 _ rfl
  rw [cellsInt] at h0
  obtain ⟨y0, _, e0, rfl, i0⟩ := open_field (opens_int Try.underlying3 cellsInt) h0 (by omega)
  simp at e0
  subst e0
  rw [cellsClock] at h1
  obtain ⟨y1, _, r1⟩ := open_field opensClock h1 (by omega)
  obtain ⟨e1, rfl, i1⟩ := gClock_open r1
  simp at e1
  subst e1
  rw [cellsRenewClockS] at h2
  obtain ⟨a2, n2, k2, y2, f2, e2, l2, u2, r2⟩ := open_row_field (by decide) Try.underlying52 opensClock h2 (by omega)
  simp at e2
  subst e2
  rw [cellsInt] at h3
  obtain ⟨y3, _, e3, rfl, i3⟩ := open_field (opens_int Try.underlying3 cellsInt) h3 (by omega)
  simp at e3
  subst e3
  rw [cellsRenewVLeaseS] at h4
  obtain ⟨a4, n4, k4, y4, f4, e4, l4, u4, r4⟩ := open_row_field (by decide) Try.underlying53 opensVLease h4 (by omega)
  simp at e4
  subst e4
  exact ⟨⟨y0, y1, y2, y3, y4⟩, a2, n2, k2, f2, a4, n4, k4, f4, rfl, Nat.le_trans l2 u2, r2, Nat.le_trans l4 u4, r4⟩
end Go.Proofs.Ytjneaalpiangdaa

/- The sizes of lease systems, for slices of any length. -/
import Derived.Test.YtjneaalpiangdaaARenew
namespace Go.Proofs.Ytjneaalpiangdaa
open Go.RowKit
set_option maxRecDepth 100000 in
set_option maxHeartbeats 400000 in
theorem szClockS_big (a : Option Addr) (n c : Nat) (left : Int) (w : World) (hn : n ≤ 9223372036854775807) (h0 : 0 ≤ left) (h1 : left ≤ 1048576) :
    Calls Try.prog 67 #[.slice a n c, .int .i64 left] w fun e w' => SzPost left n e ∧ Mod [] w w' := by
  by_cases h : left < (n : Int)
  · go_enter Try.func67, Try.ntmps67
    go_wp2
    go_ret
    exact ⟨⟨_, rfl, Or.inr ⟨rfl, h⟩⟩, Mod.refl _ _⟩
  · go_enter Try.func67, Try.ntmps67
    go_wp2
    go_ret
    exact ⟨⟨_, rfl, Or.inl ⟨rfl, by omega⟩⟩, Mod.refl _ _⟩
set_option maxRecDepth 100000 in
set_option maxHeartbeats 400000 in
theorem szVLeaseS_big (a : Option Addr) (n c : Nat) (left : Int) (w : World) (hn : n ≤ 9223372036854775807) (h0 : 0 ≤ left) (h1 : left ≤ 1048576) :
    Calls Try.prog 68 #[.slice a n c, .int .i64 left] w fun e w' => SzPost left n e ∧ Mod [] w w' := by
  by_cases h : left < (n : Int)
  · go_enter Try.func68, Try.ntmps68
    go_wp2
    go_ret
    exact ⟨⟨_, rfl, Or.inr ⟨rfl, h⟩⟩, Mod.refl _ _⟩
  · go_enter Try.func68, Try.ntmps68
    go_wp2
    go_ret
    exact ⟨⟨_, rfl, Or.inl ⟨rfl, by omega⟩⟩, Mod.refl _ _⟩
set_option maxRecDepth 100000 in
set_option maxHeartbeats 400000 in
theorem szRenew_big (x0 x1 x3 : Int) (a1 a2 : Option Addr) (n1 c1 n2 c2 : Nat) (left : Int) (w : World) (hn1 : n1 ≤ 9223372036854775807) (hn2 : n2 ≤ 9223372036854775807) (h0 : 0 ≤ left) (h1 : left ≤ 1048576) :
    Calls Try.prog 20 #[.agg #[.int .i64 x0, .int .i64 x1, .slice a1 n1 c1, .int .i64 x3, .slice a2 n2 c2], .int .i64 left] w fun e w' => SzPost left (n1 + n2) e ∧ Mod [] w w' := by
  go_enter Try.func20, Try.ntmps20
  go_wp2_with fail
  refine (szClockS_big _ _ _ _ _ hn1 h0 h1).mono ?_
  rintro e w1 ⟨⟨r, rfl, hr⟩, hm1⟩
  have hM1 := Lib.hid (((Mod.refl [] w).alloc _).trans hm1 (by simp))
  obtain ⟨hc, hf⟩ := mcell0 hm1
  clear hm1
  rcases hr with ⟨rfl, hr⟩ | ⟨rfl, hr⟩
  · go_wp2_with fail
    refine (szVLeaseS_big _ _ _ _ _ hn2 (by omega) (by omega)).mono ?_
    rintro e w2 ⟨⟨r, rfl, hr2⟩, hm2⟩
    have hM2 := Lib.hid (hM1.out.trans hm2 (by simp))
    clear hm2
    rcases hr2 with ⟨rfl, hr2⟩ | ⟨rfl, hr2⟩
    · go_wp2
      go_ret
      exact ⟨⟨_, rfl, Or.inl ⟨by omega, by omega⟩⟩, hM2.out⟩
    · go_wp2
      go_ret
      exact ⟨⟨_, rfl, Or.inr ⟨rfl, by omega⟩⟩, hM2.out⟩
  · go_wp2
    go_ret
    exact ⟨⟨_, rfl, Or.inr ⟨rfl, by omega⟩⟩, hM1.out⟩
end Go.Proofs.Ytjneaalpiangdaa

/- slices.Clone, IndexFunc, ContainsFunc at VLease. -/
import Derived.Test.YtjneaalpiangdaaAVLease
import Derived.Lib.SliceRun
import Derived.Shelf.RegionOpenPlain
namespace Go.Proofs.Ytjneaalpiangdaa
open Go.RowKit
set_option maxRecDepth 100000 in
set_option maxHeartbeats 400000 in
theorem cloneVLease_any (w0 : World) (a : Option Addr) (n c : Nat) (xs : List DVLease) (fp : List Nat) (w : World) (hn : n ≤ 1048576) (hm0 : Mod [] w0 w) (h : RdS gVLease w0 a n xs fp) :
    Calls Try.prog 88 #[.slice a n c] w fun e w' => ∃ a' c' fp', e = .returned (.slice a' n c') ∧ n ≤ c' ∧ RdS gVLease w' a' n xs fp' ∧ Own w.heap.size w' fp' ∧ Mod [] w w' := by
  obtain ⟨i0, hi, hz0, hz1, hz2⟩ := info_parts info_VLease
  have q22 : ∀ (w : World) (a : Option Addr) (n c n' c' : Nat), (binOp .eql 26 (.slice a n c) (.slice none n' c')).run Try.prog w = .ok (.bool a.isNone) w := fun w a n c n' c' => Lib.run_eql_slice_nil w _ _ a n c n' c' und_VLeaseS
  have hl := h.1
  cases a with
  | none =>
    rcases h.2 with ⟨rfl, _⟩ | ⟨b, o, fps, ha, _⟩
    · simp at hl; subst hl
      go_enter Try.func88, Try.ntmps88
      go_wp2
      go_ret
      exact ⟨none, 0, [], rfl, Nat.le_refl _, ⟨rfl, Or.inl ⟨rfl, rfl⟩⟩, Own.nil _ _, Mod.refl _ _⟩
    · cases ha
  | some ad =>
    obtain ⟨Ls, fps, hL, hc, hfp, hlen⟩ := h.cells (by decide)
    have hsp : ad.spot = none ∨ n = 0 := by
      rcases h.2 with ⟨rfl, _⟩ | ⟨b, o, fps, ha, _⟩
      · simp at hl; exact Or.inr hl.symm
      · simp at ha; subst ha; exact Or.inl rfl
    have hc' : ∀ j u, Ls.flatten[j]? = some u → (w.alloc (.cells #[] 49)).cell? (ad.add j) = some u := fun j u hu => by
      have h1 := hc j u hu
      have hb := World.block_lt_of_cell? w0 _ h1
      rw [(hm0.alloc _).cell hb (by simp)]; exact h1
    have HL := Lib.hid hL
    have HC := Lib.hid hc'
    have HN := Lib.hid hlen
    clear hL hc hc' hlen h hm0
    go_enter Try.func88, Try.ntmps88
    go_wp2_with (at_builtin; refine wpList_append_own _ rfl _ _ 26 rfl w.heap.size 49 i0 _ 2 16 und_VLeaseS hi hz0 hz1 hz2 rfl (by decide) _ _ _ rfl (World.ownsRow_made w #[] 0 (Nat.le_refl _) (Nat.zero_le _) (by simp)) ad n c Ls.flatten rfl ?qc1 ?qc2 ?qc3 ?qc4 ?qc5 ?qc6 ?_)
    case qc1 => exact HN.out
    case qc2 => exact HC.out
    case qc3 => exact HL.out.one
    case qc4 => unfold maxLen; omega
    case qc5 => omega
    case qc6 => simp
    intro v' w1 hown hgrow hnil
    go_wp2
    go_ret
    obtain ⟨a', c', fp', rfl, h1, h2, h3, _⟩ := own_flat (by decide) gVLease_flat HL.out (by simpa [hl, show gVLease.size = 2 from rfl] using hown)
    rw [hl] at h1 h2 ⊢
    exact ⟨a', c', fp', rfl, h1, h2, h3, ((Mod.refl [] w).alloc _).grown hgrow (by intro k hk; simp [Value.ownBlock] at hk; omega)⟩

set_option maxRecDepth 100000 in
set_option maxHeartbeats 400000 in
theorem idxVLease_any (w0 : World) (p : DVLease → Bool) (g : Nat) (lb : Array Value) (eg : ∀ args w, (callFunc g args).run Try.prog w = .ok (.enter g args) w) (a : Option Addr) (n c : Nat) (xs : List DVLease) (fp : List Nat) (w : World) (hn : n ≤ 140737488351232) (hm0 : Mod [] w0 w) (h : RdS gVLease w0 a n xs fp)
    (hp : PredT Try.prog gVLease (fun cs => .agg cs.toArray) g lb p xs w) : Calls Try.prog 93 #[.slice a n c, .func (.func g) #[] lb] w fun e w' => e = .returned (.int .i64 (idxOf p xs)) ∧ Mod [] w w' := by
  have hl := Lib.hid h.1
  have HH := Lib.hid h
  have HP := Lib.hid hp
  clear h hp
  go_enter Try.func93, Try.ntmps93
  go_wp2
  go_loopw [8] (fun s8 wr => ∃ k : Nat, k ≤ n ∧ s8 = .int .i64 k ∧ Mod [] w wr ∧ Hid ((xs.take k).any p = false)) (fun s8 _ => n - (intOf s8).toNat)
  case atStart => exact ⟨0, by omega, rfl, Mod.refl _ _, by simp [Hid]⟩
  case round =>
    obtain ⟨k, hk, rfl, hm, A⟩ := hrel
    by_cases hlt : k < n
    · obtain ⟨x, hx⟩ := HH.out.some_of_lt hlt
      have hM := hm0.trans hm (by simp)
      obtain ⟨b, o, cs, f, rfl, hb1, hbf, hrd, hfin, hc⟩ := HH.out.at hx
      have hr' := gVLease.frame (fun q hq => hM.block q (gVLease.inb hrd q hq) (by simp)) hrd
      obtain ⟨rfl, _⟩ := gVLease_open hrd
      have hcall := HP.out wr _ x f (List.mem_of_getElem? hx) hm hr'
      have c0 : wr.cell? ⟨b, o + k * 2, none⟩ = _ := (hM.cell hb1 (by simp)).trans (hc 0 _ rfl)
      have c1 : wr.cell? ⟨b, o + k * 2 + 1, none⟩ = _ := (hM.cell hb1 (by simp)).trans (hc 1 _ rfl)
      have HX := Lib.hid hx
      have HM := Lib.hid hm
      clear hrd hc hx hr' hM hm
      cases hq : p x with
      | true =>
        have HQ := Lib.hid hq
        rw [hq] at hcall
        clear hq
        go_wp2_with (go_at_fn g; refine hcall.mono ?_; rintro e w' ⟨rfl, hm2⟩)
        go_ret
        exact ⟨by rw [idxOf_hit p HX.out A.out HQ.out]; rfl, HM.out.trans hm2 (by simp)⟩
      | false =>
        have HQ := Lib.hid hq
        rw [hq] at hcall
        clear hq
        go_wp2_with (go_at_fn g; refine hcall.mono ?_; rintro e w' ⟨rfl, hm2⟩)
        go_roundw
        case rel => exact ⟨k + 1, by omega, by go_num, HM.out.trans hm2 (by simp), show _ = false by rw [any_take_succ p HX.out, A.out, HQ.out]; rfl⟩
        case measure => simp [intOf]; omega
    · obtain rfl : k = n := by omega
      go_wp2
      go_ret
      have hA := A.out
      rw [List.take_of_length_le (by rw [hl.out]; exact Nat.le_refl _)] at hA
      exact ⟨by rw [idxOf_miss p hA]; rfl, hm⟩

set_option maxRecDepth 100000 in
set_option maxHeartbeats 400000 in
theorem hasVLease_any (w0 : World) (p : DVLease → Bool) (g : Nat) (lb : Array Value) (eg : ∀ args w, (callFunc g args).run Try.prog w = .ok (.enter g args) w) (a : Option Addr) (n c : Nat) (xs : List DVLease) (fp : List Nat) (w : World) (hn : n ≤ 140737488351232) (hm0 : Mod [] w0 w) (h : RdS gVLease w0 a n xs fp)
    (hp : PredT Try.prog gVLease (fun cs => .agg cs.toArray) g lb p xs w) : Calls Try.prog 51 #[.slice a n c, .func (.func g) #[] lb] w fun e w' => e = .returned (.bool (xs.any p)) ∧ Mod [] w w' := by
  have HD := Lib.hid (idxOf_nonneg p xs)
  go_enter Try.func51, Try.ntmps51
  go_wp2_with fail
  refine (idxVLease_any w0 p g lb eg a n c xs fp _ hn hm0 h hp).mono ?_
  rintro e w' ⟨rfl, hm⟩
  generalize hi : idxOf p xs = i at HD
  clear hi
  by_cases h0 : 0 ≤ i
  · go_wp2
    go_ret
    exact ⟨by rw [← HD.out]; first | rfl | (simp; done) | simp [h0], hm⟩
  · go_wp2
    go_ret
    exact ⟨by rw [← HD.out]; first | rfl | (simp; done) | simp [h0], hm⟩
end Go.Proofs.Ytjneaalpiangdaa

/- Parts of a proof, joined: DB, DC, DD, Ty1, Ty2, P1, P2, D1, DE, D2, D3, D4, D5, D6, D7, D8. -/
import Derived.Test.YtjneaalpiangdaaK7
/- Part DB. Steps of a tree; loops over slices; the shapes that the laws' helpers have. -/
section
namespace Go.Proofs.Ytjneaalpiangdaa
open Go.RowKit
section
variable {Rt : Nat → List AV → AV → Prop} {R : AV → Prop} {L : LK} {js : List JK} {ρ : List AV}
theorem den_chk {gs : Gd} {c : Cn} {k : Tr} (h : gdOK ρ gs → c.den ρ) (hk : k.den Rt R L js ρ) : (Tr.chk gs c k).den Rt R L js ρ := ⟨h, hk⟩
theorem den_call {gs : Gd} {f : Nat} {args : EL} {k : Tr} {r : AV} (h : gdOK ρ gs → Rt f (args.den ρ) r) (hk : k.den Rt R L js (ρ ++ [r])) : (Tr.call gs (.inl f) args k).den Rt R L js ρ := ⟨r, h, hk⟩
theorem den_callV {gs : Gd} {x : E} {args : EL} {k : Tr} {r : AV} (h : gdOK ρ gs → ∃ g caps, x.den ρ = .fn g caps ∧ Rt (1000000 + g) (args.den ρ ++ caps) r ∧ ∀ y ∈ r.cells, y.scalar = true) (hk : k.den Rt R L js (ρ ++ [r])) : (Tr.call gs (.inr x) args k).den Rt R L js ρ := ⟨r, h, hk⟩
theorem den_ite {c : E} {a b : Tr} {t : Bool} (h : c.den ρ = .bool t) (ha : t = true → a.den Rt R L js ρ) (hb : t = false → b.den Rt R L js ρ) : (Tr.ite c a b).den Rt R L js ρ := ⟨t, h, ha, hb⟩
theorem den_ret {r : E} (h : R (r.den ρ)) : (Tr.ret r).den Rt R L js ρ := h
theorem den_jmp0 {es : EL} {j : JK} (h : j (es.den ρ)) : (Tr.jmp 0 es).den Rt R L (j :: js) ρ := h
theorem den_jmp1 {es : EL} {i j : JK} (h : j (es.den ρ)) : (Tr.jmp 1 es).den Rt R L (i :: j :: js) ρ := h
/-- A loop that goes through the states st 0, st 1, .. st n. -/
theorem den_for {i : EL} {b k : Tr} (hL : LMono L) (n : Nat) (st : Nat → List AV) (h0 : i.den ρ = st 0) (hb : ∀ q, q ≤ n → ∀ W : JK, (q < n → W (st (q + 1))) → b.den Rt R L (W :: (fun us => k.den Rt R L js (ρ ++ us)) :: js) (ρ ++ st q)) : (Tr.loop i b k).den Rt R L js ρ := by
  refine den_loop hL (fun m vs => ∃ q, q + m = n ∧ vs = st q) (m := n) ⟨0, by omega, h0⟩ ?_
  rintro m vs ⟨q, hq, rfl⟩
  exact hb q (by omega) _ fun hlt => ⟨m - 1, by omega, q + 1, by omega, rfl⟩
end
/-- A call by the plain way is a call by the function's own way where nothing is handed over. -/
theorem E.den_app_nil : True := trivial
/-! ### The laws' helpers -/
def tSz : Tr :=
  .chk [] (.dfd (.len (.var 0))) <|
  .chk [] (.dfd (.bin .sub (.var 1) (.len (.var 0)))) <|
  .chk [] (.dfd (.bin .lss (.bin .sub (.var 1) (.len (.var 0))) (.int .i64 (0)))) <|
  .ite (.bin .lss (.bin .sub (.var 1) (.len (.var 0))) (.int .i64 (0))) (
   .ret (.int .i64 (-1))) (
   .ret (.bin .sub (.var 1) (.len (.var 0))))
def szOf (n : Nat) (k : Int) : Int := if k - n < 0 then -1 else k - n
theorem sz_den {xs : List AV} {k : Int} (hk : 0 ≤ k) (hk2 : k ≤ 9223372036854775807) (hn : xs.length ≤ 9223372036854775807) : Den tSz (.int .i64 (szOf xs.length k)) [.sl xs, .int .i64 k] := by
  have hw : IntKind.i64.wrap (k - xs.length) = k - xs.length := wrap64 (by omega) (by omega)
  unfold Den tSz
  by_cases h : k - xs.length < 0 <;> simp [Tr.den, binInt, hw, h, szOf]
def tEqS (f cn : Nat) : Tr :=
  .chk [] (.dfd (.len (.var 0))) <|
  .chk [] (.dfd (.len (.var 1))) <|
  .ite (.bin .neq (.len (.var 0)) (.len (.var 1))) (
   .ret (.bool false)) (
   .loop (.cons (.int .i64 (0)) .nil) (
    .chk [] (.dfd (.len (.var 0))) <|
    .chk [] (.dfd (.bin .lss (.var 2) (.len (.var 0)))) <|
    .ite (.bin .lss (.var 2) (.len (.var 0))) (
     .chk [] (.inb (.var 2) (.var 0) cn) <|
     .chk [] (.inb (.var 2) (.var 1) cn) <|
     .call [] (.inl f) (.cons (.fld (.idx (.var 0) (.var 2)) 0 cn true) (.cons (.fld (.idx (.var 1) (.var 2)) 0 cn true) .nil)) <|
     .chk [] (.dfd (.not (.var 3))) <|
     .ite (.not (.var 3)) (
      .ret (.bool false)) (
      .chk [] (.dfd (.bin .add (.var 2) (.int .i64 (1)))) <|
      .jmp 0 (.cons (.bin .add (.var 2) (.int .i64 (1))) .nil))) (
     .jmp 1 .nil)) (
    .ret (.bool true)))
/-- Elements of a slice of structs of cn cells. -/
def Structs (cn : Nat) (xs : List AV) : Prop := ∀ x ∈ xs, ∃ cs, x = .agg cs ∧ cs.length = cn
theorem Structs.at {cn : Nat} {xs : List AV} (h : Structs cn xs) {q : Nat} (hq : q < xs.length) : ∃ cs, xs[q] = .agg cs ∧ cs.length = cn := h _ (List.getElem_mem hq)
theorem eqS_same {f cn : Nat} {xs : List AV} (hs : Structs cn xs) (hn : xs.length ≤ 9223372036854775806) (hf : ∀ x ∈ xs, Rts Try.prog sgs f [x, x] (.bool true)) : Den (tEqS f cn) (.bool true) [.sl xs, .sl xs] := by
  unfold Den tEqS
  refine den_chk (by simp) (den_chk (by simp) (den_ite (t := false) (by simp [binInt]) (by simp) fun _ => ?_))
  refine den_for lmono_false xs.length (fun q => [.int .i64 q]) (by simp) fun q hq W hW => ?_
  by_cases hlt : q < xs.length
  · obtain ⟨cs, hc, hl⟩ := hs.at hlt
    have hx : (xs[(q : Int).toNat]?).getD .undef = .agg cs := by simp [hlt, hc]
    have hin : Cn.den [AV.sl xs, .sl xs, .int .i64 q] (.inb (.var 2) (.var 0) cn) := ⟨.i64, q, xs.length, by simp, by omega, by simp, by omega, by simp [hlt, hc, hl]⟩
    have hin1 : Cn.den [AV.sl xs, .sl xs, .int .i64 q] (.inb (.var 2) (.var 1) cn) := ⟨.i64, q, xs.length, by simp, by omega, by simp, by omega, by simp [hlt, hc, hl]⟩
    refine den_chk (by simp) (den_chk (by simp [binInt]) (den_ite (t := true) (by simp [binInt, hlt]) (fun _ => ?_) (by simp)))
    refine den_chk (fun _ => hin) (den_chk (fun _ => hin1) (den_call (r := .bool true) (fun _ => ?_) ?_))
    · have := hf xs[q] (List.getElem_mem hlt)
      rw [hc] at this
      simpa [hlt, hc, ← hl] using this
    · refine den_chk (by simp) (den_ite (t := false) (by simp) (by simp) fun _ => den_chk (by simp [binInt]) (den_jmp0 ?_))
      have := hW hlt
      simpa [binInt, wrap64 (n := (q : Int) + 1) (by omega) (by omega)] using this
  · have hqe : q = xs.length := by omega
    refine den_chk (by simp) (den_chk (by simp [binInt]) (den_ite (t := false) (by simp [binInt]; omega) (by simp) fun _ => den_jmp1 ?_))
    exact den_ret (by simp)
end Go.Proofs.Ytjneaalpiangdaa
end

/- Part DC. More of the laws' helpers: copies; marks. -/
section
namespace Go.Proofs.Ytjneaalpiangdaa
open Go.RowKit
attribute [simp] AV.putF
def tToS (f cn bytes : Nat) (z : E) : Tr :=
  .chk [] (.dfd (.len (.var 0))) <|
  .chk [] (.mkroom (.len (.var 0)) bytes) <|
  .loop (.cons (.int .i64 (0)) (.cons (.rep (.len (.var 0)) z) .nil)) (
   .chk [] (.dfd (.len (.var 0))) <|
   .chk [] (.dfd (.bin .lss (.var 1) (.len (.var 0)))) <|
   .ite (.bin .lss (.var 1) (.len (.var 0))) (
    .chk [] (.inb (.var 1) (.var 0) cn) <|
    .call [] (.inl f) (.cons (.fld (.idx (.var 0) (.var 1)) 0 cn true) .nil) <|
    .chk [] (.inb (.var 1) (.var 2) cn) <|
    .chk [] (.flat (.var 3) cn true) <|
    .chk [] (.flat (.fld (.idx (.var 2) (.var 1)) 0 cn true) cn true) <|
    .chk [] (.dfd (.bin .add (.var 1) (.int .i64 (1)))) <|
    .jmp 0 (.cons (.bin .add (.var 1) (.int .i64 (1))) (.cons (.set (.var 2) (.var 1) (.put (.idx (.var 2) (.var 1)) 0 (.var 3) true)) .nil))) (
    .jmp 1 (.cons (.var 2) .nil))) (
   .ret (.var 1))
def FlatS (cn : Nat) (xs : List AV) : Prop := ∀ x ∈ xs, ∃ cs, x = .agg cs ∧ cs.length = cn ∧ ∀ y ∈ cs, y.scalar = true
theorem toS_den {f cn bytes : Nat} {z : E} {zs : List AV} {xs : List AV} (hz : ∀ ρ, z.den ρ = .agg zs) (hzl : zs.length = cn) (hzs : ∀ y ∈ zs, y.scalar = true) (hs : FlatS cn xs) (hn : (xs.length : Int) * bytes ≤ 140737488355328) (hn2 : xs.length ≤ 140737488355328) (hf : ∀ x ∈ xs, Rts Try.prog sgs f [x] x) : Den (tToS f cn bytes z) (.sl xs) [.sl xs] := by
  unfold Den tToS
  refine den_chk (by simp) (den_chk (fun _ => ⟨.i64, xs.length, by simp, by omega, hn, by omega⟩) ?_)
  refine den_for lmono_false xs.length (fun q => [.int .i64 q, .sl (xs.take q ++ List.replicate (xs.length - q) (.agg zs))]) (by simp [hz]) fun q hq W hW => ?_
  by_cases hlt : q < xs.length
  · obtain ⟨cs, hc, hl, hsc⟩ := hs xs[q] (List.getElem_mem hlt)
    have hM : (xs.take q ++ List.replicate (xs.length - q) (.agg zs))[q]? = some (.agg zs) := by
      rw [List.getElem?_append_right (by simp; omega)]
      simp [Nat.min_eq_left hq, show 0 < xs.length - q by omega]
    have hin : Cn.den [AV.sl xs, .int .i64 q, .sl (xs.take q ++ List.replicate (xs.length - q) (.agg zs))] (.inb (.var 1) (.var 0) cn) := ⟨.i64, q, xs.length, by simp, by omega, by simp, by omega, by simp [hlt, hc, hl]⟩
    have hset : (xs.take q ++ List.replicate (xs.length - q) (AV.agg zs)).set q (AV.agg cs) = xs.take (q + 1) ++ List.replicate (xs.length - (q + 1)) (AV.agg zs) := by
      rw [List.set_append_right _ _ (by simp; omega), List.length_take, Nat.min_eq_left hq, Nat.sub_self, show xs.length - q = (xs.length - (q + 1)) + 1 by omega, List.replicate_succ, List.set_cons_zero, List.take_succ_eq_append_getElem hlt, hc]
      simp
    refine den_chk (by simp) (den_chk (by simp [binInt]) (den_ite (t := true) (by simp [binInt, hlt]) (fun _ => ?_) (by simp)))
    refine den_chk (fun _ => hin) (den_call (r := .agg cs) (fun _ => ?_) ?_)
    · have := hf xs[q] (List.getElem_mem hlt)
      rw [hc] at this
      simpa [hlt, hc, ← hl] using this
    · refine den_chk (fun _ => ⟨.i64, q, xs.length, by simp, by omega, by simp; omega, by omega, by simp [hM, hzl]⟩) (den_chk (fun _ => by simpa [hl] using hsc) (den_chk (fun _ => ⟨by simp [hM, hzl], by simpa [hM, ← hzl] using hzs, by simp, by simp⟩) (den_chk (by simp [binInt]) (den_jmp0 ?_))))
      have := hW hlt
      simp only [EL.den, E.den, List.append_assoc, List.cons_append, List.nil_append, List.getElem?_cons_succ, List.getElem?_cons_zero, Option.getD_some, AV.bin, true_or, if_true, binInt, AV.setNth, AV.idx, AV.nth, Int.toNat_natCast, hM, AV.putF, AV.cells, List.take_zero, List.drop_eq_nil_of_le (show zs.length ≤ 0 + cs.length by omega), List.append_nil, hset, wrap64 (n := (q : Int) + 1) (by omega) (by omega)]
      simpa using this
  · have hqe : q = xs.length := by omega
    refine den_chk (by simp) (den_chk (by simp [binInt]) (den_ite (t := false) (by simp [binInt]; omega) (by simp) fun _ => den_jmp1 ?_))
    refine den_ret ?_
    subst hqe
    simp
/-! Marks: each int of the copy in turn is set to the next number. -/
def markL (mk : Int → AV) (c k : Int) (n : Nat) : List AV := (List.range n).map fun (j : Nat) => mk (k + c * (j : Int))
theorem markL_len (mk : Int → AV) (c k : Int) (n : Nat) : (markL mk c k n).length = n := by simp [markL]
def mid (mk : Int → AV) (c k : Int) (q : Nat) (xs : List AV) : List AV := markL mk c k q ++ xs.drop q
theorem mid_len {mk : Int → AV} {c k : Int} {q : Nat} {xs : List AV} (hq : q ≤ xs.length) : (mid mk c k q xs).length = xs.length := by simp [mid, markL_len]; omega
theorem mid_at {mk : Int → AV} {c k : Int} {q : Nat} {xs : List AV} (hq : q < xs.length) : (mid mk c k q xs)[q]? = some xs[q] := by
  unfold mid
  rw [List.getElem?_append_right (by simp [markL_len])]
  simp [markL_len, hq]
theorem mid_set {mk : Int → AV} {c k : Int} {q : Nat} {xs : List AV} (hq : q < xs.length) : (mid mk c k q xs).set q (mk (k + c * q)) = mid mk c k (q + 1) xs := by
  unfold mid
  rw [List.set_append_right _ _ (by simp [markL_len]), markL_len, Nat.sub_self, List.drop_eq_getElem_cons hq, List.set_cons_zero]
  simp [markL, List.range_succ]
theorem mid_set_at {mk : Int → AV} {c k : Int} {q : Nat} {xs : List AV} (hq : q < xs.length) (y : AV) : ((mid mk c k q xs).set q y)[q]? = some y := by
  have := mid_len (mk := mk) (c := c) (k := k) (Nat.le_of_lt hq)
  simp [List.getElem?_set, this, hq]
theorem mid_end {mk : Int → AV} {c k : Int} {xs : List AV} : mid mk c k xs.length xs = markL mk c k xs.length := by simp [mid]
def tMark1 : Tr :=
  .loop (.cons (.var 1) (.cons (.int .i64 (0)) (.cons (.var 0) .nil))) (
   .chk [] (.dfd (.len (.var 4))) <|
   .chk [] (.dfd (.bin .lss (.var 3) (.len (.var 4)))) <|
   .ite (.bin .lss (.var 3) (.len (.var 4))) (
    .chk [] (.inb (.var 3) (.var 4) 1) <|
    .chk [] (.flat (.var 2) 1 false) <|
    .chk [] (.flat (.fld (.idx (.var 4) (.var 3)) 0 1 false) 1 false) <|
    .chk [] (.dfd (.bin .add (.var 2) (.int .i64 (1)))) <|
    .chk [] (.dfd (.bin .add (.var 3) (.int .i64 (1)))) <|
    .jmp 0 (.cons (.bin .add (.var 2) (.int .i64 (1))) (.cons (.bin .add (.var 3) (.int .i64 (1))) (.cons (.set (.var 4) (.var 3) (.put (.idx (.var 4) (.var 3)) 0 (.var 2) true)) .nil)))) (
    .jmp 1 (.cons (.var 2) (.cons (.var 4) .nil)))) (
   .ret (.tup (.cons (.var 2) (.cons (.var 3) .nil))))
def mk1 (k : Int) : AV := .agg [.int .i64 k]
def mk2 (k : Int) : AV := .agg [.int .i64 k, .int .i64 (k + 1)]
def mk3 (k : Int) : AV := .agg [.int .i64 k, .int .i64 (k + 1), .int .i64 (k + 1 + 1)]
theorem mark1_den {xs : List AV} {k : Int} (hs : FlatS 1 xs) (hk : 0 ≤ k) (hk2 : k + xs.length ≤ 9223372036854775806) : Den tMark1 (.tup [.int .i64 (k + 1 * xs.length), .sl (markL mk1 1 k xs.length)]) [.sl xs, .int .i64 k] := by
  unfold Den tMark1
  refine den_for lmono_false xs.length (fun q => [.int .i64 (k + 1 * q), .int .i64 q, .sl (mid mk1 1 k q xs)]) (by simp [mid, markL]) fun q hq W hW => ?_
  have hlen := mid_len (mk := mk1) (c := 1) (k := k) hq
  by_cases hlt : q < xs.length
  · obtain ⟨cs, hc, hl, hsc⟩ := hs xs[q] (List.getElem_mem hlt)
    obtain ⟨y, rfl⟩ := List.length_eq_one_iff.1 hl
    have hM := mid_at (mk := mk1) (c := 1) (k := k) hlt
    rw [hc] at hM
    have hy : y.scalar = true := hsc y (by simp)
    have hyc := cells_scalar hy
    refine den_chk (by simp) (den_chk (by simp [binInt]) (den_ite (t := true) (by simp [binInt, hlen, hlt]) (fun _ => ?_) (by simp)))
    refine den_chk (fun _ => ⟨.i64, q, xs.length, by simp, by omega, by simp [hlen], by omega, by simp [hM]⟩) (den_chk (by simp) (den_chk (fun _ => by simpa [hM, hyc] using hy) (den_chk (by simp [binInt]) (den_chk (by simp [binInt]) (den_jmp0 ?_)))))
    have := hW hlt
    have e := mid_set (mk := mk1) (c := 1) (k := k) hlt
    simp only [mk1, Int.one_mul] at e
    simp only [EL.den, E.den, List.append_assoc, List.cons_append, List.nil_append, List.getElem?_cons_succ, List.getElem?_cons_zero, Option.getD_some, AV.bin, true_or, if_true, binInt, AV.setNth, AV.idx, AV.nth, Int.toNat_natCast, hM, AV.putF, AV.cells, List.take_zero, List.append_nil, wrap64 (n := (q : Int) + 1) (by omega) (by omega), wrap64 (n := k + 1 * (q : Int) + 1) (by omega) (by omega)]
    simp only [Int.one_mul] at this ⊢
    simp only [List.length_cons, List.length_nil, Nat.zero_add, List.drop_one, List.tail_cons, List.append_nil, List.nil_append]
    simp only [show (mk1 = fun k => AV.agg [.int .i64 k]) from rfl] at this e ⊢
    rw [e]
    rw [show k + (q : Int) + 1 = k + ((q + 1 : Nat) : Int) by omega, show (q : Int) + 1 = ((q + 1 : Nat) : Int) by omega]
    exact this
  · have hqe : q = xs.length := by omega
    refine den_chk (by simp) (den_chk (by simp [binInt]) (den_ite (t := false) (by simp [binInt, hlen]; omega) (by simp) fun _ => den_jmp1 ?_))
    refine den_ret ?_
    subst hqe
    simp [mid_end]
end Go.Proofs.Ytjneaalpiangdaa
end

/- Part DD. Marks of pairs, triples and bools; marks that are held. -/
section
namespace Go.Proofs.Ytjneaalpiangdaa
open Go.RowKit
def tMark2 : Tr :=
  .loop (.cons (.var 1) (.cons (.int .i64 (0)) (.cons (.var 0) .nil))) (
   .chk [] (.dfd (.len (.var 4))) <|
   .chk [] (.dfd (.bin .lss (.var 3) (.len (.var 4)))) <|
   .ite (.bin .lss (.var 3) (.len (.var 4))) (
    .chk [] (.inb (.var 3) (.var 4) 2) <|
    .chk [] (.flat (.var 2) 1 false) <|
    .chk [] (.flat (.fld (.idx (.var 4) (.var 3)) 0 1 false) 1 false) <|
    .chk [] (.dfd (.bin .add (.var 2) (.int .i64 (1)))) <|
    .chk [] (.inb (.var 3) (.set (.var 4) (.var 3) (.put (.idx (.var 4) (.var 3)) 0 (.var 2) true)) 2) <|
    .chk [] (.flat (.bin .add (.var 2) (.int .i64 (1))) 1 false) <|
    .chk [] (.flat (.fld (.idx (.set (.var 4) (.var 3) (.put (.idx (.var 4) (.var 3)) 0 (.var 2) true)) (.var 3)) 1 1 false) 1 false) <|
    .chk [] (.dfd (.bin .add (.bin .add (.var 2) (.int .i64 (1))) (.int .i64 (1)))) <|
    .chk [] (.dfd (.bin .add (.var 3) (.int .i64 (1)))) <|
    .jmp 0 (.cons (.bin .add (.bin .add (.var 2) (.int .i64 (1))) (.int .i64 (1))) (.cons (.bin .add (.var 3) (.int .i64 (1))) (.cons (.set (.set (.var 4) (.var 3) (.put (.idx (.var 4) (.var 3)) 0 (.var 2) true)) (.var 3) (.put (.idx (.set (.var 4) (.var 3) (.put (.idx (.var 4) (.var 3)) 0 (.var 2) true)) (.var 3)) 1 (.bin .add (.var 2) (.int .i64 (1))) true)) .nil)))) (
    .jmp 1 (.cons (.var 2) (.cons (.var 4) .nil)))) (
   .ret (.tup (.cons (.var 2) (.cons (.var 3) .nil))))
def tMark3 : Tr :=
  .loop (.cons (.var 1) (.cons (.int .i64 (0)) (.cons (.var 0) .nil))) (
   .chk [] (.dfd (.len (.var 4))) <|
   .chk [] (.dfd (.bin .lss (.var 3) (.len (.var 4)))) <|
   .ite (.bin .lss (.var 3) (.len (.var 4))) (
    .chk [] (.inb (.var 3) (.var 4) 3) <|
    .chk [] (.flat (.var 2) 1 false) <|
    .chk [] (.flat (.fld (.idx (.var 4) (.var 3)) 0 1 false) 1 false) <|
    .chk [] (.dfd (.bin .add (.var 2) (.int .i64 (1)))) <|
    .chk [] (.inb (.var 3) (.set (.var 4) (.var 3) (.put (.idx (.var 4) (.var 3)) 0 (.var 2) true)) 3) <|
    .chk [] (.flat (.bin .add (.var 2) (.int .i64 (1))) 1 false) <|
    .chk [] (.flat (.fld (.idx (.set (.var 4) (.var 3) (.put (.idx (.var 4) (.var 3)) 0 (.var 2) true)) (.var 3)) 1 1 false) 1 false) <|
    .chk [] (.dfd (.bin .add (.bin .add (.var 2) (.int .i64 (1))) (.int .i64 (1)))) <|
    .chk [] (.inb (.var 3) (.set (.set (.var 4) (.var 3) (.put (.idx (.var 4) (.var 3)) 0 (.var 2) true)) (.var 3) (.put (.idx (.set (.var 4) (.var 3) (.put (.idx (.var 4) (.var 3)) 0 (.var 2) true)) (.var 3)) 1 (.bin .add (.var 2) (.int .i64 (1))) true)) 3) <|
    .chk [] (.flat (.bin .add (.bin .add (.var 2) (.int .i64 (1))) (.int .i64 (1))) 1 false) <|
    .chk [] (.flat (.fld (.idx (.set (.set (.var 4) (.var 3) (.put (.idx (.var 4) (.var 3)) 0 (.var 2) true)) (.var 3) (.put (.idx (.set (.var 4) (.var 3) (.put (.idx (.var 4) (.var 3)) 0 (.var 2) true)) (.var 3)) 1 (.bin .add (.var 2) (.int .i64 (1))) true)) (.var 3)) 2 1 false) 1 false) <|
    .chk [] (.dfd (.bin .add (.bin .add (.bin .add (.var 2) (.int .i64 (1))) (.int .i64 (1))) (.int .i64 (1)))) <|
    .chk [] (.dfd (.bin .add (.var 3) (.int .i64 (1)))) <|
    .jmp 0 (.cons (.bin .add (.bin .add (.bin .add (.var 2) (.int .i64 (1))) (.int .i64 (1))) (.int .i64 (1))) (.cons (.bin .add (.var 3) (.int .i64 (1))) (.cons (.set (.set (.set (.var 4) (.var 3) (.put (.idx (.var 4) (.var 3)) 0 (.var 2) true)) (.var 3) (.put (.idx (.set (.var 4) (.var 3) (.put (.idx (.var 4) (.var 3)) 0 (.var 2) true)) (.var 3)) 1 (.bin .add (.var 2) (.int .i64 (1))) true)) (.var 3) (.put (.idx (.set (.set (.var 4) (.var 3) (.put (.idx (.var 4) (.var 3)) 0 (.var 2) true)) (.var 3) (.put (.idx (.set (.var 4) (.var 3) (.put (.idx (.var 4) (.var 3)) 0 (.var 2) true)) (.var 3)) 1 (.bin .add (.var 2) (.int .i64 (1))) true)) (.var 3)) 2 (.bin .add (.bin .add (.var 2) (.int .i64 (1))) (.int .i64 (1))) true)) .nil)))) (
    .jmp 1 (.cons (.var 2) (.cons (.var 4) .nil)))) (
   .ret (.tup (.cons (.var 2) (.cons (.var 3) .nil))))
def tMarkB : Tr :=
  .loop (.cons (.var 1) (.cons (.int .i64 (0)) (.cons (.var 0) .nil))) (
   .chk [] (.dfd (.len (.var 4))) <|
   .chk [] (.dfd (.bin .lss (.var 3) (.len (.var 4)))) <|
   .ite (.bin .lss (.var 3) (.len (.var 4))) (
    .chk [] (.nz (.int .i64 (3))) <|
    .chk [] (.dfd (.bin .rem (.var 2) (.int .i64 (3)))) <|
    .chk [] (.dfd (.bin .eql (.bin .rem (.var 2) (.int .i64 (3))) (.int .i64 (0)))) <|
    .chk [] (.inb (.var 3) (.var 4) 1) <|
    .chk [] (.flat (.bin .eql (.bin .rem (.var 2) (.int .i64 (3))) (.int .i64 (0))) 1 false) <|
    .chk [] (.flat (.fld (.idx (.var 4) (.var 3)) 0 1 false) 1 false) <|
    .chk [] (.dfd (.bin .add (.var 2) (.int .i64 (1)))) <|
    .chk [] (.dfd (.bin .add (.var 3) (.int .i64 (1)))) <|
    .jmp 0 (.cons (.bin .add (.var 2) (.int .i64 (1))) (.cons (.bin .add (.var 3) (.int .i64 (1))) (.cons (.set (.var 4) (.var 3) (.put (.idx (.var 4) (.var 3)) 0 (.bin .eql (.bin .rem (.var 2) (.int .i64 (3))) (.int .i64 (0))) false)) .nil)))) (
    .jmp 1 (.cons (.var 2) (.cons (.var 4) .nil)))) (
   .ret (.tup (.cons (.var 2) (.cons (.var 3) .nil))))
def tHeld1 : Tr :=
  .loop (.cons (.var 1) (.cons (.int .i64 (0)) .nil)) (
   .chk [] (.dfd (.len (.var 0))) <|
   .chk [] (.dfd (.bin .lss (.var 3) (.len (.var 0)))) <|
   .ite (.bin .lss (.var 3) (.len (.var 0))) (
    .chk [] (.inb (.var 3) (.var 0) 1) <|
    .chk [] (.dfd (.bin .neq (.fld (.idx (.var 0) (.var 3)) 0 1 false) (.var 2))) <|
    .ite (.bin .neq (.fld (.idx (.var 0) (.var 3)) 0 1 false) (.var 2)) (
     .ret (.int .i64 (-1))) (
     .chk [] (.dfd (.bin .add (.var 2) (.int .i64 (1)))) <|
     .chk [] (.dfd (.bin .add (.var 3) (.int .i64 (1)))) <|
     .jmp 0 (.cons (.bin .add (.var 2) (.int .i64 (1))) (.cons (.bin .add (.var 3) (.int .i64 (1))) .nil)))) (
    .jmp 1 (.cons (.var 2) .nil))) (
   .ret (.var 2))
def tHeld2 : Tr :=
  .loop (.cons (.var 1) (.cons (.int .i64 (0)) .nil)) (
   .chk [] (.dfd (.len (.var 0))) <|
   .chk [] (.dfd (.bin .lss (.var 3) (.len (.var 0)))) <|
   .ite (.bin .lss (.var 3) (.len (.var 0))) (
    .chk [] (.inb (.var 3) (.var 0) 2) <|
    .chk [] (.dfd (.bin .neq (.fld (.idx (.var 0) (.var 3)) 0 1 false) (.var 2))) <|
    .ite (.bin .neq (.fld (.idx (.var 0) (.var 3)) 0 1 false) (.var 2)) (
     .ret (.int .i64 (-1))) (
     .chk [] (.dfd (.bin .add (.var 2) (.int .i64 (1)))) <|
     .chk [] (.inb (.var 3) (.var 0) 2) <|
     .chk [] (.dfd (.bin .neq (.fld (.idx (.var 0) (.var 3)) 1 1 false) (.bin .add (.var 2) (.int .i64 (1))))) <|
     .ite (.bin .neq (.fld (.idx (.var 0) (.var 3)) 1 1 false) (.bin .add (.var 2) (.int .i64 (1)))) (
      .ret (.int .i64 (-1))) (
      .chk [] (.dfd (.bin .add (.bin .add (.var 2) (.int .i64 (1))) (.int .i64 (1)))) <|
      .chk [] (.dfd (.bin .add (.var 3) (.int .i64 (1)))) <|
      .jmp 0 (.cons (.bin .add (.bin .add (.var 2) (.int .i64 (1))) (.int .i64 (1))) (.cons (.bin .add (.var 3) (.int .i64 (1))) .nil))))) (
    .jmp 1 (.cons (.var 2) .nil))) (
   .ret (.var 2))
def tHeldB : Tr :=
  .loop (.cons (.var 1) (.cons (.int .i64 (0)) .nil)) (
   .chk [] (.dfd (.len (.var 0))) <|
   .chk [] (.dfd (.bin .lss (.var 3) (.len (.var 0)))) <|
   .ite (.bin .lss (.var 3) (.len (.var 0))) (
    .chk [] (.inb (.var 3) (.var 0) 1) <|
    .chk [] (.nz (.int .i64 (3))) <|
    .chk [] (.dfd (.bin .rem (.var 2) (.int .i64 (3)))) <|
    .chk [] (.dfd (.bin .eql (.bin .rem (.var 2) (.int .i64 (3))) (.int .i64 (0)))) <|
    .chk [] (.dfd (.bbin .neq (.fld (.idx (.var 0) (.var 3)) 0 1 false) (.bin .eql (.bin .rem (.var 2) (.int .i64 (3))) (.int .i64 (0))))) <|
    .ite (.bbin .neq (.fld (.idx (.var 0) (.var 3)) 0 1 false) (.bin .eql (.bin .rem (.var 2) (.int .i64 (3))) (.int .i64 (0)))) (
     .ret (.int .i64 (-1))) (
     .chk [] (.dfd (.bin .add (.var 2) (.int .i64 (1)))) <|
     .chk [] (.dfd (.bin .add (.var 3) (.int .i64 (1)))) <|
     .jmp 0 (.cons (.bin .add (.var 2) (.int .i64 (1))) (.cons (.bin .add (.var 3) (.int .i64 (1))) .nil)))) (
    .jmp 1 (.cons (.var 2) .nil))) (
   .ret (.var 2))
theorem mid_set2 {mk : Int → AV} {c k : Int} {q : Nat} {xs : List AV} (hq : q < xs.length) (y : AV) (hy : y = mk (k + c * q)) : (mid mk c k q xs).set q y = mid mk c k (q + 1) xs := by rw [hy]; exact mid_set hq
theorem mark2_den {xs : List AV} {k : Int} (hs : FlatS 2 xs) (hk : 0 ≤ k) (hk2 : k + 2 * xs.length ≤ 9223372036854775806) : Den tMark2 (.tup [.int .i64 (k + 2 * xs.length), .sl (markL mk2 2 k xs.length)]) [.sl xs, .int .i64 k] := by
  unfold Den tMark2
  refine den_for lmono_false xs.length (fun q => [.int .i64 (k + 2 * q), .int .i64 q, .sl (mid mk2 2 k q xs)]) (by simp [mid, markL]) fun q hq W hW => ?_
  have hlen := mid_len (mk := mk2) (c := 2) (k := k) hq
  by_cases hlt : q < xs.length
  · obtain ⟨cs, hc, hl, hsc⟩ := hs xs[q] (List.getElem_mem hlt)
    obtain ⟨y, z, rfl⟩ : ∃ y z, cs = [y, z] := by
      match cs, hl with
      | [y, z], _ => exact ⟨y, z, rfl⟩
    have hM := mid_at (mk := mk2) (c := 2) (k := k) hlt
    rw [hc] at hM
    have hy : y.scalar = true := hsc y (by simp)
    have hyc := cells_scalar hy
    have hz : z.scalar = true := hsc z (by simp)
    have hzc := cells_scalar hz
    have w1 := wrap64 (n := (q : Int) + 1) (by omega) (by omega)
    have w2 := wrap64 (n := k + 2 * (q : Int) + 1) (by omega) (by omega)
    have w3 := wrap64 (n := k + 2 * (q : Int) + 1 + 1) (by omega) (by omega)
    have hS := fun v => mid_set_at (mk := mk2) (c := 2) (k := k) hlt v
    have hin : ∀ M : List AV, M.length = xs.length → (∃ a b, M[q]? = some (.agg [a, b])) → (Cn.inb (.var 0) (.var 1) 2).den [.int .i64 q, .sl M] := fun M h1 ⟨a, b, h2⟩ => ⟨.i64, q, xs.length, by simp, by omega, by simp [h1], by omega, by simp [h2]⟩
    refine den_chk (by simp) (den_chk (by simp [binInt]) (den_ite (t := true) (by simp [binInt, hlen, hlt]) (fun _ => ?_) (by simp)))
    refine den_chk (fun _ => ⟨.i64, q, xs.length, by simp, by omega, by simp [hlen], by omega, by simp [hM]⟩) (den_chk (by simp) (den_chk (fun _ => by simpa [hM, hyc] using hy) (den_chk (by simp [binInt]) ?_)))
    refine den_chk (fun _ => ⟨.i64, q, xs.length, by simp, by omega, by simp [hlen], by omega, by simp [hM, hS]⟩) (den_chk (by simp [binInt]) (den_chk (fun _ => by simpa [hM, hS, hzc] using hz) (den_chk (by simp [binInt]) (den_chk (by simp [binInt]) (den_jmp0 ?_)))))
    have := hW hlt
    have e := mid_set2 (mk := mk2) (c := 2) (k := k) hlt (.agg [.int .i64 (k + 2 * q), .int .i64 (k + 2 * q + 1)]) rfl
    rw [← e] at this
    have goal : W [.int .i64 (k + 2 * (q : Int) + 1 + 1), .int .i64 ((q : Int) + 1), .sl ((mid mk2 2 k q xs).set q (.agg [.int .i64 (k + 2 * q), .int .i64 (k + 2 * q + 1)]))] := by
      rw [show k + 2 * (q : Int) + 1 + 1 = k + 2 * ((q + 1 : Nat) : Int) by omega, show (q : Int) + 1 = ((q + 1 : Nat) : Int) by omega]
      exact this
    simpa [binInt, hM, hS, w1, w2, w3, List.set_set] using goal
  · have hqe : q = xs.length := by omega
    refine den_chk (by simp) (den_chk (by simp [binInt]) (den_ite (t := false) (by simp [binInt, hlen]; omega) (by simp) fun _ => den_jmp1 ?_))
    refine den_ret ?_
    subst hqe
    simp [mid_end]
theorem mark3_den {xs : List AV} {k : Int} (hs : FlatS 3 xs) (hk : 0 ≤ k) (hk2 : k + 3 * xs.length ≤ 9223372036854775806) : Den tMark3 (.tup [.int .i64 (k + 3 * xs.length), .sl (markL mk3 3 k xs.length)]) [.sl xs, .int .i64 k] := by
  unfold Den tMark3
  refine den_for lmono_false xs.length (fun q => [.int .i64 (k + 3 * q), .int .i64 q, .sl (mid mk3 3 k q xs)]) (by simp [mid, markL]) fun q hq W hW => ?_
  have hlen := mid_len (mk := mk3) (c := 3) (k := k) hq
  by_cases hlt : q < xs.length
  · obtain ⟨cs, hc, hl, hsc⟩ := hs xs[q] (List.getElem_mem hlt)
    obtain ⟨y, z, u, rfl⟩ : ∃ y z u, cs = [y, z, u] := by
      match cs, hl with
      | [y, z, u], _ => exact ⟨y, z, u, rfl⟩
    have hM := mid_at (mk := mk3) (c := 3) (k := k) hlt
    rw [hc] at hM
    have hy : y.scalar = true := hsc y (by simp)
    have hyc := cells_scalar hy
    have hz : z.scalar = true := hsc z (by simp)
    have hzc := cells_scalar hz
    have hu : u.scalar = true := hsc u (by simp)
    have huc := cells_scalar hu
    have w1 := wrap64 (n := (q : Int) + 1) (by omega) (by omega)
    have w2 := wrap64 (n := k + 3 * (q : Int) + 1) (by omega) (by omega)
    have w3 := wrap64 (n := k + 3 * (q : Int) + 1 + 1) (by omega) (by omega)
    have w4 := wrap64 (n := k + 3 * (q : Int) + 1 + 1 + 1) (by omega) (by omega)
    have hS := fun v => mid_set_at (mk := mk3) (c := 3) (k := k) hlt v
    refine den_chk (by simp) (den_chk (by simp [binInt]) (den_ite (t := true) (by simp [binInt, hlen, hlt]) (fun _ => ?_) (by simp)))
    refine den_chk (fun _ => ⟨.i64, q, xs.length, by simp, by omega, by simp [hlen], by omega, by simp [hM]⟩) (den_chk (by simp) (den_chk (fun _ => by simpa [hM, hyc] using hy) (den_chk (by simp [binInt]) ?_)))
    refine den_chk (fun _ => ⟨.i64, q, xs.length, by simp, by omega, by simp [hlen], by omega, by simp [hM, hS]⟩) (den_chk (by simp [binInt]) (den_chk (fun _ => by simpa [hM, hS, hzc] using hz) (den_chk (by simp [binInt]) ?_)))
    refine den_chk (fun _ => ⟨.i64, q, xs.length, by simp, by omega, by simp [hlen], by omega, by simp [hM, hS, List.set_set, binInt]⟩) (den_chk (by simp [binInt]) (den_chk (fun _ => by simpa [hM, hS, huc, List.set_set, binInt] using hu) (den_chk (by simp [binInt]) (den_chk (by simp [binInt]) (den_jmp0 ?_)))))
    have := hW hlt
    have e := mid_set2 (mk := mk3) (c := 3) (k := k) hlt (.agg [.int .i64 (k + 3 * q), .int .i64 (k + 3 * q + 1), .int .i64 (k + 3 * q + 1 + 1)]) rfl
    rw [← e] at this
    have goal : W [.int .i64 (k + 3 * (q : Int) + 1 + 1 + 1), .int .i64 ((q : Int) + 1), .sl ((mid mk3 3 k q xs).set q (.agg [.int .i64 (k + 3 * q), .int .i64 (k + 3 * q + 1), .int .i64 (k + 3 * q + 1 + 1)]))] := by
      rw [show k + 3 * (q : Int) + 1 + 1 + 1 = k + 3 * ((q + 1 : Nat) : Int) by omega, show (q : Int) + 1 = ((q + 1 : Nat) : Int) by omega]
      exact this
    simpa [binInt, hM, hS, w1, w2, w3, w4, List.set_set] using goal
  · have hqe : q = xs.length := by omega
    refine den_chk (by simp) (den_chk (by simp [binInt]) (den_ite (t := false) (by simp [binInt, hlen]; omega) (by simp) fun _ => den_jmp1 ?_))
    refine den_ret ?_
    subst hqe
    simp [mid_end]
def mkB (k : Int) : AV := .bool (k.tmod 3 == 0)
def BoolS (xs : List AV) : Prop := ∀ x ∈ xs, ∃ b, x = .bool b
theorem markB_den {xs : List AV} {k : Int} (hs : BoolS xs) (hk : 0 ≤ k) (hk2 : k + xs.length ≤ 9223372036854775806) : Den tMarkB (.tup [.int .i64 (k + 1 * xs.length), .sl (markL mkB 1 k xs.length)]) [.sl xs, .int .i64 k] := by
  unfold Den tMarkB
  refine den_for lmono_false xs.length (fun q => [.int .i64 (k + 1 * q), .int .i64 q, .sl (mid mkB 1 k q xs)]) (by simp [mid, markL]) fun q hq W hW => ?_
  have hlen := mid_len (mk := mkB) (c := 1) (k := k) hq
  by_cases hlt : q < xs.length
  · obtain ⟨b, hc⟩ := hs xs[q] (List.getElem_mem hlt)
    have hM := mid_at (mk := mkB) (c := 1) (k := k) hlt
    rw [hc] at hM
    have w1 := wrap64 (n := (q : Int) + 1) (by omega) (by omega)
    have w2 := wrap64 (n := k + (q : Int) + 1) (by omega) (by omega)
    refine den_chk (by simp) (den_chk (by simp [binInt]) (den_ite (t := true) (by simp [binInt, hlen, hlt]) (fun _ => ?_) (by simp)))
    refine den_chk (fun _ => ⟨.i64, 3, rfl, by omega⟩) (den_chk (by simp [binInt]) (den_chk (by simp [binInt]) (den_chk (fun _ => ⟨.i64, q, xs.length, by simp, by omega, by simp [hlen], by omega, by simp [hM]⟩) (den_chk (by simp [binInt]) (den_chk (fun _ => by simp [hM]) (den_chk (by simp [binInt]) (den_chk (by simp [binInt]) (den_jmp0 ?_))))))))
    have := hW hlt
    have e := mid_set2 (mk := mkB) (c := 1) (k := k) hlt (.bool ((k + (q : Int)).tmod 3 == 0)) (by simp [mkB])
    rw [← e] at this
    have goal : W [.int .i64 (k + (q : Int) + 1), .int .i64 ((q : Int) + 1), .sl ((mid mkB 1 k q xs).set q (.bool ((k + (q : Int)).tmod 3 == 0)))] := by
      rw [show k + (q : Int) + 1 = k + 1 * ((q + 1 : Nat) : Int) by omega, show (q : Int) + 1 = ((q + 1 : Nat) : Int) by omega]
      exact this
    simpa [binInt, hM, w1, w2] using goal
  · have hqe : q = xs.length := by omega
    refine den_chk (by simp) (den_chk (by simp [binInt]) (den_ite (t := false) (by simp [binInt, hlen]; omega) (by simp) fun _ => den_jmp1 ?_))
    refine den_ret ?_
    subst hqe
    simp [mid_end]
theorem markL_at {mk : Int → AV} {c k : Int} {n q : Nat} (hq : q < n) : (markL mk c k n)[q]? = some (mk (k + c * q)) := by simp [markL, hq]
theorem held1_den {n : Nat} {k : Int} (hk : 0 ≤ k) (hk2 : k + n ≤ 9223372036854775806) : Den tHeld1 (.int .i64 (k + 1 * n)) [.sl (markL mk1 1 k n), .int .i64 k] := by
  unfold Den tHeld1
  refine den_for lmono_false n (fun q => [.int .i64 (k + 1 * q), .int .i64 q]) (by simp) fun q hq W hW => ?_
  have hlen := markL_len mk1 1 k n
  by_cases hlt : q < n
  · have hM := markL_at (mk := mk1) (c := 1) (k := k) hlt
    have w1 := wrap64 (n := (q : Int) + 1) (by omega) (by omega)
    have w2 := wrap64 (n := k + (q : Int) + 1) (by omega) (by omega)
    refine den_chk (by simp) (den_chk (by simp [binInt]) (den_ite (t := true) (by simp [binInt, hlen, hlt]) (fun _ => ?_) (by simp)))
    refine den_chk (fun _ => ⟨.i64, q, n, by simp, by omega, by simp [hlen], by omega, by simp [hM, mk1]⟩) (den_chk (by simp [hM, mk1, binInt]) (den_ite (t := false) (by simp [hM, mk1, binInt]) (by simp) fun _ => den_chk (by simp [binInt]) (den_chk (by simp [binInt]) (den_jmp0 ?_))))
    have := hW hlt
    rw [show k + 1 * ((q + 1 : Nat) : Int) = k + (q : Int) + 1 by omega, show ((q + 1 : Nat) : Int) = (q : Int) + 1 by omega] at this
    simpa [binInt, w1, w2] using this
  · have hqe : q = n := by omega
    refine den_chk (by simp) (den_chk (by simp [binInt]) (den_ite (t := false) (by simp [binInt, hlen]; omega) (by simp) fun _ => den_jmp1 ?_))
    refine den_ret ?_
    subst hqe
    simp
theorem held2_den {n : Nat} {k : Int} (hk : 0 ≤ k) (hk2 : k + 2 * n ≤ 9223372036854775806) : Den tHeld2 (.int .i64 (k + 2 * n)) [.sl (markL mk2 2 k n), .int .i64 k] := by
  unfold Den tHeld2
  refine den_for lmono_false n (fun q => [.int .i64 (k + 2 * q), .int .i64 q]) (by simp) fun q hq W hW => ?_
  have hlen := markL_len mk2 2 k n
  by_cases hlt : q < n
  · have hM := markL_at (mk := mk2) (c := 2) (k := k) hlt
    have w1 := wrap64 (n := (q : Int) + 1) (by omega) (by omega)
    have w2 := wrap64 (n := k + 2 * (q : Int) + 1) (by omega) (by omega)
    have w3 := wrap64 (n := k + 2 * (q : Int) + 1 + 1) (by omega) (by omega)
    have hin : ∀ τ, Cn.den ([AV.sl (markL mk2 2 k n), .int .i64 k] ++ [.int .i64 (k + 2 * q), .int .i64 q] ++ τ) (.inb (.var 3) (.var 0) 2) := fun τ => ⟨.i64, q, n, by simp, by omega, by simp [hlen], by omega, by simp [hM, mk2]⟩
    refine den_chk (by simp) (den_chk (by simp [binInt]) (den_ite (t := true) (by simp [binInt, hlen, hlt]) (fun _ => ?_) (by simp)))
    refine den_chk (fun _ => by simpa using hin []) (den_chk (by simp [hM, mk2, binInt]) (den_ite (t := false) (by simp [hM, mk2, binInt]) (by simp) fun _ => den_chk (by simp [binInt]) ?_))
    refine den_chk (fun _ => by simpa using hin []) (den_chk (by simp [hM, mk2, binInt]) (den_ite (t := false) (by simp [hM, mk2, binInt, w2]) (by simp) fun _ => den_chk (by simp [binInt]) (den_chk (by simp [binInt]) (den_jmp0 ?_))))
    have := hW hlt
    rw [show k + 2 * ((q + 1 : Nat) : Int) = k + 2 * (q : Int) + 1 + 1 by omega, show ((q + 1 : Nat) : Int) = (q : Int) + 1 by omega] at this
    simpa [binInt, w1, w2, w3] using this
  · have hqe : q = n := by omega
    refine den_chk (by simp) (den_chk (by simp [binInt]) (den_ite (t := false) (by simp [binInt, hlen]; omega) (by simp) fun _ => den_jmp1 ?_))
    refine den_ret ?_
    subst hqe
    simp
theorem heldB_den {n : Nat} {k : Int} (hk : 0 ≤ k) (hk2 : k + n ≤ 9223372036854775806) : Den tHeldB (.int .i64 (k + 1 * n)) [.sl (markL mkB 1 k n), .int .i64 k] := by
  unfold Den tHeldB
  refine den_for lmono_false n (fun q => [.int .i64 (k + 1 * q), .int .i64 q]) (by simp) fun q hq W hW => ?_
  have hlen := markL_len mkB 1 k n
  by_cases hlt : q < n
  · have hM := markL_at (mk := mkB) (c := 1) (k := k) hlt
    have w1 := wrap64 (n := (q : Int) + 1) (by omega) (by omega)
    have w2 := wrap64 (n := k + (q : Int) + 1) (by omega) (by omega)
    refine den_chk (by simp) (den_chk (by simp [binInt]) (den_ite (t := true) (by simp [binInt, hlen, hlt]) (fun _ => ?_) (by simp)))
    refine den_chk (fun _ => ⟨.i64, q, n, by simp, by omega, by simp [hlen], by omega, by simp [hM, mkB]⟩) (den_chk (fun _ => ⟨.i64, 3, rfl, by omega⟩) (den_chk (by simp [binInt]) (den_chk (by simp [binInt]) (den_chk (by simp [hM, mkB, binInt]) (den_ite (t := false) (by simp [hM, mkB, binInt]) (by simp) fun _ => den_chk (by simp [binInt]) (den_chk (by simp [binInt]) (den_jmp0 ?_)))))))
    have := hW hlt
    rw [show k + 1 * ((q + 1 : Nat) : Int) = k + (q : Int) + 1 by omega, show ((q + 1 : Nat) : Int) = (q : Int) + 1 by omega] at this
    simpa [binInt, w1, w2] using this
  · have hqe : q = n := by omega
    refine den_chk (by simp) (den_chk (by simp [binInt]) (den_ite (t := false) (by simp [binInt, hlen]; omega) (by simp) fun _ => den_jmp1 ?_))
    refine den_ret ?_
    subst hqe
    simp
end Go.Proofs.Ytjneaalpiangdaa
end

/- Part Ty1. Flat structs of ints: how they read. -/
section
namespace Go.Proofs.Ytjneaalpiangdaa
open Go.RowKit
structure DClock where
  fOff : Int
def gClock : GT DClock := gInt.via fun x => x.fOff
theorem gClock_open {w : World} {cs : List Value} {x : DClock} {fp : List Nat} (h : gClock.rd w cs x fp) : cs = [.int .i64 x.fOff] ∧ fp = [] ∧ I64 x.fOff := by
  obtain ⟨rfl, rfl, h0⟩ := h
  exact ⟨rfl, rfl, h0⟩
theorem gClock_mk {w : World} {a0 : Int} (h0 : I64 a0) : gClock.rd w [.int .i64 a0] ⟨a0⟩ [] :=
  ⟨rfl, rfl, h0⟩
theorem gClock_flat (w : World) (cs : List Value) (x : DClock) (f : List Nat) (h : gClock.rd w cs x f) : f = [] := (gClock_open h).2.1
def mkClock (k : Int) (_ : DClock) : DClock × Int := (⟨k⟩, k + 1)
def cntClock (_ : DClock) : Nat := 1
theorem mkClock_cnt (k : Int) (x : DClock) : (mkClock k x).2 = k + cntClock x := rfl

structure DVLease where
  fVer : Int
  fUntil : Int
def gVLease : GT DVLease := (gPair gInt gInt).via fun x => (x.fVer, x.fUntil)
theorem gVLease_open {w : World} {cs : List Value} {x : DVLease} {fp : List Nat} (h : gVLease.rd w cs x fp) : cs = [.int .i64 x.fVer, .int .i64 x.fUntil] ∧ fp = [] ∧ I64 x.fVer ∧ I64 x.fUntil := by
  obtain ⟨_, _, _, _, rfl, rfl, ⟨rfl, rfl, h0⟩, rfl, rfl, h1⟩ := h
  exact ⟨rfl, rfl, h0, h1⟩
theorem gVLease_mk {w : World} {a0 a1 : Int} (h0 : I64 a0) (h1 : I64 a1) : gVLease.rd w [.int .i64 a0, .int .i64 a1] ⟨a0, a1⟩ [] :=
  ⟨[_], _, [], _, rfl, rfl, ⟨rfl, rfl, h0⟩, rfl, rfl, h1⟩
theorem gVLease_flat (w : World) (cs : List Value) (x : DVLease) (f : List Nat) (h : gVLease.rd w cs x f) : f = [] := (gVLease_open h).2.1
def mkVLease (k : Int) (_ : DVLease) : DVLease × Int := (⟨k, k + 1⟩, k + 2)
def cntVLease (_ : DVLease) : Nat := 2
theorem mkVLease_cnt (k : Int) (x : DVLease) : (mkVLease k x).2 = k + cntVLease x := rfl

structure DRenewAct where
  fKind : Int
  fWho : Int
  fBy : Int
def gRenewAct : GT DRenewAct := (gPair gInt (gPair gInt gInt)).via fun x => (x.fKind, (x.fWho, x.fBy))
theorem gRenewAct_open {w : World} {cs : List Value} {x : DRenewAct} {fp : List Nat} (h : gRenewAct.rd w cs x fp) : cs = [.int .i64 x.fKind, .int .i64 x.fWho, .int .i64 x.fBy] ∧ fp = [] ∧ I64 x.fKind ∧ I64 x.fWho ∧ I64 x.fBy := by
  obtain ⟨_, _, _, _, rfl, rfl, ⟨rfl, rfl, h0⟩, _, _, _, _, rfl, rfl, ⟨rfl, rfl, h1⟩, rfl, rfl, h2⟩ := h
  exact ⟨rfl, rfl, h0, h1, h2⟩
theorem gRenewAct_mk {w : World} {a0 a1 a2 : Int} (h0 : I64 a0) (h1 : I64 a1) (h2 : I64 a2) : gRenewAct.rd w [.int .i64 a0, .int .i64 a1, .int .i64 a2] ⟨a0, a1, a2⟩ [] :=
  ⟨[_], _, [], _, rfl, rfl, ⟨rfl, rfl, h0⟩, [_], _, [], _, rfl, rfl, ⟨rfl, rfl, h1⟩, rfl, rfl, h2⟩
theorem gRenewAct_flat (w : World) (cs : List Value) (x : DRenewAct) (f : List Nat) (h : gRenewAct.rd w cs x f) : f = [] := (gRenewAct_open h).2.1
def mkRenewAct (k : Int) (_ : DRenewAct) : DRenewAct × Int := (⟨k, k + 1, k + 1 + 1⟩, k + 3)
def cntRenewAct (_ : DRenewAct) : Nat := 3
theorem mkRenewAct_cnt (k : Int) (x : DRenewAct) : (mkRenewAct k x).2 = k + cntRenewAct x := rfl

/-- What 'sz' hands back. -/
def SzPost (left : Int) (s : Nat) (e : Ending) : Prop := ∃ r : Int, e = .returned (.int .i64 r) ∧ ((r = left - s ∧ (s : Int) ≤ left) ∨ (r = -1 ∧ left < s))
end Go.Proofs.Ytjneaalpiangdaa
end

/- Part Ty2. The lease system: how it reads. -/
section
namespace Go.Proofs.Ytjneaalpiangdaa
open Go.RowKit
structure DRenew where
  fNow : Int
  fMaster : DClock
  fClocks : List DClock
  fVer : Int
  fLeases : List DVLease
def gRenew : GT DRenew := (gPair gInt (gPair gClock (gPair (gS gClock) (gPair gInt (gS gVLease))))).via fun x => (x.fNow, x.fMaster, x.fClocks, x.fVer, x.fLeases)
theorem gRenew_open {w : World} {cs : List Value} {x : DRenew} {fp : List Nat} (h : gRenew.rd w cs x fp) : ∃ a1 n1 c1 f1 a2 n2 c2 f2,
    cs = [.int .i64 x.fNow, .int .i64 x.fMaster.fOff, .slice a1 n1 c1, .int .i64 x.fVer, .slice a2 n2 c2] ∧ fp = f1 ++ f2 ∧ I64 x.fNow ∧ I64 x.fMaster.fOff ∧ (n1 ≤ c1 ∧ n1 ≤ 140737488351232 ∧ RdS gClock w a1 n1 x.fClocks f1) ∧ I64 x.fVer ∧ (n2 ≤ c2 ∧ n2 ≤ 140737488351232 ∧ RdS gVLease w a2 n2 x.fLeases f2) := by
  obtain ⟨_, _, _, _, rfl, rfl, ⟨rfl, rfl, h1⟩, _, _, _, _, rfl, rfl, ⟨rfl, rfl, h2⟩, _, _, _, _, rfl, rfl, ⟨a1, n1, c1, rfl, h3⟩, _, _, _, _, rfl, rfl, ⟨rfl, rfl, h4⟩, a2, n2, c2, rfl, h5⟩ := h
  exact ⟨a1, n1, c1, _, a2, n2, c2, _, rfl, by simp, h1, h2, h3, h4, h5⟩
theorem gRenew_mk {w : World} {x : DRenew} {a1 : Option Addr} {n1 c1 : Nat} {f1 : List Nat} {a2 : Option Addr} {n2 c2 : Nat} {f2 : List Nat} (h1 : I64 x.fNow) (h2 : I64 x.fMaster.fOff)
    (h3 : n1 ≤ c1 ∧ n1 ≤ 140737488351232 ∧ RdS gClock w a1 n1 x.fClocks f1) (h4 : I64 x.fVer) (h5 : n2 ≤ c2 ∧ n2 ≤ 140737488351232 ∧ RdS gVLease w a2 n2 x.fLeases f2) :
    gRenew.rd w [.int .i64 x.fNow, .int .i64 x.fMaster.fOff, .slice a1 n1 c1, .int .i64 x.fVer, .slice a2 n2 c2] x (f1 ++ f2) :=
  ⟨[_], _, [], _, rfl, rfl, ⟨rfl, rfl, h1⟩, [_], _, [], _, rfl, rfl, ⟨rfl, rfl, h2⟩, [_], _, f1, _, rfl, rfl, ⟨a1, n1, c1, rfl, h3⟩, [_], _, [], _, rfl, rfl, ⟨rfl, rfl, h4⟩, a2, n2, c2, rfl, h5⟩
end Go.Proofs.Ytjneaalpiangdaa
end

/- Part P1. What the functions on lease systems compute, on plain data. -/
section
namespace Go.Proofs.Ytjneaalpiangdaa
open Go.RowKit
def within (a lo hi : Int) : Bool := decide (lo ≤ a) && decide (a ≤ hi)
def goodClock (c : DClock) : Bool := within c.fOff (-5) 5
def badLease (v : Int) (l : DVLease) : Bool := !within l.fVer 0 v || !within l.fUntil 0 1020
def goodRenew (r : DRenew) : Bool :=
  within r.fNow 0 1000 && goodClock r.fMaster && within r.fClocks.length 1 3 && within r.fVer 0 20 && ((r.fLeases.length : Int) == (r.fClocks.length : Int)) &&
    !(r.fClocks.any fun c => !goodClock c) && !(r.fLeases.any (badLease r.fVer))
theorem within_iff {a b c : Int} : within a b c = true ↔ b ≤ a ∧ a ≤ c := by simp [within]
def isAct (n : Int) (a : DRenewAct) : Bool :=
  if a.fKind = 1 then (a.fWho == 0) && within a.fBy 1 50
  else if a.fKind = 2 then within a.fWho 0 n && goodClock ⟨a.fBy⟩
  else if a.fKind = 3 then within a.fWho 0 (n - 1) && (a.fBy == 0)
  else if a.fKind = 4 then (a.fWho == 0) && (a.fBy == 0)
  else false
def lowOf (r : DRenew) : Int := r.fNow + r.fMaster.fOff - 5
def stale (v low : Int) (l : DVLease) : Bool := (l.fVer != v) && decide (low ≤ l.fUntil)
def doRenew (r : DRenew) (a : DRenewAct) : DRenew × Bool :=
  if a.fKind = 1 then (if r.fNow + a.fBy ≤ 1000 then ({ r with fNow := r.fNow + a.fBy }, true) else (r, false))
  else if a.fKind = 2 then (if a.fWho = 0 then ({ r with fMaster := ⟨a.fBy⟩ }, true) else ({ r with fClocks := r.fClocks.set (a.fWho - 1).toNat ⟨a.fBy⟩ }, true))
  else if a.fKind = 3 then (if 0 ≤ lowOf r then ({ r with fLeases := r.fLeases.set a.fWho.toNat ⟨r.fVer, lowOf r + 20⟩ }, true) else (r, false))
  else (if r.fVer < 20 ∧ r.fLeases.any (stale r.fVer (lowOf r)) = false then ({ r with fVer := r.fVer + 1 }, true) else (r, false))
def noRenew : DRenew := ⟨0, ⟨0⟩, [], 0, []⟩
def stepRenew (r : DRenew) (a : DRenewAct) : DRenew × Bool × Bool :=
  if (goodRenew r && isAct r.fClocks.length a) = true then ((doRenew r a).1, (doRenew r a).2, true) else (noRenew, false, false)
end Go.Proofs.Ytjneaalpiangdaa
end

/- Part P2. What a run of actions computes, on plain data; a good lease system stays good. -/
section
namespace Go.Proofs.Ytjneaalpiangdaa
open Go.RowKit
theorem all_set {α : Type} (p : α → Bool) : ∀ (l : List α) (i : Nat) (x : α), l.any p = false → p x = false → (l.set i x).any p = false
  | [], _, _, _, _ => by simp
  | y :: l, 0, x, h, hx => by simp at h ⊢; exact ⟨hx, h.2⟩
  | y :: l, i + 1, x, h, hx => by
    simp only [List.any_cons, Bool.or_eq_false_iff] at h
    simp only [List.set_cons_succ, List.any_cons, Bool.or_eq_false_iff]
    exact ⟨h.1, all_set p l i x h.2 hx⟩
theorem goodRenew_iff {x : DRenew} : goodRenew x = true ↔ (0 ≤ x.fNow ∧ x.fNow ≤ 1000) ∧ (-5 ≤ x.fMaster.fOff ∧ x.fMaster.fOff ≤ 5) ∧ (1 ≤ x.fClocks.length ∧ x.fClocks.length ≤ 3) ∧ (0 ≤ x.fVer ∧ x.fVer ≤ 20) ∧ x.fLeases.length = x.fClocks.length ∧
    (x.fClocks.any fun c => !goodClock c) = false ∧ x.fLeases.any (badLease x.fVer) = false := by
  unfold goodRenew
  simp only [Bool.and_eq_true, Bool.not_eq_true', beq_iff_eq, within_iff, goodClock]
  constructor
  · rintro ⟨⟨⟨⟨⟨⟨h1, h2⟩, h3⟩, h4⟩, h5⟩, h6⟩, h7⟩
    exact ⟨h1, h2, by omega, h4, by omega, h6, h7⟩
  · rintro ⟨h1, h2, h3, h4, h5, h6, h7⟩
    exact ⟨⟨⟨⟨⟨⟨h1, h2⟩, by omega⟩, h4⟩, by omega⟩, h6⟩, h7⟩
theorem bad_more {v : Int} : ∀ {l : List DVLease}, l.any (badLease v) = false → l.any (badLease (v + 1)) = false
  | [], _ => by simp
  | y :: l, h => by
    simp only [List.any_cons, Bool.or_eq_false_iff] at h ⊢
    refine ⟨?_, bad_more h.2⟩
    have h1 := h.1
    simp [badLease, within] at h1 ⊢
    omega
theorem good_do {x : DRenew} {a : DRenewAct} (hg : goodRenew x = true) (ha : isAct x.fClocks.length a = true) : goodRenew (doRenew x a).1 = true := by
  obtain ⟨h1, h2, h3, h4, h5, h6, h7⟩ := goodRenew_iff.1 hg
  unfold isAct at ha
  unfold doRenew
  by_cases k1 : a.fKind = 1
  · simp only [k1, if_true, Bool.and_eq_true, within_iff] at ha ⊢
    split
    · exact goodRenew_iff.2 ⟨⟨by dsimp only; omega, by dsimp only; omega⟩, h2, h3, h4, h5, h6, h7⟩
    · exact hg
  · by_cases k2 : a.fKind = 2
    · simp only [k2, if_true] at ha ⊢
      have hb : goodClock ⟨a.fBy⟩ = true := by have := ha; simp at this; exact this.2
      have hb' := hb
      simp only [goodClock, within_iff] at hb'
      simp only [show ¬ ((2 : Int) = 1) by omega, if_false]
      split
      · exact goodRenew_iff.2 ⟨h1, hb', h3, h4, h5, h6, h7⟩
      · refine goodRenew_iff.2 ⟨h1, h2, by simpa using h3, h4, by simpa using h5, all_set _ _ _ _ h6 (by simp [hb]), h7⟩
    · by_cases k3 : a.fKind = 3
      · simp only [k3, show ¬ ((3 : Int) = 1) by omega, show ¬ ((3 : Int) = 2) by omega, if_false, if_true]
        split
        · refine goodRenew_iff.2 ⟨h1, h2, h3, h4, by simpa using h5, h6, all_set _ _ _ _ h7 ?_⟩
          rename_i hlow
          unfold lowOf at hlow ⊢
          simp [badLease, within]
          omega
        · exact hg
      · simp only [k1, k2, k3, if_false]
        split
        · rename_i hv
          exact goodRenew_iff.2 ⟨h1, h2, h3, ⟨by dsimp only; omega, by dsimp only; omega⟩, h5, h6, bad_more h7⟩
        · exact hg
theorem do_len (x : DRenew) (a : DRenewAct) : (doRenew x a).1.fClocks.length = x.fClocks.length ∧ (doRenew x a).1.fLeases.length = x.fLeases.length := by
  unfold doRenew
  repeat' split
  all_goals simp
def playStep (s : DRenew × List Bool) (a : DRenewAct) : DRenew × List Bool := if isAct s.1.fClocks.length a = true then ((doRenew s.1 a).1, s.2 ++ [(doRenew s.1 a).2]) else (s.1, s.2 ++ [false])
def playOn (x : DRenew) (l : List DRenewAct) : DRenew × List Bool := l.foldl playStep (x, [])
theorem playOn_nil (x : DRenew) : playOn x [] = (x, []) := rfl
theorem playOn_snoc (x : DRenew) (l : List DRenewAct) (a : DRenewAct) : playOn x (l ++ [a]) = playStep (playOn x l) a := by simp [playOn]
theorem play_step_good {s : DRenew × List Bool} {a : DRenewAct} (h : goodRenew s.1 = true) : goodRenew (playStep s a).1 = true := by
  unfold playStep
  split
  · exact good_do h (by assumption)
  · exact h
theorem playOn_all (x : DRenew) (hg : goodRenew x = true) : ∀ l : List DRenewAct, ∀ s : DRenew × List Bool, goodRenew s.1 = true → s.1.fClocks.length = x.fClocks.length → s.1.fLeases.length = x.fLeases.length →
    goodRenew (l.foldl playStep s).1 = true ∧ (l.foldl playStep s).1.fClocks.length = x.fClocks.length ∧ (l.foldl playStep s).1.fLeases.length = x.fLeases.length ∧ (l.foldl playStep s).2.length = s.2.length + l.length
  | [], s, h1, h2, h3 => ⟨h1, h2, h3, rfl⟩
  | a :: l, s, h1, h2, h3 => by
    have hd := do_len s.1 a
    have key : (playStep s a).1.fClocks.length = x.fClocks.length ∧ (playStep s a).1.fLeases.length = x.fLeases.length ∧ (playStep s a).2.length = s.2.length + 1 := by
      unfold playStep
      split
      · exact ⟨by dsimp only; omega, by dsimp only; omega, by simp⟩
      · exact ⟨h2, h3, by simp⟩
    obtain ⟨i1, i2, i3, i4⟩ := playOn_all x hg l (playStep s a) (play_step_good h1) key.1 key.2.1
    exact ⟨i1, i2, i3, by rw [List.foldl_cons, i4, key.2.2, List.length_cons]; omega⟩
theorem playOn_good (x : DRenew) (l : List DRenewAct) (hg : goodRenew x = true) :
    goodRenew (playOn x l).1 = true ∧ (playOn x l).1.fClocks.length = x.fClocks.length ∧ (playOn x l).1.fLeases.length = x.fLeases.length ∧ (playOn x l).2.length = l.length := by
  have := playOn_all x hg l (x, []) hg rfl rfl
  simpa [playOn] using this
def playRenew (x : DRenew) (l : List DRenewAct) : DRenew × List Bool × Bool :=
  if goodRenew x = true ∧ l.length ≤ 40 then ((playOn x l).1, (playOn x l).2, true) else (noRenew, [], false)
theorem playRenew_len (x : DRenew) (l : List DRenewAct) : (playRenew x l).1.fClocks.length ≤ x.fClocks.length ∧ (playRenew x l).1.fLeases.length ≤ x.fLeases.length ∧ (playRenew x l).2.1.length ≤ l.length := by
  unfold playRenew
  split
  · rename_i h
    obtain ⟨_, h2, h3, h4⟩ := playOn_good x l h.1
    exact ⟨by dsimp only; omega, by dsimp only; omega, by dsimp only; omega⟩
  · simp [noRenew]
end Go.Proofs.Ytjneaalpiangdaa
end

/- Part D1. Lease systems: contracts of the laws' helpers over deep values. -/
section
namespace Go.Proofs.Ytjneaalpiangdaa
open Go.RowKit
def avClock (c : DClock) : AV := .agg [.int .i64 c.fOff]
def avVLease (c : DVLease) : AV := .agg [.int .i64 c.fVer, .int .i64 c.fUntil]
def avAct (a : DRenewAct) : AV := .agg [.int .i64 a.fKind, .int .i64 a.fWho, .int .i64 a.fBy]
def avRenew (x : DRenew) : AV := .agg [.int .i64 x.fNow, .int .i64 x.fMaster.fOff, .sl (x.fClocks.map avClock), .int .i64 x.fVer, .sl (x.fLeases.map avVLease)]
def avBools (l : List Bool) : AV := .sl (l.map .bool)
def avActs (l : List DRenewAct) : AV := .sl (l.map avAct)
theorem flatClocks (l : List DClock) : FlatS 1 (l.map avClock) := fun x hx => by
  obtain ⟨c, _, rfl⟩ := List.mem_map.1 hx
  exact ⟨_, rfl, rfl, by simp⟩
theorem flatLeases (l : List DVLease) : FlatS 2 (l.map avVLease) := fun x hx => by
  obtain ⟨c, _, rfl⟩ := List.mem_map.1 hx
  exact ⟨_, rfl, rfl, by simp⟩
theorem flatActs (l : List DRenewAct) : FlatS 3 (l.map avAct) := fun x hx => by
  obtain ⟨c, _, rfl⟩ := List.mem_map.1 hx
  exact ⟨_, rfl, rfl, by simp⟩
theorem FlatS.structs {cn : Nat} {xs : List AV} (h : FlatS cn xs) : Structs cn xs := fun x hx => by
  obtain ⟨cs, h1, h2, _⟩ := h x hx
  exact ⟨cs, h1, h2⟩
def big : Nat := 1048576
/-! sz -/
theorem R_szClockS (l : List DClock) (k : Int) (hk : 0 ≤ k) (hk2 : k ≤ 9223372036854775807) (hn : l.length ≤ 9223372036854775807) : Rts Try.prog sgs 67 [.sl (l.map avClock), .int .i64 k] (.int .i64 (szOf l.length k)) :=
  rts_of C_laws_szClockS (by kernel_rfl) (by have := sz_den (xs := l.map avClock) hk hk2 (by simpa using hn); rw [List.length_map] at this; exact this)
theorem R_szVLeaseS (l : List DVLease) (k : Int) (hk : 0 ≤ k) (hk2 : k ≤ 9223372036854775807) (hn : l.length ≤ 9223372036854775807) : Rts Try.prog sgs 68 [.sl (l.map avVLease), .int .i64 k] (.int .i64 (szOf l.length k)) :=
  rts_of C_laws_szVLeaseS (by kernel_rfl) (by have := sz_den (xs := l.map avVLease) hk hk2 (by simpa using hn); rw [List.length_map] at this; exact this)
theorem R_szRenewActS (l : List DRenewAct) (k : Int) (hk : 0 ≤ k) (hk2 : k ≤ 9223372036854775807) (hn : l.length ≤ 9223372036854775807) : Rts Try.prog sgs 35 [avActs l, .int .i64 k] (.int .i64 (szOf l.length k)) :=
  rts_of C_laws_szRenewActS (by kernel_rfl) (by have := sz_den (xs := l.map avAct) hk hk2 (by simpa using hn); rw [List.length_map] at this; exact this)
def szRenewOf (x : DRenew) (k : Int) : Int := if szOf x.fClocks.length k < 0 then -1 else if szOf x.fLeases.length (szOf x.fClocks.length k) < 0 then -1 else szOf x.fLeases.length (szOf x.fClocks.length k)
theorem szOf_le (n : Nat) (k : Int) (hk : -1 ≤ k) : szOf n k ≤ k := by unfold szOf; split <;> omega
theorem R_szRenew (x : DRenew) (k : Int) (hk : 0 ≤ k) (hk2 : k ≤ 9223372036854775807) (hn : x.fClocks.length ≤ 9223372036854775807) (hn2 : x.fLeases.length ≤ 9223372036854775807) : Rts Try.prog sgs 20 [avRenew x, .int .i64 k] (.int .i64 (szRenewOf x k)) := by
  refine rts_of C_laws_szRenew (by kernel_rfl) ?_
  unfold Den T_laws_szRenew
  refine den_chk (by simp [avRenew]) (den_call (fun _ => by simpa [avRenew] using R_szClockS x.fClocks k hk hk2 hn) (den_chk (by simp [binInt]) ?_))
  by_cases h1 : szOf x.fClocks.length k < 0
  · exact den_ite (t := true) (by simp [binInt, h1]) (fun _ => den_ret (by simp [szRenewOf, h1])) (by simp)
  · refine den_ite (t := false) (by simp [binInt, h1]) (by simp) fun _ => ?_
    have h9 := szOf_le x.fClocks.length k (by omega)
    refine den_call (fun _ => by simpa [avRenew] using R_szVLeaseS x.fLeases (szOf x.fClocks.length k) (by omega) (by omega) hn2) (den_chk (by simp [binInt]) ?_)
    by_cases h2 : szOf x.fLeases.length (szOf x.fClocks.length k) < 0
    · exact den_ite (t := true) (by simp [binInt, h2]) (fun _ => den_ret (by simp [szRenewOf, h2])) (by simp)
    · exact den_ite (t := false) (by simp [binInt, h2]) (by simp) fun _ => den_ret (by simp [szRenewOf, h1, h2])
/-! to -/
theorem R_toClock (c : DClock) : Rts Try.prog sgs 69 [avClock c] (avClock c) := by
  refine rts_of C_laws_toClock (by kernel_rfl) ?_
  unfold Den T_laws_toClock
  exact den_chk (by simp [avClock]) (den_chk (by simp [avClock]) (den_ret (by simp [avClock])))
theorem R_toVLease (c : DVLease) : Rts Try.prog sgs 96 [avVLease c] (avVLease c) := by
  refine rts_of C_laws_toVLease (by kernel_rfl) ?_
  unfold Den T_laws_toVLease
  exact den_chk (by simp [avVLease]) (den_chk (by simp [avVLease]) (den_chk (by simp [avVLease]) (den_ret (by simp [avVLease]))))
theorem R_toRenewAct (c : DRenewAct) : Rts Try.prog sgs 22 [avAct c] (avAct c) := by
  refine rts_of C_laws_toRenewAct (by kernel_rfl) ?_
  unfold Den T_laws_toRenewAct
  exact den_chk (by simp [avAct]) (den_chk (by simp [avAct]) (den_chk (by simp [avAct]) (den_chk (by simp [avAct]) (den_ret (by simp [avAct])))))
theorem R_toClockS (l : List DClock) (hn : l.length ≤ big) : Rts Try.prog sgs 70 [.sl (l.map avClock)] (.sl (l.map avClock)) := by
  simp only [big] at hn
  exact rts_of C_laws_toClockS (by kernel_rfl) (toS_den (zs := [.int .i64 0]) (fun ρ => by simp) rfl (by simp) (flatClocks l) (by simp; omega) (by simp; omega) fun x hx => by obtain ⟨c, _, rfl⟩ := List.mem_map.1 hx; exact R_toClock c)
theorem R_toVLeaseS (l : List DVLease) (hn : l.length ≤ big) : Rts Try.prog sgs 71 [.sl (l.map avVLease)] (.sl (l.map avVLease)) := by
  simp only [big] at hn
  exact rts_of C_laws_toVLeaseS (by kernel_rfl) (toS_den (zs := [.int .i64 0, .int .i64 0]) (fun ρ => by simp) rfl (by simp) (flatLeases l) (by simp; omega) (by simp; omega) fun x hx => by obtain ⟨c, _, rfl⟩ := List.mem_map.1 hx; exact R_toVLease c)
theorem R_toRenewActS (l : List DRenewAct) (hn : l.length ≤ big) : Rts Try.prog sgs 36 [avActs l] (avActs l) := by
  simp only [big] at hn
  exact rts_of C_laws_toRenewActS (by kernel_rfl) (toS_den (zs := [.int .i64 0, .int .i64 0, .int .i64 0]) (fun ρ => by simp) rfl (by simp) (flatActs l) (by simp; omega) (by simp; omega) fun x hx => by obtain ⟨c, _, rfl⟩ := List.mem_map.1 hx; exact R_toRenewAct c)
theorem R_toRenew (x : DRenew) (h1 : x.fClocks.length ≤ big) (h2 : x.fLeases.length ≤ big) : Rts Try.prog sgs 21 [avRenew x] (avRenew x) := by
  refine rts_of C_laws_toRenew (by kernel_rfl) ?_
  unfold Den T_laws_toRenew
  refine den_chk (by simp [avRenew]) (den_chk (by simp [avRenew]) (den_call (fun _ => by simpa [avRenew, avClock] using R_toClock x.fMaster) (den_chk (by simp [avClock]) (den_call (fun _ => by simpa [avRenew] using R_toClockS x.fClocks h1) (den_chk (by simp [avRenew]) (den_call (fun _ => by simpa [avRenew] using R_toVLeaseS x.fLeases h2) (den_ret ?_)))))))
  simp [avRenew, avClock]
/-! eq: of equals -/
theorem R_eqClock (c : DClock) : Rts Try.prog sgs 72 [avClock c, avClock c] (.bool true) := by
  refine rts_of C_laws_eqClock (by kernel_rfl) ?_
  unfold Den T_laws_eqClock
  exact den_chk (by simp [avClock]) (den_chk (by simp [avClock]) (den_chk (by simp [avClock, binInt]) (den_ite (t := false) (by simp [avClock, binInt]) (by simp) fun _ => den_ret (by simp))))
theorem R_eqVLease (c : DVLease) : Rts Try.prog sgs 97 [avVLease c, avVLease c] (.bool true) := by
  refine rts_of C_laws_eqVLease (by kernel_rfl) ?_
  unfold Den T_laws_eqVLease
  exact den_chk (by simp [avVLease]) (den_chk (by simp [avVLease]) (den_chk (by simp [avVLease, binInt]) (den_ite (t := false) (by simp [avVLease, binInt]) (by simp) fun _ => den_chk (by simp [avVLease, binInt]) (den_ite (t := false) (by simp [avVLease, binInt]) (by simp) fun _ => den_ret (by simp)))))
theorem R_eqRenewAct (c : DRenewAct) : Rts Try.prog sgs 85 [avAct c, avAct c] (.bool true) := by
  refine rts_of C_laws_eqRenewAct (by kernel_rfl) ?_
  unfold Den T_laws_eqRenewAct
  exact den_chk (by simp [avAct]) (den_chk (by simp [avAct]) (den_chk (by simp [avAct, binInt]) (den_ite (t := false) (by simp [avAct, binInt]) (by simp) fun _ => den_chk (by simp [avAct, binInt]) (den_ite (t := false) (by simp [avAct, binInt]) (by simp) fun _ => den_chk (by simp [avAct, binInt]) (den_ite (t := false) (by simp [avAct, binInt]) (by simp) fun _ => den_ret (by simp))))))
theorem R_eqClockS (l : List DClock) (hn : l.length ≤ big) : Rts Try.prog sgs 73 [.sl (l.map avClock), .sl (l.map avClock)] (.bool true) := by
  simp only [big] at hn
  exact rts_of C_laws_eqClockS (by kernel_rfl) (eqS_same (flatClocks l).structs (by simp; omega) fun x hx => by obtain ⟨c, _, rfl⟩ := List.mem_map.1 hx; exact R_eqClock c)
theorem R_eqVLeaseS (l : List DVLease) (hn : l.length ≤ big) : Rts Try.prog sgs 74 [.sl (l.map avVLease), .sl (l.map avVLease)] (.bool true) := by
  simp only [big] at hn
  exact rts_of C_laws_eqVLeaseS (by kernel_rfl) (eqS_same (flatLeases l).structs (by simp; omega) fun x hx => by obtain ⟨c, _, rfl⟩ := List.mem_map.1 hx; exact R_eqVLease c)
theorem R_eqRenewActS (l : List DRenewAct) (hn : l.length ≤ big) : Rts Try.prog sgs 38 [avActs l, avActs l] (.bool true) := by
  simp only [big] at hn
  exact rts_of C_laws_eqRenewActS (by kernel_rfl) (eqS_same (flatActs l).structs (by simp; omega) fun x hx => by obtain ⟨c, _, rfl⟩ := List.mem_map.1 hx; exact R_eqRenewAct c)
theorem R_eqRenew (x : DRenew) (h1 : x.fClocks.length ≤ big) (h2 : x.fLeases.length ≤ big) : Rts Try.prog sgs 23 [avRenew x, avRenew x] (.bool true) := by
  refine rts_of C_laws_eqRenew (by kernel_rfl) ?_
  unfold Den T_laws_eqRenew
  refine den_chk (by simp [avRenew]) (den_chk (by simp [avRenew]) (den_chk (by simp [avRenew, binInt]) (den_ite (t := false) (by simp [avRenew, binInt]) (by simp) fun _ => ?_)))
  refine den_call (r := .bool true) (fun _ => by simpa [avRenew, avClock] using R_eqClock x.fMaster) (den_chk (by simp) (den_ite (t := false) (by simp) (by simp) fun _ => ?_))
  refine den_call (r := .bool true) (fun _ => by simpa [avRenew] using R_eqClockS x.fClocks h1) (den_chk (by simp) (den_ite (t := false) (by simp) (by simp) fun _ => ?_))
  refine den_chk (by simp [avRenew, binInt]) (den_ite (t := false) (by simp [avRenew, binInt]) (by simp) fun _ => ?_)
  refine den_call (r := .bool true) (fun _ => by simpa [avRenew] using R_eqVLeaseS x.fLeases h2) (den_chk (by simp) (den_ite (t := false) (by simp) (by simp) fun _ => den_ret (by simp)))
theorem R_eqBoolS (l : List Bool) (hn : l.length ≤ big) : Rts Try.prog sgs 37 [avBools l, avBools l] (.bool true) := by
  simp only [big] at hn
  refine rts_of C_laws_eqBoolS (by kernel_rfl) ?_
  unfold Den T_laws_eqBoolS
  refine den_chk (by simp [avBools]) (den_chk (by simp [avBools]) (den_ite (t := false) (by simp [avBools, binInt]) (by simp) fun _ => ?_))
  refine den_for lmono_false l.length (fun q => [.int .i64 q]) (by simp) fun q hq W hW => ?_
  by_cases hlt : q < l.length
  · refine den_chk (by simp [avBools]) (den_chk (by simp [avBools, binInt]) (den_ite (t := true) (by simp [avBools, binInt, hlt]) (fun _ => ?_) (by simp)))
    refine den_chk (fun _ => ⟨.i64, q, l.length, by simp, by omega, by simp [avBools], by omega, by simp [avBools, hlt]⟩) (den_chk (fun _ => ⟨.i64, q, l.length, by simp, by omega, by simp [avBools], by omega, by simp [avBools, hlt]⟩) (den_chk (by simp [avBools, hlt]) (den_ite (t := false) (by simp [avBools, hlt]) (by simp) fun _ => den_chk (by simp [binInt]) (den_jmp0 ?_))))
    have := hW hlt
    simpa [binInt, wrap64 (n := (q : Int) + 1) (by omega) (by omega)] using this
  · have hqe : q = l.length := by omega
    refine den_chk (by simp [avBools]) (den_chk (by simp [avBools, binInt]) (den_ite (t := false) (by simp [avBools, binInt]; omega) (by simp) fun _ => den_jmp1 ?_))
    exact den_ret (by simp)
/-! mark and held -/
theorem R_markClockS (l : List DClock) (k : Int) (hn : l.length ≤ big) (hk : 0 ≤ k) (hk2 : k ≤ 1000000000) : Rts Try.prog sgs 75 [.sl (l.map avClock), .int .i64 k] (.tup [.int .i64 (k + 1 * l.length), .sl (markL mk1 1 k l.length)]) := by
  simp only [big] at hn
  exact rts_of C_laws_markClockS (by kernel_rfl) (by have := mark1_den (flatClocks l) hk (by simp; omega); simp only [List.length_map] at this; exact this)
theorem R_markVLeaseS (l : List DVLease) (k : Int) (hn : l.length ≤ big) (hk : 0 ≤ k) (hk2 : k ≤ 1000000000) : Rts Try.prog sgs 76 [.sl (l.map avVLease), .int .i64 k] (.tup [.int .i64 (k + 2 * l.length), .sl (markL mk2 2 k l.length)]) := by
  simp only [big] at hn
  exact rts_of C_laws_markVLeaseS (by kernel_rfl) (by have := mark2_den (flatLeases l) hk (by simp; omega); simp only [List.length_map] at this; exact this)
theorem R_markRenewActS (l : List DRenewAct) (k : Int) (hn : l.length ≤ big) (hk : 0 ≤ k) (hk2 : k ≤ 1000000000) : Rts Try.prog sgs 39 [avActs l, .int .i64 k] (.tup [.int .i64 (k + 3 * l.length), .sl (markL mk3 3 k l.length)]) := by
  simp only [big] at hn
  exact rts_of C_laws_markRenewActS (by kernel_rfl) (by have := mark3_den (flatActs l) hk (by simp; omega); simp only [List.length_map] at this; exact this)
theorem R_markBoolS (l : List Bool) (k : Int) (hn : l.length ≤ big) (hk : 0 ≤ k) (hk2 : k ≤ 1000000000) : Rts Try.prog sgs 40 [avBools l, .int .i64 k] (.tup [.int .i64 (k + 1 * l.length), .sl (markL mkB 1 k l.length)]) := by
  simp only [big] at hn
  exact rts_of C_laws_markBoolS (by kernel_rfl) (by have := markB_den (xs := l.map .bool) (fun x hx => by obtain ⟨b, _, rfl⟩ := List.mem_map.1 hx; exact ⟨b, rfl⟩) hk (by simp; omega); simp only [List.length_map] at this; exact this)
def markedRenew (x : DRenew) (k : Int) : AV := .agg [.int .i64 x.fNow, .int .i64 x.fMaster.fOff, .sl (markL mk1 1 k x.fClocks.length), .int .i64 x.fVer, .sl (markL mk2 2 (k + 1 * x.fClocks.length) x.fLeases.length)]
theorem R_markRenew (x : DRenew) (k : Int) (h1 : x.fClocks.length ≤ big) (h2 : x.fLeases.length ≤ big) (hk : 0 ≤ k) (hk2 : k ≤ 100000000) : Rts Try.prog sgs 24 [avRenew x, .int .i64 k] (.tup [.int .i64 (k + 1 * x.fClocks.length + 2 * x.fLeases.length), markedRenew x k]) := by
  refine rts_of C_laws_markRenew (by kernel_rfl) ?_
  unfold Den T_laws_markRenew
  have h1' := h1
  simp only [big] at h1'
  refine den_call (fun _ => by simpa [avRenew] using R_markClockS x.fClocks k h1 hk (by omega)) (den_call (r := .tup [.int .i64 (k + 1 * x.fClocks.length + 2 * x.fLeases.length), .sl (markL mk2 2 (k + 1 * x.fClocks.length) x.fLeases.length)]) (fun _ => by simpa [avRenew] using R_markVLeaseS x.fLeases (k + 1 * x.fClocks.length) h2 (by omega) (by omega)) (den_ret ?_))
  simp [avRenew, markedRenew]
theorem R_heldClockS (n : Nat) (k : Int) (hn : n ≤ big) (hk : 0 ≤ k) (hk2 : k ≤ 1000000000) : Rts Try.prog sgs 77 [.sl (markL mk1 1 k n), .int .i64 k] (.int .i64 (k + 1 * n)) := by
  simp only [big] at hn
  exact rts_of C_laws_heldClockS (by kernel_rfl) (held1_den hk (by omega))
theorem R_heldVLeaseS (n : Nat) (k : Int) (hn : n ≤ big) (hk : 0 ≤ k) (hk2 : k ≤ 1000000000) : Rts Try.prog sgs 78 [.sl (markL mk2 2 k n), .int .i64 k] (.int .i64 (k + 2 * n)) := by
  simp only [big] at hn
  exact rts_of C_laws_heldVLeaseS (by kernel_rfl) (held2_den hk (by omega))
theorem R_heldBoolS (n : Nat) (k : Int) (hn : n ≤ big) (hk : 0 ≤ k) (hk2 : k ≤ 1000000000) : Rts Try.prog sgs 41 [.sl (markL mkB 1 k n), .int .i64 k] (.int .i64 (k + 1 * n)) := by
  simp only [big] at hn
  exact rts_of C_laws_heldBoolS (by kernel_rfl) (heldB_den hk (by omega))
theorem R_heldRenew (x : DRenew) (k : Int) (h1 : x.fClocks.length ≤ big) (h2 : x.fLeases.length ≤ big) (hk : 0 ≤ k) (hk2 : k ≤ 100000000) : Rts Try.prog sgs 25 [markedRenew x k, .int .i64 k] (.int .i64 (k + 1 * x.fClocks.length + 2 * x.fLeases.length)) := by
  refine rts_of C_laws_heldRenew (by kernel_rfl) ?_
  unfold Den T_laws_heldRenew
  have h1' := h1
  simp only [big] at h1'
  refine den_chk (by simp [markedRenew]) (den_call (fun _ => by simpa [markedRenew] using R_heldClockS x.fClocks.length k h1 hk (by omega)) (den_chk (by simp [binInt]) (den_ite (t := false) (by simp [binInt]; omega) (by simp) fun _ => ?_)))
  refine den_call (r := .int .i64 (k + 1 * x.fClocks.length + 2 * x.fLeases.length)) (fun _ => by simpa [markedRenew] using R_heldVLeaseS x.fLeases.length (k + 1 * x.fClocks.length) h2 (by omega) (by omega)) (den_chk (by simp [binInt]) (den_ite (t := false) (by simp [binInt]; omega) (by simp) fun _ => den_ret (by simp)))
end Go.Proofs.Ytjneaalpiangdaa
end

/- Part DE. Function values that are lent; searches through a slice. -/
section
namespace Go.Proofs.Ytjneaalpiangdaa
open Go.RowKit
section
variable {P : Program} {w : World}
theorem ArgsR.anyRo {ts : List TypeId} {vs : List Value} {xs : List AV} {rf hs : List Nat} (h : ArgsR P w ts [] vs xs rf hs) : ∀ (ms : List PM), (∀ m ∈ ms, m = .ro) → ArgsR P w ts ms vs xs rf hs := by
  generalize hm : ([] : List PM) = m0 at h
  induction h with
  | nil => intro ms _; exact .nil
  | @cons t ts ms' v vs x xs f h rf hs harg _ ih =>
    subst hm
    intro ms hms
    refine .cons ?_ (ih rfl ms.tail fun m hm => hms m (List.mem_of_mem_tail hm))
    have : ms.headD .ro = .ro := by cases ms with | nil => rfl | cons m ms => exact hms m (by simp)
    rw [this]; exact harg
  | free h1 _ ih =>
    subst hm
    intro ms hms
    exact .free h1 (ih rfl ms.tail fun m hm => hms m (List.mem_of_mem_tail hm))
theorem BacksR.anyRo {ts : List TypeId} {ms : List PM} {vs : List Value} {Bs : List AV} {f o : List Nat} (h : BacksR P w ts ms vs Bs f o) (hms : ∀ m ∈ ms, m = .ro) : BacksR P w ts [] vs Bs f o := by
  have hd : ∀ {ms : List PM}, (∀ m ∈ ms, m = .ro) → ms.headD .ro = .ro := by
    intro ms h; cases ms with | nil => rfl | cons m ms => exact h m (by simp)
  induction h with
  | nil => exact .nil
  | ro _ _ ih => exact .ro rfl (ih fun m hm => hms m (List.mem_of_mem_tail hm))
  | va h9 _ _ => rw [hd hms] at h9; cases h9
  | mu h9 _ _ _ _ => rw [hd hms] at h9; cases h9
  | bx h9 _ _ _ _ _ _ _ _ => rw [hd hms] at h9; cases h9
end
/-- Is a function called by the plain way called as by its own? -/
noncomputable def plainF (f : Nat) (r : AV) : Bool :=
  match Try.prog.funcs[f]?, sgs f with
  | some fn, some s => s.modes.all (fun m => match m with | .ro => true | _ => false) && (match fn.resultTypes.toList with | [t] => !anyFl Try.prog t s.res | _ => false) && resFlat Try.prog fn ⟨[], []⟩ r
  | _, _ => false
theorem rts_plain {f : Nat} {xs : List AV} {r : AV} (h : Rts Try.prog sgs f xs r) (hp : plainF f r = true) : Rts Try.prog sgs (1000000 + f) xs r := by
  unfold plainF at hp
  split at hp
  · rename_i fn s hf hs
    simp only [Bool.and_eq_true, List.all_eq_true] at hp
    obtain ⟨⟨h1, h2⟩, h3⟩ := hp
    have hro : ∀ m ∈ s.modes, m = .ro := fun m hm => by
      have := h1 m hm
      split at this
      · rfl
      · cases this
    unfold Rts at h ⊢
    rw [if_pos (sgs_lt f s hs)] at h
    rw [if_neg (by omega), Nat.add_sub_cancel_left]
    obtain ⟨s', hs', fn', hf', hb, hn, _, hl, hc⟩ := h
    rw [hs] at hs'; cases hs'
    rw [hf] at hf'; cases hf'
    refine ⟨fn, hf, hb, hn, h3, hl, fun w vs rf hs' hargs hd hnd => (hc w vs rf hs' (hargs.anyRo _ hro) hd hnd).mono ?_⟩
    rintro e w' ⟨v, rfl, ⟨R, Bs, f1, o1, f2, o2, e1, e2, e3, e4, e5, e6⟩, hm⟩
    refine ⟨v, rfl, ⟨R, Bs, f1, o1, f2, o2, e1, ?_, e3.anyRo hro, e4, e5, e6⟩, hm⟩
    unfold ResR at e2 ⊢
    split at h2
    · rename_i t ht
      rw [ht] at e2 ⊢
      simp only at e2 ⊢
      unfold ValR at e2 ⊢
      have h2 : anyFl Try.prog t s.res = false := by simpa using h2
      rw [if_neg (by rw [h2]; simp)] at e2
      rw [if_neg (by simp [anyFl])]
      exact e2
    · cases h2
  · cases hp
section
variable {Rt : Nat → List AV → AV → Prop} {R : AV → Prop} {L : LK} {js : List JK} {ρ : List AV}
/-- A loop through the states st 0 .. st n, with what is known on the way. -/
theorem den_forJ {i : EL} {b k : Tr} (hL : LMono L) (n : Nat) (st : Nat → List AV) (J : Nat → Prop) (hJ : J 0) (h0 : i.den ρ = st 0) (hb : ∀ q, q ≤ n → J q → ∀ W : JK, (q < n → J (q + 1) → W (st (q + 1))) → b.den Rt R L (W :: (fun us => k.den Rt R L js (ρ ++ us)) :: js) (ρ ++ st q)) : (Tr.loop i b k).den Rt R L js ρ := by
  refine den_loop hL (fun m vs => ∃ q, q + m = n ∧ vs = st q ∧ J q) (m := n) ⟨0, by omega, h0, hJ⟩ ?_
  rintro m vs ⟨q, hq, rfl, hj⟩
  exact hb q (by omega) hj _ fun hlt hj' => ⟨m - 1, by omega, q + 1, by omega, rfl, hj'⟩
end
def idxI {α : Type} (p : α → Bool) (l : List α) : Int := match l.findIdx? p with | some i => (i : Int) | none => -1
theorem idxI_some {α : Type} {p : α → Bool} {l : List α} {q : Nat} (hq : q < l.length) (h1 : ∀ (j : Nat) (hj : j < q), p (l[j]'(by omega)) = false) (h2 : p l[q] = true) : idxI p l = q := by
  have : l.findIdx? p = some q := by
    rw [List.findIdx?_eq_some_iff_getElem]
    exact ⟨hq, h2, fun j hj => by simpa using h1 j hj⟩
  simp [idxI, this]
theorem idxI_none {α : Type} {p : α → Bool} {l : List α} (h1 : ∀ (j : Nat) (hj : j < l.length), p l[j] = false) : idxI p l = -1 := by
  have : l.findIdx? p = none := by
    rw [List.findIdx?_eq_none_iff]
    intro x hx
    obtain ⟨j, hj, rfl⟩ := List.getElem_of_mem hx
    exact h1 j hj
  simp [idxI, this]
theorem idxI_any {α : Type} (p : α → Bool) (l : List α) : decide (0 ≤ idxI p l) = l.any p := by
  unfold idxI
  cases h : l.findIdx? p with
  | none =>
    rw [List.findIdx?_eq_none_iff] at h
    have : l.any p = false := by rw [List.any_eq_false]; intro x hx; simp [h x hx]
    simp [this]
  | some i =>
    rw [List.findIdx?_eq_some_iff_getElem] at h
    obtain ⟨hi, hp, _⟩ := h
    have : l.any p = true := by rw [List.any_eq_true]; exact ⟨_, List.getElem_mem hi, hp⟩
    simp [this]
def tIdxF (cn : Nat) : Tr :=
  .chk [] (.dfd (.len (.var 0))) <|
  .loop (.cons (.int .i64 (0)) .nil) (
   .chk [] (.dfd (.bin .lss (.var 2) (.len (.var 0)))) <|
   .ite (.bin .lss (.var 2) (.len (.var 0))) (
    .chk [] (.inb (.var 2) (.var 0) cn) <|
    .call [] (.inr (.var 1)) (.cons (.fld (.idx (.var 0) (.var 2)) 0 cn true) .nil) <|
    .ite (.var 3) (
     .ret (.var 2)) (
     .chk [] (.dfd (.bin .add (.var 2) (.int .i64 (1)))) <|
     .jmp 0 (.cons (.bin .add (.var 2) (.int .i64 (1))) .nil))) (
    .jmp 1 .nil)) (
   .ret (.int .i64 (-1)))
theorem idxF_den {α : Type} {av : α → AV} {l : List α} {p : α → Bool} {cn g : Nat} {caps : List AV} (hs : Structs cn (l.map av)) (hn : l.length ≤ 9223372036854775806) (hf : ∀ x ∈ l, Rts Try.prog sgs (1000000 + g) (av x :: caps) (.bool (p x))) : Den (tIdxF cn) (.int .i64 (idxI p l)) [.sl (l.map av), .fn g caps] := by
  unfold Den tIdxF
  refine den_chk (by simp) ?_
  refine den_forJ lmono_false l.length (fun q => [.int .i64 q]) (fun q => ∀ (j : Nat) (hj : j < q) (hl : j < l.length), p l[j] = false) (by intro j hj; omega) (by simp) fun q hq hJ W hW => ?_
  by_cases hlt : q < l.length
  · obtain ⟨cs, hc, hl⟩ := hs (av l[q]) (List.mem_map.2 ⟨_, List.getElem_mem hlt, rfl⟩)
    refine den_chk (by simp [binInt]) (den_ite (t := true) (by simp [binInt, hlt]) (fun _ => ?_) (by simp))
    refine den_chk (fun _ => ⟨.i64, q, l.length, by simp, by omega, by simp, by omega, by simp [hlt, hc, hl]⟩) (den_callV (r := .bool (p l[q])) (fun _ => ⟨g, caps, by simp, ?_, by simp⟩) ?_)
    · have := hf l[q] (List.getElem_mem hlt)
      rw [hc] at this
      simpa [hlt, hc, ← hl] using this
    · cases hp : p l[q] with
      | true => exact den_ite (t := true) (by simp) (fun _ => den_ret (by simp [idxI_some hlt (fun j hj => hJ j hj (by omega)) hp])) (by simp)
      | false =>
        refine den_ite (t := false) (by simp) (by simp) fun _ => den_chk (by simp [binInt]) (den_jmp0 ?_)
        have := hW hlt (fun j hj hl => by
          rcases Nat.lt_or_ge j q with h | h
          · exact hJ j h hl
          · have : j = q := by omega
            subst this; exact hp)
        simpa [binInt, wrap64 (n := (q : Int) + 1) (by omega) (by omega)] using this
  · have hqe : q = l.length := by omega
    refine den_chk (by simp [binInt]) (den_ite (t := false) (by simp [binInt]; omega) (by simp) fun _ => den_jmp1 ?_)
    exact den_ret (by simp [idxI_none fun j hj => hJ j (by omega) hj])
def tHasF (f : Nat) : Tr :=
  .call [] (.inl f) (.cons (.var 0) (.cons (.var 1) .nil)) <|
  .chk [] (.dfd (.bin .geq (.var 2) (.int .i64 (0)))) <|
  .ret (.bin .geq (.var 2) (.int .i64 (0)))
theorem hasF_den {α : Type} {av : α → AV} {l : List α} {p : α → Bool} {f g : Nat} {caps : List AV} (h : Rts Try.prog sgs f [.sl (l.map av), .fn g caps] (.int .i64 (idxI p l))) : Den (tHasF f) (.bool (l.any p)) [.sl (l.map av), .fn g caps] := by
  unfold Den tHasF
  refine den_call (fun _ => by simpa using h) (den_chk (by simp [binInt]) (den_ret ?_))
  rw [← idxI_any]
  simp [binInt]
theorem R_HasVLease (l : List DVLease) (p : DVLease → Bool) (g : Nat) (caps : List AV) (hn : l.length ≤ big) (hf : ∀ x ∈ l, Rts Try.prog sgs (1000000 + g) (avVLease x :: caps) (.bool (p x))) : Rts Try.prog sgs 51 [.sl (l.map avVLease), .fn g caps] (.bool (l.any p)) := by
  simp only [big] at hn
  exact rts_of C_slices_ContainsFunc___impl_VLease_impl_VLease_ (by kernel_rfl) (hasF_den (rts_of C_slices_IndexFunc___impl_VLease_impl_VLease_ (by kernel_rfl) (idxF_den (flatLeases l).structs (by omega) hf)))
theorem R_HasClock (l : List DClock) (p : DClock → Bool) (g : Nat) (caps : List AV) (hn : l.length ≤ big) (hf : ∀ x ∈ l, Rts Try.prog sgs (1000000 + g) (avClock x :: caps) (.bool (p x))) : Rts Try.prog sgs 58 [.sl (l.map avClock), .fn g caps] (.bool (l.any p)) := by
  simp only [big] at hn
  exact rts_of C_slices_ContainsFunc___impl_Clock_impl_Clock_ (by kernel_rfl) (hasF_den (rts_of C_slices_IndexFunc___impl_Clock_impl_Clock_ (by kernel_rfl) (idxF_den (flatClocks l).structs (by omega) hf)))
end Go.Proofs.Ytjneaalpiangdaa
end

/- Part D2. Lease systems: contracts of the program's functions over deep values. -/
section
namespace Go.Proofs.Ytjneaalpiangdaa
open Go.RowKit
theorem R_within (a b c : Int) : Rts Try.prog sgs 53 [.int .i64 a, .int .i64 b, .int .i64 c] (.bool (within a b c)) := by
  refine rts_of C_impl_within (by kernel_rfl) ?_
  unfold Den T_impl_within
  by_cases h : b ≤ a <;> simp [Tr.den, binInt, within, h]
theorem R_GoodClock (c : DClock) : Rts Try.prog sgs 57 [avClock c] (.bool (goodClock c)) := by
  refine rts_of C_impl_GoodClock (by kernel_rfl) ?_
  unfold Den T_impl_GoodClock
  exact den_chk (by simp [avClock]) (den_call (fun _ => by simpa [avClock] using R_within c.fOff (-5) 5) (den_ret (by simp [goodClock])))
theorem R_GoodRenew1 (c : DClock) : Rts Try.prog sgs 59 [avClock c] (.bool (!goodClock c)) := by
  refine rts_of C_impl_GoodRenew_1 (by kernel_rfl) ?_
  unfold Den T_impl_GoodRenew_1
  exact den_chk (by simp [avClock]) (den_call (fun _ => by simpa [avClock] using R_GoodClock c) (den_chk (by simp) (den_ret (by simp))))
theorem R_GoodRenew2 (l : DVLease) (x : DRenew) : Rts Try.prog sgs 60 [avVLease l, .ref (avRenew x)] (.bool (badLease x.fVer l)) := by
  refine rts_of C_impl_GoodRenew_2 (by kernel_rfl) ?_
  unfold Den T_impl_GoodRenew_2
  refine den_chk (by simp [avVLease]) (den_chk (by simp) (den_chk (by simp [avRenew]) (den_call (fun _ => by simpa [avVLease, avRenew] using R_within l.fVer 0 x.fVer) (den_chk (by simp) (den_call (fun _ => by simpa [avVLease] using R_within l.fUntil 0 1020) (den_chk (by simp) (den_chk (by simp) (den_ret ?_))))))))
  cases h : within l.fVer 0 x.fVer <;> simp [badLease, h]
theorem R_GoodRenew (x : DRenew) (h1 : x.fClocks.length ≤ big) (h2 : x.fLeases.length ≤ big) : Rts Try.prog sgs 16 [avRenew x] (.bool (goodRenew x)) := by
  refine rts_of C_impl_GoodRenew (by kernel_rfl) ?_
  unfold Den T_impl_GoodRenew
  refine den_chk (by simp [avRenew]) ?_
  refine den_call (r := .bool (within x.fNow 0 1000)) (fun _ => by simpa [avRenew] using R_within x.fNow 0 1000) ?_
  refine den_call (r := .bool (goodClock x.fMaster)) (fun _ => by simpa [avRenew, avClock] using R_GoodClock x.fMaster) ?_
  refine den_chk (by simp) (den_chk (by simp [avRenew]) ?_)
  refine den_call (r := .bool (within x.fClocks.length 1 3)) (fun _ => by simpa [avRenew] using R_within x.fClocks.length 1 3) ?_
  refine den_chk (by simp) ?_
  refine den_call (r := .bool (within x.fVer 0 20)) (fun _ => by simpa [avRenew] using R_within x.fVer 0 20) ?_
  refine den_chk (by simp) (den_chk (by simp [avRenew]) (den_chk (by simp [avRenew]) (den_chk (by simp) ?_)))
  refine den_call (r := .bool (x.fClocks.any fun c => !goodClock c)) (fun _ => ?_) ?_
  · have := R_HasClock x.fClocks (fun c => !goodClock c) 59 [] h1 (fun c _ => rts_plain (R_GoodRenew1 c) (by kernel_rfl))
    simpa [avRenew] using this
  refine den_chk (by simp) (den_chk (by simp [avRenew, binInt]) ?_)
  refine den_call (r := .bool (x.fLeases.any (badLease x.fVer))) (fun _ => ?_) ?_
  · have := R_HasVLease x.fLeases (badLease x.fVer) 60 [.ref (avRenew x)] h2 (fun l _ => rts_plain (R_GoodRenew2 l x) (by kernel_rfl))
    simpa [avRenew] using this
  refine den_chk (by simp) (den_chk (by simp [avRenew, binInt]) (den_ret ?_))
  simp only [goodRenew]
  generalize within x.fNow 0 1000 = b1
  generalize goodClock x.fMaster = b2
  generalize within x.fClocks.length 1 3 = b3
  generalize within x.fVer 0 20 = b4
  generalize (x.fClocks.any fun c => !goodClock c) = b5
  generalize x.fLeases.any (badLease x.fVer) = b6
  simp [avRenew, binInt]
end Go.Proofs.Ytjneaalpiangdaa
end

/- Part D3. Lease systems: the program's actions, over deep values. -/
section
namespace Go.Proofs.Ytjneaalpiangdaa
open Go.RowKit
section
variable {Rt : Nat → List AV → AV → Prop} {R : AV → Prop} {L : LK} {js : List JK} {ρ : List AV}
theorem den_join {t k : Tr} (h : t.den Rt R L ((fun vs => k.den Rt R L js (ρ ++ vs)) :: js) ρ) : (Tr.join t k).den Rt R L js ρ := h
theorem den_nilq {gs : Gd} {x : E} {k : Tr} (h : ∀ b, (gdOK ρ gs → b = true → x.den ρ = .sl []) → k.den Rt R L js (ρ ++ [.bool b])) : (Tr.nilq gs x k).den Rt R L js ρ := h
end
def tClone (cn bytes : Nat) : Tr :=
  .chk [] (.dfd (.len (.var 0))) <|
  .nilq [] (.var 0) <|
  .ite (.var 1) (
   .ret (.lst .nil)) (
   .chk [] (.room (.lst .nil) (.var 0) bytes) <|
   .chk [] (.flatS (.var 0) cn) <|
   .ret (.app (.lst .nil) (.var 0)))
theorem clone_den {cn bytes : Nat} {xs : List AV} (hs : FlatS cn xs) (h1 : (xs.length : Int) * bytes ≤ 140737488355328) (h2 : xs.length ≤ 140737488355328) : Den (tClone cn bytes) (.sl xs) [.sl xs] := by
  unfold Den tClone
  refine den_chk (by simp) (den_nilq fun b hb => ?_)
  cases b with
  | true =>
    have : xs = [] := by simpa using hb (gdOK_nil _) rfl
    subst this
    exact den_ite (t := true) (by simp) (fun _ => den_ret (by simp)) (by simp)
  | false =>
    refine den_ite (t := false) (by simp) (by simp) fun _ => den_chk (fun _ => ⟨0, xs.length, by simp, by simp, by simpa using h1, by omega⟩) (den_chk (fun _ => ⟨xs, by simp, fun y hy => ?_⟩) (den_ret (by simp)))
    obtain ⟨cs, rfl, hl, hsc⟩ := hs y hy
    exact ⟨hl, hsc⟩
theorem R_CloneClock (l : List DClock) (hn : l.length ≤ big) : Rts Try.prog sgs 87 [.sl (l.map avClock)] (.sl (l.map avClock)) := by
  simp only [big] at hn
  exact rts_of C_slices_Clone___impl_Clock_impl_Clock_ (by kernel_rfl) (clone_den (flatClocks l) (by simp; omega) (by simp; omega))
theorem R_CloneVLease (l : List DVLease) (hn : l.length ≤ big) : Rts Try.prog sgs 88 [.sl (l.map avVLease)] (.sl (l.map avVLease)) := by
  simp only [big] at hn
  exact rts_of C_slices_Clone___impl_VLease_impl_VLease_ (by kernel_rfl) (clone_den (flatLeases l) (by simp; omega) (by simp; omega))
theorem R_copyRenew (x : DRenew) (h1 : x.fClocks.length ≤ big) (h2 : x.fLeases.length ≤ big) : Rts Try.prog sgs 46 [avRenew x] (avRenew x) := by
  refine rts_of C_impl_copyRenew (by kernel_rfl) ?_
  unfold Den T_impl_copyRenew
  refine den_chk (by simp [avRenew]) (den_call (fun _ => by simpa [avRenew] using R_CloneClock x.fClocks h1) (den_call (fun _ => by simpa [avRenew] using R_CloneVLease x.fLeases h2) (den_ret (by simp [avRenew]))))
theorem R_isRenewAct (x : DRenew) (a : DRenewAct) (h1 : x.fClocks.length ≤ big) : Rts Try.prog sgs 63 [avRenew x, avAct a] (.bool (isAct x.fClocks.length a)) := by
  simp only [big] at h1
  refine rts_of C__impl_Renew__isRenewAct (by kernel_rfl) ?_
  unfold Den T__impl_Renew__isRenewAct
  have w1 := wrap64 (n := (x.fClocks.length : Int) - 1) (by omega) (by omega)
  refine den_chk (by simp [avRenew]) (den_chk (by simp [avAct]) (den_chk (by simp [avAct, binInt]) ?_))
  by_cases k1 : a.fKind = 1
  · refine den_ite (t := true) (by simp [avAct, binInt, k1]) (fun _ => ?_) (by simp)
    refine den_chk (by simp [avAct, binInt]) (den_call (r := .bool (within a.fBy 1 50)) (fun _ => by simpa [avAct] using R_within a.fBy 1 50) (den_chk (by simp [avAct, binInt]) (den_ret ?_)))
    cases h : a.fWho == 0 <;> simp [avAct, binInt, isAct, k1, h]
  · refine den_ite (t := false) (by simp [avAct, binInt, k1]) (by simp) fun _ => den_chk (by simp [avAct, binInt]) ?_
    by_cases k2 : a.fKind = 2
    · refine den_ite (t := true) (by simp [avAct, binInt, k2]) (fun _ => ?_) (by simp)
      refine den_chk (by simp [avRenew]) (den_call (r := .bool (within a.fWho 0 x.fClocks.length)) (fun _ => by simpa [avAct, avRenew] using R_within a.fWho 0 x.fClocks.length) (den_chk (by simp [avAct]) (den_call (r := .bool (goodClock ⟨a.fBy⟩)) (fun _ => by simpa [avAct, avClock] using R_GoodClock ⟨a.fBy⟩) (den_chk (by simp) (den_ret ?_)))))
      cases h : within a.fWho 0 x.fClocks.length <;> simp [isAct, k2, h]
    · refine den_ite (t := false) (by simp [avAct, binInt, k2]) (by simp) fun _ => den_chk (by simp [avAct, binInt]) ?_
      by_cases k3 : a.fKind = 3
      · refine den_ite (t := true) (by simp [avAct, binInt, k3]) (fun _ => ?_) (by simp)
        refine den_chk (by simp [avRenew]) (den_call (r := .bool (within a.fWho 0 (x.fClocks.length - 1))) (fun _ => by simpa [avAct, avRenew, binInt, w1] using R_within a.fWho 0 (x.fClocks.length - 1)) (den_chk (by simp [avAct, binInt]) (den_chk (by simp) (den_ret ?_))))
        cases h : within a.fWho 0 (x.fClocks.length - 1) <;> simp [avAct, binInt, isAct, k3, h]
      · refine den_ite (t := false) (by simp [avAct, binInt, k3]) (by simp) fun _ => den_chk (by simp [avAct, binInt]) ?_
        by_cases k4 : a.fKind = 4
        · refine den_ite (t := true) (by simp [avAct, binInt, k4]) (fun _ => ?_) (by simp)
          refine den_chk (by simp [avAct, binInt]) (den_chk (by simp [avAct, binInt]) (den_chk (by simp [avAct, binInt]) (den_ret ?_)))
          cases h : a.fWho == 0 <;> simp [avAct, binInt, isAct, k4, h]
        · exact den_ite (t := false) (by simp [avAct, binInt, k4]) (by simp) fun _ => den_ret (by simp [isAct, k1, k2, k3, k4])
theorem R_span (c : DClock) (now : Int) (h1 : -1000000 ≤ now + c.fOff) (h2 : now + c.fOff ≤ 1000000) : Rts Try.prog sgs 89 [avClock c, .int .i64 now] (.agg [.int .i64 (now + c.fOff - 5), .int .i64 (now + c.fOff + 5)]) := by
  refine rts_of C__impl_Clock__span (by kernel_rfl) ?_
  unfold Den T__impl_Clock__span
  have w1 := wrap64 (n := now + c.fOff) (by omega) (by omega)
  have w2 := wrap64 (n := now + c.fOff - 5) (by omega) (by omega)
  have w3 := wrap64 (n := now + c.fOff + 5) (by omega) (by omega)
  refine den_chk (by simp [avClock]) (den_chk (by simp [avClock, binInt]) (den_chk (by simp [avClock, binInt]) (den_chk (by simp [avClock, binInt]) (den_chk (by simp [avClock, binInt]) (den_chk (by simp [avClock, binInt]) (den_chk (by simp [avClock, binInt]) (den_ret ?_)))))))
  simp [avClock, binInt, w1, w2, w3]
end Go.Proofs.Ytjneaalpiangdaa
end

/- Part D4. Lease systems: a step of the program, over deep values. -/
section
namespace Go.Proofs.Ytjneaalpiangdaa
open Go.RowKit
theorem R_step1 (l : DVLease) (x : DRenew) (low : Int) : Rts Try.prog sgs 90 [avVLease l, .ref (.agg [.ref (avRenew x)]), .ref (.agg [.int .i64 low])] (.bool (stale x.fVer low l)) := by
  refine rts_of C___impl_Renew__step_1 (by kernel_rfl) ?_
  unfold Den T___impl_Renew__step_1
  refine den_chk (by simp [avVLease]) (den_chk (by simp) (den_chk (by simp) (den_chk (by simp) (den_chk (by simp [avRenew]) (den_chk (by simp [avVLease, avRenew, binInt]) (den_chk (by simp) (den_chk (by simp) (den_chk (by simp [avVLease, binInt]) (den_chk (by simp [avVLease, avRenew, binInt]) (den_ret ?_))))))))))
  cases h : l.fVer == x.fVer <;> simp [avVLease, avRenew, binInt, stale, bne, h]
theorem isAct_fits {n : Int} {a : DRenewAct} (h : isAct n a = true) : a.fKind = 1 ∧ a.fWho = 0 ∧ 1 ≤ a.fBy ∧ a.fBy ≤ 50 ∨ a.fKind = 2 ∧ 0 ≤ a.fWho ∧ a.fWho ≤ n ∧ -5 ≤ a.fBy ∧ a.fBy ≤ 5 ∨ a.fKind = 3 ∧ 0 ≤ a.fWho ∧ a.fWho ≤ n - 1 ∧ a.fBy = 0 ∨ a.fKind = 4 ∧ a.fWho = 0 ∧ a.fBy = 0 := by
  unfold isAct at h
  by_cases k1 : a.fKind = 1
  · simp [k1, within] at h; exact .inl ⟨k1, h.1, h.2.1, h.2.2⟩
  · by_cases k2 : a.fKind = 2
    · simp [k2, within, goodClock] at h; exact .inr (.inl ⟨k2, h.1.1, h.1.2, h.2.1, h.2.2⟩)
    · by_cases k3 : a.fKind = 3
      · simp [k3, within] at h; exact .inr (.inr (.inl ⟨k3, h.1.1, h.1.2, h.2⟩))
      · by_cases k4 : a.fKind = 4
        · simp [k4] at h; exact .inr (.inr (.inr ⟨k4, h.1, h.2⟩))
        · simp [k1, k2, k3, k4] at h
theorem R_step (x : DRenew) (a : DRenewAct) (hg : goodRenew x = true) (ha : isAct x.fClocks.length a = true) : Rts Try.prog sgs 47 [.ref (avRenew x), avAct a] (.tup [.bool (doRenew x a).2, avRenew (doRenew x a).1]) := by
  refine rts_of C___impl_Renew__step (by kernel_rfl) ?_
  obtain ⟨⟨n1, n2⟩, ⟨m1, m2⟩, ⟨c1, c2⟩, ⟨v1, v2⟩, hl, _, _⟩ := goodRenew_iff.1 hg
  have hlow : lowOf x = x.fNow + x.fMaster.fOff - 5 := rfl
  unfold Den T___impl_Renew__step
  refine den_chk (by simp [avAct]) (den_call (r := .agg [.int .i64 (lowOf x), .int .i64 (x.fNow + x.fMaster.fOff + 5)]) (fun _ => by have := R_span x.fMaster x.fNow (by omega) (by omega); rw [← hlow] at this; simpa [avRenew, avClock] using this) (den_chk (by simp) (den_chk (by simp) (den_join ?_))))
  refine den_chk (by simp [avAct, binInt]) (den_chk (by simp [avAct, avRenew, binInt]) (den_chk (by simp [avAct, avRenew, binInt]) (den_chk (by simp [avAct, binInt]) ?_)))
  have fin : ∀ (y : DRenew), doRenew x a = (y, true) → ∀ vs, vs = [.int .i64 y.fNow, .int .i64 y.fMaster.fOff, .sl (y.fClocks.map avClock), .sl (y.fLeases.map avVLease), .int .i64 y.fVer] →
      (Tr.ret (.tup (.cons (.bool true) (.cons (.mk (.cons (.var 3) (.cons (.var 4) (.cons (.var 5) (.cons (.var 7) (.cons (.var 6) .nil)))))) .nil)))).den (Rts Try.prog sgs) (fun r' => r' = .tup [.bool (doRenew x a).2, avRenew (doRenew x a).1]) (fun _ _ _ _ => False) [] ([.ref (avRenew x), avAct a] ++ [.agg [.int .i64 (lowOf x), .int .i64 (x.fNow + x.fMaster.fOff + 5)]] ++ vs) := by
    rintro y hy vs rfl
    rw [hy]
    exact den_ret (by simp [avRenew])
  rcases isAct_fits ha with ⟨k, h1, h2, h3⟩ | ⟨k, h1, h2, h3, h4⟩ | ⟨k, h1, h2, h3⟩ | ⟨k, h1, h2⟩
  · have w1 := wrap64 (n := x.fNow + a.fBy) (by omega) (by omega)
    by_cases hle : x.fNow + a.fBy ≤ 1000
    · refine den_ite (t := true) (by simp [avAct, avRenew, binInt, k, w1, hle]) (fun _ => ?_) (by simp)
      refine den_chk (by simp [avAct, avRenew, binInt]) (den_chk (by simp [avAct, avRenew, binInt]) (den_jmp0 (fin { x with fNow := x.fNow + a.fBy } (by simp [doRenew, k, hle]) _ ?_)))
      simp [avAct, avRenew, binInt, w1]
    · refine den_ite (t := false) (by simp [avAct, avRenew, binInt, k, w1, hle]) (by simp) fun _ => ?_
      refine den_chk (by simp [avAct, binInt]) (den_chk (by simp [avAct, binInt]) (den_chk (by simp [avAct, binInt]) (den_ite (t := false) (by simp [avAct, binInt, k]) (by simp) fun _ => ?_)))
      refine den_chk (by simp [avAct, binInt]) (den_ite (t := false) (by simp [avAct, binInt, k]) (by simp) fun _ => ?_)
      refine den_chk (by simp [avAct, binInt]) (den_chk (by simp [binInt]) (den_chk (by simp [avAct, binInt]) (den_ite (t := false) (by simp [avAct, binInt, k]) (by simp) fun _ => ?_)))
      refine den_chk (by simp [avAct, binInt]) (den_chk (by simp [avRenew, binInt]) (den_chk (by simp [avAct, binInt]) (den_call (r := .bool false) (fun hg => by simp [avAct, avRenew, binInt, k] at hg) (den_chk (by simp) (den_chk (by simp [avAct, avRenew, binInt]) (den_ite (t := false) (by simp [avAct, avRenew, binInt, k]) (by simp) fun _ => den_ret ?_))))))
      simp [doRenew, k, hle, avRenew]
  · refine den_ite (t := false) (by simp [avAct, avRenew, binInt, k]) (by simp) fun _ => ?_
    refine den_chk (by simp [avAct, binInt]) (den_chk (by simp [avAct, binInt]) (den_chk (by simp [avAct, binInt]) ?_))
    by_cases hw : a.fWho = 0
    · refine den_ite (t := true) (by simp [avAct, binInt, k, hw]) (fun _ => ?_) (by simp)
      refine den_chk (by simp [avAct]) (den_jmp0 (fin { x with fMaster := ⟨a.fBy⟩ } (by simp [doRenew, k, hw]) _ ?_))
      simp [avAct, avRenew]
    · refine den_ite (t := false) (by simp [avAct, binInt, k, hw]) (by simp) fun _ => den_chk (by simp [avAct, binInt]) (den_ite (t := true) (by simp [avAct, binInt, k]) (fun _ => ?_) (by simp))
      obtain ⟨q, hq⟩ : ∃ q : Nat, a.fWho = (q : Int) + 1 := ⟨(a.fWho - 1).toNat, by omega⟩
      have e1 : a.fWho - 1 = (q : Int) := by omega
      have w1 := wrap64 (n := (q : Int)) (by omega) (by omega)
      have hlt : q < x.fClocks.length := by omega
      refine den_chk (by simp [avAct, binInt]) (den_chk (fun _ => ⟨.i64, (q : Int), x.fClocks.length, by simp [avAct, binInt, e1, w1], by omega, by simp [avRenew], by omega, by simp [avRenew, hlt, avClock]⟩) (den_chk (by simp [avAct]) (den_chk (by simp [avAct, avRenew, binInt, e1, w1, hlt, avClock]) (den_jmp0 (fin { x with fClocks := x.fClocks.set q ⟨a.fBy⟩ } (by
        have e2 : (a.fWho - 1).toNat = q := by omega
        simp only [doRenew, k, e2]; simp [hw]) _ ?_)))))
      simp [avAct, avRenew, binInt, e1, w1, hlt, avClock, List.map_set]
  · refine den_ite (t := false) (by simp [avAct, avRenew, binInt, k]) (by simp) fun _ => ?_
    refine den_chk (by simp [avAct, binInt]) (den_chk (by simp [avAct, binInt]) (den_chk (by simp [avAct, binInt]) (den_ite (t := false) (by simp [avAct, binInt, k]) (by simp) fun _ => ?_)))
    refine den_chk (by simp [avAct, binInt]) (den_ite (t := false) (by simp [avAct, binInt, k]) (by simp) fun _ => ?_)
    refine den_chk (by simp [avAct, binInt]) (den_chk (by simp [binInt]) (den_chk (by simp [avAct, binInt]) ?_))
    by_cases hz : 0 ≤ lowOf x
    · refine den_ite (t := true) (by simp [avAct, binInt, k, hz]) (fun _ => ?_) (by simp)
      have w1 := wrap64 (n := lowOf x + 20) (by omega) (by omega)
      have hlt : a.fWho.toNat < x.fLeases.length := by omega
      refine den_chk (by simp [binInt]) (den_chk (by simp [avRenew]) (den_chk (by simp [binInt]) (den_chk (fun _ => ⟨.i64, a.fWho, x.fLeases.length, by simp [avAct], by omega, by simp [avRenew], by omega, by simp [avRenew, hlt, avVLease]⟩) (den_chk (by simp [avRenew, binInt]) (den_chk (by simp [avAct, avRenew, hlt, avVLease]) (den_jmp0 (fin { x with fLeases := x.fLeases.set a.fWho.toNat ⟨x.fVer, lowOf x + 20⟩ } (by simp [doRenew, k, hz]) _ ?_)))))))
      simp [avAct, avRenew, binInt, w1, hlt, avVLease, List.map_set]
    · refine den_ite (t := false) (by simp [avAct, binInt, k, hz]) (by simp) fun _ => ?_
      refine den_chk (by simp [avAct, binInt]) (den_chk (by simp [avRenew, binInt]) (den_chk (by simp [avAct, binInt]) (den_call (r := .bool false) (fun hg => by simp [avAct, avRenew, binInt, k] at hg) (den_chk (by simp) (den_chk (by simp [avAct, avRenew, binInt]) (den_ite (t := false) (by simp [avAct, avRenew, binInt, k]) (by simp) fun _ => den_ret ?_))))))
      simp [doRenew, k, hz, avRenew]
  · refine den_ite (t := false) (by simp [avAct, avRenew, binInt, k]) (by simp) fun _ => ?_
    refine den_chk (by simp [avAct, binInt]) (den_chk (by simp [avAct, binInt]) (den_chk (by simp [avAct, binInt]) (den_ite (t := false) (by simp [avAct, binInt, k]) (by simp) fun _ => ?_)))
    refine den_chk (by simp [avAct, binInt]) (den_ite (t := false) (by simp [avAct, binInt, k]) (by simp) fun _ => ?_)
    refine den_chk (by simp [avAct, binInt]) (den_chk (by simp [binInt]) (den_chk (by simp [avAct, binInt]) (den_ite (t := false) (by simp [avAct, binInt, k]) (by simp) fun _ => ?_)))
    have w1 := wrap64 (n := x.fVer + 1) (by omega) (by omega)
    refine den_chk (by simp [avAct, binInt]) (den_chk (by simp [avRenew, binInt]) (den_chk (by simp [avAct, binInt]) (den_call (r := .bool (x.fLeases.any (stale x.fVer (lowOf x)))) (fun _ => ?_) (den_chk (by simp) (den_chk (by simp [avAct, avRenew, binInt]) ?_)))))
    · have := R_HasVLease x.fLeases (stale x.fVer (lowOf x)) 90 [.ref (.agg [.ref (avRenew x)]), .ref (.agg [.int .i64 (lowOf x)])] (by simp only [big]; omega) (fun l _ => rts_plain (R_step1 l x (lowOf x)) (by kernel_rfl))
      simpa [avRenew] using this
    · by_cases hc : x.fVer < 20 ∧ x.fLeases.any (stale x.fVer (lowOf x)) = false
      · refine den_ite (t := true) (by simp [avAct, avRenew, binInt, k, hc.1, hc.2]) (fun _ => ?_) (by simp)
        refine den_chk (by simp [avRenew, binInt]) (den_chk (by simp [avRenew, binInt]) (den_jmp0 (fin { x with fVer := x.fVer + 1 } (by simp only [doRenew, k]; simp [hc.1, hc.2]) _ ?_)))
        simp [avRenew, binInt, w1]
      · refine den_ite (t := false) (by
          cases hs : x.fLeases.any (stale x.fVer (lowOf x)) with
          | true => simp [avAct, avRenew, binInt, k]
          | false =>
            have : ¬ x.fVer < 20 := fun h => hc ⟨h, hs⟩
            simp [avAct, avRenew, binInt, k, this]) (by simp) fun _ => den_ret ?_
        have hd : doRenew x a = (x, false) := by
          unfold doRenew
          rw [if_neg (by omega), if_neg (by omega), if_neg (by omega), if_neg hc]
        rw [hd]
        simp [avRenew]
end Go.Proofs.Ytjneaalpiangdaa
end

/- Part D5. Lease systems: a run of the program, over deep values. -/
section
namespace Go.Proofs.Ytjneaalpiangdaa
open Go.RowKit
def avPlay (s : DRenew × List Bool × Bool) : AV := .tup [avRenew s.1, avBools s.2.1, .bool s.2.2]
def runTo (x : DRenew) (l : List DRenewAct) (q : Nat) : DRenew × List Bool := playOn x (l.take q)
theorem runTo_succ (x : DRenew) (l : List DRenewAct) {q : Nat} (hq : q < l.length) : runTo x l (q + 1) = playStep (runTo x l q) l[q] := by
  unfold runTo
  rw [List.take_succ_eq_append_getElem hq, playOn_snoc]
theorem runTo_good (x : DRenew) (l : List DRenewAct) (hg : goodRenew x = true) (q : Nat) (hq : q ≤ l.length) : goodRenew (runTo x l q).1 = true ∧ (runTo x l q).1.fClocks.length = x.fClocks.length ∧ (runTo x l q).1.fLeases.length = x.fLeases.length ∧ (runTo x l q).2.length = q := by
  have := playOn_good x (l.take q) hg
  rw [List.length_take, Nat.min_eq_left hq] at this
  exact this
def stOf (s : DRenew × List Bool) (q : Nat) : List AV := [.int .i64 q, .int .i64 s.1.fNow, .int .i64 s.1.fMaster.fOff, .int .i64 s.1.fVer, .sl (s.1.fClocks.map avClock), .sl (s.1.fLeases.map avVLease), avBools s.2]
theorem R_PlayRenew (x : DRenew) (l : List DRenewAct) (h1 : x.fClocks.length ≤ big) (h2 : x.fLeases.length ≤ big) (h3 : l.length ≤ big) : Rts Try.prog sgs 27 [avRenew x, avActs l] (avPlay (playRenew x l)) := by
  refine rts_of C_impl_PlayRenew (by kernel_rfl) ?_
  unfold Den T_impl_PlayRenew
  refine den_chk (by simp [avRenew]) (den_call (r := .bool (goodRenew x)) (fun _ => by simpa [avRenew] using R_GoodRenew x h1 h2) (den_chk (by simp) (den_chk (by simp [avActs]) (den_chk (by simp) ?_))))
  by_cases hc : goodRenew x = true ∧ l.length ≤ 40
  · obtain ⟨hg, hl⟩ := hc
    have hp : playRenew x l = ((playOn x l).1, (playOn x l).2, true) := by simp [playRenew, hg, hl]
    refine den_ite (t := false) (by simp [avActs, binInt, hg]; omega) (by simp) fun _ => ?_
    refine den_call (r := avRenew x) (fun _ => by simpa [avRenew] using R_copyRenew x h1 h2) (den_chk (by simp [avActs]) ?_)
    refine den_for lmono_false l.length (fun q => stOf (runTo x l q) q) (by simp [stOf, runTo, playOn, avRenew, avBools]) fun q hq W hW => ?_
    obtain ⟨g1, g2, g3, g4⟩ := runTo_good x l hg q hq
    generalize hs : runTo x l q = s at g1 g2 g3 g4 ⊢
    by_cases hlt : q < l.length
    · have hat : (l.map avAct)[q]? = some (avAct l[q]) := by simp [hlt]
      have hnx := runTo_succ x l hlt
      rw [hs] at hnx
      have hW := hW hlt
      rw [hnx] at hW
      refine den_chk (by simp [stOf, avActs, binInt]) (den_ite (t := true) (by simp [stOf, avActs, binInt, hlt]) (fun _ => den_join ?_) (by simp))
      refine den_chk (fun _ => ⟨.i64, q, l.length, by simp [stOf], by omega, by simp [avActs], by omega, by simp [avActs, hlt, avAct]⟩) (den_chk (by simp [stOf, avActs, hlt, avAct]) (den_call (r := .bool (isAct s.1.fClocks.length l[q])) (fun _ => ?_) ?_))
      · have := R_isRenewAct s.1 l[q] (by omega)
        simpa [stOf, avActs, hlt, avAct, avRenew] using this
      have fin : ∀ (y : DRenew) (b : Bool) (k : Nat) (τ : List AV), playStep s l[q] = (y, s.2 ++ [b]) → ∀ vs, vs = [.int .i64 0, .int .i64 y.fNow, .int .i64 y.fMaster.fOff, .int .i64 y.fVer, avBools (s.2 ++ [b]), .sl (y.fClocks.map avClock), .sl (y.fLeases.map avVLease)] →
          W [.int .i64 ((q : Int) + 1), .int .i64 y.fNow, .int .i64 y.fMaster.fOff, .int .i64 y.fVer, .sl (y.fClocks.map avClock), .sl (y.fLeases.map avVLease), avBools (s.2 ++ [b])] := by
        rintro y b k τ hy vs -
        rw [hy] at hW
        simpa [stOf] using hW
      cases hact : isAct s.1.fClocks.length l[q] with
      | true =>
        have hstep := R_step s.1 l[q] g1 hact
        have hps : playStep s l[q] = ((doRenew s.1 l[q]).1, s.2 ++ [(doRenew s.1 l[q]).2]) := by simp [playStep, hact]
        refine den_ite (t := true) (by simp [stOf]) (fun _ => ?_) (by simp)
        refine den_call (r := .tup [.bool (doRenew s.1 l[q]).2, avRenew (doRenew s.1 l[q]).1]) (fun _ => by simpa [stOf, avActs, hlt, avAct, avRenew] using hstep) ?_
        refine den_chk (by simp [stOf]) (den_chk (fun _ => ⟨s.2.length, 1, by simp [stOf, avBools], by simp [stOf], by omega, by omega⟩) (den_chk (by simp [stOf]) (den_jmp0 ?_)))
        refine den_chk (by simp [stOf, binInt]) (den_jmp0 ?_)
        have := fin (doRenew s.1 l[q]).1 (doRenew s.1 l[q]).2 0 [] hps _ rfl
        simpa [stOf, binInt, avRenew, avBools, wrap64 (n := (q : Int) + 1) (by omega) (by omega)] using this
      | false =>
        have hps : playStep s l[q] = (s.1, s.2 ++ [false]) := by simp [playStep, hact]
        refine den_ite (t := false) (by simp [stOf]) (by simp) fun _ => ?_
        refine den_chk (by simp) (den_chk (fun _ => ⟨s.2.length, 1, by simp [stOf, avBools], by simp, by omega, by omega⟩) (den_chk (by simp) (den_jmp0 ?_)))
        refine den_chk (by simp [stOf, binInt]) (den_jmp0 ?_)
        have := fin s.1 false 0 [] hps _ rfl
        simpa [stOf, binInt, avBools, wrap64 (n := (q : Int) + 1) (by omega) (by omega)] using this
    · have hqe : q = l.length := by omega
      refine den_chk (by simp [stOf, avActs, binInt]) (den_ite (t := false) (by simp [stOf, avActs, binInt]; omega) (by simp) fun _ => den_jmp1 (den_ret ?_))
      subst hqe
      have hs' : playOn x l = s := by rw [← hs, runTo, List.take_length]
      rw [hp, hs']
      simp [stOf, avPlay, avRenew, avBools]
  · have hp : playRenew x l = (noRenew, [], false) := by simp [playRenew, hc]
    refine den_ite (t := true) (by
      cases hg : goodRenew x with
      | false => simp [avActs, binInt]
      | true =>
        have : ¬ l.length ≤ 40 := fun h => hc ⟨hg, h⟩
        simp [avActs, binInt]; omega) (fun _ => den_ret ?_) (by simp)
    rw [hp]
    simp [avPlay, avRenew, noRenew, avBools]
end Go.Proofs.Ytjneaalpiangdaa
end

/- Part D6. Lease systems: the reference's functions, over deep values. -/
section
namespace Go.Proofs.Ytjneaalpiangdaa
open Go.RowKit
theorem R_l1In (a b c : Int) : Rts Try.prog sgs 55 [.int .i64 a, .int .i64 b, .int .i64 c] (.bool (within a b c)) := by
  refine rts_of C_spec_l1In (by kernel_rfl) ?_
  unfold Den T_spec_l1In
  by_cases h : b ≤ a <;> simp [Tr.den, binInt, within, h]
theorem R_l2Clock (c : DClock) : Rts Try.prog sgs 64 [avClock c] (.bool (goodClock c)) := by
  refine rts_of C_spec_l2Clock (by kernel_rfl) ?_
  unfold Den T_spec_l2Clock
  exact den_chk (by simp [avClock]) (den_call (fun _ => by simpa [avClock] using R_l1In c.fOff (-5) 5) (den_ret (by simp [goodClock])))
theorem R_sGoodClock (c : DClock) : Rts Try.prog sgs 61 [avClock c] (.bool (goodClock c)) := by
  refine rts_of C_spec_GoodClock (by kernel_rfl) ?_
  unfold Den T_spec_GoodClock
  exact den_chk (by simp [avClock]) (den_call (fun _ => by simpa [avClock] using R_l2Clock c) (den_ret (by simp)))
theorem any_stop {α : Type} {p : α → Bool} {l : List α} {q : Nat} (hq : q < l.length) (h : p l[q] = true) : l.any p = true := by rw [List.any_eq_true]; exact ⟨_, List.getElem_mem hq, h⟩
theorem any_end {α : Type} {p : α → Bool} {l : List α} (h : ∀ (j : Nat) (_ : j < l.length) (hj : j < l.length), p l[j] = false) : l.any p = false := by
  rw [List.any_eq_false]
  intro x hx
  obtain ⟨j, hj, rfl⟩ := List.getElem_of_mem hx
  simp [h j hj hj]
theorem R_l28Clocks (l : List DClock) (hn : l.length ≤ big) : Rts Try.prog sgs 62 [.sl (l.map avClock)] (.bool (!(l.any fun c => !goodClock c) && within l.length 1 3)) := by
  simp only [big] at hn
  refine rts_of C_spec_l28Clocks (by kernel_rfl) ?_
  unfold Den T_spec_l28Clocks
  refine den_chk (by simp) (den_forJ lmono_false l.length (fun q => [.int .i64 q]) (fun q => ∀ (j : Nat) (_ : j < q) (hl : j < l.length), (fun c => !goodClock c) l[j] = false) (by intro j hj; omega) (by simp) fun q hq hJ W hW => ?_)
  by_cases hlt : q < l.length
  · refine den_chk (by simp [binInt]) (den_ite (t := true) (by simp [binInt, hlt]) (fun _ => ?_) (by simp))
    refine den_chk (fun _ => ⟨.i64, q, l.length, by simp, by omega, by simp, by omega, by simp [hlt, avClock]⟩) (den_chk (by simp [hlt, avClock]) (den_call (r := .bool (goodClock l[q])) (fun _ => by simpa [hlt, avClock] using R_sGoodClock l[q]) (den_chk (by simp) ?_)))
    cases hg : goodClock l[q] with
    | false => exact den_ite (t := true) (by simp) (fun _ => den_ret (by rw [any_stop hlt (by simp [hg])]; simp)) (by simp)
    | true =>
      refine den_ite (t := false) (by simp) (by simp) fun _ => den_chk (by simp [binInt]) (den_jmp0 ?_)
      have := hW hlt (fun j hj hl => by
        rcases Nat.lt_or_ge j q with h | h
        · exact hJ j h hl
        · have : j = q := by omega
          subst this; simp [hg])
      simpa [binInt, wrap64 (n := (q : Int) + 1) (by omega) (by omega)] using this
  · have hqe : q = l.length := by omega
    subst hqe
    refine den_chk (by simp [binInt]) (den_ite (t := false) (by simp [binInt]) (by simp) fun _ => den_jmp1 ?_)
    refine den_chk (by simp) (den_call (r := .bool (within l.length 1 3)) (fun _ => by simpa using R_l1In l.length 1 3) (den_ret ?_))
    rw [any_end hJ]; simp
theorem R_sGoodRenew (x : DRenew) (h1 : x.fClocks.length ≤ big) (h2 : x.fLeases.length ≤ big) : Rts Try.prog sgs 17 [avRenew x] (.bool (goodRenew x)) := by
  have h2' := h2
  simp only [big] at h2'
  refine rts_of C_spec_GoodRenew (by kernel_rfl) ?_
  unfold Den T_spec_GoodRenew
  refine den_chk (by simp [avRenew]) ?_
  refine den_call (r := .bool (within x.fNow 0 1000)) (fun _ => by simpa [avRenew] using R_l1In x.fNow 0 1000) (den_chk (by simp) ?_)
  refine den_call (r := .bool (goodClock x.fMaster)) (fun _ => by simpa [avRenew, avClock] using R_sGoodClock x.fMaster) (den_chk (by simp) (den_chk (by simp) ?_))
  refine den_call (r := .bool (!(x.fClocks.any fun c => !goodClock c) && within x.fClocks.length 1 3)) (fun _ => by simpa [avRenew] using R_l28Clocks x.fClocks h1) (den_chk (by simp) (den_chk (by simp) ?_))
  refine den_call (r := .bool (within x.fVer 0 20)) (fun _ => by simpa [avRenew] using R_l1In x.fVer 0 20) (den_chk (by simp) (den_chk (by simp) (den_chk (by simp [avRenew]) (den_chk (by simp [avRenew]) (den_chk (by simp) ?_)))))
  cases hpre : (within x.fNow 0 1000 && goodClock x.fMaster && (!(x.fClocks.any fun c => !goodClock c) && within x.fClocks.length 1 3) && within x.fVer 0 20 && ((x.fLeases.length : Int) == (x.fClocks.length : Int))) with
  | false =>
    refine den_ite (t := true) (by
      revert hpre
      generalize within x.fNow 0 1000 = b1
      generalize goodClock x.fMaster = b2
      generalize (!(x.fClocks.any fun c => !goodClock c) && within x.fClocks.length 1 3) = b3
      generalize within x.fVer 0 20 = b4
      simp [avRenew, binInt, bne]
      generalize ((x.fLeases.length : Int) == (x.fClocks.length : Int)) = b5
      cases b1 <;> cases b2 <;> cases b3 <;> cases b4 <;> cases b5 <;> simp) (fun _ => den_ret ?_) (by simp)
    have : goodRenew x = false := by
      revert hpre
      unfold goodRenew
      generalize within x.fNow 0 1000 = b1
      generalize goodClock x.fMaster = b2
      generalize (x.fClocks.any fun c => !goodClock c) = b3
      generalize within x.fClocks.length 1 3 = b6
      generalize within x.fVer 0 20 = b4
      generalize ((x.fLeases.length : Int) == (x.fClocks.length : Int)) = b5
      cases b1 <;> cases b2 <;> cases b3 <;> cases b4 <;> cases b5 <;> cases b6 <;> simp
    rw [this]; rfl
  | true =>
    have hgr : goodRenew x = !(x.fLeases.any (badLease x.fVer)) := by
      revert hpre
      unfold goodRenew
      generalize within x.fNow 0 1000 = b1
      generalize goodClock x.fMaster = b2
      generalize (x.fClocks.any fun c => !goodClock c) = b3
      generalize within x.fClocks.length 1 3 = b6
      generalize within x.fVer 0 20 = b4
      generalize ((x.fLeases.length : Int) == (x.fClocks.length : Int)) = b5
      cases b1 <;> cases b2 <;> cases b3 <;> cases b4 <;> cases b5 <;> cases b6 <;> simp
    refine den_ite (t := false) (by
      revert hpre
      generalize within x.fNow 0 1000 = b1
      generalize goodClock x.fMaster = b2
      generalize (!(x.fClocks.any fun c => !goodClock c) && within x.fClocks.length 1 3) = b3
      generalize within x.fVer 0 20 = b4
      cases b1 <;> cases b2 <;> cases b3 <;> cases b4 <;> simp [avRenew, binInt, bne]) (by simp) fun _ => ?_
    rw [hgr]
    refine den_chk (by simp [avRenew]) (den_forJ lmono_false x.fLeases.length (fun q => [.int .i64 q]) (fun q => ∀ (j : Nat) (_ : j < q) (hl : j < x.fLeases.length), badLease x.fVer x.fLeases[j] = false) (by intro j hj; omega) (by simp) fun q hq hJ W hW => ?_)
    by_cases hlt : q < x.fLeases.length
    · refine den_chk (by simp [avRenew, binInt]) (den_ite (t := true) (by simp [avRenew, binInt, hlt]) (fun _ => ?_) (by simp))
      refine den_chk (fun _ => ⟨.i64, q, x.fLeases.length, by simp, by omega, by simp [avRenew], by omega, by simp [avRenew, hlt, avVLease]⟩) (den_chk (by simp [avRenew, hlt, avVLease]) ?_)
      refine den_call (r := .bool (within x.fLeases[q].fVer 0 x.fVer)) (fun _ => by simpa [avRenew, hlt, avVLease] using R_l1In x.fLeases[q].fVer 0 x.fVer) (den_chk (by simp) ?_)
      refine den_call (r := .bool (within x.fLeases[q].fUntil 0 1020)) (fun _ => by simpa [avRenew, hlt, avVLease] using R_l1In x.fLeases[q].fUntil 0 1020) (den_chk (by simp) (den_chk (by simp) ?_))
      cases hb : badLease x.fVer x.fLeases[q] with
      | true =>
        refine den_ite (t := true) (by
          unfold badLease at hb
          revert hb
          generalize within x.fLeases[q].fVer 0 x.fVer = b1
          generalize within x.fLeases[q].fUntil 0 1020 = b2
          cases b1 <;> cases b2 <;> simp) (fun _ => den_ret (by rw [any_stop hlt hb]; simp)) (by simp)
      | false =>
        refine den_ite (t := false) (by
          unfold badLease at hb
          revert hb
          generalize within x.fLeases[q].fVer 0 x.fVer = b1
          generalize within x.fLeases[q].fUntil 0 1020 = b2
          cases b1 <;> cases b2 <;> simp) (by simp) fun _ => den_chk (by simp [binInt]) (den_jmp0 ?_)
        have := hW hlt (fun j hj hl => by
          rcases Nat.lt_or_ge j q with h | h
          · exact hJ j h hl
          · have : j = q := by omega
            subst this; exact hb)
        simpa [binInt, wrap64 (n := (q : Int) + 1) (by omega) (by omega)] using this
    · have hqe : q = x.fLeases.length := by omega
      subst hqe
      refine den_chk (by simp [avRenew, binInt]) (den_ite (t := false) (by simp [avRenew, binInt]) (by simp) fun _ => den_jmp1 (den_ret ?_))
      rw [any_end hJ]; simp
theorem R_l28Own (x : DRenew) (h1 : x.fClocks.length ≤ big) (h2 : x.fLeases.length ≤ big) : Rts Try.prog sgs 50 [avRenew x] (avRenew x) := by
  simp only [big] at h1 h2
  refine rts_of C_spec_l28Own (by kernel_rfl) ?_
  unfold Den T_spec_l28Own
  refine den_chk (by simp [avRenew]) (den_chk (fun _ => ⟨0, x.fClocks.length, by simp, by simp [avRenew], by omega, by omega⟩) (den_chk (fun _ => ⟨_, by simp [avRenew]; rfl, fun y hy => ?_⟩) (den_chk (fun _ => ⟨0, x.fLeases.length, by simp, by simp [avRenew], by omega, by omega⟩) (den_chk (fun _ => ⟨_, by simp [avRenew]; rfl, fun y hy => ?_⟩) (den_ret (by simp [avRenew]))))))
  · obtain ⟨cs, rfl, hl, hsc⟩ := flatClocks x.fClocks y hy
    exact ⟨hl, hsc⟩
  · obtain ⟨cs, rfl, hl, hsc⟩ := flatLeases x.fLeases y hy
    exact ⟨hl, hsc⟩
theorem R_l28Good (x : DRenew) (a : DRenewAct) (h1 : x.fClocks.length ≤ big) : Rts Try.prog sgs 82 [avRenew x, avAct a] (.bool (isAct x.fClocks.length a)) := by
  simp only [big] at h1
  refine rts_of C_spec_l28Good (by kernel_rfl) ?_
  unfold Den T_spec_l28Good
  have w1 := wrap64 (n := (x.fClocks.length : Int) - 1) (by omega) (by omega)
  refine den_chk (by simp [avRenew]) (den_chk (by simp [avAct]) (den_chk (by simp [avAct, binInt]) ?_))
  by_cases k1 : a.fKind = 1
  · refine den_ite (t := true) (by simp [avAct, binInt, k1]) (fun _ => ?_) (by simp)
    refine den_chk (by simp [avAct, binInt]) (den_call (r := .bool (within a.fBy 1 50)) (fun _ => by simpa [avAct] using R_l1In a.fBy 1 50) (den_chk (by simp [avAct, binInt]) (den_ret ?_)))
    cases h : a.fWho == 0 <;> simp [avAct, binInt, isAct, k1, h]
  · refine den_ite (t := false) (by simp [avAct, binInt, k1]) (by simp) fun _ => den_chk (by simp [avAct, binInt]) ?_
    by_cases k2 : a.fKind = 2
    · refine den_ite (t := true) (by simp [avAct, binInt, k2]) (fun _ => ?_) (by simp)
      refine den_chk (by simp [avRenew]) (den_call (r := .bool (within a.fWho 0 x.fClocks.length)) (fun _ => by simpa [avAct, avRenew] using R_l1In a.fWho 0 x.fClocks.length) (den_chk (by simp [avAct]) (den_call (r := .bool (goodClock ⟨a.fBy⟩)) (fun _ => by simpa [avAct, avClock] using R_sGoodClock ⟨a.fBy⟩) (den_chk (by simp) (den_ret ?_)))))
      cases h : within a.fWho 0 x.fClocks.length <;> simp [isAct, k2, h]
    · refine den_ite (t := false) (by simp [avAct, binInt, k2]) (by simp) fun _ => den_chk (by simp [avAct, binInt]) ?_
      by_cases k3 : a.fKind = 3
      · refine den_ite (t := true) (by simp [avAct, binInt, k3]) (fun _ => ?_) (by simp)
        refine den_chk (by simp [avRenew]) (den_call (r := .bool (within a.fWho 0 (x.fClocks.length - 1))) (fun _ => by simpa [avAct, avRenew, binInt, w1] using R_l1In a.fWho 0 (x.fClocks.length - 1)) (den_chk (by simp [avAct, binInt]) (den_chk (by simp) (den_ret ?_))))
        cases h : within a.fWho 0 (x.fClocks.length - 1) <;> simp [avAct, binInt, isAct, k3, h]
      · refine den_ite (t := false) (by simp [avAct, binInt, k3]) (by simp) fun _ => den_chk (by simp [avAct, binInt]) ?_
        by_cases k4 : a.fKind = 4
        · refine den_ite (t := true) (by simp [avAct, binInt, k4]) (fun _ => ?_) (by simp)
          refine den_chk (by simp [avAct, binInt]) (den_chk (by simp [avAct, binInt]) (den_chk (by simp [avAct, binInt]) (den_ret ?_)))
          cases h : a.fWho == 0 <;> simp [avAct, binInt, isAct, k4, h]
        · exact den_ite (t := false) (by simp [avAct, binInt, k4]) (by simp) fun _ => den_ret (by simp [isAct, k1, k2, k3, k4])
theorem R_l28Low (x : DRenew) (c : DClock) (h1 : -1000000 ≤ x.fNow + c.fOff) (h2 : x.fNow + c.fOff ≤ 1000000) : Rts Try.prog sgs 91 [avRenew x, avClock c] (.int .i64 (x.fNow + c.fOff - 5)) := by
  refine rts_of C_spec_l28Low (by kernel_rfl) ?_
  unfold Den T_spec_l28Low
  have w1 := wrap64 (n := x.fNow + c.fOff) (by omega) (by omega)
  have w2 := wrap64 (n := x.fNow + c.fOff - 5) (by omega) (by omega)
  exact den_chk (by simp [avRenew]) (den_chk (by simp [avClock]) (den_chk (by simp [avRenew, avClock, binInt]) (den_chk (by simp [avRenew, avClock, binInt]) (den_ret (by simp [avRenew, avClock, binInt, w1, w2])))))
end Go.Proofs.Ytjneaalpiangdaa
end

/- Part D7. Lease systems: the reference's run, over deep values. -/
section
namespace Go.Proofs.Ytjneaalpiangdaa
open Go.RowKit
theorem R_l28Raise (x : DRenew) (hg : goodRenew x = true) : Rts Try.prog sgs 92 [avRenew x] (.bool (!(x.fLeases.any (stale x.fVer (lowOf x))) && decide (x.fVer < 20))) := by
  obtain ⟨⟨n1, n2⟩, ⟨m1, m2⟩, ⟨c1, c2⟩, ⟨v1, v2⟩, hl, _, _⟩ := goodRenew_iff.1 hg
  refine rts_of C_spec_l28Raise (by kernel_rfl) ?_
  unfold Den T_spec_l28Raise
  refine den_chk (by simp [avRenew]) (den_chk (by simp [avRenew]) (den_forJ lmono_false x.fLeases.length (fun q => [.int .i64 q]) (fun q => ∀ (j : Nat) (_ : j < q) (hl : j < x.fLeases.length), stale x.fVer (lowOf x) x.fLeases[j] = false) (by intro j hj; omega) (by simp) fun q hq hJ W hW => ?_))
  by_cases hlt : q < x.fLeases.length
  · refine den_chk (by simp [avRenew, binInt]) (den_ite (t := true) (by simp [avRenew, binInt, hlt]) (fun _ => ?_) (by simp))
    refine den_chk (fun _ => ⟨.i64, q, x.fLeases.length, by simp, by omega, by simp [avRenew], by omega, by simp [avRenew, hlt, avVLease]⟩) (den_chk (by simp [avRenew, hlt, avVLease]) (den_chk (by simp [avRenew, hlt, avVLease, binInt]) ?_))
    refine den_call (r := .int .i64 (lowOf x)) (fun _ => ?_) (den_chk (by simp [avRenew, hlt, avVLease, binInt]) (den_chk (by simp [avRenew, hlt, avVLease, binInt]) ?_))
    · have := R_l28Low x x.fMaster (by omega) (by omega)
      rw [show x.fNow + x.fMaster.fOff - 5 = lowOf x from rfl] at this
      simpa [avRenew, avClock] using this
    cases hb : stale x.fVer (lowOf x) x.fLeases[q] with
    | true =>
      refine den_ite (t := true) (by
        unfold stale at hb
        simpa [avRenew, hlt, avVLease, binInt, bne] using hb) (fun _ => den_ret (by rw [any_stop hlt hb]; simp)) (by simp)
    | false =>
      refine den_ite (t := false) (by
        unfold stale at hb
        simpa [avRenew, hlt, avVLease, binInt, bne] using hb) (by simp) fun _ => den_chk (by simp [binInt]) (den_jmp0 ?_)
      have := hW hlt (fun j hj hl => by
        rcases Nat.lt_or_ge j q with h | h
        · exact hJ j h hl
        · have : j = q := by omega
          subst this; exact hb)
      simpa [binInt, wrap64 (n := (q : Int) + 1) (by omega) (by omega)] using this
  · have hqe : q = x.fLeases.length := by omega
    subst hqe
    refine den_chk (by simp [avRenew, binInt]) (den_ite (t := false) (by simp [avRenew, binInt]) (by simp) fun _ => den_jmp1 (den_chk (by simp [avRenew, binInt]) (den_ret ?_)))
    rw [any_end hJ]; simp [avRenew, binInt]
theorem R_l28Do (x : DRenew) (a : DRenewAct) (hg : goodRenew x = true) (ha : isAct x.fClocks.length a = true) : Rts Try.prog sgs 49 [avRenew x, avAct a] (.tup [avRenew (doRenew x a).1, .bool (doRenew x a).2]) := by
  refine rts_of C_spec_l28Do (by kernel_rfl) ?_
  obtain ⟨⟨n1, n2⟩, ⟨m1, m2⟩, ⟨c1, c2⟩, ⟨v1, v2⟩, hl, _, _⟩ := goodRenew_iff.1 hg
  have hlow : lowOf x = x.fNow + x.fMaster.fOff - 5 := rfl
  unfold Den T_spec_l28Do
  refine den_chk (by simp [avAct]) (den_join (den_chk (by simp [avAct, binInt]) ?_))
  have fin : ∀ (y : DRenew), doRenew x a = (y, true) → ∀ vs, vs = [.int .i64 y.fNow, .int .i64 y.fMaster.fOff, .sl (y.fClocks.map avClock), .sl (y.fLeases.map avVLease), .int .i64 y.fVer] →
      (Tr.ret (.tup (.cons (.mk (.cons (.var 2) (.cons (.var 3) (.cons (.var 4) (.cons (.var 6) (.cons (.var 5) .nil)))))) (.cons (.bool true) .nil)))).den (Rts Try.prog sgs) (fun r' => r' = .tup [avRenew (doRenew x a).1, .bool (doRenew x a).2]) (fun _ _ _ _ => False) [] ([avRenew x, avAct a] ++ vs) := by
    rintro y hy vs rfl
    rw [hy]
    exact den_ret (by simp [avRenew])
  rcases isAct_fits ha with ⟨k, h1, h2, h3⟩ | ⟨k, h1, h2, h3, h4⟩ | ⟨k, h1, h2, h3⟩ | ⟨k, h1, h2⟩
  · have w1 := wrap64 (n := x.fNow + a.fBy) (by omega) (by omega)
    refine den_ite (t := true) (by simp [avAct, binInt, k]) (fun _ => ?_) (by simp)
    refine den_chk (by simp [avAct, avRenew, binInt]) (den_chk (by simp [avAct, avRenew, binInt]) ?_)
    by_cases hle : x.fNow + a.fBy ≤ 1000
    · refine den_ite (t := false) (by simp [avAct, avRenew, binInt, w1]; omega) (by simp) fun _ => ?_
      refine den_chk (by simp [avAct, avRenew, binInt]) (den_chk (by simp [avAct, avRenew, binInt]) (den_jmp0 (fin { x with fNow := x.fNow + a.fBy } (by simp [doRenew, k, hle]) _ ?_)))
      simp [avAct, avRenew, binInt, w1]
    · refine den_ite (t := true) (by simp [avAct, avRenew, binInt, w1]; omega) (fun _ => den_ret ?_) (by simp)
      simp [doRenew, k, hle, avRenew]
  · refine den_ite (t := false) (by simp [avAct, binInt, k]) (by simp) fun _ => den_chk (by simp [avAct, binInt]) (den_ite (t := true) (by simp [avAct, binInt, k]) (fun _ => den_chk (by simp [avAct, binInt]) ?_) (by simp))
    by_cases hw : a.fWho = 0
    · refine den_ite (t := true) (by simp [avAct, binInt, hw]) (fun _ => ?_) (by simp)
      refine den_chk (by simp [avAct]) (den_jmp0 (fin { x with fMaster := ⟨a.fBy⟩ } (by simp [doRenew, k, hw]) _ ?_))
      simp [avAct, avRenew]
    · refine den_ite (t := false) (by simp [avAct, binInt, hw]) (by simp) fun _ => ?_
      obtain ⟨q, hq⟩ : ∃ q : Nat, a.fWho = (q : Int) + 1 := ⟨(a.fWho - 1).toNat, by omega⟩
      have e1 : a.fWho - 1 = (q : Int) := by omega
      have w1 := wrap64 (n := (q : Int)) (by omega) (by omega)
      have hlt : q < x.fClocks.length := by omega
      refine den_chk (by simp [avAct, binInt]) (den_chk (fun _ => ⟨.i64, (q : Int), x.fClocks.length, by simp [avAct, binInt, e1, w1], by omega, by simp [avRenew], by omega, by simp [avRenew, hlt, avClock]⟩) (den_chk (by simp [avAct]) (den_chk (by simp [avAct, avRenew, binInt, e1, w1, hlt, avClock]) (den_jmp0 (fin { x with fClocks := x.fClocks.set q ⟨a.fBy⟩ } (by
        have e2 : (a.fWho - 1).toNat = q := by omega
        simp only [doRenew, k, e2]; simp [hw]) _ ?_)))))
      simp [avAct, avRenew, binInt, e1, w1, hlt, avClock, List.map_set]
  · refine den_ite (t := false) (by simp [avAct, binInt, k]) (by simp) fun _ => den_chk (by simp [avAct, binInt]) (den_ite (t := false) (by simp [avAct, binInt, k]) (by simp) fun _ => den_chk (by simp [avAct, binInt]) (den_ite (t := true) (by simp [avAct, binInt, k]) (fun _ => ?_) (by simp)))
    refine den_call (r := .int .i64 (lowOf x)) (fun _ => ?_) (den_chk (by simp [binInt]) ?_)
    · have := R_l28Low x x.fMaster (by omega) (by omega)
      rw [← hlow] at this
      simpa [avRenew, avClock] using this
    by_cases hz : 0 ≤ lowOf x
    · refine den_ite (t := false) (by simp [binInt]; omega) (by simp) fun _ => ?_
      have w1 := wrap64 (n := lowOf x + 20) (by omega) (by omega)
      have hlt : a.fWho.toNat < x.fLeases.length := by omega
      refine den_chk (by simp [binInt]) (den_chk (by simp [avRenew]) (den_chk (by simp [binInt]) (den_chk (fun _ => ⟨.i64, a.fWho, x.fLeases.length, by simp [avAct], by omega, by simp [avRenew], by omega, by simp [avRenew, hlt, avVLease]⟩) (den_chk (by simp [avRenew, binInt]) (den_chk (by simp [avAct, avRenew, hlt, avVLease]) (den_jmp0 (fin { x with fLeases := x.fLeases.set a.fWho.toNat ⟨x.fVer, lowOf x + 20⟩ } (by simp [doRenew, k, hz]) _ ?_)))))))
      simp [avAct, avRenew, binInt, w1, hlt, avVLease, List.map_set]
    · refine den_ite (t := true) (by simp [binInt]; omega) (fun _ => den_ret ?_) (by simp)
      simp [doRenew, k, hz, avRenew]
  · refine den_ite (t := false) (by simp [avAct, binInt, k]) (by simp) fun _ => den_chk (by simp [avAct, binInt]) (den_ite (t := false) (by simp [avAct, binInt, k]) (by simp) fun _ => den_chk (by simp [avAct, binInt]) (den_ite (t := false) (by simp [avAct, binInt, k]) (by simp) fun _ => ?_))
    have w1 := wrap64 (n := x.fVer + 1) (by omega) (by omega)
    refine den_call (r := .bool (!(x.fLeases.any (stale x.fVer (lowOf x))) && decide (x.fVer < 20))) (fun _ => by simpa [avRenew] using R_l28Raise x hg) (den_chk (by simp) ?_)
    by_cases hc : x.fVer < 20 ∧ x.fLeases.any (stale x.fVer (lowOf x)) = false
    · have hd : doRenew x a = ({ x with fVer := x.fVer + 1 }, true) := by
        unfold doRenew
        rw [if_neg (by omega), if_neg (by omega), if_neg (by omega), if_pos hc]
      refine den_ite (t := false) (by rw [hc.2]; simp [hc.1]) (by simp) fun _ => ?_
      refine den_chk (by simp [avRenew, binInt]) (den_chk (by simp [avRenew, binInt]) (den_jmp0 (fin _ hd _ ?_)))
      simp [avRenew, binInt, w1]
    · have hd : doRenew x a = (x, false) := by
        unfold doRenew
        rw [if_neg (by omega), if_neg (by omega), if_neg (by omega), if_neg hc]
      refine den_ite (t := true) (by
        cases hs : x.fLeases.any (stale x.fVer (lowOf x)) with
        | true => simp
        | false =>
          have : ¬ x.fVer < 20 := fun h => hc ⟨h, hs⟩
          simp [this]) (fun _ => den_ret ?_) (by simp)
      rw [hd]
      simp [avRenew]
def stS (s : DRenew × List Bool) (q : Nat) : List AV := [avBools s.2, .int .i64 q, .int .i64 s.1.fNow, .int .i64 s.1.fMaster.fOff, .int .i64 s.1.fVer, .sl (s.1.fClocks.map avClock), .sl (s.1.fLeases.map avVLease)]
theorem R_sPlayRenew (x : DRenew) (l : List DRenewAct) (h1 : x.fClocks.length ≤ big) (h2 : x.fLeases.length ≤ big) (h3 : l.length ≤ big) : Rts Try.prog sgs 28 [avRenew x, avActs l] (avPlay (playRenew x l)) := by
  refine rts_of C_spec_PlayRenew (by kernel_rfl) ?_
  unfold Den T_spec_PlayRenew
  refine den_chk (by simp [avRenew]) (den_call (r := .bool (goodRenew x)) (fun _ => by simpa [avRenew] using R_sGoodRenew x h1 h2) (den_chk (by simp) (den_chk (by simp [avActs]) (den_chk (by simp) ?_))))
  by_cases hc : goodRenew x = true ∧ l.length ≤ 40
  · obtain ⟨hg, hl⟩ := hc
    have hp : playRenew x l = ((playOn x l).1, (playOn x l).2, true) := by simp [playRenew, hg, hl]
    refine den_ite (t := false) (by simp [avActs, binInt, hg]; omega) (by simp) fun _ => ?_
    refine den_call (r := avRenew x) (fun _ => by simpa [avRenew] using R_l28Own x h1 h2) (den_chk (by simp [avActs]) ?_)
    refine den_for lmono_false l.length (fun q => stS (runTo x l q) q) (by simp [stS, runTo, playOn, avRenew, avBools]) fun q hq W hW => ?_
    obtain ⟨g1, g2, g3, g4⟩ := runTo_good x l hg q hq
    generalize hs : runTo x l q = s at g1 g2 g3 g4 ⊢
    by_cases hlt : q < l.length
    · have hnx := runTo_succ x l hlt
      rw [hs] at hnx
      have hW := hW hlt
      rw [hnx] at hW
      refine den_chk (by simp [stS, avActs, binInt]) (den_ite (t := true) (by simp [stS, avActs, binInt, hlt]) (fun _ => ?_) (by simp))
      refine den_chk (fun _ => ⟨.i64, q, l.length, by simp [stS], by omega, by simp [avActs], by omega, by simp [avActs, hlt, avAct]⟩) (den_chk (by simp [stS, avActs, hlt, avAct]) (den_call (r := .bool (isAct s.1.fClocks.length l[q])) (fun _ => ?_) (den_join ?_)))
      · have := R_l28Good s.1 l[q] (by omega)
        simpa [stS, avActs, hlt, avAct, avRenew] using this
      cases hact : isAct s.1.fClocks.length l[q] with
      | true =>
        have hstep := R_l28Do s.1 l[q] g1 hact
        have hps : playStep s l[q] = ((doRenew s.1 l[q]).1, s.2 ++ [(doRenew s.1 l[q]).2]) := by simp [playStep, hact]
        rw [hps] at hW
        refine den_ite (t := true) (by simp [stS]) (fun _ => ?_) (by simp)
        refine den_call (r := .tup [avRenew (doRenew s.1 l[q]).1, .bool (doRenew s.1 l[q]).2]) (fun _ => by simpa [stS, avActs, hlt, avAct, avRenew] using hstep) (den_jmp0 ?_)
        refine den_chk (by simp [stS]) (den_chk (fun _ => ⟨s.2.length, 1, by simp [stS, avBools], by simp [stS], by omega, by omega⟩) (den_chk (by simp [stS]) (den_chk (by simp [stS, binInt]) (den_jmp0 ?_))))
        simpa [stS, binInt, avRenew, avBools, wrap64 (n := (q : Int) + 1) (by omega) (by omega)] using hW
      | false =>
        have hps : playStep s l[q] = (s.1, s.2 ++ [false]) := by simp [playStep, hact]
        rw [hps] at hW
        refine den_ite (t := false) (by simp [stS]) (by simp) fun _ => den_jmp0 ?_
        refine den_chk (by simp [stS]) (den_chk (fun _ => ⟨s.2.length, 1, by simp [stS, avBools], by simp [stS], by omega, by omega⟩) (den_chk (by simp [stS]) (den_chk (by simp [stS, binInt]) (den_jmp0 ?_))))
        simpa [stS, binInt, avBools, wrap64 (n := (q : Int) + 1) (by omega) (by omega)] using hW
    · have hqe : q = l.length := by omega
      refine den_chk (by simp [stS, avActs, binInt]) (den_ite (t := false) (by simp [stS, avActs, binInt]; omega) (by simp) fun _ => den_jmp1 (den_ret ?_))
      subst hqe
      have hs' : playOn x l = s := by rw [← hs, runTo, List.take_length]
      rw [hp, hs']
      simp [stS, avPlay, avRenew, avBools]
  · have hp : playRenew x l = (noRenew, [], false) := by simp [playRenew, hc]
    refine den_ite (t := true) (by
      cases hg : goodRenew x with
      | false => simp [avActs, binInt]
      | true =>
        have : ¬ l.length ≤ 40 := fun h => hc ⟨hg, h⟩
        simp [avActs, binInt]; omega) (fun _ => den_ret ?_) (by simp)
    rw [hp]
    simp [avPlay, avRenew, noRenew, avBools]
end Go.Proofs.Ytjneaalpiangdaa
end

/- Part D8. The law FnExactPlayRenew, over deep values. -/
section
namespace Go.Proofs.Ytjneaalpiangdaa
open Go.RowKit
theorem szOf_ge {n : Nat} {k : Int} (hk : 0 ≤ k) (h : ¬ szOf n k < 0) : (n : Int) ≤ k ∧ szOf n k = k - n := by
  unfold szOf at h ⊢
  split
  · rename_i h1; rw [if_pos h1] at h; omega
  · rename_i h1; exact ⟨by omega, rfl⟩
theorem szRenew_ge {x : DRenew} {k : Int} (hk : 0 ≤ k) (h : ¬ szRenewOf x k < 0) : (x.fClocks.length : Int) ≤ k ∧ (x.fLeases.length : Int) ≤ k ∧ 0 ≤ szRenewOf x k ∧ szRenewOf x k ≤ k := by
  unfold szRenewOf at h ⊢
  by_cases h1 : szOf x.fClocks.length k < 0
  · rw [if_pos h1] at h; omega
  · rw [if_neg h1] at h ⊢
    obtain ⟨e1, e2⟩ := szOf_ge hk h1
    by_cases h2 : szOf x.fLeases.length (szOf x.fClocks.length k) < 0
    · rw [if_pos h2] at h; omega
    · rw [if_neg h2]
      obtain ⟨e3, e4⟩ := szOf_ge (by omega) h2
      exact ⟨e1, by omega, by omega, by omega⟩
theorem R_lawPlay (x : DRenew) (l : List DRenewAct) (h1 : x.fClocks.length ≤ 9223372036854775807) (h2 : x.fLeases.length ≤ 9223372036854775807) (h3 : l.length ≤ 9223372036854775807) :
    Rts Try.prog sgs 6 [avRenew x, avActs l] (.bool true) := by
  refine rts_of C_laws_FnExactPlayRenew (by kernel_rfl) ?_
  unfold Den T_laws_FnExactPlayRenew
  refine den_chk (by simp [avRenew]) (den_call (r := .int .i64 (szRenewOf x 1048576)) (fun _ => by simpa [avRenew] using R_szRenew x 1048576 (by omega) (by omega) h1 h2) (den_chk (by simp [binInt]) ?_))
  by_cases z1 : szRenewOf x 1048576 < 0
  · exact den_ite (t := true) (by simp [binInt, z1]) (fun _ => den_ret (by simp)) (by simp)
  obtain ⟨b1, b2, b3, b4⟩ := szRenew_ge (by omega) z1
  refine den_ite (t := false) (by simp [binInt, z1]) (by simp) fun _ => ?_
  refine den_call (r := .int .i64 (szOf l.length (szRenewOf x 1048576))) (fun _ => by simpa using R_szRenewActS l (szRenewOf x 1048576) b3 (by omega) h3) (den_chk (by simp [binInt]) ?_)
  by_cases z2 : szOf l.length (szRenewOf x 1048576) < 0
  · exact den_ite (t := true) (by simp [binInt, z2]) (fun _ => den_ret (by simp)) (by simp)
  obtain ⟨b5, _⟩ := szOf_ge b3 z2
  refine den_ite (t := false) (by simp [binInt, z2]) (by simp) fun _ => ?_
  have hx1 : x.fClocks.length ≤ big := by simp only [big]; omega
  have hx2 : x.fLeases.length ≤ big := by simp only [big]; omega
  have hl : l.length ≤ big := by simp only [big]; omega
  obtain ⟨p1, p2, p3⟩ := playRenew_len x l
  have hy1 : (playRenew x l).1.fClocks.length ≤ big := by omega
  have hy2 : (playRenew x l).1.fLeases.length ≤ big := by omega
  have hyb : (playRenew x l).2.1.length ≤ big := by omega
  have c1 : ∀ ρ, ρ[0]? = some (avRenew x) → (EL.cons (.mk (.cons (.fld (.var 0) 0 1 false) (.cons (.fld (.var 0) 1 1 false) (.cons (.fld (.var 0) 2 1 false) (.cons (.fld (.var 0) 3 1 false) (.cons (.fld (.var 0) 4 1 false) .nil)))))) .nil).den ρ = [avRenew x] := fun ρ h => by simp [h, avRenew]
  generalize hy : playRenew x l = y at p1 p2 p3 hy1 hy2 hyb
  have hto := R_toRenew x hx1 hx2
  have htoA := R_toRenewActS l hl
  have hspec := R_sPlayRenew x l hx1 hx2 hl
  have himpl := R_PlayRenew x l hx1 hx2 hl
  rw [hy] at hspec himpl
  have heq := R_eqRenew y.1 hy1 hy2
  have heqb := R_eqBoolS y.2.1 hyb
  have heqx := R_eqRenew x hx1 hx2
  have heqa := R_eqRenewActS l hl
  refine den_call (r := avRenew x) (fun _ => by simpa [avRenew] using hto) ?_
  refine den_call (r := avActs l) (fun _ => by simpa using htoA) ?_
  refine den_call (r := avPlay y) (fun _ => by simpa [avRenew] using hspec) ?_
  refine den_call (r := avRenew x) (fun _ => by simpa [avRenew] using hto) ?_
  refine den_call (r := avActs l) (fun _ => by simpa using htoA) ?_
  refine den_call (r := avPlay y) (fun _ => by simpa [avRenew] using himpl) ?_
  refine den_call (r := .bool true) (fun _ => by simpa [avPlay, avRenew] using heq) (den_chk (by simp) ?_)
  refine den_call (r := .bool true) (fun _ => by simpa [avPlay] using heqb) (den_chk (by simp) (den_chk (by simp) (den_chk (by simp [avPlay]) (den_chk (by simp) ?_))))
  refine den_ite (t := false) (by simp [avPlay]) (by simp) fun _ => ?_
  refine den_call (r := avRenew x) (fun _ => by simpa [avRenew] using hto) ?_
  refine den_call (r := .bool true) (fun _ => by simpa [avRenew] using heqx) (den_chk (by simp) (den_ite (t := false) (by simp) (by simp) fun _ => ?_))
  refine den_call (r := avActs l) (fun _ => by simpa using htoA) ?_
  refine den_call (r := .bool true) (fun _ => by simpa using heqa) (den_chk (by simp) (den_ite (t := false) (by simp) (by simp) fun _ => ?_))
  refine den_call (r := .tup [.int .i64 (1 + 1 * x.fClocks.length + 2 * x.fLeases.length), markedRenew x 1]) (fun _ => by simpa [avRenew] using R_markRenew x 1 hx1 hx2 (by omega) (by omega)) ?_
  have hxb1 := hx1
  have hxb2 := hx2
  have hlb := hl
  simp only [big] at hxb1 hxb2 hlb hy1 hy2 hyb
  refine den_call (r := .tup [.int .i64 (1 + 1 * x.fClocks.length + 2 * x.fLeases.length + 3 * l.length), .sl (markL mk3 3 (1 + 1 * x.fClocks.length + 2 * x.fLeases.length) l.length)]) (fun _ => by simpa using R_markRenewActS l (1 + 1 * x.fClocks.length + 2 * x.fLeases.length) hl (by omega) (by omega)) ?_
  refine den_chk (by simp [binInt]) ?_
  refine den_call (r := .bool true) (fun _ => by simpa [avPlay, avRenew] using heq) (den_chk (by simp) (den_chk (by simp [binInt]) ?_))
  refine den_call (r := .bool true) (fun _ => by simpa [avPlay] using heqb) (den_chk (by simp) (den_chk (by simp [binInt]) (den_chk (by simp [avPlay]) (den_chk (by simp [binInt]) ?_))))
  refine den_ite (t := false) (by simp [avPlay, binInt]; omega) (by simp) fun _ => ?_
  refine den_call (r := .tup [.int .i64 (1 + 1 * y.1.fClocks.length + 2 * y.1.fLeases.length), markedRenew y.1 1]) (fun _ => by simpa [avPlay, avRenew] using R_markRenew y.1 1 (by simpa [big] using hy1) (by simpa [big] using hy2) (by omega) (by omega)) ?_
  refine den_call (r := .tup [.int .i64 (1 + 1 * y.1.fClocks.length + 2 * y.1.fLeases.length + 1 * y.2.1.length), .sl (markL mkB 1 (1 + 1 * y.1.fClocks.length + 2 * y.1.fLeases.length) y.2.1.length)]) (fun _ => by simpa [avPlay] using R_markBoolS y.2.1 (1 + 1 * y.1.fClocks.length + 2 * y.1.fLeases.length) (by simpa [big] using hyb) (by omega) (by omega)) ?_
  have hheld := R_heldRenew y.1 1 (by simpa [big] using hy1) (by simpa [big] using hy2) (by omega) (by omega)
  have hheldb := R_heldBoolS y.2.1.length (1 + 1 * y.1.fClocks.length + 2 * y.1.fLeases.length) (by simpa [big] using hyb) (by omega) (by omega)
  refine den_call (r := .int .i64 (1 + 1 * y.1.fClocks.length + 2 * y.1.fLeases.length)) (fun _ => by simpa [avPlay, avRenew, markedRenew] using hheld) (den_chk (by simp [binInt]) (den_ite (t := false) (by simp [binInt]; omega) (by simp) fun _ => ?_))
  refine den_call (r := .int .i64 (1 + 1 * y.1.fClocks.length + 2 * y.1.fLeases.length + 1 * y.2.1.length)) (fun _ => by simpa using hheldb) (den_chk (by simp [binInt]) (den_ite (t := false) (by simp [binInt]; omega) (by simp) fun _ => ?_))
  refine den_chk (by simp [binInt]) (den_ite (t := false) (by simp [binInt]) (by simp) fun _ => ?_)
  refine den_call (r := avRenew x) (fun _ => by simpa [avRenew] using hto) ?_
  refine den_call (r := avActs l) (fun _ => by simpa using htoA) ?_
  refine den_call (r := avPlay y) (fun _ => by simpa [avRenew] using himpl) ?_
  refine den_call (r := .bool true) (fun _ => by simpa [avPlay, avRenew] using heq) (den_chk (by simp) ?_)
  refine den_call (r := .bool true) (fun _ => by simpa [avPlay] using heqb) (den_chk (by simp) (den_chk (by simp) (den_chk (by simp [avPlay]) (den_chk (by simp) ?_))))
  refine den_ite (t := false) (by simp [avPlay]) (by simp) fun _ => ?_
  refine den_call (r := .int .i64 (1 + 1 * y.1.fClocks.length + 2 * y.1.fLeases.length)) (fun _ => by simpa [avPlay, avRenew, markedRenew] using hheld) (den_chk (by simp [binInt]) (den_ite (t := false) (by simp [binInt]; omega) (by simp) fun _ => ?_))
  refine den_call (r := .int .i64 (1 + 1 * y.1.fClocks.length + 2 * y.1.fLeases.length + 1 * y.2.1.length)) (fun _ => by simpa using hheldb) (den_chk (by simp [binInt]) (den_ite (t := false) (by simp [binInt]; omega) (by simp) fun _ => ?_))
  exact den_chk (by simp [binInt]) (den_ite (t := false) (by simp [binInt]) (by simp) fun _ => den_ret (by simp))
end Go.Proofs.Ytjneaalpiangdaa
end

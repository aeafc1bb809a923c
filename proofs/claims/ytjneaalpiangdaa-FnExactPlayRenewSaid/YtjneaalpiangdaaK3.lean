/- Parts of a proof, joined: VN, VO, VP, VQ, VR, Lib2, VS, VT, VU, VV, VW, VX. -/
import Derived.Test.YtjneaalpiangdaaK2
/- Part VN. Each operation does what its effect says: fields, indexes, lengths, choices. Program independent. -/
section
namespace Go.Proofs.Ytjneaalpiangdaa
open Go.RowKit
section
variable {P : Program} {c : Cx} {n nx : Nat} {sl sl0 : Nat → SV} {hp hp0 : Nat → Option Ent} {a : Act} {o : Oper} {gs : Gd} {e : Eff} {sg : Nat → Option Sig} {nv : Nat}
theorem run_part {t : TypeId} (h : tyOK P t = true) (cs : List Value) (off : Nat) (hle : off + P.cellsOf t ≤ cs.length) (hg : aggT P t = true ∨ P.cellsOf t = 1) (w : World) :
    (part t cs.toArray off).run P w = .ok (if aggT P t then .agg ((cs.drop off).take (P.cellsOf t)).toArray else ((cs.drop off).take (P.cellsOf t)).headD Go.undef) w := by
  cases ha : aggT P t with
  | true =>
    simp only [part, Sem.run_bind, run_isAgg h, ha, run_sizeOf' h, Result.andThen_ok, if_true, Sem.run_pure]
    congr 2
    apply Array.ext'
    rw [Array.toList_extract]
    simp [Nat.add_sub_cancel_left, List.extract_eq_take_drop]
  | false =>
    have h1 : P.cellsOf t = 1 := by rcases hg with h' | h'; rw [ha] at h'; cases h'; exact h'
    have hlt : off < cs.length := by omega
    have e1 : (cs.drop off).take (P.cellsOf t) = [cs[off]] := by rw [h1, List.drop_eq_getElem_cons hlt, List.take_succ_cons, List.take_zero]
    rw [e1]
    simp [part, run_isAgg h, ha, hlt]
theorem does_field (h : Pre P c n nx sl hp a sl0 hp0 o gs) {t : TypeId} {x : Operand} {f : Nat} (ho : o.op = .field t x f) (he : opEff P sg sl0 hp0 nv nx gs o = some e) (hc : ∀ q ∈ e.chk, Cn.den c.ρ q) : Does P o c n nx sl hp gs a e := by
  have hm : x ∈ o.op.operands := by simp [ho, Op.operands]
  simp only [opEff, ho, Option.bind_eq_some_iff] at he
  obtain ⟨s, hs, he⟩ := he
  have hr := h.opd hs hm
  split at he
  · rename_i fs hu
    split at he
    · rename_i fd hf
      split at he
      · cases he
      · rename_i hty
        have hty : tyOK P fd.type = true := by simpa using hty
        have ex : ∀ as : List Value, a.eval x = .agg as.toArray → (execOp a.eval o).run P c.w = ((part fd.type as.toArray fd.offset).run P c.w).andThen fun v w => .ok (.value v) w := fun as hv => by
          simp [execOp, ho, Instr.field, run_underlying hu, hf, hv, asAgg]
        split at he
        · rename_i cs
          obtain ⟨s2, hs2, rfl⟩ := Option.map_eq_some_iff.1 he
          generalize hv : a.eval x = v at hr
          cases hr with
          | agg r8 r1 r9 =>
            rename_i as
            have hlen := r1.len
            unfold loadC at hs2
            split at hs2
            · rename_i hag
              split at hs2
              · rename_i hle
                simp at hs2; subst hs2
                obtain ⟨q1, q2⟩ := r1.split fd.offset
                obtain ⟨q3, q4⟩ := q2.split (P.cellsOf fd.type)
                have := SR.agg (cs := SVL.of ((cs.toList.drop fd.offset).take (P.cellsOf fd.type))) (fun u hu => r8 u (List.mem_of_mem_drop (List.mem_of_mem_take hu))) (by rw [SVL.toList_of]; exact q3) .nil
                refine Does.pure h (v := .agg ((as.drop fd.offset).take (P.cellsOf fd.type)).toArray) ?_ this rfl
                rw [ex as hv, run_part hty as fd.offset (by omega) (.inl hag)]
                simp [hag]
              · cases hs2
            · rename_i hag
              have hag : aggT P fd.type = false := by simpa using hag
              obtain ⟨u, hu', r⟩ := r1.get hs2
              refine Does.pure h (v := u) ?_ r rfl
              rw [ex as hv]
              simp [part, run_isAgg hty, hag, hu']
        · rename_i y
          split at he
          · rename_i hh
            obtain ⟨hle, hag⟩ := hh
            simp at he; subst he
            generalize hv : a.eval x = v at hr
            cases hr with
            | e h1 h2 _ =>
              rename_i f1
              obtain ⟨cs, hcs, hcl⟩ := hc1 hc
              obtain ⟨as, rfl, hr2', hr2⟩ := agg_of h1 hcs
              have hlen := hr2.len
              have hcel : (y.den c.ρ).cells = cs := by rw [hcs]; rfl
              rw [← hcel] at hr2
              obtain ⟨q, g1, g2⟩ := hr2.fldOf hr2' fd.offset (P.cellsOf fd.type) (aggT P fd.type) (by rw [hcel]; omega) (fun hh => by rcases hag with h' | h'; rw [hh] at h'; cases h'; exact h')
              refine Does.pure h ?_ (.e (f := q) (by simpa [E.den] using g2) (fun z hz => h2 z (g1 z hz)) .nil) rfl
              rw [ex as hv, run_part hty as fd.offset (by omega) hag]
              simp
          · cases he
        · cases he
    · cases he
  · cases he
theorem slice_of {v : Value} {x : AV} {m : Int} {w : World} {f : List Nat} (h : Rd w [v] [x] f) (hx : x.len = .int .i64 m) : (∃ a c, v = .slice a 0 c ∧ m = 0) ∨ ∃ b o k c, v = .slice (some ⟨b, o, none⟩) k c ∧ m = k := by
  rcases h.kind with h | h | h | h | h | h | h | h | h | h
  · obtain ⟨_, _, _, rfl, _⟩ := h; simp [AV.len] at hx
  · obtain ⟨_, _, rfl, _⟩ := h; simp [AV.len] at hx
  · obtain ⟨_, _, rfl, _⟩ := h; simp [AV.len] at hx
  · obtain ⟨q, r, rfl, rfl, _⟩ := h; simp [AV.len] at hx; exact .inl ⟨q, r, rfl, by omega⟩
  · obtain ⟨b, o, k, r, ys, _, _, _, _, _, _, rfl, rfl, _, _, _, _, hl, _⟩ := h; simp [AV.len] at hx; exact .inr ⟨b, o, k, r, rfl, by omega⟩
  · obtain ⟨_, _, _, rfl, _⟩ := h; simp [AV.len] at hx
  · obtain ⟨_, _, _, rfl, _⟩ := h; simp [AV.len] at hx
  · obtain ⟨_, _, _, _, _, _, _, rfl, _⟩ := h; simp [AV.len] at hx
  · obtain ⟨_, _, _, _, rfl, _⟩ := h; simp [AV.len] at hx
  · obtain ⟨_, rfl, _⟩ := h; simp [AV.len] at hx
theorem run_indexAt {t el : TypeId} (hu : P.underlying t = some (.slice el)) (hz : P.cellsOf el ≠ 0) {b off len cap : Nat} {kk : IntKind} {k : Int} (h0 : 0 ≤ k) (h1 : k < len) (w : World) :
    (Instr.indexAt t (.slice (some ⟨b, off, none⟩) len cap) (.int kk k)).run P w = .ok (.pointer (some ⟨b, off + k.toNat * P.cellsOf el, none⟩)) w := by
  simp [Instr.indexAt, run_underlying hu, asIntOf, h0, h1, run_sizeOf hz, Addr.add_lit]
theorem does_index (h : Pre P c n nx sl hp a sl0 hp0 o gs) {t : TypeId} {x i : Operand} (ho : o.op = .indexAddr t x i ∨ o.op = .index t x i) {s1 s2 : SV} (hs1 : operandSV sl0 gs x = some s1) (hs2 : operandSV sl0 gs i = some s2)
    (hop : (∃ el, P.underlying t = some (.slice el)) → o.op = .indexAddr t x i) (hop2 : P.underlying t = some .string → o.op = .index t x i)
    (he : indexEff P hp0 gs t s1 s2 = some e) (hc : ∀ q ∈ e.chk, Cn.den c.ρ q) : Does P o c n nx sl hp gs a e := by
  have hm1 : x ∈ o.op.operands := by rcases ho with ho | ho <;> simp [ho, Op.operands]
  have hm2 : i ∈ o.op.operands := by rcases ho with ho | ho <;> simp [ho, Op.operands]
  have r1 := h.opd hs1 hm1
  have r2 := h.opd hs2 hm2
  unfold indexEff at he
  split at he
  · rename_i el k hu
    have ho' := hop ⟨el, hu⟩
    have ex : (execOp a.eval o).run P c.w = ((Instr.indexAt t (a.eval x) (a.eval i)).run P c.w).andThen fun v w => .ok (.value v) w := by simp [execOp, ho']
    split at he
    · cases he
    rename_i hz
    obtain ⟨fk, hk1, _⟩ : ∃ f, Rd c.w [a.eval i] [k.den c.ρ] f ∧ ∀ b ∈ f, c.ok b := by
      generalize a.eval i = v at r2
      cases r2 with
      | e h1 h2 _ => exact ⟨_, h1, h2⟩
    split at he
    · rename_i b g
      split at he
      · rename_i e0 sz g' c0 d hl
        split at he
        · rename_i hh
          obtain ⟨rfl, rfl⟩ := hh
          simp at he; subst he
          obtain ⟨kk, kv, m, e1, e2, e3, e4, e5⟩ := hc1 hc
          obtain ⟨hiv, _⟩ := int_of hk1 e1
          generalize hv : a.eval x = v at r1 ex
          cases r1 with
          | own hK hKv _ =>
            obtain ⟨_, _, N, q1, q2, _, _⟩ := h.eh b _ (look_res hl h.gs)
            obtain ⟨xs, hxs, hcl, h0, hcase⟩ := q1
            rw [hxs] at e3
            simp only [AV.len, AV.int.injEq, true_and] at e3
            rcases hcase with ⟨rfl, _⟩ | ⟨g9, cap, C, hH, _⟩
            · simp at e3; omega
            · refine Does.pure h (v := .pointer (some ⟨g9, kv.toNat * P.cellsOf el + 0, none⟩)) ?_ (.rptr hK hH e1 e2 (by omega) .nil) rfl
              rw [hKv] at hH; cases hH
              rw [ex, hiv, run_indexAt hu hz e2 (by omega)]
              simp
        · cases he
      · rename_i g' c0 hl
        split at he
        · rename_i hh
          subst hh
          simp at he; subst he
          obtain ⟨kk, kv, m, e1, e2, e3, e4, e5⟩ := hc1 hc
          obtain ⟨hiv, _⟩ := int_of hk1 e1
          generalize hv : a.eval x = v at r1 ex
          cases r1 with
          | own hK hKv _ =>
            obtain ⟨_, ⟨f, q1, q2⟩, _, _⟩ := h.eh b _ (look_res hl h.gs)
            rcases slice_of q1 e3 with ⟨_, _, _, hm⟩ | ⟨b9, off9, len9, cap9, hH, hm⟩
            · omega
            · rw [hKv] at hH; cases hH
              rw [hKv] at q1
              refine Does.pure h (v := .pointer (some ⟨b9, off9 + kv.toNat * P.cellsOf el + 0, none⟩)) ?_ (.eptr q1 q2 e1 e2 (by omega) e5 .nil) rfl
              rw [ex, hiv, run_indexAt hu hz e2 (by omega)]
              simp
        · cases he
      · cases he
    · rename_i y
      simp at he; subst he
      obtain ⟨kk, kv, m, e1, e2, e3, e4, e5⟩ := hc1 hc
      obtain ⟨hiv, _⟩ := int_of hk1 e1
      generalize hv : a.eval x = v at r1 ex
      cases r1 with
      | e q1 q2 _ =>
        rcases slice_of q1 e3 with ⟨_, _, _, hm⟩ | ⟨b9, off9, len9, cap9, rfl, hm⟩
        · omega
        · refine Does.pure h (v := .pointer (some ⟨b9, off9 + kv.toNat * P.cellsOf el + 0, none⟩)) ?_ (.eptr q1 q2 e1 e2 (by omega) e5 .nil) rfl
          rw [ex, hiv, run_indexAt hu hz e2 (by omega)]
          simp
    · cases he
  · rename_i k hu
    have ho' := hop2 hu
    obtain ⟨fk, hk1, _⟩ : ∃ f, Rd c.w [a.eval i] [k.den c.ρ] f ∧ ∀ b ∈ f, c.ok b := by
      generalize a.eval i = v at r2
      cases r2 with
      | e h1 h2 _ => exact ⟨_, h1, h2⟩
    split at he
    · rename_i y
      simp at he; subst he
      obtain ⟨kk, kv, s, e1, e2, e3, e4⟩ := hc1 hc
      obtain ⟨hiv, _⟩ := int_of hk1 e1
      generalize hv : a.eval x = v at r1
      cases r1 with
      | e q1 q2 _ =>
        obtain ⟨bs, rfl, rfl, hle⟩ := str_of q1 e2
        have hlt : kv.toNat < bs.data.toList.length := by omega
        have hlt' : kv.toNat < bs.size := by simpa using hlt
        refine Does.pure h (v := .int .u8 (bs[kv.toNat]).toNat) ?_ (.ofRd0 ?_) rfl
        · simp [execOp, ho', Instr.index, hv, hiv, asIntOf, run_underlying hu, e3, hlt']
        · simp only [E.den, e1, e2, AV.sidx]
          have : bs.data.toList[kv.toNat]? = some (bs[kv.toNat]) := by
            rw [List.getElem?_eq_getElem hlt]; simp [ByteArray.getElem_eq_getElem_data]
          rw [this]
          refine .int ?_ .nil
          rw [InK_iff]
          have := (bs[kv.toNat]).toNat_lt
          simp [IntKind.min, IntKind.max, IntKind.signed, IntKind.bits]; omega
    · cases he
  · cases he

theorem does_indexAddr (h : Pre P c n nx sl hp a sl0 hp0 o gs) {t : TypeId} {x i : Operand} (ho : o.op = .indexAddr t x i) (hns : P.underlying t ≠ some .string) (he : opEff P sg sl0 hp0 nv nx gs o = some e) (hc : ∀ q ∈ e.chk, Cn.den c.ρ q) : Does P o c n nx sl hp gs a e := by
  simp only [opEff, ho, Option.bind_eq_some_iff] at he
  obtain ⟨s1, hs1, s2, hs2, he⟩ := he
  split at he
  · cases he
  exact does_index h (.inl ho) hs1 hs2 (fun _ => ho) (fun hh => absurd hh hns) he hc
theorem does_indexOp (h : Pre P c n nx sl hp a sl0 hp0 o gs) {t : TypeId} {x i : Operand} (ho : o.op = .index t x i) (hns : P.underlying t = some .string) (he : opEff P sg sl0 hp0 nv nx gs o = some e) (hc : ∀ q ∈ e.chk, Cn.den c.ρ q) : Does P o c n nx sl hp gs a e := by
  simp only [opEff, ho, Option.bind_eq_some_iff] at he
  obtain ⟨s1, hs1, s2, hs2, he⟩ := he
  split at he
  · exact does_index h (.inr ho) hs1 hs2 (fun ⟨el, hh⟩ => by rw [hns] at hh; cases hh) (fun _ => ho) he hc
  · cases he
theorem does_extract (h : Pre P c n nx sl hp a sl0 hp0 o gs) {x : Operand} {i : Nat} (ho : o.op = .extract x i) (he : opEff P sg sl0 hp0 nv nx gs o = some e) (hc : ∀ q ∈ e.chk, Cn.den c.ρ q) : Does P o c n nx sl hp gs a e := by
  have hm : x ∈ o.op.operands := by simp [ho, Op.operands]
  simp only [opEff, ho, Option.bind_eq_some_iff] at he
  obtain ⟨s, hs, he⟩ := he
  have hr := h.opd hs hm
  generalize hv : a.eval x = v at hr
  have ex : ∀ (as : List Value) u, v = .tuple as.toArray → as[i]? = some u → (execOp a.eval o).run P c.w = .ok (.value u) c.w := fun as u hv' hu => by
    simp [execOp, ho, Instr.extract, hv, hv', hu]
  split at he
  · rename_i vs
    obtain ⟨s2, hs2, rfl⟩ := Option.map_eq_some_iff.1 he
    cases hr with
    | tup r1 r9 =>
      obtain ⟨u, hu, r⟩ := r1.get hs2
      exact Does.pure h (ex _ u rfl hu) r rfl
  · rename_i y
    simp at he; subst he
    cases hr with
    | e q1 q2 _ =>
      have hd : (y.den c.ρ).proj i ≠ .undef := hc1 hc
      cases hy : y.den c.ρ <;> simp only [hy, AV.proj, ne_eq, not_true_eq_false] at hd
      rename_i cs
      obtain ⟨as, rfl, r1⟩ := tup_of q1 hy
      cases hci : cs[i]? with
      | none => simp [hci] at hd
      | some z =>
        obtain ⟨u, g, hu, hg, hrd⟩ := r1.at hci
        exact Does.pure h (ex as u rfl hu) (.e (f := g) (by simpa [E.den, hy, AV.proj, hci] using hrd) (fun b hb => q2 b (hg b hb)) .nil) rfl
  · cases he
theorem does_not (h : Pre P c n nx sl hp a sl0 hp0 o gs) {x : Operand} {t : TypeId} (ho : o.op = .unOp .not t x) (he : opEff P sg sl0 hp0 nv nx gs o = some e) (hc : ∀ q ∈ e.chk, Cn.den c.ρ q) : Does P o c n nx sl hp gs a e := by
  have hm : x ∈ o.op.operands := by simp [ho, Op.operands]
  simp only [opEff, ho, Option.bind_eq_some_iff, Option.map_eq_some_iff] at he
  obtain ⟨s, hs, y, hy, he⟩ := he
  obtain ⟨f, q1, _⟩ := scalar_rd (h.opd hs hm) hy
  split at he
  · subst he
    have hv := bool_of q1 rfl
    rename_i b
    exact Does.pure h (v := .bool (!b)) (by simp [execOp, ho, hv, Op.unary]) (.ofRd0 (.bool .nil)) rfl
  · subst he
    have hd : (y.den c.ρ).notB ≠ .undef := hc1 hc
    cases hy' : y.den c.ρ <;> simp only [hy', AV.notB, ne_eq, not_true_eq_false] at hd
    have hv := bool_of q1 hy'
    rename_i b
    exact Does.pure h (v := .bool (!b)) (by simp [execOp, ho, hv, Op.unary]) (.ofRd0 (by simp only [E.den, hy', AV.notB]; exact .bool .nil)) rfl
theorem does_neg (h : Pre P c n nx sl hp a sl0 hp0 o gs) {x : Operand} {t : TypeId} (ho : o.op = .unOp .neg t x) (he : opEff P sg sl0 hp0 nv nx gs o = some e) (hc : ∀ q ∈ e.chk, Cn.den c.ρ q) : Does P o c n nx sl hp gs a e := by
  have hm : x ∈ o.op.operands := by simp [ho, Op.operands]
  simp only [opEff, ho, Option.bind_eq_some_iff, Option.map_eq_some_iff] at he
  obtain ⟨s, hs, y, hy, rfl⟩ := he
  obtain ⟨f, q1, _⟩ := scalar_rd (h.opd hs hm) hy
  have hd : (y.den c.ρ).negI ≠ .undef := hc1 hc
  cases hy' : y.den c.ρ <;> simp only [hy', AV.negI, ne_eq, not_true_eq_false] at hd
  rename_i k m
  obtain ⟨hv, _⟩ := int_of q1 hy'
  exact Does.pure h (v := .int k (k.wrap (0 - m))) (by simp [execOp, ho, hv, Op.unary, Op.intArith]) (.ofRd0 (by simp only [E.den, hy', AV.negI]; exact .int (InK_wrap _ _) .nil)) rfl
theorem mapM_SR {L : List Operand} {sl0 : Nat → SV} {gs : Gd} (h : ∀ x s, operandSV sl0 gs x = some s → x ∈ L → SR c [s] [a.eval x]) : ∀ {xs : List Operand} {ss : List SV}, (∀ x ∈ xs, x ∈ L) → xs.mapM (operandSV sl0 gs) = some ss → SR c ss (xs.map a.eval)
  | [], ss, _, hm => by simp at hm; subst hm; exact .nil
  | x :: xs, ss, hL, hm => by
    rw [List.mapM_cons] at hm
    simp only [Option.bind_eq_bind, Option.bind_eq_some_iff] at hm
    obtain ⟨s, hs, ss', hss, hm⟩ := hm
    simp at hm; subst hm
    exact (h x s hs (hL x (by simp))).app (mapM_SR h (fun y hy => hL y (by simp [hy])) hss)
theorem does_makeFunc (h : Pre P c n nx sl hp a sl0 hp0 o gs) {f : FuncId} {fst caps : Array Operand} (ho : o.op = .makeFunc (.func f) fst caps) (he : opEff P sg sl0 hp0 nv nx gs o = some e) : Does P o c n nx sl hp gs a e := by
  simp only [opEff, ho] at he
  split at he
  · rename_i hf
    obtain ⟨ss, hss, rfl⟩ := Option.map_eq_some_iff.1 he
    have hf : fst = #[] := by simpa using hf
    have r := mapM_SR (a := a) (c := c) (L := caps.toList) (fun x s hx hm => h.opd hx (by simp only [ho, Op.operands, Array.mem_append]; exact .inr (Array.mem_toList_iff.1 hm))) (fun x hx => hx) hss
    refine Does.pure h (v := .func (.func f) #[] (caps.toList.map a.eval).toArray) ?_ (.fn (by rw [SVL.toList_of]; exact r) .nil) rfl
    simp [execOp, ho, Instr.makeFunc, hf]
    apply Array.ext'; simp
  · cases he
end
end Go.Proofs.Ytjneaalpiangdaa
end

/- Part VO. Each operation does what its effect says: lengths, conversions, choices; new boxes. Program independent. -/
section
namespace Go.Proofs.Ytjneaalpiangdaa
open Go.RowKit
section
variable {P : Program} {c : Cx} {n nx : Nat} {sl sl0 : Nat → SV} {hp hp0 : Nat → Option Ent} {a : Act} {o : Oper} {gs : Gd} {e : Eff} {sg : Nat → Option Sig} {nv : Nat}
theorem Pre.toE (h : Pre P c n nx sl hp a sl0 hp0 o gs) {x : Operand} {s : SV} (hs : operandSV sl0 gs x = some s) (hm : x ∈ o.op.operands) {y : E} (hy : toEN hp0 gs deepFuel s = some y) :
    ∃ f, Rd c.w [a.eval x] [y.den c.ρ] f ∧ ∀ b ∈ f, c.see (tagsN hp0 gs (deepFuel + 1) [s]) b := toEN_rd h.eh h.gs deepFuel hy (h.opd hs hm) deepFuel (Nat.le_refl _)
theorem does_len (h : Pre P c n nx sl hp a sl0 hp0 o gs) {x : Operand} {t : TypeId} {cl : Call} (ho : o.op = .call cl) (hcl : cl.callee = .builtin .len) (ha1 : cl.args.toList = [x]) (ha2 : cl.argTypes.toList = [t]) (he : opEff P sg sl0 hp0 nv nx gs o = some e) (hc : ∀ q ∈ e.chk, Cn.den c.ρ q) : Does P o c n nx sl hp gs a e := by
  have hargs : cl.args = #[x] := by apply Array.ext'; simp [ha1]
  have htys : cl.argTypes = #[t] := by apply Array.ext'; simp [ha2]
  have hm : x ∈ o.op.operands := by simp [ho, Op.operands, Call.operands, hcl, hargs]
  simp only [opEff, ho, hcl, ha1, ha2, Option.bind_eq_some_iff] at he
  obtain ⟨s, hs, he⟩ := he
  unfold lenEff at he
  have ex : (execOp a.eval o).run P c.w = ((Builtin.len_ #[t] o.type #[a.eval x]).run P c.w).andThen fun v w => .ok (.value v) w := by
    simp [execOp, ho, resolve, hcl, hargs, htys, invoke, builtin]
  split at he
  · rename_i el hu
    obtain ⟨y, hy, rfl⟩ := Option.map_eq_some_iff.1 he
    obtain ⟨f, q1, q2⟩ := h.toE hs hm hy
    have hd : (y.den c.ρ).len ≠ .undef := hc1 hc
    cases hy' : y.den c.ρ <;> simp only [hy', AV.len, ne_eq, not_true_eq_false] at hd
    rename_i xs
    have hl : (y.den c.ρ).len = .int .i64 (xs.length : Int) := by rw [hy']; rfl
    have hin : InK .i64 (xs.length : Int) := by
      rw [InK_iff]
      rcases q1.kind with hh | hh | hh | hh | hh | hh | hh | hh | hh | hh
      all_goals first
        | (obtain ⟨_, _, _, hh, _⟩ := hh; rw [hy'] at hh; cases hh; done)
        | (obtain ⟨_, _, hh, _⟩ := hh; rw [hy'] at hh; cases hh; done)
        | skip
      · obtain ⟨_, _, _, hh, _⟩ := hh; rw [hy'] at hh; cases hh; simp [IntKind.min, IntKind.max, IntKind.signed, IntKind.bits]
      · obtain ⟨_, _, _, _, _, _, _, _, _, _, _, _, hh, _, _, _, hle, hlen, _⟩ := hh; rw [hy'] at hh; cases hh; simp [IntKind.min, IntKind.max, IntKind.signed, IntKind.bits]; omega
      all_goals first
        | (obtain ⟨_, _, _, hh, _⟩ := hh; rw [hy'] at hh; cases hh; done)
        | (obtain ⟨_, _, _, _, _, _, _, hh, _⟩ := hh; rw [hy'] at hh; cases hh; done)
        | (obtain ⟨_, _, _, _, hh, _⟩ := hh; rw [hy'] at hh; cases hh; done)
        | (obtain ⟨_, hh, _⟩ := hh; rw [hy'] at hh; cases hh; done)
    refine Does.pure h (v := .int .i64 xs.length) ?_ (.ofRd0 (by simp only [E.den, hy', AV.len]; exact .int hin .nil)) rfl
    rcases slice_of q1 hl with ⟨p, q, hv, hm0⟩ | ⟨b, o', k, q, hv, hm0⟩
    · rw [ex, hv, hm0]; simp [Builtin.len_, run_underlying hu, goInt]
    · rw [ex, hv, hm0]; simp [Builtin.len_, run_underlying hu, goInt]
  · rename_i hu
    obtain ⟨y, hy, rfl⟩ := Option.map_eq_some_iff.1 he
    obtain ⟨f, q1, q2⟩ := h.toE hs hm hy
    have hd : (y.den c.ρ).slen ≠ .undef := hc1 hc
    cases hy' : y.den c.ρ <;> simp only [hy', AV.slen, ne_eq, not_true_eq_false] at hd
    obtain ⟨bs, hv, rfl, hle⟩ := str_of q1 hy'
    refine Does.pure h (v := .int .i64 bs.size) ?_ (.ofRd0 ?_) rfl
    · rw [ex, hv]; simp [Builtin.len_, run_underlying hu, goInt]
    · simp only [E.den, hy', AV.slen]
      have : (bs.data.toList.length : Int) = (bs.size : Int) := by simp
      rw [this]
      refine .int ?_ .nil
      rw [InK_iff]; simp [IntKind.min, IntKind.max, IntKind.signed, IntKind.bits]; omega
  · cases he
theorem does_convInt (h : Pre P c n nx sl hp a sl0 hp0 o gs) {x : Operand} {src dst : TypeId} {k0 k : IntKind} (ho : o.op = .convert src dst x) (h1 : P.underlying src = some (.int k0)) (h2 : P.underlying dst = some (.int k)) (he : opEff P sg sl0 hp0 nv nx gs o = some e) (hc : ∀ q ∈ e.chk, Cn.den c.ρ q) : Does P o c n nx sl hp gs a e := by
  have hm : x ∈ o.op.operands := by simp [ho, Op.operands]
  simp only [opEff, ho, Option.bind_eq_some_iff] at he
  obtain ⟨s, hs, he⟩ := he
  simp only [convEff, h1, h2, Option.map_eq_some_iff] at he
  obtain ⟨y, hy, rfl⟩ := he
  obtain ⟨f, q1, _⟩ := scalar_rd (h.opd hs hm) hy
  have hd : (y.den c.ρ).conv k ≠ .undef := hc1 hc
  cases hy' : y.den c.ρ <;> simp only [hy', AV.conv, ne_eq, not_true_eq_false] at hd
  rename_i k1 m
  obtain ⟨hv, _⟩ := int_of q1 hy'
  exact Does.pure h (v := .int k (k.wrap m)) (by simp [execOp, ho, hv, convert, run_underlying h1, run_underlying h2, Conv.intToInt]) (.ofRd0 (by simp only [E.den, hy', AV.conv]; exact .int (InK_wrap _ _) .nil)) rfl
theorem does_convStr (h : Pre P c n nx sl hp a sl0 hp0 o gs) {x : Operand} {src dst : TypeId} (ho : o.op = .convert src dst x) (h1 : P.underlying src = some .string) (h2 : P.underlying dst = some .string) (he : opEff P sg sl0 hp0 nv nx gs o = some e) (hc : ∀ q ∈ e.chk, Cn.den c.ρ q) : Does P o c n nx sl hp gs a e := by
  have hm : x ∈ o.op.operands := by simp [ho, Op.operands]
  simp only [opEff, ho, Option.bind_eq_some_iff] at he
  obtain ⟨s, hs, he⟩ := he
  simp only [convEff, h1, h2, Option.map_eq_some_iff] at he
  obtain ⟨y, hy, rfl⟩ := he
  obtain ⟨f, q1, _⟩ := scalar_rd (h.opd hs hm) hy
  have hd : (y.den c.ρ).slen ≠ .undef := hc1 hc
  cases hl : y.den c.ρ <;> simp only [hl, AV.slen, ne_eq, not_true_eq_false] at hd
  obtain ⟨bs, hv, hle, hle2⟩ := str_of q1 hl
  exact Does.pure h (v := .string bs) (by simp [execOp, ho, hv, convert, run_underlying h1, run_underlying h2]) (.ofRd0 (by rw [hl, hle]; exact Rd.str hle2 .nil)) rfl

theorem gdOK_cons {ρ : List AV} {x : E} {b : Bool} {gs : Gd} (h1 : x.den ρ = .bool b) (h2 : gdOK ρ gs) : gdOK ρ ((x, b) :: gs) := by
  intro g hg
  rcases List.mem_cons.1 hg with rfl | hg
  · exact h1
  · exact h2 g hg
theorem does_pick (h : Pre P c n nx sl hp a sl0 hp0 o gs) {x y z : Operand} (ho : o.op = .pick x y z) (he : opEff P sg sl0 hp0 nv nx gs o = some e) (hc : ∀ q ∈ e.chk, Cn.den c.ρ q) : Does P o c n nx sl hp gs a e := by
  have hm1 : x ∈ o.op.operands := by simp [ho, Op.operands]
  have hm2 : y ∈ o.op.operands := by simp [ho, Op.operands]
  have hm3 : z ∈ o.op.operands := by simp [ho, Op.operands]
  simp only [opEff, ho, Option.bind_eq_some_iff] at he
  obtain ⟨s, hs, he⟩ := he
  have hr := h.opd hs hm1
  split at he
  · rename_i q
    have ex : ∀ b, a.eval x = .bool b → (execOp a.eval o).run P c.w = .ok (.value (if b then a.eval y else a.eval z)) c.w := fun b hb => by
      simp [execOp, ho, hb, asBool]
    obtain ⟨f, q1⟩ : ∃ f, Rd c.w [a.eval x] [q.den c.ρ] f := by
      generalize a.eval x = v at hr
      cases hr with
      | e h1 _ _ => exact ⟨_, h1⟩
    unfold pickEff at he
    split at he
    · obtain ⟨s', hs', rfl⟩ := Option.map_eq_some_iff.1 he
      exact Does.pure h (v := a.eval y) (ex true (bool_of q1 rfl)) (h.opd hs' hm2) rfl
    · obtain ⟨s', hs', rfl⟩ := Option.map_eq_some_iff.1 he
      exact Does.pure h (v := a.eval z) (ex false (bool_of q1 rfl)) (h.opd hs' hm3) rfl
    · split at he
      · rename_i y' z' hy hz
        simp at he; subst he
        simp only [Option.bind_eq_some_iff] at hy hz
        obtain ⟨sy, hsy, hy⟩ := hy
        obtain ⟨sz, hsz, hz⟩ := hz
        have hd : (q.den c.ρ).notB ≠ .undef := hc1 hc
        cases hq : q.den c.ρ <;> simp only [hq, AV.notB, ne_eq, not_true_eq_false] at hd
        rename_i b
        cases b with
        | true =>
          have r := operandSV_SR (a := a) hsy (fun t ht => by subst ht; rw [h.sl t hm2]; exact h.rel.slots t) (gdOK_cons hq h.gs)
          obtain ⟨f', g1, g2⟩ := scalar_rd r hy
          exact Does.pure h (v := a.eval y) (ex true (bool_of q1 hq)) (.e (f := f') (by simpa [E.den, hq, AV.cond] using g1) g2 .nil) rfl
        | false =>
          have r := operandSV_SR (a := a) hsz (fun t ht => by subst ht; rw [h.sl t hm3]; exact h.rel.slots t) (gdOK_cons hq h.gs)
          obtain ⟨f', g1, g2⟩ := scalar_rd r hz
          exact Does.pure h (v := a.eval z) (ex false (bool_of q1 hq)) (.e (f := f') (by simpa [E.den, hq, AV.cond] using g1) g2 .nil) rfl
      · cases he
  · cases he
end
end Go.Proofs.Ytjneaalpiangdaa
end

/- Part VP. Each operation does what its effect says: new boxes, structs, stores. Program independent. -/
section
namespace Go.Proofs.Ytjneaalpiangdaa
open Go.RowKit
section
variable {P : Program} {c : Cx} {n nx : Nat} {sl sl0 : Nat → SV} {hp hp0 : Nat → Option Ent} {a : Act} {o : Oper} {gs : Gd} {e : Eff} {sg : Nat → Option Sig} {nv : Nat}
theorem one_of_kind {w : World} {v : Value} {x : AV} {f : List Nat} (h : Rd w [v] [x] f) (h1 : ∀ cs, x ≠ .agg cs) (h2 : ∀ cs, x ≠ .tup cs) : v.oneCell' = true := by
  cases h <;> first
    | rfl
    | exact absurd rfl (h1 _)
    | exact absurd rfl (h2 _)
theorem one_cells {v : Value} (h : v.oneCell' = true) : v.cells = #[v] := by
  cases v <;> first | rfl | (simp [Value.oneCell'] at h)
theorem cellsSV_SR {t : TypeId} {s : SV} {v : Value} {cs : List SV} {ck : List Cn} (h : SR c [s] [v]) (hc : cellsSV P t s = some (cs, ck)) (hk : ∀ q ∈ ck, q.den c.ρ) :
    SR c cs v.cells.toList ∧ (∀ u ∈ v.cells.toList, u.oneCell' = true) := by
  unfold cellsSV at hc
  split at hc
  · split at hc
    · simp at hc; obtain ⟨rfl, rfl⟩ := hc
      cases h with
      | agg h1 h2 _ => exact ⟨by simpa [Value.cells] using h2, by simpa [Value.cells] using h1⟩
    · rename_i x
      simp at hc; obtain ⟨rfl, rfl⟩ := hc
      cases h with
      | e h1 h2 _ =>
        obtain ⟨as, has, hl⟩ := hc1 hk
        obtain ⟨vs, rfl, h3, h4⟩ := agg_of h1 has
        refine ⟨?_, by simpa [Value.cells] using h3⟩
        have hlen := h4.len
        have key : ∀ k, k ≤ as.length → SR c ((List.range k).map fun j => SV.e (.fld x j 1 false)) (vs.take k) := by
          intro k
          induction k with
          | zero => intro _; simpa using SR.nil
          | succ k ih =>
            intro hk
            have hk' : k < as.length := by omega
            obtain ⟨u, g, hu, hg, hr⟩ := h4.at (show as[k]? = some as[k] by simp [hk'])
            rw [List.range_succ, List.map_append, List.take_succ_eq_append_getElem (by omega)]
            refine (ih (by omega)).app ?_
            have hu' : vs[k]'(by omega) = u := by simpa [show k < vs.length by omega] using hu
            rw [hu']
            exact .e (f := g) (by simpa [E.den, AV.fld, has, AV.cells, hk'] using hr) (fun b hb => h2 b (hg b hb)) .nil
        have := key as.length (Nat.le_refl _)
        rw [← hlen, List.take_length, hlen, hl] at this
        simpa [Value.cells] using this
    · cases hc
  · split at hc
    · rename_i x
      simp at hc; obtain ⟨rfl, rfl⟩ := hc
      cases h with
      | e h1 h2 _ =>
        have hq : (∀ cs, x.den c.ρ ≠ .agg cs) ∧ ∀ cs, x.den c.ρ ≠ .tup cs := by
          cases x <;> first
            | exact (hc1 hk : Cn.den c.ρ (.cells _ 1))
            | exact ⟨by simp [E.den], by simp [E.den]⟩
        have h1c := one_of_kind h1 hq.1 hq.2
        rw [one_cells h1c]
        exact ⟨.e h1 h2 .nil, by simpa using h1c⟩
    · cases hc
    · cases hc
    · cases hc
    · cases hc
    · simp at hc; obtain ⟨rfl, rfl⟩ := hc
      have h1c : v.oneCell' = true := by
        cases h <;> first | rfl | (rename_i hh _ _ _ _ _; exact absurd rfl (hh _)) | skip
        all_goals first | rfl | (exfalso; simp_all)
      rw [one_cells h1c]
      exact ⟨h, by simpa using h1c⟩
theorem new_ok (h : Pre P c n nx sl hp a sl0 hp0 o gs) (ob : Obj) (hv : Value) : Same c (c.new nx ob hv []) nx :=
  ⟨rfl, rfl, rfl, rfl, fun t ht => ht.imp id (fun hh => by subst hh; exact ⟨Nat.le_refl _, by simp [idsPerOp]⟩)⟩
theorem fresh_nx (h : Pre P c n nx sl hp a sl0 hp0 o gs) : ¬ c.U nx := h.new nx (Nat.le_refl _) (by simp [idsPerOp])
/-- A new box. -/
theorem Does.box (h : Pre P c n nx sl hp a sl0 hp0 o gs) {ty : TypeId} {g : Bool} {cs : List SV} {v : Value} {ck : List Cn} (hr : (execOp a.eval o).run P c.w = .ok (.value (.pointer (some ⟨c.w.heap.size, 0, none⟩))) (c.w.alloc (.cells v.cells ty)))
    (hs : SR c cs v.cells.toList) (h1 : ∀ u ∈ v.cells.toList, u.oneCell' = true) : Does P o c n nx sl hp gs a { chk := ck, val := .bptr nx 0, ent := [(nx, mkGdE gs (.box ty g cs))] } := by
  intro next Q hk
  unfold Oper.wp
  rw [hr, Oper.upon_value]
  have hU := fresh_nx h
  have keep : Keep c (c.new nx (.cells v.cells ty) (.pointer (some ⟨c.w.heap.size, 0, none⟩)) []) := Cx.new_keep (fun g hg => hU (h.rel.usedK _ _ hg))
  have hH : (c.new nx (.cells v.cells ty) (.pointer (some ⟨c.w.heap.size, 0, none⟩)) []).H nx 0 = .pointer (some ⟨c.w.heap.size, 0, none⟩) := by simp [Cx.new]
  have hK : (c.new nx (.cells v.cells ty) (.pointer (some ⟨c.w.heap.size, 0, none⟩)) []).K nx 0 := .inr ⟨rfl, rfl⟩
  have hrel := h.rel.new hU (.cells v.cells ty) (.pointer (some ⟨c.w.heap.size, 0, none⟩)) (.box ty g cs) gs h.gs (by intros; simp)
    ⟨c.w.heap.size, v.cells, hK, hH, by simp [Cx.new], by simp [Cx.new], heap_alloc_new _ _, h1, hs.keep keep⟩
  exact hk _ _ (new_ok h _ _) (hrel.put ((SR.bptr hK hH .nil).mkGd gs h.gs) o.dst)
theorem does_alloc (h : Pre P c n nx sl hp a sl0 hp0 o gs) {t : TypeId} (ho : o.op = .alloc t) (he : opEff P sg sl0 hp0 nv nx gs o = some e) (hc : ∀ q ∈ e.chk, Cn.den c.ρ q) : Does P o c n nx sl hp gs a e := by
  simp only [opEff, ho, Option.bind_eq_some_iff] at he
  obtain ⟨z, ⟨i, hi, hz⟩, s, hs, ⟨cs, ck⟩, hcs, he⟩ := he
  split at he
  · cases he
  · split at he
    · cases he
    · rename_i hck
      have hck : ck = [] := by simpa using hck
      simp at he; subst he
      have hs' : constSV z = some s := by simpa [zeroSV, hi, hz] using hs
      obtain ⟨q1, q2⟩ := cellsSV_SR (constSV_SR (c := c) hs') hcs (by simp [hck])
      refine Does.box h (v := z) ?_ q1 q2
      simp [execOp, ho, Instr.alloc, zeroValue, typeInfo, hi, hz, newVar, newRow]
theorem does_box (h : Pre P c n nx sl hp a sl0 hp0 o gs) {t : TypeId} {x : Operand} (ho : o.op = .box t x) (he : opEff P sg sl0 hp0 nv nx gs o = some e) (hc : ∀ q ∈ e.chk, Cn.den c.ρ q) : Does P o c n nx sl hp gs a e := by
  have hm : x ∈ o.op.operands := by simp [ho, Op.operands]
  simp only [opEff, ho, Option.bind_eq_some_iff] at he
  obtain ⟨s, hs, ⟨cs, ck⟩, hcs, he⟩ := he
  split at he
  · cases he
  · simp at he; subst he
    obtain ⟨q1, q2⟩ := cellsSV_SR (h.opd hs hm) hcs hc
    refine Does.box h (v := a.eval x) ?_ q1 q2
    simp [execOp, ho, Instr.box, newVar, newRow]
end
end Go.Proofs.Ytjneaalpiangdaa
end

/- Part VQ. Each operation does what its effect says: structs, stores into boxes. Program independent. -/
section
namespace Go.Proofs.Ytjneaalpiangdaa
open Go.RowKit
section
variable {P : Program} {c : Cx} {n nx : Nat} {sl sl0 : Nat → SV} {hp hp0 : Nat → Option Ent} {a : Act} {o : Oper} {gs : Gd} {e : Eff} {sg : Nat → Option Sig} {nv : Nat}
def setVs {α : Type} (cs : List α) (o : Nat) (vs : List α) : List α := cs.take o ++ vs ++ cs.drop (o + vs.length)
theorem setVs_get {α : Type} (cs vs : List α) (o : Nat) (h : o + vs.length ≤ cs.length) (i : Nat) : (setVs cs o vs)[i]? = if o ≤ i ∧ i < o + vs.length then vs[i - o]? else cs[i]? := by
  unfold setVs
  have ht : (cs.take o).length = o := by rw [List.length_take]; omega
  rw [List.append_assoc]
  by_cases h1 : i < o
  · rw [if_neg (by omega), List.getElem?_append_left (by omega), List.getElem?_take, if_pos h1]
  · rw [List.getElem?_append_right (by omega), ht]
    by_cases h2 : i < o + vs.length
    · rw [if_pos (by omega), List.getElem?_append_left (by omega)]
    · rw [if_neg (by omega), List.getElem?_append_right (by omega), List.getElem?_drop]
      congr 1; omega
theorem setVs_len {α : Type} (cs vs : List α) (o : Nat) (h : o + vs.length ≤ cs.length) : (setVs cs o vs).length = cs.length := by
  simp [setVs]; omega
theorem SR.setVs {cs vs : List SV} {C V : List Value} {k : Nat} (h : SR c cs C) (hv : SR c vs V) : SR c (setCs cs k vs) (Go.Proofs.Ytjneaalpiangdaa.setVs C k V) := by
  unfold setCs Go.Proofs.Ytjneaalpiangdaa.setVs
  have hl := hv.len
  rw [← hl]
  exact ((h.split k).1.app hv).app (h.split _).2
theorem fold_set (vs : List Value) : ∀ (k off : Nat) (C : Array Value), off + k + vs.length ≤ C.size →
    ((vs.zipIdx k).foldl (fun cs (p : Value × Nat) => cs.setIfInBounds (off + p.2) p.1) C).toList = setVs C.toList (off + k) vs := by
  induction vs with
  | nil => intro k off C _; simp [setVs]
  | cons v vs ih =>
    intro k off C h
    simp only [List.length_cons] at h
    simp only [List.zipIdx_cons, List.foldl_cons]
    rw [ih (k + 1) off _ (by simp; omega)]
    apply List.ext_getElem?
    intro i
    rw [setVs_get _ _ _ (by simp; omega), setVs_get _ _ _ (by simp; omega)]
    simp only [Array.toList_setIfInBounds, List.getElem?_set, List.length_cons, Array.length_toList]
    by_cases h1 : i = off + k
    · subst h1
      rw [if_neg (by omega), if_pos rfl, if_pos (by omega), if_pos (by omega)]
      simp
    · by_cases h2 : off + (k + 1) ≤ i ∧ i < off + (k + 1) + vs.length
      · rw [if_pos h2, if_pos (by omega), show i - (off + k) = (i - (off + (k + 1))) + 1 by omega, List.getElem?_cons_succ]
      · rw [if_neg h2, if_neg (by omega), if_neg (by omega)]
theorem run_putCells {b off : Nat} {t : TypeId} : ∀ (vs : List Value) (i : Nat) (w : World) (C : Array Value), w.heap[b]? = some (.cells C t (0, 0)) → off + i + vs.length ≤ C.size → (∀ v ∈ vs, v.oneCell' = true) →
    (storeCells ⟨b, off, none⟩ vs i).run P w = .ok () (putCells w b (off + i) vs)
  | [], i, w, C, _, _, _ => by simp [storeCells, putCells]
  | v :: vs, i, w, C, hb, hl, h1 => by
    simp only [List.length_cons] at hl
    have hi : off + i < C.size := by omega
    have hcell : w.cell? ⟨b, off + i, none⟩ = some C[off + i] := by simp [World.cell?, hb, hi]
    have hfro : w.frozen? ⟨b, off + i, none⟩ = false := by simp [World.frozen?, hb]
    have hst : (store ((⟨b, off, none⟩ : Addr).add i) v).run P w = .ok () (w.setCell ⟨b, off + i, none⟩ v) := by
      rw [Addr.add_lit, run_store P w _ v _ (h1 v (by simp)), hcell]
      simp [hfro]
    have h2 := heap_setCell_same w b (off + i) C t v hb
    have ih := run_putCells (off := off) vs (i + 1) (w.setCell ⟨b, off + i, none⟩ v) _ h2 (by simp; omega) (fun x hx => h1 x (by simp [hx]))
    simp only [storeCells, Sem.run_bind, hst, Result.andThen_ok, ih, putCells]
    rw [Nat.add_assoc]
/-- Cells written one behind the other: the block as it is then. -/
theorem putCells_block {w : World} {b off : Nat} {t : TypeId} {vs : List Value} {C : Array Value} (hb : w.heap[b]? = some (.cells C t (0, 0))) (hl : off + vs.length ≤ C.size) :
    Mod [b] w (putCells w b off vs) ∧ (putCells w b off vs).heap[b]? = some (.cells (setVs C.toList off vs).toArray t (0, 0)) ∧ (putCells w b off vs).heap.size = w.heap.size := by
  obtain ⟨hm, C', h1, h2, h3, h4⟩ := putCells_spec vs w b off C t hb hl
  refine ⟨hm, ?_, ?_⟩
  · rw [h1]
    congr 2
    apply Array.ext'
    apply List.ext_getElem?
    intro i
    rw [setVs_get _ _ _ (by simpa using hl)]
    by_cases hi : off ≤ i ∧ i < off + vs.length
    · rw [if_pos hi]
      have hlt : i - off < vs.length := by omega
      have := h3 (i - off) vs[i - off] (by simp [hlt])
      rw [show off + (i - off) = i by omega] at this
      rw [Array.getElem?_toList, this]; simp [hlt]
    · rw [if_neg hi, Array.getElem?_toList, Array.getElem?_toList]
      exact h4 i (by omega)
  · clear hm h1 h2 h3 h4 hl
    induction vs generalizing w off C with
    | nil => rfl
    | cons v vs ih =>
      simp only [putCells]
      rw [ih (heap_setCell_same w b off C t v hb)]
      simp [World.setCell]
theorem run_storeAt {w : World} {b off : Nat} {t ty : TypeId} {v : Value} {C : Array Value} (hb : w.heap[b]? = some (.cells C ty (0, 0))) (ht : tyOK P t = true) (hs : v.cells.size = P.cellsOf t) (hl : off + v.cells.size ≤ C.size) (h1 : ∀ u ∈ v.cells.toList, u.oneCell' = true) :
    (Instr.storeAt t (.pointer (some ⟨b, off, none⟩)) v).run P w = .ok () (putCells w b off v.cells.toList) := by
  have := run_putCells (P := P) (off := off) v.cells.toList 0 w C hb (by simpa using hl) h1
  simp only [Nat.add_zero] at this
  simp [Instr.storeAt, Instr.sureAddr, storeVar, run_sizeOf' ht, hs, this]
/-- A write into the block of one's own at tag t. -/
theorem Rel.write (h : Rel c n sl hp a) {t : Nat} {e0 : Ent} {b : Nat} {w' : World} (hres : Res c.ρ (hp t) e0) (htop : b ∈ (c.G t).top) (hm : Mod [b] c.w w') (hsz : w'.heap.size = c.w.heap.size) (e1 : Ent) (hne : ∀ hs f, e1 ≠ .gd hs f)
    (he : EntR { c with w := w' } t e1) : Rel { c with w := w' } n sl (updH hp [(t, e1)]) a ∧ Keep c { c with w := w' } := by
  have hown : b ∈ (c.G t).own := by simp [GI.own, htop]
  have hkeep : Keep c { c with w := w' } := by
    refine ⟨rfl, fun q _ hq => hq, fun q hq hok => hm.block q hq ?_, fun u g hu => ⟨hu, rfl⟩⟩
    simp only [List.mem_singleton]
    rintro rfl
    exact hok.1 ⟨t, htop⟩
  have hup : ∀ u, updH hp [(t, e1)] u = if u = t then some e1 else hp u := fun u => rfl
  refine ⟨h.change (fun u => u = t) hkeep ⟨hm.os.trans h.base.os, hm.tape.trans h.base.tape, hm.output.trans h.base.output, Nat.le_trans h.base.size hm.size, h.base.pins, fun q hq hmu => ?_⟩
    (fun u hu => ⟨by rw [hup, if_neg hu], rfl, fun g hg => hg⟩) (fun u hu q hq => hm.block q (h.gw.inb u q (by simp [GI.own, hq])) ?_) (fun u hu => ?_) ⟨h.gw.nodup, h.gw.disj, h.gw.allow, fun u q hq => ?_⟩ h.usedK (fun u f hf => ?_), hkeep⟩
  · refine (hm.block q (Nat.lt_of_lt_of_le hq h.base.size) ?_).trans (h.base.block q hq hmu)
    simp only [List.mem_singleton]
    rintro rfl
    rcases h.gw.allow t q hown with hh | hh
    · exact absurd hh (Nat.not_le.2 hq)
    · exact hmu hh
  · simp only [List.mem_singleton]
    rintro rfl
    exact h.gw.disj t u (Ne.symm hu) q hown (by simp [GI.own, hq])
  · subst hu
    rw [hup, if_pos rfl]
    refine ⟨fun e' hr => ?_, fun hn => ?_⟩
    · cases e1 <;> first
        | (simp only [Res] at hr; subst hr; exact he)
        | exact absurd rfl (hne _ _)
    · cases e1 <;> first
        | exact absurd rfl (hne _ _)
        | exact absurd rfl (hn _)
  · show q < w'.heap.size
    rw [hsz]; exact h.gw.inb u q hq
  · rw [hup] at hf
    split at hf
    · rename_i hu; subst hu
      cases hh : hp u with
      | none => rw [hh] at hres; exact hres.elim
      | some e9 => exact h.usedH u e9 hh
    · exact h.usedH u f hf
end
end Go.Proofs.Ytjneaalpiangdaa
end

/- Part VR. Each operation does what its effect says: structs, stores into boxes, second part. Program independent. -/
section
namespace Go.Proofs.Ytjneaalpiangdaa
open Go.RowKit
section
variable {P : Program} {c : Cx} {n nx : Nat} {sl sl0 : Nat → SV} {hp hp0 : Nat → Option Ent} {a : Act} {o : Oper} {gs : Gd} {e : Eff} {sg : Nat → Option Sig} {nv : Nat}
theorem does_storeBox (h : Pre P c n nx sl hp a sl0 hp0 o gs) {t : TypeId} {x y : Operand} (ho : o.op = .store t x y) {b k : Nat} {s : SV} (hx : operandSV sl0 gs x = some (.bptr b k)) (hy : operandSV sl0 gs y = some s)
    (he : storeEff P hp0 gs t (.bptr b k) s = some e) (hc : ∀ q ∈ e.chk, Cn.den c.ρ q) : Does P o c n nx sl hp gs a e := by
  have r1 := h.opd hx (by simp [ho, Op.operands])
  have r2 := h.opd hy (by simp [ho, Op.operands])
  simp only [storeEff] at he
  split at he
  · rename_i ty g cs vs ck hl hcs
    split at he
    · rename_i hh
      obtain ⟨hty, hlen, hle, rfl⟩ := hh
      simp at he; subst he
      obtain ⟨q1, q2⟩ := cellsSV_SR r2 hcs hc
      generalize hv : a.eval x = v at r1
      cases r1 with
      | bptr h1 h2 h3 =>
        rename_i q
        have hres0 := look_res hl h.gs
        obtain ⟨q', C, e1, e2, e3, e4, e5, e5', e6⟩ := h.eh b _ hres0
        rw [h2] at e2; cases e2
        have hres : Res c.ρ (hp b) (.box ty g cs) := by
          cases hh : hp0 b with
          | none => rw [hh] at hres0; exact hres0.elim
          | some e9 => rw [h.hp b e9 hh]; rwa [hh] at hres0
        have hlC := e6.len
        have hlV := q1.len
        obtain ⟨m1, m2, m3⟩ := putCells_block (vs := (a.eval y).cells.toList) e5 (show k + _ ≤ C.size by simp at hlC hlV ⊢; omega)
        obtain ⟨hrel, hkeep⟩ := h.rel.write hres (by rw [e3]; simp) m1 m3 (.box ty g (setCs cs k vs)) (by intros; simp) (w' := putCells c.w q k (a.eval y).cells.toList) (by
          have hk' : Keep c { c with w := putCells c.w q k (a.eval y).cells.toList } := by
            refine ⟨rfl, fun z _ hz => hz, fun z hz hok => m1.block z hz ?_, fun u g hu => ⟨hu, rfl⟩⟩
            simp only [List.mem_singleton]
            rintro rfl
            exact hok.1 ⟨b, by rw [e3]; simp⟩
          refine ⟨q, _, e1, h2, e3, e4, m2, ?_, ?_⟩
          · intro u hu
            simp only [List.toList_toArray] at hu
            unfold setVs at hu
            simp only [List.mem_append] at hu
            rcases hu with (hu | hu) | hu
            · exact e5' u (List.mem_of_mem_take hu)
            · exact q2 u hu
            · exact e5' u (List.mem_of_mem_drop hu)
          · simpa using (e6.setVs q1 (k := k)).keep hk')
        intro next Q hk
        unfold Oper.wp
        have hr : (execOp a.eval o).run P c.w = .ok .skip (putCells c.w q k (a.eval y).cells.toList) := by
          have := run_storeAt (P := P) (t := t) (v := a.eval y) (off := k) e5 hty (by simp at hlV; omega) (by simp at hlC hlV; omega) q2
          simp [execOp, ho, hv, this]
        rw [hr, Oper.upon_skip]
        exact hk _ { c with w := putCells c.w q k (a.eval y).cells.toList } ⟨rfl, rfl, rfl, rfl, fun t ht => .inl ht⟩ (hrel.put ((SR.undef .nil).mkGd []) o.dst)
    · cases he
  · cases he
theorem fillS_SR {places : List (Nat × Nat)} {tys : List TypeId} : ∀ (ps : List (Nat × SV)) (vs : List (Nat × Value)) (cs : List SV) (C : Array Value) (r : List SV × List Cn), fillS P places tys ps cs = some r → (∀ q ∈ r.2, q.den c.ρ) →
    ps.map (·.1) = vs.map (·.1) → SR c (ps.map (·.2)) (vs.map (·.2)) → SR c cs C.toList → (∀ u ∈ C.toList, u.oneCell' = true) →
    ∃ C', Instr.fill (places.toArray[·]?) C vs = some C' ∧ SR c r.1 C'.toList ∧ ∀ u ∈ C'.toList, u.oneCell' = true
  | [], vs, cs, C, r, h, hk, he, _, hC, h1 => by
    have : vs = [] := by simpa using he.symm
    subst this
    simp [fillS] at h; subst h
    exact ⟨C, rfl, hC, h1⟩
  | (i, s) :: ps, [], cs, C, r, h, hk, he, _, hC, h1 => by simp at he
  | (i, s) :: ps, (j, v) :: vs, cs, C, r, h, hk, he, hs, hC, h1 => by
    simp only [List.map_cons, List.cons.injEq] at he
    obtain ⟨rfl, he⟩ := he
    simp only [List.map_cons] at hs
    obtain ⟨hs1, hs2⟩ := hs.uncons
    unfold fillS at h
    split at h
    · rename_i off sz t hpl hty
      split at h
      · rename_i us ck hcs
        split at h
        · rename_i hh
          obtain ⟨hsz, hle⟩ := hh
          obtain ⟨r', hr', rfl⟩ := Option.map_eq_some_iff.1 h
          obtain ⟨q1, q2⟩ := cellsSV_SR hs1 hcs (fun q hq => hk q (by simp [hq]))
          have hl1 := q1.len
          have hl2 := hC.len
          have hfs : (v.cells.zipIdx.foldl (fun cs (p : Value × Nat) => cs.setIfInBounds (off + p.2) p.1) C).toList = setVs C.toList off v.cells.toList := by
            have := fold_set v.cells.toList 0 off C (by simp at hl1 hl2 ⊢; omega)
            rw [← Array.foldl_toList, Array.toList_zipIdx]
            simpa using this
          obtain ⟨C', g1, g2, g3⟩ := fillS_SR ps vs (setCs cs off us) (v.cells.zipIdx.foldl (fun cs (p : Value × Nat) => cs.setIfInBounds (off + p.2) p.1) C) r' hr' (fun q hq => hk q (by simp [hq])) he hs2 (by rw [hfs]; exact hC.setVs q1) (by
            rw [hfs]
            intro u hu
            unfold setVs at hu
            simp only [List.mem_append] at hu
            rcases hu with (hu | hu) | hu
            · exact h1 u (List.mem_of_mem_take hu)
            · exact q2 u hu
            · exact h1 u (List.mem_of_mem_drop hu))
          refine ⟨C', ?_, g2, g3⟩
          unfold Instr.fill
          have hpl' : places.toArray[i]? = some (off, sz) := by simpa using hpl
          simp only [hpl']
          rw [if_neg (by simp at hl1 hl2 ⊢; omega)]
          exact g1
        · cases h
      · cases h
    · cases h

theorem mapM_parts {sl0 : Nat → SV} {gs : Gd} (L : List Operand) (h : ∀ x s, operandSV sl0 gs x = some s → x ∈ L → SR c [s] [a.eval x]) : ∀ {xs : List (Nat × Operand)} {ss : List (Nat × SV)}, (∀ x ∈ xs, x.2 ∈ L) → xs.mapM (fun (p : Nat × Operand) => (operandSV sl0 gs p.2).map fun s => (p.1, s)) = some ss →
    ss.map (·.1) = xs.map (·.1) ∧ SR c (ss.map (·.2)) (xs.map fun p => a.eval p.2)
  | [], ss, _, hm => by simp at hm; subst hm; exact ⟨rfl, .nil⟩
  | x :: xs, ss, hL, hm => by
    rw [List.mapM_cons] at hm
    simp only [Option.bind_eq_bind, Option.bind_eq_some_iff, Option.map_eq_some_iff] at hm
    obtain ⟨_, ⟨s, hs, rfl⟩, ss', hss, hm⟩ := hm
    simp at hm; subst hm
    obtain ⟨e1, e2⟩ := mapM_parts L h (fun y hy => hL y (by simp [hy])) hss
    exact ⟨by simp [e1], (h _ s hs (hL x (by simp))).app e2⟩
theorem does_build (h : Pre P c n nx sl hp a sl0 hp0 o gs) {t : TypeId} {parts : Array (Nat × Operand)} (ho : o.op = .build t parts) (he : opEff P sg sl0 hp0 nv nx gs o = some e) (hc : ∀ q ∈ e.chk, Cn.den c.ρ q) : Does P o c n nx sl hp gs a e := by
  simp only [opEff, ho, Option.bind_eq_some_iff] at he
  obtain ⟨ps, hps, he⟩ := he
  obtain ⟨e1, e2⟩ := mapM_parts (c := c) (a := a) (parts.toList.map (·.2)) (fun x s hx hm => h.opd hx (by simpa [ho, Op.operands] using hm)) (fun x hx => List.mem_map.2 ⟨x, hx, rfl⟩) hps
  unfold buildEff at he
  split at he
  · rename_i it fs hit hu
    split at he
    · rename_i zs places hz hpl
      obtain ⟨r, hr, rfl⟩ := Option.map_eq_some_iff.1 he
      obtain ⟨z, hz0, hz1⟩ := Option.bind_eq_some_iff.1 hz
      have hzr := constSV_SR (c := c) hz1
      obtain ⟨cells, g1, g2, g3⟩ := fillS_SR (c := c) (P := P) ps (parts.toList.map fun p => (p.1, a.eval p.2)) zs.toList z.cells r hr hc (by rw [e1]; simp) (by rw [List.map_map]; exact e2)
        (by cases hzr with | agg h1 h2 _ => simpa [Value.cells] using h2) (by cases hzr with | agg h1 h2 _ => simpa [Value.cells] using h1)
      have hb : P.built t (parts.map fun (x : Nat × Operand) => (x.1, a.eval x.2)).toList = some cells := by
        simp only [Program.built, hit, hu, hz0, hpl]
        simpa using g1
      have := SR.agg (c := c) (cs := SVL.of r.1) (as := cells.toList) g3 (by rw [SVL.toList_of]; exact g2) .nil
      refine Does.pure h (v := .agg cells) ?_ (by simpa using this) rfl
      have hrun := run_build c.w t _ cells hb
      simp only [execOp, ho, Sem.run_bind]
      rw [hrun]; rfl
    · cases he
  · cases he
end
end Go.Proofs.Ytjneaalpiangdaa
end

/- Part Lib2. append onto a slice of the call's own, from any source. -/
section
namespace Go.Proofs.Ytjneaalpiangdaa
open Go.RowKit
/-- What is appended: the cells of a slice that reads as news, nil let in. -/
def Src (w : World) (size : Nat) (a : Option Addr) (m : Nat) (news : List Value) : Prop :=
  (a = none ∧ m = 0 ∧ news = []) ∨ ∃ ad, a = some ad ∧ news.length = m * size ∧ (∀ j u, news[j]? = some u → w.cell? (ad.add j) = some u) ∧ ∀ u ∈ news, u.oneCell' = true
theorem Src.mod {w w' : World} {size : Nat} {a : Option Addr} {m : Nat} {news : List Value} (h : Src w size a m news) (hm : Mod [] w w') : Src w' size a m news := by
  rcases h with h | ⟨ad, h1, h2, h3, h4⟩
  · exact Or.inl h
  · exact Or.inr ⟨ad, h1, h2, fun j u hu => by
      have := h3 j u hu
      rw [hm.cell (World.block_lt_of_cell? w _ this) (by simp)]; exact this, h4⟩
section
variable {P : Program}
theorem run_append_src (w : World) (base : Nat) (t ty e : TypeId) (i : TypeInfo) (z : Value) (size bytes : Nat) (ht : P.underlying t = some (.slice e)) (hi : P.info? e = some i) (hz : i.zero = some z)
    (hsize : i.size = size) (hby : i.bytes = bytes) (hzs : z.cells.size = size) (hsz : 0 < size)
    (v : Value) (n : Nat) (xs : List Value) (hown : w.ownsRow base e size v n xs) (a : Option Addr) (m c : Nat) (news : List Value) (hsrc : Src w size a m news)
    (h63 : n + m ≤ maxLen) (hbytes : (n + m) * bytes ≤ 140737488355328) (hbase : base ≤ w.heap.size) :
    ∃ v' w', (Builtin.append_ #[t, t] ty #[v, .slice a m c]).run P w = .ok v' w' ∧ w'.ownsRow base e size v' (n + m) (xs ++ news) ∧ w.grownBy w' v.ownBlock := by
  rcases hsrc with ⟨rfl, rfl, rfl⟩ | ⟨ad, rfl, h1, h2, h3⟩
  · refine ⟨v, w, ?_, by simpa using hown, ⟨rfl, rfl, rfl, Nat.le_refl _, fun _ _ _ => rfl⟩⟩
    rcases hown.2 with ⟨rfl, rfl⟩ | ⟨g, cap, cur, rfl, _, _, hnc, _⟩
    · simp [Builtin.append_, run_underlying ht, sizeOf, typeInfo, hi, Builtin.lenOf, Builtin.firstCells]
    · simp [Builtin.append_, run_underlying ht, sizeOf, typeInfo, hi, Builtin.lenOf, Builtin.firstCells, hnc, storeCells]
  · obtain ⟨v', w', g1, g2, g3, _⟩ := run_append_own (P := P) w base t ty e i z size bytes ht hi hz hsize hby hzs hsz v n xs hown ad m c news h1 h2 h3 h63 hbytes hbase
    exact ⟨v', w', g1, g2, g3⟩
theorem wpList_append_src (w : World) {ops : Array Oper} {rest : List Oper} {o : Oper} {a : Act} {Q : Exit → Act → World → Prop} (hgd : o.guard = none) (s x : Operand) (t : TypeId)
    (ho : o.op = .call { callee := .builtin .append, args := #[s, x], argTypes := #[t, t] })
    (base : Nat) (e : TypeId) (i : TypeInfo) (z : Value) (size bytes : Nat) (ht : P.underlying t = some (.slice e)) (hi : P.info? e = some i) (hz : i.zero = some z)
    (hsize : i.size = size) (hby : i.bytes = bytes) (hzs : z.cells.size = size) (hsz : 0 < size)
    (v : Value) (n : Nat) (xs : List Value) (hs : a.eval s = v) (hown : w.ownsRow base e size v n xs)
    (ad : Option Addr) (m c : Nat) (news : List Value) (hx : a.eval x = .slice ad m c) (hsrc : Src w size ad m news)
    (h63 : n + m ≤ maxLen) (hbytes : (n + m) * bytes ≤ 140737488355328) (hbase : base ≤ w.heap.size)
    (h : ∀ v' w', w'.ownsRow base e size v' (n + m) (xs ++ news) → w.grownBy w' v.ownBlock → wpList P ops Q rest (a.put o.dst v') w') : wpList P ops Q (o :: rest) a w :=
  wpList_plain hgd fun _ hK => by
    obtain ⟨v', w', hr, h2, h3⟩ := run_append_src (P := P) w base t o.type e i z size bytes ht hi hz hsize hby hzs hsz v n xs hown ad m c news hsrc h63 hbytes hbase
    unfold Oper.wp execOp
    simp only [ho, resolve, invoke, builtin, Sem.run_bind, Sem.run_pure, Result.andThen_ok, List.map_toArray, List.map_cons, List.map_nil, hs, hx, hr]
    exact hK _ _ (h v' w' h2 h3)
end
theorem RdS.src {α : Type} {T : GT α} {w : World} {a : Option Addr} {n : Nat} {xs : List α} {fp : List Nat} (hs : 0 < T.size) (h : RdS T w a n xs fp) :
    ∃ Ls fps, RdL T w Ls xs fps ∧ Src w T.size a n Ls.flatten ∧ (∀ q ∈ fps.flatten, q ∈ fp) := by
  cases a with
  | none =>
    rcases h.2 with ⟨rfl, _⟩ | ⟨b, o, fps, ha, _⟩
    · have := h.1
      simp at this; subst this
      exact ⟨[], [], ⟨rfl, rfl, by simp⟩, Or.inl ⟨rfl, rfl, rfl⟩, by simp⟩
    · cases ha
  | some ad =>
    obtain ⟨Ls, fps, h1, h2, h3, h4⟩ := h.cells hs
    exact ⟨Ls, fps, h1, Or.inr ⟨ad, rfl, h4, h2, h1.one⟩, h3⟩
theorem made_at (w : World) (k base : Nat) (e : TypeId) (size : Nat) (hk : k = w.heap.size) (hb : base ≤ k) : (w.alloc (.cells #[] e)).ownsRow base e size (.slice (some ⟨k, 0, none⟩) 0 0) 0 [] := by
  subst hk
  exact World.ownsRow_made w #[] 0 hb (Nat.zero_le _) (by simp)
end Go.Proofs.Ytjneaalpiangdaa
end

/- Part VS. Rows that are only read from here on; values that are taken into a row. Program independent. -/
section
namespace Go.Proofs.Ytjneaalpiangdaa
open Go.RowKit
section
variable {P : Program} {c : Cx} {n nx : Nat} {sl sl0 : Nat → SV} {hp hp0 : Nat → Option Ent} {a : Act} {o : Oper} {gs : Gd} {e : Eff} {sg : Nat → Option Sig} {nv : Nat}
/-- The surroundings once the rows ts are only read. -/
def Cx.frz (c : Cx) (ts : List Nat) : Cx := { c with G := fun u => if u ∈ ts then ⟨[], []⟩ else c.G u }
theorem Cx.frz_M {c : Cx} {ts : List Nat} {b : Nat} (h : (c.frz ts).M b) : ∃ u, u ∉ ts ∧ b ∈ (c.G u).top := by
  obtain ⟨u, hu⟩ := h
  simp only [Cx.frz] at hu
  split at hu
  · simp at hu
  · exact ⟨u, by assumption, hu⟩
theorem Cx.frz_ok {c : Cx} {ts : List Nat} {b : Nat} (h : c.ok b) : (c.frz ts).ok b := ⟨fun hm => by obtain ⟨u, _, hu⟩ := Cx.frz_M hm; exact h.1 ⟨u, hu⟩, h.2⟩
theorem Cx.frz_keep (c : Cx) (ts : List Nat) : Keep c (c.frz ts) := ⟨rfl, fun _ _ h => Cx.frz_ok h, fun _ _ _ => rfl, fun _ _ h => ⟨h, rfl⟩⟩
/-- What a frozen row's block is from then on. -/
theorem frz_see {c : Cx} (gw : GW c) {ts us : List Nat} (hs : ∀ t ∈ us, t ∈ ts) {b : Nat} (h : c.see us b) : (c.frz ts).ok b := by
  rcases h with h | ⟨t, ht, hb⟩
  · exact Cx.frz_ok h
  · have hown : b ∈ (c.G t).own := by simp [GI.own, hb]
    refine ⟨fun hm => ?_, .inr (gw.allow t b hown)⟩
    obtain ⟨u, hu, hbu⟩ := Cx.frz_M hm
    have : t ≠ u := fun hh => hu (hh ▸ hs t ht)
    exact gw.disj t u this b hown (by simp [GI.own, hbu])
theorem freezeAll_spec {gs : Gd} {ρ : List AV} (k : gdOK ρ gs) : ∀ {ts : List Nat} {l : List (Nat × Ent)}, freezeAll hp0 gs ts = some l →
    (∀ t e, (t, e) ∈ l → t ∈ ts ∧ gs = [] ∧ ∃ g x ety sz d, e = .frz g x ∧ Res ρ (hp0 t) (.row ety sz g x d)) ∧
    (∀ t ∈ ts, (∃ g x, (t, Ent.frz g x) ∈ l) ∨ (∃ g x, Res ρ (hp0 t) (.frz g x)) ∨ ∃ ty g cs, Res ρ (hp0 t) (.box ty g cs))
  | [], l, h => by simp [freezeAll] at h; subst h; simp
  | t :: ts, l, h => by
    unfold freezeAll at h
    split at h
    · rename_i ety sz g x d l' hl hl'
      split at h
      · rename_i hg
        simp at h; subst h
        obtain ⟨h1, h2⟩ := freezeAll_spec k hl'
        refine ⟨fun u e hu => ?_, fun u hu => ?_⟩
        · rcases List.mem_cons.1 hu with hu | hu
          · cases hu
            exact ⟨by simp, by simpa using hg, g, x, ety, sz, d, rfl, look_res hl k⟩
          · obtain ⟨p, q, r⟩ := h1 u e hu
            exact ⟨by simp [p], q, r⟩
        · rcases List.mem_cons.1 hu with rfl | hu
          · exact .inl ⟨g, x, by simp⟩
          · rcases h2 u hu with ⟨g', x', hh⟩ | hh
            · exact .inl ⟨g', x', by simp [hh]⟩
            · exact .inr hh
      · cases h
    · rename_i g x l' hl hl'
      simp at h; subst h
      obtain ⟨h1, h2⟩ := freezeAll_spec k hl'
      refine ⟨fun u e hu => ?_, fun u hu => ?_⟩
      · obtain ⟨p, q, r⟩ := h1 u e hu
        exact ⟨by simp [p], q, r⟩
      · rcases List.mem_cons.1 hu with rfl | hu
        · exact .inr (.inl ⟨g, x, look_res hl k⟩)
        · exact h2 u hu
    · rename_i ty g cs l' hl hl'
      simp at h; subst h
      obtain ⟨h1, h2⟩ := freezeAll_spec k hl'
      refine ⟨fun u e hu => ?_, fun u hu => ?_⟩
      · obtain ⟨p, q, r⟩ := h1 u e hu
        exact ⟨by simp [p], q, r⟩
      · rcases List.mem_cons.1 hu with rfl | hu
        · exact .inr (.inr ⟨ty, g, cs, look_res hl k⟩)
        · exact h2 u hu
    · cases h
theorem updH_not {hp : Nat → Option Ent} : ∀ {l : List (Nat × Ent)} {t : Nat}, (∀ e, (t, e) ∉ l) → updH hp l t = hp t
  | [], _, _ => rfl
  | (u, e) :: l, t, h => by
    have ht : t ≠ u := by rintro rfl; exact h e (by simp)
    have := updH_not (hp := fun v => if v = u then some e else hp v) (l := l) (t := t) (fun e' he' => h e' (by simp [he']))
    simp only [updH, List.foldl_cons] at this ⊢
    rw [this, if_neg ht]
theorem updH_mem {hp : Nat → Option Ent} : ∀ {l : List (Nat × Ent)} {t : Nat} {e : Ent}, (t, e) ∈ l → (∀ e', (t, e') ∈ l → e' = e) → updH hp l t = some e
  | [], _, _, h, _ => by simp at h
  | (u, f) :: l, t, e, h, hu => by
    simp only [updH, List.foldl_cons]
    by_cases hm : ∃ e', (t, e') ∈ l
    · obtain ⟨e', he'⟩ := hm
      have := hu e' (by simp [he'])
      subst this
      exact updH_mem (hp := fun v => if v = u then some f else hp v) he' (fun e'' h'' => hu e'' (by simp [h'']))
    · have hn : ∀ e', (t, e') ∉ l := fun e' he' => hm ⟨e', he'⟩
      have := updH_not (hp := fun v => if v = u then some f else hp v) (l := l) (t := t) hn
      simp only [updH] at this
      rw [this]
      rcases List.mem_cons.1 h with h | h
      · cases h; simp
      · exact absurd h (hn e)
theorem Res_sub (hs : ∀ t e, hp0 t = some e → hp t = some e) {ρ : List AV} {t : Nat} {e : Ent} (h : Res ρ (hp0 t) e) : Res ρ (hp t) e := by
  cases hh : hp0 t with
  | none => rw [hh] at h; exact h.elim
  | some e9 => rw [hs t e9 hh]; rwa [hh] at h
theorem Res_fun {ρ : List AV} {o : Option Ent} {e f : Ent} (h : Res ρ o e) (k : Res ρ o f) : e = f := by
  cases o with
  | none => exact h.elim
  | some o =>
    cases o with
    | gd gs x => exact h.2.symm.trans k.2
    | box => exact h.symm.trans k
    | row => exact h.symm.trans k
    | frz => exact h.symm.trans k
    | dead => exact h.symm.trans k
/-- Rows frozen. -/
theorem Rel.freeze (h : Rel c n sl hp a) (hs : ∀ t e, hp0 t = some e → hp t = some e) (k : gdOK c.ρ gs) {ts : List Nat} {l : List (Nat × Ent)} (hf : freezeAll hp0 gs ts = some l) :
    Rel (c.frz (l.map (·.1))) n sl (updH hp l) a := by
  obtain ⟨h1, h2⟩ := freezeAll_spec k hf
  have hG : ∀ u, (c.frz (l.map (·.1))).G u = if u ∈ l.map (·.1) then ⟨[], []⟩ else c.G u := fun u => rfl
  have huniq : ∀ t e e', (t, e) ∈ l → (t, e') ∈ l → e' = e := by
    intro t e e' he he'
    obtain ⟨_, _, g, x, _, _, _, rfl, r⟩ := h1 t e he
    obtain ⟨_, _, g', x', _, _, _, rfl, r'⟩ := h1 t e' he'
    have := Res_fun r r'
    cases this; rfl
  refine h.change (fun u => u ∈ l.map (·.1)) (Cx.frz_keep c _) ⟨h.base.os, h.base.tape, h.base.output, h.base.size, h.base.pins, h.base.block⟩ (fun u hu => ⟨updH_not (fun e he => hu (List.mem_map.2 ⟨_, he, rfl⟩)), by rw [hG, if_neg hu], fun g hg => hg⟩) (fun u hu b hb => rfl) (fun u hu => ?_) ?_ h.usedK (fun u e hu => ?_)
  · obtain ⟨⟨u', e⟩, he, rfl⟩ := List.mem_map.1 hu
    have hup := updH_mem (hp := hp) he (fun e' he' => huniq _ _ _ he he')
    obtain ⟨_, _, g, x, ety, sz, d, rfl, r⟩ := h1 u' e he
    obtain ⟨q1, q2, N, q3, q4, q5, q6⟩ := h.ents u' _ (Res_sub hs r)
    have hemp : ((c.frz (l.map (·.1))).G u').top = [] ∧ ((c.frz (l.map (·.1))).G u').O = [] := by rw [hG, if_pos hu]; simp
    rw [hup]
    refine ⟨fun e' hr => ?_, fun _ => hemp⟩
    have : e' = .frz g x := hr.symm
    subst this
    obtain ⟨f, r1, r2, _⟩ := q3.rd
    exact ⟨q1, ⟨f, r1, fun b hb => by
      refine frz_see h.gw (ts := l.map (·.1)) (us := [u']) (by simpa using hu) ?_
      rcases r2 b hb with hb | hb
      · exact .inr ⟨u', by simp, hb⟩
      · exact .inl (q4 b hb)⟩, hemp.1, hemp.2⟩
  · refine ⟨fun u => ?_, fun u v huv b hb => ?_, fun u b hb => ?_, fun u b hb => ?_⟩
    · rw [hG]; split
      · simp [GI.own]
      · exact h.gw.nodup u
    · rw [hG] at hb ⊢
      split at hb
      · simp [GI.own] at hb
      · split
        · simp [GI.own]
        · exact h.gw.disj u v huv b hb
    · rw [hG] at hb
      split at hb
      · simp [GI.own] at hb
      · exact h.gw.allow u b hb
    · rw [hG] at hb
      split at hb
      · simp [GI.own] at hb
      · exact h.gw.inb u b hb
  · by_cases hm : ∃ e', (u, e') ∈ l
    · obtain ⟨e', he'⟩ := hm
      obtain ⟨_, _, g, x, ety, sz, d, rfl, r⟩ := h1 u e' he'
      have r' := Res_sub hs r
      cases hh : hp u with
      | none => rw [hh] at r'; exact r'.elim
      | some e9 => exact h.usedH u e9 hh
    · rw [updH_not (fun e' he' => hm ⟨e', he'⟩)] at hu
      exact h.usedH u e hu
/-- A flat value meets no memory. -/
theorem flat_fp {w : World} {vs : List Value} {xs : List AV} {f : List Nat} (h : Rd w vs xs f) (hx : ∀ x ∈ xs, x.scalar = true) : f = [] := by
  induction h with
  | nil => rfl
  | int _ _ ih => exact ih fun x hm => hx x (by simp [hm])
  | bool _ ih => exact ih fun x hm => hx x (by simp [hm])
  | str _ _ ih => exact ih fun x hm => hx x (by simp [hm])
  | snil _ _ => have := hx _ List.mem_cons_self; simp [AV.scalar] at this
  | scons _ _ _ _ _ _ _ _ _ _ _ _ => have := hx _ List.mem_cons_self; simp [AV.scalar] at this
  | agg _ _ _ _ _ => have := hx _ List.mem_cons_self; simp [AV.scalar] at this
  | tup _ _ _ _ => have := hx _ List.mem_cons_self; simp [AV.scalar] at this
  | ref _ _ _ _ _ _ => have := hx _ List.mem_cons_self; simp [AV.scalar] at this
  | fn _ _ _ _ => have := hx _ List.mem_cons_self; simp [AV.scalar] at this
  | nilp _ _ => have := hx _ List.mem_cons_self; simp [AV.scalar] at this

theorem noBox_spec {ts : List Nat} (h : noBox hp0 gs ts = true) {t : Nat} (ht : t ∈ ts) {ty : Nat} {g : Bool} {cs : List SV} : look hp0 gs t ≠ some (.box ty g cs) := by
  intro hl
  simp only [noBox, Bool.not_eq_true', List.any_eq_false] at h
  have := h t ht
  rw [hl] at this; simp at this
theorem look_of_res {ρ : List AV} (k : gdOK ρ gs) {ts : List Nat} {l : List (Nat × Ent)} (hf : freezeAll hp0 gs ts = some l) {t : Nat} (ht : t ∈ ts) : (∃ g x, (t, Ent.frz g x) ∈ l) ∨ (∃ g x, look hp0 gs t = some (.frz g x)) ∨ ∃ ty g cs, look hp0 gs t = some (.box ty g cs) := by
  induction ts generalizing l with
  | nil => simp at ht
  | cons u ts ih =>
    unfold freezeAll at hf
    split at hf
    · rename_i ety sz g x d l' hl hl'
      split at hf
      · simp at hf; subst hf
        rcases List.mem_cons.1 ht with rfl | ht
        · exact .inl ⟨g, x, by simp⟩
        · rcases ih hl' ht with ⟨g', x', hh⟩ | hh
          · exact .inl ⟨g', x', by simp [hh]⟩
          · exact .inr hh
      · cases hf
    · rename_i g x l' hl hl'
      simp at hf; subst hf
      rcases List.mem_cons.1 ht with rfl | ht
      · exact .inr (.inl ⟨g, x, hl⟩)
      · exact ih hl' ht
    · rename_i ty g cs l' hl hl'
      simp at hf; subst hf
      rcases List.mem_cons.1 ht with rfl | ht
      · exact .inr (.inr ⟨ty, g, cs, hl⟩)
      · exact ih hl' ht
    · cases hf
/-- What a snapshot met is only read, once its rows are frozen. -/
theorem see_frozen (h : Rel c n sl hp a) (eh : EH c hp0) (k : gdOK c.ρ gs) {ts : List Nat} {l : List (Nat × Ent)} (hf : freezeAll hp0 gs ts = some l) (hb : noBox hp0 gs ts = true) {b : Nat} (hs : c.see ts b) : (c.frz (l.map (·.1))).ok b := by
  rcases hs with hs | ⟨t, ht, hbt⟩
  · exact Cx.frz_ok hs
  · rcases look_of_res k hf ht with ⟨g, x, hh⟩ | ⟨g, x, hh⟩ | ⟨ty, g, cs, hh⟩
    · exact frz_see h.gw (us := [t]) (by simpa using ⟨_, hh⟩) (.inr ⟨t, by simp, hbt⟩)
    · obtain ⟨_, _, htop, _⟩ := eh t _ (look_res hh k)
      rw [htop] at hbt; simp at hbt
    · exact absurd hh (noBox_spec hb ht)
/-- What is taken into a row's element: its value is only read from here on; flat values meet nothing. -/
theorem takeIn_spec (h : Rel c n sl hp a) (hs : ∀ t e, hp0 t = some e → hp t = some e) (k : gdOK c.ρ gs) {t : TypeId} {s : SV} {v : Value} (hr : SR c [s] [v]) {x : E} {fz : List (Nat × Ent)} {d : Bool} {ck : List Cn} (ht : takeIn P hp0 gs t s = some (x, fz, d, ck)) (hc : ∀ q ∈ ck, q.den c.ρ) :
    ∃ f, Rd c.w [v] [x.den c.ρ] f ∧ (d = true → f = []) ∧ (∃ ts, freezeAll hp0 gs ts = some fz ∧ ∀ b ∈ f, (c.frz (fz.map (·.1))).ok b) ∧
      (if aggT P t then ∃ cs, x.den c.ρ = .agg cs ∧ cs.length = P.cellsOf t else (∀ cs, x.den c.ρ ≠ .agg cs) ∧ ∀ cs, x.den c.ρ ≠ .tup cs) := by
  have eh : EH c hp0 := fun t e hr => h.ents t e (Res_sub hs hr)
  unfold takeIn at ht
  split at ht
  · cases ht
  · rename_i y hy
    obtain ⟨f, q1, q2⟩ := toEN_rd eh k deepFuel hy hr deepFuel (Nat.le_refl _)
    split at ht
    · simp at ht; obtain ⟨rfl, rfl, rfl, rfl⟩ := ht
      obtain ⟨c1, c2, c3, c4⟩ := hc1 hc
      have hf : f = [] := by
        cases hg : aggT P t with
        | true =>
          obtain ⟨cs, hcs⟩ := c3 hg
          obtain ⟨as, rfl, _, r⟩ := agg_of q1 hcs
          exact flat_fp r (by rw [hcs] at c2; exact c2)
        | false => exact flat_fp q1 (by simpa using c4 hg)
      subst hf
      refine ⟨[], q1, fun _ => rfl, ⟨[], rfl, by simp⟩, ?_⟩
      split
      · rename_i hg
        obtain ⟨cs, hcs⟩ := c3 hg
        exact ⟨cs, hcs, by rw [hcs] at c1; exact c1⟩
      · rename_i hg
        have := c4 (by simpa using hg)
        exact ⟨fun cs hcs => by rw [hcs] at this; simp [AV.scalar] at this, fun cs hcs => by rw [hcs] at this; simp [AV.scalar] at this⟩
    · split at ht
      · rename_i hnb
        split at ht
        · cases ht
        · rename_i l hl
          simp only [Option.some.injEq, Prod.mk.injEq] at ht; obtain ⟨rfl, rfl, rfl, rfl⟩ := ht
          refine ⟨f, q1, by simp, ⟨_, hl, fun b hb => see_frozen h eh k hl hnb (q2 b hb)⟩, ?_⟩
          have hq := hc1 hc
          unfold valCn at hq
          split
          · rename_i hg
            rw [if_pos hg] at hq
            obtain ⟨cs, hcs, hl⟩ := hq
            exact ⟨cs, hcs, hl⟩
          · rename_i hg
            rw [if_neg hg] at hq
            exact hq
      · cases ht
end
end Go.Proofs.Ytjneaalpiangdaa
end

/- Part VT. append. Program independent. -/
section
namespace Go.Proofs.Ytjneaalpiangdaa
open Go.RowKit
section
variable {P : Program} {c : Cx} {n nx : Nat} {sl sl0 : Nat → SV} {hp hp0 : Nat → Option Ent} {a : Act} {o : Oper} {gs : Gd} {e : Eff} {sg : Nat → Option Sig} {nv : Nat}
/-- What append leaves of a row of one's own whose cells are old. -/
theorem app_run (w : World) (t ty el : TypeId) (i : TypeInfo) (z : Value) (ht : P.underlying t = some (.slice el)) (hi : P.info? el = some i) (hz : i.zero = some z) (hzs : z.cells.size = i.size) (hsz : 0 < i.size)
    (Own : Nat → Prop) (v : Value) (k : Nat) (old : List Value) (ho : old.length = k * i.size)
    (hrow : (k = 0 ∧ ∃ q, v = .slice q 0 0) ∨ ∃ g cap C, v = .slice (some ⟨g, 0, none⟩) k cap ∧ k ≤ cap ∧ cap ≤ maxLen ∧ w.heap[g]? = some (.cells C el (0, 0)) ∧ C.size = cap * i.size ∧ old = C.toList.take (k * i.size) ∧ Own g)
    (q : Option Addr) (m r : Nat) (news : List Value) (hs : Src w i.size q m news) (h63 : k + m ≤ maxLen) (hb : (k + m) * i.bytes ≤ 140737488355328) :
    ∃ v' w', (Builtin.append_ #[t, t] ty #[v, .slice q m r]).run P w = .ok v' w' ∧
      ((v' = v ∧ w' = w ∧ m = 0) ∨ ∃ g cap C, v' = .slice (some ⟨g, 0, none⟩) (k + m) cap ∧ k + m ≤ cap ∧ cap ≤ maxLen ∧ w'.heap[g]? = some (.cells C el (0, 0)) ∧ C.size = cap * i.size ∧ C.toList.take ((k + m) * i.size) = old ++ news ∧
        w.grownBy w' (some g) ∧ ((g = w.heap.size ∧ g < w'.heap.size) ∨ Own g)) := by
  have hnl : news.length = m * i.size := by
    rcases hs with ⟨rfl, rfl, rfl⟩ | ⟨ad, rfl, h1, _⟩
    · simp
    · exact h1
  have hlen : (old ++ news).length = (k + m) * i.size := by rw [List.length_append, ho, hnl, Nat.add_mul]
  have grown : ∀ (cp : Nat), cp < k + m → ∀ (X : Array Value), X.toList = old ++ news → ∃ C, C = X ++ Builtin.zeroCells z.cells (grownCap w (k + m) cp el - (k + m)) ∧
      k + m ≤ grownCap w (k + m) cp el ∧ grownCap w (k + m) cp el ≤ maxLen ∧ C.size = grownCap w (k + m) cp el * i.size ∧ C.toList.take ((k + m) * i.size) = old ++ news := by
    intro cp hcp X hX
    have hge := grownCap_ge w (k + m) cp el
    have hcm := grownCap_le_maxLen w (k + m) cp el h63
    refine ⟨_, rfl, hge, hcm, ?_, ?_⟩
    · have hXs : X.size = (k + m) * i.size := by rw [← Array.length_toList, hX, hlen]
      rw [Array.size_append, hXs, size_zeroCells, hzs, ← Nat.add_mul]
      congr 1; omega
    · rw [Array.toList_append, hX, ← hlen]
      exact List.take_left
  have newb : ∀ C : Array Value, w.grownBy (w.drew.alloc (.cells C el)) (some w.heap.size) ∧ w.heap.size < (w.drew.alloc (.cells C el)).heap.size ∧ (w.drew.alloc (.cells C el)).heap[w.heap.size]? = some (.cells C el (0, 0)) :=
    fun C => ⟨⟨rfl, rfl, rfl, by simp, fun j hj _ => Below.heap_alloc w.drew _ _ hj⟩, by simp, heap_alloc_new w.drew _⟩
  rcases hrow with ⟨rfl, p, rfl⟩ | ⟨g, cap, C, rfl, hnc, hcm, hg, hcs, hold, hOwn⟩
  · have hold : old = [] := List.eq_nil_of_length_eq_zero (by simpa using ho)
    subst hold
    by_cases hm : m = 0
    · subst hm
      have hn : news = [] := List.eq_nil_of_length_eq_zero (by simpa using hnl)
      subst hn
      refine ⟨_, w, ?_, .inl ⟨rfl, rfl, rfl⟩⟩
      rcases hs with ⟨rfl, _, _⟩ | ⟨ad, rfl, _⟩ <;> cases p <;>
        simp [Builtin.append_, run_underlying ht, sizeOf, typeInfo, hi, Builtin.lenOf, Builtin.firstCells, loadCells, loadCellsFrom, storeCells]
    · rcases hs with ⟨_, rfl, _⟩ | ⟨ad, rfl, h1, h2, h3⟩
      · exact absurd rfl hm
      · obtain ⟨C', hC', g1, g2, g3, g4⟩ := grown 0 (by omega) news.toArray (by simp)
        cases p with
        | none =>
          have hr := run_append_nil (P := P) w t ty el i z ht hi hz ad m r news h1 h2 (by omega) (by simp only [maxLen] at h63; omega) (by have hb := hb; simp only [Nat.zero_add] at hb; omega)
          simp only [Nat.zero_add] at g1 g2 g3 g4 hC' ⊢
          obtain ⟨n1, n2, n3⟩ := newb C'
          refine ⟨_, _, hr, .inr ⟨_, _, C', rfl, g1, g2, ?_, g3, g4, ?_, .inl ⟨rfl, ?_⟩⟩⟩ <;> rw [← hC'] <;> first | exact n3 | exact n1 | exact n2
        | some p =>
          have hr := run_append_grow (P := P) w t ty el i z ht hi hz p 0 0 [] (by simp) (by simp) ad m r news h1 h2 (by omega) (by simp only [maxLen] at h63; omega) (growslice_fits (by omega) hb)
          rw [show (([] : List Value).toArray ++ news.toArray) = news.toArray by simp] at hr
          simp only [Nat.zero_add] at g1 g2 g3 g4 hC' hr ⊢
          obtain ⟨n1, n2, n3⟩ := newb C'
          refine ⟨_, _, hr, .inr ⟨_, _, C', rfl, g1, g2, ?_, g3, g4, ?_, .inl ⟨rfl, ?_⟩⟩⟩ <;> rw [← hC'] <;> first | exact n3 | exact n1 | exact n2
  · rcases hs with ⟨rfl, rfl, rfl⟩ | ⟨ad, rfl, h1, h2, h3⟩
    · refine ⟨_, w, ?_, .inl ⟨rfl, rfl, rfl⟩⟩
      simp [Builtin.append_, run_underlying ht, sizeOf, typeInfo, hi, Builtin.lenOf, Builtin.firstCells, hnc, storeCells]
    · by_cases hroom : k + m ≤ cap
      · have hfit : k * i.size + news.length ≤ C.size := by rw [h1, hcs, ← Nat.add_mul]; exact Nat.mul_le_mul_right _ hroom
        have hr := run_append_room (P := P) w t ty el i ht hi g k cap C hg ad m r news h1 h2 h3 hroom hfit
        refine ⟨_, _, hr, .inr ⟨g, cap, _, rfl, hroom, hcm, setRow_heap w g C _ el _ hg, ?_, ?_, ⟨rfl, rfl, rfl, by simp, fun j _ hj => setRow_other w g j _ (fun hh => hj (by rw [hh]))⟩, .inr hOwn⟩⟩
        · simp only [List.size_toArray, List.length_append, List.length_take, List.length_drop, Array.length_toList]
          omega
        · rw [← hold, ← hlen]
          exact List.take_left
      · have holds : ∀ j u, old[j]? = some u → w.cell? ((⟨g, 0, none⟩ : Addr).add j) = some u := fun j u hu => by
          rw [Addr.add_lit, Nat.zero_add, cell_of_block hg]
          rw [hold, List.getElem?_take] at hu
          split at hu
          · simpa using hu
          · cases hu
        have hr := run_append_grow (P := P) w t ty el i z ht hi hz ⟨g, 0, none⟩ k cap old ho holds ad m r news h1 h2 (by omega) (by simp only [maxLen] at h63; omega) (growslice_fits (by omega) hb)
        obtain ⟨C', hC', g1, g2, g3, g4⟩ := grown cap (by omega) (old.toArray ++ news.toArray) (by simp)
        obtain ⟨n1, n2, n3⟩ := newb C'
        refine ⟨_, _, hr, .inr ⟨_, _, C', rfl, g1, g2, ?_, g3, g4, ?_, .inl ⟨rfl, ?_⟩⟩⟩ <;> rw [← hC'] <;> first | exact n3 | exact n1 | exact n2

/-- The surroundings behind a change of the row at tag t: generation g' has the header v. -/
def Cx.regrow (c : Cx) (t g' : Nat) (w' : World) (v : Value) (top O : List Nat) : Cx :=
  { c with w := w', G := fun u => if u = t then ⟨top, O⟩ else c.G u, K := fun u g => c.K u g ∨ (u = t ∧ g = g'), H := fun u g => if u = t ∧ g = g' then v else c.H u g, U := fun u => c.U u ∨ u = t }
theorem Rel.regrow (h : Rel c n sl hp a) {t g : Nat} (hpin : c.A.pin t = none ∨ g ≠ 0) (hnew : ¬ c.K t g) {w' : World} {row : Option Nat} (hg : c.w.grownBy w' row)
    (hg0 : ∀ g0, row = some g0 → g0 ∈ (c.G t).top ∨ (g0 = c.w.heap.size ∧ g0 < w'.heap.size)) {top O : List Nat} (htop : top = [] ∨ ∃ g0, row = some g0 ∧ top = [g0]) (hO : O = [] ∨ O = (c.G t).O) {v : Value} (e1 : Ent) (hne : ∀ hs f, e1 ≠ .gd hs f) (k : gdOK c.ρ gs)
    (he : Keep c (c.regrow t g w' v top O) → EntR (c.regrow t g w' v top O) t e1) : Rel (c.regrow t g w' v top O) n sl (updH hp [(t, mkGdE gs e1)]) a := by
  have hG : ∀ u, (c.regrow t g w' v top O).G u = if u = t then ⟨top, O⟩ else c.G u := fun u => rfl
  have hM : ∀ b, (c.regrow t g w' v top O).M b → c.M b ∨ row = some b := by
    rintro b ⟨u, hu⟩
    rw [hG] at hu
    split at hu
    · rcases htop with rfl | ⟨g0, hr, rfl⟩
      · simp at hu
      · simp at hu; subst hu; exact .inr hr
    · exact .inl ⟨u, hu⟩
  have hg0M : ∀ b, b < c.w.heap.size → c.ok b → row ≠ some b := by
    intro b hb hok hr
    rcases hg0 b hr with hh | ⟨hh, _⟩
    · exact hok.1 ⟨t, hh⟩
    · omega
  have hkeep : Keep c (c.regrow t g w' v top O) := by
    refine ⟨rfl, fun b hb hok => ⟨fun hm => (hM b hm).elim hok.1 (hg0M b hb hok), hok.2⟩, fun b hb hok => hg.block b hb (fun hh => hg0M b hb hok hh.symm), fun u g1 hu => ⟨.inl hu, ?_⟩⟩
    simp only [Cx.regrow]
    rw [if_neg]; rintro ⟨rfl, rfl⟩; exact hnew hu
  have hup : ∀ u, updH hp [(t, mkGdE gs e1)] u = if u = t then some (mkGdE gs e1) else hp u := fun u => rfl
  have hne0 : ∀ u, u ≠ t → ∀ b ∈ (c.G u).own, row ≠ some b := by
    intro u hu b hb hr
    rcases hg0 b hr with hh | ⟨hh, _⟩
    · exact h.gw.disj u t hu b hb (by simp [GI.own, hh])
    · have := h.gw.inb u b hb; omega
  have hsub : ∀ b ∈ (⟨top, O⟩ : GI).own, row = some b ∨ b ∈ (c.G t).own := by
    intro b hb
    simp only [GI.own, List.mem_append] at hb ⊢
    rcases hb with hb | hb
    · rcases htop with rfl | ⟨g0, hr, rfl⟩
      · simp at hb
      · simp at hb; subst hb; exact .inl hr
    · rcases hO with rfl | rfl
      · simp at hb
      · exact .inr (.inr hb)
  refine h.change (fun u => u = t) hkeep ⟨hg.os.trans h.base.os, hg.tape.trans h.base.tape, hg.output.trans h.base.output, Nat.le_trans h.base.size hg.size, fun u v' hp => ⟨.inl (h.base.pins u v' hp).1, fun hk => ?_⟩, fun b hb hmu => ?_⟩
    (fun u hu => ⟨by rw [hup, if_neg hu], by rw [hG, if_neg hu], fun g1 hh => hh.resolve_right (fun hh => hu hh.1)⟩) (fun u hu b hb => hg.block b (h.gw.inb u b (by simp [GI.own, hb])) (fun hh => hne0 u hu b (by simp [GI.own, hb]) hh.symm)) (fun u hu => ?_) ?_ (fun u g1 hh => ?_) (fun u f hf => ?_)
  · have hut : ¬ (u = t ∧ 0 = g) := by
      rintro ⟨rfl, rfl⟩
      rcases hpin with hh | hh
      · have hp' : c.A.pin u = some v' := hp
        rw [hh] at hp'; cases hp'
      · exact hh rfl
    have hk' := hk.resolve_right hut
    simp only [Cx.regrow]
    rw [if_neg hut]; exact (h.base.pins u v' hp).2 hk'
  · refine (hg.block b (Nat.lt_of_lt_of_le hb h.base.size) (fun hh => ?_)).trans (h.base.block b hb hmu)
    rcases hg0 b hh.symm with hh | ⟨hh, _⟩
    · rcases h.gw.allow t b (by simp [GI.own, hh]) with h1 | h1
      · exact absurd h1 (Nat.not_le.2 hb)
      · exact hmu h1
    · have := h.base.size; have h9 : b < c.w0.heap.size := hb; omega
  · subst hu
    rw [hup, if_pos rfl]
    exact ⟨fun e' hr => by rw [(Res_mkGdE k hne).1 hr]; exact he hkeep, fun hn => absurd ((Res_mkGdE k hne).2 rfl) (hn e1)⟩
  · have hnd : (⟨top, O⟩ : GI).own.Nodup := by
      have h0 := h.gw.nodup t
      simp only [GI.own] at h0 ⊢
      rw [List.nodup_append] at h0 ⊢
      refine ⟨by rcases htop with rfl | ⟨g0, hr, rfl⟩ <;> simp, by rcases hO with rfl | rfl; simp; exact h0.2.1, fun p hp q hq => ?_⟩
      rcases htop with rfl | ⟨g0, hr, rfl⟩
      · simp at hp
      · simp at hp; subst hp
        rcases hO with rfl | rfl
        · simp at hq
        · rcases hg0 p hr with hh | ⟨hh, _⟩
          · exact h0.2.2 p hh q hq
          · have := h.gw.inb t q (by simp [GI.own, hq]); omega
    refine ⟨fun u => ?_, fun u u' huu b hb => ?_, fun u b hb => ?_, fun u b hb => ?_⟩
    · rw [hG]; split
      · exact hnd
      · exact h.gw.nodup u
    · rw [hG] at hb ⊢
      by_cases h1 : u = t
      · rw [if_pos h1] at hb
        rw [if_neg (fun hh => huu (h1.trans hh.symm))]
        rcases hsub b hb with hr | hb
        · exact fun hh => hne0 u' (fun h2 => huu (h1.trans h2.symm)) b hh hr
        · exact h.gw.disj t u' (fun hh => huu (h1.trans hh)) b hb
      · rw [if_neg h1] at hb
        by_cases h2 : u' = t
        · rw [if_pos h2]
          intro hb'
          rcases hsub b hb' with hr | hb'
          · exact hne0 u h1 b hb hr
          · exact h.gw.disj u t h1 b hb hb'
        · rw [if_neg h2]; exact h.gw.disj u u' huu b hb
    · rw [hG] at hb
      split at hb
      · rcases hsub b hb with hr | hb
        · rcases hg0 b hr with hh | ⟨hh, _⟩
          · exact h.gw.allow t b (by simp [GI.own, hh])
          · exact .inl (by rw [hh]; exact h.base.size)
        · exact h.gw.allow t b hb
      · exact h.gw.allow u b hb
    · rw [hG] at hb
      show b < w'.heap.size
      split at hb
      · rcases hsub b hb with hr | hb
        · rcases hg0 b hr with hh | ⟨_, hh⟩
          · exact Nat.lt_of_lt_of_le (h.gw.inb t b (by simp [GI.own, hh])) hg.size
          · exact hh
        · exact Nat.lt_of_lt_of_le (h.gw.inb t b hb) hg.size
      · exact Nat.lt_of_lt_of_le (h.gw.inb u b hb) hg.size
  · rcases hh with hh | ⟨rfl, _⟩
    · exact .inl (h.usedK u g1 hh)
    · exact .inr rfl
  · rw [hup] at hf
    split at hf
    · rename_i hu; exact .inr hu
    · exact .inl (h.usedH u f hf)
theorem len_of {x : AV} {m : Int} (h : x.len = .int .i64 m) : ∃ xs, x = .sl xs ∧ m = xs.length := by
  cases x <;> simp [AV.len] at h
  exact ⟨_, rfl, h.symm⟩
/-- The cells of a slice that reads as ys. -/
theorem src_of {w : World} {v : Value} {ys : List AV} {f : List Nat} {sz : Nat} (h : Rd w [v] [.sl ys] f) (hs : ∀ y ∈ ys, y.cells.length = sz) :
    ∃ q r news N, v = .slice q ys.length r ∧ Src w sz q ys.length news ∧ Rd w news (flatC ys) N ∧ (∀ b ∈ N, b ∈ f) ∧ news.length = ys.length * sz ∧ (∀ u ∈ news, u.oneCell' = true) := by
  rcases h.kind with hh | hh | hh | hh | hh | hh | hh | hh | hh | hh
  · obtain ⟨_, _, _, hh, _⟩ := hh; cases hh
  · obtain ⟨_, _, hh, _⟩ := hh; cases hh
  · obtain ⟨_, _, hh, _⟩ := hh; cases hh
  · obtain ⟨p, r, rfl, hh, rfl⟩ := hh
    cases hh
    refine ⟨p, r, [], [], rfl, ?_, .nil, by simp, by simp, by simp⟩
    cases p with
    | none => exact .inl ⟨rfl, rfl, rfl⟩
    | some p => exact .inr ⟨p, rfl, by simp, by simp, by simp⟩
  · obtain ⟨b, off, m, r, ys', cs, C, t, fz, sz', f1, rfl, hh, rfl, hb, h1, h2, h3, h4, h5, h6, h6', h7⟩ := hh
    cases hh
    subst h3
    have hss : sz' = sz := by
      cases ys with
      | nil => simp at h1
      | cons y ys => rw [← h4 y (by simp), hs y (by simp)]
    subst hss
    have hl := h7.len
    rw [flatC_len ys h4] at hl
    exact ⟨_, r, cs, f1, rfl, .inr ⟨_, rfl, hl, fun j u hu => by rw [Addr.add_lit, cell_of_block hb]; exact h6 j u hu, h6'⟩, h7, fun q hq => by simp [hq], hl, h6'⟩
  · obtain ⟨_, _, _, hh, _⟩ := hh; cases hh
  · obtain ⟨_, _, _, hh, _⟩ := hh; cases hh
  · obtain ⟨_, _, _, _, _, _, _, hh, _⟩ := hh; cases hh
  · obtain ⟨_, _, _, _, hh, _⟩ := hh; cases hh
  · obtain ⟨_, hh, _⟩ := hh; cases hh
end
end Go.Proofs.Ytjneaalpiangdaa
end

/- Part VU. append, second part. Program independent. -/
section
namespace Go.Proofs.Ytjneaalpiangdaa
open Go.RowKit
section
variable {P : Program} {c : Cx} {n nx : Nat} {sl sl0 : Nat → SV} {hp hp0 : Nat → Option Ent} {a : Act} {o : Oper} {gs : Gd} {e : Eff} {sg : Nat → Option Sig} {nv : Nat}
theorem updH_app (hp : Nat → Option Ent) (l m : List (Nat × Ent)) : updH hp (l ++ m) = updH (updH hp l) m := by simp [updH, List.foldl_append]
/-- A slice whose elements are taken into a row. -/
theorem takeRow_spec (h : Rel c n sl hp a) (hs : ∀ t e, hp0 t = some e → hp t = some e) (k : gdOK c.ρ gs) {el : TypeId} {s : SV} {v : Value} (hr : SR c [s] [v]) {y : E} (hy : toEN hp0 gs deepFuel s = some y) {fz : List (Nat × Ent)} {d : Bool} {ck : Cn} (ht : takeRow P hp0 gs el s y = some (fz, d, ck)) (hc : ck.den c.ρ) :
    ∃ ts ys q r news N, freezeAll hp0 gs ts = some fz ∧ y.den c.ρ = .sl ys ∧ (∀ z ∈ ys, z.cells.length = P.cellsOf el) ∧ v = .slice q ys.length r ∧ Src c.w (P.cellsOf el) q ys.length news ∧ Rd c.w news (flatC ys) N ∧ (∀ b ∈ N, (c.frz (fz.map (·.1))).ok b) ∧ (d = true → N = []) ∧ news.length = ys.length * P.cellsOf el ∧ ∀ u ∈ news, u.oneCell' = true := by
  have eh : EH c hp0 := fun t e hr => h.ents t e (Res_sub hs hr)
  obtain ⟨f, q1, q2⟩ := toEN_rd eh k deepFuel hy hr deepFuel (Nat.le_refl _)
  unfold takeRow at ht
  split at ht
  · simp only [Option.some.injEq, Prod.mk.injEq] at ht; obtain ⟨rfl, rfl, rfl⟩ := ht
    obtain ⟨ys, hys, hcl⟩ := hc
    rw [hys] at q1
    obtain ⟨q, r, news, N, hv, g1, g2, g3, g4, g5⟩ := src_of q1 (fun z hz => (hcl z hz).1)
    have hN : N = [] := flat_fp g2 (fun x hx => by
      obtain ⟨z, hz, hx⟩ := List.mem_flatMap.1 hx
      exact (hcl z hz).2 x hx)
    exact ⟨[], ys, q, r, news, N, rfl, hys, fun z hz => (hcl z hz).1, hv, g1, g2, by simp [hN], fun _ => hN, g4, g5⟩
  · split at ht
    · rename_i hnb
      obtain ⟨l, hl, ht⟩ := Option.map_eq_some_iff.1 ht
      simp only [Prod.mk.injEq] at ht; obtain ⟨rfl, rfl, rfl⟩ := ht
      obtain ⟨ys, hys, hcl⟩ := hc
      rw [hys] at q1
      obtain ⟨q, r, news, N, hv, g1, g2, g3, g4, g5⟩ := src_of q1 hcl
      exact ⟨_, ys, q, r, news, N, hl, hys, hcl, hv, g1, g2, fun b hb => see_frozen h eh k hl hnb (q2 b (g3 b hb)), by simp, g4, g5⟩
    · cases ht
theorem zeroOK_spec {el : TypeId} (h : zeroOK P el = true) : ∃ i z, P.info? el = some i ∧ i.zero = some z ∧ z.cells.size = i.size ∧ 0 < i.size ∧ P.cellsOf el = i.size ∧ P.bytesOf el = i.bytes := by
  unfold zeroOK at h
  cases hi : P.info? el with
  | none => simp [hi] at h
  | some i =>
    cases hz : i.zero with
    | none => simp [hi, hz] at h
    | some z =>
      simp only [hi, hz, Bool.and_eq_true, beq_iff_eq, bne_iff_ne] at h
      exact ⟨i, z, rfl, hz, h.1, by omega, by simp [Program.cellsOf, hi], by simp [Program.bytesOf, hi]⟩
theorem flatC_append (xs ys : List AV) : flatC (xs ++ ys) = flatC xs ++ flatC ys := by simp [flatC]
theorem does_appendTo (h : Pre P c n nx sl hp a sl0 hp0 o gs) {x y : Operand} {tx : TypeId} {cl : Call} (ho : o.op = .call cl) (hcl : cl.callee = .builtin .append) (ha1 : cl.args.toList = [x, y]) (ha2 : cl.argTypes.toList = [tx, tx])
    {el : TypeId} (hel : P.underlying tx = some (.slice el)) (hz : zeroOK P el = true) {s2 : SV} {ye : E} (hs2 : operandSV sl0 gs y = some s2) (hy : toEN hp0 gs deepFuel s2 = some ye) {fz : List (Nat × Ent)} {d : Bool} {ck : Cn} (htk : takeRow P hp0 gs el s2 ye = some (fz, d, ck)) (hck : ck.den c.ρ)
    {t g : Nat} (hpin : c.A.pin t = none ∨ g ≠ 0) {c0 : E} {d' : Bool} (hroom : Cn.den c.ρ (.room c0 ye (P.bytesOf el))) (hnt : ∀ f, (t, f) ∉ fz) (hnew : ¬ c.K t g)
    {top N0 : List Nat} {v : Value} (hv : a.eval x = v) (hrow : OwnRow c.w el (P.cellsOf el) v (c0.den c.ρ) top N0) (htop : (c.G t).top = top) (hN0 : ∀ b ∈ N0, c.ok b) (hd0 : d' = true → Uni c.w N0 ∧ (c.G t).O = N0) (hgen : ∀ g', c.K t g' → g' ≤ g) (hU : ∀ u, u = t → c.U u ∨ (nx ≤ u ∧ u < nx + idsPerOp)) {ckl : List Cn} :
    Does P o c n nx sl hp gs a { chk := ckl, val := .own t g, ent := fz ++ [(t, mkGdE gs (.row el (P.cellsOf el) g (.app c0 ye) (d && d')))] } := by
  have hargs : cl.args = #[x, y] := by apply Array.ext'; simp [ha1]
  have htys : cl.argTypes = #[tx, tx] := by apply Array.ext'; simp [ha2]
  have hm2 : y ∈ o.op.operands := by simp [ho, Op.operands, Call.operands, hcl, hargs]
  obtain ⟨i, z, hi, hiz, hzs, hsz, hco, hby⟩ := zeroOK_spec hz
  obtain ⟨ts, ys, q, r, news, N, hfz, hys, hyc, hv2, hsrc, hnews, hNok, hdN, hnl, hn1⟩ := takeRow_spec h.rel h.hp h.gs (h.opd hs2 hm2) hy htk hck
  have hrel1 := h.rel.freeze h.hp h.gs hfz
  obtain ⟨xs, hxs, hxc, _, hcase⟩ := hrow
  obtain ⟨mm, kk, hr1, hr2, hr3, hr4⟩ := hroom
  rw [hxs] at hr1; rw [hys] at hr2
  simp only [AV.len, AV.int.injEq, true_and] at hr1 hr2
  have hb1 : (xs.length + ys.length) * i.bytes ≤ 140737488355328 := by
    rw [← hr1, ← hr2, hby] at hr3
    have h9 : (((xs.length + ys.length) * i.bytes : Nat) : Int) ≤ 140737488355328 := by rw [Int.natCast_mul, Int.natCast_add]; exact hr3
    omega
  have hb2 : xs.length + ys.length ≤ 140737488355328 := by rw [← hr1, ← hr2] at hr4; omega
  rw [hco] at hsrc hnl hxc hyc hcase
  -- the cells of the row before
  obtain ⟨old, hold, hrowA, hrd, hone⟩ : ∃ old, old.length = xs.length * i.size ∧ ((xs.length = 0 ∧ ∃ q, v = .slice q 0 0) ∨ ∃ g cap C, v = .slice (some ⟨g, 0, none⟩) xs.length cap ∧ xs.length ≤ cap ∧ cap ≤ maxLen ∧ c.w.heap[g]? = some (.cells C el (0, 0)) ∧ C.size = cap * i.size ∧ old = C.toList.take (xs.length * i.size) ∧ g ∈ (c.G t).top) ∧ Rd c.w old (flatC xs) N0 ∧ ∀ u ∈ old, u.oneCell' = true := by
    rcases hcase with ⟨rfl, ⟨p, rfl⟩, rfl, rfl⟩ | ⟨g9, cap, C, rfl, h6, h7, h8, h9, rfl, h10, h11⟩
    · exact ⟨[], by simp, .inl ⟨rfl, p, rfl⟩, .nil, by simp⟩
    · refine ⟨_, ?_, .inr ⟨g9, cap, C, rfl, h6, h7, h8, h9, rfl, by rw [htop]; simp⟩, h11, h10⟩
      have e9 : C.toList.length = cap * i.size := by rw [← h9]; simp
      rw [List.length_take, e9]
      exact Nat.min_eq_left (Nat.mul_le_mul_right _ h6)
  obtain ⟨v', w', hrun, hres⟩ := app_run (P := P) c.w tx o.type el i z hel hi hiz hzs hsz (fun g9 => g9 ∈ (c.G t).top) v xs.length old hold hrowA q ys.length r news hsrc (by simp only [maxLen]; omega) hb1
  have hrun' : (execOp a.eval o).run P c.w = .ok (.value v') w' := by
    simp [execOp, ho, resolve, hcl, hargs, htys, invoke, builtin, hv, hv2, hrun]
  intro next Q hk
  unfold Oper.wp
  rw [hrun', Oper.upon_value]
  have hc1w : (c.frz (fz.map (·.1))).w = c.w := rfl
  have hGt : (c.frz (fz.map (·.1))).G t = c.G t := by
    simp only [Cx.frz]; rw [if_neg]; rintro hh
    obtain ⟨⟨u, f⟩, hf, rfl⟩ := List.mem_map.1 hh
    exact hnt f hf
  -- row touched, top block behind
  obtain ⟨row, top', hgrow, hg0, htop', hown, hsl⟩ : ∃ row top', c.w.grownBy w' row ∧ (∀ g0, row = some g0 → g0 ∈ (c.G t).top ∨ (g0 = c.w.heap.size ∧ g0 < w'.heap.size)) ∧ (top' = [] ∨ ∃ g0, row = some g0 ∧ top' = [g0]) ∧
      (Keep (c.frz (fz.map (·.1))) ((c.frz (fz.map (·.1))).regrow t g w' v' top' (if (d && d') = true then (c.G t).O else [])) → ∃ N', OwnRow w' el (P.cellsOf el) v' (.sl (xs ++ ys)) top' N' ∧ (∀ b ∈ N', b ∈ N0 ∨ b ∈ N) ∧ ((d && d') = true → N' = N0)) ∧ ∃ p m r, v' = .slice p m r := by
    rcases hres with ⟨rfl, rfl, hm0⟩ | ⟨g9, cap, C, rfl, h1, h2, h3, h4, h5, h6, h7⟩
    · have hy0 : ys = [] := List.eq_nil_of_length_eq_zero hm0
      subst hy0
      refine ⟨if top = [] then none else top.head?, top, ⟨rfl, rfl, rfl, Nat.le_refl _, fun _ _ _ => rfl⟩, fun g0 hg0 => .inl ?_, ?_, fun _ => ⟨N0, ?_, fun b hb => .inl hb, fun _ => rfl⟩, ?_⟩
      · rw [htop]; split at hg0
        · cases hg0
        · exact List.mem_of_mem_head? hg0
      · rcases hcase with ⟨_, _, rfl, _⟩ | ⟨g9, _, _, _, _, _, _, _, rfl, _⟩
        · exact .inl rfl
        · exact .inr ⟨g9, by simp, rfl⟩
      · rw [hco]; exact ⟨xs, by simp, hxc, hsz, hcase⟩
      · rcases hrowA with ⟨_, p, rfl⟩ | ⟨g9, cap, C, rfl, _⟩
        · exact ⟨_, _, _, rfl⟩
        · exact ⟨_, _, _, rfl⟩
    · refine ⟨some g9, [g9], h6, fun g0 hg0 => ?_, .inr ⟨g9, rfl, rfl⟩, fun hkp => ⟨N0 ++ N, ⟨xs ++ ys, rfl, fun z hz => ?_, by rw [hco]; exact hsz, .inr ⟨g9, cap, C, by simp, by simpa using h1, h2, h3, by rw [hco]; exact h4, rfl, ?_, ?_⟩⟩, fun b hb => List.mem_append.1 hb, fun hdd => ?_⟩, _, _, _, rfl⟩
      · cases hg0
        exact h7.symm
      · rcases List.mem_append.1 hz with hz | hz
        · rw [hco]; exact hxc z hz
        · rw [hco]; exact hyc z hz
      · rw [hco]; simp only [List.length_append]
        rw [h5]; intro u hu
        rcases List.mem_append.1 hu with hu | hu
        · exact hone u hu
        · exact hn1 u hu
      · rw [hco]; simp only [List.length_append]
        rw [h5, flatC_append]
        refine Rd.app (hrd.frame fun b hb => ?_) (hnews.frame fun b hb => ?_)
        · have hb1 := hrd.inb b hb
          exact hkp.mem b hb1 (Cx.frz_ok (hN0 b hb))
        · have hb1 := hnews.inb b hb
          exact hkp.mem b hb1 (hNok b hb)
      · simp only [Bool.and_eq_true] at hdd
        rw [hdN hdd.1]; simp
  obtain ⟨p9, m9, r9, hv9⟩ := hsl
  have hfin := hrel1.regrow (gs := gs) (t := t) (g := g) (w' := w') (row := row) (top := top') (O := if (d && d') = true then (c.G t).O else []) (v := v') hpin hnew hgrow (by rw [hGt]; exact hg0) htop' (by split; exact .inr (by rw [hGt]); exact .inl rfl)
    (.row el (P.cellsOf el) g (.app c0 ye) (d && d')) (by intros; simp) h.gs (fun hkp => by
      obtain ⟨N', o1, o2, o3⟩ := hown hkp
      have hok : ∀ b ∈ N', ((c.frz (fz.map (·.1))).regrow t g w' v' top' (if (d && d') = true then (c.G t).O else [])).ok b := by
        intro b hb
        rcases o2 b hb with hb | hb
        · exact hkp.ok b (hrd.inb b hb) (Cx.frz_ok (hN0 b hb))
        · exact hkp.ok b (hnews.inb b hb) (hNok b hb)
      refine ⟨.inr ⟨rfl, rfl⟩, fun g' hg' => ?_, N', ?_, hok, fun hdd => ?_, fun hdd => ?_⟩
      · rcases hg' with hg' | ⟨_, rfl⟩
        · exact hgen g' hg'
        · exact Nat.le_refl _
      · have e1 : ((c.frz (fz.map (·.1))).regrow t g w' v' top' (if (d && d') = true then (c.G t).O else [])).H t g = v' := by simp [Cx.regrow]
        have e2 : (((c.frz (fz.map (·.1))).regrow t g w' v' top' (if (d && d') = true then (c.G t).O else [])).G t).top = top' := by simp [Cx.regrow]
        rw [e1, e2]
        show OwnRow w' el (P.cellsOf el) v' (AV.app (c0.den c.ρ) (ye.den c.ρ)) top' N'
        rw [hxs, hys]; exact o1
      · have hN' := o3 hdd
        have hdd' : d' = true := by simp only [Bool.and_eq_true] at hdd; exact hdd.2
        obtain ⟨u1, u2⟩ := hd0 hdd'
        subst hN'
        refine ⟨u1.frame fun b hb => hkp.mem b (hrd.inb b hb) (Cx.frz_ok (hN0 b hb)), ?_⟩
        simp only [Cx.regrow, if_true, hdd]; exact u2
      · simp [Cx.regrow, hdd])
  have hSR : SR ((c.frz (fz.map (·.1))).regrow t g w' v' top' (if (d && d') = true then (c.G t).O else [])) [.own t g] [v'] := by
    rw [hv9]
    exact .own (.inr ⟨rfl, rfl⟩) (by simp [Cx.regrow]) .nil
  refine hk _ ((c.frz (fz.map (·.1))).regrow t g w' v' top' (if (d && d') = true then (c.G t).O else [])) ⟨rfl, rfl, rfl, rfl, fun u hu => ?_⟩ ?_
  · rcases hu with hu | rfl
    · exact .inl hu
    · exact hU u rfl
  · have := hfin.put (hSR.mkGd gs h.gs) o.dst
    rw [updH_app]; exact this
end
end Go.Proofs.Ytjneaalpiangdaa
end

/- Part VV. append and slice literals. Program independent. -/
section
namespace Go.Proofs.Ytjneaalpiangdaa
open Go.RowKit
section
variable {P : Program} {c : Cx} {n nx : Nat} {sl sl0 : Nat → SV} {hp hp0 : Nat → Option Ent} {a : Act} {o : Oper} {gs : Gd} {e : Eff} {sg : Nat → Option Sig} {nv : Nat}
theorem elemT_spec {t el : TypeId} (h : elemT P t = some el) : P.underlying t = some (.slice el) := by
  unfold elemT at h
  split at h
  · simp at h; subst h; assumption
  · cases h
theorem freezeAll_mem {ts : List Nat} {l : List (Nat × Ent)} (k : gdOK c.ρ gs) (h : freezeAll hp0 gs ts = some l) : ∀ t f, (t, f) ∈ l → ∃ ety sz g x d, Res c.ρ (hp0 t) (.row ety sz g x d) := by
  intro t f hf
  obtain ⟨_, _, g, x, ety, sz, d, _, r⟩ := (freezeAll_spec k h).1 t f hf
  exact ⟨ety, sz, g, x, d, r⟩
theorem does_append (h : Pre P c n nx sl hp a sl0 hp0 o gs) {x y : Operand} {tx ty : TypeId} {cl : Call} (ho : o.op = .call cl) (hcl : cl.callee = .builtin .append) (ha1 : cl.args.toList = [x, y]) (ha2 : cl.argTypes.toList = [tx, ty])
    (he : opEff P sg sl0 hp0 nv nx gs o = some e) (hc : ∀ q ∈ e.chk, Cn.den c.ρ q) : Does P o c n nx sl hp gs a e := by
  have hargs : cl.args = #[x, y] := by apply Array.ext'; simp [ha1]
  have hm1 : x ∈ o.op.operands := by simp [ho, Op.operands, Call.operands, hcl, hargs]
  simp only [opEff, ho, hcl, ha1, ha2, Option.bind_eq_some_iff] at he
  obtain ⟨s1, hs1, s2, hs2, he⟩ := he
  unfold appendEff at he
  split at he
  · cases he
  rename_i htt
  have htt : tx = ty := by simpa using htt
  subst htt
  split at he
  · rename_i el hel
    have hel := elemT_spec hel
    split at he
    · cases he
    rename_i hz
    have hz : zeroOK P el = true := by simpa using hz
    split at he
    · cases he
    rename_i ye hy
    split at he
    · cases he
    rename_i fz d ck htk
    obtain ⟨ts, hfz⟩ : ∃ ts, freezeAll hp0 gs ts = some fz := by
      unfold takeRow at htk
      split at htk
      · simp only [Option.some.injEq, Prod.mk.injEq] at htk; obtain ⟨rfl, _⟩ := htk; exact ⟨[], rfl⟩
      · split at htk
        · obtain ⟨l, hl, htk⟩ := Option.map_eq_some_iff.1 htk
          simp only [Prod.mk.injEq] at htk; obtain ⟨rfl, _⟩ := htk
          exact ⟨_, hl⟩
        · cases htk
    have r1 := h.opd hs1 hm1
    have fresh : ∀ f, (nx, f) ∉ fz := fun f hf => by
      obtain ⟨_, _, _, _, _, r⟩ := freezeAll_mem (c := c) h.gs hfz nx f hf
      have r := Res_sub h.hp r
      cases hh : hp nx with
      | none => rw [hh] at r; exact r.elim
      | some e9 => exact fresh_nx h (h.rel.usedH nx e9 hh)
    have hK : ∀ g, ¬ c.K nx g := fun g hg => fresh_nx h (h.rel.usedK _ _ hg)
    have hoff := h.rel.off nx (fun e9 hr => by
      cases hh : hp nx with
      | none => rw [hh] at hr; exact hr.elim
      | some e8 => exact fresh_nx h (h.rel.usedH nx e8 hh))
    have hpn : c.A.pin nx = none := by
      cases hh : c.A.pin nx with
      | none => rfl
      | some v => exact absurd (h.rel.base.pins nx v hh).1 (fresh_nx h)
    have hUn : ∀ u, u = nx → c.U u ∨ (nx ≤ u ∧ u < nx + idsPerOp) := fun u hu => .inr ⟨by omega, by rw [hu]; simp [idsPerOp]⟩
    have hzc : P.cellsOf el ≠ 0 := by
      obtain ⟨i, _, _, _, _, h1, h2, _⟩ := zeroOK_spec hz
      omega
    split at he
    · rename_i t g
      split at he
      · rename_i e' sz' g' c0 d' hl
        split at he
        · rename_i hh
          obtain ⟨rfl, rfl, rfl, rfl, hnt⟩ := hh
          simp only [Option.some.injEq] at he; subst he
          have hres0 := look_res hl h.gs
          obtain ⟨q1, q2, N, q3, q4, q5, q6⟩ := h.eh t _ hres0
          generalize hv : a.eval x = v at r1
          cases r1 with
          | own k1 k2 _ =>
            have := does_appendTo (nx := nx) h ho hcl ha1 ha2 hel hz hs2 hy htk (hc _ (by simp)) (t := t) (g := g + 1) (.inr (by omega)) (c0 := c0) (d' := d') (hc _ (by simp)) (fun f hf => by
                simp only [Bool.not_eq_true', List.contains_eq_mem, decide_eq_false_iff_not] at hnt
                exact hnt (List.mem_map.2 ⟨_, hf, rfl⟩)) (fun hh => by have := q2 _ hh; omega) hv (by rw [← k2]; exact q3) rfl q4 q5 (fun g' hg' => by have := q2 _ hg'; omega) (fun u hu => .inl (by rw [hu]; exact h.rel.usedK t g q1)) (ckl := [.room c0 ye (P.bytesOf el), ck])
            exact this
        · cases he
      · cases he
    · simp only [Option.some.injEq] at he; subst he
      generalize hv : a.eval x = v at r1
      cases r1 with
      | emp _ =>
        have := does_appendTo (nx := nx) h ho hcl ha1 ha2 hel hz hs2 hy htk (hc _ (by simp)) (t := nx) (g := 0) (.inl hpn) (c0 := .lst .nil) (d' := true) (top := []) (N0 := []) (hc _ (by simp)) fresh (hK 0) hv ⟨[], rfl, by simp, by omega, .inl ⟨rfl, ⟨_, rfl⟩, rfl, rfl⟩⟩ hoff.1 (by simp) (fun _ => ⟨rfl, hoff.2⟩) (fun g' hg' => absurd hg' (hK g')) hUn (ckl := [.room (.lst .nil) ye (P.bytesOf el), ck])
        rw [Bool.and_true] at this
        exact this
    · simp only [Option.some.injEq] at he; subst he
      generalize hv : a.eval x = v at r1
      cases r1 with
      | nils _ =>
        have := does_appendTo (nx := nx) h ho hcl ha1 ha2 hel hz hs2 hy htk (hc _ (by simp)) (t := nx) (g := 0) (.inl hpn) (c0 := .lst .nil) (d' := true) (top := []) (N0 := []) (hc _ (by simp)) fresh (hK 0) hv ⟨[], rfl, by simp, by omega, .inl ⟨rfl, ⟨_, rfl⟩, rfl, rfl⟩⟩ hoff.1 (by simp) (fun _ => ⟨rfl, hoff.2⟩) (fun g' hg' => absurd hg' (hK g')) hUn (ckl := [.room (.lst .nil) ye (P.bytesOf el), ck])
        rw [Bool.and_true] at this
        exact this
    · cases he
  · cases he
end
end Go.Proofs.Ytjneaalpiangdaa
end

/- Part VW. Slice literals, made slices. Program independent. -/
section
namespace Go.Proofs.Ytjneaalpiangdaa
open Go.RowKit
section
variable {P : Program} {c : Cx} {n nx : Nat} {sl sl0 : Nat → SV} {hp hp0 : Nat → Option Ent} {a : Act} {o : Oper} {gs : Gd} {e : Eff} {sg : Nat → Option Sig} {nv : Nat}
theorem freezeAll_append : ∀ {ts us : List Nat} {l m : List (Nat × Ent)}, freezeAll hp0 gs ts = some l → freezeAll hp0 gs us = some m → freezeAll hp0 gs (ts ++ us) = some (l ++ m)
  | [], us, l, m, h, k => by simp [freezeAll] at h; subst h; simpa using k
  | t :: ts, us, l, m, h, k => by
    unfold freezeAll at h
    simp only [List.cons_append]
    unfold freezeAll
    split at h
    · rename_i ety sz g x d l' hl hl'
      have ih := freezeAll_append hl' k
      split at h
      · rename_i hg
        simp at h; subst h
        simp [hl, ih, hg]
      · cases h
    · rename_i g x l' hl hl'
      have ih := freezeAll_append hl' k
      simp at h; subst h
      simp [hl, ih]
    · rename_i ty g cs l' hl hl'
      have ih := freezeAll_append hl' k
      simp at h; subst h
      simp [hl, ih]
    · cases h
theorem frz_ok_mono {ts us : List Nat} (hs : ∀ t ∈ ts, t ∈ us) {b : Nat} (h : (c.frz ts).ok b) : (c.frz us).ok b := by
  refine ⟨fun hm => h.1 ?_, h.2⟩
  obtain ⟨u, hu, hb⟩ := Cx.frz_M hm
  exact ⟨u, by simp only [Cx.frz]; rw [if_neg (fun hh => hu (hs u hh))]; exact hb⟩
/-- The cells of a value that was taken in. -/
theorem val_cells {w : World} {v : Value} {x : AV} {f : List Nat} {t : TypeId} (h : Rd w [v] [x] f) (hg : aggT P t = true ∨ P.cellsOf t = 1) (hx : if aggT P t then ∃ cs, x = .agg cs ∧ cs.length = P.cellsOf t else (∀ cs, x ≠ .agg cs) ∧ ∀ cs, x ≠ .tup cs) :
    Rd w v.cells.toList x.cells f ∧ (∀ u ∈ v.cells.toList, u.oneCell' = true) ∧ x.cells.length = P.cellsOf t ∧ v.cells.size = P.cellsOf t := by
  split at hx
  · obtain ⟨cs, rfl, hl⟩ := hx
    obtain ⟨as, rfl, h1, h2⟩ := agg_of h rfl
    have := h2.len
    exact ⟨by simpa [Value.cells, AV.cells] using h2, by simpa [Value.cells] using h1, hl, by simp [Value.cells]; omega⟩
  · rename_i hna
    have h1 : P.cellsOf t = 1 := by rcases hg with h' | h'; exact absurd h' hna; exact h'
    have hone := one_of_kind h hx.1 hx.2
    have hxc : x.cells = [x] := by cases x <;> first | rfl | exact absurd rfl (hx.1 _)
    rw [one_cells hone, hxc]
    exact ⟨by simpa using h, by simpa using hone, by simp [h1], by simp [h1]⟩
theorem takeAll_spec (h : Rel c n sl hp a) (hs : ∀ t e, hp0 t = some e → hp t = some e) (k : gdOK c.ρ gs) {t : TypeId} (hg : aggT P t = true ∨ P.cellsOf t = 1) : ∀ (ss : List SV) (vs : List Value) {xs : List E} {fz : List (Nat × Ent)} {d : Bool} {ck : List Cn}, SR c ss vs → takeAll P hp0 gs t ss = some (xs, fz, d, ck) → (∀ q ∈ ck, q.den c.ρ) →
    ∃ N, Rd c.w (vs.flatMap fun v => v.cells.toList) (flatC (xs.map (E.den c.ρ))) N ∧ (d = true → N = []) ∧ (∃ ts, freezeAll hp0 gs ts = some fz) ∧ (∀ b ∈ N, (c.frz (fz.map (·.1))).ok b) ∧ (∀ v ∈ vs, v.cells.size = P.cellsOf t ∧ ∀ u ∈ v.cells.toList, u.oneCell' = true) ∧ (∀ x ∈ xs, (x.den c.ρ).cells.length = P.cellsOf t) ∧ xs.length = vs.length
  | [], vs, xs, fz, d, ck, hr, ht, hc => by
    simp [takeAll] at ht; obtain ⟨rfl, rfl, rfl, rfl⟩ := ht
    cases hr
    exact ⟨[], by simpa [flatC] using Rd.nil, fun _ => rfl, ⟨[], rfl⟩, by simp, by simp, by simp, rfl⟩
  | s :: ss, [], xs, fz, d, ck, hr, ht, hc => by have := hr.len; simp at this
  | s :: ss, v :: vs, xs, fz, d, ck, hr, ht, hc => by
    obtain ⟨r1, r2⟩ := hr.uncons
    unfold takeAll at ht
    split at ht
    · rename_i x fz1 d1 ck1 xs2 fz2 d2 ck2 h1 h2
      simp only [Option.some.injEq, Prod.mk.injEq] at ht; obtain ⟨rfl, rfl, rfl, rfl⟩ := ht
      obtain ⟨f, q1, q2, ⟨ts1, q3, q4⟩, q5⟩ := takeIn_spec h hs k r1 h1 (fun q hq => hc q (by simp [hq]))
      obtain ⟨N, p1, p2, ⟨ts2, p3⟩, p4, p5, p6, p7⟩ := takeAll_spec h hs k hg ss vs r2 h2 (fun q hq => hc q (by simp [hq]))
      obtain ⟨o1, o2, o3, o4⟩ := val_cells (P := P) q1 hg q5
      refine ⟨f ++ N, ?_, fun hd => ?_, ⟨_, freezeAll_append q3 p3⟩, fun b hb => ?_, ?_, ?_, by simp [p7]⟩
      · simpa [flatC] using o1.app p1
      · simp only [Bool.and_eq_true] at hd
        rw [q2 hd.1, p2 hd.2]; rfl
      · rcases List.mem_append.1 hb with hb | hb
        · exact frz_ok_mono (fun t ht => by simp only [List.map_append, List.mem_append]; exact .inl ht) (q4 b hb)
        · exact frz_ok_mono (fun t ht => by simp only [List.map_append, List.mem_append]; exact .inr ht) (p4 b hb)
      · intro u hu
        rcases List.mem_cons.1 hu with rfl | hu
        · exact ⟨o4, o2⟩
        · exact p5 u hu
      · intro u hu
        rcases List.mem_cons.1 hu with rfl | hu
        · exact o3
        · exact p6 u hu
    · cases ht
theorem fill_dense {sz : Nat} (place : Nat → Option (Nat × Nat)) (hpl : ∀ i, place i = some (i * sz, sz)) : ∀ (vs : List Value) (k : Nat) (C : Array Value) (pre suf : List Value), C.toList = pre ++ suf → pre.length = k * sz → suf.length = vs.length * sz → (∀ v ∈ vs, v.cells.size = sz) →
    ∃ C', Instr.fill place C ((vs.zipIdx k).map fun p => (p.2, p.1)) = some C' ∧ C'.toList = pre ++ vs.flatMap fun v => v.cells.toList
  | [], k, C, pre, suf, h, _, h2, _ => by
    have : suf = [] := List.eq_nil_of_length_eq_zero (by simpa using h2)
    subst this
    exact ⟨C, rfl, by simpa using h⟩
  | v :: vs, k, C, pre, suf, h, h1, h2, h3 => by
    have hv := h3 v (by simp)
    simp only [List.length_cons, Nat.add_mul, Nat.one_mul] at h2
    have hC : C.size = pre.length + suf.length := by rw [← Array.length_toList, h, List.length_append]
    have hfs : (v.cells.zipIdx.foldl (fun cs (p : Value × Nat) => cs.setIfInBounds (k * sz + p.2) p.1) C).toList = setVs C.toList (k * sz) v.cells.toList := by
      have := fold_set v.cells.toList 0 (k * sz) C (by simp; omega)
      rw [← Array.foldl_toList, Array.toList_zipIdx]
      simpa using this
    have hset : setVs C.toList (k * sz) v.cells.toList = (pre ++ v.cells.toList) ++ suf.drop sz := by
      unfold setVs
      rw [h, ← h1, List.take_left' rfl]
      congr 1
      rw [List.drop_append, List.drop_eq_nil_of_le (by omega)]
      simp [hv]
    obtain ⟨C', g1, g2⟩ := fill_dense place hpl vs (k + 1) (v.cells.zipIdx.foldl (fun cs (p : Value × Nat) => cs.setIfInBounds (k * sz + p.2) p.1) C) (pre ++ v.cells.toList) (suf.drop sz) (by rw [hfs, hset]) (by simp [h1, hv, Nat.add_mul]) (by simp; omega) (fun u hu => h3 u (by simp [hu]))
    refine ⟨C', ?_, by rw [g2]; simp⟩
    simp only [List.zipIdx_cons, List.map_cons]
    unfold Instr.fill
    simp only [hpl]
    rw [if_neg (by simp [hv]; omega)]
    exact g1

/-- A new row under a new tag. -/
theorem Does.newRow (h : Pre P c n nx sl hp a sl0 hp0 o gs) {ts : List Nat} {fz : List (Nat × Ent)} (hfz : freezeAll hp0 gs ts = some fz) {el : TypeId} {C : Array Value} {cap : Nat} {xs : List AV} {x : E} {d : Bool} {N : List Nat} {ckl : List Cn} {wd : World} (hwd : wd.heap = c.w.heap ∧ wd.os = c.w.os ∧ wd.tape = c.w.tape ∧ wd.output = c.w.output)
    (hr : (execOp a.eval o).run P c.w = .ok (.value (.slice (some ⟨c.w.heap.size, 0, none⟩) xs.length cap)) (wd.alloc (.cells C el))) (hx : x.den c.ρ = .sl xs) (hsz : P.cellsOf el ≠ 0) (hcl : ∀ y ∈ xs, y.cells.length = P.cellsOf el) (hle : xs.length ≤ cap) (hcap : cap ≤ maxLen) (hC : C.size = cap * P.cellsOf el)
    (h1 : ∀ u ∈ C.toList.take (xs.length * P.cellsOf el), u.oneCell' = true) (hN : Rd c.w (C.toList.take (xs.length * P.cellsOf el)) (flatC xs) N) (hNok : ∀ b ∈ N, (c.frz (fz.map (·.1))).ok b) (hd : d = true → N = []) :
    Does P o c n nx sl hp gs a { chk := ckl, val := .own nx 0, ent := fz ++ [(nx, mkGdE gs (.row el (P.cellsOf el) 0 x d))] } := by
  intro next Q hk
  unfold Oper.wp
  rw [hr, Oper.upon_value]
  have hU := fresh_nx h
  have hrel1 := h.rel.freeze h.hp h.gs hfz
  have hK : ∀ g, ¬ c.K nx g := fun g hg => hU (h.rel.usedK _ _ hg)
  have hpn : c.A.pin nx = none := by
    cases hh : c.A.pin nx with
    | none => rfl
    | some v => exact absurd (h.rel.base.pins nx v hh).1 hU
  have hoff := h.rel.off nx (fun e9 hr => by
    cases hh : hp nx with
    | none => rw [hh] at hr; exact hr.elim
    | some e8 => exact hU (h.rel.usedH nx e8 hh))
  obtain ⟨w1, w2, w3, w4⟩ := hwd
  have hgr : c.w.grownBy (wd.alloc (.cells C el)) (some c.w.heap.size) := by
    refine ⟨w2, w3, w4, ?_, fun k hk _ => ?_⟩
    · show c.w.heap.size ≤ (wd.heap.push _).size
      simp [w1]
    · have := Below.heap_alloc wd (.cells C el) k (by rw [w1]; exact hk)
      rw [this, w1]
  have hnewb : (wd.alloc (.cells C el)).heap[c.w.heap.size]? = some (.cells C el (0, 0)) := by
    have := heap_alloc_new wd (.cells C el)
    rw [w1] at this; exact this
  have hlt : c.w.heap.size < (wd.alloc (.cells C el)).heap.size := lt_of_heap hnewb
  have hO : (c.frz (fz.map (·.1))).G nx = ⟨[], []⟩ ∨ ((c.frz (fz.map (·.1))).G nx).O = [] := by
    right
    simp only [Cx.frz]; split
    · rfl
    · exact hoff.2
  have hfin := hrel1.regrow (gs := gs) (t := nx) (g := 0) (w' := wd.alloc (.cells C el)) (row := some c.w.heap.size) (top := [c.w.heap.size]) (O := []) (v := .slice (some ⟨c.w.heap.size, 0, none⟩) xs.length cap) (.inl hpn) (hK 0) hgr (fun g0 hg0 => by cases hg0; exact .inr ⟨rfl, hlt⟩) (.inr ⟨_, rfl, rfl⟩) (.inl rfl)
    (.row el (P.cellsOf el) 0 x d) (by intros; simp) h.gs (fun hkp => by
      refine ⟨.inr ⟨rfl, rfl⟩, fun g' hg' => ?_, N, ?_, fun b hb => hkp.ok b (hN.inb b hb) (hNok b hb), fun hdd => ?_, fun _ => by simp [Cx.regrow]⟩
      · rcases hg' with hg' | ⟨_, rfl⟩
        · exact absurd hg' (hK g')
        · exact Nat.le_refl _
      · have e1 : ((c.frz (fz.map (·.1))).regrow nx 0 (wd.alloc (.cells C el)) (.slice (some ⟨c.w.heap.size, 0, none⟩) xs.length cap) [c.w.heap.size] []).H nx 0 = .slice (some ⟨c.w.heap.size, 0, none⟩) xs.length cap := by simp [Cx.regrow]
        have e2 : (((c.frz (fz.map (·.1))).regrow nx 0 (wd.alloc (.cells C el)) (.slice (some ⟨c.w.heap.size, 0, none⟩) xs.length cap) [c.w.heap.size] []).G nx).top = [c.w.heap.size] := by simp [Cx.regrow]
        rw [e1, e2]
        show OwnRow (wd.alloc (.cells C el)) el (P.cellsOf el) _ (x.den c.ρ) _ N
        rw [hx]
        exact ⟨xs, rfl, hcl, by omega, .inr ⟨_, cap, C, rfl, hle, hcap, hnewb, hC, rfl, h1, hN.frame fun b hb => hkp.mem b (hN.inb b hb) (hNok b hb)⟩⟩
      · rw [hd hdd]; exact ⟨rfl, by simp [Cx.regrow]⟩)
  have hSR : SR ((c.frz (fz.map (·.1))).regrow nx 0 (wd.alloc (.cells C el)) (.slice (some ⟨c.w.heap.size, 0, none⟩) xs.length cap) [c.w.heap.size] []) [.own nx 0] [.slice (some ⟨c.w.heap.size, 0, none⟩) xs.length cap] :=
    .own (.inr ⟨rfl, rfl⟩) (by simp [Cx.regrow]) .nil
  refine hk _ ((c.frz (fz.map (·.1))).regrow nx 0 (wd.alloc (.cells C el)) (.slice (some ⟨c.w.heap.size, 0, none⟩) xs.length cap) [c.w.heap.size] []) ⟨rfl, rfl, rfl, rfl, fun u hu => ?_⟩ ?_
  · rcases hu with hu | rfl
    · exact .inl hu
    · exact .inr ⟨Nat.le_refl _, by simp [idsPerOp]⟩
  · have := hfin.put (hSR.mkGd gs h.gs) o.dst
    rw [updH_app]; exact this
theorem run_buildSlice {t el : TypeId} (hu : P.underlying t = some (.slice el)) (hty : tyOK P el = true) {i : TypeInfo} {z : Value} (hi : P.info? el = some i) (hz : i.zero = some z) (hco : P.cellsOf el = i.size) (m : Nat) (hle : m * i.size ≤ 2 ^ 24) (parts : Array (Nat × Value)) (C : Array Value)
    (hf : Instr.fill (fun j => some (j * i.size, i.size)) ((Array.range (m * i.size)).map (fun j => (if m * i.size = 0 then #[] else z.cells)[j % (if m * i.size = 0 then #[] else z.cells).size]!)) parts.toList = some C) (w : World) :
    (Instr.buildSlice t m parts).run P w = .ok (.slice (some ⟨w.heap.size, 0, none⟩) m m) (w.alloc (.cells C el)) := by
  have hlim : ¬ (2 ^ 24 < m * i.size) := by omega
  have hr0 : Array.range 0 = #[] := rfl
  by_cases h0 : m * i.size = 0
  · simp only [h0, if_true, hr0] at hf
    have hem : ∀ f : Nat → Value, Array.map f #[] = #[] := fun f => by simp
    rw [hem] at hf
    simp only [Instr.buildSlice, Sem.run_bind, run_underlying hu, Result.andThen_ok, run_sizeOf' hty, hco]
    simp [h0, hr0, hf, newRow]
  · simp only [h0, if_false] at hf
    simp only [Instr.buildSlice, Sem.run_bind, run_underlying hu, Result.andThen_ok, run_sizeOf' hty, hco]
    simp [h0, hlim, zeroValue, typeInfo, hi, hz, hf, newRow]
theorem does_buildSlice (h : Pre P c n nx sl hp a sl0 hp0 o gs) {t : TypeId} {m : Nat} {parts : Array (Nat × Operand)} (ho : o.op = .buildSlice t m parts) (he : opEff P sg sl0 hp0 nv nx gs o = some e) (hc : ∀ q ∈ e.chk, Cn.den c.ρ q) : Does P o c n nx sl hp gs a e := by
  simp only [opEff, ho, Option.bind_eq_some_iff] at he
  obtain ⟨ps, hps, he⟩ := he
  obtain ⟨e1, e2⟩ := mapM_parts (c := c) (a := a) (parts.toList.map (·.2)) (fun x s hx hm => h.opd hx (by simpa [ho, Op.operands] using hm)) (fun x hx => List.mem_map.2 ⟨x, hx, rfl⟩) hps
  unfold buildSliceEff at he
  split at he
  · rename_i el hel
    have hel := elemT_spec hel
    split at he
    · cases he
    rename_i hcond
    simp only [not_or, Bool.not_eq_true', Bool.not_eq_false', ne_eq, Bool.not_eq_false, Nat.not_lt, Decidable.not_not] at hcond
    obtain ⟨hz, hty, hag, hle, hdense⟩ := hcond
    have hag : aggT P el = true ∨ P.cellsOf el = 1 := by simpa using hag
    obtain ⟨i, z, hi, hiz, hzs, hsz, hco, hby⟩ := zeroOK_spec hz
    split at he
    · rename_i xs fz d ck hta
      split at he
      · simp only [Option.some.injEq] at he; subst he
        obtain ⟨N, p1, p2, ⟨ts, p3⟩, p4, p5, p6, p7⟩ := takeAll_spec h.rel h.hp h.gs hag (ps.map (·.2)) (parts.toList.map fun p => a.eval p.2) e2 hta hc
        have hlen : (parts.toList.map fun p => a.eval p.2).length = m := by
          have : ps.length = m := by
            have := congrArg List.length hdense; simpa using this
          have h9 := congrArg List.length e1
          simp at h9 ⊢; omega
        have hparts : (parts.map fun (x : Nat × Operand) => (x.1, a.eval x.2)).toList = ((parts.toList.map fun p => a.eval p.2).zipIdx 0).map fun p => (p.2, p.1) := by
          have hidx : parts.toList.map (·.1) = List.range m := by rw [← e1, hdense]
          apply List.ext_getElem?
          intro j
          have hj : (parts.toList.map (·.1))[j]? = (List.range m)[j]? := by rw [hidx]
          simp only [Array.toList_map, List.getElem?_map, List.getElem?_zipIdx] at hj ⊢
          cases hp : parts.toList[j]? with
          | none => simp
          | some p =>
            rw [hp] at hj
            simp only [Option.map_some, Option.some.injEq] at hj ⊢
            have hjm : j < m := by
              rcases Nat.lt_or_ge j m with hh | hh
              · exact hh
              · rw [List.getElem?_eq_none (by simpa using hh)] at hj; cases hj
            rw [List.getElem?_range hjm] at hj
            simp at hj
            simp [hj]
        obtain ⟨C', f1, f2⟩ := fill_dense (sz := i.size) (fun j => some (j * i.size, i.size)) (fun j => rfl) (parts.toList.map fun p => a.eval p.2) 0 ((Array.range (m * i.size)).map (fun j => (if m * i.size = 0 then #[] else z.cells)[j % (if m * i.size = 0 then #[] else z.cells).size]!)) [] _ (by simp; rfl) (by simp) (by simp [hlen]) (fun v hv => by rw [← hco]; exact (p5 v hv).1)
        have hCl : C'.toList.length = m * P.cellsOf el := by
          rw [f2, hco]
          simp only [List.nil_append]
          have : ∀ (L : List Value), (∀ v ∈ L, v.cells.size = i.size) → (L.flatMap fun v => v.cells.toList).length = L.length * i.size := by
            intro L
            induction L with
            | nil => intro _; simp
            | cons v L ih =>
              intro hL
              simp only [List.flatMap_cons, List.length_append, List.length_cons, Array.length_toList]
              rw [ih (fun u hu => hL u (by simp [hu])), hL v (by simp), Nat.add_mul]; omega
          rw [this _ (fun v hv => by rw [← hco]; exact (p5 v hv).1), hlen]
        have hxl : (xs.map (E.den c.ρ)).length = m := by rw [List.length_map, p7, hlen]
        have htake : C'.toList.take ((xs.map (E.den c.ρ)).length * P.cellsOf el) = (parts.toList.map fun p => a.eval p.2).flatMap fun v => v.cells.toList := by
          rw [hxl, ← hCl, List.take_length, f2]; simp
        refine Does.newRow (xs := xs.map (E.den c.ρ)) (N := N) (C := C') (cap := m) (wd := c.w) h p3 ⟨rfl, rfl, rfl, rfl⟩ ?_ (by simp [E.den, EL.den_of]) (by omega) (fun y hy => ?_) (by omega) (by simp only [maxLen]; have : m * 1 ≤ m * P.cellsOf el := Nat.mul_le_mul_left _ (by omega); omega) (by rw [← Array.length_toList, hCl]) ?_ (by rw [htake]; exact p1) p4 p2
        · rw [hxl]
          have hrun := run_buildSlice (P := P) hel hty hi hiz hco m (by rw [← hco]; omega) (parts.map fun (x : Nat × Operand) => (x.1, a.eval x.2)) C' (by rw [hparts]; exact f1) c.w
          simp only [execOp, ho, Sem.run_bind]
          rw [hrun]; rfl
        · obtain ⟨q, hq, rfl⟩ := List.mem_map.1 hy
          exact p6 q hq
        · rw [htake]
          intro u hu
          obtain ⟨v, hv, hu⟩ := List.mem_flatMap.1 hu
          exact (p5 v hv).2 u hu
      · cases he
    · cases he
  · cases he
end
end Go.Proofs.Ytjneaalpiangdaa
end

/- Part VX. Stores into an element of a row of one's own. Program independent. -/
section
namespace Go.Proofs.Ytjneaalpiangdaa
open Go.RowKit
section
variable {P : Program} {c : Cx} {n nx : Nat} {sl sl0 : Nat → SV} {hp hp0 : Nat → Option Ent} {a : Act} {o : Oper} {gs : Gd} {e : Eff} {sg : Nat → Option Sig} {nv : Nat}
/-- A write into the block of one's own at tag t; what its elements own may be given up. -/
theorem Rel.writeO (h : Rel c n sl hp a) {t : Nat} {e0 : Ent} {b : Nat} {w' : World} {O : List Nat} (hres : Res c.ρ (hp t) e0) (htop : b ∈ (c.G t).top) (hO : O = [] ∨ O = (c.G t).O) (hm : Mod [b] c.w w') (hsz : w'.heap.size = c.w.heap.size) (e1 : Ent) (hne : ∀ hs f, e1 ≠ .gd hs f)
    (he : Keep c { c with w := w', G := fun u => if u = t then ⟨(c.G t).top, O⟩ else c.G u } → EntR { c with w := w', G := fun u => if u = t then ⟨(c.G t).top, O⟩ else c.G u } t e1) :
    Rel { c with w := w', G := fun u => if u = t then ⟨(c.G t).top, O⟩ else c.G u } n sl (updH hp [(t, e1)]) a := by
  have hown : b ∈ (c.G t).own := by simp [GI.own, htop]
  have hG : ∀ u, ({ c with w := w', G := fun u => if u = t then ⟨(c.G t).top, O⟩ else c.G u } : Cx).G u = if u = t then ⟨(c.G t).top, O⟩ else c.G u := fun u => rfl
  have htops : ∀ u, (({ c with w := w', G := fun u => if u = t then ⟨(c.G t).top, O⟩ else c.G u } : Cx).G u).top = (c.G u).top := by
    intro u; rw [hG]; split
    · rename_i hu; rw [hu]
    · rfl
  have hsub : ∀ u, ∀ q ∈ (({ c with w := w', G := fun u => if u = t then ⟨(c.G t).top, O⟩ else c.G u } : Cx).G u).own, q ∈ (c.G u).own := by
    intro u q hq
    rw [hG] at hq
    split at hq
    · rename_i hu; subst hu
      simp only [GI.own, List.mem_append] at hq ⊢
      rcases hq with hq | hq
      · exact .inl hq
      · rcases hO with rfl | rfl
        · simp at hq
        · exact .inr hq
    · exact hq
  have hkeep : Keep c { c with w := w', G := fun u => if u = t then ⟨(c.G t).top, O⟩ else c.G u } := by
    refine ⟨rfl, fun q _ hq => ⟨fun ⟨u, hu⟩ => hq.1 ⟨u, by rw [htops] at hu; exact hu⟩, hq.2⟩, fun q hq hok => hm.block q hq ?_, fun u g hu => ⟨hu, rfl⟩⟩
    simp only [List.mem_singleton]
    rintro rfl
    exact hok.1 ⟨t, htop⟩
  have hup : ∀ u, updH hp [(t, e1)] u = if u = t then some e1 else hp u := fun u => rfl
  refine h.change (fun u => u = t) hkeep ⟨hm.os.trans h.base.os, hm.tape.trans h.base.tape, hm.output.trans h.base.output, Nat.le_trans h.base.size hm.size, h.base.pins, fun q hq hmu => ?_⟩
    (fun u hu => ⟨by rw [hup, if_neg hu], by rw [hG, if_neg hu], fun g hg => hg⟩) (fun u hu q hq => hm.block q (h.gw.inb u q (by simp [GI.own, hq])) ?_) (fun u hu => ?_) ⟨fun u => ?_, fun u v huv q hq hq' => h.gw.disj u v huv q (hsub u q hq) (hsub v q hq'), fun u q hq => h.gw.allow u q (hsub u q hq), fun u q hq => ?_⟩ h.usedK (fun u f hf => ?_)
  · refine (hm.block q (Nat.lt_of_lt_of_le hq h.base.size) ?_).trans (h.base.block q hq hmu)
    simp only [List.mem_singleton]
    rintro rfl
    rcases h.gw.allow t q hown with hh | hh
    · exact absurd hh (Nat.not_le.2 hq)
    · exact hmu hh
  · simp only [List.mem_singleton]
    rintro rfl
    exact h.gw.disj t u (Ne.symm hu) q hown (by simp [GI.own, hq])
  · subst hu
    rw [hup, if_pos rfl]
    refine ⟨fun e' hr => ?_, fun hn => ?_⟩
    · cases e1 <;> first
        | (simp only [Res] at hr; subst hr; exact he hkeep)
        | exact absurd rfl (hne _ _)
    · cases e1 <;> first
        | exact absurd rfl (hne _ _)
        | exact absurd rfl (hn _)
  · rw [hG]
    split
    · rename_i hu; subst hu
      have h0 := h.gw.nodup u
      simp only [GI.own] at h0 ⊢
      rcases hO with rfl | rfl
      · rw [List.append_nil]; exact (List.nodup_append.1 h0).1
      · exact h0
    · exact h.gw.nodup u
  · show q < w'.heap.size
    rw [hsz]; exact h.gw.inb u q (hsub u q hq)
  · rw [hup] at hf
    split at hf
    · rename_i hu; subst hu
      cases hh : hp u with
      | none => rw [hh] at hres; exact hres.elim
      | some e9 => exact h.usedH u e9 hh
    · exact h.usedH u f hf
theorem setVs_take {α : Type} (L vs : List α) (p m : Nat) (h : p + vs.length ≤ m) (hm : m ≤ L.length) : (setVs L p vs).take m = setVs (L.take m) p vs := by
  apply List.ext_getElem?
  intro j
  have hl : (L.take m).length = m := by rw [List.length_take]; omega
  rw [List.getElem?_take, setVs_get (L.take m) vs p (by omega) j, setVs_get L vs p (by omega) j, List.getElem?_take]
  by_cases h1 : p ≤ j ∧ j < p + vs.length
  · rw [if_pos (by omega), if_pos h1, if_pos h1]
  · rw [if_neg h1, if_neg h1]
theorem Rd.setVs {w : World} {L V : List Value} {X Y : List AV} {N f : List Nat} {p : Nat} (h : Rd w L X N) (k : Rd w V Y f) (hp : p + V.length ≤ L.length) :
    ∃ n1 n2 n3, N = n1 ++ n2 ++ n3 ∧ Rd w (Go.Proofs.Ytjneaalpiangdaa.setVs L p V) (Go.Proofs.Ytjneaalpiangdaa.setVs X p Y) (n1 ++ f ++ n3) ∧ Rd w ((L.drop p).take V.length) ((X.drop p).take V.length) n2 := by
  have hl := h.len
  have hk := k.len
  have e1 : L = L.take p ++ ((L.drop p).take V.length ++ L.drop (p + V.length)) := by
    rw [← List.drop_drop, List.take_append_drop, List.take_append_drop]
  have e2 : X = X.take p ++ ((X.drop p).take V.length ++ X.drop (p + V.length)) := by
    rw [← List.drop_drop, List.take_append_drop, List.take_append_drop]
  have h' := h
  rw [e1, e2] at h'
  obtain ⟨n1, m, rfl, g1, g2⟩ := Rd.unapp (by simp; omega) h'
  obtain ⟨n2, n3, rfl, g3, g4⟩ := Rd.unapp (by simp; omega) g2
  refine ⟨n1, n2, n3, by simp, ?_, g3⟩
  unfold Go.Proofs.Ytjneaalpiangdaa.setVs
  rw [← hk]
  exact (g1.app k).app g4
theorem flatC_set {sz : Nat} : ∀ (ys : List AV) (k : Nat) (z y : AV) (o : Nat) (vc : List AV), (∀ y ∈ ys, y.cells.length = sz) → ys[k]? = some y → o + vc.length ≤ sz → z.cells = setVs y.cells o vc → flatC (ys.set k z) = setVs (flatC ys) (k * sz + o) vc
  | [], k, z, y, o, vc, _, h, _, _ => by simp at h
  | q :: ys, 0, z, y, o, vc, hs, h, ho, hz => by
    simp at h; subst h
    have hq := hs q (by simp)
    simp only [flatC, List.set_cons_zero, List.flatMap_cons, Nat.zero_mul, Nat.zero_add, hz]
    unfold setVs
    rw [List.take_append_of_le_length (by omega), List.drop_append_of_le_length (by omega)]
    simp
  | q :: ys, k + 1, z, y, o, vc, hs, h, ho, hz => by
    have hq := hs q (by simp)
    have ih := flatC_set ys k z y o vc (fun u hu => hs u (by simp [hu])) (by simpa using h) ho hz
    simp only [flatC, List.set_cons_succ, List.flatMap_cons] at ih ⊢
    rw [ih]
    unfold setVs
    have e0 : (k + 1) * sz + o = q.cells.length + (k * sz + o) := by rw [hq, Nat.add_mul]; omega
    rw [e0, List.take_length_add_append, Nat.add_assoc (q.cells.length), List.drop_length_add_append]
    simp

theorem putF_cells {y x : AV} {k : Nat} {g : Bool} (hx : (∀ cs, x ≠ .agg cs) ∨ g = true) (hy : g = false → y.cells.length = 1 ∧ k = 0 ∧ x.cells = [x]) : (y.putF k x g).cells = setVs y.cells k x.cells := by
  cases g with
  | true => simp [AV.putF, AV.cells, setVs]
  | false =>
    obtain ⟨h1, h2, h3⟩ := hy rfl
    subst h2
    simp only [AV.putF, h3, setVs]
    rw [if_neg (by simp)]
    rw [h3]
    simp only [List.take_zero, List.nil_append, List.length_cons, List.length_nil, Nat.zero_add]
    rw [List.drop_eq_nil_of_le (by omega)]
    simp
theorem does_storeRow (h : Pre P c n nx sl hp a sl0 hp0 o gs) {t : TypeId} {x y : Operand} (ho : o.op = .store t x y) {b g : Nat} {ix : E} {sz k : Nat} {s : SV} (hx : operandSV sl0 gs x = some (.rptr b g ix sz k)) (hy : operandSV sl0 gs y = some s)
    (he : storeEff P hp0 gs t (.rptr b g ix sz k) s = some e) (hc : ∀ q ∈ e.chk, Cn.den c.ρ q) : Does P o c n nx sl hp gs a e := by
  have r1 := h.opd hx (by simp [ho, Op.operands])
  have r2 := h.opd hy (by simp [ho, Op.operands])
  simp only [storeEff] at he
  split at he
  · rename_i el sz' g' c0 d hl
    split at he
    · rename_i hh
      obtain ⟨rfl, rfl, rfl, hty, hle, hagE, hagT⟩ := hh
      split at he
      · rename_i xe fz dx ck htk
        split at he
        · cases he
        rename_i hnt
        simp only [Option.some.injEq] at he; subst he
        have hnt : ∀ f, (b, f) ∉ fz := fun f hf => hnt (by simp only [List.contains_eq_mem, decide_eq_true_eq]; exact List.mem_map.2 ⟨_, hf, rfl⟩)
        obtain ⟨f, q1, q2, ⟨ts, q3⟩, q5⟩ := takeIn_spec h.rel h.hp h.gs r2 htk (fun q hq => hc q (by simp [hq]))
        obtain ⟨q3, q4⟩ := q3
        have hres := Res_sub h.hp (look_res hl h.gs)
        have hrel1 := h.rel.freeze h.hp h.gs q3
        have hres1 : Res (c.frz (fz.map (·.1))).ρ (updH hp fz b) (.row el sz g c0 d) := by rw [updH_not hnt]; exact hres
        obtain ⟨e1, e2, N, e3, e4, e5, e6⟩ := hrel1.ents b _ hres1
        obtain ⟨o1, o2, o3, o4⟩ := val_cells (P := P) q1 hagT q5
        generalize hv : a.eval x = v at r1
        cases r1 with
        | rptr k1 k2 k3 k4 k5 _ =>
          rename_i m len cap kk kv k6
          obtain ⟨xs, p1, p2, p3, pcase⟩ := e3
          have p1' : c0.den c.ρ = .sl xs := p1
          rcases pcase with ⟨_, ⟨_, pv⟩, _⟩ | ⟨g9, cap9, C, pv, p4, p5, p6, p7, p8, p9, p10⟩
          · exfalso
            have : c.H b g = _ := pv
            rw [k2] at this; cases this; omega
          · have pv' : c.H b g = .slice (some ⟨g9, 0, none⟩) xs.length cap9 := pv
            rw [k2] at pv'
            simp only [Value.slice.injEq, Option.some.injEq, Addr.mk.injEq, and_true] at pv'
            obtain ⟨rfl, rfl, rfl⟩ := pv'
            have hkl : kv.toNat < xs.length := by omega
            have hnth := nth_of hkl
            generalize hyk : (AV.sl xs).nth kv.toNat = yk at hnth
            have hykl := p2 yk (List.mem_of_getElem? hnth)
            have hvl : (a.eval y).cells.toList.length = P.cellsOf t := by simpa using o4
            have hmul : (kv.toNat + 1) * sz ≤ xs.length * sz := Nat.mul_le_mul_right _ (by omega)
            have hCl : C.toList.length = cap * sz := by simpa using p7
            have hmul2 : xs.length * sz ≤ cap * sz := Nat.mul_le_mul_right _ p4
            rw [Nat.add_mul] at hmul
            have p6' : c.w.heap[m]? = some (.cells C el (0, 0)) := p6
            obtain ⟨m1, m2, m3⟩ := putCells_block (vs := (a.eval y).cells.toList) p6' (show (kv.toNat * sz + k) + _ ≤ C.size by rw [hvl, p7]; omega)
            have hlC : (C.toList.take (xs.length * sz)).length = xs.length * sz := by rw [List.length_take, hCl]; omega
            obtain ⟨n1, n2, n3, hN, s1, s2⟩ := Rd.setVs (p := kv.toNat * sz + k) p10 o1 (by rw [hlC, hvl]; omega)
            have hkeepw : ∀ z, z < c.w.heap.size → (c.frz (fz.map (·.1))).ok z → (putCells c.w m (kv.toNat * sz + k) (a.eval y).cells.toList).heap[z]? = c.w.heap[z]? := by
              intro z hz hok
              refine m1.block z hz ?_
              simp only [List.mem_singleton]
              rintro rfl
              exact hok.1 ⟨b, by rw [p8]; simp⟩
            have hflat : (d && dx) = true → n2 = [] ∧ f = [] := by
              intro hdd
              have hcf : Cn.den c.ρ (.flat (.fld (.idx c0 ix) k (P.cellsOf t) (aggT P t)) (P.cellsOf t) (aggT P t)) := hc _ (by simp [hdd])
              obtain ⟨f1, f2, f3, f4⟩ := hcf
              simp only [Bool.and_eq_true] at hdd
              refine ⟨?_, q2 hdd.2⟩
              have hpiece : ((flatC xs).drop (kv.toNat * sz + k)).take (a.eval y).cells.toList.length = (yk.cells.drop k).take (P.cellsOf t) := by
                rw [hvl]; exact flatC_get xs p2 _ _ hnth k (P.cellsOf t) hle
              rw [hpiece] at s2
              have hden : (E.fld (.idx c0 ix) k (P.cellsOf t) (aggT P t)).den c.ρ = yk.fld k (P.cellsOf t) (aggT P t) := by
                simp only [E.den, p1', k3, AV.idx, hyk]
              rw [hden] at f2
              refine flat_fp s2 ?_
              cases hg : aggT P t with
              | true =>
                rw [hg] at f2
                simpa [AV.fld, AV.cells] using f2
              | false =>
                have h1 : P.cellsOf t = 1 := by rcases hagT with h' | h'; rw [hg] at h'; cases h'; exact h'
                rw [hden] at f4
                have f4 := f4 hg
                rw [hg] at f4
                have hlt : k < yk.cells.length := by omega
                rw [h1, List.drop_eq_getElem_cons hlt, List.take_succ_cons, List.take_zero]
                simp only [List.mem_singleton, forall_eq]
                simpa [AV.fld, hlt] using f4
            have hz : (yk.putF k (xe.den c.ρ) (aggT P el)).cells = setVs yk.cells k (xe.den c.ρ).cells := by
              refine putF_cells ?_ (fun hg => ?_)
              · cases hg : aggT P el with
                | true => exact .inr rfl
                | false =>
                  left
                  rcases hagE with h' | ⟨_, h'⟩
                  · rw [hg] at h'; cases h'
                  · have h' : aggT P t = false := by simpa using h'
                    rw [h'] at q5
                    exact fun cs => (q5.1 cs)
              · rcases hagE with h' | ⟨h1, h'⟩
                · rw [hg] at h'; cases h'
                · have h' : aggT P t = false := by simpa using h'
                  rw [h'] at q5
                  have hct : P.cellsOf t = 1 := by rcases hagT with h2 | h2; rw [h'] at h2; cases h2; exact h2
                  refine ⟨by omega, by omega, ?_⟩
                  cases hxe : xe.den c.ρ <;> first | rfl | exact absurd hxe (q5.1 _)
            have hflatC : flatC (xs.set kv.toNat (yk.putF k (xe.den c.ρ) (aggT P el))) = setVs (flatC xs) (kv.toNat * sz + k) (xe.den c.ρ).cells :=
              flatC_set xs _ _ yk k _ p2 hnth (by rw [o3]; exact hle) hz
            have hfin := hrel1.writeO (t := b) (b := m) (w' := putCells c.w m (kv.toNat * sz + k) (a.eval y).cells.toList) (O := if (d && dx) = true then ((c.frz (fz.map (·.1))).G b).O else []) hres1 (by rw [p8]; simp) (by split; exact .inr rfl; exact .inl rfl) m1 m3
              (.row el sz g (.set c0 ix (.put (.idx c0 ix) k xe (aggT P el))) (d && dx)) (by intros; simp) (fun hkp => by
                have hNok : ∀ z ∈ n1 ++ f ++ n3, (c.frz (fz.map (·.1))).ok z := by
                  intro z hz
                  simp only [List.mem_append] at hz
                  rcases hz with (hz | hz) | hz
                  · exact e4 z (by rw [hN]; simp [hz])
                  · exact q4 z hz
                  · exact e4 z (by rw [hN]; simp [hz])
                have hNin : ∀ z ∈ n1 ++ f ++ n3, z < c.w.heap.size := s1.inb
                refine ⟨e1, e2, n1 ++ f ++ n3, ⟨xs.set kv.toNat (yk.putF k (xe.den c.ρ) (aggT P el)), ?_, fun z hzm => ?_, p3, .inr ⟨m, cap, _, ?_, by simpa using p4, p5, m2, ?_, ?_, ?_, ?_⟩⟩, fun z hz => hkp.ok z (hNin z hz) (hNok z hz), fun hdd => ?_, fun hdd => ?_⟩
                · show AV.setNth (c0.den c.ρ) (ix.den c.ρ) (((c0.den c.ρ).idx (ix.den c.ρ)).putF k (xe.den c.ρ) (aggT P el)) = _
                  rw [p1', k3]; simp only [AV.idx, hyk, AV.setNth]
                · rcases List.mem_or_eq_of_mem_set hzm with hzm | rfl
                  · exact p2 z hzm
                  · rw [hz, setVs_len _ _ _ (by rw [o3, hykl]; exact hle)]; exact hykl
                · rw [List.length_set]; exact k2
                · rw [List.size_toArray, setVs_len _ _ _ (by rw [hvl, hCl]; omega), Array.length_toList]; exact p7
                · simpa using p8
                · simp only [List.length_set, List.toList_toArray]
                  rw [setVs_take _ _ _ _ (by rw [hvl]; omega) (by rw [hCl]; omega)]
                  intro u hu
                  unfold setVs at hu
                  simp only [List.mem_append] at hu
                  rcases hu with (hu | hu) | hu
                  · exact p9 u (List.mem_of_mem_take hu)
                  · exact o2 u hu
                  · exact p9 u (List.mem_of_mem_drop hu)
                · simp only [List.length_set, List.toList_toArray]
                  rw [setVs_take _ _ _ _ (by rw [hvl]; omega) (by rw [hCl]; omega), hflatC]
                  exact s1.frame fun z hz => hkeepw z (hNin z hz) (hNok z hz)
                · obtain ⟨z1, z2⟩ := hflat hdd
                  have hd : d = true := by simp only [Bool.and_eq_true] at hdd; exact hdd.1
                  obtain ⟨u1, u2⟩ := e5 hd
                  have hNN : n1 ++ f ++ n3 = N := by rw [hN, z1, z2]
                  rw [hNN]
                  refine ⟨u1.frame fun z hz => hkeepw z (p10.inb z hz) (e4 z hz), ?_⟩
                  simp only [if_true, hdd]; exact u2
                · simp [hdd])
            intro next Q hk
            unfold Oper.wp
            have hr : (execOp a.eval o).run P c.w = .ok .skip (putCells c.w m (kv.toNat * sz + k) (a.eval y).cells.toList) := by
              have := run_storeAt (P := P) (t := t) (v := a.eval y) (off := kv.toNat * sz + k) p6' hty o4 (by rw [o4, p7]; omega) o2
              simp [execOp, ho, hv, this]
            rw [hr, Oper.upon_skip]
            refine hk _ { c.frz (fz.map (·.1)) with w := putCells c.w m (kv.toNat * sz + k) (a.eval y).cells.toList, G := fun u => if u = b then ⟨((c.frz (fz.map (·.1))).G b).top, if (d && dx) = true then ((c.frz (fz.map (·.1))).G b).O else []⟩ else (c.frz (fz.map (·.1))).G u } ⟨rfl, rfl, rfl, rfl, fun t ht => .inl ht⟩ ?_
            have := hfin.put (v := Go.undef) ((SR.undef .nil).mkGd []) o.dst
            rw [updH_app]; exact this
      · cases he
    · cases he
  · cases he
end
end Go.Proofs.Ytjneaalpiangdaa
end

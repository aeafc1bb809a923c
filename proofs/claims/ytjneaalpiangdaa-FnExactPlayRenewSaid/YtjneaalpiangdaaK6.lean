/- Parts of a proof, joined: WW, DA. -/
import Derived.Test.YtjneaalpiangdaaK5
import Derived.Test.YtjneaalpiangdaaChecked
/- Part WW. A function does what its tree says: THE COMPILER IS SOUND. Program independent. -/
section
namespace Go.Proofs.Ytjneaalpiangdaa
open Go.RowKit
section
variable {P : Program} {c : Cx} {n : Nat} {a : Act} {τ : St}
theorem backEnd_spec (h : Rel c n (slotOf τ) (hpGet τ.hp) a) {w0 : World} {ms0 : List PM} {vs0 : List Value} (hpin : ∀ t, c.A.pin t = pinOf ms0 vs0 t) : ∀ (ts : List TypeId) (i : Nat) {ms : List PM} {vs : List Value} {xs : List AV} {rf hs : List Nat} {bx : List E} {us : List Nat}, backEnd P τ i ts ms = some (bx, us) → ArgsR P w0 ts ms vs xs rf hs →
    (∀ k, ms[k]? = ms0[i + k]?) → (∀ k, vs[k]? = vs0[i + k]?) → ∃ f o, BacksR P c.w ts ms vs (bx.map (E.den c.ρ)) f o ∧ o = us.flatMap (fun t => (c.G t).top) ∧ ∀ b ∈ f, c.see (lentB P τ i ts ms) b
  | [], i, ms, vs, xs, rf, hs, bx, us, he, ha, _, _ => by
    simp [backEnd] at he; obtain ⟨rfl, rfl⟩ := he
    exact ⟨[], [], .nil, rfl, by simp⟩
  | t :: ts, i, ms, vs, xs, rf, hs, bx, us, he, ha, hms, hvs => by
    cases ha with
    | @cons _ _ _ v vs x xs f hh rf hs harg hrest =>
    have hm0 : ms.headD .ro = (ms0[i]?).getD .ro := by
      have := hms 0
      rw [Nat.add_zero] at this
      rw [← this]
      cases ms <;> rfl
    have hv0 : vs0[i]? = some v := by have := hvs 0; simpa using this.symm
    unfold backEnd at he
    split at he
    · cases he
    rename_i bx' us' hrec
    obtain ⟨f2, o2, b1, b2, b3⟩ := backEnd_spec h hpin ts (i + 1) hrec hrest (fun k => by rw [show i + 1 + k = i + (k + 1) from by omega, ← hms (k + 1)]; cases ms <;> simp) (fun k => by rw [show i + 1 + k = i + (k + 1) from by omega, ← hvs (k + 1)]; simp)
    have see2 : ∀ b ∈ f2, c.see (lentB P τ i (t :: ts) ms) b := fun b hb => (b3 b hb).mono fun t ht => by simp only [lentB, List.mem_append]; exact .inr ht
    split at he
    · cases he
    rename_i hi
    split at he
    · rename_i hm
      simp only [Option.some.injEq, Prod.mk.injEq] at he
      obtain ⟨rfl, rfl⟩ := he
      exact ⟨f2, o2, .ro hm b1, b2, see2⟩
    · rename_i own hm
      simp only [Option.some.injEq, Prod.mk.injEq] at he
      obtain ⟨rfl, rfl⟩ := he
      exact ⟨f2, o2, .va hm b1, b2, see2⟩
    · rename_i own hm
      split at he
      · cases he
      rename_i hle
      split at he
      · rename_i es l hmu
        simp only [Option.some.injEq, Prod.mk.injEq] at he
        obtain ⟨rfl, rfl⟩ := he
        rw [hm] at harg
        obtain ⟨us0, ys0, hg, hc⟩ := harg
        obtain ⟨o1, q1, q2⟩ := muEnd_spec h hpin (i := i) (by omega) hv0 (by rw [← hm0]; exact hm) (leaves P t) 0 hc (by omega) (fun k u hu he => by
          rw [Nat.zero_add]
          split at hg
          · obtain ⟨rfl, _, _⟩ := hg
            simpa [Value.cells] using hu
          · obtain ⟨rfl, _⟩ := hg
            cases k with
            | zero =>
              simp at hu; subst hu
              rw [hc.own_one (nx := 0) (mk := cellE (.var 0) true) (j := 0) 0 v rfl he]; rfl
            | succ k => simp at hu) hmu
        refine ⟨[] ++ f2, o1 ++ o2, BacksR.mu (us := us0) (ys := es.map (E.den c.ρ)) hm ?_ q1 b1, by rw [q2, b2, List.flatMap_append], see2⟩
        split at hg
        · rename_i hag
          rw [if_pos hag, if_pos hag]
          exact ⟨hg.1, by simp only [E.den, EL.den_of]⟩
        · rename_i hag
          rw [if_neg hag, if_neg hag]
          obtain ⟨rfl, _⟩ := hg
          refine ⟨rfl, ?_⟩
          have mlen : ∀ {ts : List TypeId} {fl : List Bool} {us : List Value} {ys : List AV} {o : List Nat}, MuC P c.w ts fl us ys o → us.length = ys.length := by
            intro ts fl us ys o hmc
            induction hmc <;> simp_all
          have := mlen q1
          match es, this with
          | [e], _ => rfl
      · cases he
    · rename_i own own' hm
      rw [hm] at harg
      obtain ⟨ty, b, C0, ys0, h9, g1, rfl, g3, g4, rfl, g6, rfl⟩ := harg
      split at he
      · rename_i ty1 ty2 g cs hpt hbox
        rw [g1] at hpt; cases hpt
        split at he
        · cases he
        rename_i hne
        have hne : ty2 = ty := by simpa using hne
        subst hne
        split at he
        · rename_i es vs' hes hvs'
          simp only [Option.some.injEq, Prod.mk.injEq] at he
          obtain ⟨rfl, rfl⟩ := he
          obtain ⟨b', C, p1, p2, p3, p4, p5, p6, p7⟩ := h.ents _ _ (by rw [hbox]; rfl)
          have hpu : c.A.pin (1000 * i) = some (.pointer (some ⟨b, 0, none⟩)) := by
            rw [hpin]
            unfold pinOf
            have e1 : (1000 * i) / 1000 = i := by omega
            have e2 : (1000 * i) % 1000 = 0 := by omega
            rw [if_pos (by unfold isPin; simp only [e2, Bool.and_eq_true, decide_eq_true_eq, Bool.or_eq_true]; simp; omega), e1, e2, hv0, ← hm0, hm]
            rfl
          have hH := (h.base.pins _ _ hpu).2 p1
          rw [p2] at hH
          cases hH
          obtain ⟨f1, q1, q2⟩ := ownedC_spec (P := P) h (leaves P ty2) hvs' p7 hes (Nat.le_refl _)
          refine ⟨f1 ++ f2, _, BacksR.bx hm g1 rfl p5 p6 (by simp only [E.den]) q1 b1, by rw [b2]; simp [p3], fun x hx => ?_⟩
          rcases List.mem_append.1 hx with hx | hx
          · refine (q2 x hx).mono fun t ht => ?_
            simp only [lentB, hm, g1, hbox, List.mem_append]
            exact .inl ht
          · exact see2 x hx
        · cases he
      · cases he
end
theorem entryAll_ne {P : Program} : ∀ (ts : List TypeId) (i : Nat) (ms : List PM) (ss : List SV) (l : List (Nat × Ent)), entryAll P i ts ms = some (ss, l) → ∀ t x, (t, x) ∈ l → ∀ gs f, x ≠ .gd gs f
  | [], i, ms, ss, l, h, t, x, hx => by simp [entryAll] at h; obtain ⟨_, rfl⟩ := h; simp at hx
  | t0 :: ts, i, ms, ss, l, h, t, x, hx => by
    unfold entryAll at h
    split at h
    · rename_i s1 l1 ss1 l2 q1 q2
      simp only [Option.some.injEq, Prod.mk.injEq] at h
      obtain ⟨_, rfl⟩ := h
      rcases List.mem_append.1 hx with hx | hx
      · have hV : ∀ (b : Nat) (own : List Bool), entryV P i b t0 own = some (s1, l1) → ∀ gs f, x ≠ .gd gs f := by
          intro b own hh
          unfold entryV at hh
          simp only at hh
          split at hh
          · cases hh
          · split at hh
            · simp only [Option.some.injEq, Prod.mk.injEq] at hh
              obtain ⟨_, rfl⟩ := hh
              intro gs f; exact freshCells_ne _ _ _ _ _ hx
            · split at hh
              · simp only [Option.some.injEq, Prod.mk.injEq] at hh
                obtain ⟨_, rfl⟩ := hh
                intro gs f; exact freshCells_ne _ _ _ _ _ hx
              · cases hh
        unfold entryS at q1
        split at q1
        · simp only [Option.some.injEq, Prod.mk.injEq] at q1; rw [← q1.2] at hx; simp at hx
        · exact hV _ _ q1
        · exact hV _ _ q1
        · split at q1
          · simp only at q1
            split at q1
            · cases q1
            · simp only [Option.some.injEq, Prod.mk.injEq] at q1
              obtain ⟨_, rfl⟩ := q1
              rcases List.mem_cons.1 hx with hx | hx
              · cases hx; simp
              · intro gs f; exact freshCells_ne _ _ _ _ _ hx
          · cases q1
      · exact entryAll_ne _ _ _ _ _ q2 t x hx
    · cases h
/-- A function does what its tree says. -/
theorem comp_ret {P : Program} {sg : Nat → Option Sig} (hmx : P.follows .mixedOrders = true) (hsg : ∀ f s, sg f = some s → f < 1000000) {f : Nat} {s : Sig} {fn : Func} {t : Tr} {xs : List AV} {r : AV} (hfn : P.funcs[f]? = some fn) (hs : sg f = some s) (hname : (fn.name == "runtime.NumGoroutine") = false)
    (hcomp : comp P sg f = some t) (hflat : resFlat P fn s r = true) (hlen : xs.length = fn.params.size + fn.nfree) (hd : t.den (Rts P sg) (fun r' => r' = r) (fun _ _ _ _ => False) [] xs) : Ret P s f xs r := by
  unfold comp at hcomp
  simp only [hfn, hs] at hcomp
  split at hcomp
  · rename_i code σ hbody hent
    split at hcomp
    · rename_i t0 hex
      refine ⟨fn, hfn, by rw [hbody]; rfl, hname, hflat, hlen, fun w vs rf hs' hargs hdis hnod => ?_⟩
      -- the entry
      unfold entrySt at hent
      split at hent
      · cases hent
      rename_i ss l hall
      simp only at hent
      split at hent
      · cases hent
      rename_i hcond
      simp only [Bool.or_eq_true, decide_eq_true_eq, not_or, Nat.not_lt] at hcond
      simp only [Option.some.injEq] at hent; subst hent
      let pin : Nat → Option Value := pinOf s.modes vs
      let c0 : Cx := { ρ := xs, w := w, G := fun _ => ⟨[], []⟩, K := fun _ _ => False, H := fun _ _ => undef, A := ⟨fun b => b ∈ rf, pin⟩, w0 := w, Mu := fun b => b ∈ hs', U := fun _ => False }
      have hvl : vs.length = xs.length := by
        have : ∀ {ts : List TypeId} {ms : List PM} {vs : List Value} {xs : List AV} {rf hs : List Nat}, ArgsR P w ts ms vs xs rf hs → vs.length = xs.length := by
          intro ts ms vs xs rf hs h
          induction h <;> simp_all
        exact this hargs
      obtain ⟨recs, e1, e2, e3, e4, e5, e6, e7, e8⟩ := entry_spec (c := c0) (ms0 := s.modes) (vs0 := vs) fn.params.toList 0 hall hargs (fun k x hx => by simp only [E.den, Nat.zero_add]; show (xs[k]?).getD .undef = x; rw [hx]; rfl) (fun k => by simp) (fun k => by simp)
      have aft := Cx.chg_aft (c := c0) (w' := w) (recs := recs) (fun t g hk => hk.elim) e4 (fun r _ _ h => h)
      have hU5 : ∀ r ∈ recs, r.tag < 100000 := fun r hr => by
        have := e3 r hr
        simp only [Nat.zero_add, Array.length_toList] at this
        omega
      let c : Cx := { c0.chg w recs with U := fun t => t < 100000 }
      have hc_ok : ∀ b ∈ rf, (c0.chg w recs).ok b := by
        intro b hb
        refine ⟨fun ⟨t, ht⟩ => ?_, .inl hb⟩
        by_cases hT : ∃ r ∈ recs, r.tag = t
        · obtain ⟨r, hr, rfl⟩ := hT
          rw [Cx.chg_G e4 hr] at ht
          exact hdis b (by rw [← e2]; exact List.mem_flatMap.2 ⟨r, hr, ht⟩) hb
        · rw [Cx.chg_G' fun r hr hh => hT ⟨r, hr, hh⟩] at ht
          simp [c0] at ht
      obtain ⟨g1, g2⟩ := e8 _ aft hc_ok
      have kc : Keep (c0.chg w recs) c := ⟨rfl, fun _ _ hb => hb, fun _ _ _ => rfl, fun _ _ hk => ⟨hk, rfl⟩⟩
      have hfr : fn.params.size + fn.nfree = vs.length := by rw [hvl, hlen]
      have hss : (ss ++ (List.range fn.nfree).map fun j => SV.e (.var (fn.params.size + j))).length = vs.length := by
        rw [List.length_append, e6, List.length_map, List.length_range, Array.length_toList]; exact hfr
      have g1' : SR c (ss ++ (List.range fn.nfree).map fun j => SV.e (.var (fn.params.size + j))) vs := by
        have := g1.keep kc
        have hpl : fn.params.toList.length = fn.params.size := Array.length_toList
        rw [show vs.length - fn.params.toList.length = fn.nfree from by omega] at this
        simpa using this
      have hG : ∀ t, (∃ r ∈ recs, r.tag = t ∧ c.G t = ⟨r.top, []⟩) ∨ c.G t = ⟨[], []⟩ := fun t => by
        by_cases hT : ∃ r ∈ recs, r.tag = t
        · obtain ⟨r, hr, rfl⟩ := hT
          exact .inl ⟨r, hr, rfl, Cx.chg_G (w' := w) e4 hr⟩
        · exact .inr (Cx.chg_G' (w' := w) fun r hr hh => hT ⟨r, hr, hh⟩)
      have hhs : ∀ r ∈ recs, ∀ b ∈ r.top, b ∈ hs' := fun r hr b hb => by rw [← e2]; exact List.mem_flatMap.2 ⟨r, hr, hb⟩
      have hinb : ∀ b ∈ hs', b < w.heap.size := by
        have : ∀ {ts : List TypeId} {ms : List PM} {vs : List Value} {xs : List AV} {rf hs : List Nat}, ArgsR P w ts ms vs xs rf hs → ∀ b ∈ hs, b < w.heap.size := by
          intro ts ms vs xs rf hs h
          induction h with
          | nil => simp
          | @cons t ts ms v vs x xs f h rf hs harg _ ih =>
            intro b hb
            rcases List.mem_append.1 hb with hb | hb
            · cases hm : ms.headD .ro with
              | ro => rw [hm] at harg; rw [harg.2] at hb; simp at hb
              | va own => rw [hm] at harg; obtain ⟨_, _, _, hc⟩ := harg; exact hc.inb.2 b hb
              | mu own => rw [hm] at harg; obtain ⟨_, _, _, hc⟩ := harg; exact hc.inb.2 b hb
              | bx own own' =>
                rw [hm] at harg
                obtain ⟨_, b0, _, _, _, _, _, hh, _, _, hc, rfl⟩ := harg
                rcases List.mem_cons.1 hb with rfl | hb
                · exact lt_of_heap hh
                · exact hc.inb.2 b hb
            · exact ih b hb
          | free _ _ ih => exact ih
        exact this hargs
      have hrecs : ∀ t e, hpGet l t = some e → ∃ r ∈ recs, r.tag = t ∧ r.ent = e := fun t e he => by
        have := hpGet_mem he
        rw [e1] at this
        obtain ⟨r, hr, hre⟩ := List.mem_map.1 this
        simp only [Chg.pair, Prod.mk.injEq] at hre
        exact ⟨r, hr, hre.1, hre.2⟩
      let F : Fix := ⟨w, ⟨fun b => b ∈ rf, pin⟩, fun b => b ∈ hs', fun t v h => by
        simp only [pin, pinOf] at h
        split at h
        · assumption
        · cases h⟩
      have hrel : Rel c fn.ntmps (slotOf { sl := ss ++ (List.range fn.nfree).map (fun j => SV.e (.var (fn.params.size + j))) ++ List.replicate (fn.ntmps - (fn.params.size + fn.nfree)) .undef, hp := l, nx := 100000, nv := fn.params.size + fn.nfree }) (hpGet l) { tmps := vs.toArray ++ Array.replicate (fn.ntmps - vs.toArray.size) undef, defers := [] } := by
        refine ⟨rfl, by simp; omega, ⟨rfl, rfl, rfl, Nat.le_refl _, fun t v hp => ⟨?_, fun hk => ?_⟩, fun b _ _ => rfl⟩, fun i => ?_, fun t e hr => ?_, fun t hn => ?_, ⟨fun t => ?_, fun t u htu b hb hb' => ?_, fun t b hb => ?_, fun t b hb => ?_⟩, fun t g hk => ?_, fun t e he => ?_⟩
        · have := F.pinOK t v hp
          unfold isPin at this
          simp only [Bool.and_eq_true, decide_eq_true_eq] at this
          exact this.1
        · rcases hk with hk | ⟨r, hr, rfl, hnew, _⟩
          · exact hk.elim
          · exact (aft.new r hr v (e5 r hr v hp)).2.2
        · have hcat : SR c (ss ++ (List.range fn.nfree).map (fun j => SV.e (.var (fn.params.size + j))) ++ List.replicate (fn.ntmps - (fn.params.size + fn.nfree)) .undef) (vs ++ List.replicate (fn.ntmps - (fn.params.size + fn.nfree)) undef) := by
            refine g1'.app ?_
            have : ∀ k, SR c (List.replicate k SV.undef) (List.replicate k undef) := by
              intro k
              induction k with
              | zero => exact .nil
              | succ k ih => exact .undef ih
            exact this _
          unfold slotOf
          simp only
          cases hq : (ss ++ (List.range fn.nfree).map (fun j => SV.e (.var (fn.params.size + j))) ++ List.replicate (fn.ntmps - (fn.params.size + fn.nfree)) SV.undef)[i]? with
          | none => exact .undef .nil
          | some s' =>
            obtain ⟨v', hv', hsr⟩ := hcat.get hq
            have : (vs.toArray ++ Array.replicate (fn.ntmps - vs.toArray.size) undef).getD i undef = v' := by
              rw [Array.getD_eq_getD_getElem?]
              have e : (vs.toArray ++ Array.replicate (fn.ntmps - vs.toArray.size) undef)[i]? = (vs ++ List.replicate (fn.ntmps - (fn.params.size + fn.nfree)) undef)[i]? := by
                rw [← Array.getElem?_toList]
                simp [hfr]
              rw [e, hv']; rfl
            rw [this]; exact hsr
        · cases hh : hpGet l t with
          | none => rw [hh] at hr; exact hr.elim
          | some e0 =>
            obtain ⟨r, hr', rfl, rfl⟩ := hrecs t e0 hh
            have hent := (g2 r hr').keep kc rfl (fun g hg => hg) (fun b _ => rfl)
            rw [hh] at hr
            cases he : r.ent with
            | gd gs e' =>
              rw [he] at hent hr
              obtain ⟨_, rfl⟩ := hr
              -- no such entry comes to be at an entry
              have hnew := (e3 r hr').2.2
              exfalso
              exact entryAll_ne _ _ _ _ _ hall r.tag r.ent (by rw [e1]; exact List.mem_map.2 ⟨r, hr', rfl⟩) _ _ he
            | _ => rw [he] at hent hr; simp only [Res] at hr; subst hr; exact hent
        · rcases hG t with ⟨r, hr, rfl, hg⟩ | hg
          · exfalso
            have hmem : (r.tag, r.ent) ∈ l := by rw [e1]; exact List.mem_map.2 ⟨r, hr, rfl⟩
            have : ∃ e, hpGet l r.tag = some e := by
              have : ∀ (l : List (Nat × Ent)), (r.tag, r.ent) ∈ l → ∃ e, hpGet l r.tag = some e := by
                intro l
                induction l with
                | nil => intro h; simp at h
                | cons p l ih =>
                  obtain ⟨u, f'⟩ := p
                  intro h
                  simp only [hpGet]
                  split
                  · exact ⟨_, rfl⟩
                  · rename_i hu
                    rcases List.mem_cons.1 h with h | h
                    · cases h; exact absurd rfl hu
                    · exact ih h
              exact this l hmem
            obtain ⟨e, he⟩ := this
            obtain ⟨r', hr', ht', rfl⟩ := hrecs _ _ he
            have hgd : ∀ gs f', r'.ent ≠ .gd gs f' := by
              intro gs f' hg'
              exact entryAll_ne _ _ _ _ _ hall r'.tag r'.ent (by rw [e1]; exact List.mem_map.2 ⟨r', hr', rfl⟩) _ _ hg'
            apply hn r'.ent
            rw [he]
            cases hr'' : r'.ent with
            | gd gs f' => exact absurd hr'' (hgd gs f')
            | _ => simp [Res]
          · rw [hg]; simp
        · rcases hG t with ⟨r, hr, rfl, hg⟩ | hg
          · rw [hg]
            rw [← e2] at hnod
            simpa [GI.own] using (flat_nodup hnod).1 r hr
          · rw [hg]; simp [GI.own]
        · rcases hG t with ⟨r, hr, rfl, hg⟩ | hg
          · rcases hG u with ⟨q, hq, rfl, hg'⟩ | hg'
            · rw [hg] at hb
              rw [hg'] at hb'
              simp only [GI.own, List.append_nil] at hb hb'
              rw [← e2] at hnod
              obtain ⟨i, hi⟩ := List.getElem?_of_mem hr
              obtain ⟨j, hj⟩ := List.getElem?_of_mem hq
              have := (flat_nodup hnod).2 i j r q b hi hj hb hb'
              subst this
              rw [hi] at hj; cases hj; exact htu rfl
            · rw [hg'] at hb'; simp [GI.own] at hb'
          · rw [hg] at hb; simp [GI.own] at hb
        · rcases hG t with ⟨r, hr, rfl, hg⟩ | hg
          · rw [hg] at hb
            simp only [GI.own, List.append_nil] at hb
            exact .inr (hhs r hr b hb)
          · rw [hg] at hb; simp [GI.own] at hb
        · rcases hG t with ⟨r, hr, rfl, hg⟩ | hg
          · rw [hg] at hb
            simp only [GI.own, List.append_nil] at hb
            exact hinb b (hhs r hr b hb)
          · rw [hg] at hb; simp [GI.own] at hb
        · rcases hk with hk | ⟨r, hr, rfl, _⟩
          · exact hk.elim
          · exact hU5 r hr
        · obtain ⟨r, hr, rfl, _⟩ := hrecs t e he
          exact hU5 r hr
      have hRelS : RelS F xs { sl := ss ++ (List.range fn.nfree).map (fun j => SV.e (.var (fn.params.size + j))) ++ List.replicate (fn.ntmps - (fn.params.size + fn.nfree)) .undef, hp := l, nx := 100000, nv := fn.params.size + fn.nfree } { tmps := vs.toArray ++ Array.replicate (fn.ntmps - vs.toArray.size) undef, defers := [] } w := by
        refine ⟨c, rfl, rfl, rfl, rfl, rfl, hlen, fun t ht => ht, ?_⟩
        have hl : (ss ++ (List.range fn.nfree).map (fun j => SV.e (.var (fn.params.size + j))) ++ List.replicate (fn.ntmps - (fn.params.size + fn.nfree)) SV.undef).length = fn.ntmps := by
          rw [List.length_append, hss, List.length_replicate]; omega
        show Rel c (ss ++ (List.range fn.nfree).map (fun j => SV.e (.var (fn.params.size + j))) ++ List.replicate (fn.ntmps - (fn.params.size + fn.nfree)) SV.undef).length _ _ _
        rw [hl]; exact hrel
      -- the body
      refine calls_of_wp hfn hbody ?_
      have hL0 : LMono (fun _ _ _ _ => False) := fun _ _ _ _ _ _ h => h
      have hd0 := Tr.sub_den _ hL0 t0 hcomp hd
      refine exec_sound (region_ok hmx (op_ok hsg) nil_ok) inst_ok' code [] _ _ t0 hex F (fun r' => r' = r) _ [] xs _ w (subL_mono hL0 _ _) hd0 hRelS _ fun i x τ ρ' a' w' hp hl hrel' => ?_
      obtain ⟨tr, d', q1, q2, q3⟩ := hl
      have main : endTr P fn s τ = some tr → a'.defers = [] ∧ ∃ v, (results fn a'.tmps).run P w' = .ok v w' ∧ ∃ v', Ending.returned v = .returned v' ∧ Post P fn s w vs rf hs' r v' w' := by
        intro hend
        obtain ⟨c2, rfl, rfl, k1, k2, k3, k4, k5, k6⟩ := hrel'
        unfold endTr at hend
        split at hend
        · rename_i rs bx us hrs hbk
          split at hend
          · rename_i es vs' hes hov
            split at hend
            · cases hend
            rename_i hchk
            simp only [Bool.or_eq_true, Bool.not_eq_true', not_or, Bool.not_eq_false, Bool.not_eq_true] at hchk
            obtain ⟨hnd, hap⟩ := hchk
            have hnd := nodupN_ok hnd
            simp only [Option.some.injEq] at hend; subst hend
            have hr : _ = r := q3
            obtain ⟨rvs, z1, z2, z3⟩ := results_spec k6 fn hrs
            obtain ⟨f1, y1, y2⟩ := ownedVs_spec (P := P) k6 fn.resultTypes.toList hov z1 hes (Nat.le_refl _)
            obtain ⟨f2, o2, x1, x2, x3⟩ := backEnd_spec (P := P) k6 (w0 := w) (ms0 := s.modes) (vs0 := vs) (fun t => by rw [k2]) fn.params.toList 0 hbk hargs (fun k => by simp) (fun k => by simp)
            refine ⟨k6.defers, _, z3, _, rfl, ⟨?_, ?_⟩⟩
            · -- what comes back
              have hR : ∃ R, R = (match es with | .cons x .nil => x | es => E.tup es).den c2.ρ ∧ ResR P c2.w fn.resultTypes.toList s.res (match rvs with | [u] => u | us => .tuple us.toArray) R f1 (vs'.flatMap fun t => (c2.G t).top) := by
                refine ⟨_, rfl, ?_⟩
                have yl : es.den c2.ρ = es.den c2.ρ := rfl
                generalize hts : fn.resultTypes.toList = ts at y1 ⊢
                generalize hxs : es.den c2.ρ = ys at y1
                generalize (vs'.flatMap fun t => (c2.G t).top) = o1 at y1 ⊢
                cases y1 with
                | nil =>
                  cases es with
                  | nil => exact ⟨[], [], rfl, by simp [E.den, EL.den], .nil⟩
                  | cons e es => simp [EL.den] at hxs
                | @cons t ts fl v vs2 x xs2 f h rf2 hs2 w1 w2 =>
                  cases w2 with
                  | nil =>
                    cases es with
                    | nil => simp [EL.den] at hxs
                    | cons e es =>
                      cases es with
                      | nil =>
                        simp only [EL.den, List.cons.injEq, and_true] at hxs
                        subst hxs
                        simpa [ResR] using w1
                      | cons e2 es => simp [EL.den] at hxs
                  | @cons t2 ts2 fl2 v2 vs3 x2 xs3 f2' h2 rf3 hs3 w3 w4 =>
                    cases es with
                    | nil => simp [EL.den] at hxs
                    | cons e es =>
                      cases es with
                      | nil => simp [EL.den] at hxs
                      | cons e2 es =>
                        refine ⟨v :: v2 :: vs3, x :: x2 :: xs3, rfl, ?_, .cons w1 (.cons w3 w4)⟩
                        simp only [E.den, hxs]
              obtain ⟨R, hR1, hR2⟩ := hR
              have hown : ∀ b ∈ (vs'.flatMap fun t => (c2.G t).top) ++ o2, ∃ t ∈ vs' ++ us, b ∈ (c2.G t).top := fun b hb => by
                rcases List.mem_append.1 hb with hb | hb
                · obtain ⟨t, ht, hbt⟩ := List.mem_flatMap.1 hb; exact ⟨t, by simp [ht], hbt⟩
                · rw [x2] at hb
                  obtain ⟨t, ht, hbt⟩ := List.mem_flatMap.1 hb; exact ⟨t, by simp [ht], hbt⟩
              have hallow : ∀ b t, b ∈ (c2.G t).top → b ∈ hs' ∨ w.heap.size ≤ b := fun b t hb => by
                rcases k6.gw.allow t b (by simp [GI.own, hb]) with h | h
                · simp only [Cx.B, k1] at h; exact .inr h
                · rw [k3] at h; exact .inl h
              refine ⟨R, bx.map (E.den c2.ρ), f1, _, f2, o2, ?_, hR2, x1, ?_, fun b hb => ?_, fun b hb => ?_⟩
              · rw [← hr, hR1]
                cases bx with
                | nil => rfl
                | cons b bx =>
                  simp only [List.isEmpty_cons, Bool.false_eq_true, if_false, E.den, EL.den_of, List.map_cons]
                  rfl
              · rw [x2, ← List.flatMap_append]
                have : ∀ l : List Nat, l.Nodup → (l.flatMap fun t => (c2.G t).top).Nodup := by
                  intro l
                  induction l with
                  | nil => intro _; simp
                  | cons t l ih =>
                    intro hl
                    rw [List.nodup_cons] at hl
                    rw [List.flatMap_cons, List.nodup_append]
                    refine ⟨(List.nodup_append.1 (k6.gw.nodup t)).1, ih hl.2, fun x hx y hy hxy => ?_⟩
                    subst hxy
                    obtain ⟨u, hu, hxu⟩ := List.mem_flatMap.1 hy
                    exact k6.gw.disj t u (fun hh => hl.1 (hh ▸ hu)) x (by simp [GI.own, hx]) (by simp [GI.own, hxu])
                exact this _ hnd
              · obtain ⟨t, ht, hbt⟩ := hown b hb
                exact ⟨hallow b t hbt, k6.gw.inb t b (by simp [GI.own, hbt])⟩
              · have hsee : c2.see (lentVs P τ fn.resultTypes.toList s.res rs ++ lentB P τ 0 fn.params.toList s.modes) b := by
                  rcases List.mem_append.1 hb with hb | hb
                  · exact (y2 b hb).mono fun t ht => by simp [ht]
                  · exact (x3 b hb).mono fun t ht => by simp [ht]
                rcases hsee with hok | ⟨t, ht, hbt⟩
                · refine ⟨fun ho => ?_, ?_⟩
                  · obtain ⟨u, _, hbu⟩ := hown b ho
                    exact hok.1 ⟨u, hbu⟩
                  · rcases hok.2 with h | h | h
                    · rw [k2] at h; exact .inl h
                    · simp only [Cx.B, k1] at h; exact .inr (.inr h)
                    · rw [k3] at h; exact .inr (.inl h)
                · refine ⟨fun ho => ?_, .inr (hallow b t hbt)⟩
                  obtain ⟨u, hu, hbu⟩ := hown b ho
                  have htu : t ≠ u := by
                    rintro rfl
                    rw [List.any_eq_false] at hap
                    have := hap t ht
                    simp only [List.contains_eq_mem, decide_eq_true_eq] at this
                    exact this hu
                  exact k6.gw.disj t u htu b (by simp [GI.own, hbt]) (by simp [GI.own, hbu])
            · have hb := k6.base
              refine ⟨?_, ?_, ?_, ?_, fun k hk hn => ?_⟩
              · rw [hb.os, k1]
              · rw [hb.tape, k1]
              · rw [hb.output, k1]
              · have := hb.size; rw [k1] at this; exact this
              · have := hb.block k (by rw [k1]; exact hk) (by rw [k3]; exact hn)
                rw [k1] at this; exact this
          · cases hend
        · cases hend
      cases x with
      | normal => exact main q1
      | ret => exact main q1
      | exit id => cases q1
    · cases hcomp
  · cases hcomp
end Go.Proofs.Ytjneaalpiangdaa
end

/- Part DA. How functions of the program are handed over to, and the road from a tree to a contract. -/
section
namespace Go.Proofs.Ytjneaalpiangdaa
open Go.RowKit

noncomputable def flT (t : TypeId) : List Bool := (leaves Try.prog t).map fun u => match elemT Try.prog u with | some e => flatT Try.prog e | none => false
def fl5 : List Bool := [false, false, true, false, true]
noncomputable def ptrFl (u : TypeId) : List Bool := if (leaves Try.prog u).length = 5 then fl5 else []
noncomputable def sgGen (fn : Func) : Sig := { modes := fn.params.toList.map fun t => match ptrT Try.prog t with | some u => .bx (ptrFl u) (ptrFl u) | none => .ro, res := fn.resultTypes.toList.flatMap flT }
def sgSpec (f : Nat) : Option Sig :=
  match f with
  | 49 => some { modes := [.va fl5, .ro], res := fl5 }
  | 24 => some { modes := [.mu fl5, .ro], res := [] }
  | 75 => some { modes := [.mu [true], .ro], res := [] }
  | 76 => some { modes := [.mu [true], .ro], res := [] }
  | 39 => some { modes := [.mu [true], .ro], res := [] }
  | 40 => some { modes := [.mu [true], .ro], res := [] }
  | 7 => some { modes := [], res := [] }
  | 26 => some { modes := [], res := [] }
  | _ => none
noncomputable def sgs (f : Nat) : Option Sig := match Try.prog.funcs[f]? with
  | some fn => some ((sgSpec f).getD (sgGen fn))
  | none => none
theorem mixedT : Try.prog.follows .mixedOrders = true := by kernel_rfl
theorem fewT : Try.prog.funcs.size < 1000000 := by
  have : (decide (Try.prog.funcs.size < 1000000)) = true := by kernel_rfl
  exact of_decide_eq_true this
theorem sgs_lt (f : Nat) (s : Sig) (h : sgs f = some s) : f < 1000000 := by
  unfold sgs at h
  split at h
  · rename_i fn hf
    have := (Array.getElem?_eq_some_iff.1 hf).1
    exact Nat.lt_trans this fewT
  · cases h
/-- What a contract asks of a function beside its tree. -/
def chkF (P : Program) (sg : Nat → Option Sig) (f : Nat) (xs : List AV) (r : AV) : Bool :=
  match P.funcs[f]?, sg f with
  | some fn, some s => !(fn.name == "runtime.NumGoroutine") && resFlat P fn s r && xs.length == fn.params.size + fn.nfree
  | _, _ => false
abbrev Den (t : Tr) (r : AV) (xs : List AV) : Prop := t.den (Rts Try.prog sgs) (fun r' => r' = r) (fun _ _ _ _ => False) [] xs
theorem rts_of {f : Nat} {t : Tr} {xs : List AV} {r : AV} (hc : comp Try.prog sgs f = some t) (hk : chkF Try.prog sgs f xs r = true) (hd : Den t r xs) : Rts Try.prog sgs f xs r := by
  unfold chkF at hk
  split at hk
  · rename_i fn s hf hs
    simp only [Bool.and_eq_true, Bool.not_eq_true', beq_iff_eq] at hk
    unfold Rts
    rw [if_pos (sgs_lt f s hs)]
    exact ⟨s, hs, comp_ret mixedT sgs_lt hf hs hk.1.1 hc hk.1.2 hk.2 hd⟩
  · cases hk
/-! ### Steps of a tree -/
section
variable {Rt : Nat → List AV → AV → Prop} {R : AV → Prop} {L : LK} {js : List JK} {ρ : List AV}
theorem den_loop {i : EL} {b k : Tr} (hL : LMono L) (I : Nat → List AV → Prop) {m : Nat} (h0 : I m (i.den ρ)) (hstep : ∀ m vs, I m vs → b.den Rt R L ((fun us => ∃ m', m' < m ∧ I m' us) :: (fun us => k.den Rt R L js (ρ ++ us)) :: js) (ρ ++ vs)) : (Tr.loop i b k).den Rt R L js ρ := by
  have hb : ∀ W W' : JK, (∀ vs, W vs → W' vs) → ∀ vs, b.den Rt R L (W :: (fun us => k.den Rt R L js (ρ ++ us)) :: js) (ρ ++ vs) → b.den Rt R L (W' :: (fun us => k.den Rt R L js (ρ ++ us)) :: js) (ρ ++ vs) :=
    fun W W' hW vs hv => b.den_js hL hv (.cons hW (JLe.refl _))
  have mono : ∀ n vs, loopK (fun W vs => b.den Rt R L (W :: (fun us => k.den Rt R L js (ρ ++ us)) :: js) (ρ ++ vs)) n vs → ∀ n', n ≤ n' → loopK (fun W vs => b.den Rt R L (W :: (fun us => k.den Rt R L js (ρ ++ us)) :: js) (ρ ++ vs)) n' vs := by
    intro n
    induction n with
    | zero => intro vs h; exact h.elim
    | succ n ih =>
      intro vs h n' hn
      cases n' with
      | zero => omega
      | succ n' => exact hb _ _ (fun us hu => ih us hu n' (by omega)) vs h
  have key : ∀ m vs, I m vs → loopK (fun W vs => b.den Rt R L (W :: (fun us => k.den Rt R L js (ρ ++ us)) :: js) (ρ ++ vs)) (m + 1) vs := by
    intro m
    induction m using Nat.strongRecOn with
    | _ m ih =>
      intro vs hI
      exact hb _ _ (fun us ⟨m', hm, hu⟩ => mono _ _ (ih m' hm us hu) m (by omega)) vs (hstep m vs hI)
  exact ⟨m + 1, key m _ h0⟩
theorem lmono_false : LMono (fun _ _ _ _ => False) := fun _ _ _ _ _ _ h => h
end
@[simp] theorem gd_nil (ρ : List AV) : gdOK ρ [] ↔ True := ⟨fun _ => trivial, fun _ => gdOK_nil ρ⟩
@[simp] theorem gd_cons (ρ : List AV) (x : E) (b : Bool) (gs : Gd) : gdOK ρ ((x, b) :: gs) ↔ x.den ρ = .bool b ∧ gdOK ρ gs :=
  ⟨fun h => ⟨h (x, b) (by simp), fun g hg => h g (by simp [hg])⟩, fun h g hg => by rcases List.mem_cons.1 hg with rfl | hg; exact h.1; exact h.2 g hg⟩
attribute [simp] E.den EL.den Cn.den AV.fld AV.proj AV.deref AV.len AV.slen AV.idx AV.nth AV.notB AV.negI AV.conv AV.bin AV.bbin AV.sbin AV.app AV.setNth AV.win AV.rep
@[simp] theorem cells_agg (cs : List AV) : (AV.agg cs).cells = cs := rfl
@[simp] theorem cells_int (k : IntKind) (n : Int) : (AV.int k n).cells = [.int k n] := rfl
@[simp] theorem cells_bool (b : Bool) : (AV.bool b).cells = [.bool b] := rfl
@[simp] theorem cells_str (s : List UInt8) : (AV.str s).cells = [.str s] := rfl
@[simp] theorem cells_sl (xs : List AV) : (AV.sl xs).cells = [.sl xs] := rfl
@[simp] theorem scalar_int (k : IntKind) (n : Int) : (AV.int k n).scalar = true := rfl
@[simp] theorem scalar_bool (b : Bool) : (AV.bool b).scalar = true := rfl
@[simp] theorem scalar_str (s : List UInt8) : (AV.str s).scalar = true := rfl
@[simp] theorem cond_bb (b c d : Bool) : AV.cond (.bool b) (.bool c) (.bool d) = .bool (bif b then c else d) := by cases b <;> rfl
theorem cells_scalar {y : AV} (h : y.scalar = true) : y.cells = [y] := by cases y <;> first | rfl | simp [AV.scalar] at h
theorem wrap64 {n : Int} (h1 : -9223372036854775808 ≤ n) (h2 : n ≤ 9223372036854775807) : IntKind.i64.wrap n = n := by
  rw [IntKind.wrap_i64]; omega
end Go.Proofs.Ytjneaalpiangdaa
end

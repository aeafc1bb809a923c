/- Parts of a proof, joined: WP, WQ, WR, WS, WT, WU, WV, WW. -/
import Derived.Test.YtjneaalpiangdaaKB3
/- Part WP. The arguments of a call, whole; what comes back. Program independent. -/
section
namespace Go.Proofs.Ytjneaalpiangdaa
open Go.RowKit
section
variable {P : Program} {c : Cx} {hp : Nat → Option Ent} {gs : Gd}
theorem args_spec (eh : EH c hp) (k : gdOK c.ρ gs) (hU : ∀ t g, c.K t g → c.U t) : ∀ (ss : List SV) {ts : List TypeId} {ms : List PM} {es : List E} {bs : List PA} {us : List Nat} {vs : List Value}, argsE P hp gs ts ms ss = some (es, bs, us) → SR c ss vs → ts.length ≤ ss.length →
    ∃ rf hs, ArgsR P c.w ts ms vs (es.map (E.den c.ρ)) rf hs ∧ (∀ b ∈ rf, c.see us b) ∧ hs = (handed bs).flatMap (fun t => (c.G t).top) ∧ ArgsBack P c ts ms vs bs ∧ (∀ u ∈ handed bs, c.U u) ∧ (bs ≠ [] → gs = [])
  | [], ts, ms, es, bs, us, vs, h, hs, hl => by
    simp [argsE] at h; obtain ⟨rfl, rfl, rfl⟩ := h
    cases hs
    have : ts = [] := List.eq_nil_of_length_eq_zero (by simpa using hl)
    subst this
    exact ⟨[], [], .nil, by simp, by simp [handed], .nil, by simp [handed], by simp⟩
  | s :: ss, ts, ms, es, bs, us, [], h, hs, hl => by have := hs.len; simp at this
  | s :: ss, ts, ms, es, bs, us, v :: vs, h, hs, hl => by
    obtain ⟨r1, r2⟩ := hs.uncons
    unfold argsE at h
    split at h
    · cases h
    rename_i ys bs' us' hrec
    obtain ⟨rf, hs', q1, q2, q3, q4, q5, q6⟩ := args_spec eh k hU ss hrec r2 (by simp at hl ⊢; omega)
    have see1 : ∀ {a b : List Nat} {x : Nat}, c.see a x → c.see (a ++ b) x := fun h => h.mono fun t ht => by simp [ht]
    have see2 : ∀ {a b : List Nat} {x : Nat}, c.see b x → c.see (a ++ b) x := fun h => h.mono fun t ht => by simp [ht]
    split at h
    · rename_i hm
      obtain ⟨x, hx, hh⟩ := Option.map_eq_some_iff.1 h
      simp only [Prod.mk.injEq] at hh
      obtain ⟨rfl, rfl, rfl⟩ := hh
      obtain ⟨f, p1, p2⟩ := toEN_rd eh k deepFuel hx r1 deepFuel (Nat.le_refl _)
      have hb : ∀ b ∈ f ++ rf, c.see (tagsN hp gs (deepFuel + 1) [s] ++ us') b := fun b hb => by
        rcases List.mem_append.1 hb with hb | hb
        · exact see1 (p2 b hb)
        · exact see2 (q2 b hb)
      cases ts with
      | nil => exact ⟨f ++ rf, hs', .free p1 q1, hb, q3, .ro hm q4, q5, q6⟩
      | cons t ts => exact ⟨f ++ rf, [] ++ hs', .cons (by rw [hm]; exact ⟨p1, rfl⟩) q1, hb, q3, .ro hm q4, q5, q6⟩
    · rename_i own own' hm
      split at h
      · rename_i ty T hty
        split at h
        · rename_i ty' g cs hl0
          split at h
          · cases h
          rename_i hne
          have hne : ty' = ty := by simpa using hne
          subst hne
          split at h
          · rename_i xs rs vs' hxs hrs
            simp only [Option.some.injEq, Prod.mk.injEq] at h
            obtain ⟨rfl, rfl, rfl⟩ := h
            obtain ⟨t, ts, rfl, hpt⟩ : ∃ t ts', ts = t :: ts' ∧ ptrT P t = some ty' := by
              cases ts with
              | nil => simp at hty
              | cons t ts => exact ⟨t, ts, rfl, by simpa using hty⟩
            obtain ⟨b, C, g1, g2, g3, g4, g5, g6, g7⟩ := eh T _ (look_res hl0 k)
            obtain ⟨f, h8, p1, p2, p3, p4, p5⟩ := ownRows_spec (P := P) eh k hU (leaves P ty') hrs g7 hxs (Nat.le_refl _)
            have hv : v = .pointer (some ⟨b, 0, none⟩) := by
              cases r1 with
              | bptr k1 k2 _ => rw [g2] at k2; cases k2; rfl
            refine ⟨f ++ rf, (b :: h8) ++ hs', .cons ?_ q1, fun x hx => ?_, by simp [handed, p3, q3, g3], .bx hm hpt hv g1 (by rw [g2, hv]) p5 q4, fun u hu => ?_, fun _ => rfl⟩
            · rw [hm]
              exact ⟨ty', b, C, xs.den c.ρ, h8, hpt, hv, g5, g6, rfl, p1, rfl⟩
            · rcases List.mem_append.1 hx with hx | hx
              · exact see1 (p2 x hx)
              · exact see2 (q2 x hx)
            · simp only [handed, List.cons_append, List.mem_cons, List.mem_append] at hu
              rcases hu with rfl | hu | hu
              · exact hU _ _ g1
              · exact p5 u hu
              · exact q5 u hu
          · cases h
        · cases h
      · cases h
    · rename_i own hm
      split at h
      · rename_i t x hty hx
        split at h
        · cases h
        rename_i hag
        have hag : (valCells s).2 = aggT P t := by simpa using hag
        split at h
        · rename_i rs vs' hrs
          simp only [Option.some.injEq, Prod.mk.injEq] at h
          obtain ⟨rfl, rfl, rfl⟩ := h
          obtain ⟨ts, rfl⟩ : ∃ ts', ts = t :: ts' := by
            cases ts with
            | nil => simp at hty
            | cons t' ts => simp at hty; exact ⟨ts, by rw [hty]⟩
          obtain ⟨f, h8, p1, p2, p3, ⟨vs9, p4, p5⟩, p6⟩ := ownVal_spec (P := P) eh k hU r1 hx hag hrs
          refine ⟨f ++ rf, h8 ++ hs', .cons (by rw [hm]; exact p1) q1, fun x hx => ?_, by simp [handed, p3, q3], by rw [hag]; exact .mu hm p4 p5 q4, fun u hu => ?_, fun _ => rfl⟩
          · rcases List.mem_append.1 hx with hx | hx
            · exact see1 (p2 x hx)
            · exact see2 (q2 x hx)
          · simp only [handed, List.mem_append] at hu
            exact hu.elim (p6 u) (q5 u)
        · cases h
      · cases h
    · rename_i own hm
      split at h
      · rename_i t x hty hx
        split at h
        · cases h
        rename_i hag
        have hag : (valCells s).2 = aggT P t := by simpa using hag
        split at h
        · rename_i rs vs' hrs
          simp only [Option.some.injEq, Prod.mk.injEq] at h
          obtain ⟨rfl, rfl, rfl⟩ := h
          obtain ⟨ts, rfl⟩ : ∃ ts', ts = t :: ts' := by
            cases ts with
            | nil => simp at hty
            | cons t' ts => simp at hty; exact ⟨ts, by rw [hty]⟩
          obtain ⟨f, h8, p1, p2, p3, ⟨vs9, p4, p5⟩, p6⟩ := ownVal_spec (P := P) eh k hU r1 hx hag hrs
          refine ⟨f ++ rf, h8 ++ hs', .cons (by rw [hm]; exact p1) q1, fun x hx => ?_, by simp [handed, p3, q3], .va hm p6 q4, fun u hu => ?_, fun _ => rfl⟩
          · rcases List.mem_append.1 hx with hx | hx
            · exact see1 (p2 x hx)
            · exact see2 (q2 x hx)
          · simp only [handed, List.mem_append] at hu
            exact hu.elim (p6 u) (q5 u)
        · cases h
      · cases h
end
/-! ### What comes back -/
/-- Rows whose elements could be written: headers as before. -/
inductive MuC (P : Program) (w : World) : List TypeId → List Bool → List Value → List AV → List Nat → Prop where
  | nil {fl} : MuC P w [] fl [] [] []
  | own {t ts fl el u us y ys top o} : fl.headD false = true → elemT P t = some el → OwnRow w el (P.cellsOf el) u y top [] → MuC P w ts fl.tail us ys o → MuC P w (t :: ts) fl (u :: us) (y :: ys) (top ++ o)
  | skip {t ts fl u us y ys o} : (fl.headD false = true → elemT P t = none) → MuC P w ts fl.tail us ys o → MuC P w (t :: ts) fl (u :: us) (y :: ys) o
inductive BacksR (P : Program) (w : World) : List TypeId → List PM → List Value → List AV → List Nat → List Nat → Prop where
  | nil {ms vs} : BacksR P w [] ms vs [] [] []
  | ro {t ts ms v vs bs f o} : ms.headD .ro = .ro → BacksR P w ts ms.tail vs bs f o → BacksR P w (t :: ts) ms (v :: vs) bs f o
  | va {t ts ms own v vs bs f o} : ms.headD .ro = .va own → BacksR P w ts ms.tail vs bs f o → BacksR P w (t :: ts) ms (v :: vs) bs f o
  | mu {t ts ms own v vs us ys y bs f o1 o} : ms.headD .ro = .mu own → (if aggT P t then v = .agg us.toArray ∧ y = .agg ys else us = [v] ∧ ys = [y]) → MuC P w (leaves P t) own us ys o1 → BacksR P w ts ms.tail vs bs f o → BacksR P w (t :: ts) ms (v :: vs) (y :: bs) f (o1 ++ o)
  | bx {t ts ms own own' ty b C v vs ys y bs f1 o1 f o} : ms.headD .ro = .bx own own' → ptrT P t = some ty → v = .pointer (some ⟨b, 0, none⟩) → w.heap[b]? = some (.cells C ty (0, 0)) → (∀ u ∈ C.toList, u.oneCell' = true) → y = .agg ys → CellsR P w (leaves P ty) own' C.toList ys f1 o1 →
      BacksR P w ts ms.tail vs bs f o → BacksR P w (t :: ts) ms (v :: vs) (y :: bs) (f1 ++ f) (b :: o1 ++ o)
section
variable {P : Program} {c : Cx} {w' : World}
theorem muEnts_spec {mk : Nat → E} {ts : List TypeId} {fl : List Bool} {us : List Value} {rs : List (Option (Nat × Nat × Nat × Nat))} (h : MuArg P c ts fl us rs) (hU : ∀ t g, c.K t g → c.U t) : ∀ {ys : List AV} {o : List Nat} (j : Nat), MuC P w' ts fl us ys o → (∀ i y, ys[i]? = some y → (mk (j + i)).den c.ρ = y) →
    ∃ recs : List Chg, muEnts mk j rs = recs.map Chg.pair ∧ (recs.flatMap Chg.top).Sublist o ∧ (∀ r ∈ recs, r.new = none ∧ c.U r.tag ∧ ∀ hs f, r.ent ≠ .gd hs f) ∧ recs.map Chg.tag = rowIds rs ∧ ∀ c', Aft c c' w' recs → ∀ r ∈ recs, EntR c' r.tag r.ent := by
  induction h with
  | nil =>
    intro ys o j hm _
    cases hm
    exact ⟨[], rfl, by simp, by simp, rfl, by simp⟩
  | @row t ts fl v vs u g el rs h1 h2 h3 h4 h5 _ ih =>
    intro ys o j hm hmk
    cases hm with
    | skip hh _ => rw [hh h1] at h2; cases h2
    | @own _ _ _ el' _ _ y ys top o k1 k2 k3 k4 =>
      rw [h2] at k2; cases k2
      obtain ⟨recs, e1, e2, e3, e4, e5⟩ := ih (j + 1) k4 (fun i y hy => by rw [show j + 1 + i = j + (i + 1) from by omega]; exact hmk (i + 1) y (by simpa using hy))
      have hy := hmk 0 y rfl
      refine ⟨⟨u, none, top, .row el (P.cellsOf el) g (mk j) true⟩ :: recs, by simp [muEnts, e1, Chg.pair], by simpa using (List.Sublist.refl top).append e2, fun r hr => ?_, by simp [rowIds, e4], fun c' ha r hr => ?_⟩
      · rcases List.mem_cons.1 hr with rfl | hr
        · exact ⟨rfl, hU _ _ h3, by simp⟩
        · exact e3 r hr
      · rcases List.mem_cons.1 hr with rfl | hr
        · obtain ⟨a1, a2⟩ := ha.K u g h3
          have kg := ha.G _ (List.mem_cons_self ..)
          simp only at kg
          refine ⟨a1, fun g' hg' => h5 g' (ha.old u (hU _ _ h3) g' hg'), [], ?_, by simp, fun _ => ⟨rfl, by rw [kg]⟩, fun _ => by rw [kg]⟩
          have hy' : (mk j).den c.ρ = y := by simpa using hy
          rw [a2, h4, kg, ha.w, ha.ρ, hy']; exact k3
        · exact e5 c' (ha.mono fun r hr => by simp [hr]) r hr
  | @none t ts fl v vs rs _ ih =>
    intro ys o j hm hmk
    have go : ∀ {y : AV} {ys' : List AV} {o' : List Nat}, ys = y :: ys' → MuC P w' ts fl.tail vs ys' o' → o'.Sublist o → ∃ recs : List Chg, muEnts mk j (none :: rs) = recs.map Chg.pair ∧ (recs.flatMap Chg.top).Sublist o ∧ (∀ r ∈ recs, r.new = none ∧ c.U r.tag ∧ ∀ hs f, r.ent ≠ .gd hs f) ∧ recs.map Chg.tag = rowIds (none :: rs) ∧ ∀ c', Aft c c' w' recs → ∀ r ∈ recs, EntR c' r.tag r.ent := by
      rintro y ys' o' rfl hm' hs
      obtain ⟨recs, e1, e2, e3, e4, e5⟩ := ih (j + 1) hm' (fun i y hy => by rw [show j + 1 + i = j + (i + 1) from by omega]; exact hmk (i + 1) y (by simpa using hy))
      exact ⟨recs, by simp [muEnts, e1], e2.trans hs, e3, by simp [rowIds] at e4 ⊢; exact e4, e5⟩
    cases hm with
    | skip _ h8 => exact go rfl h8 (List.Sublist.refl _)
    | own _ _ _ h8 => exact go rfl h8 (List.sublist_append_right _ _)
theorem deads_spec (us : List Nat) (hU : ∀ u ∈ us, c.U u) : ∃ recs : List Chg, deads us = recs.map Chg.pair ∧ recs.flatMap Chg.top = [] ∧ (∀ r ∈ recs, r.new = none ∧ c.U r.tag ∧ ∀ hs f, r.ent ≠ .gd hs f) ∧ recs.map Chg.tag = us ∧ ∀ c', Aft c c' w' recs → ∀ r ∈ recs, EntR c' r.tag r.ent := by
  induction us with
  | nil => exact ⟨[], rfl, rfl, by simp, rfl, by simp⟩
  | cons u us ih =>
    obtain ⟨recs, e1, e2, e3, e4, e5⟩ := ih fun u hu => hU u (by simp [hu])
    refine ⟨⟨u, none, [], .dead⟩ :: recs, by simp only [deads] at e1; simp [deads, e1, Chg.pair], by simp [e2], fun r hr => ?_, by simp [e4], fun c' ha r hr => ?_⟩
    · rcases List.mem_cons.1 hr with rfl | hr
      · exact ⟨rfl, hU _ (by simp), by simp⟩
      · exact e3 r hr
    · rcases List.mem_cons.1 hr with rfl | hr
      · have kg := ha.G _ (List.mem_cons_self ..)
        simp only at kg
        exact ⟨by rw [kg], by rw [kg]⟩
      · exact e5 c' (ha.mono fun r hr => by simp [hr]) r hr
/-- Changes of what was handed over. -/
structure AftS (c : Cx) (w' : World) (nx m : Nat) (l : List (Nat × Ent)) (hd : List Nat) (o : List Nat) (f : List Nat) (recs : List Chg) : Prop where
  ents : l = recs.map Chg.pair
  tops : (recs.flatMap Chg.top).Sublist o
  new : ∀ r ∈ recs, r.new.isSome = true → nx ≤ r.tag ∧ r.tag < nx + m
  old : ∀ r ∈ recs, r.new = none → r.tag ∈ hd ∧ c.U r.tag
  all : ∀ t ∈ hd, ∃ r ∈ recs, r.tag = t
  nodup : hd.Nodup → (∀ t, nx ≤ t → t < nx + m → ¬ c.U t) → (recs.map Chg.tag).Nodup
  ne : ∀ r ∈ recs, ∀ hs f, r.ent ≠ .gd hs f
  ok : ∀ c', Aft c c' w' recs → (∀ b ∈ f, c'.ok b) → ∀ r ∈ recs, EntR c' r.tag r.ent
theorem AftS.app {nx m m' : Nat} {l l' : List (Nat × Ent)} {hd hd' o o' f f' : List Nat} {recs recs' : List Chg} (h : AftS c w' nx m l hd o f recs) (k : AftS c w' (nx + m) m' l' hd' o' f' recs') : AftS c w' nx (m + m') (l ++ l') (hd ++ hd') (o ++ o') (f ++ f') (recs ++ recs') := by
  refine ⟨by rw [h.ents, k.ents, List.map_append], by rw [List.flatMap_append]; exact h.tops.append k.tops, fun r hr hn => ?_, fun r hr hn => ?_, fun t ht => ?_, fun hn hU => ?_, fun r hr => ?_, fun c' ha hok r hr => ?_⟩
  · rcases List.mem_append.1 hr with hr | hr
    · have := h.new r hr hn; omega
    · have := k.new r hr hn; omega
  · rcases List.mem_append.1 hr with hr | hr
    · exact ⟨by simp [(h.old r hr hn).1], (h.old r hr hn).2⟩
    · exact ⟨by simp [(k.old r hr hn).1], (k.old r hr hn).2⟩
  · rcases List.mem_append.1 ht with ht | ht
    · obtain ⟨r, hr, e⟩ := h.all t ht; exact ⟨r, by simp [hr], e⟩
    · obtain ⟨r, hr, e⟩ := k.all t ht; exact ⟨r, by simp [hr], e⟩
  · rw [List.nodup_append] at hn
    rw [List.map_append, List.nodup_append]
    refine ⟨h.nodup hn.1 fun t h1 h2 => hU t h1 (by omega), k.nodup hn.2.1 fun t h1 h2 => hU t (by omega) (by omega), fun t1 ht1 t2 ht2 he => ?_⟩
    obtain ⟨q1, hq1, rfl⟩ := List.mem_map.1 ht1
    obtain ⟨q2, hq2, rfl⟩ := List.mem_map.1 ht2
    cases n1 : q1.new with
    | none =>
      obtain ⟨a1, a2⟩ := h.old q1 hq1 n1
      cases n2 : q2.new with
      | none => exact hn.2.2 _ a1 _ (k.old q2 hq2 n2).1 he
      | some v2 =>
        have := k.new q2 hq2 (by simp [n2])
        exact hU q2.tag (by omega) (by omega) (he ▸ a2)
    | some v1 =>
      have := h.new q1 hq1 (by simp [n1])
      cases n2 : q2.new with
      | none => exact hU q1.tag (by omega) (by omega) (he ▸ (k.old q2 hq2 n2).2)
      | some v2 => have := k.new q2 hq2 (by simp [n2]); omega
  · rcases List.mem_append.1 hr with hr | hr
    · exact h.ne r hr
    · exact k.ne r hr
  · rcases List.mem_append.1 hr with hr | hr
    · exact h.ok c' (ha.mono fun r hr => by simp [hr]) (fun b hb => hok b (by simp [hb])) r hr
    · exact k.ok c' (ha.mono fun r hr => by simp [hr]) (fun b hb => hok b (by simp [hb])) r hr
theorem AftS.ofOld {nx : Nat} {l : List (Nat × Ent)} {hd o : List Nat} {recs : List Chg} (e1 : l = recs.map Chg.pair) (e2 : (recs.flatMap Chg.top).Sublist o) (e3 : ∀ r ∈ recs, r.new = none ∧ c.U r.tag ∧ ∀ hs f, r.ent ≠ .gd hs f) (e4 : recs.map Chg.tag = hd) (e5 : ∀ c', Aft c c' w' recs → ∀ r ∈ recs, EntR c' r.tag r.ent) : AftS c w' nx 0 l hd o [] recs := by
  refine ⟨e1, e2, fun r hr hn => ?_, fun r hr _ => ⟨?_, (e3 r hr).2.1⟩, fun t ht => ?_, fun hn _ => by rw [e4]; exact hn, fun r hr => (e3 r hr).2.2, fun c' ha _ => e5 c' ha⟩
  · rw [(e3 r hr).1] at hn; cases hn
  · rw [← e4]; exact List.mem_map.2 ⟨r, hr, rfl⟩
  · rw [← e4] at ht; obtain ⟨r, hr, e⟩ := List.mem_map.1 ht; exact ⟨r, hr, e⟩
theorem after_spec {ts : List TypeId} {ms : List PM} {vs : List Value} {bs : List PA} (h : ArgsBack P c ts ms vs bs) (hU : ∀ t g, c.K t g → c.U t) {r : Nat} : ∀ {Bs : List AV} {f o : List Nat} (nx j : Nat), BacksR P w' ts ms vs Bs f o → (∀ k y, Bs[k]? = some y → (E.proj (.var r) (j + k + 1)).den c.ρ = y) →
    Bs.length = nback bs ∧ ∃ recs, AftS c w' nx (afterN P bs) (after P r nx bs j) (handed bs) o f recs := by
  have nilS : ∀ nx, AftS c w' nx 0 [] [] [] [] [] := fun nx => ⟨rfl, by simp, by simp, by simp, by simp, by simp, by simp, by simp⟩
  induction h with
  | nil =>
    intro Bs f o nx j hb _
    cases hb
    exact ⟨rfl, [], by simpa [after, handed, afterN] using nilS nx⟩
  | @ro ts ms v vs bs hm hrest ih =>
    intro Bs f o nx j hb hB
    cases hb with
    | nil =>
      exact ih nx j .nil hB
    | ro _ h8 => exact ih nx j h8 hB
    | va h9 _ => rw [hm] at h9; cases h9
    | mu h9 _ _ _ => rw [hm] at h9; cases h9
    | bx h9 _ _ _ _ _ _ _ => rw [hm] at h9; cases h9
  | @va ts ms own v vs bs us hm hus hrest ih =>
    intro Bs f o nx j hb hB
    obtain ⟨recs1, e1, e2, e3, e4, e5⟩ := deads_spec (c := c) (w' := w') us hus
    have s1 : AftS c w' nx 0 (deads us) us [] [] recs1 := .ofOld e1 (by rw [e2]; exact List.Sublist.refl _) e3 e4 e5
    cases hb with
    | nil =>
      obtain ⟨h1, recs2, s2⟩ := ih nx j .nil hB
      exact ⟨by simpa [nback] using h1, recs1 ++ recs2, by simpa [after, handed, afterN] using s1.app s2⟩
    | ro h9 _ => rw [hm] at h9; cases h9
    | va _ h8 =>
      obtain ⟨h1, recs2, s2⟩ := ih nx j h8 hB
      exact ⟨by simpa [nback] using h1, recs1 ++ recs2, by simpa [after, handed, afterN] using s1.app s2⟩
    | mu h9 _ _ _ => rw [hm] at h9; cases h9
    | bx h9 _ _ _ _ _ _ _ => rw [hm] at h9; cases h9
  | @mu t ts ms own v vs bs us rs hm hus hrs hrest ih =>
    intro Bs f o nx j hb hB
    cases hb with
    | ro h9 _ => rw [hm] at h9; cases h9
    | va h9 _ => rw [hm] at h9; cases h9
    | bx h9 _ _ _ _ _ _ _ => rw [hm] at h9; cases h9
    | @mu _ _ _ own2 _ _ us2 ys y Bs f o1 o h9 hg hmc h8 =>
      rw [hm] at h9; cases h9
      obtain ⟨h1, recs2, s2⟩ := ih nx (j + 1) h8 (fun k y hy => by rw [show j + 1 + k + 1 = j + (k + 1) + 1 from by omega]; exact hB (k + 1) y (by simpa using hy))
      have hy := hB 0 y rfl
      have hus2 : us2 = us := by
        split at hus
        · rename_i hag
          rw [if_pos hag] at hg
          obtain ⟨rfl, _⟩ := hg
          exact agg_toArray hus
        · rename_i hag
          rw [if_neg hag] at hg
          rw [hg.1, hus]
      subst hus2
      obtain ⟨recs1, e1, e2, e3, e4, e5⟩ := muEnts_spec (w' := w') (mk := cellE (.proj (.var r) (j + 1)) (aggT P t)) hrs hU 0 hmc (by
        intro i z hz
        split at hg
        · rename_i hag
          rw [hag]
          exact cellE_den (by rw [← hg.2]; exact hy) i z hz
        · rename_i hag
          have hag' : aggT P t = false := by simpa using hag
          rw [hg.2] at hz
          cases i with
          | zero => simp at hz; subst hz; rw [hag']; simpa [cellE] using hy
          | succ i => simp at hz)
      have s1 : AftS c w' nx 0 _ (rowIds rs) o1 [] recs1 := .ofOld e1 e2 e3 e4 e5
      exact ⟨by simp [nback, h1], recs1 ++ recs2, by simpa [after, handed, afterN] using s1.app s2⟩
  | @bx t ts ms own own' ty v vs bs T b g olds hm hpt hv hK hH hol hrest ih =>
    intro Bs f o nx j hb hB
    cases hb with
    | ro h9 _ => rw [hm] at h9; cases h9
    | va h9 _ => rw [hm] at h9; cases h9
    | mu h9 _ _ _ => rw [hm] at h9; cases h9
    | @bx _ _ _ own2 own3 ty2 b2 C _ _ ys y Bs f1 o1 f o h9 hpt2 hv2 hh hone hy0 hc h8 =>
      rw [hm] at h9; cases h9
      rw [hpt] at hpt2; cases hpt2
      have hbb : b2 = b := by rw [hv] at hv2; cases hv2; rfl
      subst hbb
      obtain ⟨h1, recs2, s2⟩ := ih (nx + (leaves P ty).length) (j + 1) h8 (fun k y hy => by rw [show j + 1 + k + 1 = j + (k + 1) + 1 from by omega]; exact hB (k + 1) y (by simpa using hy))
      have hy := hB 0 y rfl
      obtain ⟨recs0, d1, d2, d3, d4, d5⟩ := deads_spec (c := c) (w' := w') olds hol
      have s0 : AftS c w' nx 0 (deads olds) olds [] [] recs0 := .ofOld d1 (by rw [d2]; exact List.Sublist.refl _) d3 d4 d5
      obtain ⟨recs1, e1, e2, e3, e4, _, e5⟩ := freshCells_spec (c := c) (nx := nx) (mk := cellE (.proj (.var r) (j + 1)) true) hc 0 (cellE_den (by rw [← hy0]; exact hy))
      have hcU := hU _ _ hK
      have s1 : AftS c w' nx (leaves P ty).length ((T, .box ty g (freshCells P nx (cellE (.proj (.var r) (j + 1)) true) 0 (leaves P ty) own').1) :: (freshCells P nx (cellE (.proj (.var r) (j + 1)) true) 0 (leaves P ty) own').2) [T] (b2 :: o1) f1 (⟨T, none, [b2], .box ty g (freshCells P nx (cellE (.proj (.var r) (j + 1)) true) 0 (leaves P ty) own').1⟩ :: recs1) := by
        refine ⟨by simp [e1, Chg.pair], ?_, fun q hq hn => ?_, fun q hq hn => ?_, by simp, fun _ hnew => ?_, fun q hq => ?_, fun c' ha hok q hq => ?_⟩
        · simp only [List.flatMap_cons, e2, List.singleton_append]; exact List.Sublist.refl _
        · rcases List.mem_cons.1 hq with rfl | hq
          · cases hn
          · have := e3 q hq; omega
        · rcases List.mem_cons.1 hq with rfl | hq
          · exact ⟨by simp, hcU⟩
          · have := (e3 q hq).2.2; rw [hn] at this; cases this
        · simp only [List.map_cons, List.nodup_cons]
          refine ⟨fun hm => ?_, e4⟩
          obtain ⟨q, hq, hqt⟩ := List.mem_map.1 hm
          have := e3 q hq
          exact hnew q.tag (by omega) (by omega) (hqt ▸ hcU)
        · rcases List.mem_cons.1 hq with rfl | hq
          · simp
          · intro hs f he
            obtain ⟨q1, q2⟩ := e3 q hq
            have : (q.tag, q.ent) ∈ (freshCells P nx (cellE (.proj (.var r) (j + 1)) true) 0 (leaves P ty) own').2 := by
              rw [e1]; exact List.mem_map.2 ⟨q, hq, rfl⟩
            exact freshCells_ne _ _ _ _ _ this he
        · obtain ⟨p1, p2⟩ := e5 c' (ha.mono fun r hr => by simp [hr]) hok
          rcases List.mem_cons.1 hq with rfl | hq
          · obtain ⟨a1, a2⟩ := ha.K T 0 hK
            have kg := ha.G _ (List.mem_cons_self ..)
            simp only at kg
            exact ⟨b2, C, a1, by rw [a2, hH, hv], by rw [kg], by rw [kg], by rw [ha.w]; exact hh, hone, p1⟩
          · exact p2 q hq
      refine ⟨by simp [nback, h1], recs0 ++ ((⟨T, none, [b2], .box ty g (freshCells P nx (cellE (.proj (.var r) (j + 1)) true) 0 (leaves P ty) own').1⟩ :: recs1) ++ recs2), ?_⟩
      have s3 := s0.app (s1.app s2)
      rw [Nat.zero_add] at s3
      refine ⟨by simpa [after] using s3.ents, s3.tops, s3.new, fun q hq hn => ?_, fun t ht => ?_, fun hn hnew => ?_, s3.ne, s3.ok⟩
      · have := s3.old q hq hn
        simp only [handed, List.cons_append, List.mem_cons, List.mem_append, List.not_mem_nil, or_false, List.nil_append] at this ⊢
        exact ⟨by rcases this.1 with h | h | h; exact .inr (.inl h); exact .inl h; exact .inr (.inr h), this.2⟩
      · refine s3.all t ?_
        simp only [handed, List.cons_append, List.mem_cons, List.mem_append, List.nil_append] at ht ⊢
        rcases ht with h | h | h
        · exact .inr (.inl h)
        · exact .inl h
        · exact .inr (.inr h)
      · refine s3.nodup ?_ hnew
        simp only [handed, List.cons_append, List.nodup_cons, List.nodup_append, List.mem_append, not_or, List.nil_append] at hn ⊢
        obtain ⟨⟨n1, n2⟩, n3, n4, n5⟩ := hn
        refine ⟨n3, ⟨n2, n4⟩, fun a ha b hb => ?_⟩
        rcases List.mem_cons.1 hb with rfl | hb
        · rintro rfl; exact n1 ha
        · exact n5 a ha b hb
end
end Go.Proofs.Ytjneaalpiangdaa
end

/- Part WQ. The contract of a function over deep values, and that a call does what its effect says. Program independent. -/
section
namespace Go.Proofs.Ytjneaalpiangdaa
open Go.RowKit

/-! What is handed out as a value of a flat type is flat. -/
def flatCs (P : Program) : List TypeId → List Bool → List AV → Bool
  | t :: ts, fl, y :: ys => ((fl.headD false && (elemT P t).isSome) || hasRef P t || y.scalar) && flatCs P ts fl.tail ys
  | _, _, _ => true
def flatV (P : Program) (t : TypeId) (fl : List Bool) (x : AV) : Bool := if anyFl P t fl then flatCs P (leaves P t) fl (if aggT P t then x.cells else [x]) else hasRef P t || x.cells.all AV.scalar
def flatVs (P : Program) : List TypeId → List Bool → List AV → Bool
  | t :: ts, fl, x :: xs => flatV P t fl x && flatVs P ts (fl.drop (leaves P t).length) xs
  | _, _, _ => true
def flatR (P : Program) (ts : List TypeId) (fl : List Bool) (R : AV) : Bool := match ts with
  | [t] => flatV P t fl R
  | ts => match R with
    | .tup ys => flatVs P ts fl ys
    | _ => true
def flatB (P : Program) : List TypeId → List PM → List AV → Bool
  | t :: ts, ms, bs => (match ms.headD .ro with
    | .ro => flatB P ts ms.tail bs
    | .va _ => flatB P ts ms.tail bs
    | .mu _ => flatB P ts ms.tail bs.tail
    | .bx _ own' => (match ptrT P t, bs with
      | some ty, b :: _ => flatCs P (leaves P ty) own' b.cells
      | _, _ => true) && flatB P ts ms.tail bs.tail)
  | [], _, _ => true
def hasBack : List TypeId → List PM → Bool
  | _ :: ts, ms => (match ms.headD .ro with
    | .mu _ => true
    | .bx .. => true
    | _ => false) || hasBack ts ms.tail
  | [], _ => false
def resFlat (P : Program) (fn : Func) (s : Sig) (r : AV) : Bool :=
  if hasBack fn.params.toList s.modes then (match r with
    | .tup (R :: bs) => flatR P fn.resultTypes.toList s.res R && flatB P fn.params.toList s.modes bs
    | _ => false)
  else flatR P fn.resultTypes.toList s.res r
def ResR (P : Program) (w : World) (ts : List TypeId) (fl : List Bool) (v : Value) (R : AV) (f o : List Nat) : Prop := match ts with
  | [t] => ValR P w t fl v R f o
  | ts => ∃ vs ys, v = .tuple vs.toArray ∧ R = .tup ys ∧ ValsR P w ts fl vs ys f o
/-- What holds when a function returned v. -/
structure Post (P : Program) (fn : Func) (s : Sig) (w : World) (vs : List Value) (rf hs : List Nat) (r : AV) (v : Value) (w' : World) : Prop where
  ex : ∃ R bs f1 o1 f2 o2, r = (match bs with | [] => R | _ => .tup (R :: bs)) ∧ ResR P w' fn.resultTypes.toList s.res v R f1 o1 ∧ BacksR P w' fn.params.toList s.modes vs bs f2 o2 ∧ (o1 ++ o2).Nodup ∧
    (∀ b ∈ o1 ++ o2, (b ∈ hs ∨ w.heap.size ≤ b) ∧ b < w'.heap.size) ∧ ∀ b ∈ f1 ++ f2, b ∉ o1 ++ o2 ∧ (b ∈ rf ∨ b ∈ hs ∨ w.heap.size ≤ b)
  mod : Mod hs w w'
/-- THE CONTRACT: called with what reads as xs, f returns what reads as r. -/
def Ret (P : Program) (s : Sig) (f : Nat) (xs : List AV) (r : AV) : Prop :=
  ∃ fn, P.funcs[f]? = some fn ∧ fn.body.isSome = true ∧ (fn.name == "runtime.NumGoroutine") = false ∧ resFlat P fn s r = true ∧ xs.length = fn.params.size + fn.nfree ∧
    ∀ (w : World) (vs : List Value) (rf hs : List Nat), ArgsR P w fn.params.toList s.modes vs xs rf hs → (∀ b ∈ hs, b ∉ rf) → hs.Nodup →
      Calls P f vs.toArray w fun e w' => ∃ v, e = .returned v ∧ Post P fn s w vs rf hs r v w'
/-- .. as calls see it: by the function's own way, or, of a function value, by the plain way. -/
def Rts (P : Program) (sg : Nat → Option Sig) (f : Nat) (xs : List AV) (r : AV) : Prop :=
  if f < 1000000 then ∃ s, sg f = some s ∧ Ret P s f xs r else Ret P ⟨[], []⟩ (f - 1000000) xs r
section
variable {P : Program} {w : World}
theorem flat_cells_fp {v : Value} {x : AV} {f : List Nat} (h : Rd w [v] [x] f) (hx : ∀ y ∈ x.cells, y.scalar = true) : f = [] := by
  by_cases hag : ∃ cs, x = .agg cs
  · obtain ⟨cs, rfl⟩ := hag
    obtain ⟨as, _, _, hr⟩ := agg_of h rfl
    exact flat_fp hr hx
  · have : x.cells = [x] := by cases x <;> first | rfl | exact absurd ⟨_, rfl⟩ hag
    rw [this] at hx
    exact flat_fp h hx
theorem CellsR.flat {ts : List TypeId} {fl : List Bool} {us : List Value} {ys : List AV} {rf hs : List Nat} (h : CellsR P w ts fl us ys rf hs) (h1 : unflC P ts fl = false) (h2 : flatCs P ts fl ys = true) : rf = [] := by
  induction h with
  | nil => rfl
  | own _ _ _ _ ih =>
    simp only [unflC, Bool.or_eq_false_iff] at h1
    simp only [flatCs, Bool.and_eq_true] at h2
    exact ih h1.2 h2.2
  | @rd t ts fl u us y ys f rf hs hn hr _ ih =>
    simp only [unflC, Bool.or_eq_false_iff] at h1
    simp only [flatCs, Bool.and_eq_true] at h2
    have hno : (fl.headD false && (elemT P t).isSome) = false := by
      cases hh : fl.headD false with
      | false => rfl
      | true => rw [hn hh]; rfl
    rw [hno] at h1 h2
    have hr0 : hasRef P t = false := by simpa using h1.1
    rw [hr0] at h2
    have hs : y.scalar = true := by simpa using h2.1
    rw [flat_fp hr (by simpa using hs), ih h1.2 h2.2]; rfl
theorem ValR.flat {t : TypeId} {fl : List Bool} {v : Value} {x : AV} {rf hs : List Nat} (h : ValR P w t fl v x rf hs) (h1 : unflV P t fl = false) (h2 : flatV P t fl x = true) : rf = [] := by
  unfold ValR at h
  unfold unflV at h1
  unfold flatV at h2
  split at h
  · rename_i hf
    rw [if_pos hf] at h1 h2
    obtain ⟨us, ys, hg, hc⟩ := h
    split at hg
    · rename_i hag
      obtain ⟨_, rfl, _⟩ := hg
      rw [if_pos hag] at h2
      exact hc.flat h1 h2
    · rename_i hag
      obtain ⟨_, rfl⟩ := hg
      rw [if_neg hag] at h2
      exact hc.flat h1 h2
  · rename_i hf
    rw [if_neg hf] at h1 h2
    rw [h1] at h2
    exact flat_cells_fp h.1 (by simpa using h2)
theorem ValsR.flat {ts : List TypeId} {fl : List Bool} {vs : List Value} {xs : List AV} {rf hs : List Nat} (h : ValsR P w ts fl vs xs rf hs) (h1 : unflVs P ts fl = false) (h2 : flatVs P ts fl xs = true) : rf = [] := by
  induction h with
  | nil => rfl
  | cons hv _ ih =>
    simp only [unflVs, Bool.or_eq_false_iff] at h1
    simp only [flatVs, Bool.and_eq_true] at h2
    rw [hv.flat h1.1 h2.1, ih h1.2 h2.2]; rfl
theorem ResR.flat {ts : List TypeId} {fl : List Bool} {v : Value} {R : AV} {f o : List Nat} (h : ResR P w ts fl v R f o) (h1 : unflVs P ts fl = false) (h2 : flatR P ts fl R = true) : f = [] := by
  match ts, h, h1, h2 with
  | [t], h, h1, h2 =>
    simp only [unflVs, Bool.or_false] at h1
    exact ValR.flat h h1 h2
  | [], h, h1, h2 =>
    obtain ⟨vs, ys, _, rfl, hv⟩ := h
    exact hv.flat h1 h2
  | t :: u :: ts, h, h1, h2 =>
    obtain ⟨vs, ys, _, rfl, hv⟩ := h
    exact hv.flat h1 h2
theorem BacksR.flat {c : Cx} {ts : List TypeId} {ms : List PM} {vs : List Value} {bs : List PA} (h : ArgsBack P c ts ms vs bs) : ∀ {Bs : List AV} {f o : List Nat}, BacksR P w ts ms vs Bs f o → unflB P bs = false → flatB P ts ms Bs = true → f = [] := by
  induction h with
  | nil =>
    intro Bs f o hb _ _
    cases hb; rfl
  | @ro ts ms v vs bs hm _ ih =>
    intro Bs f o hb h1 h2
    cases hb with
    | nil => rfl
    | ro _ h8 => simp only [flatB, hm] at h2; exact ih h8 h1 h2
    | va h9 _ => rw [hm] at h9; cases h9
    | mu h9 _ _ _ => rw [hm] at h9; cases h9
    | bx h9 _ _ _ _ _ _ _ => rw [hm] at h9; cases h9
  | @va ts ms own v vs bs us hm _ _ ih =>
    intro Bs f o hb h1 h2
    cases hb with
    | nil => rfl
    | ro h9 _ => rw [hm] at h9; cases h9
    | va _ h8 => simp only [flatB, hm] at h2; exact ih h8 h1 h2
    | mu h9 _ _ _ => rw [hm] at h9; cases h9
    | bx h9 _ _ _ _ _ _ _ => rw [hm] at h9; cases h9
  | @mu t ts ms own v vs bs us rs hm _ _ _ ih =>
    intro Bs f o hb h1 h2
    cases hb with
    | ro h9 _ => rw [hm] at h9; cases h9
    | va h9 _ => rw [hm] at h9; cases h9
    | mu _ _ _ h8 => simp only [flatB, hm] at h2; exact ih h8 h1 h2
    | bx h9 _ _ _ _ _ _ _ => rw [hm] at h9; cases h9
  | @bx t ts ms own own' ty v vs bs T b g olds hm hpt _ _ _ _ _ ih =>
    intro Bs f o hb h1 h2
    cases hb with
    | ro h9 _ => rw [hm] at h9; cases h9
    | va h9 _ => rw [hm] at h9; cases h9
    | mu h9 _ _ _ => rw [hm] at h9; cases h9
    | bx h9 hpt2 _ _ _ hy hc h8 =>
      rw [hm] at h9; cases h9
      rw [hpt] at hpt2; cases hpt2
      simp only [flatB, hm, hpt, Bool.and_eq_true, hy, List.tail_cons] at h2
      simp only [unflB, Bool.or_eq_false_iff] at h1
      rw [hc.flat h1.1 h2.1, ih h8 h1.2 h2.2]; rfl
theorem hasBack_len {ts : List TypeId} {ms : List PM} {vs : List Value} {Bs : List AV} {f o : List Nat} (h : BacksR P w ts ms vs Bs f o) : Bs = [] ↔ hasBack ts ms = false := by
  induction h with
  | nil => simp [hasBack]
  | ro hm _ ih => simp only [hasBack, hm, Bool.false_or]; exact ih
  | va hm _ ih => simp only [hasBack, hm, Bool.false_or]; exact ih
  | mu hm _ _ _ _ => simp only [hasBack, hm, Bool.true_or]; simp
  | bx hm _ _ _ _ _ _ _ _ => simp only [hasBack, hm, Bool.true_or]; simp
end
end Go.Proofs.Ytjneaalpiangdaa
end

/- Part WR. A call does what its effect says. Program independent. -/
section
namespace Go.Proofs.Ytjneaalpiangdaa
open Go.RowKit
section
variable {P : Program} {c : Cx} {n nx : Nat} {sl sl0 : Nat → SV} {hp hp0 : Nat → Option Ent} {a : Act} {o : Oper} {gs : Gd} {e : Eff} {sg : Nat → Option Sig} {nv : Nat}
theorem mapM_args {xs : List Operand} : ∀ {ss : List SV}, (∀ x ∈ xs, ∀ s, operandSV sl0 gs x = some s → SR c [s] [a.eval x]) → xs.mapM (operandSV sl0 gs) = some ss → SR c ss (xs.map a.eval) := by
  induction xs with
  | nil => intro ss _ h; simp at h; subst h; exact .nil
  | cons x xs ih =>
    intro ss hx h
    rw [List.mapM_cons] at h
    simp only [Option.bind_eq_bind, Option.bind_eq_some_iff, Option.pure_def, Option.some.injEq] at h
    obtain ⟨s, hs, ss', hss, rfl⟩ := h
    exact (hx x (by simp) s hs).cons (ih (fun y hy => hx y (by simp [hy])) hss)
theorem nodupN_ok : ∀ {l : List Nat}, nodupN l = true → l.Nodup
  | [], _ => by simp
  | x :: l, h => by
    simp only [nodupN, Bool.and_eq_true, Bool.not_eq_true', List.contains_eq_mem, decide_eq_false_iff_not] at h
    exact List.nodup_cons.2 ⟨h.1, nodupN_ok h.2⟩
/-- What may be met behind a call. -/
theorem ok_behind {c1 : Cx} {w' : World} {recs : List Chg} {hs f o : List Nat} (gw : GW c) (hg : ∀ t, (c1.G t).top = (c.G t).top ∨ (c1.G t).top = []) (hA : c1.A = c.A) (hMu : c1.Mu = c.Mu) (hw0 : c1.w0 = c.w0) (hB : c.w0.heap.size ≤ c.w.heap.size)
    (hn : (recs.map Chg.tag).Nodup) (htop : ∀ r ∈ recs, ∀ b ∈ r.top, b ∈ o) (hhs : ∀ b ∈ hs, ∃ r ∈ recs, b ∈ (c.G r.tag).top) {rf : List Nat} (hrf : ∀ b ∈ rf, c1.ok b) (hf : ∀ b ∈ f, b ∉ o ∧ (b ∈ rf ∨ b ∈ hs ∨ c.w.heap.size ≤ b)) : ∀ b ∈ f, (c1.chg w' recs).ok b := by
  intro b hb
  obtain ⟨h1, h2⟩ := hf b hb
  have hM : (c1.chg w' recs).M b → ∃ t, (∀ r ∈ recs, r.tag ≠ t) ∧ b ∈ (c1.G t).top := by
    rintro ⟨t, ht⟩
    by_cases hT : ∃ r ∈ recs, r.tag = t
    · obtain ⟨r, hr, rfl⟩ := hT
      rw [Cx.chg_G hn hr] at ht
      exact absurd (htop r hr b ht) h1
    · rw [Cx.chg_G' fun r hr hh => hT ⟨r, hr, hh⟩] at ht
      exact ⟨t, fun r hr hh => hT ⟨r, hr, hh⟩, ht⟩
  have sub : ∀ t, b ∈ (c1.G t).top → b ∈ (c.G t).top := fun t ht => by
    rcases hg t with hh | hh
    · rw [← hh]; exact ht
    · rw [hh] at ht; simp at ht
  rcases h2 with h2 | h2 | h2
  · refine ⟨fun hm => ?_, (hrf b h2).2⟩
    obtain ⟨t, _, ht⟩ := hM hm
    exact (hrf b h2).1 ⟨t, ht⟩
  · obtain ⟨r, hr, hbr⟩ := hhs b h2
    refine ⟨fun hm => ?_, .inr ?_⟩
    · obtain ⟨t, hnt, ht⟩ := hM hm
      exact gw.disj r.tag t (hnt r hr) b (by simp [GI.own, hbr]) (by simp [GI.own, sub t ht])
    · have := gw.allow r.tag b (by simp [GI.own, hbr])
      simp only [Cx.chg, Cx.B, hw0, hMu] at this ⊢
      exact this
  · refine ⟨fun hm => ?_, .inr (.inl ?_)⟩
    · obtain ⟨t, _, ht⟩ := hM hm
      have := gw.inb t b (by simp [GI.own, sub t ht])
      omega
    · simp only [Cx.chg, Cx.B, hw0]; omega
theorem does_call (h : Pre P c n nx sl hp a sl0 hp0 o gs) {cl : Call} {fo : Operand} (ho : o.op = .call cl) (hcl : cl.callee = .value fo) {g : Nat} {caps : SVL} (hf : operandSV sl0 gs fo = some (.fn g caps)) {as : List SV} (has : cl.args.toList.mapM (operandSV sl0 gs) = some as)
    (hg : g < 1000000) (he : callEff P sg hp0 gs nv nx g (as ++ caps.toList) = some e) (hcall : ∀ c', e.call = some c' → ∃ r, c.ρ[nv]? = some r ∧ callOK (Rts P sg) c'.fn ((EL.of c'.args).den c.ρ) c.ρ r) : Does P o c n nx sl hp gs a e := by
  have hmf : fo ∈ o.op.operands := by simp [ho, Op.operands, Call.operands, hcl]
  have hma : ∀ x ∈ cl.args.toList, x ∈ o.op.operands := fun x hx => by
    have : x ∈ cl.args := by simpa using hx
    simp [ho, Op.operands, Call.operands, hcl, this]
  have hrf := h.opd hf hmf
  generalize hfv : a.eval fo = fv at hrf
  cases hrf with
  | fn hcaps h8 =>
  rename_i capv
  have hargs := (mapM_args (a := a) (fun x hx s hs => h.opd hs (hma x hx)) has).app hcaps
  unfold callEff at he
  split at he
  · rename_i fn s hfn hsg
    split at he
    · cases he
    rename_i hlen
    simp only [Bool.or_eq_true, not_or, Bool.not_eq_true, bne_eq_false_iff_eq] at hlen
    split at he
    · cases he
    rename_i es bs us harg
    split at he
    · cases he
    rename_i hnd
    simp only [Bool.or_eq_true, Bool.not_eq_true', not_or, Bool.not_eq_false, Bool.not_eq_true] at hnd
    obtain ⟨hnd1, hnd2⟩ := hnd
    have hndh := nodupN_ok hnd1
    have hapart : ∀ u ∈ us, u ∉ handed bs := fun u hu hh => by
      rw [List.any_eq_false] at hnd2
      have := hnd2 u hu
      simp only [List.contains_eq_mem, decide_eq_true_eq] at this
      exact this hh
    simp only at he
    split at he
    · cases he
    rename_i hsz
    simp only [Nat.not_le] at hsz
    split at he
    · cases he
    rename_i hnb
    split at he
    · cases he
    rename_i fz hfz0
    have hK : ∀ t g, c.K t g → c.U t := h.rel.usedK
    obtain ⟨rf, hs, q1, q2, q3, q4, q5, q6⟩ := args_spec (P := P) h.eh h.gs hK (as ++ caps.toList) harg hargs (by rw [hlen.2, Array.length_toList]; omega)
    -- freezing
    obtain ⟨fts, hfz, hfsub⟩ : ∃ fts, freezeAll hp0 gs fts = some fz ∧ ∀ t ∈ fts, t ∈ us := by
      split at hfz0
      · exact ⟨us, hfz0, fun t ht => ht⟩
      · simp only [Option.some.injEq] at hfz0; subst hfz0; exact ⟨[], rfl, by simp⟩
    have hrel1 := h.rel.freeze h.hp h.gs hfz
    have hfzus : ∀ t ∈ fz.map (·.1), t ∈ us := fun t ht => by
      obtain ⟨⟨t', e'⟩, hm, rfl⟩ := List.mem_map.1 ht
      exact hfsub _ ((freezeAll_spec h.gs hfz).1 t' e' hm).1
    have hG1 : ∀ t, ((c.frz (fz.map (·.1))).G t).top = (c.G t).top ∨ ((c.frz (fz.map (·.1))).G t).top = [] := fun t => by
      simp only [Cx.frz]; split
      · exact .inr rfl
      · exact .inl rfl
    have hGh : ∀ t ∈ handed bs, (c.frz (fz.map (·.1))).G t = c.G t := fun t ht => by
      simp only [Cx.frz]
      rw [if_neg]
      intro hh; exact hapart t (hfzus t hh) ht
    -- the call's contract
    have hsnd : hs.Nodup := by
      rw [q3]
      have : ∀ l : List Nat, l.Nodup → (l.flatMap fun t => (c.G t).top).Nodup := by
        intro l
        induction l with
        | nil => intro _; simp
        | cons t l ih =>
          intro hl
          rw [List.nodup_cons] at hl
          rw [List.flatMap_cons, List.nodup_append]
          refine ⟨(List.nodup_append.1 (h.rel.gw.nodup t)).1, ih hl.2, fun x hx y hy hxy => ?_⟩
          subst hxy
          obtain ⟨u, hu, hxu⟩ := List.mem_flatMap.1 hy
          exact h.rel.gw.disj t u (fun hh => hl.1 (hh ▸ hu)) x (by simp [GI.own, hx]) (by simp [GI.own, hxu])
      exact this _ hndh
    have hhsT : ∀ b ∈ hs, ∃ t ∈ handed bs, b ∈ (c.G t).top := fun b hb => by rw [q3] at hb; exact List.mem_flatMap.1 hb
    have hdis : ∀ b ∈ hs, b ∉ rf := fun b hb hr => by
      obtain ⟨t, ht, hbt⟩ := hhsT b hb
      rcases q2 b hr with hh | ⟨u, hu, hbu⟩
      · exact hh.1 ⟨t, hbt⟩
      · exact h.rel.gw.disj t u (fun hh => hapart u hu (hh ▸ ht)) b (by simp [GI.own, hbt]) (by simp [GI.own, hbu])
    -- the shape of the effect
    have hform : ∃ (val : SV) (l : List (Nat × Ent)), e = { call := some ⟨.inl g, es⟩, val := val, ent := fz ++ (gdAll gs l ++ after P nv (nx + (fn.resultTypes.toList.flatMap (leaves P)).length) bs 0) } ∧
        ∀ (R : AV) (w' : World) (v : Value) (f1 o1 : List Nat), ResR P w' fn.resultTypes.toList s.res v R f1 o1 → (if nback bs = 0 then E.var nv else .proj (.var nv) 0).den c.ρ = R → ∃ recs : List Chg, l = recs.map Chg.pair ∧ recs.flatMap Chg.top = o1 ∧ (∀ r ∈ recs, nx ≤ r.tag ∧ r.tag < nx + (fn.resultTypes.toList.flatMap (leaves P)).length ∧ r.new.isSome) ∧ (recs.map Chg.tag).Nodup ∧
          (∀ r ∈ recs, ∀ hs f, r.ent ≠ .gd hs f) ∧ ∀ c', Aft c c' w' recs → (∀ b ∈ f1, c'.ok b) → SR c' [val] [v] ∧ ∀ r ∈ recs, EntR c' r.tag r.ent := by
      have hne : ∀ {l : List (Nat × Ent)} {recs : List Chg}, l = recs.map Chg.pair → (∀ t x, (t, x) ∈ l → ∀ hs f, x ≠ .gd hs f) → ∀ r ∈ recs, ∀ hs f, r.ent ≠ .gd hs f := by
        rintro l recs rfl hh r hr
        exact hh r.tag r.ent (List.mem_map.2 ⟨r, hr, rfl⟩)
      have fvne : ∀ (t : TypeId) (k : Nat) (fl : List Bool) (x : E) (u : Nat) (y : Ent), (u, y) ∈ (freshVal P k t fl x).2 → ∀ hs f, y ≠ .gd hs f := by
        intro t k fl x u y hy hs f
        unfold freshVal at hy
        split at hy
        · exact freshCells_ne _ _ _ _ _ hy
        · simp at hy
      split at he
      · rename_i t hts
        simp only [Option.some.injEq] at he; subst he
        refine ⟨_, _, rfl, fun R w' v f1 o1 hr hR => ?_⟩
        rw [hts] at hr
        obtain ⟨recs, e1, e2, e3, e4, e5⟩ := freshVal_spec (c := c) (nx := nx) (x := if nback bs = 0 then E.var nv else .proj (.var nv) 0) (show ValR P w' t s.res v R f1 o1 from hr) hR
        exact ⟨recs, e1, e2, by simpa [hts] using e3, e4, hne e1 (fvne _ _ _ _), e5⟩
      · rename_i hts
        simp only [Option.some.injEq] at he; subst he
        refine ⟨_, _, rfl, fun R w' v f1 o1 hr hR => ?_⟩
        obtain ⟨vs, ys, rfl, rfl, hv⟩ : ∃ vs ys, v = .tuple vs.toArray ∧ R = .tup ys ∧ ValsR P w' fn.resultTypes.toList s.res vs ys f1 o1 := by
          unfold ResR at hr
          split at hr
          · rename_i t ht; exact absurd ht (hts t)
          · exact hr
        obtain ⟨recs, e1, e2, e3, e4, e5⟩ := freshVals_spec (c := c) (x := if nback bs = 0 then E.var nv else .proj (.var nv) 0) hv nx 0 (fun k y hy => by
          show AV.proj ((if nback bs = 0 then E.var nv else .proj (.var nv) 0).den c.ρ) (0 + k) = y
          rw [hR]; simp [AV.proj, hy])
        have fvsne : ∀ (ts : List TypeId) (k : Nat) (fl : List Bool) (x : E) (i : Nat) (u : Nat) (y : Ent), (u, y) ∈ (freshVals P k ts fl x i).2 → ∀ hs f, y ≠ .gd hs f := by
          intro ts
          induction ts with
          | nil => intro k fl x i u y hy; simp [freshVals] at hy
          | cons t ts ih =>
            intro k fl x i u y hy
            simp only [freshVals, List.mem_append] at hy
            rcases hy with hy | hy
            · exact fvne _ _ _ _ _ _ hy
            · exact ih _ _ _ _ _ _ hy
        exact ⟨recs, e1, e2, e3, e4, hne e1 (fvsne _ _ _ _ _), fun c' ha hok => ⟨.tup (by rw [SVL.toList_of]; exact (e5 c' ha hok).1) .nil, (e5 c' ha hok).2⟩⟩
    obtain ⟨val, l, rfl, hshape⟩ := hform
    obtain ⟨r, hr, hok⟩ := hcall _ rfl
    have hret : ∃ s', sg g = some s' ∧ Ret P s' g ((EL.of es).den c.ρ) r := by
      have hok : Rts P sg g ((EL.of es).den c.ρ) r := hok
      unfold Rts at hok
      rwa [if_pos hg] at hok
    obtain ⟨s', hs', fn', hfn', hbody, hname, hflat, _, hcalls⟩ := hret
    rw [hsg] at hs'; cases hs'
    rw [hfn] at hfn'; cases hfn'
    rw [EL.den_of] at hcalls
    have hcall := hcalls c.w _ rf hs q1 hdis hsnd
    have ex : (execOp a.eval o).run P c.w = .ok (.enter g (cl.args.map a.eval ++ capv.toArray)) c.w := by
      have hb : fn.body.isNone = false := by simpa using hbody
      simp only [execOp, ho, resolve, hcl, hfv, Deferred.ofValue, Sem.run_bind, Sem.run_pure, Result.andThen_ok, invoke, callFunc, run_program, hfn]
      simp [hname, hb]
    intro next Q hk
    unfold Oper.wp
    rw [ex, Oper.upon_enter]
    have harr : cl.args.map a.eval ++ capv.toArray = ((cl.args.toList.map a.eval) ++ capv).toArray := by
      apply Array.ext'; simp
    rw [harr]
    refine hcall.mono ?_
    rintro e' w' ⟨v, rfl, ⟨R, Bs, f1, o1, f2, o2, hrR, hres, hback, hnod, ho12, hf12⟩, hmod⟩
    show next (a.put o.dst v) w'
    have hBn : ∀ k y, Bs[k]? = some y → (E.proj (.var nv) (0 + k + 1)).den c.ρ = y := by
      intro k y hy
      cases Bs with
      | nil => simp at hy
      | cons B Bs =>
        simp only [E.den, hr, Option.getD_some, hrR, AV.proj, Nat.zero_add, List.getElem?_cons_succ, hy]
    obtain ⟨hnb', recsB, hB⟩ := after_spec (w' := w') q4 hK (r := nv) (nx + (fn.resultTypes.toList.flatMap (leaves P)).length) 0 hback hBn
    have hR : (if nback bs = 0 then E.var nv else .proj (.var nv) 0).den c.ρ = R := by
      cases Bs with
      | nil => rw [if_pos (by simpa using hnb'.symm)]; simp only [E.den, hr, Option.getD_some, hrR]
      | cons B Bs => rw [if_neg (by rw [← hnb']; simp)]; simp [E.den, hr, hrR, AV.proj]
    obtain ⟨recsV, v1, v2, v3, v4, v5, v6⟩ := hshape R w' v f1 o1 hres hR
    have hnewU : ∀ t, nx ≤ t → t < nx + ((fn.resultTypes.toList.flatMap (leaves P)).length + afterN P bs) → ¬ c.U t := fun t h1 h2 => h.new t h1 (by simp only [idsPerOp]; omega)
    have hBnod := hB.nodup hndh fun t h1 h2 => hnewU t (by omega) (by omega)
    have hnodT : ((recsV ++ recsB).map Chg.tag).Nodup := by
      rw [List.map_append, List.nodup_append]
      refine ⟨v4, hBnod, fun t1 h1 t2 h2 he => ?_⟩
      obtain ⟨p1, hp1, rfl⟩ := List.mem_map.1 h1
      obtain ⟨p2, hp2, rfl⟩ := List.mem_map.1 h2
      have a1 := v3 p1 hp1
      cases hn : p2.new with
      | none => exact hnewU p1.tag (by omega) (by omega) (he ▸ (hB.old p2 hp2 hn).2)
      | some _ => have := hB.new p2 hp2 (by simp [hn]); omega
    have hnewT : ∀ r ∈ recsV ++ recsB, r.new.isSome = true → nx ≤ r.tag ∧ r.tag < nx + ((fn.resultTypes.toList.flatMap (leaves P)).length + afterN P bs) := fun r hr hn => by
      rcases List.mem_append.1 hr with hr | hr
      · have := v3 r hr; omega
      · have := hB.new r hr hn; omega
    have htops : ((recsV ++ recsB).flatMap Chg.top).Sublist (o1 ++ o2) := by
      rw [List.flatMap_append, v2]; exact (List.Sublist.refl _).append hB.tops
    have hhsR : ∀ b ∈ hs, ∃ r ∈ recsV ++ recsB, b ∈ (c.G r.tag).top := fun b hb => by
      obtain ⟨t, ht, hbt⟩ := hhsT b hb
      obtain ⟨r, hr, rfl⟩ := hB.all t ht
      exact ⟨r, by simp [hr], hbt⟩
    have hhsR1 : ∀ b ∈ hs, ∃ r ∈ recsV ++ recsB, b ∈ ((c.frz (fz.map (·.1))).G r.tag).top := fun b hb => by
      obtain ⟨t, ht, hbt⟩ := hhsT b hb
      obtain ⟨r, hr, rfl⟩ := hB.all t ht
      exact ⟨r, by simp [hr], by rw [hGh _ ht]; exact hbt⟩
    have htopin : ∀ r ∈ recsV ++ recsB, ∀ b ∈ r.top, b ∈ o1 ++ o2 := fun r hr b hb => htops.subset (List.mem_flatMap.2 ⟨r, hr, hb⟩)
    have hokf : ∀ b ∈ f1 ++ f2, ((c.frz (fz.map (·.1))).chg w' (recsV ++ recsB)).ok b := by
      cases hun : (unflVs P fn.resultTypes.toList s.res || unflB P bs) with
      | false =>
        simp only [Bool.or_eq_false_iff] at hun
        have hfl : flatR P fn.resultTypes.toList s.res R = true ∧ flatB P fn.params.toList s.modes Bs = true := by
          unfold resFlat at hflat
          cases hBs : Bs with
          | nil =>
            rw [if_neg (by rw [(hasBack_len hback).1 hBs]; simp)] at hflat
            rw [hBs] at hrR
            rw [hrR] at hflat
            refine ⟨hflat, ?_⟩
            have : ∀ (ts : List TypeId) (ms : List PM), flatB P ts ms [] = true := by
              intro ts
              induction ts with
              | nil => intro ms; rfl
              | cons t ts ih =>
                intro ms
                unfold flatB
                split
                · exact ih _
                · exact ih _
                · exact ih _
                · split
                  · rename_i hh; cases hh
                  · simpa using ih _
            exact this _ _
          | cons B Bs' =>
            rw [if_pos (by
              cases hh : hasBack fn.params.toList s.modes with
              | true => rfl
              | false => rw [(hasBack_len hback).2 hh] at hBs; cases hBs)] at hflat
            rw [hrR, hBs] at hflat
            simpa using hflat
        have e1 : f1 = [] := hres.flat hun.1 hfl.1
        have e2 : f2 = [] := BacksR.flat q4 hback hun.2 hfl.2
        subst e1; subst e2; simp
      | true =>
        rw [hun] at hnb hfz0
        simp only [Bool.true_and, Bool.not_eq_true', Bool.not_eq_false] at hnb
        simp only [if_true] at hfz0
        exact ok_behind (rf := rf) h.rel.gw hG1 rfl rfl rfl h.rel.base.size hnodT htopin hhsR (fun b hb => see_frozen h.rel h.eh h.gs hfz0 (by simpa using hnb) (q2 b hb)) hf12
    have hentB : after P nv (nx + (fn.resultTypes.toList.flatMap (leaves P)).length) bs 0 = recsB.map fun r => (r.tag, mkGdE gs r.ent) := by
      cases hbs : bs with
      | nil =>
        have := hB.ents
        rw [hbs] at this
        simp only [after] at this
        have : recsB = [] := by simpa using this.symm
        rw [this]; rfl
      | cons b bs' =>
        have hg0 := q6 (by rw [hbs]; simp)
        rw [← hbs, hB.ents, hg0]; rfl
    have hent : gdAll gs l ++ after P nv (nx + (fn.resultTypes.toList.flatMap (leaves P)).length) bs 0 = (recsV ++ recsB).map fun r => (r.tag, mkGdE gs r.ent) := by
      rw [hentB, List.map_append]
      congr 1
      rw [v1]; simp [gdAll, Chg.pair]
    obtain ⟨hrel2, hkeep⟩ := hrel1.changes (w' := w') (recs := recsV ++ recsB) (hs := hs) (gs := gs) h.gs hmod hnodT (fun r hr hn => by have := hnewT r hr hn; exact hnewU _ this.1 this.2) hhsR1 (htops.nodup hnod) (fun r hr b hb => ho12 b (htopin r hr b hb))
      (fun r hr => by
        rcases List.mem_append.1 hr with hr | hr
        · exact v5 r hr
        · exact hB.ne r hr)
      (fun _ r hr => by
        have aft := Cx.chg_aft (c := c.frz (fz.map (·.1))) (w' := w') (recs := recsV ++ recsB) h.rel.usedK hnodT (fun r hr hn => by have := hnewT r hr hn; exact hnewU _ this.1 this.2)
        have aft' : Aft c ((c.frz (fz.map (·.1))).chg w' (recsV ++ recsB)) w' (recsV ++ recsB) := ⟨aft.ρ, aft.w, aft.G, aft.new, aft.K, aft.old⟩
        rcases List.mem_append.1 hr with hr | hr
        · exact (v6 _ (aft'.mono fun r hr => by simp [hr]) fun b hb => hokf b (by simp [hb])).2 r hr
        · exact hB.ok _ (aft'.mono fun r hr => by simp [hr]) (fun b hb => hokf b (by simp [hb])) r hr)
    have aft := Cx.chg_aft (c := c.frz (fz.map (·.1))) (w' := w') (recs := recsV ++ recsB) h.rel.usedK hnodT (fun r hr hn => by have := hnewT r hr hn; exact hnewU _ this.1 this.2)
    have aft' : Aft c ((c.frz (fz.map (·.1))).chg w' (recsV ++ recsB)) w' (recsV ++ recsB) := ⟨aft.ρ, aft.w, aft.G, aft.new, aft.K, aft.old⟩
    have hval := (v6 _ (aft'.mono fun r hr => by simp [hr]) fun b hb => hokf b (by simp [hb])).1
    rw [← hent, ← updH_app] at hrel2
    refine hk _ ((c.frz (fz.map (·.1))).chg w' (recsV ++ recsB)) ⟨rfl, rfl, rfl, rfl, fun t ht => ?_⟩ (hrel2.put (hval.mkGd gs h.gs) o.dst)
    rcases ht with ht | ⟨r, hr, rfl⟩
    · exact .inl ht
    · cases hn : r.new with
      | none =>
        rcases List.mem_append.1 hr with hr | hr
        · have := (v3 r hr).2.2; rw [hn] at this; cases this
        · exact .inl (hB.old r hr hn).2
      | some _ =>
        have := hnewT r hr (by simp [hn])
        exact .inr ⟨this.1, by simp only [idsPerOp]; omega⟩
  · cases he
end
end Go.Proofs.Ytjneaalpiangdaa
end

/- Part WS. A call of a function value; all operations. Program independent. -/
section
namespace Go.Proofs.Ytjneaalpiangdaa
open Go.RowKit
section
variable {P : Program} {c : Cx} {n nx : Nat} {sl sl0 : Nat → SV} {hp hp0 : Nat → Option Ent} {a : Act} {o : Oper} {gs : Gd} {e : Eff} {sg : Nat → Option Sig} {nv : Nat}
theorem args_ro {w : World} : ∀ (vs : List Value) {xs : List AV} {f : List Nat} (ts : List TypeId), Rd w vs xs f → ts.length ≤ vs.length → ArgsR P w ts [] vs xs f []
  | [], xs, f, ts, h, hl => by
    have : ts = [] := List.eq_nil_of_length_eq_zero (by simpa using hl)
    subst this
    cases h; exact .nil
  | v :: vs, [], f, ts, h, hl => by have := h.len; simp at this
  | v :: vs, x :: xs, f, ts, h, hl => by
    obtain ⟨f1, f2, rfl, h1, h2⟩ := h.uncons
    cases ts with
    | nil => exact .free h1 (args_ro vs [] h2 (by simp))
    | cons t ts => exact ArgsR.cons (h := []) ⟨h1, rfl⟩ (args_ro vs ts h2 (by simpa using hl))
theorem go_list (l : EL) : EL.of (callDyn.go l) = l := by
  induction l using EL.rec (motive_1 := fun _ => True) with
  | nil => rfl
  | cons e es _ ih => simp [callDyn.go, EL.of, ih]
  | _ => trivial
theorem backs_ro {w : World} {ts : List TypeId} {vs : List Value} {Bs : List AV} {f o : List Nat} (h : BacksR P w ts [] vs Bs f o) : Bs = [] := by
  have key : ∀ (ts : List TypeId), hasBack ts [] = false := by
    intro ts
    induction ts with
    | nil => rfl
    | cons t ts ih => simp only [hasBack, List.headD_nil, Bool.false_or, List.tail_nil]; exact ih
  exact (hasBack_len h).2 (key ts)
theorem anyFl_nil (t : TypeId) : anyFl P t [] = false := by simp [anyFl]
theorem does_callDyn (h : Pre P c n nx sl hp a sl0 hp0 o gs) {cl : Call} {fo : Operand} (ho : o.op = .call cl) (hcl : cl.callee = .value fo) {y : E} (hf : operandSV sl0 gs fo = some (.e y)) {as : List SV} (has : cl.args.toList.mapM (operandSV sl0 gs) = some as) {t : TypeId}
    (he : callDyn P hp0 gs nv t y as = some e) (hcall : ∀ c', e.call = some c' → ∃ r, c.ρ[nv]? = some r ∧ callOK (Rts P sg) c'.fn ((EL.of c'.args).den c.ρ) c.ρ r) : Does P o c n nx sl hp gs a e := by
  have hmf : fo ∈ o.op.operands := by simp [ho, Op.operands, Call.operands, hcl]
  have hma : ∀ x ∈ cl.args.toList, x ∈ o.op.operands := fun x hx => by
    have : x ∈ cl.args := by simpa using hx
    simp [ho, Op.operands, Call.operands, hcl, this]
  have hrf := h.opd hf hmf
  have hargs := mapM_args (a := a) (fun x hx s hs => h.opd hs (hma x hx)) has
  unfold callDyn at he
  split at he
  · cases he
  split at he
  · cases he
  rename_i es hes
  simp only [Option.some.injEq] at he; subst he
  obtain ⟨r, hr, g, caps, hy, hrt, hsc⟩ := hcall _ rfl
  rw [go_list] at hrt
  obtain ⟨f1, p1, p2⟩ := toELN_rd h.eh h.gs deepFuel hes hargs deepFuel (Nat.le_refl _)
  generalize hfv : a.eval fo = fv at hrf
  cases hrf with
  | e k1 k2 _ =>
  obtain ⟨capv, f2, rfl, hcv⟩ : ∃ capv f2, fv = .func (.func g) #[] capv.toArray ∧ Rd c.w capv caps f2 := by
    rw [hy] at k1
    cases k1 with
    | fn q1 _ => exact ⟨_, _, rfl, q1⟩
  have hret : Ret P ⟨[], []⟩ g (es.den c.ρ ++ caps) r := by
    unfold Rts at hrt
    rw [if_neg (by omega)] at hrt
    simpa using hrt
  obtain ⟨fn, hfn, hbody, hname, _, hlen, hcalls⟩ := hret
  have hrd := p1.app hcv
  have hvl := hrd.len
  have hcall := hcalls c.w _ _ [] (args_ro _ fn.params.toList hrd (by rw [hvl, hlen, Array.length_toList]; omega)) (by simp) (by simp)
  have ex : (execOp a.eval o).run P c.w = .ok (.enter g (cl.args.map a.eval ++ capv.toArray)) c.w := by
    have hb : fn.body.isNone = false := by simpa using hbody
    simp only [execOp, ho, resolve, hcl, hfv, Deferred.ofValue, Sem.run_bind, Sem.run_pure, Result.andThen_ok, invoke, callFunc, run_program, hfn]
    simp [hname, hb]
  intro next Q hk
  unfold Oper.wp
  rw [ex, Oper.upon_enter]
  have harr : cl.args.map a.eval ++ capv.toArray = ((cl.args.toList.map a.eval) ++ capv).toArray := by
    apply Array.ext'; simp
  rw [harr]
  refine hcall.mono ?_
  rintro e' w' ⟨v, rfl, ⟨R, Bs, f1', o1, f2', o2, hrR, hres, hback, hnod, ho12, hf12⟩, hmod⟩
  show next (a.put o.dst v) w'
  have hBs := backs_ro hback
  subst hBs
  simp only at hrR
  subst hrR
  have hv : Rd w' [v] [r] [] := by
    unfold ResR at hres
    split at hres
    · rename_i t' ht
      unfold ValR at hres
      rw [if_neg (by rw [anyFl_nil]; simp)] at hres
      have := flat_cells_fp hres.1 hsc
      subst this; exact hres.1
    · obtain ⟨vs, ys, _, rfl, _⟩ := hres
      have := hsc (.tup ys) (by simp [AV.cells])
      simp [AV.scalar] at this
  obtain ⟨hrel2, _⟩ := h.rel.changes (w' := w') (recs := []) (hs := []) (gs := gs) h.gs hmod (by simp) (by simp) (by simp) (by simp) (by simp) (by simp) (by simp)
  refine hk _ (c.chg w' []) ⟨rfl, rfl, rfl, rfl, fun t ht => ?_⟩ (hrel2.put (SR.mkGd (.e (f := []) ?_ (by simp) .nil) gs h.gs) o.dst)
  · rcases ht with ht | ⟨r, hr, _⟩
    · exact .inl ht
    · simp at hr
  · show Rd w' [v] [(E.var nv).den c.ρ] []
    simp only [E.den, hr, Option.getD_some]; exact hv
/-- All operations do what their effects say. -/
theorem op_ok (hsg : ∀ f s, sg f = some s → f < 1000000) : OpOK P sg (Rts P sg) := by
  intro c n nx sl hp a sl0 hp0 o gs e nv h he hc hcall hnq
  have he0 := he
  cases hop : o.op with
  | move x => simp only [opEff, hop, Option.map_eq_some_iff] at he; obtain ⟨s, hs, rfl⟩ := he; exact does_move h (.inl hop) hs
  | assign x => simp only [opEff, hop, Option.map_eq_some_iff] at he; obtain ⟨s, hs, rfl⟩ := he; exact does_move h (.inr hop) hs
  | pick x y z => exact does_pick h hop he hc
  | alloc t => exact does_alloc h hop he hc
  | box t x => exact does_box h hop he hc
  | build t parts => exact does_build h hop he hc
  | buildSlice t m parts => exact does_buildSlice h hop he hc
  | load t x => exact does_load h hop he hc
  | nilCheck x => exact does_nilCheck h hop he hc
  | makeSlice t l m => exact does_make h hop he hc
  | slice t x lo hi mx => exact does_slice h hop he hc
  | fieldAddr t x f => exact does_fieldAddr h hop he hc
  | field t x f => exact does_field h hop he hc
  | extract x i => exact does_extract h hop he hc
  | store t x y =>
    simp only [opEff, hop, Option.bind_eq_some_iff] at he
    obtain ⟨p, hp', v, hv, he⟩ := he
    cases p with
    | bptr b k => exact does_storeBox h hop hp' hv he hc
    | rptr b g i sz k => exact does_storeRow h hop hp' hv he hc
    | _ => simp [storeEff] at he
  | binOp op t x y ty =>
    cases hu : P.underlying t with
    | none => simp only [opEff, hop, Option.bind_eq_some_iff] at he; obtain ⟨_, _, _, _, he⟩ := he; simp [binEff, hu] at he
    | some d =>
      by_cases hstr : ∃ fs, d = .struct fs
      · obtain ⟨fs, rfl⟩ := hstr
        exact does_aeq h hop hu he hc
      · have hns : ∀ fs, P.underlying t ≠ some (.struct fs) := fun fs hh => hstr ⟨fs, by rw [hu] at hh; cases hh; rfl⟩
        cases hq : e.nilq with
        | none => exact does_bin h hop hns he hq hc
        | some x' =>
          have hnv := hnq x' hq
          simp only [opEff, hop, Option.bind_eq_some_iff] at he
          obtain ⟨s1, hs1, s2, hs2, he⟩ := he
          have r1 := h.opd hs1 (by simp [hop, Op.operands])
          have r2 := h.opd hs2 (by simp [hop, Op.operands])
          unfold binEff at he
          split at he
          · rename_i el hu'
            have hsl : ∀ xq, toEN hp0 gs deepFuel s1 = some xq → Cn.den c.ρ (.dfd (.len xq)) → ∃ p q r, a.eval x = .slice p q r := by
              intro xq hxq hd
              obtain ⟨f, q1, _⟩ := h.toE hs1 (by simp [hop, Op.operands]) hxq
              have hd : (xq.den c.ρ).len ≠ .undef := hd
              cases hy' : xq.den c.ρ <;> simp only [hy', AV.len, ne_eq, not_true_eq_false] at hd
              rename_i xs
              have hl : (xq.den c.ρ).len = .int .i64 (xs.length : Int) := by rw [hy']; rfl
              rcases slice_of q1 hl with ⟨p, q, hv, hm0⟩ | ⟨b, o', k, q, hv, hm0⟩
              · exact ⟨_, _, _, hv⟩
              · exact ⟨_, _, _, hv⟩
            split at he
            · simp at he; subst he; cases hq
            · simp at he; subst he; cases hq
            · obtain ⟨xq, hxq, rfl⟩ := Option.map_eq_some_iff.1 he
              obtain ⟨p, q, r, hv⟩ := hsl xq hxq (hc _ (by simp))
              exact does_nilq h hop hu' hv r2 (.inl rfl) hnv _
            · obtain ⟨xq, hxq, rfl⟩ := Option.map_eq_some_iff.1 he
              obtain ⟨p, q, r, hv⟩ := hsl xq hxq (hc _ (by simp))
              exact does_nilq h hop hu' hv r2 (.inr rfl) hnv _
            · cases he
          · split at he
            · simp at he; subst he; cases hq
            · cases he
          · split at he
            · simp at he; subst he; cases hq
            · cases he
          · split at he
            · simp at he; subst he; cases hq
            · cases he
          · rename_i fs hu'; exact absurd hu' (hns fs)
          · cases he
  | unOp u t x =>
    cases u with
    | not => exact does_not h hop he hc
    | neg => exact does_neg h hop he hc
    | _ => simp [opEff, hop] at he
  | convert src dst x =>
    have he1 := he
    simp only [opEff, hop, Option.bind_eq_some_iff] at he1
    obtain ⟨s, _, he1⟩ := he1
    unfold convEff at he1
    split at he1
    · rename_i k0 k h1 h2; exact does_convInt h hop h1 h2 he hc
    · rename_i h1 h2; exact does_convStr h hop h1 h2 he hc
    · cases he1
  | makeFunc fr fst caps =>
    cases fr with
    | func f => exact does_makeFunc h hop he
    | _ => simp [opEff, hop] at he
  | indexAddr t x i =>
    refine does_indexAddr h hop (fun hu => ?_) he hc
    simp only [opEff, hop, Option.bind_eq_some_iff] at he
    obtain ⟨_, _, _, _, he⟩ := he
    simp [strT, hu] at he
  | index t x i =>
    refine does_indexOp h hop ?_ he hc
    simp only [opEff, hop, Option.bind_eq_some_iff] at he
    obtain ⟨_, _, _, _, he⟩ := he
    split at he
    · rename_i hst
      unfold strT at hst
      split at hst
      · assumption
      · cases hst
    · cases he
  | call cl =>
    simp only [opEff, hop] at he
    cases hcl : cl.callee with
    | invoke r m => rw [hcl] at he; simp at he
    | value f =>
      rw [hcl] at he
      simp only [Option.bind_eq_some_iff] at he
      obtain ⟨s, hs, as, has, he⟩ := he
      cases s with
      | fn g caps =>
        have he : callEff P sg hp0 gs nv nx g (as ++ caps.toList) = some e := he
        refine does_call h hop hcl hs has ?_ he hcall
        unfold callEff at he
        split at he
        · rename_i fn sg' hfn hh; exact hsg g sg' hh
        · cases he
      | e y => exact does_callDyn h hop hcl hs has he hcall
      | _ => simp at he
    | builtin b =>
      rw [hcl] at he
      cases b with
      | len =>
        simp only at he
        split at he
        · rename_i x tx ha1 ha2; exact does_len h hop hcl ha1 ha2 he0 hc
        · cases he
      | append =>
        simp only at he
        split at he
        · rename_i x y tx ty ha1 ha2; exact does_append h hop hcl ha1 ha2 he0 hc
        · cases he
      | max =>
        simp only at he
        split at he
        · rename_i x y ha1
          simp only [Option.bind_eq_some_iff] at he
          obtain ⟨s1, hs1, s2, hs2, he⟩ := he
          exact does_minmax h hop (.inl ⟨rfl, hcl⟩) ha1 hs1 hs2 he hc
        · cases he
      | min =>
        simp only at he
        split at he
        · rename_i x y ha1
          simp only [Option.bind_eq_some_iff] at he
          obtain ⟨s1, hs1, s2, hs2, he⟩ := he
          exact does_minmax h hop (.inr ⟨rfl, hcl⟩) ha1 hs1 hs2 he hc
        · cases he
      | _ => simp at he
  | _ => simp [opEff, hop] at he
theorem nil_ok : NilOK P sg := by
  intro c n nx sl hp a sl0 hp0 o gs e nv x h he hq hb
  unfold nilBit at hb
  cases hop : o.op with
  | binOp op t y z ty =>
    rw [hop] at hb
    simp only at hb
    simp only [opEff, hop, Option.bind_eq_some_iff] at he
    obtain ⟨s1, hs1, s2, hs2, he⟩ := he
    have key : ∀ xq, toEN hp0 gs deepFuel s1 = some xq → xq.den c.ρ = .sl [] := by
      intro xq hxq
      obtain ⟨f, q1, _⟩ := h.toE hs1 (by simp [hop, Op.operands]) hxq
      generalize a.eval y = v at q1 hb
      split at hb
      · generalize xq.den c.ρ = d at q1
        cases q1 with
        | snil _ => rfl
      · cases hb
    unfold binEff at he
    split at he
    · split at he
      · simp at he; subst he; cases hq
      · simp at he; subst he; cases hq
      · obtain ⟨xq, hxq, rfl⟩ := Option.map_eq_some_iff.1 he
        cases hq; exact key _ hxq
      · obtain ⟨xq, hxq, rfl⟩ := Option.map_eq_some_iff.1 he
        cases hq; exact key _ hxq
      · cases he
    · split at he
      · simp at he; subst he; cases hq
      · cases he
    · split at he
      · simp at he; subst he; cases hq
      · cases he
    · split at he
      · simp at he; subst he; cases hq
      · cases he
    · split at he
      · cases he
      · split at he
        · split at he
          · simp at he; subst he; cases hq
          · simp at he; subst he; cases hq
          · cases he
        · cases he
    · cases he
  | _ => rw [hop] at hb; simp at hb
end
end Go.Proofs.Ytjneaalpiangdaa
end

/- Part WT. The entry of a function. Program independent. -/
section
namespace Go.Proofs.Ytjneaalpiangdaa
open Go.RowKit

/-- What a pinned tag stands for. -/
def pinOf (ms : List PM) (vs : List Value) (t : Nat) : Option Value :=
  if isPin t then (match vs[t / 1000]?, (ms[t / 1000]?).getD .ro with
    | some v, .bx .. => if t % 1000 = 0 then some v else none
    | some v, .mu _ => if 500 ≤ t % 1000 then v.cells[t % 1000 - 500]? else none
    | _, _ => none)
  else none
section
variable {P : Program} {c : Cx} {w : World}
theorem CellsR.own_one {ts : List TypeId} {fl : List Bool} {us : List Value} {ys : List AV} {rf hs : List Nat} (h : CellsR P w ts fl us ys rf hs) {nx : Nat} {mk : Nat → E} {j : Nat} : ∀ (k : Nat) (u : Value), us[k]? = some u → (∃ e, (nx + j + k, e) ∈ (freshCells P nx mk j ts fl).2) → u.cells = #[u] := by
  induction h generalizing j with
  | nil => intro k u hu _; simp at hu
  | @own t ts fl el u us y ys top rf hs h1 h2 h3 _ ih =>
    intro k u' hu he
    cases k with
    | zero =>
      simp at hu; subst hu
      obtain ⟨xs, _, _, _, ⟨_, ⟨a, rfl⟩, _⟩ | ⟨g, cap, C, rfl, _⟩⟩ := h3 <;> rfl
    | succ k =>
      refine ih (j := j + 1) k u' (by simpa using hu) ?_
      obtain ⟨e, he⟩ := he
      simp only [freshCells, h1, h2, List.mem_cons, Prod.mk.injEq] at he
      rcases he with ⟨he, _⟩ | he
      · omega
      · exact ⟨e, by rw [show nx + (j + 1) + k = nx + j + (k + 1) from by omega]; exact he⟩
  | @rd t ts fl u us y ys f rf hs h1 h3 _ ih =>
    intro k u' hu he
    obtain ⟨e, he⟩ := he
    have hfc : (freshCells P nx mk j (t :: ts) fl).2 = (freshCells P nx mk (j + 1) ts fl.tail).2 := by
      simp only [freshCells]
      split
      · rename_i h8 h9; rw [h1 h8] at h9; cases h9
      · rfl
    rw [hfc] at he
    cases k with
    | zero =>
      -- no entry bears the tag of a value
      exfalso
      have key : ∀ (ts : List TypeId) (fl : List Bool) (j' : Nat) (t' : Nat) (e' : Ent), (t', e') ∈ (freshCells P nx mk j' ts fl).2 → nx + j' ≤ t' := by
        intro ts
        induction ts with
        | nil => intro fl j' t' e' h; simp [freshCells] at h
        | cons a ts ih2 =>
          intro fl j' t' e' h
          simp only [freshCells] at h
          split at h
          · simp only [List.mem_cons, Prod.mk.injEq] at h
            rcases h with ⟨h, _⟩ | h
            · omega
            · have := ih2 _ _ _ _ h; omega
          · have := ih2 _ _ _ _ h; omega
      have := key _ _ _ _ _ he
      omega
    | succ k =>
      exact ih (j := j + 1) k u' (by simpa using hu) ⟨e, by rw [show nx + (j + 1) + k = nx + j + (k + 1) from by omega]; exact he⟩
theorem entryV_spec {i b : Nat} (hb : b + 400 ≤ 1000) {t : TypeId} {own : List Bool} {s : SV} {l : List (Nat × Ent)} {v : Value} {x : AV} {rf hs : List Nat} (h : entryV P i b t own = some (s, l)) (hv : CellV P w t own v x rf hs) (hx : (E.var i).den c.ρ = x) :
    ∃ recs : List Chg, l = recs.map Chg.pair ∧ recs.flatMap Chg.top = hs ∧ (∀ r ∈ recs, 1000 * i + b ≤ r.tag ∧ r.tag < 1000 * i + 1000 ∧ r.new.isSome) ∧ (recs.map Chg.tag).Nodup ∧ (∀ r ∈ recs, r.new = v.cells[r.tag - (1000 * i + b)]?) ∧
      ∀ c', Aft c c' w recs → (∀ b ∈ rf, c'.ok b) → SR c' [s] [v] ∧ ∀ r ∈ recs, EntR c' r.tag r.ent := by
  obtain ⟨us, ys, hg, hc⟩ := hv
  unfold entryV at h
  simp only at h
  split at h
  · cases h
  rename_i hle
  split at hg
  · rename_i hag
    obtain ⟨rfl, rfl, hone⟩ := hg
    obtain ⟨recs, e1, e2, e3, e4, e4', e5⟩ := freshCells_spec (c := c) (nx := 1000 * i + b) (mk := cellE (.var i) (aggT P t)) hc 0 (by rw [hag]; exact cellE_den hx)
    rw [if_pos hag] at h
    simp only [Option.some.injEq, Prod.mk.injEq] at h
    obtain ⟨rfl, rfl⟩ := h
    refine ⟨recs, e1, e2, fun r hr => by have := e3 r hr; exact ⟨by omega, by omega, this.2.2⟩, e4, fun r hr => by rw [e4' r hr]; simp [Value.cells], fun c' ha hok => ?_⟩
    obtain ⟨q1, q2⟩ := e5 c' ha hok
    exact ⟨.agg hone (by rw [SVL.toList_of]; exact q1) .nil, q2⟩
  · rename_i hag
    obtain ⟨rfl, rfl⟩ := hg
    have hag' : aggT P t = false := by simpa using hag
    obtain ⟨recs, e1, e2, e3, e4, e4', e5⟩ := freshCells_spec (c := c) (nx := 1000 * i + b) (mk := cellE (.var i) (aggT P t)) hc 0 (by
      intro k z hz
      cases k with
      | zero => simp at hz; subst hz; rw [hag']; simpa [cellE] using hx
      | succ k => simp at hz)
    rw [if_neg hag] at h
    split at h
    · rename_i s' hs'
      simp only [Option.some.injEq, Prod.mk.injEq] at h
      obtain ⟨rfl, rfl⟩ := h
      refine ⟨recs, e1, e2, fun r hr => by have := e3 r hr; exact ⟨by omega, by omega, this.2.2⟩, e4, fun r hr => ?_, fun c' ha hok => ?_⟩
      · have hr' := e4' r hr
        have h3 := e3 r hr
        rw [hr', Nat.add_zero]
        have hlen := hc.len
        have hk0 : r.tag - (1000 * i + b) = 0 := by
          have := hlen.1
          simp at this
          omega
        rw [hk0]
        have := hc.own_one (nx := 1000 * i + b) (mk := cellE (.var i) (aggT P t)) (j := 0) 0 v rfl ⟨r.ent, by rw [e1]; exact List.mem_map.2 ⟨r, hr, by simp [Chg.pair]; omega⟩⟩
        rw [this]; rfl
      · obtain ⟨q1, q2⟩ := e5 c' ha hok
        rw [hs'] at q1
        exact ⟨q1, q2⟩
    · cases h
theorem entry_spec {ms0 : List PM} {vs0 : List Value} : ∀ (ts : List TypeId) (i : Nat) {ms : List PM} {ss : List SV} {l : List (Nat × Ent)} {vs : List Value} {xs : List AV} {rf hs : List Nat}, entryAll P i ts ms = some (ss, l) → ArgsR P w ts ms vs xs rf hs → (∀ k x, xs[k]? = some x → (E.var (i + k)).den c.ρ = x) → (∀ k, ms[k]? = ms0[i + k]?) → (∀ k, vs[k]? = vs0[i + k]?) →
    ∃ recs : List Chg, l = recs.map Chg.pair ∧ recs.flatMap Chg.top = hs ∧ (∀ r ∈ recs, 1000 * i ≤ r.tag ∧ r.tag < 1000 * (i + ts.length) ∧ r.new.isSome) ∧ (recs.map Chg.tag).Nodup ∧ (∀ r ∈ recs, ∀ v, pinOf ms0 vs0 r.tag = some v → r.new = some v) ∧ ss.length = ts.length ∧ ts.length ≤ vs.length ∧
      ∀ c', Aft c c' w recs → (∀ b ∈ rf, c'.ok b) → SR c' (ss ++ (List.range (vs.length - ts.length)).map fun j => SV.e (.var (i + ts.length + j))) vs ∧ ∀ r ∈ recs, EntR c' r.tag r.ent
  | [], i, ms, ss, l, vs, xs, rf, hs, h, ha, hx, _, _ => by
    simp [entryAll] at h; obtain ⟨rfl, rfl⟩ := h
    have key : ∀ {ms : List PM} {vs : List Value} {xs : List AV} {rf hs : List Nat}, ArgsR P w [] ms vs xs rf hs → hs = [] ∧ Rd w vs xs rf := by
      intro ms vs
      induction vs generalizing ms with
      | nil => intro xs rf hs h; cases h; exact ⟨rfl, .nil⟩
      | cons v vs ih =>
        intro xs rf hs h
        cases h with
        | free h1 h2 => obtain ⟨rfl, h3⟩ := ih h2; exact ⟨rfl, h1.app h3⟩
    obtain ⟨rfl, hrd⟩ := key ha
    refine ⟨[], rfl, rfl, by simp, by simp, by simp, rfl, by simp, fun c' haf hok => ⟨?_, by simp⟩⟩
    have frees : ∀ (vs : List Value) {xs : List AV} {rf : List Nat} (j : Nat), Rd w vs xs rf → (∀ k x, xs[k]? = some x → (E.var (i + j + k)).den c.ρ = x) → (∀ b ∈ rf, c'.ok b) → SR c' ((List.range vs.length).map fun q => SV.e (.var (i + j + q))) vs := by
      intro vs
      induction vs with
      | nil => intro xs rf j h _ _; simpa using SR.nil
      | cons v vs ih =>
        intro xs rf j h hx hok
        cases xs with
        | nil => have := h.len; simp at this
        | cons x xs =>
          obtain ⟨f1, f2, rfl, h1, h2⟩ := h.uncons
          have h3 := ih (j + 1) h2 (fun k y hy => by rw [show i + (j + 1) + k = i + j + (k + 1) from by omega]; exact hx (k + 1) y (by simpa using hy)) fun b hb => hok b (by simp [hb])
          rw [List.length_cons, List.range_succ_eq_map, List.map_cons, List.map_map]
          refine SR.cons (.e (f := f1) (by rw [haf.w, haf.ρ]; have := hx 0 x rfl; simp only [Nat.add_zero] at this ⊢; rw [this]; exact h1) (fun b hb => hok b (by simp [hb])) .nil) ?_
          have e : ((fun q => SV.e (.var (i + j + q))) ∘ Nat.succ) = fun q => SV.e (.var (i + (j + 1) + q)) := by
            funext q; simp only [Function.comp_apply]; rw [show i + j + q.succ = i + (j + 1) + q from by omega]
          rw [e]; exact h3
    simpa using frees vs 0 hrd (by simpa using hx) hok
  | t :: ts, i, ms, ss, l, vs, xs, rf, hs, h, ha, hx, hms, hvs => by
    unfold entryAll at h
    split at h
    · rename_i s l1 ss' l2 h1 h2
      simp only [Option.some.injEq, Prod.mk.injEq] at h
      obtain ⟨rfl, rfl⟩ := h
      cases ha with
      | @cons _ _ _ v vs x xs f hh rf hs harg hrest =>
      have hm0 : ms.headD .ro = (ms0[i]?).getD .ro := by
        have := hms 0
        rw [Nat.add_zero] at this
        rw [← this]
        cases ms <;> rfl
      have hv0 : vs0[i]? = some v := by have := hvs 0; simpa using this.symm
      have hx0 : (E.var i).den c.ρ = x := by simpa using hx 0 x rfl
      obtain ⟨r2, b1, b2, b3, b4, b4', b6, b7, b5⟩ := entry_spec ts (i + 1) h2 hrest (fun k y hy => by rw [show i + 1 + k = i + (k + 1) from by omega]; exact hx (k + 1) y (by simpa using hy)) (fun k => by rw [show i + 1 + k = i + (k + 1) from by omega, ← hms (k + 1)]; cases ms <;> simp) (fun k => by rw [show i + 1 + k = i + (k + 1) from by omega, ← hvs (k + 1)]; simp)
      have fin : ∀ (r1 : List Chg), l1 = r1.map Chg.pair → r1.flatMap Chg.top = hh → (∀ r ∈ r1, 1000 * i ≤ r.tag ∧ r.tag < 1000 * i + 1000 ∧ r.new.isSome) → (r1.map Chg.tag).Nodup → (∀ r ∈ r1, ∀ v, pinOf ms0 vs0 r.tag = some v → r.new = some v) →
          (∀ c', Aft c c' w r1 → (∀ b ∈ f, c'.ok b) → SR c' [s] [v] ∧ ∀ r ∈ r1, EntR c' r.tag r.ent) →
          ∃ recs : List Chg, l1 ++ l2 = recs.map Chg.pair ∧ recs.flatMap Chg.top = hh ++ hs ∧ (∀ r ∈ recs, 1000 * i ≤ r.tag ∧ r.tag < 1000 * (i + (t :: ts).length) ∧ r.new.isSome) ∧ (recs.map Chg.tag).Nodup ∧ (∀ r ∈ recs, ∀ v, pinOf ms0 vs0 r.tag = some v → r.new = some v) ∧ (s :: ss').length = (t :: ts).length ∧ (t :: ts).length ≤ (v :: vs).length ∧
            ∀ c', Aft c c' w recs → (∀ b ∈ f ++ rf, c'.ok b) → SR c' ((s :: ss') ++ (List.range ((v :: vs).length - (t :: ts).length)).map fun j => SV.e (.var (i + (t :: ts).length + j))) (v :: vs) ∧ ∀ r ∈ recs, EntR c' r.tag r.ent := by
        intro r1 a1 a2 a3 a4 a4' a5
        refine ⟨r1 ++ r2, by simp [a1, b1], by simp [a2, b2], fun r hr => ?_, ?_, fun r hr => ?_, by simp [b6], by simp [b7], fun c' haf hok => ?_⟩
        · simp only [List.length_cons]
          rcases List.mem_append.1 hr with hr | hr
          · have := a3 r hr; exact ⟨this.1, by omega, this.2.2⟩
          · have := b3 r hr; exact ⟨by omega, by omega, this.2.2⟩
        · rw [List.map_append, List.nodup_append]
          refine ⟨a4, b4, fun t1 ht1 t2 ht2 he => ?_⟩
          obtain ⟨q1, hq1, rfl⟩ := List.mem_map.1 ht1
          obtain ⟨q2, hq2, rfl⟩ := List.mem_map.1 ht2
          have := a3 q1 hq1
          have := b3 q2 hq2
          omega
        · rcases List.mem_append.1 hr with hr | hr
          · exact a4' r hr
          · exact b4' r hr
        · obtain ⟨p1, p2⟩ := a5 c' (haf.mono fun r hr => by simp [hr]) fun b hb => hok b (by simp [hb])
          obtain ⟨q1, q2⟩ := b5 c' (haf.mono fun r hr => by simp [hr]) fun b hb => hok b (by simp [hb])
          refine ⟨?_, fun r hr => ?_⟩
          · have := p1.cons q1
            have e : (fun j => SV.e (.var (i + 1 + ts.length + j))) = fun j => SV.e (.var (i + (t :: ts).length + j)) := by
              funext j; simp only [List.length_cons]; rw [show i + 1 + ts.length + j = i + (ts.length + 1) + j from by omega]
            rw [e] at this
            simpa using this
          · rcases List.mem_append.1 hr with hr | hr
            · exact p2 r hr
            · exact q2 r hr
      have pinMu : ∀ {own : List Bool} {r : Chg}, ms.headD .ro = .mu own → 1000 * i + 500 ≤ r.tag → r.tag < 1000 * i + 1000 → r.new = v.cells[r.tag - (1000 * i + 500)]? → ∀ v', pinOf ms0 vs0 r.tag = some v' → r.new = some v' := by
        intro own r hm t1 t2 hn v' hp
        unfold pinOf at hp
        split at hp
        · rw [show r.tag / 1000 = i from by omega, hv0, ← hm0, hm] at hp
          simp only at hp
          split at hp
          · rw [hn, show r.tag - (1000 * i + 500) = r.tag % 1000 - 500 from by omega]; exact hp
          · cases hp
        · cases hp
      have pinVa : ∀ {own : List Bool} {r : Chg}, ms.headD .ro = .va own → 1000 * i ≤ r.tag → r.tag < 1000 * i + 1000 → ∀ v', pinOf ms0 vs0 r.tag = some v' → r.new = some v' := by
        intro own r hm t1 t2 v' hp
        unfold pinOf at hp
        split at hp
        · rw [show r.tag / 1000 = i from by omega, hv0, ← hm0, hm] at hp
          simp at hp
        · cases hp
      cases hm : ms.headD .ro with
      | ro =>
        rw [hm] at h1 harg
        simp only [entryS, Option.some.injEq, Prod.mk.injEq] at h1
        obtain ⟨rfl, rfl⟩ := h1
        obtain ⟨g1, rfl⟩ := harg
        exact fin [] rfl rfl (by simp) (by simp) (by simp) fun c' haf hok => ⟨.e (f := f) (by rw [haf.w, haf.ρ, hx0]; exact g1) hok .nil, by simp⟩
      | va own =>
        rw [hm] at h1 harg
        obtain ⟨r1, a1, a2, a3, a4, a4', a5⟩ := entryV_spec (c := c) (by omega) h1 harg hx0
        exact fin r1 a1 a2 (fun r hr => by have := a3 r hr; exact ⟨by omega, this.2⟩) a4 (fun r hr => by have := a3 r hr; exact pinVa hm (by omega) this.2.1) a5
      | mu own =>
        rw [hm] at h1 harg
        obtain ⟨r1, a1, a2, a3, a4, a4', a5⟩ := entryV_spec (c := c) (by omega) h1 harg hx0
        exact fin r1 a1 a2 (fun r hr => by have := a3 r hr; exact ⟨by omega, this.2⟩) a4 (fun r hr => by have := a3 r hr; exact pinMu hm this.1 this.2.1 (a4' r hr)) a5
      | bx own own' =>
        rw [hm] at h1 harg
        obtain ⟨ty, b, C, ys, h9, g1, rfl, g3, g4, rfl, g6, rfl⟩ := harg
        simp only [entryS, g1] at h1
        split at h1
        · cases h1
        rename_i hle
        simp only [Option.some.injEq, Prod.mk.injEq] at h1
        obtain ⟨rfl, rfl⟩ := h1
        obtain ⟨recs, e1, e2, e3, e4, e4', e5⟩ := freshCells_spec (c := c) (nx := 1000 * i + 1) (mk := cellE (.deref (.var i)) true) g6 0 (cellE_den (by simp only [E.den] at hx0 ⊢; rw [hx0]; rfl))
        refine fin (⟨1000 * i, some (.pointer (some ⟨b, 0, none⟩)), [b], .box ty (aggT P ty) (freshCells P (1000 * i + 1) (cellE (.deref (.var i)) true) 0 (leaves P ty) own).1⟩ :: recs) (by simp [e1, Chg.pair]) (by simp [e2]) (fun r hr => ?_) ?_ (fun r hr v' hp => ?_) fun c' haf hok => ?_
        · rcases List.mem_cons.1 hr with rfl | hr
          · simp
          · have := e3 r hr; exact ⟨by omega, by omega, this.2.2⟩
        · simp only [List.map_cons, List.nodup_cons]
          refine ⟨fun hm => ?_, e4⟩
          obtain ⟨r, hr, hrt⟩ := List.mem_map.1 hm
          have := e3 r hr
          omega
        · rcases List.mem_cons.1 hr with rfl | hr
          · unfold pinOf at hp
            simp only at hp
            split at hp
            · rw [show 1000 * i / 1000 = i from by omega, hv0, ← hm0, hm] at hp
              simp at hp
              simpa using hp
            · cases hp
          · have h3 := e3 r hr
            unfold pinOf at hp
            split at hp
            · rw [show r.tag / 1000 = i from by omega, hv0, ← hm0, hm] at hp
              simp only at hp
              split at hp
              · omega
              · cases hp
            · cases hp
        · obtain ⟨q1, q2⟩ := e5 c' (haf.mono fun r hr => by simp [hr]) hok
          obtain ⟨k1, k2, k3⟩ := haf.new _ (List.mem_cons_self ..) _ rfl
          have kg := haf.G _ (List.mem_cons_self ..)
          simp only at k1 k3 kg
          refine ⟨.bptr k1 k3 .nil, fun r hr => ?_⟩
          rcases List.mem_cons.1 hr with rfl | hr
          · exact ⟨b, C, k1, k3, by rw [kg], by rw [kg], by rw [haf.w]; exact g3, g4, q1⟩
          · exact q2 r hr
    · cases h
end
end Go.Proofs.Ytjneaalpiangdaa
end

/- Part WU. The end of a function. Program independent. -/
section
namespace Go.Proofs.Ytjneaalpiangdaa
open Go.RowKit
section
variable {P : Program} {c : Cx} {n : Nat} {a : Act} {τ : St}
theorem EHof (h : Rel c n (slotOf τ) (hpGet τ.hp) a) : EH c (hpGet τ.hp) := fun t e hr => h.ents t e hr
theorem look_nil {hp : Nat → Option Ent} {t : Nat} {e : Ent} (h : hp t = some e) (hn : ∀ hs f, e ≠ .gd hs f) : look hp [] t = some e := by
  simp only [look, h, Option.bind_some, ungdE]
  all_goals (cases e <;> first | rfl | exact absurd rfl (hn _ _))
theorem own_row_end (h : Rel c n (slotOf τ) (hpGet τ.hp) a) {u g : Nat} {e z : Nat} {x : E} (hu : hpGet τ.hp u = some (.row e z g x true)) : c.K u g ∧ OwnRow c.w e z (c.H u g) (x.den c.ρ) (c.G u).top [] := by
  obtain ⟨p1, p2, N, p3, p4, p5, _⟩ := h.ents u _ (by rw [hu]; rfl)
  obtain ⟨hN, _⟩ := p5 rfl
  have hN : N = [] := hN
  subst hN
  exact ⟨p1, p3⟩
/-- Flagged cells at the end. -/
theorem ownedC_spec (h : Rel c n (slotOf τ) (hpGet τ.hp) a) : ∀ (ts : List TypeId) {fl : List Bool} {cs : List SV} {l : List Nat} {us : List Value} {xs : EL} {m : Nat}, ownedC P τ ts fl cs = some l → SR c cs us → toELN (hpGet τ.hp) [] m cs = some xs → m ≤ deepFuel →
    ∃ f, CellsR P c.w ts fl us (xs.den c.ρ) f (l.flatMap fun t => (c.G t).top) ∧ ∀ b ∈ f, c.see (lentC P τ ts fl cs) b
  | [], fl, [], l, us, xs, m, ho, hs, hx, hm => by
    simp [ownedC] at ho; subst ho
    cases hs
    cases m with
    | zero => simp [toELN] at hx
    | succ m => simp [toELN] at hx; subst hx; exact ⟨[], .nil, by simp⟩
  | [], fl, s :: cs, l, us, xs, m, ho, hs, hx, hm => by simp [ownedC] at ho
  | t :: ts, fl, [], l, us, xs, m, ho, hs, hx, hm => by simp [ownedC] at ho
  | t :: ts, fl, s :: cs, l, [], xs, m, ho, hs, hx, hm => by have := hs.len; simp at this
  | t :: ts, fl, s :: cs, l, v :: us, xs, m, ho, hs, hx, hm => by
    obtain ⟨j, y, ys, rfl, hy, hys, rfl⟩ := toELN_cons hx
    obtain ⟨r1, r2⟩ := hs.uncons
    unfold ownedC at ho
    split at ho
    · cases ho
    rename_i l' hrec
    obtain ⟨f, q1, q2⟩ := ownedC_spec h ts hrec r2 hys (by omega)
    split at ho
    · rename_i e hf hel
      have hlent : lentC P τ (t :: ts) fl (s :: cs) = lentC P τ ts fl.tail cs := by
        simp only [lentC, hf, hel, Option.isSome_some, Bool.and_self, if_true, List.nil_append]
      split at ho
      · cases ho
      rename_i hz
      split at ho
      · simp only [Option.some.injEq] at ho; subst ho
        cases r1 with
        | nils _ =>
          refine ⟨f, ?_, by rw [hlent]; exact q2⟩
          have := CellsR.own (P := P) (w := c.w) (u := .slice none 0 0) (y := y.den c.ρ) (top := []) hf hel ⟨[], by rw [toEN_nils hy]; rfl, by simp, by omega, .inl ⟨rfl, ⟨none, rfl⟩, rfl, rfl⟩⟩ q1
          exact this
      · rename_i u g
        split at ho
        · rename_i e' z g' x hu
          split at ho
          · rename_i hh
            obtain ⟨rfl, rfl, rfl⟩ := hh
            simp only [Option.some.injEq] at ho; subst ho
            obtain ⟨p1, p2⟩ := own_row_end h hu
            have hl := look_nil hu (by simp)
            have hyx : y = x := by
              cases j with
              | zero => simp [toEN] at hy
              | succ j => simp [toEN, contentOf, hl] at hy; exact hy.symm
            subst hyx
            have hv : c.H u g = v := by
              cases r1 with
              | own _ k2 _ => exact k2
            rw [hv] at p2
            exact ⟨f, CellsR.own hf hel p2 q1, by rw [hlent]; exact q2⟩
          · cases ho
        · cases ho
      · cases ho
    · rename_i hno
      simp only [Option.some.injEq] at ho; subst ho
      have hn : fl.headD false = true → elemT P t = none := fun hf => by
        cases hel : elemT P t with
        | none => rfl
        | some e => exact absurd hel (hno e hf)
      obtain ⟨f1, p1, p2⟩ := toEN_rd (EHof h) (gdOK_nil _) j hy r1 deepFuel (by omega)
      refine ⟨f1 ++ f, CellsR.rd hn p1 q1, fun b hb => ?_⟩
      have hlent : lentC P τ (t :: ts) fl (s :: cs) = tagsN (hpGet τ.hp) [] (deepFuel + 1) [s] ++ lentC P τ ts fl.tail cs := by
        have : (fl.headD false && (elemT P t).isSome) = false := by
          cases hf : fl.headD false with
          | false => rfl
          | true => rw [hn hf]; rfl
        simp only [lentC, this, Bool.false_eq_true, if_false]
      rw [hlent]
      rcases List.mem_append.1 hb with hb | hb
      · exact (p2 b hb).mono fun t ht => by simp [ht]
      · exact (q2 b hb).mono fun t ht => by simp [ht]
theorem ownedV_spec (h : Rel c n (slotOf τ) (hpGet τ.hp) a) {t : TypeId} {fl : List Bool} {s : SV} {l : List Nat} {v : Value} {x : E} {m : Nat} (ho : ownedV P τ t fl s = some l) (hs : SR c [s] [v]) (hx : toEN (hpGet τ.hp) [] m s = some x) (hm : m < deepFuel) :
    ∃ f, ValR P c.w t fl v (x.den c.ρ) f (l.flatMap fun t => (c.G t).top) ∧ ∀ b ∈ f, c.see (lentV P τ t fl s) b := by
  unfold ownedV at ho
  unfold ValR lentV
  split at ho
  · rename_i hf
    simp only [hf, if_true]
    split at ho
    · rename_i hag
      split at ho
      · rename_i cs
        obtain ⟨k, lx, rfl, hl, rfl⟩ := toEN_agg hx
        cases hs with
        | agg h9 h1 h8 =>
          rename_i as
          obtain ⟨f, q1, q2⟩ := ownedC_spec (P := P) h (leaves P t) ho h1 hl (by omega)
          exact ⟨f, ⟨as, lx.den c.ρ, by rw [if_pos hag]; exact ⟨rfl, rfl, h9⟩, q1⟩, by rw [if_pos hag]; exact q2⟩
      · cases ho
    · rename_i hag
      have hl1 : toELN (hpGet τ.hp) [] (m + 1) [s] = some (.cons x .nil) := by
        cases m with
        | zero => simp [toEN] at hx
        | succ m => simp only [toELN, hx]
      obtain ⟨f, q1, q2⟩ := ownedC_spec (P := P) h (leaves P t) ho hs hl1 (by omega)
      exact ⟨f, ⟨[v], [x.den c.ρ], by rw [if_neg hag]; exact ⟨rfl, rfl⟩, q1⟩, by rw [if_neg hag]; exact q2⟩
  · rename_i hf
    simp only [hf, if_false, Bool.false_eq_true]
    simp only [Option.some.injEq] at ho; subst ho
    obtain ⟨f, p1, p2⟩ := toEN_rd (EHof h) (gdOK_nil _) m hx hs deepFuel (by omega)
    exact ⟨f, ⟨p1, rfl⟩, p2⟩
theorem ownedVs_spec (h : Rel c n (slotOf τ) (hpGet τ.hp) a) : ∀ (ts : List TypeId) {fl : List Bool} {ss : List SV} {l : List Nat} {vs : List Value} {xs : EL} {m : Nat}, ownedVs P τ ts fl ss = some l → SR c ss vs → toELN (hpGet τ.hp) [] m ss = some xs → m ≤ deepFuel →
    ∃ f, ValsR P c.w ts fl vs (xs.den c.ρ) f (l.flatMap fun t => (c.G t).top) ∧ ∀ b ∈ f, c.see (lentVs P τ ts fl ss) b
  | [], fl, [], l, vs, xs, m, ho, hs, hx, hm => by
    simp [ownedVs] at ho; subst ho
    cases hs
    cases m with
    | zero => simp [toELN] at hx
    | succ m => simp [toELN] at hx; subst hx; exact ⟨[], .nil, by simp⟩
  | [], fl, s :: cs, l, us, xs, m, ho, hs, hx, hm => by simp [ownedVs] at ho
  | t :: ts, fl, [], l, us, xs, m, ho, hs, hx, hm => by simp [ownedVs] at ho
  | t :: ts, fl, s :: cs, l, [], xs, m, ho, hs, hx, hm => by have := hs.len; simp at this
  | t :: ts, fl, s :: cs, l, v :: us, xs, m, ho, hs, hx, hm => by
    obtain ⟨j, y, ys, rfl, hy, hys, rfl⟩ := toELN_cons hx
    obtain ⟨r1, r2⟩ := hs.uncons
    unfold ownedVs at ho
    split at ho
    · rename_i a1 b1 h1 h2
      simp only [Option.some.injEq] at ho; subst ho
      obtain ⟨f1, p1, p2⟩ := ownedV_spec (P := P) h h1 r1 hy (by omega)
      obtain ⟨f2, q1, q2⟩ := ownedVs_spec h ts h2 r2 hys (by omega)
      refine ⟨f1 ++ f2, by rw [List.flatMap_append]; exact .cons p1 q1, fun b hb => ?_⟩
      simp only [lentVs]
      rcases List.mem_append.1 hb with hb | hb
      · exact (p2 b hb).mono fun t ht => by simp [ht]
      · exact (q2 b hb).mono fun t ht => by simp [ht]
    · cases ho
end
end Go.Proofs.Ytjneaalpiangdaa
end

/- Part WV. The end of a function: what comes back besides its results; results. Program independent. -/
section
namespace Go.Proofs.Ytjneaalpiangdaa
open Go.RowKit
section
variable {P : Program} {c : Cx} {n : Nat} {a : Act} {τ : St}
theorem load_box (h : Rel c n (slotOf τ) (hpGet τ.hp) a) {t : TypeId} {b o : Nat} {ty : TypeId} {g : Bool} {cs : List SV} {s : SV} {v : Value} (hty : tyOK P t = true) (hl : hpGet τ.hp b = some (.box ty g cs)) (hs2 : loadC P t cs o = some s) (hr : SR c [.bptr b o] [v]) :
    ∃ q u, v = .pointer (some ⟨q, o, none⟩) ∧ (loadVar t ⟨q, o, none⟩).run P c.w = .ok u c.w ∧ SR c [s] [u] := by
  cases hr with
  | bptr h1 h2 h8 =>
    rename_i q
    obtain ⟨q', C, _, e2, e3, e4, e5, e5', e6⟩ := h.ents b _ (by rw [hl]; rfl)
    rw [h2] at e2; cases e2
    have key : ∀ vs : List Value, (aggT P t = true → vs.length = P.cellsOf t) → (aggT P t = false → vs.length = 1) → (∀ j u, vs[j]? = some u → c.w.cell? ⟨q, o + j, none⟩ = some u) → (loadVar t ⟨q, o, none⟩).run P c.w = .ok (if aggT P t then .agg vs.toArray else vs.headD undef) c.w := fun vs k1 k2 k3 => by
      have := run_loadVar (P := P) (w := c.w) (b := q) (off := o) hty vs k1 k2 k3
      simpa [Instr.loadAt, Instr.sureAddr] using this
    unfold loadC at hs2
    have hlen := e6.len
    split at hs2
    · rename_i hag
      split at hs2
      · rename_i hle
        simp at hs2; subst hs2
        obtain ⟨r1, r2⟩ := e6.split o
        obtain ⟨r3, r4⟩ := r2.split (P.cellsOf t)
        have := SR.agg (cs := SVL.of ((cs.drop o).take (P.cellsOf t))) (fun u hu => e5' u (List.mem_of_mem_drop (List.mem_of_mem_take hu))) (by rw [SVL.toList_of]; exact r3) .nil
        refine ⟨q, .agg ((C.toList.drop o).take (P.cellsOf t)).toArray, rfl, ?_, this⟩
        rw [key ((C.toList.drop o).take (P.cellsOf t)) (fun _ => by simp at hlen ⊢; omega) (fun h => by rw [hag] at h; cases h) (fun j u hu => by
          rw [cell_of_block e5]
          rw [List.getElem?_take] at hu
          split at hu
          · simpa using hu
          · cases hu)]
        simp [hag]
      · cases hs2
    · rename_i hag
      have hag : aggT P t = false := by simpa using hag
      obtain ⟨u, hu, r⟩ := e6.get hs2
      refine ⟨q, u, rfl, ?_, r⟩
      rw [key [u] (fun h => by rw [hag] at h; cases h) (fun _ => rfl) (fun j z hz => by
        cases j with
        | zero => simp at hz; subst hz; rw [cell_of_block e5]; simpa using hu
        | succ j => simp at hz)]
      simp [hag]
theorem run_mapM_pairs {α : Type} {g : α → Sem Value} {w : World} : ∀ (l : List α) (us : List Value), l.length = us.length → (∀ (i : Nat) (x : α) (u : Value), l[i]? = some x → us[i]? = some u → (g x).run P w = .ok u w) → (l.mapM g).run P w = .ok us w
  | [], [], _, _ => by simp
  | [], _ :: _, h, _ => by simp at h
  | _ :: _, [], h, _ => by simp at h
  | x :: l, u :: us, h, hg => by
    have h0 := hg 0 x u rfl rfl
    have ih := run_mapM_pairs l us (by simpa using h) fun i y z hy hz => hg (i + 1) y z (by simpa using hy) (by simpa using hz)
    simp [List.mapM_cons, h0, ih]
/-- The results of a function. -/
theorem results_spec (h : Rel c n (slotOf τ) (hpGet τ.hp) a) (fn : Func) {rs : List SV} (hrs : fn.results.toList.mapM (resultSV P τ) = some rs) :
    ∃ us, SR c rs us ∧ rs.length = us.length ∧ (results fn a.tmps).run P c.w = .ok (match us with | [u] => u | us => .tuple us.toArray) c.w := by
  have one : ∀ (r : ResultVar) (s : SV), resultSV P τ r = some s → ∃ u, SR c [s] [u] ∧ (match r with | .tmp t => (pure (a.tmps.getD t undef) : Sem Value) | .cell b t => do loadVar t (← asAddr (a.tmps.getD b undef))).run P c.w = .ok u c.w := by
    intro r s hr
    cases r with
    | tmp t =>
      simp only [resultSV, Option.some.injEq] at hr; subst hr
      exact ⟨_, h.slots t, by simp⟩
    | cell b ty =>
      simp only [resultSV] at hr
      split at hr
      · rename_i b' o hsl
        split at hr
        · rename_i ty' g cs hl
          split at hr
          · rename_i hty
            have hs := h.slots b
            rw [hsl] at hs
            obtain ⟨q, u, hv, hrun, hsr⟩ := load_box h hty hl hr hs
            exact ⟨u, hsr, by simp only [hv]; simp [asAddr, hrun]⟩
          · cases hr
        · cases hr
      · cases hr
  have list : ∀ (l : List ResultVar) (rs : List SV), l.mapM (resultSV P τ) = some rs → ∃ us, SR c rs us ∧ l.length = us.length ∧ ∀ (i : Nat) (x : ResultVar) (u : Value), l[i]? = some x → us[i]? = some u → (match x with | .tmp t => (pure (a.tmps.getD t undef) : Sem Value) | .cell b t => do loadVar t (← asAddr (a.tmps.getD b undef))).run P c.w = .ok u c.w := by
    intro l
    induction l with
    | nil => intro rs hrs; simp at hrs; subst hrs; exact ⟨[], .nil, rfl, by simp⟩
    | cons r l ih =>
      intro rs hrs
      rw [List.mapM_cons] at hrs
      simp only [Option.bind_eq_bind, Option.bind_eq_some_iff, Option.pure_def, Option.some.injEq] at hrs
      obtain ⟨s, hs, rs', hrs', rfl⟩ := hrs
      obtain ⟨u, h1, h2⟩ := one r s hs
      obtain ⟨us, h3, h4, h5⟩ := ih rs' hrs'
      refine ⟨u :: us, h1.cons h3, by simp [h4], fun i x v hx hv => ?_⟩
      cases i with
      | zero => simp at hx hv; subst hx; subst hv; exact h2
      | succ i => exact h5 i x v (by simpa using hx) (by simpa using hv)
  obtain ⟨us, h1, h2, h3⟩ := list _ _ hrs
  refine ⟨us, h1, h1.len, ?_⟩
  have hm := run_mapM_pairs (P := P) (w := c.w) fn.results.toList us h2 h3
  simp only [results, Array.mapM_eq_mapM_toList, map_eq_pure_bind, Sem.run_bind]
  erw [hm]
  simp only [Result.andThen_ok, Sem.run_pure]
  match us with
  | [] => simp
  | [u] => simp
  | u :: v :: us => simp
theorem muEnd_spec (h : Rel c n (slotOf τ) (hpGet τ.hp) a) {w0 : World} {v : Value} {ms : List PM} {vs : List Value} (hpin : ∀ t, c.A.pin t = pinOf ms vs t) {i : Nat} (hi : i ≤ 99) {own0 : List Bool} (hv : vs[i]? = some v) (hm : (ms[i]?).getD .ro = .mu own0) {mk : Nat → E} : ∀ (ts : List TypeId) (j : Nat) {fl : List Bool} {us : List Value} {ys : List AV} {rf hs : List Nat} {es : List E} {l : List Nat},
    CellsR P w0 ts fl us ys rf hs → j + ts.length ≤ 400 → (∀ k u, us[k]? = some u → (∃ e, (0 + j + k, e) ∈ (freshCells P 0 (cellE (.var 0) true) j ts fl).2) → v.cells[j + k]? = some u) → muEnd P τ i mk j ts fl = some (es, l) → ∃ o, MuC P c.w ts fl us (es.map (E.den c.ρ)) o ∧ o = l.flatMap fun t => (c.G t).top
  | [], j, fl, us, ys, rf, hs, es, l, hc, hle, hcell, he => by
    simp [muEnd] at he; obtain ⟨rfl, rfl⟩ := he
    cases hc
    exact ⟨[], .nil, rfl⟩
  | t :: ts, j, fl, us, ys, rf, hs, es, l, hc, hle, hcell, he => by
    unfold muEnd at he
    split at he
    · cases he
    rename_i xs us' hrec
    simp only [List.length_cons] at hle
    have sub : ∀ {u : Value} {us1 : List Value}, us = u :: us1 → ∀ k z, us1[k]? = some z → (∃ e, (0 + (j + 1) + k, e) ∈ (freshCells P 0 (cellE (.var 0) true) (j + 1) ts fl.tail).2) → v.cells[j + 1 + k]? = some z := by
      rintro u us1 rfl k z hz ⟨e, he⟩
      have := hcell (k + 1) z (by simpa using hz) ⟨e, by
        simp only [freshCells]
        split
        · rw [show 0 + j + (k + 1) = 0 + (j + 1) + k from by omega]; exact List.mem_cons_of_mem _ he
        · rw [show 0 + j + (k + 1) = 0 + (j + 1) + k from by omega]; exact he⟩
      rw [show j + 1 + k = j + (k + 1) from by omega]; exact this
    cases hc with
    | @own _ _ _ el u us1 y ys1 top rf1 hs1 h1 h2 h3 h4 =>
      obtain ⟨o, q1, q2⟩ := muEnd_spec h hpin hi hv hm ts (j + 1) h4 (by omega) (sub rfl) hrec
      rw [h1, h2] at he
      simp only at he
      split at he
      · rename_i e' z y' hu
        split at he
        · rename_i hh
          obtain ⟨rfl, rfl⟩ := hh
          simp only [Option.some.injEq, Prod.mk.injEq] at he
          obtain ⟨rfl, rfl⟩ := he
          obtain ⟨p1, p2⟩ := own_row_end h hu
          have hcv : v.cells[j]? = some u := by
            have := hcell 0 u rfl ⟨_, by simp only [freshCells, h1, h2, Nat.zero_add, Nat.add_zero]; exact List.mem_cons_self ..⟩
            simpa using this
          have hpu : c.A.pin (1000 * i + 500 + j) = some u := by
            rw [hpin]
            unfold pinOf
            have e1 : (1000 * i + 500 + j) / 1000 = i := by omega
            have e2 : (1000 * i + 500 + j) % 1000 = 500 + j := by omega
            rw [if_pos (by unfold isPin; simp only [e2, Bool.and_eq_true, decide_eq_true_eq, Bool.or_eq_true]; omega), e1, e2, hv, hm]
            simp only
            rw [if_pos (by omega), show 500 + j - 500 = j from by omega]; exact hcv
          have hH := (h.base.pins _ u hpu).2 p1
          rw [hH] at p2
          refine ⟨_, .own h1 h2 p2 q1, by simp [q2]⟩
        · cases he
      · cases he
    | @rd _ _ _ u us1 y ys1 f rf1 hs1 h1 h3 h4 =>
      obtain ⟨o, q1, q2⟩ := muEnd_spec h hpin hi hv hm ts (j + 1) h4 (by omega) (sub rfl) hrec
      split at he
      · rename_i e hf hel; rw [h1 hf] at hel; cases hel
      · simp only [Option.some.injEq, Prod.mk.injEq] at he
        obtain ⟨rfl, rfl⟩ := he
        exact ⟨o, .skip h1 q1, q2⟩
end
end Go.Proofs.Ytjneaalpiangdaa
end

/- Part WW. A function does what its tree says: THE COMPILER IS SOUND. Program independent. -/
section
namespace Go.Proofs.Ytjneaalpiangdaa
open Go.RowKit
section
variable {P : Program} {c : Cx} {n : Nat} {a : Act} {τ : St}
theorem backEnd_spec (h : Rel c n (slotOf τ) (hpGet τ.hp) a) {w0 : World} {ms0 : List PM} {vs0 : List Value} (hpin : ∀ t, c.A.pin t = pinOf ms0 vs0 t) : ∀ (ts : List TypeId) (i : Nat) {ms : List PM} {vs : List Value} {xs : List AV} {rf hs : List Nat} {bx : List E} {us : List Nat}, backEnd P τ i ts ms = some (bx, us) → ArgsR P w0 ts ms vs xs rf hs →
    (∀ k, ms[k]? = ms0[i + k]?) → (∀ k, vs[k]? = vs0[i + k]?) → ∃ f o, BacksR P c.w ts ms vs (bx.map (E.den c.ρ)) f o ∧ o = us.flatMap (fun t => (c.G t).top) ∧ ∀ b ∈ f, c.see (lentB P τ i ts ms) b
  | [], i, ms, vs, xs, rf, hs, bx, us, he, ha, _, _ => by
    simp [backEnd] at he; obtain ⟨rfl, rfl⟩ := he
    exact ⟨[], [], .nil, rfl, by simp⟩
  | t :: ts, i, ms, vs, xs, rf, hs, bx, us, he, ha, hms, hvs => by
    cases ha with
    | @cons _ _ _ v vs x xs f hh rf hs harg hrest =>
    have hm0 : ms.headD .ro = (ms0[i]?).getD .ro := by
      have := hms 0
      rw [Nat.add_zero] at this
      rw [← this]
      cases ms <;> rfl
    have hv0 : vs0[i]? = some v := by have := hvs 0; simpa using this.symm
    unfold backEnd at he
    split at he
    · cases he
    rename_i bx' us' hrec
    obtain ⟨f2, o2, b1, b2, b3⟩ := backEnd_spec h hpin ts (i + 1) hrec hrest (fun k => by rw [show i + 1 + k = i + (k + 1) from by omega, ← hms (k + 1)]; cases ms <;> simp) (fun k => by rw [show i + 1 + k = i + (k + 1) from by omega, ← hvs (k + 1)]; simp)
    have see2 : ∀ b ∈ f2, c.see (lentB P τ i (t :: ts) ms) b := fun b hb => (b3 b hb).mono fun t ht => by simp only [lentB, List.mem_append]; exact .inr ht
    split at he
    · cases he
    rename_i hi
    split at he
    · rename_i hm
      simp only [Option.some.injEq, Prod.mk.injEq] at he
      obtain ⟨rfl, rfl⟩ := he
      exact ⟨f2, o2, .ro hm b1, b2, see2⟩
    · rename_i own hm
      simp only [Option.some.injEq, Prod.mk.injEq] at he
      obtain ⟨rfl, rfl⟩ := he
      exact ⟨f2, o2, .va hm b1, b2, see2⟩
    · rename_i own hm
      split at he
      · cases he
      rename_i hle
      split at he
      · rename_i es l hmu
        simp only [Option.some.injEq, Prod.mk.injEq] at he
        obtain ⟨rfl, rfl⟩ := he
        rw [hm] at harg
        obtain ⟨us0, ys0, hg, hc⟩ := harg
        obtain ⟨o1, q1, q2⟩ := muEnd_spec h hpin (i := i) (by omega) hv0 (by rw [← hm0]; exact hm) (leaves P t) 0 hc (by omega) (fun k u hu he => by
          rw [Nat.zero_add]
          split at hg
          · obtain ⟨rfl, _, _⟩ := hg
            simpa [Value.cells] using hu
          · obtain ⟨rfl, _⟩ := hg
            cases k with
            | zero =>
              simp at hu; subst hu
              rw [hc.own_one (nx := 0) (mk := cellE (.var 0) true) (j := 0) 0 v rfl he]; rfl
            | succ k => simp at hu) hmu
        refine ⟨[] ++ f2, o1 ++ o2, BacksR.mu (us := us0) (ys := es.map (E.den c.ρ)) hm ?_ q1 b1, by rw [q2, b2, List.flatMap_append], see2⟩
        split at hg
        · rename_i hag
          rw [if_pos hag, if_pos hag]
          exact ⟨hg.1, by simp only [E.den, EL.den_of]⟩
        · rename_i hag
          rw [if_neg hag, if_neg hag]
          obtain ⟨rfl, _⟩ := hg
          refine ⟨rfl, ?_⟩
          have mlen : ∀ {ts : List TypeId} {fl : List Bool} {us : List Value} {ys : List AV} {o : List Nat}, MuC P c.w ts fl us ys o → us.length = ys.length := by
            intro ts fl us ys o hmc
            induction hmc <;> simp_all
          have := mlen q1
          match es, this with
          | [e], _ => rfl
      · cases he
    · rename_i own own' hm
      rw [hm] at harg
      obtain ⟨ty, b, C0, ys0, h9, g1, rfl, g3, g4, rfl, g6, rfl⟩ := harg
      split at he
      · rename_i ty1 ty2 g cs hpt hbox
        rw [g1] at hpt; cases hpt
        split at he
        · cases he
        rename_i hne
        have hne : ty2 = ty := by simpa using hne
        subst hne
        split at he
        · rename_i es vs' hes hvs'
          simp only [Option.some.injEq, Prod.mk.injEq] at he
          obtain ⟨rfl, rfl⟩ := he
          obtain ⟨b', C, p1, p2, p3, p4, p5, p6, p7⟩ := h.ents _ _ (by rw [hbox]; rfl)
          have hpu : c.A.pin (1000 * i) = some (.pointer (some ⟨b, 0, none⟩)) := by
            rw [hpin]
            unfold pinOf
            have e1 : (1000 * i) / 1000 = i := by omega
            have e2 : (1000 * i) % 1000 = 0 := by omega
            rw [if_pos (by unfold isPin; simp only [e2, Bool.and_eq_true, decide_eq_true_eq, Bool.or_eq_true]; simp; omega), e1, e2, hv0, ← hm0, hm]
            rfl
          have hH := (h.base.pins _ _ hpu).2 p1
          rw [p2] at hH
          cases hH
          obtain ⟨f1, q1, q2⟩ := ownedC_spec (P := P) h (leaves P ty2) hvs' p7 hes (Nat.le_refl _)
          refine ⟨f1 ++ f2, _, BacksR.bx hm g1 rfl p5 p6 (by simp only [E.den]) q1 b1, by rw [b2]; simp [p3], fun x hx => ?_⟩
          rcases List.mem_append.1 hx with hx | hx
          · refine (q2 x hx).mono fun t ht => ?_
            simp only [lentB, hm, g1, hbox, List.mem_append]
            exact .inl ht
          · exact see2 x hx
        · cases he
      · cases he
end
theorem entryAll_ne {P : Program} : ∀ (ts : List TypeId) (i : Nat) (ms : List PM) (ss : List SV) (l : List (Nat × Ent)), entryAll P i ts ms = some (ss, l) → ∀ t x, (t, x) ∈ l → ∀ gs f, x ≠ .gd gs f
  | [], i, ms, ss, l, h, t, x, hx => by simp [entryAll] at h; obtain ⟨_, rfl⟩ := h; simp at hx
  | t0 :: ts, i, ms, ss, l, h, t, x, hx => by
    unfold entryAll at h
    split at h
    · rename_i s1 l1 ss1 l2 q1 q2
      simp only [Option.some.injEq, Prod.mk.injEq] at h
      obtain ⟨_, rfl⟩ := h
      rcases List.mem_append.1 hx with hx | hx
      · have hV : ∀ (b : Nat) (own : List Bool), entryV P i b t0 own = some (s1, l1) → ∀ gs f, x ≠ .gd gs f := by
          intro b own hh
          unfold entryV at hh
          simp only at hh
          split at hh
          · cases hh
          · split at hh
            · simp only [Option.some.injEq, Prod.mk.injEq] at hh
              obtain ⟨_, rfl⟩ := hh
              intro gs f; exact freshCells_ne _ _ _ _ _ hx
            · split at hh
              · simp only [Option.some.injEq, Prod.mk.injEq] at hh
                obtain ⟨_, rfl⟩ := hh
                intro gs f; exact freshCells_ne _ _ _ _ _ hx
              · cases hh
        unfold entryS at q1
        split at q1
        · simp only [Option.some.injEq, Prod.mk.injEq] at q1; rw [← q1.2] at hx; simp at hx
        · exact hV _ _ q1
        · exact hV _ _ q1
        · split at q1
          · simp only at q1
            split at q1
            · cases q1
            · simp only [Option.some.injEq, Prod.mk.injEq] at q1
              obtain ⟨_, rfl⟩ := q1
              rcases List.mem_cons.1 hx with hx | hx
              · cases hx; simp
              · intro gs f; exact freshCells_ne _ _ _ _ _ hx
          · cases q1
      · exact entryAll_ne _ _ _ _ _ q2 t x hx
    · cases h
/-- A function does what its tree says. -/
theorem comp_ret {P : Program} {sg : Nat → Option Sig} (hmx : P.follows .mixedOrders = true) (hsg : ∀ f s, sg f = some s → f < 1000000) {f : Nat} {s : Sig} {fn : Func} {t : Tr} {xs : List AV} {r : AV} (hfn : P.funcs[f]? = some fn) (hs : sg f = some s) (hname : (fn.name == "runtime.NumGoroutine") = false)
    (hcomp : comp P sg f = some t) (hflat : resFlat P fn s r = true) (hlen : xs.length = fn.params.size + fn.nfree) (hd : t.den (Rts P sg) (fun r' => r' = r) (fun _ _ _ _ => False) [] xs) : Ret P s f xs r := by
  unfold comp at hcomp
  simp only [hfn, hs] at hcomp
  split at hcomp
  · rename_i code σ hbody hent
    split at hcomp
    · rename_i t0 hex
      refine ⟨fn, hfn, by rw [hbody]; rfl, hname, hflat, hlen, fun w vs rf hs' hargs hdis hnod => ?_⟩
      -- the entry
      unfold entrySt at hent
      split at hent
      · cases hent
      rename_i ss l hall
      simp only at hent
      split at hent
      · cases hent
      rename_i hcond
      simp only [Bool.or_eq_true, decide_eq_true_eq, not_or, Nat.not_lt] at hcond
      simp only [Option.some.injEq] at hent; subst hent
      let pin : Nat → Option Value := pinOf s.modes vs
      let c0 : Cx := { ρ := xs, w := w, G := fun _ => ⟨[], []⟩, K := fun _ _ => False, H := fun _ _ => undef, A := ⟨fun b => b ∈ rf, pin⟩, w0 := w, Mu := fun b => b ∈ hs', U := fun _ => False }
      have hvl : vs.length = xs.length := by
        have : ∀ {ts : List TypeId} {ms : List PM} {vs : List Value} {xs : List AV} {rf hs : List Nat}, ArgsR P w ts ms vs xs rf hs → vs.length = xs.length := by
          intro ts ms vs xs rf hs h
          induction h <;> simp_all
        exact this hargs
      obtain ⟨recs, e1, e2, e3, e4, e5, e6, e7, e8⟩ := entry_spec (c := c0) (ms0 := s.modes) (vs0 := vs) fn.params.toList 0 hall hargs (fun k x hx => by simp only [E.den, Nat.zero_add]; show (xs[k]?).getD .undef = x; rw [hx]; rfl) (fun k => by simp) (fun k => by simp)
      have aft := Cx.chg_aft (c := c0) (w' := w) (recs := recs) (fun t g hk => hk.elim) e4 (fun r _ _ h => h)
      have hU5 : ∀ r ∈ recs, r.tag < 100000 := fun r hr => by
        have := e3 r hr
        simp only [Nat.zero_add, Array.length_toList] at this
        omega
      let c : Cx := { c0.chg w recs with U := fun t => t < 100000 }
      have hc_ok : ∀ b ∈ rf, (c0.chg w recs).ok b := by
        intro b hb
        refine ⟨fun ⟨t, ht⟩ => ?_, .inl hb⟩
        by_cases hT : ∃ r ∈ recs, r.tag = t
        · obtain ⟨r, hr, rfl⟩ := hT
          rw [Cx.chg_G e4 hr] at ht
          exact hdis b (by rw [← e2]; exact List.mem_flatMap.2 ⟨r, hr, ht⟩) hb
        · rw [Cx.chg_G' fun r hr hh => hT ⟨r, hr, hh⟩] at ht
          simp [c0] at ht
      obtain ⟨g1, g2⟩ := e8 _ aft hc_ok
      have kc : Keep (c0.chg w recs) c := ⟨rfl, fun _ _ hb => hb, fun _ _ _ => rfl, fun _ _ hk => ⟨hk, rfl⟩⟩
      have hfr : fn.params.size + fn.nfree = vs.length := by rw [hvl, hlen]
      have hss : (ss ++ (List.range fn.nfree).map fun j => SV.e (.var (fn.params.size + j))).length = vs.length := by
        rw [List.length_append, e6, List.length_map, List.length_range, Array.length_toList]; exact hfr
      have g1' : SR c (ss ++ (List.range fn.nfree).map fun j => SV.e (.var (fn.params.size + j))) vs := by
        have := g1.keep kc
        have hpl : fn.params.toList.length = fn.params.size := Array.length_toList
        rw [show vs.length - fn.params.toList.length = fn.nfree from by omega] at this
        simpa using this
      have hG : ∀ t, (∃ r ∈ recs, r.tag = t ∧ c.G t = ⟨r.top, []⟩) ∨ c.G t = ⟨[], []⟩ := fun t => by
        by_cases hT : ∃ r ∈ recs, r.tag = t
        · obtain ⟨r, hr, rfl⟩ := hT
          exact .inl ⟨r, hr, rfl, Cx.chg_G (w' := w) e4 hr⟩
        · exact .inr (Cx.chg_G' (w' := w) fun r hr hh => hT ⟨r, hr, hh⟩)
      have hhs : ∀ r ∈ recs, ∀ b ∈ r.top, b ∈ hs' := fun r hr b hb => by rw [← e2]; exact List.mem_flatMap.2 ⟨r, hr, hb⟩
      have hinb : ∀ b ∈ hs', b < w.heap.size := by
        have : ∀ {ts : List TypeId} {ms : List PM} {vs : List Value} {xs : List AV} {rf hs : List Nat}, ArgsR P w ts ms vs xs rf hs → ∀ b ∈ hs, b < w.heap.size := by
          intro ts ms vs xs rf hs h
          induction h with
          | nil => simp
          | @cons t ts ms v vs x xs f h rf hs harg _ ih =>
            intro b hb
            rcases List.mem_append.1 hb with hb | hb
            · cases hm : ms.headD .ro with
              | ro => rw [hm] at harg; rw [harg.2] at hb; simp at hb
              | va own => rw [hm] at harg; obtain ⟨_, _, _, hc⟩ := harg; exact hc.inb.2 b hb
              | mu own => rw [hm] at harg; obtain ⟨_, _, _, hc⟩ := harg; exact hc.inb.2 b hb
              | bx own own' =>
                rw [hm] at harg
                obtain ⟨_, b0, _, _, _, _, _, hh, _, _, hc, rfl⟩ := harg
                rcases List.mem_cons.1 hb with rfl | hb
                · exact lt_of_heap hh
                · exact hc.inb.2 b hb
            · exact ih b hb
          | free _ _ ih => exact ih
        exact this hargs
      have hrecs : ∀ t e, hpGet l t = some e → ∃ r ∈ recs, r.tag = t ∧ r.ent = e := fun t e he => by
        have := hpGet_mem he
        rw [e1] at this
        obtain ⟨r, hr, hre⟩ := List.mem_map.1 this
        simp only [Chg.pair, Prod.mk.injEq] at hre
        exact ⟨r, hr, hre.1, hre.2⟩
      let F : Fix := ⟨w, ⟨fun b => b ∈ rf, pin⟩, fun b => b ∈ hs', fun t v h => by
        simp only [pin, pinOf] at h
        split at h
        · assumption
        · cases h⟩
      have hrel : Rel c fn.ntmps (slotOf { sl := ss ++ (List.range fn.nfree).map (fun j => SV.e (.var (fn.params.size + j))) ++ List.replicate (fn.ntmps - (fn.params.size + fn.nfree)) .undef, hp := l, nx := 100000, nv := fn.params.size + fn.nfree }) (hpGet l) { tmps := vs.toArray ++ Array.replicate (fn.ntmps - vs.toArray.size) undef, defers := [] } := by
        refine ⟨rfl, by simp; omega, ⟨rfl, rfl, rfl, Nat.le_refl _, fun t v hp => ⟨?_, fun hk => ?_⟩, fun b _ _ => rfl⟩, fun i => ?_, fun t e hr => ?_, fun t hn => ?_, ⟨fun t => ?_, fun t u htu b hb hb' => ?_, fun t b hb => ?_, fun t b hb => ?_⟩, fun t g hk => ?_, fun t e he => ?_⟩
        · have := F.pinOK t v hp
          unfold isPin at this
          simp only [Bool.and_eq_true, decide_eq_true_eq] at this
          exact this.1
        · rcases hk with hk | ⟨r, hr, rfl, hnew, _⟩
          · exact hk.elim
          · exact (aft.new r hr v (e5 r hr v hp)).2.2
        · have hcat : SR c (ss ++ (List.range fn.nfree).map (fun j => SV.e (.var (fn.params.size + j))) ++ List.replicate (fn.ntmps - (fn.params.size + fn.nfree)) .undef) (vs ++ List.replicate (fn.ntmps - (fn.params.size + fn.nfree)) undef) := by
            refine g1'.app ?_
            have : ∀ k, SR c (List.replicate k SV.undef) (List.replicate k undef) := by
              intro k
              induction k with
              | zero => exact .nil
              | succ k ih => exact .undef ih
            exact this _
          unfold slotOf
          simp only
          cases hq : (ss ++ (List.range fn.nfree).map (fun j => SV.e (.var (fn.params.size + j))) ++ List.replicate (fn.ntmps - (fn.params.size + fn.nfree)) SV.undef)[i]? with
          | none => exact .undef .nil
          | some s' =>
            obtain ⟨v', hv', hsr⟩ := hcat.get hq
            have : (vs.toArray ++ Array.replicate (fn.ntmps - vs.toArray.size) undef).getD i undef = v' := by
              rw [Array.getD_eq_getD_getElem?]
              have e : (vs.toArray ++ Array.replicate (fn.ntmps - vs.toArray.size) undef)[i]? = (vs ++ List.replicate (fn.ntmps - (fn.params.size + fn.nfree)) undef)[i]? := by
                rw [← Array.getElem?_toList]
                simp [hfr]
              rw [e, hv']; rfl
            rw [this]; exact hsr
        · cases hh : hpGet l t with
          | none => rw [hh] at hr; exact hr.elim
          | some e0 =>
            obtain ⟨r, hr', rfl, rfl⟩ := hrecs t e0 hh
            have hent := (g2 r hr').keep kc rfl (fun g hg => hg) (fun b _ => rfl)
            rw [hh] at hr
            cases he : r.ent with
            | gd gs e' =>
              rw [he] at hent hr
              obtain ⟨_, rfl⟩ := hr
              -- no such entry comes to be at an entry
              have hnew := (e3 r hr').2.2
              exfalso
              exact entryAll_ne _ _ _ _ _ hall r.tag r.ent (by rw [e1]; exact List.mem_map.2 ⟨r, hr', rfl⟩) _ _ he
            | _ => rw [he] at hent hr; simp only [Res] at hr; subst hr; exact hent
        · rcases hG t with ⟨r, hr, rfl, hg⟩ | hg
          · exfalso
            have hmem : (r.tag, r.ent) ∈ l := by rw [e1]; exact List.mem_map.2 ⟨r, hr, rfl⟩
            have : ∃ e, hpGet l r.tag = some e := by
              have : ∀ (l : List (Nat × Ent)), (r.tag, r.ent) ∈ l → ∃ e, hpGet l r.tag = some e := by
                intro l
                induction l with
                | nil => intro h; simp at h
                | cons p l ih =>
                  obtain ⟨u, f'⟩ := p
                  intro h
                  simp only [hpGet]
                  split
                  · exact ⟨_, rfl⟩
                  · rename_i hu
                    rcases List.mem_cons.1 h with h | h
                    · cases h; exact absurd rfl hu
                    · exact ih h
              exact this l hmem
            obtain ⟨e, he⟩ := this
            obtain ⟨r', hr', ht', rfl⟩ := hrecs _ _ he
            have hgd : ∀ gs f', r'.ent ≠ .gd gs f' := by
              intro gs f' hg'
              exact entryAll_ne _ _ _ _ _ hall r'.tag r'.ent (by rw [e1]; exact List.mem_map.2 ⟨r', hr', rfl⟩) _ _ hg'
            apply hn r'.ent
            rw [he]
            cases hr'' : r'.ent with
            | gd gs f' => exact absurd hr'' (hgd gs f')
            | _ => simp [Res]
          · rw [hg]; simp
        · rcases hG t with ⟨r, hr, rfl, hg⟩ | hg
          · rw [hg]
            rw [← e2] at hnod
            simpa [GI.own] using (flat_nodup hnod).1 r hr
          · rw [hg]; simp [GI.own]
        · rcases hG t with ⟨r, hr, rfl, hg⟩ | hg
          · rcases hG u with ⟨q, hq, rfl, hg'⟩ | hg'
            · rw [hg] at hb
              rw [hg'] at hb'
              simp only [GI.own, List.append_nil] at hb hb'
              rw [← e2] at hnod
              obtain ⟨i, hi⟩ := List.getElem?_of_mem hr
              obtain ⟨j, hj⟩ := List.getElem?_of_mem hq
              have := (flat_nodup hnod).2 i j r q b hi hj hb hb'
              subst this
              rw [hi] at hj; cases hj; exact htu rfl
            · rw [hg'] at hb'; simp [GI.own] at hb'
          · rw [hg] at hb; simp [GI.own] at hb
        · rcases hG t with ⟨r, hr, rfl, hg⟩ | hg
          · rw [hg] at hb
            simp only [GI.own, List.append_nil] at hb
            exact .inr (hhs r hr b hb)
          · rw [hg] at hb; simp [GI.own] at hb
        · rcases hG t with ⟨r, hr, rfl, hg⟩ | hg
          · rw [hg] at hb
            simp only [GI.own, List.append_nil] at hb
            exact hinb b (hhs r hr b hb)
          · rw [hg] at hb; simp [GI.own] at hb
        · rcases hk with hk | ⟨r, hr, rfl, _⟩
          · exact hk.elim
          · exact hU5 r hr
        · obtain ⟨r, hr, rfl, _⟩ := hrecs t e he
          exact hU5 r hr
      have hRelS : RelS F xs { sl := ss ++ (List.range fn.nfree).map (fun j => SV.e (.var (fn.params.size + j))) ++ List.replicate (fn.ntmps - (fn.params.size + fn.nfree)) .undef, hp := l, nx := 100000, nv := fn.params.size + fn.nfree } { tmps := vs.toArray ++ Array.replicate (fn.ntmps - vs.toArray.size) undef, defers := [] } w := by
        refine ⟨c, rfl, rfl, rfl, rfl, rfl, hlen, fun t ht => ht, ?_⟩
        have hl : (ss ++ (List.range fn.nfree).map (fun j => SV.e (.var (fn.params.size + j))) ++ List.replicate (fn.ntmps - (fn.params.size + fn.nfree)) SV.undef).length = fn.ntmps := by
          rw [List.length_append, hss, List.length_replicate]; omega
        show Rel c (ss ++ (List.range fn.nfree).map (fun j => SV.e (.var (fn.params.size + j))) ++ List.replicate (fn.ntmps - (fn.params.size + fn.nfree)) SV.undef).length _ _ _
        rw [hl]; exact hrel
      -- the body
      refine calls_of_wp hfn hbody ?_
      have hL0 : LMono (fun _ _ _ _ => False) := fun _ _ _ _ _ _ h => h
      have hd0 := Tr.sub_den _ hL0 t0 hcomp hd
      refine exec_sound (region_ok hmx (op_ok hsg) nil_ok) inst_ok' code [] _ _ t0 hex F (fun r' => r' = r) _ [] xs _ w (subL_mono hL0 _ _) hd0 hRelS _ fun i x τ ρ' a' w' hp hl hrel' => ?_
      obtain ⟨tr, d', q1, q2, q3⟩ := hl
      have main : endTr P fn s τ = some tr → a'.defers = [] ∧ ∃ v, (results fn a'.tmps).run P w' = .ok v w' ∧ ∃ v', Ending.returned v = .returned v' ∧ Post P fn s w vs rf hs' r v' w' := by
        intro hend
        obtain ⟨c2, rfl, rfl, k1, k2, k3, k4, k5, k6⟩ := hrel'
        unfold endTr at hend
        split at hend
        · rename_i rs bx us hrs hbk
          split at hend
          · rename_i es vs' hes hov
            split at hend
            · cases hend
            rename_i hchk
            simp only [Bool.or_eq_true, Bool.not_eq_true', not_or, Bool.not_eq_false, Bool.not_eq_true] at hchk
            obtain ⟨hnd, hap⟩ := hchk
            have hnd := nodupN_ok hnd
            simp only [Option.some.injEq] at hend; subst hend
            have hr : _ = r := q3
            obtain ⟨rvs, z1, z2, z3⟩ := results_spec k6 fn hrs
            obtain ⟨f1, y1, y2⟩ := ownedVs_spec (P := P) k6 fn.resultTypes.toList hov z1 hes (Nat.le_refl _)
            obtain ⟨f2, o2, x1, x2, x3⟩ := backEnd_spec (P := P) k6 (w0 := w) (ms0 := s.modes) (vs0 := vs) (fun t => by rw [k2]) fn.params.toList 0 hbk hargs (fun k => by simp) (fun k => by simp)
            refine ⟨k6.defers, _, z3, _, rfl, ⟨?_, ?_⟩⟩
            · -- what comes back
              have hR : ∃ R, R = (match es with | .cons x .nil => x | es => E.tup es).den c2.ρ ∧ ResR P c2.w fn.resultTypes.toList s.res (match rvs with | [u] => u | us => .tuple us.toArray) R f1 (vs'.flatMap fun t => (c2.G t).top) := by
                refine ⟨_, rfl, ?_⟩
                have yl : es.den c2.ρ = es.den c2.ρ := rfl
                generalize hts : fn.resultTypes.toList = ts at y1 ⊢
                generalize hxs : es.den c2.ρ = ys at y1
                generalize (vs'.flatMap fun t => (c2.G t).top) = o1 at y1 ⊢
                cases y1 with
                | nil =>
                  cases es with
                  | nil => exact ⟨[], [], rfl, by simp [E.den, EL.den], .nil⟩
                  | cons e es => simp [EL.den] at hxs
                | @cons t ts fl v vs2 x xs2 f h rf2 hs2 w1 w2 =>
                  cases w2 with
                  | nil =>
                    cases es with
                    | nil => simp [EL.den] at hxs
                    | cons e es =>
                      cases es with
                      | nil =>
                        simp only [EL.den, List.cons.injEq, and_true] at hxs
                        subst hxs
                        simpa [ResR] using w1
                      | cons e2 es => simp [EL.den] at hxs
                  | @cons t2 ts2 fl2 v2 vs3 x2 xs3 f2' h2 rf3 hs3 w3 w4 =>
                    cases es with
                    | nil => simp [EL.den] at hxs
                    | cons e es =>
                      cases es with
                      | nil => simp [EL.den] at hxs
                      | cons e2 es =>
                        refine ⟨v :: v2 :: vs3, x :: x2 :: xs3, rfl, ?_, .cons w1 (.cons w3 w4)⟩
                        simp only [E.den, hxs]
              obtain ⟨R, hR1, hR2⟩ := hR
              have hown : ∀ b ∈ (vs'.flatMap fun t => (c2.G t).top) ++ o2, ∃ t ∈ vs' ++ us, b ∈ (c2.G t).top := fun b hb => by
                rcases List.mem_append.1 hb with hb | hb
                · obtain ⟨t, ht, hbt⟩ := List.mem_flatMap.1 hb; exact ⟨t, by simp [ht], hbt⟩
                · rw [x2] at hb
                  obtain ⟨t, ht, hbt⟩ := List.mem_flatMap.1 hb; exact ⟨t, by simp [ht], hbt⟩
              have hallow : ∀ b t, b ∈ (c2.G t).top → b ∈ hs' ∨ w.heap.size ≤ b := fun b t hb => by
                rcases k6.gw.allow t b (by simp [GI.own, hb]) with h | h
                · simp only [Cx.B, k1] at h; exact .inr h
                · rw [k3] at h; exact .inl h
              refine ⟨R, bx.map (E.den c2.ρ), f1, _, f2, o2, ?_, hR2, x1, ?_, fun b hb => ?_, fun b hb => ?_⟩
              · rw [← hr, hR1]
                cases bx with
                | nil => rfl
                | cons b bx =>
                  simp only [List.isEmpty_cons, Bool.false_eq_true, if_false, E.den, EL.den_of, List.map_cons]
                  rfl
              · rw [x2, ← List.flatMap_append]
                have : ∀ l : List Nat, l.Nodup → (l.flatMap fun t => (c2.G t).top).Nodup := by
                  intro l
                  induction l with
                  | nil => intro _; simp
                  | cons t l ih =>
                    intro hl
                    rw [List.nodup_cons] at hl
                    rw [List.flatMap_cons, List.nodup_append]
                    refine ⟨(List.nodup_append.1 (k6.gw.nodup t)).1, ih hl.2, fun x hx y hy hxy => ?_⟩
                    subst hxy
                    obtain ⟨u, hu, hxu⟩ := List.mem_flatMap.1 hy
                    exact k6.gw.disj t u (fun hh => hl.1 (hh ▸ hu)) x (by simp [GI.own, hx]) (by simp [GI.own, hxu])
                exact this _ hnd
              · obtain ⟨t, ht, hbt⟩ := hown b hb
                exact ⟨hallow b t hbt, k6.gw.inb t b (by simp [GI.own, hbt])⟩
              · have hsee : c2.see (lentVs P τ fn.resultTypes.toList s.res rs ++ lentB P τ 0 fn.params.toList s.modes) b := by
                  rcases List.mem_append.1 hb with hb | hb
                  · exact (y2 b hb).mono fun t ht => by simp [ht]
                  · exact (x3 b hb).mono fun t ht => by simp [ht]
                rcases hsee with hok | ⟨t, ht, hbt⟩
                · refine ⟨fun ho => ?_, ?_⟩
                  · obtain ⟨u, _, hbu⟩ := hown b ho
                    exact hok.1 ⟨u, hbu⟩
                  · rcases hok.2 with h | h | h
                    · rw [k2] at h; exact .inl h
                    · simp only [Cx.B, k1] at h; exact .inr (.inr h)
                    · rw [k3] at h; exact .inr (.inl h)
                · refine ⟨fun ho => ?_, .inr (hallow b t hbt)⟩
                  obtain ⟨u, hu, hbu⟩ := hown b ho
                  have htu : t ≠ u := by
                    rintro rfl
                    rw [List.any_eq_false] at hap
                    have := hap t ht
                    simp only [List.contains_eq_mem, decide_eq_true_eq] at this
                    exact this hu
                  exact k6.gw.disj t u htu b (by simp [GI.own, hbt]) (by simp [GI.own, hbu])
            · have hb := k6.base
              refine ⟨?_, ?_, ?_, ?_, fun k hk hn => ?_⟩
              · rw [hb.os, k1]
              · rw [hb.tape, k1]
              · rw [hb.output, k1]
              · have := hb.size; rw [k1] at this; exact this
              · have := hb.block k (by rw [k1]; exact hk) (by rw [k3]; exact hn)
                rw [k1] at this; exact this
          · cases hend
        · cases hend
      cases x with
      | normal => exact main q1
      | ret => exact main q1
      | exit id => cases q1
    · cases hcomp
  · cases hcomp
end Go.Proofs.Ytjneaalpiangdaa
end

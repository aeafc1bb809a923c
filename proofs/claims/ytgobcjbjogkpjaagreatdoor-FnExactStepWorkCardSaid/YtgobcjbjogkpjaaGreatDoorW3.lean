/- Parts of a proof, joined: WA, VJa, VK, VL, VM, VN, VO, VP, VQ, VR, VS, VT, VU, VV, VW. -/
import Derived.Test.YtgobcjbjogkpjaaGreatDoorW2
import Derived.WalkSpells
import Derived.Laws.BytesArg
set_option linter.unusedVariables false
set_option linter.unusedSimpArgs false
section
namespace Go.Proofs.YtgobcjbjogkpjaaGreatDoor
open Go.RowKit
theorem zfj: ∀{l:List (Nat × Ent)} {t:Nat} {e:Ent},zas l t=some e→(t,e)∈l
 | [],_,_,h=>by simp [zas]at h
 |(u,f)::l,t,e,h=>by
  simp only [zas]at h
  split at h
  ·rename_i hu;subst hu;simp at h;subst h;simp
  ·exact List.mem_cons_of_mem _ (zfj h)
theorem zhb {α:Type}: ∀{l:List (Nat × α)} {t:Nat} {e:α},l.lookup t=some e→(t,e)∈l
 | [],_,_,h=>by simp at h
 |(u,f)::l,t,e,h=>by
  simp only [List.lookup_cons]at h
  split at h
  ·rename_i hu;simp at h hu;subst h;subst hu;simp
  ·exact List.mem_cons_of_mem _ (zhb h)
theorem znr: ∀{θ:List (Nat × Option Nat)},zqE θ=true→ ∀{t u v:Nat},(t,some v)∈θ→(u,some v)∈θ→t=u
 | [],_,t,u,v,h,_=>by simp at h
 |(p,q)::θ,hn,t,u,v,h1,h2=>by
  have hn':zqE θ=true:=by
   cases q<;>(simp only [zqE,yqba]at hn;exact hn.2)
  have key: ∀x,(p,some v)=(p,q)→(x,some v)∈θ→False:=by
   intro x hq hx
   cases hq
   simp only [zqE,yqba,yqal]at hn
   have:=hn.1 _ hx
   simp at this
  rcases yqmc.1 h1 with h3|h3<;>rcases yqmc.1 h2 with h4|h4
  ·cases h3;cases h4;rfl
  ·cases h3;exact(key u rfl h4).elim
  ·cases h4;exact(key t rfl h3).elim
  ·exact znr hn' h3 h4
def zc3 (hp:List (Nat × Ent)) (t:Nat):Option Nat:=match zas hp t with
 |some (.box ..)=>some 0
 |some (.row _ _ g _ _)=>some g
 |some (.bw g _)=>some g
 |some (.deep _ _ _ g _ _)=>some g
 |_=>none
def zkn (hp:List (Nat × Ent)) (t:Nat):Bool:=match zas hp t with
 |some (.box ..)=>true
 |some (.row ..)=>true
 |some (.deep ..)=>true
 |_=>false
def zFt (pat leaf:Option Ent) (g:GI):GI:=match pat,leaf with
 |some (.row ..),some (.deep ..)=>⟨g.top.take 1, []⟩
 |_,_=>g
theorem zE3 {p l:Option Ent} {g:GI} {b:Nat} (h:b∈(zFt p l g).top):b∈g.top:=by
 unfold zFt at h
 split at h
 ·exact List.mem_of_mem_take h
 ·exact h
theorem zD6 {p l:Option Ent} {g:GI} {b:Nat} (h:b∈(zFt p l g).own):b∈g.own:=by
 unfold zFt at h
 split at h
 ·simp only [GI.own,List.append_nil]at h
  simp [GI.own,List.mem_of_mem_take h]
 ·exact h
theorem zA6 {p l:Option Ent} {g:GI} (h:g.own.Nodup):(zFt p l g).own.Nodup:=by
 unfold zFt
 split
 ·simp only [GI.own,List.append_nil]at h ⊢
  exact List.Sublist.nodup (List.Sublist.trans (List.take_sublist _ _) (List.sublist_append_left _ _)) h
 ·exact h
def zdp (c:Cx) (ρ:List AV) (θ:List (Nat × Option Nat)) (pat leaf:St):Cx:=
 {c with
  ρ:=ρ
  G:=fun t=>if zkn pat.hp t then(match θ.lookup t with|some (some t')=>zFt (zas pat.hp t) (zas leaf.hp t') (c.G t')|_=>⟨[], []⟩)else⟨[], []⟩
  K:=fun t g=>zc3 pat.hp t=some g
  H:=fun t _=>match θ.lookup t with|some (some t')=>c.H t' ((zc3 leaf.hp t').getD 0)|_=> .slice none 0 0
  U:=fun t=>t<pat.nx
  E:=fun t=>match zas pat.hp t with|some (.deep _ _ _ _ ep _)=>ep|_=>0}
section
variable {c:Cx} {ρ:List AV} {nv n:Nat} {es:List E} {θ:List (Nat × Option Nat)} {pat leaf:St} {sl:Nat→SV} {a:Act}
theorem zqN {t b:Nat} (h:b∈((zdp c ρ θ pat leaf).G t).own):zkn pat.hp t=true∧ ∃t',θ.lookup t=some (some t')∧(b∈((zdp c ρ θ pat leaf).G t).top→b∈(c.G t').top)∧b∈(c.G t').own:=by
 simp only [zdp]at h ⊢
 split at h
 ·rename_i ho
  split at h
  ·rename_i t' ht
   exact⟨ho,t',ht,fun hb=>by rw [if_pos ho]at hb;exact zE3 hb,zD6 h⟩
  ·simp [GI.own]at h
 ·simp [GI.own]at h
theorem zpV {b:Nat} (h:c.ok b):(zdp c ρ θ pat leaf).ok b:=by
 refine⟨fun⟨t,ht⟩=> ?_,h.2⟩
 obtain⟨_,t',_,hg,_⟩:=zqN (b:=b) (by simp only [GI.own,yqma];exact .inl ht)
 exact h.1 ⟨t',hg ht⟩
theorem zlP (hp:ρ<+:c.ρ) (hn:ρ.length=nv) {x y:E} (h:okE nv es x y=true):x.den (ρ++(EL.of es).den c.ρ)=y.den c.ρ:=by
 obtain⟨τ,hτ⟩:=hp
 have hgen:x.sc nv=true→x.beq y=true→x.den (ρ++(EL.of es).den c.ρ)=y.den c.ρ:=by
  intro h1 h2
  rw [←E.ar c.ρ x y h2]
  subst hn
  generalize hq:(EL.of es).den c.ρ=q
  rw [E.a6 ρ q τ x h1,hτ]
 unfold okE at h
 split at h
 ·rename_i i
  split at h
  ·rename_i hi
   exact hgen (by simpa [E.sc]using hi) h
  ·rename_i hi
   split at h
   ·rename_i z hz
    rw [←E.ar c.ρ z y h]
    simp only [E.den,EL.dj]
    rw [List.getElem?_append_right (by omega),hn,List.getElem?_map,hz];rfl
   ·cases h
 ·simp only [yqba]at h
  exact hgen h.1 h.2
theorem zEt (hrel:Rel c n sl (zas leaf.hp) a) {s:SV} {v:Value} {y:E} (hs:SR c [s] [v]) (h:zrf leaf s=some y): ∃f,Rd c.w [v] [y.den c.ρ] f∧ ∀b∈f,c.en (zcH (zas leaf.hp) [] (zad+1) [s]) b:=
 zhU (fun t e hr=>hrel.ents t e hr) (zcA _) zad h hs zad (Nat.le_refl _)
mutual
theorem zFD (hrel:Rel c n sl (zas leaf.hp) a) (hp:ρ<+:c.ρ) (hn:ρ.length=nv) (hents: ∀t e,(t,e)∈pat.hp→zpF nv es θ pat leaf t e=true): ∀(m:Nat) {p s:SV} {v:Value},okS nv es θ pat leaf m p s=true→SR c [s] [v]→SR (zdp c (ρ++(EL.of es).den c.ρ) θ pat leaf) [p] [v]
 |0,p,s,v,h,_=>by simp [okS]at h
 |m+1,p,s,v,h,hs=>by
  unfold okS at h
  split at h
  ·exact .undef .nil
  ·rename_i x
   split at h
   ·rename_i y hy
    simp only [yqba,yqal,Bool.or_eq_true]at h
    obtain⟨f,hf,hsee⟩:=zEt hrel hs hy
    have hx:=zlP (c:=c) hp hn h.1
    refine .e (by rw [show(zdp c (ρ++(EL.of es).den c.ρ) θ pat leaf).ρ=ρ++(EL.of es).den c.ρ from rfl,hx];exact hf) (fun b hb=> ?_) .nil
    rcases hsee b hb with hb|⟨t',ht',hb⟩
    ·exact zpV hb
    ·refine⟨fun⟨u,hu⟩=> ?_, .inr (hrel.gw.allow t' b (by simp [GI.own,hb]))⟩
     obtain⟨ho,v',hl,hg,hbv⟩:=zqN (b:=b) (by simp only [GI.own,yqma];exact .inl hu)
     have hv:v'=t':=by
      refine Classical.byContradiction fun hne=>hrel.gw.cr v' t' hne b hbv (by simp [GI.own,hb])
     subst hv
     have:=h.2 _ ht' _ (zhb hl)
     simp only [bne_self_eq_false,yqft,false_or]at this
     unfold zkn at ho
     split at this
     ·rename_i hh;rw [hh]at ho;simp at ho
     ·rename_i hh;rw [hh]at ho;simp at ho
     ·cases this
   ·cases h
  ·split at h
   ·cases hs with
    |cd _=>exact .cd .nil
   ·cases h
  ·split at h
   ·cases hs with
    |emp _=>exact .emp .nil
   ·cases hs with
    |cd _=>exact .emp .nil
   ·cases h
  ·rename_i t g
   have key: ∀t' v',zc3 pat.hp t=some g→θ.lookup t=some (some t')→ziB leaf.hp t' v'=true→SR c [.own t' v'] [v]→SR (zdp c (ρ++(EL.of es).den c.ρ) θ pat leaf) [.own t g] [v]:=by
    intro t' v' hg hl hv hs
    cases hs with
    |own h1 h2 _=>
     refine .own hg ?_ .nil
     show(match θ.lookup t with|some (some t')=>c.H t' ((zc3 leaf.hp t').getD 0)|_=>Value.slice none 0 0)=_
     rw [hl]
     have:(zc3 leaf.hp t').getD 0=v':=by
      unfold ziB at hv
      unfold zc3
      split at hv
      ·rename_i hh;rw [hh];simpa using(beq_iff_eq.1 hv).symm
      ·rename_i hh;rw [hh];simpa using(beq_iff_eq.1 hv).symm
      ·rename_i hh;rw [hh];simpa using(beq_iff_eq.1 hv).symm
      ·cases hv
     show c.H t' ((zc3 leaf.hp t').getD 0)=_
     rw [this];exact h2
   split at h
   ·rename_i g' _ _ hpt
    simp only [yqba,beq_iff_eq]at h
    obtain⟨rfl,h⟩:=h
    split at h
    ·simp only [yqba,beq_iff_eq]at h
     exact key _ _ (by simp [zc3,hpt]) h.1 h.2 hs
    ·rw [beq_iff_eq]at h
     cases hs with
     |cd _=>
      refine .own (p:=none) (q:=0) (r:=0) (by show zc3 pat.hp t=some g;simp [zc3,hpt]) ?_ .nil
      show(match θ.lookup t with|some (some t')=>c.H t' ((zc3 leaf.hp t').getD 0)|_=>Value.slice none 0 0)=_
      rw [h]
    ·cases h
   ·rename_i g' _ hpt
    simp only [yqba,beq_iff_eq]at h
    obtain⟨rfl,h⟩:=h
    split at h
    ·simp only [yqba,beq_iff_eq]at h
     exact key _ _ (by simp [zc3,hpt]) h.1 h.2 hs
    ·cases h
   ·rename_i g' _ _ hpt
    simp only [yqba,beq_iff_eq]at h
    obtain⟨rfl,h⟩:=h
    split at h
    ·simp only [yqba,beq_iff_eq]at h
     exact key _ _ (by simp [zc3,hpt]) h.1 h.2 hs
    ·rw [beq_iff_eq]at h
     cases hs with
     |cd _=>
      refine .own (p:=none) (q:=0) (r:=0) (by show zc3 pat.hp t=some g;simp [zc3,hpt]) ?_ .nil
      show(match θ.lookup t with|some (some t')=>c.H t' ((zc3 leaf.hp t').getD 0)|_=>Value.slice none 0 0)=_
      rw [h]
    ·cases h
   ·cases h
  ·rename_i t o
   split at h
   ·rename_i ty g cs hpt
    split at h
    ·rename_i t' o'
     simp only [yqba,beq_iff_eq]at h
     obtain⟨rfl,hl⟩:=h
     have hbox:=hents t _ (zfj hpt)
     simp only [zpF,hl]at hbox
     split at hbox
     ·rename_i hlf
      cases hs with
      |cj h1 h2 _=>
       refine .cj (by show zc3 pat.hp t=some 0;simp [zc3,hpt]) ?_ .nil
       show(match θ.lookup t with|some (some t')=>c.H t' ((zc3 leaf.hp t').getD 0)|_=>Value.slice none 0 0)=_
       rw [hl]
       have:(zc3 leaf.hp t').getD 0=0:=by simp [zc3,hlf]
       simp only [this];exact h2
     ·cases hbox
    ·cases h
   ·cases h
  ·cases h
  ·rename_i x i z o
   split at h
   ·rename_i y j z' o'
    simp only [yqba,beq_iff_eq]at h
    obtain⟨⟨⟨⟨⟨rfl,rfl⟩,h1⟩,h2⟩,h3⟩,h4⟩:=h
    have hx:x.den (ρ++(EL.of es).den c.ρ)=y.den c.ρ:=by
     obtain⟨τ,hτ⟩:=hp
     rw [←E.ar c.ρ x y h2];subst hn
     generalize (EL.of es).den c.ρ=q
     rw [E.a6 ρ q τ x h1,hτ]
    have hi:i.den (ρ++(EL.of es).den c.ρ)=j.den c.ρ:=by
     obtain⟨τ,hτ⟩:=hp
     rw [←E.ar c.ρ i j h4];subst hn
     generalize (EL.of es).den c.ρ=q
     rw [E.a6 ρ q τ i h3,hτ]
    cases hs with
    |dk g1 g2 g3 g4 g5 g6 _=>
     refine .dk (f:=_) (by show Rd c.w _ [x.den (ρ++(EL.of es).den c.ρ)] _;rw [hx];exact g1) (fun b hb=>zpV (g2 b hb)) (by show i.den (ρ++(EL.of es).den c.ρ)=_;rw [hi];exact g3) g4 g5 (by show((x.den (ρ++(EL.of es).den c.ρ)).nth _).cells.length=_;rw [hx];exact g6) .nil
   ·cases h
  ·rename_i x o
   split at h
   ·rename_i y o'
    simp only [yqba,beq_iff_eq]at h
    obtain⟨⟨rfl,h1⟩,h2⟩:=h
    have hx:x.den (ρ++(EL.of es).den c.ρ)=y.den c.ρ:=by
     obtain⟨τ,hτ⟩:=hp
     rw [←E.ar c.ρ x y h2];subst hn
     generalize (EL.of es).den c.ρ=q
     rw [E.a6 ρ q τ x h1,hτ]
    cases hs with
    |di g1 g2 _=>exact .di (by show Rd c.w _ [x.den (ρ++(EL.of es).den c.ρ)] _;rw [hx];exact g1) (fun b hb=>zpV (g2 b hb)) .nil
   ·cases h
  ·split at h
   ·cases hs with
    |agg h9 h1 _=>exact .agg h9 (ztz hrel hp hn hents m h h1) .nil
   ·cases h
  ·split at h
   ·cases hs with
    |tup h1 _=>exact .tup (ztz hrel hp hn hents m h h1) .nil
   ·cases h
  ·split at h
   ·simp only [yqba,beq_iff_eq]at h
    obtain⟨rfl,h⟩:=h
    cases hs with
    |fn h1 _=>exact .fn (ztz hrel hp hn hents m h h1) .nil
   ·cases h
  ·cases h
  ·cases h
  ·cases h
  ·cases h
  ·rename_i i
   split at h
   ·rename_i j
    simp only [yqba,beq_iff_eq,decide_eq_true_eq]at h
    obtain⟨rfl,hi⟩:=h
    cases hs with
    |lent g1 _=>
     have hx:(E.var i).den (ρ++(EL.of es).den c.ρ)=(E.var i).den c.ρ:=by
      obtain⟨τ,hτ⟩:=hp
      subst hn
      generalize (EL.of es).den c.ρ=q
      rw [E.a6 ρ q τ (.var i) (by simpa [E.sc]using hi),hτ]
     exact .lent (show c.A.lo v ((E.var i).den (ρ++(EL.of es).den c.ρ)) by rw [hx];exact g1) .nil
   ·cases h
theorem ztz (hrel:Rel c n sl (zas leaf.hp) a) (hp:ρ<+:c.ρ) (hn:ρ.length=nv) (hents: ∀t e,(t,e)∈pat.hp→zpF nv es θ pat leaf t e=true): ∀(m:Nat) {ps ss:List SV} {vs:List Value},zyF nv es θ pat leaf m ps ss=true→SR c ss vs→SR (zdp c (ρ++(EL.of es).den c.ρ) θ pat leaf) ps vs
 |0,ps,ss,vs,h,_=>by simp [zyF]at h
 |m+1, [], [],vs,h,hs=>by cases hs;exact .nil
 |m+1,p::ps, [],vs,h,hs=>by simp [zyF]at h
 |m+1, [],s::ss,vs,h,hs=>by simp [zyF]at h
 |m+1,p::ps,s::ss, [],h,hs=>by have:=hs.len;simp at this
 |m+1,p::ps,s::ss,v::vs,h,hs=>by
  simp only [zyF,yqba]at h
  obtain⟨h1,h2⟩:=hs.cf
  exact(zFD hrel hp hn hents m h.1 h1).cons (ztz hrel hp hn hents m h.2 h2)
end
theorem zAB (hrel:Rel c n sl (zas leaf.hp) a) (hp:ρ<+:c.ρ) (hn:ρ.length=nv) (hents: ∀t e,(t,e)∈pat.hp→zpF nv es θ pat leaf t e=true) (hθ:zqE θ=true) {t:Nat} {e:Ent} (ht:zas pat.hp t=some e):znH (zdp c (ρ++(EL.of es).den c.ρ) θ pat leaf) t e:=by
 have h:=hents t e (zfj ht)
 have hG0:zkn pat.hp t=false→(zdp c (ρ++(EL.of es).den c.ρ) θ pat leaf).G t=⟨[], []⟩:=by
  intro h0;simp only [zdp];rw [if_neg (by rw [h0];simp)]
 have hG2: ∀t',zkn pat.hp t=true→θ.lookup t=some (some t')→(zdp c (ρ++(EL.of es).den c.ρ) θ pat leaf).G t=zFt (zas pat.hp t) (zas leaf.hp t') (c.G t'):=by
  intro t' h0 hl;simp only [zdp];rw [if_pos h0,hl]
 have hG1: ∀t',zkn pat.hp t=true→θ.lookup t=some (some t')→(∀q1 q2 q3 q4 q5 q6,zas leaf.hp t'=some (.deep q1 q2 q3 q4 q5 q6)→ ∀p1 p2 p3 p4 p5,e≠ .row p1 p2 p3 p4 p5)→(zdp c (ρ++(EL.of es).den c.ρ) θ pat leaf).G t=c.G t':=by
  intro t' h0 hl hno
  rw [hG2 t' h0 hl,ht]
  unfold zFt
  split
  ·rename_i h1 h2
   simp only [yqsi]at h1
   exact absurd h1 (hno _ _ _ _ _ _ h2 _ _ _ _ _)
  ·rfl
 have hH1: ∀t' g,θ.lookup t=some (some t')→zc3 leaf.hp t'=some g→ ∀g',(zdp c (ρ++(EL.of es).den c.ρ) θ pat leaf).H t g'=c.H t' g:=by
  intro t' g hl hg g';simp only [zdp,hl,hg,Option.getD_some]
 have hgenle: ∀g,zc3 pat.hp t=some g→ ∀g',(zdp c (ρ++(EL.of es).den c.ρ) θ pat leaf).K t g'→g'≤g:=by
  intro g hg g' hk
  have hk':zc3 pat.hp t=some g':=hk
  rw [hg]at hk';cases hk';exact Nat.le_refl _
 cases e with
 |box ty g cs=>
  simp only [zpF]at h
  split at h
  ·rename_i t' hl
   split at h
   ·rename_i ty' g' ds hlf
    simp only [yqba,beq_iff_eq]at h
    obtain⟨⟨rfl,rfl⟩,h⟩:=h
    obtain⟨b,C,h1,h2,h3,h4,h5,h6,h7⟩:=hrel.ents t' _ (by rw [hlf];rfl)
    have hg:=hG1 t' (by simp [zkn,ht]) hl (by intros;simp)
    exact⟨b,C,by show zc3 pat.hp t=some 0;simp [zc3,ht],by rw [hH1 t' 0 hl (by simp [zc3,hlf])];exact h2,by rw [hg];exact h3,by rw [hg];exact h4,h5,h6,ztz hrel hp hn hents _ h h7⟩
   ·cases h
  ·cases h
 |row et z g x d=>
  simp only [zpF]at h
  split at h
  ·rename_i t' hl
   split at h
   ·rename_i et' z' g' y d' hlf
    simp only [yqba,beq_iff_eq,Bool.or_eq_true,Bool.not_eq_true']at h
    obtain⟨⟨⟨rfl,rfl⟩,hx⟩,hd⟩:=h
    obtain⟨h1,h2,N,h3,h4,h5,h6⟩:=hrel.ents t' _ (by rw [hlf];rfl)
    have hg:=hG1 t' (by simp [zkn,ht]) hl (fun _ _ _ _ _ _ hh=>by rw [hlf]at hh;cases hh)
    have hx':=zlP hp hn hx
    have hK:zc3 pat.hp t=some g:=by simp [zc3,ht]
    refine⟨hK,hgenle g hK,N, ?_,fun b hb=>zpV (h4 b hb),fun hdt=> ?_,fun hdf=> ?_⟩
    ·rw [hH1 t' g' hl (by simp [zc3,hlf]),hg]
     show zc2 c.w et z _ (x.den (ρ++(EL.of es).den c.ρ)) _ N
     rw [hx'];exact h3
    ·rw [hg];exact h5 (by rcases hd with hd|hd;rw [hdt]at hd;cases hd;exact hd)
    ·rw [hg]
     cases d' with
     |false=>exact h6 rfl
     |true=>obtain⟨u1,u2⟩:=h5 rfl;rw [u2];exact u1
   ·rename_i et' z' l' g' ep' y hlf
    simp only [yqba,beq_iff_eq,Bool.not_eq_true']at h
    obtain⟨⟨⟨rfl,rfl⟩,hx⟩,rfl⟩:=h
    obtain⟨h1,h2,_,h3,h4⟩:=hrel.ents t' _ (by rw [hlf];rfl)
    have hg:(zdp c (ρ++(EL.of es).den c.ρ) θ pat leaf).G t=⟨(c.G t').top.take 1, []⟩:=by
     rw [hG2 t' (by simp [zkn,ht]) hl,ht,hlf];rfl
    have hx':=zlP hp hn hx
    have hK:zc3 pat.hp t=some g:=by simp [zc3,ht]
    obtain⟨f,k1,k2⟩:=h3.ownRow
    have hnd:((c.G t').top.take 1++(c.G t').top.drop 1).Nodup:=by
     rw [List.take_append_drop]
     have:=hrel.gw.nodup t'
     simp only [GI.own,h4,List.append_nil]at this
     exact this
    refine⟨hK,hgenle g hK,f, ?_,fun b hb=> ?_,fun hdt=>(by cases hdt),fun _=>by rw [hg]⟩
    ·rw [hH1 t' g' hl (by simp [zc3,hlf]),hg]
     show zc2 c.w et z _ (x.den (ρ++(EL.of es).den c.ρ)) _ f
     rw [hx'];exact k1
    ·have hbt:b∈(c.G t').top:=List.mem_of_mem_drop (k2 b hb)
     refine⟨fun⟨u,hu⟩=> ?_, .inr (hrel.gw.allow t' b (by simp [GI.own,hbt]))⟩
     obtain⟨_,v',hl',_,hbv⟩:=zqN (b:=b) (by simp only [GI.own,yqma];exact .inl hu)
     have hv:v'=t':=Classical.byContradiction fun hne=>hrel.gw.cr v' t' hne b hbv (by simp [GI.own,hbt])
     subst hv
     have:=znr hθ (zhb hl') (zhb hl)
     subst this
     rw [hg]at hu
     exact(List.nodup_append.1 hnd).2.2 b hu b (k2 b hb) rfl
   ·cases h
  ·rename_i hl
   simp only [yqba,decide_eq_true_eq]at h
   have hx':=zlP hp hn h.1
   have hK:zc3 pat.hp t=some g:=by simp [zc3,ht]
   have hg:(zdp c (ρ++(EL.of es).den c.ρ) θ pat leaf).G t=⟨[], []⟩:=by simp [zdp,hl]
   refine⟨hK,hgenle g hK, [],⟨[], ?_,by simp,h.2, .inl ⟨rfl,⟨none, ?_⟩,by rw [hg],rfl⟩⟩,by simp,fun _=>⟨rfl,by rw [hg]⟩,fun _=>by rw [hg]⟩
   ·show x.den (ρ++(EL.of es).den c.ρ)=_
    rw [hx'];rfl
   ·simp [zdp,hl]
  ·cases h
 |bw g x=>
  have hg:=hG0 (by simp [zkn,ht])
  have hK:zc3 pat.hp t=some g:=by simp [zc3,ht]
  simp only [zpF]at h
  split at h
  ·rename_i t' hl
   have hsee: ∀b,b∈(c.G t').top→(zdp c (ρ++(EL.of es).den c.ρ) θ pat leaf).ok b:=by
    intro b hb
    refine⟨fun⟨u,hu⟩=> ?_, .inr (hrel.gw.allow t' b (by simp [GI.own,hb]))⟩
    obtain⟨ho,v',hl',hg',hbv⟩:=zqN (b:=b) (by simp only [GI.own,yqma];exact .inl hu)
    have hv:v'=t':=Classical.byContradiction fun hne=>hrel.gw.cr v' t' hne b hbv (by simp [GI.own,hb])
    subst hv
    have:=znr hθ (zhb hl') (zhb hl)
    subst this
    simp [zkn,ht]at ho
   split at h
   ·rename_i et' z' g' y d' hlf
    obtain⟨h1,h2,N,h3,h4,h5,h6⟩:=hrel.ents t' _ (by rw [hlf];rfl)
    obtain⟨f,r1,r2,_⟩:=h3.rd
    refine⟨hK,⟨f, ?_,fun b hb=>(r2 b hb).elim (hsee b) fun hb=>zpV (h4 b hb)⟩,by rw [hg],by rw [hg]⟩
    rw [hH1 t' g' hl (by simp [zc3,hlf])]
    show Rd c.w _ [x.den (ρ++(EL.of es).den c.ρ)] f
    rw [zlP hp hn h];exact r1
   ·rename_i g' y hlf
    obtain⟨h1,⟨f,r1,r2⟩,_,_⟩:=hrel.ents t' _ (by rw [hlf];rfl)
    refine⟨hK,⟨f, ?_,fun b hb=>zpV (r2 b hb)⟩,by rw [hg],by rw [hg]⟩
    rw [hH1 t' g' hl (by simp [zc3,hlf])]
    show Rd c.w _ [x.den (ρ++(EL.of es).den c.ρ)] f
    rw [zlP hp hn h];exact r1
   ·rename_i et' z' l' g' ep' y hlf
    obtain⟨h1,h2,_,h3,h4⟩:=hrel.ents t' _ (by rw [hlf];rfl)
    obtain⟨f,r1,r2⟩:=h3.rd
    refine⟨hK,⟨f, ?_,fun b hb=>hsee b (r2 b hb)⟩,by rw [hg],by rw [hg]⟩
    rw [hH1 t' g' hl (by simp [zc3,hlf])]
    show Rd c.w _ [x.den (ρ++(EL.of es).den c.ρ)] f
    rw [zlP hp hn h];exact r1
   ·cases h
  ·cases h
 |hol=>simp [zpF]at h
 |deep et z dl g ep x=>
  have hE:(zdp c (ρ++(EL.of es).den c.ρ) θ pat leaf).E t=ep:=by simp [zdp,ht]
  have hK:zc3 pat.hp t=some g:=by simp [zc3,ht]
  simp only [zpF]at h
  split at h
  ·rename_i t' hl
   split at h
   ·rename_i et' z' dl' g' ep' y hlf
    simp only [yqba,beq_iff_eq]at h
    obtain⟨⟨⟨rfl,rfl⟩,hdl⟩,hx⟩:=h
    have hdl:=DTL.im hdl
    subst hdl
    obtain⟨h1,h2,_,h3,h4⟩:=hrel.ents t' _ (by rw [hlf];rfl)
    have hg:=hG1 t' (by simp [zkn,ht]) hl (by intros;simp)
    refine⟨hK,hgenle g hK,hE, ?_,by rw [hg];exact h4⟩
    rw [hH1 t' g' hl (by simp [zc3,hlf]),hg]
    show DC c.w _ _ [x.den (ρ++(EL.of es).den c.ρ)] _
    rw [zlP hp hn hx];exact h3
   ·cases h
  ·rename_i hl
   have hg:(zdp c (ρ++(EL.of es).den c.ρ) θ pat leaf).G t=⟨[], []⟩:=by simp [zdp,hl]
   simp only [yqba,decide_eq_true_eq,beq_iff_eq]at h
   refine⟨hK,hgenle g hK,hE, ?_,by rw [hg]⟩
   have e1:(zdp c (ρ++(EL.of es).den c.ρ) θ pat leaf).H t g= .slice none 0 0:=by simp [zdp,hl]
   rw [e1,hg]
   show DC c.w _ _ [x.den (ρ++(EL.of es).den c.ρ)] _
   rw [zlP hp hn h.1.1]
   exact .void h.1.2 (by rw [DTL.a7];exact h.2) .nil
  ·cases h
 |gd gs e=>simp [zpF]at h
 |dead=>
  have hg:=hG0 (by simp [zkn,ht])
  exact⟨by rw [hg],by rw [hg]⟩
end
theorem zzm {nv:Nat} {es:List E} {θ:List (Nat × Option Nat)} {pat leaf:St}: ∀(m:Nat) {ps ss:List SV},zyF nv es θ pat leaf m ps ss=true→ ∀{i:Nat} {p:SV},ps[i]?=some p→ ∃s k,ss[i]?=some s∧okS nv es θ pat leaf k p s=true
 |0,ps,ss,h,_,_,_=>by simp [zyF]at h
 |m+1, [],ss,h,i,p,hp=>by simp at hp
 |m+1,q::ps, [],h,i,p,hp=>by simp [zyF]at h
 |m+1,q::ps,s::ss,h,i,p,hp=>by
  simp only [zyF,yqba]at h
  cases i with
  |zero=>simp at hp;subst hp;exact⟨s,m,rfl,h.1⟩
  |succ i=>simpa using zzm m h.2 (by simpa using hp)
theorem zEl:zzj:=by
 intro F nv pat τ es ρ ρ' a w hi hn hp hr
 obtain⟨c,rfl,rfl,hw0,hA,hMu,hnv,hU,hrel⟩:=hr
 unfold zDU at hi
 simp only at hi
 split at hi
 ·rename_i hok
  simp only [yqsi]at hi
  generalize hes0:(List.range (pat.nv-nv)).map (fun j=>((zsu nv pat τ true pat.hp (zsu nv pat τ false pat.hp (zFN nv pat τ 2000 ⟨[], []⟩ pat.sl τ.sl))).as_.lookup (nv+j)).getD (.int .i64 0))=es0 at hok hi
  subst hi
  generalize (zsu nv pat τ true pat.hp (zsu nv pat τ false pat.hp (zFN nv pat τ 2000 ⟨[], []⟩ pat.sl τ.sl))).θ=θ at hok
  clear hes0
  simp only [zJi,yqba,beq_iff_eq,yqal,decide_eq_true_eq]at hok
  obtain⟨⟨⟨⟨⟨⟨h1,hθ⟩,hlen⟩,hsl⟩,hall⟩,hnx⟩,hpins⟩:=hok
  have hents: ∀t e,(t,e)∈pat.hp→zpF nv es0 θ pat τ t e=true:=fun t e he=>(hall _ he).1
  have hlt: ∀t e,(t,e)∈pat.hp→t<pat.nx:=fun t e he=>(hall _ he).2
  have hnogd: ∀t e,zas pat.hp t=some e→ ∀gs e',e≠ .gd gs e':=by
   rintro t e he gs e' rfl
   have:=hents t _ (zfj he)
   simp [zpF]at this
  have hres: ∀t e e',zas pat.hp t=some e→(Res (ρ++(EL.of es0).den c.ρ) (zas pat.hp t) e'↔e'=e):=by
   intro t e e' he
   rw [he]
   cases e with
   |gd gs e9=>exact absurd rfl (hnogd t _ he gs e9)
   |_=>simp [Res,eq_comm]
  refine⟨zdp c (ρ++(EL.of es0).den c.ρ) θ pat τ,rfl,rfl,hw0,hA,hMu, ?_,fun t ht=>ht,hrel.defers,by rw [hlen];exact hrel.size,⟨hrel.base.os,hrel.base.tape,hrel.base.output,hrel.base.size,fun t v hpv=> ?_,hrel.base.block,hrel.base.pk,hrel.base.lo⟩,fun i=> ?_,fun t e hr=> ?_,fun t hno=> ?_,⟨fun t=> ?_,fun t u htu b hb hb'=> ?_,fun t b hb=> ?_,fun t b hb=> ?_⟩,fun t g hk=> ?_,fun t e he=>hlt t e (zfj he)⟩
  ·rw [h1,EL.dj];simp [hn]
  ·have hisp:zxJ t=true:=F.mz t v (by rw [←hA];exact hpv)
   refine⟨by
    show t<pat.nx
    unfold zxJ at hisp
    simp only [yqba,decide_eq_true_eq]at hisp
    omega,fun hk=> ?_⟩
   have hk':zc3 pat.hp t=some 0:=hk
   obtain⟨e,hpe⟩: ∃e,zas pat.hp t=some e:=by
    unfold zc3 at hk'
    cases hh:zas pat.hp t with
    |none=>rw [hh]at hk';cases hk'
    |some e=>exact⟨e,rfl⟩
   have hpk:=hpins _ (zfj hpe)
   simp only [hisp,Bool.not_true,Bool.false_or]at hpk
   have main:θ.lookup t=some (some t)→zc3 τ.hp t=some 0→c.K t 0→(zdp c (ρ++(EL.of es0).den c.ρ) θ pat τ).H t 0=v:=by
    intro hl hg hK
    simp only [zdp,hl,hg,Option.getD_some]
    exact(hrel.base.pins t v hpv).2 hK
   unfold okPin at hpk
   simp only [zc3,hpe]at hk'
   rw [hpe]at hpk
   cases e with
   |box ty g cs=>
    simp only [yqba,beq_iff_eq]at hpk
    obtain⟨hl,hb⟩:=hpk
    split at hb
    ·rename_i ty' g' cs' hlf
     obtain⟨b,C,q1,_⟩:=hrel.ents t _ (by rw [hlf];rfl)
     exact main hl (by simp [zc3,hlf]) q1
    ·cases hb
   |row ety sz g x d=>
    simp only [yqsi]at hk'
    subst hk'
    simp only [bne_self_eq_false,Bool.false_or,yqba,beq_iff_eq]at hpk
    obtain⟨hl,hb⟩:=hpk
    split at hb
    ·rename_i ety' sz' g' x' d' hlf
     rw [beq_iff_eq]at hb
     subst hb
     obtain⟨q1,_⟩:=hrel.ents t _ (by rw [hlf];rfl)
     exact main hl (by simp [zc3,hlf]) q1
    ·cases hb
   |bw g x=>
    simp only [yqsi]at hk'
    subst hk'
    simp at hpk
   |gd=>simp at hk'
   |dead=>simp at hk'
   |hol=>simp at hk'
   |deep ety sz l g ep x=>
    simp only [yqsi]at hk'
    subst hk'
    simp only [bne_self_eq_false,Bool.false_or,yqba,beq_iff_eq]at hpk
    obtain⟨hl,hb⟩:=hpk
    split at hb
    ·rename_i hlf
     rw [beq_iff_eq]at hb
     subst hb
     obtain⟨q1,_⟩:=hrel.ents t _ (by rw [hlf];rfl)
     exact main hl (by simp [zc3,hlf]) q1
    ·cases hb
  ·unfold zaR
   cases hpi:pat.sl[i]? with
   |none=>exact .undef .nil
   |some p=>
    obtain⟨s,k,hs,hk⟩:=zzm _ hsl hpi
    have:=hrel.c7 i
    unfold zaR at this
    rw [hs]at this
    exact zFD hrel hp hn hents k hk this
  ·cases he:zas pat.hp t with
   |none=>rw [he]at hr;exact hr.elim
   |some e9=>
    have hee:=(hres t e9 e he).1 hr
    subst hee
    exact zAB hrel hp hn hents hθ he
  ·have:zkn pat.hp t=false:=by
    cases he:zas pat.hp t with
    |none=>simp [zkn,he]
    |some e9=>exact absurd ((hres t e9 e9 he).2 rfl) (hno e9)
   simp [zdp,this]
  ·simp only [zdp]
   split
   ·split
    ·exact zA6 (hrel.gw.nodup _)
    ·simp [GI.own]
   ·simp [GI.own]
  ·obtain⟨_,t',hl,_,hbt⟩:=zqN hb
   obtain⟨_,u',hl',_,hbu⟩:=zqN hb'
   by_cases hh:t'=u'
   ·subst hh;exact htu (znr hθ (zhb hl) (zhb hl'))
   ·exact hrel.gw.cr t' u' hh b hbt hbu
  ·obtain⟨_,t',hl,_,hbt⟩:=zqN hb
   exact hrel.gw.allow t' b hbt
  ·obtain⟨_,t',hl,_,hbt⟩:=zqN hb
   exact hrel.gw.inb t' b hbt
  ·have hk':zc3 pat.hp t=some g:=hk
   unfold zc3 at hk'
   show t<pat.nx
   split at hk'
   ·rename_i hh;exact hlt t _ (zfj hh)
   ·rename_i hh;exact hlt t _ (zfj hh)
   ·rename_i hh;exact hlt t _ (zfj hh)
   ·rename_i hh;exact hlt t _ (zfj hh)
   ·cases hk'
 ·cases hi
theorem zlq (l:List DT): ∀(n k o m:Nat),k<n→o+m≤l.length→((znL n l).drop (k*l.length+o)).take m=(l.drop o).take m
 |0,k,_,_,h,_=>by omega
 |n+1,0,o,m,_,hm=>by
  rw [zkr,Nat.zero_mul,Nat.zero_add,List.drop_append_of_le_length (by omega),List.take_append_of_le_length (by simp;omega)]
 |n+1,k+1,o,m,h,hm=>by
  have ih:=zlq l n k o m (by omega) hm
  rw [←ih,zkr,show(k+1)*l.length+o=l.length+(k*l.length+o)from by rw [Nat.add_mul];omega,List.drop_append,List.drop_eq_nil_of_le (by omega)]
  simp
theorem DC.elem {w:World} {ys:List AV} {l:List DT} {cells:List Value} {N:List Nat} {z:Nat} (h:DC w (znL ys.length l) cells (zaB ys) N) (hl:l.length=z) (h7: ∀y∈ys,y.cells.length=z) {k o m:Nat} (hk:k<ys.length) (hm:o+m≤z):
  ∃M,(∀b∈M,b∈N)∧DC w ((l.drop o).take m) ((cells.drop (k*z+o)).take m) ((((AV.sl ys).nth k).cells.drop o).take m) M:=by
 obtain⟨N1,N2,N3,rfl,_,h2,_⟩:=h.split (k*z+o) m
 subst hl
 rw [zlq l _ _ _ _ hk hm,zmZ ys h7 k _ (zqY hk) o m hm]at h2
 exact⟨N2,fun b hb=>by simp [hb],h2⟩
theorem Rd.l0 {w:World} {vs:List Value} {x:AV} {f:List Nat} {o m:Nat} {g:Bool} (h:Rd w vs ((x.cells.drop o).take m) f) (h9: ∀u∈vs,u.oneCell'=true) (hm:o+m≤x.cells.length) (h1:g=false→m=1):
  Rd w [if g then .agg vs.toArray else vs.headD undef] [x.fld o m g] f:=by
 cases g with
 |true=>have:=Rd.agg h9 h .nil;simpa [AV.fld]using this
 |false=>
  have:=h1 rfl
  subst this
  have e2:(x.cells.drop o).take 1= [x.cells[o]'(by omega)]:=by rw [List.drop_eq_getElem_cons (by omega),List.take_succ_cons,List.take_zero]
  rw [e2]at h
  have hl:=h.len
  match vs,hl with
  | [v],_=>simpa [AV.fld,show o<x.cells.length by omega]using h
section
variable {P:Program} {c:Cx} {n nx:Nat} {sl sl0:Nat→SV} {hp hp0:Nat→Option Ent} {a:Act} {o:Oper} {gs:Gd} {e:Eff} {sg:SgT} {nv:Nat}
theorem zwi {w:World} {b p:Nat} {t:TypeId} {C:Array Value} {ty:TypeId} {fz:Nat × Nat} (hb:w.heap[b]?=some (.cells C ty fz)) (ht:zog P t=true) (hg:zaX P t=true∨P.cellsOf t=1) (hp:p+P.cellsOf t≤C.size):
  (Instr.loadAt t (.pointer (some ⟨b,p,none⟩))).run P w= .ok (if zaX P t then .agg ((C.toList.drop p).take (P.cellsOf t)).toArray else((C.toList.drop p).take (P.cellsOf t)).headD undef) w:=by
 have hlc:((C.toList.drop p).take (P.cellsOf t)).length=P.cellsOf t:=by
  rw [List.length_take,List.length_drop,Array.length_toList];omega
 refine zio ht _ (fun _=>hlc) (fun h=> ?_) (fun j u hu=> ?_)
 ·rw [hlc];rcases hg with h'|h';rw [h]at h';cases h';exact h'
 ·rw [zay hb]
  rw [List.getElem?_take]at hu
  split at hu
  ·simpa using hu
  ·cases hu
theorem zBV {b g e z ep:Nat} {l:List DT} {c0 i:E} {t:TypeId} {k':Nat} {v:Value} (hE:znH c b (.deep e z l g ep c0)) (hr:SR c [.cw b g i z k'] [v]) (hty:zog P t=true) (hle:k'+P.cellsOf t≤z) (hag:zaX P t=true∨P.cellsOf t=1):
  ∃u,(Instr.loadAt t v).run P c.w= .ok u c.w∧(((l.drop k').take (P.cellsOf t)).all DT.bz=true→Rd c.w [u] [(E.fld (.idx c0 i) k' (P.cellsOf t) (zaX P t)).den c.ρ] [])∧zHy c b u ((E.fld (.idx c0 i) k' (P.cellsOf t) (zaX P t)).den c.ρ)∧(zaX P t=false→zp8 c b g (some (i,z,k')) u):=by
 obtain⟨q1,q2,q3,q4,q5⟩:=hE
 cases hr with
 |cw h1 h2 h3 h4 h5 _=>
  rename_i q len cap kk k h6
  obtain⟨d1,d2,⟨a9,d3,_⟩|⟨g9,cap9,C,ys,N1,d3,d4,d5,d6,d7,d8,d9,d10,d11,d12⟩⟩:=q4.inv
  ·rw [h2]at d3;cases d3;omega
  ·rw [h2]at d3;cases d3
   rw [DTL.a7]at d2 d12
   have hk:k.toNat<ys.length:=by omega
   have hmul:(k.toNat+1)*z≤ys.length*z:=Nat.mul_le_mul_right _ (by omega)
   have hmul2:ys.length*z≤cap*z:=Nat.mul_le_mul_right _ d7
   rw [Nat.add_mul]at hmul
   have hrun:=zwi (P:=P) (t:=t) (p:=k.toNat*z+k') d6 hty hag (by omega)
   obtain⟨M,m1,m2⟩:=d12.elem d2 d10 hk hle
   have hcel:((C.toList.take (ys.length*z)).drop (k.toNat*z+k')).take (P.cellsOf t)=(C.toList.drop (k.toNat*z+k')).take (P.cellsOf t):=by
    rw [List.drop_take,List.take_take,Nat.min_eq_left (by omega)]
   rw [hcel]at m2
   have hone: ∀u∈(C.toList.drop (k.toNat*z+k')).take (P.cellsOf t),u.oneCell'=true:=fun u hu=>d11 u (by
    rw [←hcel]at hu
    exact List.mem_of_mem_drop (List.mem_of_mem_take hu))
   have hylen:((AV.sl ys).nth k.toNat).cells.length=z:=d10 _ (List.mem_of_getElem? (zqY hk))
   have hden:(E.fld (.idx c0 i) k' (P.cellsOf t) (zaX P t)).den c.ρ=((AV.sl ys).nth k.toNat).fld k' (P.cellsOf t) (zaX P t):=by
    simp only [E.den,d4,h3,AV.idx]
   have h1':zaX P t=false→P.cellsOf t=1:=fun h=>by rcases hag with h'|h';rw [h]at h';cases h';exact h'
   refine⟨_,hrun,fun hf=> ?_, ?_,fun hf=> ?_⟩
   ·rw [hden]
    exact(m2.j5 hf).l0 hone (by omega) h1'
   ·obtain⟨f,r1,r2⟩:=m2.rd
    rw [hden]
    exact⟨f,r1.l0 hone (by omega) h1',fun b hb=> .inr (by rw [d5];simp [m1 b (r2 b hb)])⟩
   ·refine⟨_,_,_,C,_,_,kk,k,h2,by rw [d5];simp,d6,h3,h4,h5, ?_⟩
    have hc1:=h1' hf
    have hlt:k.toNat*z+k'<C.size:=by omega
    have e1:(C.toList.drop (k.toNat*z+k')).take 1= [C[k.toNat*z+k']]:=by
     rw [List.drop_eq_getElem_cons (by simpa using hlt),List.take_succ_cons,List.take_zero];simp
    rw [hf,hc1,e1]
    simp [hlt]
end
section
variable {P:Program} {c:Cx} {n nx:Nat} {sl sl0:Nat→SV} {hp hp0:Nat→Option Ent} {a:Act} {o:Oper} {gs:Gd} {e:Eff} {sg:SgT} {nv:Nat}
theorem SVL.cx: ∀l:SVL,SVL.of l.toList=l
 | .nil=>rfl
 | .cons s l=>by simp [SVL.toList,SVL.of,SVL.cx l]
theorem zC2 (h:Pre P c n nx sl hp a sl0 hp0 o gs) {t:TypeId} {x:Operand} (ho:o.op= .load t x) (he:zcg P sg sl0 hp0 nv nx gs o=some e) (hc: ∀q∈e.bu,Cn.den c.ρ q):zbP P o c n nx sl hp gs a e:=by
 have hm:x∈o.op.operands:=by simp [ho,Op.operands]
 simp only [zcg,ho,yqbe,yqme]at he
 obtain⟨s,hs,e1,he,rfl⟩:=he
 have hr:=(h.cz hs hm).asPtr (fun q hq=>hc q (by simp [hq]))
 have hc': ∀q∈e1.bu,Cn.den c.ρ q:=fun q hq=>hc q (by simp [hq])
 have ex:(execOp a.eval o).run P c.w=((Instr.loadAt t (a.eval x)).run P c.w).andThen fun v w=> .ok (.value v) w:=by simp [execOp,ho]
 unfold zDI at he
 split at he
 ·cases he
 rename_i hty
 have hty:zog P t=true:=by simpa using hty
 generalize hs':(asPtr s).1=s1 at he hr
 split at he
 ·rename_i b o'
  split at he
  ·rename_i ty g cs hl
   obtain⟨s2,hs2,rfl⟩:=yqme.1 he
   generalize ha:a.eval x=v at hr ex
   cases hr with
   |cj h1 h2 _=>
    rename_i q
    obtain⟨q',C,_,e2,e3,e4,e5,e5',e6⟩:=h.eh b _ (za2 hl h.gs)
    rw [h2]at e2;cases e2
    unfold zy8 at hs2
    have hlen:=e6.len
    split at hs2
    ·rename_i hag
     split at hs2
     ·rename_i hle
      simp at hs2;subst hs2
      obtain⟨r1,r2⟩:=e6.split o'
      obtain⟨r3,r4⟩:=r2.split (P.cellsOf t)
      have:=SR.agg (cs:=SVL.of ((cs.drop o').take (P.cellsOf t))) (fun u hu=>e5' u (List.mem_of_mem_drop (List.mem_of_mem_take hu))) (by rw [SVL.a7];exact r3) .nil
      refine zbP.pure h (v:= .agg ((C.toList.drop o').take (P.cellsOf t)).toArray) ?_ this rfl
      rw [ex,zio hty ((C.toList.drop o').take (P.cellsOf t)) (fun _=>by simp at hlen ⊢;omega) (fun h=>by rw [hag]at h;cases h) (fun j u hu=>by
       rw [zay e5]
       rw [List.getElem?_take]at hu
       split at hu
       ·simpa using hu
       ·cases hu)]
      simp [hag]
     ·cases hs2
    ·rename_i hag
     have hag:zaX P t=false:=by simpa using hag
     obtain⟨u,hu,r⟩:=e6.get hs2
     refine zbP.pure h (v:=u) ?_ r rfl
     rw [ex,zio hty [u] (fun h=>by rw [hag]at h;cases h) (fun _=>rfl) (fun j z hz=>by
      cases j with
      |zero=>simp at hz;subst hz;rw [zay e5];simpa using hu
      |succ j=>simp at hz)]
     simp [hag]
  ·cases he
 ·rename_i b g i sz o'
  split at he
  ·rename_i e0 sz' g' c0 d hl
   split at he
   ·rename_i hh
    obtain⟨rfl,rfl,hle,hag⟩:=hh
    simp at he;subst he
    generalize ha:a.eval x=v at hr ex
    cases hr with
    |cw h1 h2 h3 h4 h5 _=>
     rename_i q len cap kk k h6
     obtain⟨_,_,N,r1,r2,_,_⟩:=h.eh b _ (za2 hl h.gs)
     obtain⟨f,r3,_,r4⟩:=r1.rd
     obtain⟨xs,hxs,hcl,h0,hcase⟩:=r1
     rw [h2]at r3 hcase
     have hk:k.toNat<len:=by omega
     have hxl:xs.length=len:=by
      rcases hcase with⟨_,⟨_,hv⟩,_⟩|⟨_,_,_,hv,_⟩
      ·cases hv;omega
      ·simp at hv;exact hv.2.1.symm
     have hsz:((c0.den c.ρ).nth k.toNat).cells.length=sz:=by
      rw [hxs];exact hcl _ (List.mem_of_getElem? (zqY (xs:=xs) (by omega)))
     obtain⟨v',q',g1,g2,g3⟩:=zsZ r3 hk hsz hty hle hag
     refine zbP.pure h (v:=v') ?_ (.e (f:=q') ?_ ?_ .nil) rfl
     ·rw [ex];rw [Nat.zero_add]at g1;simp [g1]
     ·simpa [E.den,AV.idx,h3]using g3
     ·exact fun z hz=>r2 z (r4 z (g2 z hz))
   ·cases he
  ·rename_i e0 sz' l g' ep c0 hl
   split at he
   ·rename_i hh
    obtain⟨rfl,rfl,hle,hag⟩:=hh
    generalize ha:a.eval x=v at hr ex
    have hE:=h.eh b _ (za2 hl h.gs)
    obtain⟨u,k1,k2,k3,k4⟩:=zBV (P:=P) (t:=t) hE hr hty hle hag
    have hrun:(execOp a.eval o).run P c.w= .ok (.value u) c.w:=by rw [ex,k1];rfl
    split at he
    ·rename_i hf
     simp only [yqsi]at he;subst he
     exact zbP.pure h hrun (.e (k2 hf) (by simp) .nil) rfl
    ·simp only [yqsi]at he;subst he
     cases hr with
     |cw h1 _ _ _ _ _=>
      refine zbP.pure h hrun (.via h1 (Nat.le_of_eq hE.2.2.1.symm) (fun _=>⟨k3, ?_⟩) .nil) rfl
      split
      ·exact trivial
      ·rename_i hag';exact k4 (by simpa using hag')
   ·cases he
  ·cases he
 ·rename_i b g m pth y i sz o'
  split at he
  ·rename_i hh
   obtain⟨hle,hag,hv⟩:=hh
   have hE:=zpC h.eh h.gs hv
   generalize ha:a.eval x=v at hr ex
   cases hr with
   |vptr h1 h2 h3 _=>
    obtain⟨q,off,len,cap,kk,k,⟨f,p1,p2⟩,_,p4,p5,p6,p7,rfl⟩:=h3 hE
    obtain⟨v',q',g1,g2,g3⟩:=zsZ (fo:=o') p1 (by omega) p7 hty hle hag
    have hrun:(execOp a.eval o).run P c.w= .ok (.value v') c.w:=by rw [ex];simp [g1]
    have hden:Rd c.w [v'] [(E.fld (.idx y i) o' (P.cellsOf t) (zaX P t)).den c.ρ] q':=by simpa [E.den,AV.idx,p4]using g3
    split at he
    ·simp only [yqsi]at he;subst he
     obtain⟨f1,f2,f3,f4⟩:=hc1 hc'
     have hq:q'= []:=by
      cases hg:zaX P t with
      |true=>
       obtain⟨cs,hcs⟩:=f3 hg
       obtain⟨as_,rfl,_,r⟩:=zmU hden hcs
       exact zhs r (by rw [hcs]at f2;exact f2)
      |false=>exact zhs hden (by simpa using f4 hg)
     subst hq
     exact zbP.pure h hrun (.e hden (by simp) .nil) rfl
    ·simp only [yqsi]at he;subst he
     exact zbP.pure h hrun (.via h1 h2 (fun _=>⟨⟨q',hden,fun z hz=>p2 z (List.mem_of_mem_tail (g2 z hz))⟩,trivial⟩) .nil) rfl
  ·cases he
 ·rename_i y i sz o'
  split at he
  ·rename_i hh
   obtain⟨hle,hag⟩:=hh
   simp at he;subst he
   generalize ha:a.eval x=v at hr ex
   cases hr with
   |dk h1 h2 h3 h4 h5 h6 _=>
    rename_i q off len cap f kk k
    obtain⟨v',q',g1,g2,g3⟩:=zsZ (fo:=o') h1 (by omega) h6 hty hle hag
    refine zbP.pure h (v:=v') ?_ (.e (f:=q') (by simpa [E.den,AV.idx,h3]using g3) (fun z hz=>h2 z (List.mem_of_mem_tail (g2 z hz))) .nil) rfl
    rw [ex];simp [g1]
  ·cases he
 ·rename_i y o'
  split at he
  ·rename_i hag
   simp at he;subst he
   generalize ha:a.eval x=v at hr ex
   cases hr with
   |di h1 h2 _=>
    rename_i q f
    obtain⟨z,hz,hle⟩:=hc1 hc'
    rw [hz]at h1
    cases h1 with
    |ref hb hb' hr1 hr2=>
     rename_i C ty fz f1 f2
     obtain⟨q',g1,g2⟩:=hr1.jj hb' o' (P.cellsOf t) (zaX P t) hle (fun h=>by rcases hag with h'|h';rw [h]at h';cases h';exact h')
     have hlc:((C.toList.drop o').take (P.cellsOf t)).length=P.cellsOf t:=by
      have:=hr1.len
      rw [List.length_take,List.length_drop];omega
     refine zbP.pure h ?_ (.e (f:=q') (by simpa [E.den,hz,AV.deref]using g2) (fun z hz=>h2 z (by simp [g1 z hz])) .nil) rfl
     rw [ex,zio hty ((C.toList.drop o').take (P.cellsOf t)) (fun _=>hlc) (fun h=>by rw [hlc];rcases hag with h'|h';rw [h]at h';cases h';exact h') (fun j u hu=>by
       rw [zay hb]
       rw [List.getElem?_take]at hu
       split at hu
       ·simpa using hu
       ·cases hu)]
     simp
  ·cases he
 ·cases he
end
theorem zow (k:IntKind) (n:Int):InK k n↔k.min≤n∧n≤k.max:=by
 unfold InK
 cases k<;>simp only [IntKind.wrap,IntKind.bits,IntKind.signed,IntKind.min,IntKind.max]<;>simp<;>(try split)<;>omega
theorem zvf (k:IntKind) (n:Int):InK k (k.wrap n):=by
 rw [zow]
 cases k<;>simp only [IntKind.wrap,IntKind.bits,IntKind.signed,IntKind.min,IntKind.max]<;>simp<;>(try split)<;>omega
theorem zEE {k:IntKind} {x y:Int} (h:InK k x):InK k (x.tmod y):=by
 rw [zow]at h ⊢
 have h1:(x.tmod y).natAbs≤x.natAbs:=by rw [Int.natAbs_tmod];exact Nat.mod_le _ _
 have h2:0≤x→0≤x.tmod y:=Int.tmod_nonneg y
 have hmin:k.min≤0:=by cases k<;>decide
 have hmax:0≤k.max:=by cases k<;>decide
 constructor
 ·by_cases h0:0≤x
  ·have:=h2 h0;omega
  ·omega
 ·by_cases h0:0≤x
  ·omega
  ·have h3:x.tmod y≤0:=by
    have:=Int.tmod_nonneg (a:= -x) y (by omega)
    rw [Int.neg_tmod]at this;omega
   omega
theorem zD4 {k:IntKind} {x:Int} (m:Nat) (h:InK k x):InK k (x.fdiv (2^m)):=by
 rw [zow]at h ⊢
 have hp:(0:Int)<2^m:=Int.pow_pos (by decide)
 rw [Int.fdiv_eq_ediv_of_nonneg _ (Int.le_of_lt hp)]
 have hmin:k.min≤0:=by cases k<;>decide
 have hmax:0≤k.max:=by cases k<;>decide
 have h1:(1:Int)≤2^m:=hp
 constructor
 ·rcases Int.le_total 0 x with h0|h0
  ·have:=Int.ediv_nonneg h0 (Int.le_of_lt hp);omega
  ·have:x≤x/2^m:=by
    rw [Int.le_ediv_iff_mul_le hp]
    have:=Int.mul_le_mul_of_nonpos_left h0 h1
    omega
   omega
 ·rcases Int.le_total 0 x with h0|h0
  ·have:=Int.ediv_le_self (2^m) h0;omega
  ·have h2:x/2^m≤0:=by
    have:=Int.ediv_le_ediv hp h0
    simpa using this
   omega
section
variable {P:Program} {c:Cx} {n nx:Nat} {sl sl0:Nat→SV} {hp hp0:Nat→Option Ent} {a:Act} {o:Oper} {gs:Gd} {e:Eff} {sg:SgT} {nv:Nat}
def AV.val:AV→Value
 | .int k n=> .int k n
 | .bool b=> .bool b
 | .str s=> .string ⟨s.toArray⟩
 |_=>Go.undef
theorem zAk {op:BinOp} {k k':IntKind} {x y:Int} (hk:k=k'∨op= .shl∨op= .shr) (hz:op= .quo∨op= .rem→y≠0) (hs:op= .shl∨op= .shr→0≤y) (t:TypeId) (p q:Operand) (w:World):
  (do eqGuard op t p q (.int k x) (.int k' y);binOp op t (.int k x) (.int k' y):Sem Value).run P w= .ok (za7 op k x y).val w:=by
 have hg:=eqGuard_at_int op t p q (.int k' y) k x
 cases op<;>simp only [reduceCtorEq,or_false,or_true,or_self]at hk hz hs<;>simp only [hg]
 all_goals first
  |(subst hk;simp [binOp,Op.intArith,Op.intCmp,Op.intBits,za7,AV.val];done)
  |(subst hk;have:=hz trivial;simp [binOp,Op.intDiv,za7,AV.val,this];done)
  |(have:=hs trivial;simp [binOp,Op.shift,za7,AV.val,Int.not_lt.2 this];done)
theorem zDn {op:BinOp} {k:IntKind} {x y:Int} (hx:InK k x) (w:World):Rd w [(za7 op k x y).val] [za7 op k x y] []:=by
 cases op<;>simp only [za7,AV.val]<;>first
  |exact .int (zvf _ _) .nil
  |exact .bool .nil
  |exact .int (zEE hx) .nil
  |exact .int (zD4 _ hx) .nil
theorem Rd.il {w:World} {v:Value} {x:AV} {f:List Nat} (h:Rd w [v] [x] f):x≠ .undef:=by
 rintro rfl;cases h
theorem zsR {ρ:List AV}: ∀(x:E) {k:IntKind},zeu x=some k→x.den ρ≠ .undef→ ∃m,x.den ρ= .int k m
 | .int k n,_,h,_=>by simp [zeu]at h;subst h;exact⟨n,rfl⟩
 | .len y,_,h,hd=>by
  simp [zeu]at h;subst h
  simp only [E.den,AV.len]at hd ⊢
  split at hd
  ·exact⟨_,rfl⟩
  ·exact absurd rfl hd
 | .slen y,_,h,hd=>by
  simp [zeu]at h;subst h
  simp only [E.den,AV.slen]at hd ⊢
  split at hd
  ·exact⟨_,rfl⟩
  ·exact absurd rfl hd
 | .conv k y,_,h,hd=>by
  simp [zeu]at h;subst h
  simp only [E.den,AV.conv]at hd ⊢
  split at hd
  ·exact⟨_,rfl⟩
  ·exact absurd rfl hd
 | .bin op x y,k,h,hd=>by
  simp only [E.den]at hd ⊢
  have hx:x.den ρ≠ .undef:=by rintro hh;rw [hh]at hd;exact hd (by simp [AV.bin])
  cases op<;>simp only [zeu,reduceCtorEq]at h
  all_goals
   obtain⟨m,hm⟩:=zsR x h hx
   rw [hm]at hd ⊢
   cases hy:y.den ρ<;>rw [hy]at hd<;>simp only [AV.bin]at hd ⊢ <;>first
    |exact absurd rfl hd
    |(split at hd
      ·rename_i hk;rw [if_pos hk];exact⟨_,rfl⟩
      ·exact absurd rfl hd)
 | .var _,_,h,_=>by simp [zeu]at h
 | .bool _,_,h,_=>by simp [zeu]at h
 | .str _,_,h,_=>by simp [zeu]at h
 | .du,_,h,_=>by simp [zeu]at h
 | .lst _,_,h,_=>by simp [zeu]at h
 | .mk _,_,h,_=>by simp [zeu]at h
 | .tup _,_,h,_=>by simp [zeu]at h
 | .ref _,_,h,_=>by simp [zeu]at h
 | .fn ..,_,h,_=>by simp [zeu]at h
 | .fld ..,_,h,_=>by simp [zeu]at h
 | .proj ..,_,h,_=>by simp [zeu]at h
 | .deref _,_,h,_=>by simp [zeu]at h
 | .idx ..,_,h,_=>by simp [zeu]at h
 | .sidx ..,_,h,_=>by simp [zeu]at h
 | .win ..,_,h,_=>by simp [zeu]at h
 | .swin ..,_,h,_=>by simp [zeu]at h
 | .app ..,_,h,_=>by simp [zeu]at h
 | .set ..,_,h,_=>by simp [zeu]at h
 | .put ..,_,h,_=>by simp [zeu]at h
 | .rep ..,_,h,_=>by simp [zeu]at h
 | .sbin ..,_,h,_=>by simp [zeu]at h
 | .bbin ..,_,h,_=>by simp [zeu]at h
 | .not _,_,h,_=>by simp [zeu]at h
 | .neg _,_,h,_=>by simp [zeu]at h
 | .ite ..,_,h,_=>by simp [zeu]at h
 | .bytes _,_,h,_=>by simp [zeu]at h
 | .text _,_,h,_=>by simp [zeu]at h
end
section
variable {P:Program} {c:Cx} {n nx:Nat} {sl sl0:Nat→SV} {hp hp0:Nat→Option Ent} {a:Act} {o:Oper} {gs:Gd} {e:Eff} {sg:SgT} {nv:Nat}
theorem zes {s:SV} {v:Value} {x:E} (h:SR c [s] [v]) (hx:zc6 s=some x): ∃f,Rd c.w [v] [x.den c.ρ] f∧ ∀b∈f,c.ok b:=by
 cases s<;>simp only [zc6,yqsi,reduceCtorEq]at hx
 subst hx
 cases h with
 |e h1 h2 _=>exact⟨_,h1,h2⟩
theorem SR.c6 {v:Value} {x:E} (h:Rd c.w [v] [x.den c.ρ] []):SR c [.e x] [v]:= .e h (by simp) .nil
theorem zAR {ρ:List AV} {op:BinOp} {x y:E} {w:World} {v u:Value} {f g:List Nat} (h1:Rd w [v] [x.den ρ] f) (h2:Rd w [u] [y.den ρ] g) (hd:znz (.bin op x y)=true→(E.bin op x y).den ρ≠ .undef):
  ∃k k' p q,x.den ρ= .int k p∧y.den ρ= .int k' q∧(k=k'∨op= .shl∨op= .shr)∧(E.bin op x y).den ρ=za7 op k p q∧InK k p∧v= .int k p∧u= .int k' q:=by
 have key:(∃k k' p q,x.den ρ= .int k p∧y.den ρ= .int k' q∧(k=k'∨op= .shl∨op= .shr)):=by
  by_cases hn:znz (.bin op x y)=true
  ·have:=hd hn
   simp only [E.den]at this
   cases hx:x.den ρ<;>cases hy:y.den ρ<;>simp only [hx,hy,AV.bin,ne_eq,not_true_eq_false]at this
   split at this
   ·exact⟨_,_,_,_,rfl,rfl,by assumption⟩
   ·exact absurd rfl this
  ·have hn:znz (.bin op x y)=false:=by simpa using hn
   have hk:(zeu x).isSome=true∧(zeu x==zeu y)=true:=by
    cases op<;>simp [znz]at hn<;>simpa using hn
   obtain⟨k,hk1⟩:=Option.isSome_iff_exists.1 hk.1
   have hk2:zeu y=some k:=by rw [←beq_iff_eq.1 hk.2,hk1]
   obtain⟨p,hp⟩:=zsR x hk1 h1.il
   obtain⟨q,hq⟩:=zsR y hk2 h2.il
   exact⟨k,k,p,q,hp,hq, .inl rfl⟩
 obtain⟨k,k',p,q,hp,hq,hkk⟩:=key
 obtain⟨hv,hin⟩:=zjH h1 hp
 obtain⟨hu,_⟩:=zjH h2 hq
 exact⟨k,k',p,q,hp,hq,hkk,by simp only [E.den,hp,hq,AV.bin,if_pos hkk],hin,hv,hu⟩
theorem zoT (a b:ByteArray):(a.toList==b.toList)=(a.data.toList==b.data.toList):=by rw [ByteArray.toList_eq,ByteArray.toList_eq]
theorem zvN {α β γ:Type} (r:Result α) (f:α→World→Result β) (g:β→World→Result γ):(r.andThen f).andThen g=r.andThen fun a w=>(f a w).andThen g:=by cases r<;>rfl
theorem zp9 (d:Nat) {t:TypeId} (p q:Bool) (h:P.underlying t=some .bool) (w:World):(Op.equalIn (d+1) t (.bool p) (.bool q)).run P w= .ok (p==q) w:=by
 simp [Op.equalIn,run_underlying h]
theorem zAI {t:TypeId} (p q:Bool) (h:P.underlying t=some .bool) (w:World):(binOp .eql t (.bool p) (.bool q)).run P w= .ok (.bool (p==q)) w:=by
 simp only [binOp]
 simp [Op.equal,Op.maxDepth,zp9 9999 p q h]
theorem zAA {t:TypeId} (p q:Bool) (h:P.underlying t=some .bool) (w:World):(binOp .neq t (.bool p) (.bool q)).run P w= .ok (.bool (!(p==q))) w:=by
 simp only [binOp]
 simp [Op.equal,Op.maxDepth,zp9 9999 p q h]
theorem zs5 {op:BinOp} {t ty:TypeId} {x y:Operand} (ho:o.op= .binOp op t x y ty) (w:World) {v u:Value} (hv:a.eval x=v) (hu:a.eval y=u):
  (execOp a.eval o).run P w=((do eqGuard op t x y v u;binOp op t v u:Sem Value).run P w).andThen fun v w=> .ok (.value v) w:=by
 simp only [execOp,ho,hv,hu,Sem.run_bind,zvN,Sem.run_pure]
theorem znU (h:Pre P c n nx sl hp a sl0 hp0 o gs) {op:BinOp} {t el:TypeId} {x y:Operand} {ty:TypeId} (ho:o.op= .binOp op t x y ty) (hu:P.underlying t=some (.slice el)) (r1:SR c [.cd] [a.eval x]) (r2:SR c [.cd] [a.eval y])
  (hop:op= .eql∨op= .neq):zbP P o c n nx sl hp gs a {val:= .e (.bool (op== .eql))}:=by
 have ex:=fun(v u:Value) (hv:a.eval x=v) (hu:a.eval y=u)=>zs5 (P:=P) (o:=o) ho c.w hv hu
 generalize hv1:a.eval x=v1 at r1
 generalize hv2:a.eval y=v2 at r2
 cases r1 with
 |cd _=>cases r2 with
  |cd _=>
   refine zbP.pure h (v:= .bool (op== .eql)) ?_ (.c6 (.bool .nil)) rfl
   rw [ex _ _ hv1 hv2,eqGuard_at_slice]
   rcases hop with rfl|rfl
   ·simp [run_eql_nil_slice c.w t el none 0 0 0 0 hu]
   ·simp [run_neq_nil_slice c.w t el none 0 0 0 0 hu]
theorem zx9 (h:Pre P c n nx sl hp a sl0 hp0 o gs) {op:BinOp} {t:TypeId} {x y:Operand} {ty:TypeId} (ho:o.op= .binOp op t x y ty) {s1 s2:SV} (r1:SR c [s1] [a.eval x]) (r2:SR c [s2] [a.eval y])
  {x' y':E} (hx':zc6 s1=some x') (hy':zc6 s2=some y') (hd:znz (.bin op x' y')=true→Cn.den c.ρ (.dfd (.bin op x' y'))) (hnz:op= .quo∨op= .rem→Cn.den c.ρ (.nz y')) (hnn:op= .shl∨op= .shr→Cn.den c.ρ (.nn y')) {ck:List Cn}:
  zbP P o c n nx sl hp gs a {bu:=ck,val:= .e (.bin op x' y')}:=by
 obtain⟨f1,g1,_⟩:=zes r1 hx'
 obtain⟨f2,g2,_⟩:=zes r2 hy'
 obtain⟨k,k',p,q,e1,e2,hkk,e3,hin,hv,hu'⟩:=zAR (op:=op) g1 g2 hd
 refine zbP.pure h (v:=(za7 op k p q).val) ?_ (.c6 (by rw [e3];exact zDn hin _)) rfl
 rw [zs5 ho c.w hv hu',zAk hkk (fun hop=> ?_) (fun hop=> ?_)]
 ·simp
 ·obtain⟨_,m,hm,hm0⟩:=hnz hop
  rw [e2]at hm;cases hm;exact hm0
 ·obtain⟨_,m,hm,hm0⟩:=hnn hop
  rw [e2]at hm;cases hm;exact hm0
theorem zw9 (h:Pre P c n nx sl hp a sl0 hp0 o gs) {op:BinOp} {t:TypeId} {x y:Operand} {ty:TypeId} (ho:o.op= .binOp op t x y ty) {s1 s2:SV} (r1:SR c [s1] [a.eval x]) (r2:SR c [s2] [a.eval y])
  {x' y':E} (hx':zc6 s1=some x') (hy':zc6 s2=some y') (hd:Cn.den c.ρ (.dfd (.sbin op x' y'))) (hroom:op= .add→Cn.den c.ρ (.roomS x' y')) {ck:List Cn}:
  zbP P o c n nx sl hp gs a {bu:=ck,val:= .e (.sbin op x' y')}:=by
 obtain⟨f1,g1,_⟩:=zes r1 hx'
 obtain⟨f2,g2,_⟩:=zes r2 hy'
 have hd:AV.sbin op (x'.den c.ρ) (y'.den c.ρ)≠ .undef:=hd
 cases hx:x'.den c.ρ<;>cases hy:y'.den c.ρ<;>simp only [hx,hy,AV.sbin,ne_eq,not_true_eq_false]at hd
 obtain⟨b1,hv1,rfl,_⟩:=zu0 g1 hx
 obtain⟨b2,hv2,rfl,_⟩:=zu0 g2 hy
 have hle:op= .add→b1.size+b2.size≤9223372036854775807:=fun hop=>by
  obtain⟨p,q,hp,hq,hle⟩:=hroom hop
  rw [hx]at hp;rw [hy]at hq;cases hp;cases hq
  simpa using hle
 refine zbP.pure h (v:=match op with| .add=> .string (b1++b2)|_=>(zuY op b1.data.toList b2.data.toList).val) ?_ (.c6 ?_) rfl
 ·rw [zs5 ho c.w hv1 hv2,eqGuard_at_string]
  cases op<;>first
   |(exact absurd rfl hd)
   |(have:=hle rfl;simp [binOp,Op.stringOp];omega)
   |(simp [binOp,Op.stringOp,zuY,AV.val,ByteArray.toList_eq,bne];done)
 ·simp only [E.den,hx,hy,AV.sbin]
  cases op<;>simp only [zuY,AV.val,ne_eq,not_true_eq_false]at hd ⊢ <;>first
   |exact .bool .nil
   |(have:=hle rfl
     have h9:=Rd.str (w:=c.w) (s:=b1++b2) (by simpa using this) .nil
     simpa using h9)
theorem zwC (h:Pre P c n nx sl hp a sl0 hp0 o gs) {op:BinOp} {t:TypeId} {x y:Operand} {ty:TypeId} (ho:o.op= .binOp op t x y ty) (hu:P.underlying t=some .bool) {s1 s2:SV} (r1:SR c [s1] [a.eval x]) (r2:SR c [s2] [a.eval y])
  {x' y':E} (hx':zc6 s1=some x') (hy':zc6 s2=some y') (hd:Cn.den c.ρ (.dfd (.bbin op x' y'))) {ck:List Cn}:
  zbP P o c n nx sl hp gs a {bu:=ck,val:= .e (.bbin op x' y')}:=by
 obtain⟨f1,g1,_⟩:=zes r1 hx'
 obtain⟨f2,g2,_⟩:=zes r2 hy'
 have hd:AV.bbin op (x'.den c.ρ) (y'.den c.ρ)≠ .undef:=hd
 cases hx:x'.den c.ρ<;>cases hy:y'.den c.ρ<;>simp only [hx,hy,AV.bbin,ne_eq,not_true_eq_false]at hd
 rename_i p q
 have hv1:=zim g1 hx
 have hv2:=zim g2 hy
 refine zbP.pure h (v:=(AV.bbin op (.bool p) (.bool q)).val) ?_ (.c6 ?_) rfl
 ·rw [zs5 ho c.w hv1 hv2,eqGuard_at_bool]
  cases op<;>simp only [ne_eq,not_true_eq_false]at hd
  ·simp [zAI p q hu,AV.bbin,AV.val]
  ·simp [zAA p q hu,AV.bbin,AV.val,bne]
 ·simp only [E.den,hx,hy]
  cases op<;>simp only [AV.bbin,AV.val,ne_eq,not_true_eq_false]at hd ⊢ <;>exact .bool .nil
theorem zEp (h:Pre P c n nx sl hp a sl0 hp0 o gs) {op:BinOp} {t:TypeId} {x y:Operand} {ty:TypeId} (ho:o.op= .binOp op t x y ty) (hns: ∀fs,P.underlying t≠some (.struct fs)) (he:zcg P sg sl0 hp0 nv nx gs o=some e) (hq:e.cc=none) (hc: ∀q∈e.bu,Cn.den c.ρ q):zbP P o c n nx sl hp gs a e:=by
 have hm1:x∈o.op.operands:=by simp [ho,Op.operands]
 have hm2:y∈o.op.operands:=by simp [ho,Op.operands]
 simp only [zcg,ho,yqbe]at he
 obtain⟨s1,hs1,s2,hs2,he⟩:=he
 have r1:=h.cz hs1 hm1
 have r2:=h.cz hs2 hm2
 unfold zuE at he
 split at he
 ·rename_i el hu
  split at he
  ·simp at he;subst he
   exact znU h ho hu r1 r2 (.inl rfl)
  ·simp at he;subst he
   exact znU h ho hu r1 r2 (.inr rfl)
  ·obtain⟨_,_,rfl⟩:=yqme.1 he;cases hq
  ·obtain⟨_,_,rfl⟩:=yqme.1 he;cases hq
  ·cases he
 ·rename_i kk hu
  split at he
  ·rename_i x' y' hx' hy'
   simp at he;subst he
   exact zx9 h ho r1 r2 hx' hy' (fun hn=>hc _ (by simp [hn])) (fun hop=>hc _ (by rcases hop with rfl|rfl<;>simp)) (fun hop=>hc _ (by rcases hop with rfl|rfl<;>simp))
  ·cases he
 ·rename_i hu
  split at he
  ·rename_i x' y' hx' hy'
   simp at he;subst he
   exact zw9 h ho r1 r2 hx' hy' (hc _ (by simp)) (fun hop=>hc _ (by subst hop;simp))
  ·cases he
 ·rename_i hu
  split at he
  ·rename_i x' y' hx' hy'
   simp at he;subst he
   exact zwC h ho hu r1 r2 hx' hy' (hc _ (by simp))
  ·cases he
 ·rename_i fs hu;exact absurd hu (hns fs)
 ·cases he
end
section
variable {P:Program} {c:Cx} {n nx:Nat} {sl sl0:Nat→SV} {hp hp0:Nat→Option Ent} {a:Act} {o:Oper} {gs:Gd} {e:Eff} {sg:SgT} {nv:Nat}
theorem zpy {t:TypeId} (h:zog P t=true) (cs:List Value) (off:Nat) (hle:off+P.cellsOf t≤cs.length) (hg:zaX P t=true∨P.cellsOf t=1) (w:World):
  (part t cs.toArray off).run P w= .ok (if zaX P t then .agg ((cs.drop off).take (P.cellsOf t)).toArray else((cs.drop off).take (P.cellsOf t)).headD Go.undef) w:=by
 cases ha:zaX P t with
 |true=>
  simp only [part,Sem.run_bind,zmQ h,ha,zg5 h,Result.andThen_ok,if_true,Sem.run_pure]
  congr 2
  apply Array.ext'
  rw [Array.toList_extract]
  simp [Nat.add_sub_cancel_left,List.extract_eq_take_drop]
 |false=>
  have h1:P.cellsOf t=1:=by rcases hg with h'|h';rw [ha]at h';cases h';exact h'
  have hlt:off<cs.length:=by omega
  have e1:(cs.drop off).take (P.cellsOf t)= [cs[off]]:=by rw [h1,List.drop_eq_getElem_cons hlt,List.take_succ_cons,List.take_zero]
  rw [e1]
  simp [part,zmQ h,ha,hlt]
theorem zA8 (h:Pre P c n nx sl hp a sl0 hp0 o gs) {t:TypeId} {x:Operand} {f:Nat} (ho:o.op= .field t x f) (he:zcg P sg sl0 hp0 nv nx gs o=some e) (hc: ∀q∈e.bu,Cn.den c.ρ q):zbP P o c n nx sl hp gs a e:=by
 have hm:x∈o.op.operands:=by simp [ho,Op.operands]
 simp only [zcg,ho,yqbe]at he
 obtain⟨s,hs,he⟩:=he
 have hr:=h.cz hs hm
 split at he
 ·rename_i fs hu
  split at he
  ·rename_i fd hf
   split at he
   ·cases he
   ·rename_i hty
    have hty:zog P fd.type=true:=by simpa using hty
    have ex: ∀as_:List Value,a.eval x= .agg as_.toArray→(execOp a.eval o).run P c.w=((part fd.type as_.toArray fd.offset).run P c.w).andThen fun v w=> .ok (.value v) w:=fun as_ hv=>by
     simp [execOp,ho,Instr.field,run_underlying hu,hf,hv,asAgg]
    split at he
    ·rename_i cs
     obtain⟨s2,hs2,rfl⟩:=yqme.1 he
     generalize hv:a.eval x=v at hr
     cases hr with
     |agg r8 r1 r9=>
      rename_i as_
      have hlen:=r1.len
      unfold zy8 at hs2
      split at hs2
      ·rename_i hag
       split at hs2
       ·rename_i hle
        simp at hs2;subst hs2
        obtain⟨q1,q2⟩:=r1.split fd.offset
        obtain⟨q3,q4⟩:=q2.split (P.cellsOf fd.type)
        have:=SR.agg (cs:=SVL.of ((cs.toList.drop fd.offset).take (P.cellsOf fd.type))) (fun u hu=>r8 u (List.mem_of_mem_drop (List.mem_of_mem_take hu))) (by rw [SVL.a7];exact q3) .nil
        refine zbP.pure h (v:= .agg ((as_.drop fd.offset).take (P.cellsOf fd.type)).toArray) ?_ this rfl
        rw [ex as_ hv,zpy hty as_ fd.offset (by omega) (.inl hag)]
        simp [hag]
       ·cases hs2
      ·rename_i hag
       have hag:zaX P fd.type=false:=by simpa using hag
       obtain⟨u,hu',r⟩:=r1.get hs2
       refine zbP.pure h (v:=u) ?_ r rfl
       rw [ex as_ hv]
       simp [part,zmQ hty,hag,hu']
    ·rename_i y
     split at he
     ·rename_i hh
      obtain⟨hle,hag⟩:=hh
      simp at he;subst he
      generalize hv:a.eval x=v at hr
      cases hr with
      |e h1 h2 _=>
       rename_i f1
       obtain⟨cs,hcs,hcl⟩:=hc1 hc
       obtain⟨as_,rfl,hr2',hr2⟩:=zmU h1 hcs
       have hlen:=hr2.len
       have hcel:(y.den c.ρ).cells=cs:=by rw [hcs];rfl
       rw [←hcel]at hr2
       obtain⟨q,g1,g2⟩:=hr2.jj hr2' fd.offset (P.cellsOf fd.type) (zaX P fd.type) (by rw [hcel];omega) (fun hh=>by rcases hag with h'|h';rw [hh]at h';cases h';exact h')
       refine zbP.pure h ?_ (.e (f:=q) (by simpa [E.den]using g2) (fun z hz=>h2 z (g1 z hz)) .nil) rfl
       rw [ex as_ hv,zpy hty as_ fd.offset (by omega) hag]
       simp
     ·cases he
    ·rename_i b g m pth y
     split at he
     ·rename_i hh
      obtain⟨hle,hag,hvo⟩:=hh
      have hE:=zpC h.eh h.gs hvo
      generalize hv:a.eval x=v at hr
      have hagg:Cn.den c.ρ (.agg y (P.cellsOf t)):=by
       split at he<;>(simp only [yqsi]at he;subst he;exact hc1 hc)
      cases hr with
      |via h1 h2 h3 _=>
       obtain⟨⟨f1,p1,p2⟩,_⟩:=h3 hE
       obtain⟨cs,hcs,hcl⟩:=hagg
       obtain⟨as_,rfl,hr2',hr2⟩:=zmU p1 hcs
       have hlen:=hr2.len
       have hcel:(y.den c.ρ).cells=cs:=by rw [hcs];rfl
       rw [←hcel]at hr2
       obtain⟨q,g1,g2⟩:=hr2.jj hr2' fd.offset (P.cellsOf fd.type) (zaX P fd.type) (by rw [hcel];omega) (fun hh=>by rcases hag with h'|h';rw [hh]at h';cases h';exact h')
       have hrun:=ex as_ hv
       rw [zpy hty as_ fd.offset (by omega) hag]at hrun
       simp only [Result.andThen_ok]at hrun
       have hden:Rd c.w _ [(E.fld y fd.offset (P.cellsOf fd.type) (zaX P fd.type)).den c.ρ] q:=g2
       split at he
       ·simp only [yqsi]at he;subst he
        obtain⟨e1,e2,e3,e4⟩:=hc (.flat (.fld y fd.offset (P.cellsOf fd.type) (zaX P fd.type)) (P.cellsOf fd.type) (zaX P fd.type)) (by simp)
        have hq:q= []:=by
         cases hg:zaX P fd.type with
         |true=>
          obtain⟨cs,hcs⟩:=e3 hg
          obtain⟨as_,_,_,r⟩:=zmU hden hcs
          exact zhs r (by rw [hcs]at e2;exact e2)
         |false=>exact zhs hden (by simpa using e4 hg)
        subst hq
        exact zbP.pure h hrun (.e hden (by simp) .nil) rfl
       ·simp only [yqsi]at he;subst he
        exact zbP.pure h hrun (.via h1 h2 (fun _=>⟨⟨q,hden,fun z hz=>p2 z (g1 z hz)⟩,trivial⟩) .nil) rfl
     ·cases he
    ·cases he
  ·cases he
 ·cases he
theorem znj {v:Value} {x:AV} {m:Int} {w:World} {f:List Nat} (h:Rd w [v] [x] f) (hx:x.len= .int .i64 m):(∃a c,v= .slice a 0 c∧m=0)∨ ∃b o k c,v= .slice (some ⟨b,o,none⟩) k c∧m=k:=by
 rcases h.kind with h|h|h|h|h|h|h|h|h|h
 ·obtain⟨_,_,_,rfl,_⟩:=h;simp [AV.len]at hx
 ·obtain⟨_,_,rfl,_⟩:=h;simp [AV.len]at hx
 ·obtain⟨_,_,rfl,_⟩:=h;simp [AV.len]at hx
 ·obtain⟨q,r,rfl,rfl,_⟩:=h;simp [AV.len]at hx;exact .inl ⟨q,r,rfl,by omega⟩
 ·obtain⟨b,o,k,r,ys,_,_,_,_,_,_,rfl,rfl,_,_,_,_,hl,_⟩:=h;simp [AV.len]at hx;exact .inr ⟨b,o,k,r,rfl,by omega⟩
 ·obtain⟨_,_,_,rfl,_⟩:=h;simp [AV.len]at hx
 ·obtain⟨_,_,_,rfl,_⟩:=h;simp [AV.len]at hx
 ·obtain⟨_,_,_,_,_,_,_,rfl,_⟩:=h;simp [AV.len]at hx
 ·obtain⟨_,_,_,_,rfl,_⟩:=h;simp [AV.len]at hx
 ·obtain⟨_,rfl,_⟩:=h;simp [AV.len]at hx
theorem zku {t el:TypeId} (hu:P.underlying t=some (.slice el)) (hz:P.cellsOf el≠0) {b off len cap:Nat} {kk:IntKind} {k:Int} (h0:0≤k) (h1:k<len) (w:World):
  (Instr.indexAt t (.slice (some ⟨b,off,none⟩) len cap) (.int kk k)).run P w= .ok (.pointer (some ⟨b,off+k.toNat*P.cellsOf el,none⟩)) w:=by
 simp [Instr.indexAt,run_underlying hu,asIntOf,h0,h1,zu9 hz,Addr.add_lit]
theorem zu2 (h:Pre P c n nx sl hp a sl0 hp0 o gs) {t:TypeId} {x i:Operand} (ho:o.op= .indexAddr t x i∨o.op= .index t x i) {s1 s2:SV} (hs1:zaj sl0 gs x=some s1) (hs2:zaj sl0 gs i=some s2)
  (hop:(∃el,P.underlying t=some (.slice el))→o.op= .indexAddr t x i) (hop2:P.underlying t=some .string→o.op= .index t x i)
  (he:zrx P hp0 gs t s1 s2=some e) (hc: ∀q∈e.bu,Cn.den c.ρ q):zbP P o c n nx sl hp gs a e:=by
 have hm1:x∈o.op.operands:=by rcases ho with ho|ho<;>simp [ho,Op.operands]
 have hm2:i∈o.op.operands:=by rcases ho with ho|ho<;>simp [ho,Op.operands]
 have r1:=h.cz hs1 hm1
 have r2:=h.cz hs2 hm2
 unfold zrx at he
 split at he
 ·rename_i el k hu
  have ho':=hop ⟨el,hu⟩
  have ex:(execOp a.eval o).run P c.w=((Instr.indexAt t (a.eval x) (a.eval i)).run P c.w).andThen fun v w=> .ok (.value v) w:=by simp [execOp,ho']
  split at he
  ·cases he
  rename_i hz
  obtain⟨fk,hk1,_⟩: ∃f,Rd c.w [a.eval i] [k.den c.ρ] f∧ ∀b∈f,c.ok b:=by
   generalize a.eval i=v at r2
   cases r2 with
   |e h1 h2 _=>exact⟨_,h1,h2⟩
  split at he
  ·rename_i b g
   split at he
   ·rename_i e0 sz g' c0 d hl
    split at he
    ·rename_i hh
     obtain⟨rfl,rfl⟩:=hh
     simp at he;subst he
     obtain⟨kk,kv,m,e1,e2,e3,e4,e5⟩:=hc1 hc
     obtain⟨hiv,_⟩:=zjH hk1 e1
     generalize hv:a.eval x=v at r1 ex
     cases r1 with
     |own hK hKv _=>
      obtain⟨_,_,N,q1,q2,_,_⟩:=h.eh b _ (za2 hl h.gs)
      obtain⟨xs,hxs,hcl,h0,hcase⟩:=q1
      rw [hxs]at e3
      simp only [AV.len,AV.int.injEq,true_and]at e3
      rcases hcase with⟨rfl,_⟩|⟨g9,cap,C,hH,_⟩
      ·simp at e3;omega
      ·refine zbP.pure h (v:= .pointer (some ⟨g9,kv.toNat*P.cellsOf el+0,none⟩)) ?_ (.cw hK hH e1 e2 (by omega) .nil) rfl
       rw [hKv]at hH;cases hH
       rw [ex,hiv,zku hu hz e2 (by omega)]
       simp
    ·cases he
   ·rename_i g' c0 hl
    split at he
    ·rename_i hh
     subst hh
     simp at he;subst he
     obtain⟨kk,kv,m,e1,e2,e3,e4,e5⟩:=hc1 hc
     obtain⟨hiv,_⟩:=zjH hk1 e1
     generalize hv:a.eval x=v at r1 ex
     cases r1 with
     |own hK hKv _=>
      obtain⟨_,⟨f,q1,q2⟩,_,_⟩:=h.eh b _ (za2 hl h.gs)
      rcases znj q1 e3 with⟨_,_,_,hm⟩|⟨b9,off9,len9,cap9,hH,hm⟩
      ·omega
      ·rw [hKv]at hH;cases hH
       rw [hKv]at q1
       refine zbP.pure h (v:= .pointer (some ⟨b9,off9+kv.toNat*P.cellsOf el+0,none⟩)) ?_ (.dk q1 q2 e1 e2 (by omega) e5 .nil) rfl
       rw [ex,hiv,zku hu hz e2 (by omega)]
       simp
    ·cases he
   ·rename_i e0 sz dl g' ep c0 hl
    split at he
    ·rename_i hh
     obtain⟨rfl,rfl⟩:=hh
     simp at he;subst he
     obtain⟨kk,kv,m,e1,e2,e3,e4,e5⟩:=hc1 hc
     obtain⟨hiv,_⟩:=zjH hk1 e1
     generalize hv:a.eval x=v at r1 ex
     cases r1 with
     |own hK hKv _=>
      obtain⟨_,_,_,q1,_⟩:=h.eh b _ (za2 hl h.gs)
      obtain⟨_,_,⟨a9,d3,d4,_⟩|⟨g9,cap,C,ys,N1,hH,d4,_⟩⟩:=q1.inv
      ·rw [d4]at e3
       simp [AV.len]at e3;omega
      ·rw [d4]at e3
       simp only [AV.len,AV.int.injEq,true_and]at e3
       refine zbP.pure h (v:= .pointer (some ⟨g9,kv.toNat*P.cellsOf el+0,none⟩)) ?_ (.cw hK hH e1 e2 (by omega) .nil) rfl
       rw [hKv]at hH;cases hH
       rw [ex,hiv,zku hu hz e2 (by omega)]
       simp
    ·cases he
   ·cases he
  ·rename_i y
   simp at he;subst he
   obtain⟨kk,kv,m,e1,e2,e3,e4,e5⟩:=hc1 hc
   obtain⟨hiv,_⟩:=zjH hk1 e1
   generalize hv:a.eval x=v at r1 ex
   cases r1 with
   |e q1 q2 _=>
    rcases znj q1 e3 with⟨_,_,_,hm⟩|⟨b9,off9,len9,cap9,rfl,hm⟩
    ·omega
    ·refine zbP.pure h (v:= .pointer (some ⟨b9,off9+kv.toNat*P.cellsOf el+0,none⟩)) ?_ (.dk q1 q2 e1 e2 (by omega) e5 .nil) rfl
     rw [ex,hiv,zku hu hz e2 (by omega)]
     simp
  ·rename_i b g m pth y
   split at he
   ·rename_i hvo
    simp at he;subst he
    have hE:=zpC h.eh h.gs hvo
    obtain⟨kk,kv,mm,e1,e2,e3,e4,e5⟩:=hc1 hc
    obtain⟨hiv,_⟩:=zjH hk1 e1
    generalize hv:a.eval x=v at r1 ex
    cases r1 with
    |via q1 q2 q3 _=>
     obtain⟨⟨f,p1,p2⟩,p3⟩:=q3 hE
     rcases znj p1 e3 with⟨_,_,_,hm⟩|⟨b9,off9,len9,cap9,rfl,hm⟩
     ·omega
     ·refine zbP.pure h (v:= .pointer (some ⟨b9,off9+kv.toNat*P.cellsOf el+0,none⟩)) ?_ (.vptr q1 q2 (fun _=>⟨b9,off9,len9,cap9,kk,kv,⟨f,p1,p2⟩,p3,e1,e2,by omega,e5,rfl⟩) .nil) rfl
      rw [ex,hiv,zku hu hz e2 (by omega)]
      simp
   ·cases he
  ·cases he
 ·rename_i k hu
  have ho':=hop2 hu
  obtain⟨fk,hk1,_⟩: ∃f,Rd c.w [a.eval i] [k.den c.ρ] f∧ ∀b∈f,c.ok b:=by
   generalize a.eval i=v at r2
   cases r2 with
   |e h1 h2 _=>exact⟨_,h1,h2⟩
  split at he
  ·rename_i y
   simp at he;subst he
   obtain⟨kk,kv,s,e1,e2,e3,e4⟩:=hc1 hc
   obtain⟨hiv,_⟩:=zjH hk1 e1
   generalize hv:a.eval x=v at r1
   cases r1 with
   |e q1 q2 _=>
    obtain⟨bs,rfl,rfl,hle⟩:=zu0 q1 e2
    have hlt:kv.toNat<bs.data.toList.length:=by omega
    have hlt':kv.toNat<bs.size:=by simpa using hlt
    refine zbP.pure h (v:= .int .u8 (bs[kv.toNat]).toNat) ?_ (.c6 ?_) rfl
    ·simp [execOp,ho',Instr.index,hv,hiv,asIntOf,run_underlying hu,e3,hlt']
    ·simp only [E.den,e1,e2,AV.sidx]
     have:bs.data.toList[kv.toNat]?=some (bs[kv.toNat]):=by
      rw [List.getElem?_eq_getElem hlt];simp [ByteArray.getElem_eq_getElem_data]
     rw [this]
     refine .int ?_ .nil
     rw [zow]
     have:=(bs[kv.toNat]).toNat_lt
     simp [IntKind.min,IntKind.max,IntKind.signed,IntKind.bits];omega
  ·cases he
 ·cases he
theorem zt1 (h:Pre P c n nx sl hp a sl0 hp0 o gs) {t:TypeId} {x i:Operand} (ho:o.op= .indexAddr t x i) (hns:P.underlying t≠some .string) (he:zcg P sg sl0 hp0 nv nx gs o=some e) (hc: ∀q∈e.bu,Cn.den c.ρ q):zbP P o c n nx sl hp gs a e:=by
 simp only [zcg,ho,yqbe]at he
 obtain⟨s1,hs1,s2,hs2,he⟩:=he
 split at he
 ·cases he
 exact zu2 h (.inl ho) hs1 hs2 (fun _=>ho) (fun hh=>absurd hh hns) he hc
theorem zxw (h:Pre P c n nx sl hp a sl0 hp0 o gs) {t:TypeId} {x i:Operand} (ho:o.op= .index t x i) (hns:P.underlying t=some .string) (he:zcg P sg sl0 hp0 nv nx gs o=some e) (hc: ∀q∈e.bu,Cn.den c.ρ q):zbP P o c n nx sl hp gs a e:=by
 simp only [zcg,ho,yqbe]at he
 obtain⟨s1,hs1,s2,hs2,he⟩:=he
 split at he
 ·exact zu2 h (.inr ho) hs1 hs2 (fun⟨el,hh⟩=>by rw [hns]at hh;cases hh) (fun _=>ho) he hc
 ·cases he
theorem zxM (h:Pre P c n nx sl hp a sl0 hp0 o gs) {x:Operand} {i:Nat} (ho:o.op= .extract x i) (he:zcg P sg sl0 hp0 nv nx gs o=some e) (hc: ∀q∈e.bu,Cn.den c.ρ q):zbP P o c n nx sl hp gs a e:=by
 have hm:x∈o.op.operands:=by simp [ho,Op.operands]
 simp only [zcg,ho,yqbe]at he
 obtain⟨s,hs,he⟩:=he
 have hr:=h.cz hs hm
 generalize hv:a.eval x=v at hr
 have ex: ∀(as_:List Value) u,v= .tuple as_.toArray→as_[i]?=some u→(execOp a.eval o).run P c.w= .ok (.value u) c.w:=fun as_ u hv' hu=>by
  simp [execOp,ho,Instr.extract,hv,hv',hu]
 split at he
 ·rename_i vs
  obtain⟨s2,hs2,rfl⟩:=yqme.1 he
  cases hr with
  |tup r1 r9=>
   obtain⟨u,hu,r⟩:=r1.get hs2
   exact zbP.pure h (ex _ u rfl hu) r rfl
 ·rename_i y
  simp at he;subst he
  cases hr with
  |e q1 q2 _=>
   have hd:(y.den c.ρ).proj i≠ .undef:=hc1 hc
   cases hy:y.den c.ρ<;>simp only [hy,AV.proj,ne_eq,not_true_eq_false]at hd
   rename_i cs
   obtain⟨as_,rfl,r1⟩:=zH6 q1 hy
   cases hci:cs[i]? with
   |none=>simp [hci]at hd
   |some z=>
    obtain⟨u,g,hu,hg,hrd⟩:=r1.at hci
    exact zbP.pure h (ex as_ u rfl hu) (.e (f:=g) (by simpa [E.den,hy,AV.proj,hci]using hrd) (fun b hb=>q2 b (hg b hb)) .nil) rfl
 ·cases he
theorem zE7 (h:Pre P c n nx sl hp a sl0 hp0 o gs) {x:Operand} {t:TypeId} (ho:o.op= .unOp .not t x) (he:zcg P sg sl0 hp0 nv nx gs o=some e) (hc: ∀q∈e.bu,Cn.den c.ρ q):zbP P o c n nx sl hp gs a e:=by
 have hm:x∈o.op.operands:=by simp [ho,Op.operands]
 simp only [zcg,ho,yqbe,yqme]at he
 obtain⟨s,hs,y,hy,he⟩:=he
 obtain⟨f,q1,_⟩:=zes (h.cz hs hm) hy
 split at he
 ·subst he
  have hv:=zim q1 rfl
  rename_i b
  exact zbP.pure h (v:= .bool (!b)) (by simp [execOp,ho,hv,Op.unary]) (.c6 (.bool .nil)) rfl
 ·subst he
  have hd:(y.den c.ρ).fj≠ .undef:=hc1 hc
  cases hy':y.den c.ρ<;>simp only [hy',AV.fj,ne_eq,not_true_eq_false]at hd
  have hv:=zim q1 hy'
  rename_i b
  exact zbP.pure h (v:= .bool (!b)) (by simp [execOp,ho,hv,Op.unary]) (.c6 (by simp only [E.den,hy',AV.fj];exact .bool .nil)) rfl
theorem zFi (h:Pre P c n nx sl hp a sl0 hp0 o gs) {x:Operand} {t:TypeId} (ho:o.op= .unOp .neg t x) (he:zcg P sg sl0 hp0 nv nx gs o=some e) (hc: ∀q∈e.bu,Cn.den c.ρ q):zbP P o c n nx sl hp gs a e:=by
 have hm:x∈o.op.operands:=by simp [ho,Op.operands]
 simp only [zcg,ho,yqbe,yqme]at he
 obtain⟨s,hs,y,hy,rfl⟩:=he
 obtain⟨f,q1,_⟩:=zes (h.cz hs hm) hy
 have hd:(y.den c.ρ).jo≠ .undef:=hc1 hc
 cases hy':y.den c.ρ<;>simp only [hy',AV.jo,ne_eq,not_true_eq_false]at hd
 rename_i k m
 obtain⟨hv,_⟩:=zjH q1 hy'
 exact zbP.pure h (v:= .int k (k.wrap (0-m))) (by simp [execOp,ho,hv,Op.unary,Op.intArith]) (.c6 (by simp only [E.den,hy',AV.jo];exact .int (zvf _ _) .nil)) rfl
theorem zBe {L:List Operand} {sl0:Nat→SV} {gs:Gd} (h: ∀x s,zaj sl0 gs x=some s→x∈L→SR c [s] [a.eval x]): ∀{xs:List Operand} {ss:List SV},(∀x∈xs,x∈L)→xs.mapM (zaj sl0 gs)=some ss→SR c ss (xs.map a.eval)
 | [],ss,_,hm=>by simp at hm;subst hm;exact .nil
 |x::xs,ss,hL,hm=>by
  rw [List.mapM_cons]at hm
  simp only [Option.bind_eq_bind,yqbe]at hm
  obtain⟨s,hs,ss',hss,hm⟩:=hm
  simp at hm;subst hm
  exact(h x s hs (hL x (by simp))).app (zBe h (fun y hy=>hL y (by simp [hy])) hss)
theorem zwa (h:Pre P c n nx sl hp a sl0 hp0 o gs) {f:FuncId} {fst caps:Array Operand} (ho:o.op= .makeFunc (.func f) fst caps) (he:zcg P sg sl0 hp0 nv nx gs o=some e):zbP P o c n nx sl hp gs a e:=by
 simp only [zcg,ho]at he
 split at he
 ·rename_i hf
  obtain⟨ss,hss,rfl⟩:=yqme.1 he
  have hf:fst= #[]:=by simpa using hf
  have r:=zBe (a:=a) (c:=c) (L:=caps.toList) (fun x s hx hm=>h.cz hx (by simp only [ho,Op.operands,Array.mem_append];exact .inr (Array.mem_toList_iff.1 hm))) (fun x hx=>hx) hss
  refine zbP.pure h (v:= .func (.func f) #[] (caps.toList.map a.eval).toArray) ?_ (.fn (by rw [SVL.a7];exact r) .nil) rfl
  simp [execOp,ho,Instr.makeFunc,hf]
  apply Array.ext';simp
 ·cases he
end
section
variable {P:Program} {c:Cx} {n nx:Nat} {sl sl0:Nat→SV} {hp hp0:Nat→Option Ent} {a:Act} {o:Oper} {gs:Gd} {e:Eff} {sg:SgT} {nv:Nat}
theorem Pre.kq (h:Pre P c n nx sl hp a sl0 hp0 o gs) {x:Operand} {s:SV} (hs:zaj sl0 gs x=some s) (hm:x∈o.op.operands) {y:E} (hy:zgt hp0 gs zad s=some y):
  ∃f,Rd c.w [a.eval x] [y.den c.ρ] f∧ ∀b∈f,c.en (zcH hp0 gs (zad+1) [s]) b:=zhU h.eh h.gs zad hy (h.cz hs hm) zad (Nat.le_refl _)
theorem zEK (h:Pre P c n nx sl hp a sl0 hp0 o gs) {x:Operand} {t:TypeId} {cl:Call} (ho:o.op= .call cl) (hcl:cl.callee= .builtin .len) (ha1:cl.args.toList= [x]) (ha2:cl.argTypes.toList= [t]) (he:zcg P sg sl0 hp0 nv nx gs o=some e) (hc: ∀q∈e.bu,Cn.den c.ρ q):zbP P o c n nx sl hp gs a e:=by
 have hargs:cl.args= #[x]:=by apply Array.ext';simp [ha1]
 have htys:cl.argTypes= #[t]:=by apply Array.ext';simp [ha2]
 have hm:x∈o.op.operands:=by simp [ho,Op.operands,Call.operands,hcl,hargs]
 simp only [zcg,ho,hcl,ha1,ha2,yqbe]at he
 obtain⟨s,hs,he⟩:=he
 unfold zFO at he
 have ex:(execOp a.eval o).run P c.w=((Builtin.len_ #[t] o.type #[a.eval x]).run P c.w).andThen fun v w=> .ok (.value v) w:=by
  simp [execOp,ho,resolve,hcl,hargs,htys,invoke,builtin]
 split at he
 ·rename_i el hu
  obtain⟨y,hy,rfl⟩:=yqme.1 he
  obtain⟨f,q1,q2⟩:=h.kq hs hm hy
  have hd:(y.den c.ρ).len≠ .undef:=hc1 hc
  cases hy':y.den c.ρ<;>simp only [hy',AV.len,ne_eq,not_true_eq_false]at hd
  rename_i xs
  have hl:(y.den c.ρ).len= .int .i64 (xs.length:Int):=by rw [hy'];rfl
  have hin:InK .i64 (xs.length:Int):=by
   rw [zow]
   rcases q1.kind with hh|hh|hh|hh|hh|hh|hh|hh|hh|hh
   all_goals first
    |(obtain⟨_,_,_,hh,_⟩:=hh;rw [hy']at hh;cases hh;done)
    |(obtain⟨_,_,hh,_⟩:=hh;rw [hy']at hh;cases hh;done)
    |skip
   ·obtain⟨_,_,_,hh,_⟩:=hh;rw [hy']at hh;cases hh;simp [IntKind.min,IntKind.max,IntKind.signed,IntKind.bits]
   ·obtain⟨_,_,_,_,_,_,_,_,_,_,_,_,hh,_,_,_,hle,hlen,_⟩:=hh;rw [hy']at hh;cases hh;simp [IntKind.min,IntKind.max,IntKind.signed,IntKind.bits];omega
   all_goals first
    |(obtain⟨_,_,_,hh,_⟩:=hh;rw [hy']at hh;cases hh;done)
    |(obtain⟨_,_,_,_,_,_,_,hh,_⟩:=hh;rw [hy']at hh;cases hh;done)
    |(obtain⟨_,_,_,_,hh,_⟩:=hh;rw [hy']at hh;cases hh;done)
    |(obtain⟨_,hh,_⟩:=hh;rw [hy']at hh;cases hh;done)
  refine zbP.pure h (v:= .int .i64 xs.length) ?_ (.c6 (by simp only [E.den,hy',AV.len];exact .int hin .nil)) rfl
  rcases znj q1 hl with⟨p,q,hv,hm0⟩|⟨b,o',k,q,hv,hm0⟩
  ·rw [ex,hv,hm0];simp [Builtin.len_,run_underlying hu,goInt]
  ·rw [ex,hv,hm0];simp [Builtin.len_,run_underlying hu,goInt]
 ·rename_i hu
  obtain⟨y,hy,rfl⟩:=yqme.1 he
  obtain⟨f,q1,q2⟩:=h.kq hs hm hy
  have hd:(y.den c.ρ).slen≠ .undef:=hc1 hc
  cases hy':y.den c.ρ<;>simp only [hy',AV.slen,ne_eq,not_true_eq_false]at hd
  obtain⟨bs,hv,rfl,hle⟩:=zu0 q1 hy'
  refine zbP.pure h (v:= .int .i64 bs.size) ?_ (.c6 ?_) rfl
  ·rw [ex,hv];simp [Builtin.len_,run_underlying hu,goInt]
  ·simp only [E.den,hy',AV.slen]
   have:(bs.data.toList.length:Int)=(bs.size:Int):=by simp
   rw [this]
   refine .int ?_ .nil
   rw [zow];simp [IntKind.min,IntKind.max,IntKind.signed,IntKind.bits];omega
 ·cases he
theorem zxx (h:Pre P c n nx sl hp a sl0 hp0 o gs) {x:Operand} {src dst:TypeId} {k0 k:IntKind} (ho:o.op= .convert src dst x) (h1:P.underlying src=some (.int k0)) (h2:P.underlying dst=some (.int k)) (he:zcg P sg sl0 hp0 nv nx gs o=some e) (hc: ∀q∈e.bu,Cn.den c.ρ q):zbP P o c n nx sl hp gs a e:=by
 have hm:x∈o.op.operands:=by simp [ho,Op.operands]
 simp only [zcg,ho,yqbe]at he
 obtain⟨s,hs,he⟩:=he
 simp only [zsf,h1,h2,yqme]at he
 obtain⟨y,hy,rfl⟩:=he
 obtain⟨f,q1,_⟩:=zes (h.cz hs hm) hy
 have hd:(y.den c.ρ).conv k≠ .undef:=hc1 hc
 cases hy':y.den c.ρ<;>simp only [hy',AV.conv,ne_eq,not_true_eq_false]at hd
 rename_i k1 m
 obtain⟨hv,_⟩:=zjH q1 hy'
 exact zbP.pure h (v:= .int k (k.wrap m)) (by simp [execOp,ho,hv,convert,run_underlying h1,run_underlying h2,Conv.intToInt]) (.c6 (by simp only [E.den,hy',AV.conv];exact .int (zvf _ _) .nil)) rfl
theorem zw7 (h:Pre P c n nx sl hp a sl0 hp0 o gs) {x:Operand} {src dst:TypeId} (ho:o.op= .convert src dst x) (h1:P.underlying src=some .string) (h2:P.underlying dst=some .string) (he:zcg P sg sl0 hp0 nv nx gs o=some e) (hc: ∀q∈e.bu,Cn.den c.ρ q):zbP P o c n nx sl hp gs a e:=by
 have hm:x∈o.op.operands:=by simp [ho,Op.operands]
 simp only [zcg,ho,yqbe]at he
 obtain⟨s,hs,he⟩:=he
 simp only [zsf,h1,h2,yqme]at he
 obtain⟨y,hy,rfl⟩:=he
 obtain⟨f,q1,_⟩:=zes (h.cz hs hm) hy
 have hd:(y.den c.ρ).slen≠ .undef:=hc1 hc
 cases hl:y.den c.ρ<;>simp only [hl,AV.slen,ne_eq,not_true_eq_false]at hd
 obtain⟨bs,hv,hle,hle2⟩:=zu0 q1 hl
 exact zbP.pure h (v:= .string bs) (by simp [execOp,ho,hv,convert,run_underlying h1,run_underlying h2]) (.c6 (by rw [hl,hle];exact Rd.str hle2 .nil)) rfl
theorem zFJ {w:World}: ∀{ys:List AV} {s:List UInt8} {cs:List Value} {f:List Nat},u8s ys=some s→Rd w cs (zaB ys) f→ ∃ns:List Int,cs=ns.map (Value.int .u8)∧s=ns.map (fun n=>UInt8.ofNat n.toNat)∧ns.length=ys.length
 | [],s,cs,f,h,hr=>by
  have:zaB ([]:List AV)= []:=rfl
  rw [this]at hr
  cases hr
  cases h
  exact⟨[],rfl,rfl,rfl⟩
 |y::ys,s,cs,f,h,hr=>by
  unfold u8s at h
  split at h
  ·rename_i h0;cases h0
  ·rename_i n xs he
   cases he
   obtain⟨s',h1,rfl⟩:=yqme.1 h
   have hr':Rd w cs (.int .u8 n::zaB ys) f:=by simpa [zaB,AV.cells]using hr
   cases hr' with
   |int hk hr2=>
    obtain⟨ns,rfl,rfl,hl⟩:=zFJ h1 hr2
    exact⟨n::ns,rfl,rfl,by simp [hl]⟩
  ·cases h
theorem zvY (h:Pre P c n nx sl hp a sl0 hp0 o gs) {x:Operand} {src dst el:TypeId} (ho:o.op= .convert src dst x) (h1:P.underlying src=some (.slice el)) (h2:P.underlying dst=some .string) (he:zcg P sg sl0 hp0 nv nx gs o=some e) (hc: ∀q∈e.bu,Cn.den c.ρ q):zbP P o c n nx sl hp gs a e:=by
 have hm:x∈o.op.operands:=by simp [ho,Op.operands]
 simp only [zcg,ho,yqbe]at he
 obtain⟨s,hs,he⟩:=he
 simp only [zsf,h1,h2]at he
 split at he
 ·rename_i hu
  obtain⟨y,hy,rfl⟩:=yqme.1 he
  obtain⟨f,q1,q2⟩:=h.kq hs hm hy
  have hd:(y.den c.ρ).text≠ .undef:=hc1 hc
  cases hy':y.den c.ρ<;>simp only [hy',AV.text,ne_eq,not_true_eq_false]at hd
  rename_i xs
  split at hd
  ·rename_i t ht
   split at hd
   ·rename_i hle
    have hden:(E.text y).den c.ρ= .str t:=by
     simp only [E.den,hy',AV.text,ht]
     rw [if_pos hle]
    have fin: ∀ns:List Int,t=ns.map (fun n=>UInt8.ofNat n.toNat)→ns.length=xs.length→(convert src dst (a.eval x)).run P c.w= .ok (.string (ns.foldl (fun r n=>r.push (UInt8.ofNat n.toNat)) ByteArray.empty)) c.w→zbP P o c n nx sl hp gs a {bu:= [.dfd (.text y)],val:= .e (.text y)}:=fun ns e1 e2 e3=>by
     have e4:(ns.foldl (fun r n=>r.push (UInt8.ofNat n.toNat)) ByteArray.empty)=⟨t.toArray⟩:=by
      rw [foldl_push_bytes,e1]
      simp [ByteArray.empty,ByteArray.emptyWithCapacity]
      try rfl
     rw [e4]at e3
     refine zbP.pure h (v:= .string ⟨t.toArray⟩) (by simp [execOp,ho,e3]) (.c6 ?_) rfl
     rw [hden]
     have hsz:(ByteArray.mk t.toArray).size≤9223372036854775807:=by
      simp only [ByteArray.size,List.size_toArray]
      rw [e1,List.length_map];omega
     have:=Rd.str (w:=c.w) (s:=⟨t.toArray⟩) hsz .nil
     simpa using this
    rw [hy']at q1
    rcases q1.kind with hh|hh|hh|hh|hh|hh|hh|hh|hh|hh
    all_goals first
     |(obtain⟨_,_,_,hh,_⟩:=hh;cases hh;done)
     |(obtain⟨_,_,hh,_⟩:=hh;cases hh;done)
     |skip
    ·obtain⟨p,q,hv,hx,_⟩:=hh
     cases hx
     cases ht
     refine fin [] rfl rfl ?_
     rw [hv]
     cases p with
     |none=>rw [run_convert_bytes_nil c.w src el h1 hu _ _ dst h2];rfl
     |some ad=>
      rw [run_convert_bytes_string c.w src dst el _ 0 q h1 hu h2,run_bytesToString c.w ad 0 q [] (by simp [loadCells,loadCellsFrom])]
    ·obtain⟨b,o',k,q,ys,cs,C,t',fz,sz,f1,hv,hx,_,hb,_,hle',hlen,_,_,hcs,hr⟩:=hh
     cases hx
     obtain⟨ns,rfl,e1,e2⟩:=zFJ ht hr.2
     refine fin ns e1 e2 ?_
     have hl:ns.length=k:=by omega
     have hcell: ∀i,i<k→c.w.cell? ⟨b,o'+i,none⟩=some (.int .u8 (ns.getD i 0)):=fun i hi=>by
      have hi':i<ns.length:=by omega
      have:=hcs i (.int .u8 ns[i]) (by simp [hi'])
      rw [zay hb,this]
      simp [hi']
     have:=run_convert_bytes_arg c.w src el h1 hu b o' k q ns hl hcell dst h2
     rw [hv,this]
     congr 2
     rw [foldl_push_bytes]
     simp [strOfNums,ByteArray.empty,ByteArray.emptyWithCapacity]
     try rfl
    all_goals first
     |(obtain⟨_,_,_,hh,_⟩:=hh;cases hh;done)
     |(obtain⟨_,_,_,_,_,_,_,hh,_⟩:=hh;cases hh;done)
     |(obtain⟨_,_,_,_,hh,_⟩:=hh;cases hh;done)
     |(obtain⟨_,hh,_⟩:=hh;cases hh;done)
   ·exact absurd rfl hd
  ·exact absurd rfl hd
 ·cases he
theorem zxl {ρ:List AV} {x:E} {b:Bool} {gs:Gd} (h1:x.den ρ= .bool b) (h2:zfS ρ gs):zfS ρ ((x,b)::gs):=by
 intro g hg
 rcases yqmc.1 hg with rfl|hg
 ·exact h1
 ·exact h2 g hg
theorem zBN (h:Pre P c n nx sl hp a sl0 hp0 o gs) {x y z:Operand} (ho:o.op= .pick x y z) (he:zcg P sg sl0 hp0 nv nx gs o=some e) (hc: ∀q∈e.bu,Cn.den c.ρ q):zbP P o c n nx sl hp gs a e:=by
 have hm1:x∈o.op.operands:=by simp [ho,Op.operands]
 have hm2:y∈o.op.operands:=by simp [ho,Op.operands]
 have hm3:z∈o.op.operands:=by simp [ho,Op.operands]
 simp only [zcg,ho,yqbe]at he
 obtain⟨s,hs,he⟩:=he
 have hr:=h.cz hs hm1
 split at he
 ·rename_i q
  have ex: ∀b,a.eval x= .bool b→(execOp a.eval o).run P c.w= .ok (.value (if b then a.eval y else a.eval z)) c.w:=fun b hb=>by
   simp [execOp,ho,hb,asBool]
  obtain⟨f,q1⟩: ∃f,Rd c.w [a.eval x] [q.den c.ρ] f:=by
   generalize a.eval x=v at hr
   cases hr with
   |e h1 _ _=>exact⟨_,h1⟩
  unfold zDo at he
  split at he
  ·obtain⟨s',hs',rfl⟩:=yqme.1 he
   exact zbP.pure h (v:=a.eval y) (ex true (zim q1 rfl)) (h.cz hs' hm2) rfl
  ·obtain⟨s',hs',rfl⟩:=yqme.1 he
   exact zbP.pure h (v:=a.eval z) (ex false (zim q1 rfl)) (h.cz hs' hm3) rfl
  ·split at he
   ·rename_i y' z' hy hz
    simp at he;subst he
    simp only [yqbe]at hy hz
    obtain⟨sy,hsy,hy⟩:=hy
    obtain⟨sz,hsz,hz⟩:=hz
    have hd:(q.den c.ρ).fj≠ .undef:=hc1 hc
    cases hq:q.den c.ρ<;>simp only [hq,AV.fj,ne_eq,not_true_eq_false]at hd
    rename_i b
    cases b with
    |true=>
     have r:=zkM (a:=a) hsy (fun t ht=>by subst ht;rw [h.sl t hm2];exact h.rel.c7 t) (zxl hq h.gs)
     obtain⟨f',g1,g2⟩:=zes r hy
     exact zbP.pure h (v:=a.eval y) (ex true (zim q1 hq)) (.e (f:=f') (by simpa [E.den,hq,AV.cond]using g1) g2 .nil) rfl
    |false=>
     have r:=zkM (a:=a) hsz (fun t ht=>by subst ht;rw [h.sl t hm3];exact h.rel.c7 t) (zxl hq h.gs)
     obtain⟨f',g1,g2⟩:=zes r hz
     exact zbP.pure h (v:=a.eval z) (ex false (zim q1 hq)) (.e (f:=f') (by simpa [E.den,hq,AV.cond]using g1) g2 .nil) rfl
   ·cases he
 ·cases he
end
section
variable {P:Program} {c:Cx} {n nx:Nat} {sl sl0:Nat→SV} {hp hp0:Nat→Option Ent} {a:Act} {o:Oper} {gs:Gd} {e:Eff} {sg:SgT} {nv:Nat}
theorem zof {w:World} {v:Value} {x:AV} {f:List Nat} (h:Rd w [v] [x] f) (h1: ∀cs,x≠ .agg cs) (h2: ∀cs,x≠ .tup cs):v.oneCell'=true:=by
 cases h<;>first
  |rfl
  |exact absurd rfl (h1 _)
  |exact absurd rfl (h2 _)
theorem one_cells {v:Value} (h:v.oneCell'=true):v.cells= #[v]:=by
 cases v<;>first|rfl|(simp [Value.oneCell']at h)
theorem znq {t:TypeId} {s:SV} {v:Value} {cs:List SV} {ck:List Cn} (h:SR c [s] [v]) (hc:zpW P t s=some (cs,ck)) (hk: ∀q∈ck,q.den c.ρ):
  SR c cs v.cells.toList∧(∀u∈v.cells.toList,u.oneCell'=true):=by
 unfold zpW at hc
 split at hc
 ·split at hc
  ·simp at hc;obtain⟨rfl,rfl⟩:=hc
   cases h with
   |agg h1 h2 _=>exact⟨by simpa [Value.cells]using h2,by simpa [Value.cells]using h1⟩
  ·rename_i x
   simp at hc;obtain⟨rfl,rfl⟩:=hc
   cases h with
   |e h1 h2 _=>
    obtain⟨as_,has,hl⟩:=hc1 hk
    obtain⟨vs,rfl,h3,h4⟩:=zmU h1 has
    refine⟨?_,by simpa [Value.cells]using h3⟩
    have hlen:=h4.len
    have key: ∀k,k≤as_.length→SR c ((List.range k).map fun j=>SV.e (.fld x j 1 false)) (vs.take k):=by
     intro k
     induction k with
     |zero=>intro _;simpa using SR.nil
     |succ k ih=>
      intro hk
      have hk':k<as_.length:=by omega
      obtain⟨u,g,hu,hg,hr⟩:=h4.at (show as_[k]?=some as_[k] by simp [hk'])
      rw [List.range_succ,List.map_append,List.take_succ_eq_append_getElem (by omega)]
      refine(ih (by omega)).app ?_
      have hu':vs[k]'(by omega)=u:=by simpa [show k<vs.length by omega]using hu
      rw [hu']
      exact .e (f:=g) (by simpa [E.den,AV.fld,has,AV.cells,hk']using hr) (fun b hb=>h2 b (hg b hb)) .nil
    have:=key as_.length (Nat.le_refl _)
    rw [←hlen,List.take_length,hlen,hl]at this
    simpa [Value.cells]using this
  ·cases hc
 ·split at hc
  ·rename_i x
   simp at hc;obtain⟨rfl,rfl⟩:=hc
   cases h with
   |e h1 h2 _=>
    have hq:(∀cs,x.den c.ρ≠ .agg cs)∧ ∀cs,x.den c.ρ≠ .tup cs:=by
     cases x<;>first
      |exact(hc1 hk:Cn.den c.ρ (.cells _ 1))
      |exact⟨by simp [E.den],by simp [E.den]⟩
    have h1c:=zof h1 hq.1 hq.2
    rw [one_cells h1c]
    exact⟨.e h1 h2 .nil,by simpa using h1c⟩
  ·cases hc
  ·cases hc
  ·cases hc
  ·cases hc
  ·cases hc
  ·cases hc
  ·cases hc
  ·cases hc
  ·simp at hc;obtain⟨rfl,rfl⟩:=hc
   have h1c:v.oneCell'=true:=by
    cases h<;>first|rfl|(rename_i hh _ _ _ _ _;exact absurd rfl (hh _))|skip
    all_goals first
     |rfl
     |exact(show∀(i:Nat),SV.lent _=SV.lent i→False from by assumption) _ rfl|>.elim
     |exact(show∀(t g n:Nat) (p:Pth) (x:E),SV.via _ _ _ _ _=SV.via t g n p x→False from by assumption) _ _ _ _ _ rfl|>.elim
     |exact(show∀(t g n:Nat) (p:Pth) (x i:E) (sz o:Nat),SV.vptr _ _ _ _ _ _ _ _=SV.vptr t g n p x i sz o→False from by assumption) _ _ _ _ _ _ _ _ rfl|>.elim
     |(exfalso;simp_all;done)
   rw [one_cells h1c]
   exact⟨h,by simpa using h1c⟩
theorem zIa (h:Pre P c n nx sl hp a sl0 hp0 o gs) (ob:Obj) (hv:Value):zFC c (c.new nx ob hv []) nx:=
 ⟨rfl,rfl,rfl,rfl,fun t ht=>ht.imp id (fun hh=>by subst hh;exact⟨Nat.le_refl _,by simp [zan]⟩)⟩
theorem zl8 (h:Pre P c n nx sl hp a sl0 hp0 o gs): ¬c.U nx:=h.new nx (Nat.le_refl _) (by omega)
theorem zbP.box (h:Pre P c n nx sl hp a sl0 hp0 o gs) {ty:TypeId} {g:Bool} {cs:List SV} {v:Value} {ck:List Cn} (hr:(execOp a.eval o).run P c.w= .ok (.value (.pointer (some ⟨c.w.heap.size,0,none⟩))) (c.w.alloc (.cells v.cells ty)))
  (hs:SR c cs v.cells.toList) (h1: ∀u∈v.cells.toList,u.oneCell'=true):zbP P o c n nx sl hp gs a {bu:=ck,val:= .cj nx 0,bq:= [(nx,zfR gs (.box ty g cs))]}:=by
 intro next Q hk
 unfold Oper.wp
 rw [hr,Oper.upon_value]
 have hU:=zl8 h
 have keep:zpB c (c.new nx (.cells v.cells ty) (.pointer (some ⟨c.w.heap.size,0,none⟩)) []):=Cx.ig (fun g hg=>hU (h.rel.ca _ _ hg))
 have hH:(c.new nx (.cells v.cells ty) (.pointer (some ⟨c.w.heap.size,0,none⟩)) []).H nx 0= .pointer (some ⟨c.w.heap.size,0,none⟩):=by simp [Cx.new]
 have hK:(c.new nx (.cells v.cells ty) (.pointer (some ⟨c.w.heap.size,0,none⟩)) []).K nx 0:= .inr ⟨rfl,rfl⟩
 have hrel:=h.rel.new hU (.cells v.cells ty) (.pointer (some ⟨c.w.heap.size,0,none⟩)) (.box ty g cs) gs h.gs (by intros;simp)
  ⟨c.w.heap.size,v.cells,hK,hH,by simp [Cx.new],by simp [Cx.new],heap_alloc_new _ _,h1,hs.keep keep⟩
 exact hk _ _ (zIa h _ _) (hrel.put ((SR.cj hK hH .nil).mkGd gs h.gs) o.dst)
theorem zAM (h:Pre P c n nx sl hp a sl0 hp0 o gs) {t:TypeId} (ho:o.op= .alloc t) (he:zcg P sg sl0 hp0 nv nx gs o=some e) (hc: ∀q∈e.bu,Cn.den c.ρ q):zbP P o c n nx sl hp gs a e:=by
 simp only [zcg,ho,yqbe]at he
 obtain⟨z,⟨i,hi,hz⟩,s,hs,⟨cs,ck⟩,hcs,he⟩:=he
 split at he
 ·cases he
 ·split at he
  ·cases he
  ·rename_i hck
   have hck:ck= []:=by simpa using hck
   simp at he;subst he
   have hs':zd4 z=some s:=by simpa [zF6,hi,hz]using hs
   obtain⟨q1,q2⟩:=znq (znx (c:=c) hs') hcs (by simp [hck])
   refine zbP.box h (v:=z) ?_ q1 q2
   simp [execOp,ho,Instr.alloc,zeroValue,typeInfo,hi,hz,newVar,newRow]
theorem zFf (h:Pre P c n nx sl hp a sl0 hp0 o gs) {t:TypeId} {x:Operand} (ho:o.op= .box t x) (he:zcg P sg sl0 hp0 nv nx gs o=some e) (hc: ∀q∈e.bu,Cn.den c.ρ q):zbP P o c n nx sl hp gs a e:=by
 have hm:x∈o.op.operands:=by simp [ho,Op.operands]
 simp only [zcg,ho,yqbe]at he
 obtain⟨s,hs,⟨cs,ck⟩,hcs,he⟩:=he
 split at he
 ·cases he
 ·simp at he;subst he
  obtain⟨q1,q2⟩:=znq (h.cz hs hm) hcs hc
  refine zbP.box h (v:=a.eval x) ?_ q1 q2
  simp [execOp,ho,Instr.box,newVar,newRow]
end
section
variable {P:Program} {c:Cx} {n nx:Nat} {sl sl0:Nat→SV} {hp hp0:Nat→Option Ent} {a:Act} {o:Oper} {gs:Gd} {e:Eff} {sg:SgT} {nv:Nat}
def setVs {α:Type} (cs:List α) (o:Nat) (vs:List α):List α:=cs.take o++vs++cs.drop (o+vs.length)
theorem zlz {α:Type} (cs vs:List α) (o:Nat) (h:o+vs.length≤cs.length) (i:Nat):(setVs cs o vs)[i]?=if o≤i∧i<o+vs.length then vs[i-o]? else cs[i]?:=by
 unfold setVs
 have ht:(cs.take o).length=o:=by rw [List.length_take];omega
 rw [List.append_assoc]
 by_cases h1:i<o
 ·rw [if_neg (by omega),List.getElem?_append_left (by omega),List.getElem?_take,if_pos h1]
 ·rw [List.getElem?_append_right (by omega),ht]
  by_cases h2:i<o+vs.length
  ·rw [if_pos (by omega),List.getElem?_append_left (by omega)]
  ·rw [if_neg (by omega),List.getElem?_append_right (by omega),List.getElem?_drop]
   congr 1;omega
theorem zlo {α:Type} (cs vs:List α) (o:Nat) (h:o+vs.length≤cs.length):(setVs cs o vs).length=cs.length:=by
 simp [setVs];omega
theorem SR.setVs {cs vs:List SV} {C V:List Value} {k:Nat} (h:SR c cs C) (hv:SR c vs V):SR c (zA7 cs k vs) (Go.Proofs.YtgobcjbjogkpjaaGreatDoor.setVs C k V):=by
 unfold zA7 Go.Proofs.YtgobcjbjogkpjaaGreatDoor.setVs
 have hl:=hv.len
 rw [←hl]
 exact((h.split k).1.app hv).app (h.split _).2
theorem zzY (vs:List Value): ∀(k off:Nat) (C:Array Value),off+k+vs.length≤C.size→
  ((vs.zipIdx k).foldl (fun cs (p:Value × Nat)=>cs.setIfInBounds (off+p.2) p.1) C).toList=setVs C.toList (off+k) vs:=by
 induction vs with
 |nil=>intro k off C _;simp [setVs]
 |cons v vs ih=>
  intro k off C h
  simp only [yqlc]at h
  simp only [List.zipIdx_cons,List.foldl_cons]
  rw [ih (k+1) off _ (by simp;omega)]
  apply List.ext_getElem?
  intro i
  rw [zlz _ _ _ (by simp;omega),zlz _ _ _ (by simp;omega)]
  simp only [Array.toList_setIfInBounds,List.getElem?_set,yqlc,Array.length_toList]
  by_cases h1:i=off+k
  ·subst h1
   rw [if_neg (by omega),if_pos rfl,if_pos (by omega),if_pos (by omega)]
   simp
  ·by_cases h2:off+(k+1)≤i∧i<off+(k+1)+vs.length
   ·rw [if_pos h2,if_pos (by omega),show i-(off+k)=(i-(off+(k+1)))+1 by omega,List.getElem?_cons_succ]
   ·rw [if_neg h2,if_neg (by omega),if_neg (by omega)]
theorem zna {b off:Nat} {t:TypeId}: ∀(vs:List Value) (i:Nat) (w:World) (C:Array Value),w.heap[b]?=some (.cells C t (0,0))→off+i+vs.length≤C.size→(∀v∈vs,v.oneCell'=true)→
  (storeCells ⟨b,off,none⟩ vs i).run P w= .ok () (za5 w b (off+i) vs)
 | [],i,w,C,_,_,_=>by simp [storeCells,za5]
 |v::vs,i,w,C,hb,hl,h1=>by
  simp only [yqlc]at hl
  have hi:off+i<C.size:=by omega
  have hcell:w.cell? ⟨b,off+i,none⟩=some C[off+i]:=by simp [World.cell?,hb,hi]
  have hfro:w.frozen? ⟨b,off+i,none⟩=false:=by simp [World.frozen?,hb]
  have hst:(store ((⟨b,off,none⟩:Addr).add i) v).run P w= .ok () (w.setCell ⟨b,off+i,none⟩ v):=by
   rw [Addr.add_lit,run_store P w _ v _ (h1 v (by simp)),hcell]
   simp [hfro]
  have h2:=heap_setCell_same w b (off+i) C t v hb
  have ih:=zna (off:=off) vs (i+1) (w.setCell ⟨b,off+i,none⟩ v) _ h2 (by simp;omega) (fun x hx=>h1 x (by simp [hx]))
  simp only [storeCells,Sem.run_bind,hst,Result.andThen_ok,ih,za5]
  rw [Nat.add_assoc]
theorem ziO {w:World} {b off:Nat} {t:TypeId} {vs:List Value} {C:Array Value} (hb:w.heap[b]?=some (.cells C t (0,0))) (hl:off+vs.length≤C.size):
  Mod [b] w (za5 w b off vs)∧(za5 w b off vs).heap[b]?=some (.cells (setVs C.toList off vs).toArray t (0,0))∧(za5 w b off vs).heap.size=w.heap.size:=by
 obtain⟨hm,C',h1,h2,h3,h4⟩:=zl4 vs w b off C t hb hl
 refine⟨hm, ?_, ?_⟩
 ·rw [h1]
  congr 2
  apply Array.ext'
  apply List.ext_getElem?
  intro i
  rw [zlz _ _ _ (by simpa using hl)]
  by_cases hi:off≤i∧i<off+vs.length
  ·rw [if_pos hi]
   have hlt:i-off<vs.length:=by omega
   have:=h3 (i-off) vs[i-off] (by simp [hlt])
   rw [show off+(i-off)=i by omega]at this
   rw [Array.getElem?_toList,this];simp [hlt]
  ·rw [if_neg hi,Array.getElem?_toList,Array.getElem?_toList]
   exact h4 i (by omega)
 ·clear hm h1 h2 h3 h4 hl
  induction vs generalizing w off C with
  |nil=>rfl
  |cons v vs ih=>
   simp only [za5]
   rw [ih (heap_setCell_same w b off C t v hb)]
   simp [World.setCell]
theorem zoe {w:World} {b off:Nat} {t ty:TypeId} {v:Value} {C:Array Value} (hb:w.heap[b]?=some (.cells C ty (0,0))) (ht:zog P t=true) (hs:v.cells.size=P.cellsOf t) (hl:off+v.cells.size≤C.size) (h1: ∀u∈v.cells.toList,u.oneCell'=true):
  (Instr.storeAt t (.pointer (some ⟨b,off,none⟩)) v).run P w= .ok () (za5 w b off v.cells.toList):=by
 have:=zna (P:=P) (off:=off) v.cells.toList 0 w C hb (by simpa using hl) h1
 simp only [Nat.add_zero]at this
 simp [Instr.storeAt,Instr.sureAddr,storeVar,zg5 ht,hs,this]
def Cx.wr (c:Cx) (w':World) (t:Nat):Cx:={c with w:=w',E:=fun u=>if u=t then c.E u+1 else c.E u}
theorem Cx.jc {c:Cx} {w':World} {t b:Nat} (gw:GW c) (htop:b∈(c.G t).top) (hm:Mod [b] c.w w'):zpB c (c.wr w' t):=by
 have hown:b∈(c.G t).own:=by simp [GI.own,htop]
 refine⟨rfl,rfl,fun q _ hq=>hq,fun q hq hok=>hm.block q hq ?_,fun u g hu=>⟨hu,rfl⟩,fun u g hu=> ?_⟩
 ·simp only [List.mem_singleton]
  rintro rfl
  exact hok.1 ⟨t,htop⟩
 ·by_cases hut:u=t
  ·have e1:(c.wr w' t).E u=c.E u+1:=by simp only [Cx.wr,if_pos hut]
   exact⟨by omega,fun h=>by omega⟩
  ·have e1:(c.wr w' t).E u=c.E u:=by simp only [Cx.wr,if_neg hut]
   rw [e1]
   refine⟨Nat.le_refl _,fun _=>⟨rfl,fun q hq hq2=>hm.block q hq2 ?_⟩⟩
   simp only [List.mem_singleton]
   rintro rfl
   exact gw.cr t u (Ne.symm hut) q hown (by simp [GI.own,hq])
theorem Rel.write (h:Rel c n sl hp a) {t:Nat} {e0:Ent} {b:Nat} {w':World} (hres:Res c.ρ (hp t) e0) (htop:b∈(c.G t).top) (hm:Mod [b] c.w w') (hsz:w'.heap.size=c.w.heap.size) (e1:Ent) (hne: ∀hs f,e1≠ .gd hs f)
  (he:znH (c.wr w' t) t e1):Rel (c.wr w' t) n sl (zfe hp [(t,e1)]) a∧zpB c (c.wr w' t):=by
 have hown:b∈(c.G t).own:=by simp [GI.own,htop]
 have hkeep:zpB c (c.wr w' t):=Cx.jc h.gw htop hm
 have hup: ∀u,zfe hp [(t,e1)] u=if u=t then some e1 else hp u:=fun u=>rfl
 refine⟨h.change (fun u=>u=t) hkeep ⟨hm.os.trans h.base.os,hm.tape.trans h.base.tape,hm.output.trans h.base.output,Nat.le_trans h.base.size hm.size,h.base.pins,fun q hq hmu=> ?_,h.base.pk,h.base.lo⟩
  (fun u hu=>⟨by rw [hup,if_neg hu],rfl,by simp [Cx.wr,hu],fun g hg=>hg⟩) (fun u hu q hq=>hm.block q (h.gw.inb u q (by simp [GI.own,hq])) ?_) (fun u hu=> ?_) ⟨h.gw.nodup,h.gw.cr,h.gw.allow,fun u q hq=> ?_⟩ h.ca (fun u f hf=> ?_),hkeep⟩
 ·refine(hm.block q (Nat.lt_of_lt_of_le hq h.base.size) ?_).trans (h.base.block q hq hmu)
  simp only [List.mem_singleton]
  rintro rfl
  rcases h.gw.allow t q hown with hh|hh
  ·exact absurd hh (Nat.not_le.2 hq)
  ·exact hmu hh
 ·simp only [List.mem_singleton]
  rintro rfl
  exact h.gw.cr t u (Ne.symm hu) q hown (by simp [GI.own,hq])
 ·subst hu
  rw [hup,if_pos rfl]
  refine⟨fun e' hr=> ?_,fun hn=> ?_⟩
  ·cases e1<;>first
    |(simp only [Res]at hr;subst hr;exact he)
    |exact absurd rfl (hne _ _)
  ·cases e1<;>first
    |exact absurd rfl (hne _ _)
    |exact absurd rfl (hn _)
 ·show q<w'.heap.size
  rw [hsz];exact h.gw.inb u q hq
 ·rw [hup]at hf
  split at hf
  ·rename_i hu;subst hu
   cases hh:hp u with
   |none=>rw [hh]at hres;exact hres.elim
   |some e9=>exact h.ct u e9 hh
  ·exact h.ct u f hf
end
section
variable {P:Program} {c:Cx} {n nx:Nat} {sl sl0:Nat→SV} {hp hp0:Nat→Option Ent} {a:Act} {o:Oper} {gs:Gd} {e:Eff} {sg:SgT} {nv:Nat}
theorem zwe (h:Pre P c n nx sl hp a sl0 hp0 o gs) {t:TypeId} {x y:Operand} (ho:o.op= .store t x y) {b k:Nat} {s:SV} (hx:zaj sl0 gs x=some (.cj b k)) (hy:zaj sl0 gs y=some s)
  (he:zkZ P hp0 gs t (.cj b k) s=some e) (hc: ∀q∈e.bu,Cn.den c.ρ q):zbP P o c n nx sl hp gs a e:=by
 have r1:=h.cz hx (by simp [ho,Op.operands])
 have r2:=h.cz hy (by simp [ho,Op.operands])
 simp only [zkZ]at he
 split at he
 ·rename_i ty g cs vs ck hl hcs
  split at he
  ·rename_i hh
   obtain⟨hty,hlen,hle,rfl⟩:=hh
   simp at he;subst he
   obtain⟨q1,q2⟩:=znq r2 hcs hc
   generalize hv:a.eval x=v at r1
   cases r1 with
   |cj h1 h2 h3=>
    rename_i q
    have hres0:=za2 hl h.gs
    obtain⟨q',C,e1,e2,e3,e4,e5,e5',e6⟩:=h.eh b _ hres0
    rw [h2]at e2;cases e2
    have hres:Res c.ρ (hp b) (.box ty g cs):=by
     cases hh:hp0 b with
     |none=>rw [hh]at hres0;exact hres0.elim
     |some e9=>rw [h.hp b e9 hh];rwa [hh]at hres0
    have hlC:=e6.len
    have hlV:=q1.len
    obtain⟨m1,m2,m3⟩:=ziO (vs:=(a.eval y).cells.toList) e5 (show k+_≤C.size by simp at hlC hlV ⊢;omega)
    obtain⟨hrel,hkeep⟩:=h.rel.write hres (by rw [e3];simp) m1 m3 (.box ty g (zA7 cs k vs)) (by intros;simp) (w':=za5 c.w q k (a.eval y).cells.toList) (by
     have hk':zpB c (c.wr (za5 c.w q k (a.eval y).cells.toList) b):=Cx.jc h.rel.gw (by rw [e3];simp) m1
     refine⟨q,_,e1,h2,e3,e4,m2, ?_, ?_⟩
     ·intro u hu
      simp only [List.toList_toArray]at hu
      unfold setVs at hu
      simp only [yqma]at hu
      rcases hu with(hu|hu)|hu
      ·exact e5' u (List.mem_of_mem_take hu)
      ·exact q2 u hu
      ·exact e5' u (List.mem_of_mem_drop hu)
     ·simpa using(e6.setVs q1 (k:=k)).keep hk')
    intro next Q hk
    unfold Oper.wp
    have hr:(execOp a.eval o).run P c.w= .ok .skip (za5 c.w q k (a.eval y).cells.toList):=by
     have:=zoe (P:=P) (t:=t) (v:=a.eval y) (off:=k) e5 hty (by simp at hlV;omega) (by simp at hlC hlV;omega) q2
     simp [execOp,ho,hv,this]
    rw [hr,Oper.upon_skip]
    exact hk _ (c.wr (za5 c.w q k (a.eval y).cells.toList) b) ⟨rfl,rfl,rfl,rfl,fun t ht=> .inl ht⟩ (hrel.put ((SR.undef .nil).mkGd []) o.dst)
  ·cases he
 ·cases he
theorem zzi {places:List (Nat × Nat)} {tys:List TypeId}: ∀(ps:List (Nat × SV)) (vs:List (Nat × Value)) (cs:List SV) (C:Array Value) (r:List SV × List Cn),zCj P places tys ps cs=some r→(∀q∈r.2,q.den c.ρ)→
  ps.map (·.1)=vs.map (·.1)→SR c (ps.map (·.2)) (vs.map (·.2))→SR c cs C.toList→(∀u∈C.toList,u.oneCell'=true)→
  ∃C',Instr.fill (places.toArray[·]?) C vs=some C'∧SR c r.1 C'.toList∧ ∀u∈C'.toList,u.oneCell'=true
 | [],vs,cs,C,r,h,hk,he,_,hC,h1=>by
  have:vs= []:=by simpa using he.symm
  subst this
  simp [zCj]at h;subst h
  exact⟨C,rfl,hC,h1⟩
 |(i,s)::ps, [],cs,C,r,h,hk,he,_,hC,h1=>by simp at he
 |(i,s)::ps,(j,v)::vs,cs,C,r,h,hk,he,hs,hC,h1=>by
  simp only [List.map_cons,List.cons.injEq]at he
  obtain⟨rfl,he⟩:=he
  simp only [List.map_cons]at hs
  obtain⟨hs1,hs2⟩:=hs.cf
  unfold zCj at h
  split at h
  ·rename_i off sz t hpl hty
   split at h
   ·rename_i us ck hcs
    split at h
    ·rename_i hh
     obtain⟨hsz,hle⟩:=hh
     obtain⟨r',hr',rfl⟩:=yqme.1 h
     obtain⟨q1,q2⟩:=znq hs1 hcs (fun q hq=>hk q (by simp [hq]))
     have hl1:=q1.len
     have hl2:=hC.len
     have hfs:(v.cells.zipIdx.foldl (fun cs (p:Value × Nat)=>cs.setIfInBounds (off+p.2) p.1) C).toList=setVs C.toList off v.cells.toList:=by
      have:=zzY v.cells.toList 0 off C (by simp at hl1 hl2 ⊢;omega)
      rw [←Array.foldl_toList,Array.toList_zipIdx]
      simpa using this
     obtain⟨C',g1,g2,g3⟩:=zzi ps vs (zA7 cs off us) (v.cells.zipIdx.foldl (fun cs (p:Value × Nat)=>cs.setIfInBounds (off+p.2) p.1) C) r' hr' (fun q hq=>hk q (by simp [hq])) he hs2 (by rw [hfs];exact hC.setVs q1) (by
      rw [hfs]
      intro u hu
      unfold setVs at hu
      simp only [yqma]at hu
      rcases hu with(hu|hu)|hu
      ·exact h1 u (List.mem_of_mem_take hu)
      ·exact q2 u hu
      ·exact h1 u (List.mem_of_mem_drop hu))
     refine⟨C', ?_,g2,g3⟩
     unfold Instr.fill
     have hpl':places.toArray[i]?=some (off,sz):=by simpa using hpl
     simp only [hpl']
     rw [if_neg (by simp at hl1 hl2 ⊢;omega)]
     exact g1
    ·cases h
   ·cases h
  ·cases h
theorem znp {sl0:Nat→SV} {gs:Gd} (L:List Operand) (h: ∀x s,zaj sl0 gs x=some s→x∈L→SR c [s] [a.eval x]): ∀{xs:List (Nat × Operand)} {ss:List (Nat × SV)},(∀x∈xs,x.2∈L)→xs.mapM (fun(p:Nat × Operand)=>(zaj sl0 gs p.2).map fun s=>(p.1,s))=some ss→
  ss.map (·.1)=xs.map (·.1)∧SR c (ss.map (·.2)) (xs.map fun p=>a.eval p.2)
 | [],ss,_,hm=>by simp at hm;subst hm;exact⟨rfl, .nil⟩
 |x::xs,ss,hL,hm=>by
  rw [List.mapM_cons]at hm
  simp only [Option.bind_eq_bind,yqbe,yqme]at hm
  obtain⟨_,⟨s,hs,rfl⟩,ss',hss,hm⟩:=hm
  simp at hm;subst hm
  obtain⟨e1,e2⟩:=znp L h (fun y hy=>hL y (by simp [hy])) hss
  exact⟨by simp [e1],(h _ s hs (hL x (by simp))).app e2⟩
theorem zAz (h:Pre P c n nx sl hp a sl0 hp0 o gs) {t:TypeId} {parts:Array (Nat × Operand)} (ho:o.op= .build t parts) (he:zcg P sg sl0 hp0 nv nx gs o=some e) (hc: ∀q∈e.bu,Cn.den c.ρ q):zbP P o c n nx sl hp gs a e:=by
 simp only [zcg,ho,yqbe]at he
 obtain⟨ps,hps,he⟩:=he
 obtain⟨e1,e2⟩:=znp (c:=c) (a:=a) (parts.toList.map (·.2)) (fun x s hx hm=>h.cz hx (by simpa [ho,Op.operands]using hm)) (fun x hx=>List.mem_map.2 ⟨x,hx,rfl⟩) hps
 unfold zzQ at he
 split at he
 ·rename_i it fs hit hu
  split at he
  ·rename_i zs places hz hpl
   obtain⟨r,hr,rfl⟩:=yqme.1 he
   obtain⟨z,hz0,hz1⟩:=yqbe.1 hz
   have hzr:=znx (c:=c) hz1
   obtain⟨cells,g1,g2,g3⟩:=zzi (c:=c) (P:=P) ps (parts.toList.map fun p=>(p.1,a.eval p.2)) zs.toList z.cells r hr hc (by rw [e1];simp) (by rw [List.map_map];exact e2)
    (by cases hzr with|agg h1 h2 _=>simpa [Value.cells]using h2) (by cases hzr with|agg h1 h2 _=>simpa [Value.cells]using h1)
   have hb:P.built t (parts.map fun(x:Nat × Operand)=>(x.1,a.eval x.2)).toList=some cells:=by
    simp only [Program.built,hit,hu,hz0,hpl]
    simpa using g1
   have:=SR.agg (c:=c) (cs:=SVL.of r.1) (as_:=cells.toList) g3 (by rw [SVL.a7];exact g2) .nil
   refine zbP.pure h (v:= .agg cells) ?_ (by simpa using this) rfl
   have hrun:=run_build c.w t _ cells hb
   simp only [execOp,ho,Sem.run_bind]
   rw [hrun];rfl
  ·cases he
 ·cases he
end
section
variable {P:Program} {c:Cx} {n nx:Nat} {sl sl0:Nat→SV} {hp hp0:Nat→Option Ent} {a:Act} {o:Oper} {gs:Gd} {e:Eff} {sg:SgT} {nv:Nat}
def Cx.bw (c:Cx) (ts:List Nat):Cx:={c with G:=fun u=>if u∈ts then⟨[], []⟩else c.G u,E:=fun u=>if u∈ts then c.E u+1 else c.E u}
theorem Cx.jx {c:Cx} {ts:List Nat} {b:Nat} (h:(c.bw ts).M b): ∃u,u∉ts∧b∈(c.G u).top:=by
 obtain⟨u,hu⟩:=h
 simp only [Cx.bw]at hu
 split at hu
 ·simp at hu
 ·exact⟨u,by assumption,hu⟩
theorem Cx.fg {c:Cx} {ts:List Nat} {b:Nat} (h:c.ok b):(c.bw ts).ok b:=⟨fun hm=>by obtain⟨u,_,hu⟩:=Cx.jx hm;exact h.1 ⟨u,hu⟩,h.2⟩
theorem Cx.j8 (c:Cx) (ts:List Nat):zpB c (c.bw ts):=⟨rfl,rfl,fun _ _ h=>Cx.fg h,fun _ _ _=>rfl,fun _ _ h=>⟨h,rfl⟩,fun t g _=>by
 by_cases ht:t∈ts
 ·have e1:(c.bw ts).E t=c.E t+1:=by simp only [Cx.bw,if_pos ht]
  exact⟨by omega,fun h=>by omega⟩
 ·have e1:(c.bw ts).E t=c.E t:=by simp only [Cx.bw,if_neg ht]
  have e2:(c.bw ts).G t=c.G t:=by simp only [Cx.bw,if_neg ht]
  rw [e1]
  exact⟨Nat.le_refl _,fun _=>⟨e2,fun _ _ _=>rfl⟩⟩⟩
theorem zBu {c:Cx} (gw:GW c) {ts us:List Nat} (hs: ∀t∈us,t∈ts) {b:Nat} (h:c.en us b):(c.bw ts).ok b:=by
 rcases h with h|⟨t,ht,hb⟩
 ·exact Cx.fg h
 ·have hown:b∈(c.G t).own:=by simp [GI.own,hb]
  refine⟨fun hm=> ?_, .inr (gw.allow t b hown)⟩
  obtain⟨u,hu,hbu⟩:=Cx.jx hm
  have:t≠u:=fun hh=>hu (hh▸hs t ht)
  exact gw.cr t u this b hown (by simp [GI.own,hbu])
def zlL (e:Ent) (g:Nat) (x:E):Prop:=(∃ety sz d,e= .row ety sz g x d)∨ ∃ety sz l ep,e= .deep ety sz l g ep x
theorem zlL.ne {e:Ent} {g:Nat} {x:E} (h:zlL e g x): ∀hs f,e≠ .gd hs f:=by
 rcases h with⟨_,_,_,rfl⟩|⟨_,_,_,_,rfl⟩<;>intros<;>simp
theorem zlL.rd {e:Ent} {g t:Nat} {x:E} (h:zlL e g x) (k:znH c t e):c.K t g∧ ∃f,Rd c.w [c.H t g] [x.den c.ρ] f∧ ∀b∈f,b∈(c.G t).top∨c.ok b:=by
 rcases h with⟨_,_,_,rfl⟩|⟨_,_,_,_,rfl⟩
 ·obtain⟨q1,q2,N,q3,q4,_⟩:=k
  obtain⟨f,r1,r2,_⟩:=q3.rd
  exact⟨q1,f,r1,fun b hb=>(r2 b hb).imp id (q4 b)⟩
 ·obtain⟨q1,q2,_,q3,_⟩:=k
  obtain⟨f,r1,r2⟩:=q3.rd
  exact⟨q1,f,r1,fun b hb=> .inl (r2 b hb)⟩
theorem zlL.fun {e:Ent} {g g':Nat} {x x':E} (h:zlL e g x) (k:zlL e g' x'):g=g'∧x=x':=by
 rcases h with⟨_,_,_,rfl⟩|⟨_,_,_,_,rfl⟩<;>rcases k with⟨_,_,_,hh⟩|⟨_,_,_,_,hh⟩<;>cases hh<;>exact⟨rfl,rfl⟩
theorem zew {gs:Gd} {ρ:List AV} (k:zfS ρ gs): ∀{ts:List Nat} {l:List (Nat × Ent)},za9 hp0 gs ts=some l→
  (∀t e,(t,e)∈l→t∈ts∧gs= []∧ ∃g x f,e= .bw g x∧Res ρ (hp0 t) f∧zlL f g x)∧
  (∀t∈ts,(∃g x,(t,Ent.bw g x)∈l)∨(∃g x,Res ρ (hp0 t) (.bw g x))∨ ∃ty g cs,Res ρ (hp0 t) (.box ty g cs))
 | [],l,h=>by simp [za9]at h;subst h;simp
 |t::ts,l,h=>by
  unfold za9 at h
  split at h
  ·rename_i ety sz g x d l' hl hl'
   split at h
   ·rename_i hg
    simp at h;subst h
    obtain⟨h1,h2⟩:=zew k hl'
    refine⟨fun u e hu=> ?_,fun u hu=> ?_⟩
    ·rcases yqmc.1 hu with hu|hu
     ·cases hu
      exact⟨by simp,by simpa using hg,g,x,_,rfl,za2 hl k, .inl ⟨_,_,_,rfl⟩⟩
     ·obtain⟨p,q,r⟩:=h1 u e hu
      exact⟨by simp [p],q,r⟩
    ·rcases yqmc.1 hu with rfl|hu
     ·exact .inl ⟨g,x,by simp⟩
     ·rcases h2 u hu with⟨g',x',hh⟩|hh
      ·exact .inl ⟨g',x',by simp [hh]⟩
      ·exact .inr hh
   ·cases h
  ·rename_i ety sz dl g ep x l' hl hl'
   split at h
   ·rename_i hg
    simp at h;subst h
    obtain⟨h1,h2⟩:=zew k hl'
    refine⟨fun u e hu=> ?_,fun u hu=> ?_⟩
    ·rcases yqmc.1 hu with hu|hu
     ·cases hu
      exact⟨by simp,by simpa using hg,g,x,_,rfl,za2 hl k, .inr ⟨_,_,_,_,rfl⟩⟩
     ·obtain⟨p,q,r⟩:=h1 u e hu
      exact⟨by simp [p],q,r⟩
    ·rcases yqmc.1 hu with rfl|hu
     ·exact .inl ⟨g,x,by simp⟩
     ·rcases h2 u hu with⟨g',x',hh⟩|hh
      ·exact .inl ⟨g',x',by simp [hh]⟩
      ·exact .inr hh
   ·cases h
  ·rename_i g x l' hl hl'
   simp at h;subst h
   obtain⟨h1,h2⟩:=zew k hl'
   refine⟨fun u e hu=> ?_,fun u hu=> ?_⟩
   ·obtain⟨p,q,r⟩:=h1 u e hu
    exact⟨by simp [p],q,r⟩
   ·rcases yqmc.1 hu with rfl|hu
    ·exact .inr (.inl ⟨g,x,za2 hl k⟩)
    ·exact h2 u hu
  ·rename_i ty g cs l' hl hl'
   simp at h;subst h
   obtain⟨h1,h2⟩:=zew k hl'
   refine⟨fun u e hu=> ?_,fun u hu=> ?_⟩
   ·obtain⟨p,q,r⟩:=h1 u e hu
    exact⟨by simp [p],q,r⟩
   ·rcases yqmc.1 hu with rfl|hu
    ·exact .inr (.inr ⟨ty,g,cs,za2 hl k⟩)
    ·exact h2 u hu
  ·cases h
theorem zkb {hp:Nat→Option Ent}: ∀{l:List (Nat × Ent)} {t:Nat},(∀e,(t,e)∉l)→zfe hp l t=hp t
 | [],_,_=>rfl
 |(u,e)::l,t,h=>by
  have ht:t≠u:=by rintro rfl;exact h e (by simp)
  have:=zkb (hp:=fun v=>if v=u then some e else hp v) (l:=l) (t:=t) (fun e' he'=>h e' (by simp [he']))
  simp only [zfe,List.foldl_cons]at this ⊢
  rw [this,if_neg ht]
theorem zwl {hp:Nat→Option Ent}: ∀{l:List (Nat × Ent)} {t:Nat} {e:Ent},(t,e)∈l→(∀e',(t,e')∈l→e'=e)→zfe hp l t=some e
 | [],_,_,h,_=>by simp at h
 |(u,f)::l,t,e,h,hu=>by
  simp only [zfe,List.foldl_cons]
  by_cases hm: ∃e',(t,e')∈l
  ·obtain⟨e',he'⟩:=hm
   have:=hu e' (by simp [he'])
   subst this
   exact zwl (hp:=fun v=>if v=u then some f else hp v) he' (fun e'' h''=>hu e'' (by simp [h'']))
  ·have hn: ∀e',(t,e')∉l:=fun e' he'=>hm ⟨e',he'⟩
   have:=zkb (hp:=fun v=>if v=u then some f else hp v) (l:=l) (t:=t) hn
   simp only [zfe]at this
   rw [this]
   rcases yqmc.1 h with h|h
   ·cases h;simp
   ·exact absurd h (hn e)
theorem zl9 (hs: ∀t e,hp0 t=some e→hp t=some e) {ρ:List AV} {t:Nat} {e:Ent} (h:Res ρ (hp0 t) e):Res ρ (hp t) e:=by
 cases hh:hp0 t with
 |none=>rw [hh]at h;exact h.elim
 |some e9=>rw [hs t e9 hh];rwa [hh]at h
theorem zG9 {ρ:List AV} {o:Option Ent} {e f:Ent} (h:Res ρ o e) (k:Res ρ o f):e=f:=by
 cases o with
 |none=>exact h.elim
 |some o=>
  cases o with
  |gd gs x=>exact h.2.symm.trans k.2
  |box=>exact h.symm.trans k
  |row=>exact h.symm.trans k
  |bw=>exact h.symm.trans k
  |dead=>exact h.symm.trans k
  |deep=>exact h.symm.trans k
  |hol=>exact h.symm.trans k
theorem Rel.freeze (h:Rel c n sl hp a) (hs: ∀t e,hp0 t=some e→hp t=some e) (k:zfS c.ρ gs) {ts:List Nat} {l:List (Nat × Ent)} (hf:za9 hp0 gs ts=some l):
  Rel (c.bw (l.map (·.1))) n sl (zfe hp l) a:=by
 obtain⟨h1,h2⟩:=zew k hf
 have hG: ∀u,(c.bw (l.map (·.1))).G u=if u∈l.map (·.1)then⟨[], []⟩else c.G u:=fun u=>rfl
 have huniq: ∀t e e',(t,e)∈l→(t,e')∈l→e'=e:=by
  intro t e e' he he'
  obtain⟨_,_,g,x,_,rfl,r,rl⟩:=h1 t e he
  obtain⟨_,_,g',x',_,rfl,r',rl'⟩:=h1 t e' he'
  have:=zG9 r r'
  subst this
  obtain⟨rfl,rfl⟩:=rl.fun rl'
  rfl
 refine h.change (fun u=>u∈l.map (·.1)) (Cx.j8 c _) ⟨h.base.os,h.base.tape,h.base.output,h.base.size,h.base.pins,h.base.block,h.base.pk,h.base.lo⟩ (fun u hu=>⟨zkb (fun e he=>hu (List.mem_map.2 ⟨_,he,rfl⟩)),by rw [hG,if_neg hu],by simp only [Cx.bw,if_neg hu],fun g hg=>hg⟩) (fun u hu b hb=>rfl) (fun u hu=> ?_) ?_ h.ca (fun u e hu=> ?_)
 ·obtain⟨⟨u',e⟩,he,rfl⟩:=List.mem_map.1 hu
  have hup:=zwl (hp:=hp) he (fun e' he'=>huniq _ _ _ he he')
  obtain⟨_,_,g,x,f0,rfl,r,rl⟩:=h1 u' e he
  obtain⟨q1,f,r1,r2⟩:=rl.rd (h.ents u' _ (zl9 hs r))
  have hemp:((c.bw (l.map (·.1))).G u').top= []∧((c.bw (l.map (·.1))).G u').O= []:=by rw [hG,if_pos hu];simp
  rw [hup]
  refine⟨fun e' hr=> ?_,fun _=>hemp⟩
  have:e'= .bw g x:=hr.symm
  subst this
  exact⟨q1,⟨f,r1,fun b hb=>by
   refine zBu h.gw (ts:=l.map (·.1)) (us:= [u']) (by simpa using hu) ?_
   rcases r2 b hb with hb|hb
   ·exact .inr ⟨u',by simp,hb⟩
   ·exact .inl hb⟩,hemp.1,hemp.2⟩
 ·refine⟨fun u=> ?_,fun u v huv b hb=> ?_,fun u b hb=> ?_,fun u b hb=> ?_⟩
  ·rw [hG];split
   ·simp [GI.own]
   ·exact h.gw.nodup u
  ·rw [hG]at hb ⊢
   split at hb
   ·simp [GI.own]at hb
   ·split
    ·simp [GI.own]
    ·exact h.gw.cr u v huv b hb
  ·rw [hG]at hb
   split at hb
   ·simp [GI.own]at hb
   ·exact h.gw.allow u b hb
  ·rw [hG]at hb
   split at hb
   ·simp [GI.own]at hb
   ·exact h.gw.inb u b hb
 ·by_cases hm: ∃e',(u,e')∈l
  ·obtain⟨e',he'⟩:=hm
   obtain⟨_,_,g,x,f0,rfl,r,rl⟩:=h1 u e' he'
   have r':=zl9 hs r
   cases hh:hp u with
   |none=>rw [hh]at r';exact r'.elim
   |some e9=>exact h.ct u e9 hh
  ·rw [zkb (fun e' he'=>hm ⟨e',he'⟩)]at hu
   exact h.ct u e hu
theorem zBa {ts:List Nat} (h:zxS hp0 gs ts=true) {t:Nat} (ht:t∈ts) {ty:Nat} {g:Bool} {cs:List SV}:znP hp0 gs t≠some (.box ty g cs):=by
 intro hl
 simp only [zxS,Bool.not_eq_true',List.any_eq_false]at h
 have:=h t ht
 rw [hl]at this;simp at this
theorem zyD {ρ:List AV} (k:zfS ρ gs) {ts:List Nat} {l:List (Nat × Ent)} (hf:za9 hp0 gs ts=some l) {t:Nat} (ht:t∈ts):(∃g x,(t,Ent.bw g x)∈l)∨(∃g x,znP hp0 gs t=some (.bw g x))∨ ∃ty g cs,znP hp0 gs t=some (.box ty g cs):=by
 induction ts generalizing l with
 |nil=>simp at ht
 |cons u ts ih=>
  unfold za9 at hf
  split at hf
  ·rename_i ety sz g x d l' hl hl'
   split at hf
   ·simp at hf;subst hf
    rcases yqmc.1 ht with rfl|ht
    ·exact .inl ⟨g,x,by simp⟩
    ·rcases ih hl' ht with⟨g',x',hh⟩|hh
     ·exact .inl ⟨g',x',by simp [hh]⟩
     ·exact .inr hh
   ·cases hf
  ·rename_i ety sz dl g ep x l' hl hl'
   split at hf
   ·simp at hf;subst hf
    rcases yqmc.1 ht with rfl|ht
    ·exact .inl ⟨g,x,by simp⟩
    ·rcases ih hl' ht with⟨g',x',hh⟩|hh
     ·exact .inl ⟨g',x',by simp [hh]⟩
     ·exact .inr hh
   ·cases hf
  ·rename_i g x l' hl hl'
   simp at hf;subst hf
   rcases yqmc.1 ht with rfl|ht
   ·exact .inr (.inl ⟨g,x,hl⟩)
   ·exact ih hl' ht
  ·rename_i ty g cs l' hl hl'
   simp at hf;subst hf
   rcases yqmc.1 ht with rfl|ht
   ·exact .inr (.inr ⟨ty,g,cs,hl⟩)
   ·exact ih hl' ht
  ·cases hf
theorem zll (h:Rel c n sl hp a) (eh:EH c hp0) (k:zfS c.ρ gs) {ts:List Nat} {l:List (Nat × Ent)} (hf:za9 hp0 gs ts=some l) (hb:zxS hp0 gs ts=true) {b:Nat} (hs:c.en ts b):(c.bw (l.map (·.1))).ok b:=by
 rcases hs with hs|⟨t,ht,hbt⟩
 ·exact Cx.fg hs
 ·rcases zyD k hf ht with⟨g,x,hh⟩|⟨g,x,hh⟩|⟨ty,g,cs,hh⟩
  ·exact zBu h.gw (us:= [t]) (by simpa using⟨_,hh⟩) (.inr ⟨t,by simp,hbt⟩)
  ·obtain⟨_,_,htop,_⟩:=eh t _ (za2 hh k)
   rw [htop]at hbt;simp at hbt
  ·exact absurd hh (zBa hb ht)
theorem zrU (h:Rel c n sl hp a) (hs: ∀t e,hp0 t=some e→hp t=some e) (k:zfS c.ρ gs) {t:TypeId} {s:SV} {v:Value} (hr:SR c [s] [v]) {x:E} {fz:List (Nat × Ent)} {d:Bool} {ck:List Cn} (ht:zzl P hp0 gs t s=some (x,fz,d,ck)) (hc: ∀q∈ck,q.den c.ρ):
  ∃f,Rd c.w [v] [x.den c.ρ] f∧(d=true→f= [])∧(∃ts,za9 hp0 gs ts=some fz∧ ∀b∈f,(c.bw (fz.map (·.1))).ok b)∧
   (if zaX P t then∃cs,x.den c.ρ= .agg cs∧cs.length=P.cellsOf t else(∀cs,x.den c.ρ≠ .agg cs)∧ ∀cs,x.den c.ρ≠ .tup cs):=by
 have eh:EH c hp0:=fun t e hr=>h.ents t e (zl9 hs hr)
 unfold zzl at ht
 split at ht
 ·cases ht
 ·rename_i y hy
  obtain⟨f,q1,q2⟩:=zhU eh k zad hy hr zad (Nat.le_refl _)
  split at ht
  ·simp at ht;obtain⟨rfl,rfl,rfl,rfl⟩:=ht
   obtain⟨c1,c2,c3,c4⟩:=hc1 hc
   have hf:f= []:=by
    cases hg:zaX P t with
    |true=>
     obtain⟨cs,hcs⟩:=c3 hg
     obtain⟨as_,rfl,_,r⟩:=zmU q1 hcs
     exact zhs r (by rw [hcs]at c2;exact c2)
    |false=>exact zhs q1 (by simpa using c4 hg)
   subst hf
   refine⟨[],q1,fun _=>rfl,⟨[],rfl,by simp⟩, ?_⟩
   split
   ·rename_i hg
    obtain⟨cs,hcs⟩:=c3 hg
    exact⟨cs,hcs,by rw [hcs]at c1;exact c1⟩
   ·rename_i hg
    have:=c4 (by simpa using hg)
    exact⟨fun cs hcs=>by rw [hcs]at this;simp [AV.scalar]at this,fun cs hcs=>by rw [hcs]at this;simp [AV.scalar]at this⟩
  ·split at ht
   ·rename_i hnb
    split at ht
    ·cases ht
    ·rename_i l hl
     simp only [yqsi,Prod.mk.injEq]at ht;obtain⟨rfl,rfl,rfl,rfl⟩:=ht
     refine⟨f,q1,by simp,⟨_,hl,fun b hb=>zll h eh k hl hnb (q2 b hb)⟩, ?_⟩
     have hq:=hc1 hc
     unfold zIt at hq
     split
     ·rename_i hg
      rw [if_pos hg]at hq
      obtain⟨cs,hcs,hl⟩:=hq
      exact⟨cs,hcs,hl⟩
     ·rename_i hg
      rw [if_neg hg]at hq
      exact hq
   ·cases ht
end
section
variable {P:Program} {c:Cx} {n nx:Nat} {sl sl0:Nat→SV} {hp hp0:Nat→Option Ent} {a:Act} {o:Oper} {gs:Gd} {e:Eff} {sg:SgT} {nv:Nat}
theorem zyv (w:World) (t ty el:TypeId) (i:TypeInfo) (z:Value) (ht:P.underlying t=some (.slice el)) (hi:P.info? el=some i) (hz:i.zero=some z) (hzs:z.cells.size=i.size) (hsz:0<i.size)
  (Own:Nat→Prop) (v:Value) (k:Nat) (old:List Value) (ho:old.length=k*i.size)
  (hrow:(k=0∧ ∃q,v= .slice q 0 0)∨ ∃g cap C,v= .slice (some ⟨g,0,none⟩) k cap∧k≤cap∧cap≤maxLen∧w.heap[g]?=some (.cells C el (0,0))∧C.size=cap*i.size∧old=C.toList.take (k*i.size)∧Own g)
  (q:Option Addr) (m r:Nat) (news:List Value) (hs:Src w i.size q m news) (h63:k+m≤maxLen) (hb:(k+m)*i.bytes≤140737488355328):
  ∃v' w',(Builtin.append_ #[t,t] ty #[v, .slice q m r]).run P w= .ok v' w'∧
   ((v'=v∧w'=w∧m=0)∨ ∃g cap C,v'= .slice (some ⟨g,0,none⟩) (k+m) cap∧k+m≤cap∧cap≤maxLen∧w'.heap[g]?=some (.cells C el (0,0))∧C.size=cap*i.size∧C.toList.take ((k+m)*i.size)=old++news∧
    w.grownBy w' (some g)∧((g=w.heap.size∧g<w'.heap.size)∨Own g)):=by
 have hnl:news.length=m*i.size:=by
  rcases hs with⟨rfl,rfl,rfl⟩|⟨ad,rfl,h1,_⟩
  ·simp
  ·exact h1
 have hlen:(old++news).length=(k+m)*i.size:=by rw [yqla,ho,hnl,Nat.add_mul]
 have grown: ∀(cp:Nat),cp<k+m→ ∀(X:Array Value),X.toList=old++news→ ∃C,C=X++Builtin.zeroCells z.cells (grownCap w (k+m) cp el-(k+m))∧
   k+m≤grownCap w (k+m) cp el∧grownCap w (k+m) cp el≤maxLen∧C.size=grownCap w (k+m) cp el*i.size∧C.toList.take ((k+m)*i.size)=old++news:=by
  intro cp hcp X hX
  have hge:=grownCap_ge w (k+m) cp el
  have hcm:=grownCap_le_maxLen w (k+m) cp el h63
  refine⟨_,rfl,hge,hcm, ?_, ?_⟩
  ·have hXs:X.size=(k+m)*i.size:=by rw [←Array.length_toList,hX,hlen]
   rw [Array.size_append,hXs,size_zeroCells,hzs,←Nat.add_mul]
   congr 1;omega
  ·rw [Array.toList_append,hX,←hlen]
   exact List.take_left
 have newb: ∀C:Array Value,w.grownBy (w.drew.alloc (.cells C el)) (some w.heap.size)∧w.heap.size<(w.drew.alloc (.cells C el)).heap.size∧(w.drew.alloc (.cells C el)).heap[w.heap.size]?=some (.cells C el (0,0)):=
  fun C=>⟨⟨rfl,rfl,rfl,by simp,fun j hj _=>Below.heap_alloc w.drew _ _ hj⟩,by simp,heap_alloc_new w.drew _⟩
 rcases hrow with⟨rfl,p,rfl⟩|⟨g,cap,C,rfl,hnc,hcm,hg,hcs,hold,hOwn⟩
 ·have hold:old= []:=List.eq_nil_of_length_eq_zero (by simpa using ho)
  subst hold
  by_cases hm:m=0
  ·subst hm
   have hn:news= []:=List.eq_nil_of_length_eq_zero (by simpa using hnl)
   subst hn
   refine⟨_,w, ?_, .inl ⟨rfl,rfl,rfl⟩⟩
   rcases hs with⟨rfl,_,_⟩|⟨ad,rfl,_⟩<;>cases p<;>
    simp [Builtin.append_,run_underlying ht,sizeOf,typeInfo,hi,Builtin.lenOf,Builtin.firstCells,loadCells,loadCellsFrom,storeCells]
  ·rcases hs with⟨_,rfl,_⟩|⟨ad,rfl,h1,h2,h3⟩
   ·exact absurd rfl hm
   ·obtain⟨C',hC',g1,g2,g3,g4⟩:=grown 0 (by omega) news.toArray (by simp)
    cases p with
    |none=>
     have hr:=run_append_nil (P:=P) w t ty el i z ht hi hz ad m r news h1 h2 (by omega) (by simp only [maxLen]at h63;omega) (by have hb:=hb;simp only [Nat.zero_add]at hb;omega)
     simp only [Nat.zero_add]at g1 g2 g3 g4 hC' ⊢
     obtain⟨n1,n2,n3⟩:=newb C'
     refine⟨_,_,hr, .inr ⟨_,_,C',rfl,g1,g2, ?_,g3,g4, ?_, .inl ⟨rfl, ?_⟩⟩⟩<;>rw [←hC']<;>first|exact n3|exact n1|exact n2
    |some p=>
     have hr:=run_append_grow (P:=P) w t ty el i z ht hi hz p 0 0 [] (by simp) (by simp) ad m r news h1 h2 (by omega) (by simp only [maxLen]at h63;omega) (growslice_fits (by omega) hb)
     rw [show(([]:List Value).toArray++news.toArray)=news.toArray by simp]at hr
     simp only [Nat.zero_add]at g1 g2 g3 g4 hC' hr ⊢
     obtain⟨n1,n2,n3⟩:=newb C'
     refine⟨_,_,hr, .inr ⟨_,_,C',rfl,g1,g2, ?_,g3,g4, ?_, .inl ⟨rfl, ?_⟩⟩⟩<;>rw [←hC']<;>first|exact n3|exact n1|exact n2
 ·rcases hs with⟨rfl,rfl,rfl⟩|⟨ad,rfl,h1,h2,h3⟩
  ·refine⟨_,w, ?_, .inl ⟨rfl,rfl,rfl⟩⟩
   simp [Builtin.append_,run_underlying ht,sizeOf,typeInfo,hi,Builtin.lenOf,Builtin.firstCells,hnc,storeCells]
  ·by_cases hroom:k+m≤cap
   ·have hfit:k*i.size+news.length≤C.size:=by rw [h1,hcs,←Nat.add_mul];exact Nat.mul_le_mul_right _ hroom
    have hr:=run_append_room (P:=P) w t ty el i ht hi g k cap C hg ad m r news h1 h2 h3 hroom hfit
    refine⟨_,_,hr, .inr ⟨g,cap,_,rfl,hroom,hcm,setRow_heap w g C _ el _ hg, ?_, ?_,⟨rfl,rfl,rfl,by simp,fun j _ hj=>setRow_other w g j _ (fun hh=>hj (by rw [hh]))⟩, .inr hOwn⟩⟩
    ·simp only [List.size_toArray,yqla,List.length_take,List.length_drop,Array.length_toList]
     omega
    ·rw [←hold,←hlen]
     exact List.take_left
   ·have holds: ∀j u,old[j]?=some u→w.cell? ((⟨g,0,none⟩:Addr).add j)=some u:=fun j u hu=>by
     rw [Addr.add_lit,Nat.zero_add,zay hg]
     rw [hold,List.getElem?_take]at hu
     split at hu
     ·simpa using hu
     ·cases hu
    have hr:=run_append_grow (P:=P) w t ty el i z ht hi hz ⟨g,0,none⟩ k cap old ho holds ad m r news h1 h2 (by omega) (by simp only [maxLen]at h63;omega) (growslice_fits (by omega) hb)
    obtain⟨C',hC',g1,g2,g3,g4⟩:=grown cap (by omega) (old.toArray++news.toArray) (by simp)
    obtain⟨n1,n2,n3⟩:=newb C'
    refine⟨_,_,hr, .inr ⟨_,_,C',rfl,g1,g2, ?_,g3,g4, ?_, .inl ⟨rfl, ?_⟩⟩⟩<;>rw [←hC']<;>first|exact n3|exact n1|exact n2
def Cx.bc (c:Cx) (t g':Nat) (w':World) (v:Value) (top O:List Nat):Cx:=
 {c with w:=w',G:=fun u=>if u=t then⟨top,O⟩else c.G u,K:=fun u g=>c.K u g∨(u=t∧g=g'),H:=fun u g=>if u=t∧g=g' then v else c.H u g,U:=fun u=>c.U u∨u=t,E:=fun u=>if u=t then c.E u+1 else c.E u}
theorem Rel.bc (h:Rel c n sl hp a) {t g:Nat} (hpin:c.A.pin t=none∨g≠0) (hnew: ¬c.K t g) {w':World} {row:Option Nat} (hg:c.w.grownBy w' row)
  (hg0: ∀g0,row=some g0→g0∈(c.G t).top∨(g0=c.w.heap.size∧g0<w'.heap.size)) {top O:List Nat} (htop:top= []∨ ∃g0,row=some g0∧top= [g0]) (hO:O= []∨O=(c.G t).O) {v:Value} (e1:Ent) (hne: ∀hs f,e1≠ .gd hs f) (k:zfS c.ρ gs)
  (he:zpB c (c.bc t g w' v top O)→znH (c.bc t g w' v top O) t e1):Rel (c.bc t g w' v top O) n sl (zfe hp [(t,zfR gs e1)]) a:=by
 have hG: ∀u,(c.bc t g w' v top O).G u=if u=t then⟨top,O⟩else c.G u:=fun u=>rfl
 have hM: ∀b,(c.bc t g w' v top O).M b→c.M b∨row=some b:=by
  rintro b ⟨u,hu⟩
  rw [hG]at hu
  split at hu
  ·rcases htop with rfl|⟨g0,hr,rfl⟩
   ·simp at hu
   ·simp at hu;subst hu;exact .inr hr
  ·exact .inl ⟨u,hu⟩
 have hg0M: ∀b,b<c.w.heap.size→c.ok b→row≠some b:=by
  intro b hb hok hr
  rcases hg0 b hr with hh|⟨hh,_⟩
  ·exact hok.1 ⟨t,hh⟩
  ·omega
 have hkeep:zpB c (c.bc t g w' v top O):=by
  refine⟨rfl,rfl,fun b hb hok=>⟨fun hm=>(hM b hm).elim hok.1 (hg0M b hb hok),hok.2⟩,fun b hb hok=>hg.block b hb (fun hh=>hg0M b hb hok hh.symm),fun u g1 hu=>⟨.inl hu, ?_⟩,fun u g1 hu=> ?_⟩
  ·simp only [Cx.bc]
   rw [if_neg];rintro⟨rfl,rfl⟩;exact hnew hu
  ·by_cases hut:u=t
   ·have e1:(c.bc t g w' v top O).E u=c.E u+1:=by simp only [Cx.bc,if_pos hut]
    exact⟨by omega,fun h=>by omega⟩
   ·have e1:(c.bc t g w' v top O).E u=c.E u:=by simp only [Cx.bc,if_neg hut]
    have e2:(c.bc t g w' v top O).G u=c.G u:=by simp only [Cx.bc,if_neg hut]
    rw [e1]
    refine⟨Nat.le_refl _,fun _=>⟨e2,fun b hb hb2=>hg.block b hb2 fun hh=> ?_⟩⟩
    rcases hg0 b hh.symm with h1|⟨h1,_⟩
    ·exact h.gw.cr u t hut b (by simp [GI.own,hb]) (by simp [GI.own,h1])
    ·omega
 have hup: ∀u,zfe hp [(t,zfR gs e1)] u=if u=t then some (zfR gs e1)else hp u:=fun u=>rfl
 have hne0: ∀u,u≠t→ ∀b∈(c.G u).own,row≠some b:=by
  intro u hu b hb hr
  rcases hg0 b hr with hh|⟨hh,_⟩
  ·exact h.gw.cr u t hu b hb (by simp [GI.own,hh])
  ·have:=h.gw.inb u b hb;omega
 have hsub: ∀b∈(⟨top,O⟩:GI).own,row=some b∨b∈(c.G t).own:=by
  intro b hb
  simp only [GI.own,yqma]at hb ⊢
  rcases hb with hb|hb
  ·rcases htop with rfl|⟨g0,hr,rfl⟩
   ·simp at hb
   ·simp at hb;subst hb;exact .inl hr
  ·rcases hO with rfl|rfl
   ·simp at hb
   ·exact .inr (.inr hb)
 refine h.change (fun u=>u=t) hkeep ⟨hg.os.trans h.base.os,hg.tape.trans h.base.tape,hg.output.trans h.base.output,Nat.le_trans h.base.size hg.size,fun u v' hp=>⟨.inl (h.base.pins u v' hp).1,fun hk=> ?_⟩,fun b hb hmu=> ?_,h.base.pk,h.base.lo⟩
  (fun u hu=>⟨by rw [hup,if_neg hu],by rw [hG,if_neg hu],by simp [Cx.bc,hu],fun g1 hh=>hh.resolve_right (fun hh=>hu hh.1)⟩) (fun u hu b hb=>hg.block b (h.gw.inb u b (by simp [GI.own,hb])) (fun hh=>hne0 u hu b (by simp [GI.own,hb]) hh.symm)) (fun u hu=> ?_) ?_ (fun u g1 hh=> ?_) (fun u f hf=> ?_)
 ·have hut: ¬(u=t∧0=g):=by
   rintro⟨rfl,rfl⟩
   rcases hpin with hh|hh
   ·have hp':c.A.pin u=some v':=hp
    rw [hh]at hp';cases hp'
   ·exact hh rfl
  have hk':=hk.resolve_right hut
  simp only [Cx.bc]
  rw [if_neg hut];exact(h.base.pins u v' hp).2 hk'
 ·refine(hg.block b (Nat.lt_of_lt_of_le hb h.base.size) (fun hh=> ?_)).trans (h.base.block b hb hmu)
  rcases hg0 b hh.symm with hh|⟨hh,_⟩
  ·rcases h.gw.allow t b (by simp [GI.own,hh])with h1|h1
   ·exact absurd h1 (Nat.not_le.2 hb)
   ·exact hmu h1
  ·have:=h.base.size;have h9:b<c.w0.heap.size:=hb;omega
 ·subst hu
  rw [hup,if_pos rfl]
  exact⟨fun e' hr=>by rw [(zlE k hne).1 hr];exact he hkeep,fun hn=>absurd ((zlE k hne).2 rfl) (hn e1)⟩
 ·have hnd:(⟨top,O⟩:GI).own.Nodup:=by
   have h0:=h.gw.nodup t
   simp only [GI.own]at h0 ⊢
   rw [List.nodup_append]at h0 ⊢
   refine⟨by rcases htop with rfl|⟨g0,hr,rfl⟩<;>simp,by rcases hO with rfl|rfl;simp;exact h0.2.1,fun p hp q hq=> ?_⟩
   rcases htop with rfl|⟨g0,hr,rfl⟩
   ·simp at hp
   ·simp at hp;subst hp
    rcases hO with rfl|rfl
    ·simp at hq
    ·rcases hg0 p hr with hh|⟨hh,_⟩
     ·exact h0.2.2 p hh q hq
     ·have:=h.gw.inb t q (by simp [GI.own,hq]);omega
  refine⟨fun u=> ?_,fun u u' huu b hb=> ?_,fun u b hb=> ?_,fun u b hb=> ?_⟩
  ·rw [hG];split
   ·exact hnd
   ·exact h.gw.nodup u
  ·rw [hG]at hb ⊢
   by_cases h1:u=t
   ·rw [if_pos h1]at hb
    rw [if_neg (fun hh=>huu (h1.trans hh.symm))]
    rcases hsub b hb with hr|hb
    ·exact fun hh=>hne0 u' (fun h2=>huu (h1.trans h2.symm)) b hh hr
    ·exact h.gw.cr t u' (fun hh=>huu (h1.trans hh)) b hb
   ·rw [if_neg h1]at hb
    by_cases h2:u'=t
    ·rw [if_pos h2]
     intro hb'
     rcases hsub b hb' with hr|hb'
     ·exact hne0 u h1 b hb hr
     ·exact h.gw.cr u t h1 b hb hb'
    ·rw [if_neg h2];exact h.gw.cr u u' huu b hb
  ·rw [hG]at hb
   split at hb
   ·rcases hsub b hb with hr|hb
    ·rcases hg0 b hr with hh|⟨hh,_⟩
     ·exact h.gw.allow t b (by simp [GI.own,hh])
     ·exact .inl (by rw [hh];exact h.base.size)
    ·exact h.gw.allow t b hb
   ·exact h.gw.allow u b hb
  ·rw [hG]at hb
   show b<w'.heap.size
   split at hb
   ·rcases hsub b hb with hr|hb
    ·rcases hg0 b hr with hh|⟨_,hh⟩
     ·exact Nat.lt_of_lt_of_le (h.gw.inb t b (by simp [GI.own,hh])) hg.size
     ·exact hh
    ·exact Nat.lt_of_lt_of_le (h.gw.inb t b hb) hg.size
   ·exact Nat.lt_of_lt_of_le (h.gw.inb u b hb) hg.size
 ·rcases hh with hh|⟨rfl,_⟩
  ·exact .inl (h.ca u g1 hh)
  ·exact .inr rfl
 ·rw [hup]at hf
  split at hf
  ·rename_i hu;exact .inr hu
  ·exact .inl (h.ct u f hf)
theorem zFE {w:World} {v:Value} {ys:List AV} {f:List Nat} {sz:Nat} (h:Rd w [v] [.sl ys] f) (hs: ∀y∈ys,y.cells.length=sz):
  ∃q r news N,v= .slice q ys.length r∧Src w sz q ys.length news∧Rd w news (zaB ys) N∧(∀b∈N,b∈f)∧news.length=ys.length*sz∧(∀u∈news,u.oneCell'=true):=by
 rcases h.kind with hh|hh|hh|hh|hh|hh|hh|hh|hh|hh
 ·obtain⟨_,_,_,hh,_⟩:=hh;cases hh
 ·obtain⟨_,_,hh,_⟩:=hh;cases hh
 ·obtain⟨_,_,hh,_⟩:=hh;cases hh
 ·obtain⟨p,r,rfl,hh,rfl⟩:=hh
  cases hh
  refine⟨p,r, [], [],rfl, ?_, .nil,by simp,by simp,by simp⟩
  cases p with
  |none=>exact .inl ⟨rfl,rfl,rfl⟩
  |some p=>exact .inr ⟨p,rfl,by simp,by simp,by simp⟩
 ·obtain⟨b,off,m,r,ys',cs,C,t,fz,sz',f1,rfl,hh,rfl,hb,h1,h2,h3,h4,h5,h6,h6',h7⟩:=hh
  cases hh
  subst h3
  have hss:sz'=sz:=by
   cases ys with
   |nil=>simp at h1
   |cons y ys=>rw [←h4 y (by simp),hs y (by simp)]
  subst hss
  have hl:=h7.len
  rw [zjk ys h4]at hl
  exact⟨_,r,cs,f1,rfl, .inr ⟨_,rfl,hl,fun j u hu=>by rw [Addr.add_lit,zay hb];exact h6 j u hu,h6'⟩,h7,fun q hq=>by simp [hq],hl,h6'⟩
 ·obtain⟨_,_,_,hh,_⟩:=hh;cases hh
 ·obtain⟨_,_,_,hh,_⟩:=hh;cases hh
 ·obtain⟨_,_,_,_,_,_,_,hh,_⟩:=hh;cases hh
 ·obtain⟨_,_,_,_,hh,_⟩:=hh;cases hh
 ·obtain⟨_,hh,_⟩:=hh;cases hh
end
section
variable {P:Program} {c:Cx} {n nx:Nat} {sl sl0:Nat→SV} {hp hp0:Nat→Option Ent} {a:Act} {o:Oper} {gs:Gd} {e:Eff} {sg:SgT} {nv:Nat}
theorem zl3 (hp:Nat→Option Ent) (l m:List (Nat × Ent)):zfe hp (l++m)=zfe (zfe hp l) m:=by simp [zfe,List.foldl_append]
theorem zye (h:Rel c n sl hp a) (hs: ∀t e,hp0 t=some e→hp t=some e) (k:zfS c.ρ gs) {el:TypeId} {s:SV} {v:Value} (hr:SR c [s] [v]) {y:E} (hy:zgt hp0 gs zad s=some y) {fz:List (Nat × Ent)} {d:Bool} {ck:Cn} (ht:zs2 P hp0 gs el s y=some (fz,d,ck)) (hc:ck.den c.ρ):
  ∃ts ys q r news N,za9 hp0 gs ts=some fz∧y.den c.ρ= .sl ys∧(∀z∈ys,z.cells.length=P.cellsOf el)∧v= .slice q ys.length r∧Src c.w (P.cellsOf el) q ys.length news∧Rd c.w news (zaB ys) N∧(∀b∈N,(c.bw (fz.map (·.1))).ok b)∧(d=true→N= [])∧news.length=ys.length*P.cellsOf el∧ ∀u∈news,u.oneCell'=true:=by
 have eh:EH c hp0:=fun t e hr=>h.ents t e (zl9 hs hr)
 obtain⟨f,q1,q2⟩:=zhU eh k zad hy hr zad (Nat.le_refl _)
 unfold zs2 at ht
 split at ht
 ·simp only [yqsi,Prod.mk.injEq]at ht;obtain⟨rfl,rfl,rfl⟩:=ht
  obtain⟨ys,hys,hcl⟩:=hc
  rw [hys]at q1
  obtain⟨q,r,news,N,hv,g1,g2,g3,g4,g5⟩:=zFE q1 (fun z hz=>(hcl z hz).1)
  have hN:N= []:=zhs g2 (fun x hx=>by
   obtain⟨z,hz,hx⟩:=List.mem_flatMap.1 hx
   exact(hcl z hz).2 x hx)
  exact⟨[],ys,q,r,news,N,rfl,hys,fun z hz=>(hcl z hz).1,hv,g1,g2,by simp [hN],fun _=>hN,g4,g5⟩
 ·split at ht
  ·rename_i hnb
   obtain⟨l,hl,ht⟩:=yqme.1 ht
   simp only [Prod.mk.injEq]at ht;obtain⟨rfl,rfl,rfl⟩:=ht
   obtain⟨ys,hys,hcl⟩:=hc
   rw [hys]at q1
   obtain⟨q,r,news,N,hv,g1,g2,g3,g4,g5⟩:=zFE q1 hcl
   exact⟨_,ys,q,r,news,N,hl,hys,hcl,hv,g1,g2,fun b hb=>zll h eh k hl hnb (q2 b (g3 b hb)),by simp,g4,g5⟩
  ·cases ht
theorem ze2 {el:TypeId} (h:zlD P el=true): ∃i z,P.info? el=some i∧i.zero=some z∧z.cells.size=i.size∧0<i.size∧P.cellsOf el=i.size∧P.bytesOf el=i.bytes:=by
 unfold zlD at h
 cases hi:P.info? el with
 |none=>simp [hi]at h
 |some i=>
  cases hz:i.zero with
  |none=>simp [hi,hz]at h
  |some z=>
   simp only [hi,hz,yqba,beq_iff_eq,bne_iff_ne]at h
   exact⟨i,z,rfl,hz,h.1,by omega,by simp [Program.cellsOf,hi],by simp [Program.bytesOf,hi]⟩
theorem zmK (xs ys:List AV):zaB (xs++ys)=zaB xs++zaB ys:=by simp [zaB]
theorem zlJ (h:Pre P c n nx sl hp a sl0 hp0 o gs) {x y:Operand} {tx:TypeId} {cl:Call} (ho:o.op= .call cl) (hcl:cl.callee= .builtin .append) (ha1:cl.args.toList= [x,y]) (ha2:cl.argTypes.toList= [tx,tx])
  {el:TypeId} (hel:P.underlying tx=some (.slice el)) (hz:zlD P el=true) {s2:SV} {ye:E} (hs2:zaj sl0 gs y=some s2) (hy:zgt hp0 gs zad s2=some ye) {fz:List (Nat × Ent)} {d:Bool} {ck:Cn} (htk:zs2 P hp0 gs el s2 ye=some (fz,d,ck)) (hck:ck.den c.ρ)
  {t g:Nat} (hpin:c.A.pin t=none∨g≠0) {c0:E} {d':Bool} (hroom:Cn.den c.ρ (.room c0 ye (P.bytesOf el))) (hnt: ∀f,(t,f)∉fz) (hnew: ¬c.K t g)
  {top N0:List Nat} {v:Value} (hv:a.eval x=v) (hrow:zc2 c.w el (P.cellsOf el) v (c0.den c.ρ) top N0) (htop:(c.G t).top=top) (hN0: ∀b∈N0,c.ok b) (hd0:d'=true→Uni c.w N0∧(c.G t).O=N0) (hgen: ∀g',c.K t g'→g'≤g) (hU: ∀u,u=t→c.U u∨(nx≤u∧u<nx+zan)) {ckl:List Cn}:
  zbP P o c n nx sl hp gs a {bu:=ckl,val:= .own t g,bq:=fz++ [(t,zfR gs (.row el (P.cellsOf el) g (.app c0 ye) (d&&d')))]}:=by
 have hargs:cl.args= #[x,y]:=by apply Array.ext';simp [ha1]
 have htys:cl.argTypes= #[tx,tx]:=by apply Array.ext';simp [ha2]
 have hm2:y∈o.op.operands:=by simp [ho,Op.operands,Call.operands,hcl,hargs]
 obtain⟨i,z,hi,hiz,hzs,hsz,hco,hby⟩:=ze2 hz
 obtain⟨ts,ys,q,r,news,N,hfz,hys,hyc,hv2,hsrc,hnews,hNok,hdN,hnl,hn1⟩:=zye h.rel h.hp h.gs (h.cz hs2 hm2) hy htk hck
 have hrel1:=h.rel.freeze h.hp h.gs hfz
 obtain⟨xs,hxs,hxc,_,hcase⟩:=hrow
 obtain⟨mm,kk,hr1,hr2,hr3,hr4⟩:=hroom
 rw [hxs]at hr1;rw [hys]at hr2
 simp only [AV.len,AV.int.injEq,true_and]at hr1 hr2
 have hb1:(xs.length+ys.length)*i.bytes≤140737488355328:=by
  rw [←hr1,←hr2,hby]at hr3
  have h9:(((xs.length+ys.length)*i.bytes:Nat):Int)≤140737488355328:=by rw [Int.natCast_mul,Int.natCast_add];exact hr3
  omega
 have hb2:xs.length+ys.length≤140737488355328:=by rw [←hr1,←hr2]at hr4;omega
 rw [hco]at hsrc hnl hxc hyc hcase
 obtain⟨old,hold,hrowA,hrd,hone⟩: ∃old,old.length=xs.length*i.size∧((xs.length=0∧ ∃q,v= .slice q 0 0)∨ ∃g cap C,v= .slice (some ⟨g,0,none⟩) xs.length cap∧xs.length≤cap∧cap≤maxLen∧c.w.heap[g]?=some (.cells C el (0,0))∧C.size=cap*i.size∧old=C.toList.take (xs.length*i.size)∧g∈(c.G t).top)∧Rd c.w old (zaB xs) N0∧ ∀u∈old,u.oneCell'=true:=by
  rcases hcase with⟨rfl,⟨p,rfl⟩,rfl,rfl⟩|⟨g9,cap,C,rfl,h6,h7,h8,h9,rfl,h10,h11⟩
  ·exact⟨[],by simp, .inl ⟨rfl,p,rfl⟩, .nil,by simp⟩
  ·refine⟨_, ?_, .inr ⟨g9,cap,C,rfl,h6,h7,h8,h9,rfl,by rw [htop];simp⟩,h11,h10⟩
   have e9:C.toList.length=cap*i.size:=by rw [←h9];simp
   rw [List.length_take,e9]
   exact Nat.min_eq_left (Nat.mul_le_mul_right _ h6)
 obtain⟨v',w',hrun,hres⟩:=zyv (P:=P) c.w tx o.type el i z hel hi hiz hzs hsz (fun g9=>g9∈(c.G t).top) v xs.length old hold hrowA q ys.length r news hsrc (by simp only [maxLen];omega) hb1
 have hrun':(execOp a.eval o).run P c.w= .ok (.value v') w':=by
  simp [execOp,ho,resolve,hcl,hargs,htys,invoke,builtin,hv,hv2,hrun]
 intro next Q hk
 unfold Oper.wp
 rw [hrun',Oper.upon_value]
 have hc1w:(c.bw (fz.map (·.1))).w=c.w:=rfl
 have hGt:(c.bw (fz.map (·.1))).G t=c.G t:=by
  simp only [Cx.bw];rw [if_neg];rintro hh
  obtain⟨⟨u,f⟩,hf,rfl⟩:=List.mem_map.1 hh
  exact hnt f hf
 obtain⟨row,top',hgrow,hg0,htop',hown,hsl⟩: ∃row top',c.w.grownBy w' row∧(∀g0,row=some g0→g0∈(c.G t).top∨(g0=c.w.heap.size∧g0<w'.heap.size))∧(top'= []∨ ∃g0,row=some g0∧top'= [g0])∧
   (zpB (c.bw (fz.map (·.1))) ((c.bw (fz.map (·.1))).bc t g w' v' top' (if(d&&d')=true then(c.G t).O else []))→ ∃N',zc2 w' el (P.cellsOf el) v' (.sl (xs++ys)) top' N'∧(∀b∈N',b∈N0∨b∈N)∧((d&&d')=true→N'=N0))∧ ∃p m r,v'= .slice p m r:=by
  rcases hres with⟨rfl,rfl,hm0⟩|⟨g9,cap,C,rfl,h1,h2,h3,h4,h5,h6,h7⟩
  ·have hy0:ys= []:=List.eq_nil_of_length_eq_zero hm0
   subst hy0
   refine⟨if top= []then none else top.head?,top,⟨rfl,rfl,rfl,Nat.le_refl _,fun _ _ _=>rfl⟩,fun g0 hg0=> .inl ?_, ?_,fun _=>⟨N0, ?_,fun b hb=> .inl hb,fun _=>rfl⟩, ?_⟩
   ·rw [htop];split at hg0
    ·cases hg0
    ·exact List.mem_of_mem_head? hg0
   ·rcases hcase with⟨_,_,rfl,_⟩|⟨g9,_,_,_,_,_,_,_,rfl,_⟩
    ·exact .inl rfl
    ·exact .inr ⟨g9,by simp,rfl⟩
   ·rw [hco];exact⟨xs,by simp,hxc,hsz,hcase⟩
   ·rcases hrowA with⟨_,p,rfl⟩|⟨g9,cap,C,rfl,_⟩
    ·exact⟨_,_,_,rfl⟩
    ·exact⟨_,_,_,rfl⟩
  ·refine⟨some g9, [g9],h6,fun g0 hg0=> ?_, .inr ⟨g9,rfl,rfl⟩,fun hkp=>⟨N0++N,⟨xs++ys,rfl,fun z hz=> ?_,by rw [hco];exact hsz, .inr ⟨g9,cap,C,by simp,by simpa using h1,h2,h3,by rw [hco];exact h4,rfl, ?_, ?_⟩⟩,fun b hb=>yqma.1 hb,fun hdd=> ?_⟩,_,_,_,rfl⟩
   ·cases hg0
    exact h7.symm
   ·rcases yqma.1 hz with hz|hz
    ·rw [hco];exact hxc z hz
    ·rw [hco];exact hyc z hz
   ·rw [hco];simp only [yqla]
    rw [h5];intro u hu
    rcases yqma.1 hu with hu|hu
    ·exact hone u hu
    ·exact hn1 u hu
   ·rw [hco];simp only [yqla]
    rw [h5,zmK]
    refine Rd.app (hrd.frame fun b hb=> ?_) (hnews.frame fun b hb=> ?_)
    ·have hb1:=hrd.inb b hb
     exact hkp.mem b hb1 (Cx.fg (hN0 b hb))
    ·have hb1:=hnews.inb b hb
     exact hkp.mem b hb1 (hNok b hb)
   ·simp only [yqba]at hdd
    rw [hdN hdd.1];simp
 obtain⟨p9,m9,r9,hv9⟩:=hsl
 have hfin:=hrel1.bc (gs:=gs) (t:=t) (g:=g) (w':=w') (row:=row) (top:=top') (O:=if(d&&d')=true then(c.G t).O else []) (v:=v') hpin hnew hgrow (by rw [hGt];exact hg0) htop' (by split;exact .inr (by rw [hGt]);exact .inl rfl)
  (.row el (P.cellsOf el) g (.app c0 ye) (d&&d')) (by intros;simp) h.gs (fun hkp=>by
   obtain⟨N',o1,o2,o3⟩:=hown hkp
   have hok: ∀b∈N',((c.bw (fz.map (·.1))).bc t g w' v' top' (if(d&&d')=true then(c.G t).O else [])).ok b:=by
    intro b hb
    rcases o2 b hb with hb|hb
    ·exact hkp.ok b (hrd.inb b hb) (Cx.fg (hN0 b hb))
    ·exact hkp.ok b (hnews.inb b hb) (hNok b hb)
   refine⟨.inr ⟨rfl,rfl⟩,fun g' hg'=> ?_,N', ?_,hok,fun hdd=> ?_,fun hdd=> ?_⟩
   ·rcases hg' with hg'|⟨_,rfl⟩
    ·exact hgen g' hg'
    ·exact Nat.le_refl _
   ·have e1:((c.bw (fz.map (·.1))).bc t g w' v' top' (if(d&&d')=true then(c.G t).O else [])).H t g=v':=by simp [Cx.bc]
    have e2:(((c.bw (fz.map (·.1))).bc t g w' v' top' (if(d&&d')=true then(c.G t).O else [])).G t).top=top':=by simp [Cx.bc]
    rw [e1,e2]
    show zc2 w' el (P.cellsOf el) v' (AV.app (c0.den c.ρ) (ye.den c.ρ)) top' N'
    rw [hxs,hys];exact o1
   ·have hN':=o3 hdd
    have hdd':d'=true:=by simp only [yqba]at hdd;exact hdd.2
    obtain⟨u1,u2⟩:=hd0 hdd'
    subst hN'
    refine⟨u1.frame fun b hb=>hkp.mem b (hrd.inb b hb) (Cx.fg (hN0 b hb)), ?_⟩
    simp only [Cx.bc,if_true,hdd];exact u2
   ·simp [Cx.bc,hdd])
 have hSR:SR ((c.bw (fz.map (·.1))).bc t g w' v' top' (if(d&&d')=true then(c.G t).O else [])) [.own t g] [v']:=by
  rw [hv9]
  exact .own (.inr ⟨rfl,rfl⟩) (by simp [Cx.bc]) .nil
 refine hk _ ((c.bw (fz.map (·.1))).bc t g w' v' top' (if(d&&d')=true then(c.G t).O else [])) ⟨rfl,rfl,rfl,rfl,fun u hu=> ?_⟩ ?_
 ·rcases hu with hu|rfl
  ·exact .inl hu
  ·exact hU u rfl
 ·have:=hfin.put (hSR.mkGd gs h.gs) o.dst
  rw [zl3];exact this
end
section
variable {P:Program} {c:Cx} {n nx:Nat} {sl sl0:Nat→SV} {hp hp0:Nat→Option Ent} {a:Act} {o:Oper} {gs:Gd} {e:Eff} {sg:SgT} {nv:Nat}
theorem zfA {t el:TypeId} (h:zfF P t=some el):P.underlying t=some (.slice el):=by
 unfold zfF at h
 split at h
 ·simp at h;subst h;assumption
 ·cases h
theorem zvJ {ts:List Nat} {l:List (Nat × Ent)} (k:zfS c.ρ gs) (h:za9 hp0 gs ts=some l): ∀t f,(t,f)∈l→ ∃g x f',Res c.ρ (hp0 t) f'∧zlL f' g x:=by
 intro t f hf
 obtain⟨_,_,g,x,f',_,r⟩:=(zew k h).1 t f hf
 exact⟨g,x,f',r⟩
theorem zwN (h:Pre P c n nx sl hp a sl0 hp0 o gs) {x y:Operand} {tx ty:TypeId} {cl:Call} (ho:o.op= .call cl) (hcl:cl.callee= .builtin .append) (ha1:cl.args.toList= [x,y]) (ha2:cl.argTypes.toList= [tx,ty])
  {s1 s2:SV} (hs1:zaj sl0 gs x=some s1) (hs2:zaj sl0 gs y=some s2) (he:zrY P hp0 gs nx tx ty s1 s2=some e) (hc: ∀q∈e.bu,Cn.den c.ρ q):zbP P o c n nx sl hp gs a e:=by
 have hargs:cl.args= #[x,y]:=by apply Array.ext';simp [ha1]
 have hm1:x∈o.op.operands:=by simp [ho,Op.operands,Call.operands,hcl,hargs]
 unfold zrY at he
 split at he
 ·cases he
 rename_i htt
 have htt:tx=ty:=by simpa using htt
 subst htt
 split at he
 ·rename_i el hel
  have hel:=zfA hel
  split at he
  ·cases he
  rename_i hz
  have hz:zlD P el=true:=by simpa using hz
  split at he
  ·cases he
  rename_i ye hy
  split at he
  ·cases he
  rename_i fz d ck htk
  obtain⟨ts,hfz⟩: ∃ts,za9 hp0 gs ts=some fz:=by
   unfold zs2 at htk
   split at htk
   ·simp only [yqsi,Prod.mk.injEq]at htk;obtain⟨rfl,_⟩:=htk;exact⟨[],rfl⟩
   ·split at htk
    ·obtain⟨l,hl,htk⟩:=yqme.1 htk
     simp only [Prod.mk.injEq]at htk;obtain⟨rfl,_⟩:=htk
     exact⟨_,hl⟩
    ·cases htk
  have r1:=h.cz hs1 hm1
  have fresh: ∀f,(nx,f)∉fz:=fun f hf=>by
   obtain⟨_,_,_,r,_⟩:=zvJ (c:=c) h.gs hfz nx f hf
   have r:=zl9 h.hp r
   cases hh:hp nx with
   |none=>rw [hh]at r;exact r.elim
   |some e9=>exact zl8 h (h.rel.ct nx e9 hh)
  have hK: ∀g,¬c.K nx g:=fun g hg=>zl8 h (h.rel.ca _ _ hg)
  have hoff:=h.rel.off nx (fun e9 hr=>by
   cases hh:hp nx with
   |none=>rw [hh]at hr;exact hr.elim
   |some e8=>exact zl8 h (h.rel.ct nx e8 hh))
  have hpn:c.A.pin nx=none:=by
   cases hh:c.A.pin nx with
   |none=>rfl
   |some v=>exact absurd (h.rel.base.pins nx v hh).1 (zl8 h)
  have hUn: ∀u,u=nx→c.U u∨(nx≤u∧u<nx+zan):=fun u hu=> .inr ⟨by omega,by rw [hu];simp [zan]⟩
  have hzc:P.cellsOf el≠0:=by
   obtain⟨i,_,_,_,_,h1,h2,_⟩:=ze2 hz
   omega
  split at he
  ·rename_i t g
   split at he
   ·rename_i e' sz' g' c0 d' hl
    split at he
    ·rename_i hh
     obtain⟨rfl,rfl,rfl,rfl,hnt⟩:=hh
     simp only [yqsi]at he;subst he
     have hres0:=za2 hl h.gs
     obtain⟨q1,q2,N,q3,q4,q5,q6⟩:=h.eh t _ hres0
     generalize hv:a.eval x=v at r1
     cases r1 with
     |own k1 k2 _=>
      have:=zlJ (nx:=nx) h ho hcl ha1 ha2 hel hz hs2 hy htk (hc _ (by simp)) (t:=t) (g:=g+1) (.inr (by omega)) (c0:=c0) (d':=d') (hc _ (by simp)) (fun f hf=>by
        simp only [Bool.not_eq_true',List.contains_eq_mem,decide_eq_false_iff_not]at hnt
        exact hnt (List.mem_map.2 ⟨_,hf,rfl⟩)) (fun hh=>by have:=q2 _ hh;omega) hv (by rw [←k2];exact q3) rfl q4 q5 (fun g' hg'=>by have:=q2 _ hg';omega) (fun u hu=> .inl (by rw [hu];exact h.rel.ca t g q1)) (ckl:= [.room c0 ye (P.bytesOf el),ck])
      exact this
    ·cases he
   ·cases he
  ·simp only [yqsi]at he;subst he
   generalize hv:a.eval x=v at r1
   cases r1 with
   |emp _=>
    have:=zlJ (nx:=nx) h ho hcl ha1 ha2 hel hz hs2 hy htk (hc _ (by simp)) (t:=nx) (g:=0) (.inl hpn) (c0:= .lst .nil) (d':=true) (top:= []) (N0:= []) (hc _ (by simp)) fresh (hK 0) hv ⟨[],rfl,by simp,by omega, .inl ⟨rfl,⟨_,rfl⟩,rfl,rfl⟩⟩ hoff.1 (by simp) (fun _=>⟨rfl,hoff.2⟩) (fun g' hg'=>absurd hg' (hK g')) hUn (ckl:= [.room (.lst .nil) ye (P.bytesOf el),ck])
    rw [Bool.and_true]at this
    exact this
  ·simp only [yqsi]at he;subst he
   generalize hv:a.eval x=v at r1
   cases r1 with
   |cd _=>
    have:=zlJ (nx:=nx) h ho hcl ha1 ha2 hel hz hs2 hy htk (hc _ (by simp)) (t:=nx) (g:=0) (.inl hpn) (c0:= .lst .nil) (d':=true) (top:= []) (N0:= []) (hc _ (by simp)) fresh (hK 0) hv ⟨[],rfl,by simp,by omega, .inl ⟨rfl,⟨_,rfl⟩,rfl,rfl⟩⟩ hoff.1 (by simp) (fun _=>⟨rfl,hoff.2⟩) (fun g' hg'=>absurd hg' (hK g')) hUn (ckl:= [.room (.lst .nil) ye (P.bytesOf el),ck])
    rw [Bool.and_true]at this
    exact this
  ·cases he
 ·cases he
end
section
variable {P:Program} {c:Cx} {n nx:Nat} {sl sl0:Nat→SV} {hp hp0:Nat→Option Ent} {a:Act} {o:Oper} {gs:Gd} {e:Eff} {sg:SgT} {nv:Nat}
theorem zfg: ∀{ts us:List Nat} {l m:List (Nat × Ent)},za9 hp0 gs ts=some l→za9 hp0 gs us=some m→za9 hp0 gs (ts++us)=some (l++m)
 | [],us,l,m,h,k=>by simp [za9]at h;subst h;simpa using k
 |t::ts,us,l,m,h,k=>by
  unfold za9 at h
  simp only [List.cons_append]
  unfold za9
  split at h
  ·rename_i ety sz g x d l' hl hl'
   have ih:=zfg hl' k
   split at h
   ·rename_i hg
    simp at h;subst h
    simp [hl,ih,hg]
   ·cases h
  ·rename_i ety sz dl g ep x l' hl hl'
   have ih:=zfg hl' k
   split at h
   ·rename_i hg
    simp at h;subst h
    simp [hl,ih,hg]
   ·cases h
  ·rename_i g x l' hl hl'
   have ih:=zfg hl' k
   simp at h;subst h
   simp [hl,ih]
  ·rename_i ty g cs l' hl hl'
   have ih:=zfg hl' k
   simp at h;subst h
   simp [hl,ih]
  ·cases h
theorem zsW {ts us:List Nat} (hs: ∀t∈ts,t∈us) {b:Nat} (h:(c.bw ts).ok b):(c.bw us).ok b:=by
 refine⟨fun hm=>h.1 ?_,h.2⟩
 obtain⟨u,hu,hb⟩:=Cx.jx hm
 exact⟨u,by simp only [Cx.bw];rw [if_neg (fun hh=>hu (hs u hh))];exact hb⟩
theorem zrQ {w:World} {v:Value} {x:AV} {f:List Nat} {t:TypeId} (h:Rd w [v] [x] f) (hg:zaX P t=true∨P.cellsOf t=1) (hx:if zaX P t then∃cs,x= .agg cs∧cs.length=P.cellsOf t else(∀cs,x≠ .agg cs)∧ ∀cs,x≠ .tup cs):
  Rd w v.cells.toList x.cells f∧(∀u∈v.cells.toList,u.oneCell'=true)∧x.cells.length=P.cellsOf t∧v.cells.size=P.cellsOf t:=by
 split at hx
 ·obtain⟨cs,rfl,hl⟩:=hx
  obtain⟨as_,rfl,h1,h2⟩:=zmU h rfl
  have:=h2.len
  exact⟨by simpa [Value.cells,AV.cells]using h2,by simpa [Value.cells]using h1,hl,by simp [Value.cells];omega⟩
 ·rename_i hna
  have h1:P.cellsOf t=1:=by rcases hg with h'|h';exact absurd h' hna;exact h'
  have hone:=zof h hx.1 hx.2
  have hxc:x.cells= [x]:=by cases x<;>first|rfl|exact absurd rfl (hx.1 _)
  rw [one_cells hone,hxc]
  exact⟨by simpa using h,by simpa using hone,by simp [h1],by simp [h1]⟩
theorem zqF (h:Rel c n sl hp a) (hs: ∀t e,hp0 t=some e→hp t=some e) (k:zfS c.ρ gs) {t:TypeId} (hg:zaX P t=true∨P.cellsOf t=1): ∀(ss:List SV) (vs:List Value) {xs:List E} {fz:List (Nat × Ent)} {d:Bool} {ck:List Cn},SR c ss vs→zrS P hp0 gs t ss=some (xs,fz,d,ck)→(∀q∈ck,q.den c.ρ)→
  ∃N,Rd c.w (vs.flatMap fun v=>v.cells.toList) (zaB (xs.map (E.den c.ρ))) N∧(d=true→N= [])∧(∃ts,za9 hp0 gs ts=some fz)∧(∀b∈N,(c.bw (fz.map (·.1))).ok b)∧(∀v∈vs,v.cells.size=P.cellsOf t∧ ∀u∈v.cells.toList,u.oneCell'=true)∧(∀x∈xs,(x.den c.ρ).cells.length=P.cellsOf t)∧xs.length=vs.length
 | [],vs,xs,fz,d,ck,hr,ht,hc=>by
  simp [zrS]at ht;obtain⟨rfl,rfl,rfl,rfl⟩:=ht
  cases hr
  exact⟨[],by simpa [zaB]using Rd.nil,fun _=>rfl,⟨[],rfl⟩,by simp,by simp,by simp,rfl⟩
 |s::ss, [],xs,fz,d,ck,hr,ht,hc=>by have:=hr.len;simp at this
 |s::ss,v::vs,xs,fz,d,ck,hr,ht,hc=>by
  obtain⟨r1,r2⟩:=hr.cf
  unfold zrS at ht
  split at ht
  ·rename_i x fz1 d1 ck1 xs2 fz2 d2 ck2 h1 h2
   simp only [yqsi,Prod.mk.injEq]at ht;obtain⟨rfl,rfl,rfl,rfl⟩:=ht
   obtain⟨f,q1,q2,⟨ts1,q3,q4⟩,q5⟩:=zrU h hs k r1 h1 (fun q hq=>hc q (by simp [hq]))
   obtain⟨N,p1,p2,⟨ts2,p3⟩,p4,p5,p6,p7⟩:=zqF h hs k hg ss vs r2 h2 (fun q hq=>hc q (by simp [hq]))
   obtain⟨o1,o2,o3,o4⟩:=zrQ (P:=P) q1 hg q5
   refine⟨f++N, ?_,fun hd=> ?_,⟨_,zfg q3 p3⟩,fun b hb=> ?_, ?_, ?_,by simp [p7]⟩
   ·simpa [zaB]using o1.app p1
   ·simp only [yqba]at hd
    rw [q2 hd.1,p2 hd.2];rfl
   ·rcases yqma.1 hb with hb|hb
    ·exact zsW (fun t ht=>by simp only [List.map_append,yqma];exact .inl ht) (q4 b hb)
    ·exact zsW (fun t ht=>by simp only [List.map_append,yqma];exact .inr ht) (p4 b hb)
   ·intro u hu
    rcases yqmc.1 hu with rfl|hu
    ·exact⟨o4,o2⟩
    ·exact p5 u hu
   ·intro u hu
    rcases yqmc.1 hu with rfl|hu
    ·exact o3
    ·exact p6 u hu
  ·cases ht
theorem zqx {sz:Nat} (place:Nat→Option (Nat × Nat)) (hpl: ∀i,place i=some (i*sz,sz)): ∀(vs:List Value) (k:Nat) (C:Array Value) (pre suf:List Value),C.toList=pre++suf→pre.length=k*sz→suf.length=vs.length*sz→(∀v∈vs,v.cells.size=sz)→
  ∃C',Instr.fill place C ((vs.zipIdx k).map fun p=>(p.2,p.1))=some C'∧C'.toList=pre++vs.flatMap fun v=>v.cells.toList
 | [],k,C,pre,suf,h,_,h2,_=>by
  have:suf= []:=List.eq_nil_of_length_eq_zero (by simpa using h2)
  subst this
  exact⟨C,rfl,by simpa using h⟩
 |v::vs,k,C,pre,suf,h,h1,h2,h3=>by
  have hv:=h3 v (by simp)
  simp only [yqlc,Nat.add_mul,Nat.one_mul]at h2
  have hC:C.size=pre.length+suf.length:=by rw [←Array.length_toList,h,yqla]
  have hfs:(v.cells.zipIdx.foldl (fun cs (p:Value × Nat)=>cs.setIfInBounds (k*sz+p.2) p.1) C).toList=setVs C.toList (k*sz) v.cells.toList:=by
   have:=zzY v.cells.toList 0 (k*sz) C (by simp;omega)
   rw [←Array.foldl_toList,Array.toList_zipIdx]
   simpa using this
  have hset:setVs C.toList (k*sz) v.cells.toList=(pre++v.cells.toList)++suf.drop sz:=by
   unfold setVs
   rw [h,←h1,List.take_left' rfl]
   congr 1
   rw [List.drop_append,List.drop_eq_nil_of_le (by omega)]
   simp [hv]
  obtain⟨C',g1,g2⟩:=zqx place hpl vs (k+1) (v.cells.zipIdx.foldl (fun cs (p:Value × Nat)=>cs.setIfInBounds (k*sz+p.2) p.1) C) (pre++v.cells.toList) (suf.drop sz) (by rw [hfs,hset]) (by simp [h1,hv,Nat.add_mul]) (by simp;omega) (fun u hu=>h3 u (by simp [hu]))
  refine⟨C', ?_,by rw [g2];simp⟩
  simp only [List.zipIdx_cons,List.map_cons]
  unfold Instr.fill
  simp only [hpl]
  rw [if_neg (by simp [hv];omega)]
  exact g1
theorem zbP.newRow (h:Pre P c n nx sl hp a sl0 hp0 o gs) {ts:List Nat} {fz:List (Nat × Ent)} (hfz:za9 hp0 gs ts=some fz) {el:TypeId} {C:Array Value} {cap:Nat} {xs:List AV} {x:E} {d:Bool} {N:List Nat} {ckl:List Cn} {wd:World} (hwd:wd.heap=c.w.heap∧wd.os=c.w.os∧wd.tape=c.w.tape∧wd.output=c.w.output)
  (hr:(execOp a.eval o).run P c.w= .ok (.value (.slice (some ⟨c.w.heap.size,0,none⟩) xs.length cap)) (wd.alloc (.cells C el))) (hx:x.den c.ρ= .sl xs) (hsz:P.cellsOf el≠0) (hcl: ∀y∈xs,y.cells.length=P.cellsOf el) (hle:xs.length≤cap) (hcap:cap≤maxLen) (hC:C.size=cap*P.cellsOf el)
  (h1: ∀u∈C.toList.take (xs.length*P.cellsOf el),u.oneCell'=true) (hN:Rd c.w (C.toList.take (xs.length*P.cellsOf el)) (zaB xs) N) (hNok: ∀b∈N,(c.bw (fz.map (·.1))).ok b) (hd:d=true→N= []):
  zbP P o c n nx sl hp gs a {bu:=ckl,val:= .own nx 0,bq:=fz++ [(nx,zfR gs (.row el (P.cellsOf el) 0 x d))]}:=by
 intro next Q hk
 unfold Oper.wp
 rw [hr,Oper.upon_value]
 have hU:=zl8 h
 have hrel1:=h.rel.freeze h.hp h.gs hfz
 have hK: ∀g,¬c.K nx g:=fun g hg=>hU (h.rel.ca _ _ hg)
 have hpn:c.A.pin nx=none:=by
  cases hh:c.A.pin nx with
  |none=>rfl
  |some v=>exact absurd (h.rel.base.pins nx v hh).1 hU
 have hoff:=h.rel.off nx (fun e9 hr=>by
  cases hh:hp nx with
  |none=>rw [hh]at hr;exact hr.elim
  |some e8=>exact hU (h.rel.ct nx e8 hh))
 obtain⟨w1,w2,w3,w4⟩:=hwd
 have hgr:c.w.grownBy (wd.alloc (.cells C el)) (some c.w.heap.size):=by
  refine⟨w2,w3,w4, ?_,fun k hk _=> ?_⟩
  ·show c.w.heap.size≤(wd.heap.push _).size
   simp [w1]
  ·have:=Below.heap_alloc wd (.cells C el) k (by rw [w1];exact hk)
   rw [this,w1]
 have hnewb:(wd.alloc (.cells C el)).heap[c.w.heap.size]?=some (.cells C el (0,0)):=by
  have:=heap_alloc_new wd (.cells C el)
  rw [w1]at this;exact this
 have hlt:c.w.heap.size<(wd.alloc (.cells C el)).heap.size:=zbH hnewb
 have hO:(c.bw (fz.map (·.1))).G nx=⟨[], []⟩∨((c.bw (fz.map (·.1))).G nx).O= []:=by
  right
  simp only [Cx.bw];split
  ·rfl
  ·exact hoff.2
 have hfin:=hrel1.bc (gs:=gs) (t:=nx) (g:=0) (w':=wd.alloc (.cells C el)) (row:=some c.w.heap.size) (top:= [c.w.heap.size]) (O:= []) (v:= .slice (some ⟨c.w.heap.size,0,none⟩) xs.length cap) (.inl hpn) (hK 0) hgr (fun g0 hg0=>by cases hg0;exact .inr ⟨rfl,hlt⟩) (.inr ⟨_,rfl,rfl⟩) (.inl rfl)
  (.row el (P.cellsOf el) 0 x d) (by intros;simp) h.gs (fun hkp=>by
   refine⟨.inr ⟨rfl,rfl⟩,fun g' hg'=> ?_,N, ?_,fun b hb=>hkp.ok b (hN.inb b hb) (hNok b hb),fun hdd=> ?_,fun _=>by simp [Cx.bc]⟩
   ·rcases hg' with hg'|⟨_,rfl⟩
    ·exact absurd hg' (hK g')
    ·exact Nat.le_refl _
   ·have e1:((c.bw (fz.map (·.1))).bc nx 0 (wd.alloc (.cells C el)) (.slice (some ⟨c.w.heap.size,0,none⟩) xs.length cap) [c.w.heap.size] []).H nx 0= .slice (some ⟨c.w.heap.size,0,none⟩) xs.length cap:=by simp [Cx.bc]
    have e2:(((c.bw (fz.map (·.1))).bc nx 0 (wd.alloc (.cells C el)) (.slice (some ⟨c.w.heap.size,0,none⟩) xs.length cap) [c.w.heap.size] []).G nx).top= [c.w.heap.size]:=by simp [Cx.bc]
    rw [e1,e2]
    show zc2 (wd.alloc (.cells C el)) el (P.cellsOf el) _ (x.den c.ρ) _ N
    rw [hx]
    exact⟨xs,rfl,hcl,by omega, .inr ⟨_,cap,C,rfl,hle,hcap,hnewb,hC,rfl,h1,hN.frame fun b hb=>hkp.mem b (hN.inb b hb) (hNok b hb)⟩⟩
   ·rw [hd hdd];exact⟨rfl,by simp [Cx.bc]⟩)
 have hSR:SR ((c.bw (fz.map (·.1))).bc nx 0 (wd.alloc (.cells C el)) (.slice (some ⟨c.w.heap.size,0,none⟩) xs.length cap) [c.w.heap.size] []) [.own nx 0] [.slice (some ⟨c.w.heap.size,0,none⟩) xs.length cap]:=
  .own (.inr ⟨rfl,rfl⟩) (by simp [Cx.bc]) .nil
 refine hk _ ((c.bw (fz.map (·.1))).bc nx 0 (wd.alloc (.cells C el)) (.slice (some ⟨c.w.heap.size,0,none⟩) xs.length cap) [c.w.heap.size] []) ⟨rfl,rfl,rfl,rfl,fun u hu=> ?_⟩ ?_
 ·rcases hu with hu|rfl
  ·exact .inl hu
  ·exact .inr ⟨Nat.le_refl _,by simp [zan]⟩
 ·have:=hfin.put (hSR.mkGd gs h.gs) o.dst
  rw [zl3];exact this
theorem znR {t el:TypeId} (hu:P.underlying t=some (.slice el)) (hty:zog P el=true) {i:TypeInfo} {z:Value} (hi:P.info? el=some i) (hz:i.zero=some z) (hco:P.cellsOf el=i.size) (m:Nat) (hle:m*i.size≤2^24) (parts:Array (Nat × Value)) (C:Array Value)
  (hf:Instr.fill (fun j=>some (j*i.size,i.size)) ((Array.range (m*i.size)).map (fun j=>(if m*i.size=0 then #[]else z.cells)[j % (if m*i.size=0 then #[]else z.cells).size]!)) parts.toList=some C) (w:World):
  (Instr.buildSlice t m parts).run P w= .ok (.slice (some ⟨w.heap.size,0,none⟩) m m) (w.alloc (.cells C el)):=by
 have hlim: ¬(2^24<m*i.size):=by omega
 have hr0:Array.range 0= #[]:=rfl
 by_cases h0:m*i.size=0
 ·simp only [h0,if_true,hr0]at hf
  have hem: ∀f:Nat→Value,Array.map f #[]= #[]:=fun f=>by simp
  rw [hem]at hf
  simp only [Instr.buildSlice,Sem.run_bind,run_underlying hu,Result.andThen_ok,zg5 hty,hco]
  simp [h0,hr0,hf,newRow]
 ·simp only [h0,if_false]at hf
  simp only [Instr.buildSlice,Sem.run_bind,run_underlying hu,Result.andThen_ok,zg5 hty,hco]
  simp [h0,hlim,zeroValue,typeInfo,hi,hz,hf,newRow]
theorem zrm (h:Pre P c n nx sl hp a sl0 hp0 o gs) {t:TypeId} {m:Nat} {parts:Array (Nat × Operand)} (ho:o.op= .buildSlice t m parts) {ps:List (Nat × SV)} (hps:parts.toList.mapM (fun(p:Nat × Operand)=>(zaj sl0 gs p.2).map fun s=>(p.1,s))=some ps) (he:zmb P hp0 gs nx t m ps=some e) (hc: ∀q∈e.bu,Cn.den c.ρ q):zbP P o c n nx sl hp gs a e:=by
 obtain⟨e1,e2⟩:=znp (c:=c) (a:=a) (parts.toList.map (·.2)) (fun x s hx hm=>h.cz hx (by simpa [ho,Op.operands]using hm)) (fun x hx=>List.mem_map.2 ⟨x,hx,rfl⟩) hps
 unfold zmb at he
 split at he
 ·rename_i el hel
  have hel:=zfA hel
  split at he
  ·cases he
  rename_i hcond
  simp only [not_or,Bool.not_eq_true',Bool.not_eq_false',ne_eq,Bool.not_eq_false,Nat.not_lt,Decidable.not_not]at hcond
  obtain⟨hz,hty,hag,hle,hdense⟩:=hcond
  have hag:zaX P el=true∨P.cellsOf el=1:=by simpa using hag
  obtain⟨i,z,hi,hiz,hzs,hsz,hco,hby⟩:=ze2 hz
  split at he
  ·rename_i xs fz d ck hta
   split at he
   ·simp only [yqsi]at he;subst he
    obtain⟨N,p1,p2,⟨ts,p3⟩,p4,p5,p6,p7⟩:=zqF h.rel h.hp h.gs hag (ps.map (·.2)) (parts.toList.map fun p=>a.eval p.2) e2 hta hc
    have hlen:(parts.toList.map fun p=>a.eval p.2).length=m:=by
     have:ps.length=m:=by
      have:=congrArg List.length hdense;simpa using this
     have h9:=congrArg List.length e1
     simp at h9 ⊢;omega
    have hparts:(parts.map fun(x:Nat × Operand)=>(x.1,a.eval x.2)).toList=((parts.toList.map fun p=>a.eval p.2).zipIdx 0).map fun p=>(p.2,p.1):=by
     have hidx:parts.toList.map (·.1)=List.range m:=by rw [←e1,hdense]
     apply List.ext_getElem?
     intro j
     have hj:(parts.toList.map (·.1))[j]?=(List.range m)[j]?:=by rw [hidx]
     simp only [Array.toList_map,List.getElem?_map,List.getElem?_zipIdx]at hj ⊢
     cases hp:parts.toList[j]? with
     |none=>simp
     |some p=>
      rw [hp]at hj
      simp only [Option.map_some,yqsi]at hj ⊢
      have hjm:j<m:=by
       rcases Nat.lt_or_ge j m with hh|hh
       ·exact hh
       ·rw [List.getElem?_eq_none (by simpa using hh)]at hj;cases hj
      rw [List.getElem?_range hjm]at hj
      simp at hj
      simp [hj]
    obtain⟨C',f1,f2⟩:=zqx (sz:=i.size) (fun j=>some (j*i.size,i.size)) (fun j=>rfl) (parts.toList.map fun p=>a.eval p.2) 0 ((Array.range (m*i.size)).map (fun j=>(if m*i.size=0 then #[]else z.cells)[j % (if m*i.size=0 then #[]else z.cells).size]!)) [] _ (by simp;rfl) (by simp) (by simp [hlen]) (fun v hv=>by rw [←hco];exact(p5 v hv).1)
    have hCl:C'.toList.length=m*P.cellsOf el:=by
     rw [f2,hco]
     simp only [List.nil_append]
     have: ∀(L:List Value),(∀v∈L,v.cells.size=i.size)→(L.flatMap fun v=>v.cells.toList).length=L.length*i.size:=by
      intro L
      induction L with
      |nil=>intro _;simp
      |cons v L ih=>
       intro hL
       simp only [List.flatMap_cons,yqla,yqlc,Array.length_toList]
       rw [ih (fun u hu=>hL u (by simp [hu])),hL v (by simp),Nat.add_mul];omega
     rw [this _ (fun v hv=>by rw [←hco];exact(p5 v hv).1),hlen]
    have hxl:(xs.map (E.den c.ρ)).length=m:=by rw [List.length_map,p7,hlen]
    have htake:C'.toList.take ((xs.map (E.den c.ρ)).length*P.cellsOf el)=(parts.toList.map fun p=>a.eval p.2).flatMap fun v=>v.cells.toList:=by
     rw [hxl,←hCl,List.take_length,f2];simp
    refine zbP.newRow (xs:=xs.map (E.den c.ρ)) (N:=N) (C:=C') (cap:=m) (wd:=c.w) h p3 ⟨rfl,rfl,rfl,rfl⟩ ?_ (by simp [E.den,EL.dj]) (by omega) (fun y hy=> ?_) (by omega) (by simp only [maxLen];have:m*1≤m*P.cellsOf el:=Nat.mul_le_mul_left _ (by omega);omega) (by rw [←Array.length_toList,hCl]) ?_ (by rw [htake];exact p1) p4 p2
    ·rw [hxl]
     have hrun:=znR (P:=P) hel hty hi hiz hco m (by rw [←hco];omega) (parts.map fun(x:Nat × Operand)=>(x.1,a.eval x.2)) C' (by rw [hparts];exact f1) c.w
     simp only [execOp,ho,Sem.run_bind]
     rw [hrun];rfl
    ·obtain⟨q,hq,rfl⟩:=List.mem_map.1 hy
     exact p6 q hq
    ·rw [htake]
     intro u hu
     obtain⟨v,hv,hu⟩:=List.mem_flatMap.1 hu
     exact(p5 v hv).2 u hu
   ·cases he
  ·cases he
 ·cases he
end
end Go.Proofs.YtgobcjbjogkpjaaGreatDoor
end

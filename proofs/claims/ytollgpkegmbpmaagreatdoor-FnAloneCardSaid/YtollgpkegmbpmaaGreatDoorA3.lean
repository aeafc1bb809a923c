/- Parts of a proof, joined: WA, VJa, VK, VL, VM, VN, VO, VP, VQ, VR, VS, VT, VU, VV, VW. -/
import Derived.Test.YtollgpkegmbpmaaGreatDoorA2
import Derived.WalkSpells
import Derived.Laws.BytesArg
set_option linter.unusedVariables false
set_option linter.unusedSimpArgs false
section
namespace Go.Proofs.YtollgpkegmbpmaaGreatDoor
open Go.RowKit
theorem Hl: ∀{l:List (Nat × Ah)} {t:Nat} {e:Ah},Ax l t=some e→(t,e)∈l
 | [],_,_,h=>by simp [Ax]at h
 |(u,f)::l,t,e,h=>by
  simp only [Ax]at h;split at h
  ·rename_i hu;subst hu;simp at h;subst h;simp
  ·exact List.mem_cons_of_mem _ (Hl h)
theorem Ku {α:Type}: ∀{l:List (Nat × α)} {t:Nat} {e:α},l.lookup t=some e→(t,e)∈l
 | [],_,_,h=>by simp at h
 |(u,f)::l,t,e,h=>by
  simp only [List.lookup_cons]at h;split at h
  ·rename_i hu;simp at h hu;subst h;subst hu;simp
  ·exact List.mem_cons_of_mem _ (Ku h)
theorem Tg: ∀{θ:List (Nat × Option Nat)},KD θ=true→ ∀{t u v:Nat},(t,some v)∈θ→(u,some v)∈θ→t=u
 | [],_,t,u,v,h,_=>by simp at h
 |(p,q)::θ,hn,t,u,v,h1,h2=>by
  have mT:KD θ=true:=by cases q<;>(simp only [KD,Ac]at hn;exact hn.2)
  have key: ∀x,(p,some v)=(p,q)→(x,some v)∈θ→False:=by intro x hq hx;cases hq;simp only [KD,Ac,AN]at hn;have:=hn.1 _ hx;simp at this
  rcases Ae.1 h1 with h3|h3<;>rcases Ae.1 h2 with h4|h4
  ·cases h3;cases h4;rfl
  ·cases h3;exact(key u rfl h4).elim
  ·cases h4;exact(key t rfl h3).elim
  ·exact Tg mT h3 h4
def Bu (hp:List (Nat × Ah)) (t:Nat):Option Nat:=match Ax hp t with
 |some (.box ..)=>some 0
 |some (.row _ _ g _ _)=>some g
 |some (.ax g _)=>some g
 |some (.deep _ _ _ g _ _)=>some g
 |_=>none
def F5 (hp:List (Nat × Ah)) (t:Nat):Bool:=match Ax hp t with
 |some (.box ..)=>true
 |some (.row ..)=>true
 |some (.deep ..)=>true
 |_=>false
def JS (pat leaf:Option Ah) (g:GI):GI:=match pat,leaf with
 |some (.row ..),some (.deep ..)=>⟨g.top.take 1, []⟩
 |_,_=>g
theorem x8 {p l:Option Ah} {g:GI} {b:Nat} (h:b∈(JS p l g).top):b∈g.top:=by
 unfold JS at h;split at h
 ·exact List.mem_of_mem_take h
 ·exact h
theorem xB {p l:Option Ah} {g:GI} {b:Nat} (h:b∈(JS p l g).own):b∈g.own:=by
 unfold JS at h;split at h
 ·simp only [GI.own,List.append_nil]at h;simp [GI.own,List.mem_of_mem_take h]
 ·exact h
theorem uR {p l:Option Ah} {g:GI} (h:g.own.Nodup):(JS p l g).own.Nodup:=by
 unfold JS;split
 ·simp only [GI.own,List.append_nil]at h ⊢;exact List.Sublist.nodup (List.Sublist.trans (List.take_sublist _ _) (List.sublist_append_left _ _)) h
 ·exact h
def Cu (c:Cx) (ρ:List AV) (θ:List (Nat × Option Nat)) (pat leaf:St):Cx:=
 {c with
  ρ:=ρ
  G:=fun t=>if F5 pat.hp t then(match θ.lookup t with|some (some t')=>JS (Ax pat.hp t) (Ax leaf.hp t') (c.G t')|_=>⟨[], []⟩)else⟨[], []⟩
  K:=fun t g=>Bu pat.hp t=some g
  H:=fun t _=>match θ.lookup t with|some (some t')=>c.H t' ((Bu leaf.hp t').getD 0)|_=> .slice none 0 0
  U:=fun t=>t<pat.nx
  E:=fun t=>match Ax pat.hp t with|some (.deep _ _ _ _ ep _)=>ep|_=>0}
section
variable {c:Cx} {ρ:List AV} {nv n:Nat} {es:List E} {θ:List (Nat × Option Nat)} {pat leaf:St} {sl:Nat→SV} {a:Act}
theorem KF {t b:Nat} (h:b∈((Cu c ρ θ pat leaf).G t).own):F5 pat.hp t=true∧ ∃t',θ.lookup t=some (some t')∧(b∈((Cu c ρ θ pat leaf).G t).top→b∈(c.G t').top)∧b∈(c.G t').own:=by
 simp only [Cu]at h ⊢;split at h
 ·rename_i ho;split at h
  ·rename_i t' ht;exact⟨ho,t',ht,fun hb=>by rw [if_pos ho]at hb;exact x8 hb,xB h⟩
  ·simp [GI.own]at h
 ·simp [GI.own]at h
theorem NJ {b:Nat} (h:c.ok b):(Cu c ρ θ pat leaf).ok b:=by refine⟨fun⟨t,ht⟩=> ?_,h.2⟩;obtain⟨_,t',_,hg,_⟩:=KF (b:=b) (by simp only [GI.own,Af];exact .inl ht);exact h.1 ⟨t',hg ht⟩
theorem Ju (hp:ρ<+:c.ρ) (hn:ρ.length=nv) {x y:E} (h:HZ nv es x y=true):x.den (ρ++(EL.of es).den c.ρ)=y.den c.ρ:=by
 obtain⟨τ,hτ⟩:=hp;have I3:x.sc nv=true→x.beq y=true→x.den (ρ++(EL.of es).den c.ρ)=y.den c.ρ:=by intro h1 h2;rw [←E.af c.ρ x y h2];subst hn;generalize hq:(EL.of es).den c.ρ=q;rw [E.ah ρ q τ x h1,hτ]
 unfold HZ at h;split at h
 ·rename_i i;split at h
  ·rename_i hi;exact I3 (by simpa [E.sc]using hi) h
  ·rename_i hi;split at h
   ·rename_i z hz;rw [←E.af c.ρ z y h];simp only [E.den,EL.cq];rw [List.getElem?_append_right (by omega),hn,List.getElem?_map,hz];rfl
   ·cases h
 ·simp only [Ac]at h;exact I3 h.1 h.2
theorem yW (Ak:Rel c n sl (Ax leaf.hp) a) {s:SV} {v:Value} {y:E} (hs:SR c [s] [v]) (h:Hp leaf s=some y): ∃f,Rd c.w [v] [y.den c.ρ] f∧ ∀b∈f,c.dr (Bo (Ax leaf.hp) [] (AJ+1) [s]) b:=
 Gy (fun t e hr=>Ak.ents t e hr) (D7 _) AJ h hs AJ (Nat.le_refl _)
mutual
theorem jD (Ak:Rel c n sl (Ax leaf.hp) a) (hp:ρ<+:c.ρ) (hn:ρ.length=nv) (BM: ∀t e,(t,e)∈pat.hp→G3 nv es θ pat leaf t e=true): ∀(m:Nat) {p s:SV} {v:Value},PC nv es θ pat leaf m p s=true→SR c [s] [v]→SR (Cu c (ρ++(EL.of es).den c.ρ) θ pat leaf) [p] [v]
 |0,p,s,v,h,_=>by simp [PC]at h
 |m+1,p,s,v,h,hs=>by
  unfold PC at h;split at h
  ·exact .undef .nil
  ·rename_i x;split at h
   ·rename_i y hy;simp only [Ac,AN,Bool.or_eq_true]at h;obtain⟨f,hf,GM⟩:=yW Ak hs hy;have hx:=Ju (c:=c) hp hn h.1;refine .e (by rw [show(Cu c (ρ++(EL.of es).den c.ρ) θ pat leaf).ρ=ρ++(EL.of es).den c.ρ from rfl,hx];exact hf) (fun b hb=> ?_) .nil;rcases GM b hb with hb|⟨t',Kj,hb⟩
    ·exact NJ hb
    ·refine⟨fun⟨u,hu⟩=> ?_, .inr (Ak.gw.allow t' b (by simp [GI.own,hb]))⟩;obtain⟨ho,v',hl,hg,OB⟩:=KF (b:=b) (by simp only [GI.own,Af];exact .inl hu);have hv:v'=t':=by
      refine Classical.byContradiction fun A4=>Ak.gw.bp v' t' A4 b OB (by simp [GI.own,hb])
     subst hv;have:=h.2 _ Kj _ (Ku hl);simp only [bne_self_eq_false,A9,false_or]at this;unfold F5 at ho;split at this
     ·rename_i hh;rw [hh]at ho;simp at ho
     ·rename_i hh;rw [hh]at ho;simp at ho
     ·cases this
   ·cases h
  ·split at h
   ·cases hs with
    |a8 _=>exact .a8 .nil
   ·cases h
  ·split at h
   ·cases hs with
    |emp _=>exact .emp .nil
   ·cases hs with
    |a8 _=>exact .emp .nil
   ·cases h
  ·rename_i t g;have key: ∀t' v',Bu pat.hp t=some g→θ.lookup t=some (some t')→IA leaf.hp t' v'=true→SR c [.own t' v'] [v]→SR (Cu c (ρ++(EL.of es).den c.ρ) θ pat leaf) [.own t g] [v]:=by
    intro t' v' hg hl hv hs;cases hs with
    |own h1 h2 _=>
     refine .own hg ?_ .nil;show(match θ.lookup t with|some (some t')=>c.H t' ((Bu leaf.hp t').getD 0)|_=>Value.slice none 0 0)=_;rw [hl];have:(Bu leaf.hp t').getD 0=v':=by
      unfold IA at hv;unfold Bu;split at hv
      ·rename_i hh;rw [hh];simpa using(beq_iff_eq.1 hv).symm
      ·rename_i hh;rw [hh];simpa using(beq_iff_eq.1 hv).symm
      ·rename_i hh;rw [hh];simpa using(beq_iff_eq.1 hv).symm
      ·cases hv
     show c.H t' ((Bu leaf.hp t').getD 0)=_;rw [this];exact h2
   split at h
   ·rename_i g' _ _ Dk;simp only [Ac,beq_iff_eq]at h;obtain⟨rfl,h⟩:=h;split at h
    ·simp only [Ac,beq_iff_eq]at h;exact key _ _ (by simp [Bu,Dk]) h.1 h.2 hs
    ·rw [beq_iff_eq]at h;cases hs with
     |a8 _=>refine .own (p:=none) (q:=0) (r:=0) (by show Bu pat.hp t=some g;simp [Bu,Dk]) ?_ .nil;show(match θ.lookup t with|some (some t')=>c.H t' ((Bu leaf.hp t').getD 0)|_=>Value.slice none 0 0)=_;rw [h]
    ·cases h
   ·rename_i g' _ Dk;simp only [Ac,beq_iff_eq]at h;obtain⟨rfl,h⟩:=h;split at h
    ·simp only [Ac,beq_iff_eq]at h;exact key _ _ (by simp [Bu,Dk]) h.1 h.2 hs
    ·cases h
   ·rename_i g' _ _ Dk;simp only [Ac,beq_iff_eq]at h;obtain⟨rfl,h⟩:=h;split at h
    ·simp only [Ac,beq_iff_eq]at h;exact key _ _ (by simp [Bu,Dk]) h.1 h.2 hs
    ·rw [beq_iff_eq]at h;cases hs with
     |a8 _=>refine .own (p:=none) (q:=0) (r:=0) (by show Bu pat.hp t=some g;simp [Bu,Dk]) ?_ .nil;show(match θ.lookup t with|some (some t')=>c.H t' ((Bu leaf.hp t').getD 0)|_=>Value.slice none 0 0)=_;rw [h]
    ·cases h
   ·cases h
  ·rename_i t o;split at h
   ·rename_i ty g cs Dk;split at h
    ·rename_i t' o';simp only [Ac,beq_iff_eq]at h;obtain⟨rfl,hl⟩:=h;have GF:=BM t _ (Hl Dk);simp only [G3,hl]at GF;split at GF
     ·rename_i Cs;cases hs with
      |bj h1 h2 _=>
       refine .bj (by show Bu pat.hp t=some 0;simp [Bu,Dk]) ?_ .nil;show(match θ.lookup t with|some (some t')=>c.H t' ((Bu leaf.hp t').getD 0)|_=>Value.slice none 0 0)=_;rw [hl];have:(Bu leaf.hp t').getD 0=0:=by simp [Bu,Cs]
       simp only [this];exact h2
     ·cases GF
    ·cases h
   ·cases h
  ·cases h
  ·rename_i x i z o;split at h
   ·rename_i y j z' o';simp only [Ac,beq_iff_eq]at h;obtain⟨⟨⟨⟨⟨rfl,rfl⟩,h1⟩,h2⟩,h3⟩,h4⟩:=h;have hx:x.den (ρ++(EL.of es).den c.ρ)=y.den c.ρ:=by
     obtain⟨τ,hτ⟩:=hp;rw [←E.af c.ρ x y h2];subst hn;generalize (EL.of es).den c.ρ=q;rw [E.ah ρ q τ x h1,hτ]
    have hi:i.den (ρ++(EL.of es).den c.ρ)=j.den c.ρ:=by obtain⟨τ,hτ⟩:=hp;rw [←E.af c.ρ i j h4];subst hn;generalize (EL.of es).den c.ρ=q;rw [E.ah ρ q τ i h3,hτ]
    cases hs with
    |ct g1 g2 g3 g4 g5 g6 _=>refine .ct (f:=_) (by show Rd c.w _ [x.den (ρ++(EL.of es).den c.ρ)] _;rw [hx];exact g1) (fun b hb=>NJ (g2 b hb)) (by show i.den (ρ++(EL.of es).den c.ρ)=_;rw [hi];exact g3) g4 g5 (by show((x.den (ρ++(EL.of es).den c.ρ)).nth _).cells.length=_;rw [hx];exact g6) .nil
   ·cases h
  ·rename_i x o;split at h
   ·rename_i y o';simp only [Ac,beq_iff_eq]at h;obtain⟨⟨rfl,h1⟩,h2⟩:=h;have hx:x.den (ρ++(EL.of es).den c.ρ)=y.den c.ρ:=by
     obtain⟨τ,hτ⟩:=hp;rw [←E.af c.ρ x y h2];subst hn;generalize (EL.of es).den c.ρ=q;rw [E.ah ρ q τ x h1,hτ]
    cases hs with
    |cm g1 g2 _=>exact .cm (by show Rd c.w _ [x.den (ρ++(EL.of es).den c.ρ)] _;rw [hx];exact g1) (fun b hb=>NJ (g2 b hb)) .nil
   ·cases h
  ·split at h
   ·cases hs with
    |agg h9 h1 _=>exact .agg h9 (QA Ak hp hn BM m h h1) .nil
   ·cases h
  ·split at h
   ·cases hs with
    |tup h1 _=>exact .tup (QA Ak hp hn BM m h h1) .nil
   ·cases h
  ·split at h
   ·simp only [Ac,beq_iff_eq]at h;obtain⟨rfl,h⟩:=h;cases hs with
    |fn h1 _=>exact .fn (QA Ak hp hn BM m h h1) .nil
   ·cases h
  ·cases h
  ·cases h
  ·cases h
  ·cases h
  ·rename_i i;split at h
   ·rename_i j;simp only [Ac,beq_iff_eq,decide_eq_true_eq]at h;obtain⟨rfl,hi⟩:=h;cases hs with
    |lent g1 _=>
     have hx:(E.var i).den (ρ++(EL.of es).den c.ρ)=(E.var i).den c.ρ:=by obtain⟨τ,hτ⟩:=hp;subst hn;generalize (EL.of es).den c.ρ=q;rw [E.ah ρ q τ (.var i) (by simpa [E.sc]using hi),hτ]
     exact .lent (show c.A.lo v ((E.var i).den (ρ++(EL.of es).den c.ρ)) by rw [hx];exact g1) .nil
   ·cases h
theorem QA (Ak:Rel c n sl (Ax leaf.hp) a) (hp:ρ<+:c.ρ) (hn:ρ.length=nv) (BM: ∀t e,(t,e)∈pat.hp→G3 nv es θ pat leaf t e=true): ∀(m:Nat) {ps ss:List SV} {vs:List Value},F7 nv es θ pat leaf m ps ss=true→SR c ss vs→SR (Cu c (ρ++(EL.of es).den c.ρ) θ pat leaf) ps vs
 |0,ps,ss,vs,h,_=>by simp [F7]at h
 |m+1, [], [],vs,h,hs=>by cases hs;exact .nil
 |m+1,p::ps, [],vs,h,hs=>by simp [F7]at h
 |m+1, [],s::ss,vs,h,hs=>by simp [F7]at h
 |m+1,p::ps,s::ss, [],h,hs=>by have:=hs.len;simp at this
 |m+1,p::ps,s::ss,v::vs,h,hs=>by simp only [F7,Ac]at h;obtain⟨h1,h2⟩:=hs.bf;exact(jD Ak hp hn BM m h.1 h1).cons (QA Ak hp hn BM m h.2 h2)
end
theorem vD (Ak:Rel c n sl (Ax leaf.hp) a) (hp:ρ<+:c.ρ) (hn:ρ.length=nv) (BM: ∀t e,(t,e)∈pat.hp→G3 nv es θ pat leaf t e=true) (hθ:KD θ=true) {t:Nat} {e:Ah} (ht:Ax pat.hp t=some e):Cv (Cu c (ρ++(EL.of es).den c.ρ) θ pat leaf) t e:=by
 have h:=BM t e (Hl ht);have Y9:F5 pat.hp t=false→(Cu c (ρ++(EL.of es).den c.ρ) θ pat leaf).G t=⟨[], []⟩:=by intro h0;simp only [Cu];rw [if_neg (by rw [h0];simp)]
 have Za: ∀t',F5 pat.hp t=true→θ.lookup t=some (some t')→(Cu c (ρ++(EL.of es).den c.ρ) θ pat leaf).G t=JS (Ax pat.hp t) (Ax leaf.hp t') (c.G t'):=by intro t' h0 hl;simp only [Cu];rw [if_pos h0,hl]
 have Ot: ∀t',F5 pat.hp t=true→θ.lookup t=some (some t')→(∀q1 q2 q3 q4 q5 q6,Ax leaf.hp t'=some (.deep q1 q2 q3 q4 q5 q6)→ ∀p1 p2 p3 p4 p5,e≠ .row p1 p2 p3 p4 p5)→(Cu c (ρ++(EL.of es).den c.ρ) θ pat leaf).G t=c.G t':=by
  intro t' h0 hl DL;rw [Za t' h0 hl,ht];unfold JS;split
  ·rename_i h1 h2;simp only [Ad]at h1;exact absurd h1 (DL _ _ _ _ _ _ h2 _ _ _ _ _)
  ·rfl
 have IT: ∀t' g,θ.lookup t=some (some t')→Bu leaf.hp t'=some g→ ∀g',(Cu c (ρ++(EL.of es).den c.ρ) θ pat leaf).H t g'=c.H t' g:=by intro t' g hl hg g';simp only [Cu,hl,hg,Option.getD_some]
 have DH: ∀g,Bu pat.hp t=some g→ ∀g',(Cu c (ρ++(EL.of es).den c.ρ) θ pat leaf).K t g'→g'≤g:=by intro g hg g' hk;have BO:Bu pat.hp t=some g':=hk;rw [hg]at BO;cases BO;exact Nat.le_refl _
 cases e with
 |box ty g cs=>
  simp only [G3]at h;split at h
  ·rename_i t' hl;split at h
   ·rename_i ty' g' ds Cs;simp only [Ac,beq_iff_eq]at h;obtain⟨⟨rfl,rfl⟩,h⟩:=h;obtain⟨b,C,h1,h2,h3,h4,h5,h6,h7⟩:=Ak.ents t' _ (by rw [Cs];rfl);have hg:=Ot t' (by simp [F5,ht]) hl (by intros;simp);exact⟨b,C,by show Bu pat.hp t=some 0;simp [Bu,ht],by rw [IT t' 0 hl (by simp [Bu,Cs])];exact h2,by rw [hg];exact h3,by rw [hg];exact h4,h5,h6,QA Ak hp hn BM _ h h7⟩
   ·cases h
  ·cases h
 |row et z g x d=>
  simp only [G3]at h;split at h
  ·rename_i t' hl;split at h
   ·rename_i et' z' g' y d' Cs;simp only [Ac,beq_iff_eq,Bool.or_eq_true,Bool.not_eq_true']at h;obtain⟨⟨⟨rfl,rfl⟩,hx⟩,hd⟩:=h;obtain⟨h1,h2,N,h3,h4,h5,h6⟩:=Ak.ents t' _ (by rw [Cs];rfl);have hg:=Ot t' (by simp [F5,ht]) hl (fun _ _ _ _ _ _ hh=>by rw [Cs]at hh;cases hh);have Co:=Ju hp hn hx;have hK:Bu pat.hp t=some g:=by simp [Bu,ht]
    refine⟨hK,DH g hK,N, ?_,fun b hb=>NJ (h4 b hb),fun CQ=> ?_,fun hdf=> ?_⟩
    ·rw [IT t' g' hl (by simp [Bu,Cs]),hg];show Ce c.w et z _ (x.den (ρ++(EL.of es).den c.ρ)) _ N;rw [Co];exact h3
    ·rw [hg];exact h5 (by rcases hd with hd|hd;rw [CQ]at hd;cases hd;exact hd)
    ·rw [hg];cases d' with
     |false=>exact h6 rfl
     |true=>obtain⟨u1,u2⟩:=h5 rfl;rw [u2];exact u1
   ·rename_i et' z' l' g' ep' y Cs;simp only [Ac,beq_iff_eq,Bool.not_eq_true']at h;obtain⟨⟨⟨rfl,rfl⟩,hx⟩,rfl⟩:=h;obtain⟨h1,h2,_,h3,h4⟩:=Ak.ents t' _ (by rw [Cs];rfl);have hg:(Cu c (ρ++(EL.of es).den c.ρ) θ pat leaf).G t=⟨(c.G t').top.take 1, []⟩:=by
     rw [Za t' (by simp [F5,ht]) hl,ht,Cs];rfl
    have Co:=Ju hp hn hx;have hK:Bu pat.hp t=some g:=by simp [Bu,ht]
    obtain⟨f,k1,k2⟩:=h3.ownRow;have By:((c.G t').top.take 1++(c.G t').top.drop 1).Nodup:=by rw [List.take_append_drop];have:=Ak.gw.nodup t';simp only [GI.own,h4,List.append_nil]at this;exact this
    refine⟨hK,DH g hK,f, ?_,fun b hb=> ?_,fun CQ=>(by cases CQ),fun _=>by rw [hg]⟩
    ·rw [IT t' g' hl (by simp [Bu,Cs]),hg];show Ce c.w et z _ (x.den (ρ++(EL.of es).den c.ρ)) _ f;rw [Co];exact k1
    ·have B2:b∈(c.G t').top:=List.mem_of_mem_drop (k2 b hb);refine⟨fun⟨u,hu⟩=> ?_, .inr (Ak.gw.allow t' b (by simp [GI.own,B2]))⟩;obtain⟨_,v',Bl,_,OB⟩:=KF (b:=b) (by simp only [GI.own,Af];exact .inl hu);have hv:v'=t':=Classical.byContradiction fun A4=>Ak.gw.bp v' t' A4 b OB (by simp [GI.own,B2]);subst hv;have:=Tg hθ (Ku Bl) (Ku hl);subst this;rw [hg]at hu;exact(List.nodup_append.1 By).2.2 b hu b (k2 b hb) rfl
   ·cases h
  ·rename_i hl;simp only [Ac,decide_eq_true_eq]at h;have Co:=Ju hp hn h.1;have hK:Bu pat.hp t=some g:=by simp [Bu,ht]
   have hg:(Cu c (ρ++(EL.of es).den c.ρ) θ pat leaf).G t=⟨[], []⟩:=by simp [Cu,hl]
   refine⟨hK,DH g hK, [],⟨[], ?_,by simp,h.2, .inl ⟨rfl,⟨none, ?_⟩,by rw [hg],rfl⟩⟩,by simp,fun _=>⟨rfl,by rw [hg]⟩,fun _=>by rw [hg]⟩
   ·show x.den (ρ++(EL.of es).den c.ρ)=_;rw [Co];rfl
   ·simp [Cu,hl]
  ·cases h
 |ax g x=>
  have hg:=Y9 (by simp [F5,ht]);have hK:Bu pat.hp t=some g:=by simp [Bu,ht]
  simp only [G3]at h;split at h
  ·rename_i t' hl;have GM: ∀b,b∈(c.G t').top→(Cu c (ρ++(EL.of es).den c.ρ) θ pat leaf).ok b:=by
    intro b hb;refine⟨fun⟨u,hu⟩=> ?_, .inr (Ak.gw.allow t' b (by simp [GI.own,hb]))⟩;obtain⟨ho,v',Bl,BN,OB⟩:=KF (b:=b) (by simp only [GI.own,Af];exact .inl hu);have hv:v'=t':=Classical.byContradiction fun A4=>Ak.gw.bp v' t' A4 b OB (by simp [GI.own,hb]);subst hv;have:=Tg hθ (Ku Bl) (Ku hl);subst this;simp [F5,ht]at ho
   split at h
   ·rename_i et' z' g' y d' Cs;obtain⟨h1,h2,N,h3,h4,h5,h6⟩:=Ak.ents t' _ (by rw [Cs];rfl);obtain⟨f,r1,r2,_⟩:=h3.rd;refine⟨hK,⟨f, ?_,fun b hb=>(r2 b hb).elim (GM b) fun hb=>NJ (h4 b hb)⟩,by rw [hg],by rw [hg]⟩;rw [IT t' g' hl (by simp [Bu,Cs])];show Rd c.w _ [x.den (ρ++(EL.of es).den c.ρ)] f;rw [Ju hp hn h];exact r1
   ·rename_i g' y Cs;obtain⟨h1,⟨f,r1,r2⟩,_,_⟩:=Ak.ents t' _ (by rw [Cs];rfl);refine⟨hK,⟨f, ?_,fun b hb=>NJ (r2 b hb)⟩,by rw [hg],by rw [hg]⟩;rw [IT t' g' hl (by simp [Bu,Cs])];show Rd c.w _ [x.den (ρ++(EL.of es).den c.ρ)] f;rw [Ju hp hn h];exact r1
   ·rename_i et' z' l' g' ep' y Cs;obtain⟨h1,h2,_,h3,h4⟩:=Ak.ents t' _ (by rw [Cs];rfl);obtain⟨f,r1,r2⟩:=h3.rd;refine⟨hK,⟨f, ?_,fun b hb=>GM b (r2 b hb)⟩,by rw [hg],by rw [hg]⟩;rw [IT t' g' hl (by simp [Bu,Cs])];show Rd c.w _ [x.den (ρ++(EL.of es).den c.ρ)] f;rw [Ju hp hn h];exact r1
   ·cases h
  ·cases h
 |hol=>simp [G3]at h
 |deep et z dl g ep x=>
  have hE:(Cu c (ρ++(EL.of es).den c.ρ) θ pat leaf).E t=ep:=by simp [Cu,ht]
  have hK:Bu pat.hp t=some g:=by simp [Bu,ht]
  simp only [G3]at h;split at h
  ·rename_i t' hl;split at h
   ·rename_i et' z' dl' g' ep' y Cs;simp only [Ac,beq_iff_eq]at h;obtain⟨⟨⟨rfl,rfl⟩,US⟩,hx⟩:=h;have US:=AH.gm US;subst US;obtain⟨h1,h2,_,h3,h4⟩:=Ak.ents t' _ (by rw [Cs];rfl);have hg:=Ot t' (by simp [F5,ht]) hl (by intros;simp);refine⟨hK,DH g hK,hE, ?_,by rw [hg];exact h4⟩;rw [IT t' g' hl (by simp [Bu,Cs]),hg];show DC c.w _ _ [x.den (ρ++(EL.of es).den c.ρ)] _;rw [Ju hp hn hx];exact h3
   ·cases h
  ·rename_i hl;have hg:(Cu c (ρ++(EL.of es).den c.ρ) θ pat leaf).G t=⟨[], []⟩:=by simp [Cu,hl]
   simp only [Ac,decide_eq_true_eq,beq_iff_eq]at h;refine⟨hK,DH g hK,hE, ?_,by rw [hg]⟩;have e1:(Cu c (ρ++(EL.of es).den c.ρ) θ pat leaf).H t g= .slice none 0 0:=by simp [Cu,hl]
   rw [e1,hg];show DC c.w _ _ [x.den (ρ++(EL.of es).den c.ρ)] _;rw [Ju hp hn h.1.1];exact .void h.1.2 (by rw [AH.aj];exact h.2) .nil
  ·cases h
 |gd gs e=>simp [G3]at h
 |dead=>have hg:=Y9 (by simp [F5,ht]);exact⟨by rw [hg],by rw [hg]⟩
end
theorem gM {nv:Nat} {es:List E} {θ:List (Nat × Option Nat)} {pat leaf:St}: ∀(m:Nat) {ps ss:List SV},F7 nv es θ pat leaf m ps ss=true→ ∀{i:Nat} {p:SV},ps[i]?=some p→ ∃s k,ss[i]?=some s∧PC nv es θ pat leaf k p s=true
 |0,ps,ss,h,_,_,_=>by simp [F7]at h
 |m+1, [],ss,h,i,p,hp=>by simp at hp
 |m+1,q::ps, [],h,i,p,hp=>by simp [F7]at h
 |m+1,q::ps,s::ss,h,i,p,hp=>by
  simp only [F7,Ac]at h;cases i with
  |zero=>simp at hp;subst hp;exact⟨s,m,rfl,h.1⟩
  |succ i=>simpa using gM m h.2 (by simpa using hp)
theorem yT:T0:=by
 intro F nv pat τ es ρ ρ' a w hi hn hp hr;obtain⟨c,rfl,rfl,Rz,hA,Ur,Fc,hU,Ak⟩:=hr;unfold IJ at hi;simp only at hi;split at hi
 ·rename_i Aw;simp only [Ad]at hi;generalize UU:(List.range (pat.nv-nv)).map (fun j=>((Mk nv pat τ true pat.hp (Mk nv pat τ false pat.hp (KU nv pat τ 2000 ⟨[], []⟩ pat.sl τ.sl))).as_.lookup (nv+j)).getD (.int .i64 0))=es0 at Aw hi;subst hi;generalize (Mk nv pat τ true pat.hp (Mk nv pat τ false pat.hp (KU nv pat τ 2000 ⟨[], []⟩ pat.sl τ.sl))).θ=θ at Aw;clear UU;simp only [kM,Ac,beq_iff_eq,AN,decide_eq_true_eq]at Aw;obtain⟨⟨⟨⟨⟨⟨h1,hθ⟩,hlen⟩,B6⟩,Cr⟩,mY⟩,Pg⟩:=Aw;have BM: ∀t e,(t,e)∈pat.hp→G3 nv es0 θ pat τ t e=true:=fun t e he=>(Cr _ he).1;have Au: ∀t e,(t,e)∈pat.hp→t<pat.nx:=fun t e he=>(Cr _ he).2;have Pd: ∀t e,Ax pat.hp t=some e→ ∀gs e',e≠ .gd gs e':=by
   rintro t e he gs e' rfl;have:=BM t _ (Hl he);simp [G3]at this
  have AK: ∀t e e',Ax pat.hp t=some e→(BW (ρ++(EL.of es0).den c.ρ) (Ax pat.hp t) e'↔e'=e):=by
   intro t e e' he;rw [he];cases e with
   |gd gs e9=>exact absurd rfl (Pd t _ he gs e9)
   |_=>simp [BW,eq_comm]
  refine⟨Cu c (ρ++(EL.of es0).den c.ρ) θ pat τ,rfl,rfl,Rz,hA,Ur, ?_,fun t ht=>ht,Ak.defers,by rw [hlen];exact Ak.size,⟨Ak.base.os,Ak.base.tape,Ak.base.output,Ak.base.size,fun t v MK=> ?_,Ak.base.block,Ak.base.pk,Ak.base.lo⟩,fun i=> ?_,fun t e hr=> ?_,fun t DL=> ?_,⟨fun t=> ?_,fun t u Kk b hb BC=> ?_,fun t b hb=> ?_,fun t b hb=> ?_⟩,fun t g hk=> ?_,fun t e he=>Au t e (Hl he)⟩
  ·rw [h1,EL.cq];simp [hn]
  ·have Lg:KN t=true:=F.ma t v (by rw [←hA];exact MK);refine⟨by
    show t<pat.nx;unfold KN at Lg;simp only [Ac,decide_eq_true_eq]at Lg;omega,fun hk=> ?_⟩
   have BO:Bu pat.hp t=some 0:=hk;obtain⟨e,VB⟩: ∃e,Ax pat.hp t=some e:=by
    unfold Bu at BO;cases hh:Ax pat.hp t with
    |none=>rw [hh]at BO;cases BO
    |some e=>exact⟨e,rfl⟩
   have C6:=Pg _ (Hl VB);simp only [Lg,Bool.not_true,Bool.false_or]at C6;have main:θ.lookup t=some (some t)→Bu τ.hp t=some 0→c.K t 0→(Cu c (ρ++(EL.of es0).den c.ρ) θ pat τ).H t 0=v:=by intro hl hg hK;simp only [Cu,hl,hg,Option.getD_some];exact(Ak.base.pins t v MK).2 hK
   unfold Kn at C6;simp only [Bu,VB]at BO;rw [VB]at C6;cases e with
   |box ty g cs=>
    simp only [Ac,beq_iff_eq]at C6;obtain⟨hl,hb⟩:=C6;split at hb
    ·rename_i ty' g' cs' Cs;obtain⟨b,C,q1,_⟩:=Ak.ents t _ (by rw [Cs];rfl);exact main hl (by simp [Bu,Cs]) q1
    ·cases hb
   |row ety sz g x d=>
    simp only [Ad]at BO;subst BO;simp only [bne_self_eq_false,Bool.false_or,Ac,beq_iff_eq]at C6;obtain⟨hl,hb⟩:=C6;split at hb
    ·rename_i ety' sz' g' x' d' Cs;rw [beq_iff_eq]at hb;subst hb;obtain⟨q1,_⟩:=Ak.ents t _ (by rw [Cs];rfl);exact main hl (by simp [Bu,Cs]) q1
    ·cases hb
   |ax g x=>simp only [Ad]at BO;subst BO;simp at C6
   |gd=>simp at BO
   |dead=>simp at BO
   |hol=>simp at BO
   |deep ety sz l g ep x=>
    simp only [Ad]at BO;subst BO;simp only [bne_self_eq_false,Bool.false_or,Ac,beq_iff_eq]at C6;obtain⟨hl,hb⟩:=C6;split at hb
    ·rename_i Cs;rw [beq_iff_eq]at hb;subst hb;obtain⟨q1,_⟩:=Ak.ents t _ (by rw [Cs];rfl);exact main hl (by simp [Bu,Cs]) q1
    ·cases hb
  ·unfold Bd;cases nD:pat.sl[i]? with
   |none=>exact .undef .nil
   |some p=>obtain⟨s,k,hs,hk⟩:=gM _ B6 nD;have:=Ak.cc i;unfold Bd at this;rw [hs]at this;exact jD Ak hp hn BM k hk this
  ·cases he:Ax pat.hp t with
   |none=>rw [he]at hr;exact hr.elim
   |some e9=>have K6:=(AK t e9 e he).1 hr;subst K6;exact vD Ak hp hn BM hθ he
  ·have:F5 pat.hp t=false:=by
    cases he:Ax pat.hp t with
    |none=>simp [F5,he]
    |some e9=>exact absurd ((AK t e9 e9 he).2 rfl) (DL e9)
   simp [Cu,this]
  ·simp only [Cu];split
   ·split
    ·exact uR (Ak.gw.nodup _)
    ·simp [GI.own]
   ·simp [GI.own]
  ·obtain⟨_,t',hl,_,B2⟩:=KF hb;obtain⟨_,u',Bl,_,GG⟩:=KF BC;by_cases hh:t'=u'
   ·subst hh;exact Kk (Tg hθ (Ku hl) (Ku Bl))
   ·exact Ak.gw.bp t' u' hh b B2 GG
  ·obtain⟨_,t',hl,_,B2⟩:=KF hb;exact Ak.gw.allow t' b B2
  ·obtain⟨_,t',hl,_,B2⟩:=KF hb;exact Ak.gw.inb t' b B2
  ·have BO:Bu pat.hp t=some g:=hk;unfold Bu at BO;show t<pat.nx;split at BO
   ·rename_i hh;exact Au t _ (Hl hh)
   ·rename_i hh;exact Au t _ (Hl hh)
   ·rename_i hh;exact Au t _ (Hl hh)
   ·rename_i hh;exact Au t _ (Hl hh)
   ·cases BO
 ·cases hi
theorem PZ (l:List DT): ∀(n k o m:Nat),k<n→o+m≤l.length→((Cw n l).drop (k*l.length+o)).take m=(l.drop o).take m
 |0,k,_,_,h,_=>by omega
 |n+1,0,o,m,_,hm=>by rw [L3,Nat.zero_mul,Nat.zero_add,List.drop_append_of_le_length (by omega),List.take_append_of_le_length (by simp;omega)]
 |n+1,k+1,o,m,h,hm=>by have ih:=PZ l n k o m (by omega) hm;rw [←ih,L3,show(k+1)*l.length+o=l.length+(k*l.length+o)from by rw [Nat.add_mul];omega,List.drop_append,List.drop_eq_nil_of_le (by omega)];simp
theorem DC.elem {w:World} {ys:List AV} {l:List DT} {cells:List Value} {N:List Nat} {z:Nat} (h:DC w (Cw ys.length l) cells (Az ys) N) (hl:l.length=z) (h7: ∀y∈ys,y.cells.length=z) {k o m:Nat} (hk:k<ys.length) (hm:o+m≤z):
  ∃M,(∀b∈M,b∈N)∧DC w ((l.drop o).take m) ((cells.drop (k*z+o)).take m) ((((AV.sl ys).nth k).cells.drop o).take m) M:=by
 obtain⟨N1,N2,N3,rfl,_,h2,_⟩:=h.split (k*z+o) m;subst hl;rw [PZ l _ _ _ _ hk hm,P6 ys h7 k _ (KG hk) o m hm]at h2;exact⟨N2,fun b hb=>by simp [hb],h2⟩
theorem Rd.ku {w:World} {vs:List Value} {x:AV} {f:List Nat} {o m:Nat} {g:Bool} (h:Rd w vs ((x.cells.drop o).take m) f) (h9: ∀u∈vs,u.oneCell'=true) (hm:o+m≤x.cells.length) (h1:g=false→m=1):
  Rd w [if g then .agg vs.toArray else vs.headD undef] [x.fld o m g] f:=by
 cases g with
 |true=>have:=Rd.agg h9 h .nil;simpa [AV.fld]using this
 |false=>
  have:=h1 rfl;subst this;have e2:(x.cells.drop o).take 1= [x.cells[o]'(by omega)]:=by rw [List.drop_eq_getElem_cons (by omega),List.take_succ_cons,List.take_zero]
  rw [e2]at h;have hl:=h.len
  match vs,hl with
  | [v],_=>simpa [AV.fld,show o<x.cells.length by omega]using h
section
variable {P:Program} {c:Cx} {n nx:Nat} {sl sl0:Nat→SV} {hp hp0:Nat→Option Ah} {a:Act} {o:Oper} {gs:Gd} {e:AP} {sg:Bq} {nv:Nat}
theorem sL {w:World} {b p:Nat} {t:TypeId} {C:Array Value} {ty:TypeId} {fz:Nat × Nat} (hb:w.heap[b]?=some (.cells C ty fz)) (ht:CC P t=true) (hg:Aj P t=true∨P.cellsOf t=1) (hp:p+P.cellsOf t≤C.size):
  (Instr.loadAt t (.pointer (some ⟨b,p,none⟩))).run P w= .ok (if Aj P t then .agg ((C.toList.drop p).take (P.cellsOf t)).toArray else((C.toList.drop p).take (P.cellsOf t)).headD undef) w:=by
 have J8:((C.toList.drop p).take (P.cellsOf t)).length=P.cellsOf t:=by rw [List.length_take,List.length_drop,Array.length_toList];omega
 refine Nl ht _ (fun _=>J8) (fun h=> ?_) (fun j u hu=> ?_)
 ·rw [J8];rcases hg with h'|h';rw [h]at h';cases h';exact h'
 ·rw [D5 hb];rw [List.getElem?_take]at hu;split at hu
  ·simpa using hu
  ·cases hu
theorem wV {b g e z ep:Nat} {l:List DT} {c0 i:E} {t:TypeId} {k':Nat} {v:Value} (hE:Cv c b (.deep e z l g ep c0)) (hr:SR c [.bt b g i z k'] [v]) (A1:CC P t=true) (hle:k'+P.cellsOf t≤z) (Av:Aj P t=true∨P.cellsOf t=1):
  ∃u,(Instr.loadAt t v).run P c.w= .ok u c.w∧(((l.drop k').take (P.cellsOf t)).all DT.ay=true→Rd c.w [u] [(E.fld (.idx c0 i) k' (P.cellsOf t) (Aj P t)).den c.ρ] [])∧Oi c b u ((E.fld (.idx c0 i) k' (P.cellsOf t) (Aj P t)).den c.ρ)∧(Aj P t=false→G6 c b g (some (i,z,k')) u):=by
 obtain⟨q1,q2,q3,q4,q5⟩:=hE;cases hr with
 |bt h1 h2 h3 h4 h5 _=>
  rename_i q len cap kk k h6;obtain⟨d1,d2,⟨a9,d3,_⟩|⟨g9,cap9,C,ys,N1,d3,d4,d5,d6,d7,d8,d9,d10,d11,d12⟩⟩:=q4.inv
  ·rw [h2]at d3;cases d3;omega
  ·rw [h2]at d3;cases d3;rw [AH.aj]at d2 d12;have hk:k.toNat<ys.length:=by omega
   have hmul:(k.toNat+1)*z≤ys.length*z:=Nat.mul_le_mul_right _ (by omega);have E6:ys.length*z≤cap*z:=Nat.mul_le_mul_right _ d7;rw [Nat.add_mul]at hmul;have AI:=sL (P:=P) (t:=t) (p:=k.toNat*z+k') d6 A1 Av (by omega);obtain⟨M,m1,m2⟩:=d12.elem d2 d10 hk hle;have E0:((C.toList.take (ys.length*z)).drop (k.toNat*z+k')).take (P.cellsOf t)=(C.toList.drop (k.toNat*z+k')).take (P.cellsOf t):=by rw [List.drop_take,List.take_take,Nat.min_eq_left (by omega)]
   rw [E0]at m2;have Ck: ∀u∈(C.toList.drop (k.toNat*z+k')).take (P.cellsOf t),u.oneCell'=true:=fun u hu=>d11 u (by rw [←E0]at hu;exact List.mem_of_mem_drop (List.mem_of_mem_take hu))
   have ZG:((AV.sl ys).nth k.toNat).cells.length=z:=d10 _ (List.mem_of_getElem? (KG hk));have BG:(E.fld (.idx c0 i) k' (P.cellsOf t) (Aj P t)).den c.ρ=((AV.sl ys).nth k.toNat).fld k' (P.cellsOf t) (Aj P t):=by simp only [E.den,d4,h3,AV.idx]
   have Ul:Aj P t=false→P.cellsOf t=1:=fun h=>by rcases Av with h'|h';rw [h]at h';cases h';exact h'
   refine⟨_,AI,fun hf=> ?_, ?_,fun hf=> ?_⟩
   ·rw [BG];exact(m2.jg hf).ku Ck (by omega) Ul
   ·obtain⟨f,r1,r2⟩:=m2.rd;rw [BG];exact⟨f,r1.ku Ck (by omega) Ul,fun b hb=> .inr (by rw [d5];simp [m1 b (r2 b hb)])⟩
   ·refine⟨_,_,_,C,_,_,kk,k,h2,by rw [d5];simp,d6,h3,h4,h5, ?_⟩;have Bx:=Ul hf;have Au:k.toNat*z+k'<C.size:=by omega
    have e1:(C.toList.drop (k.toNat*z+k')).take 1= [C[k.toNat*z+k']]:=by rw [List.drop_eq_getElem_cons (by simpa using Au),List.take_succ_cons,List.take_zero];simp
    rw [hf,Bx,e1];simp [Au]
end
section
variable {P:Program} {c:Cx} {n nx:Nat} {sl sl0:Nat→SV} {hp hp0:Nat→Option Ah} {a:Act} {o:Oper} {gs:Gd} {e:AP} {sg:Bq} {nv:Nat}
theorem Ba.bw: ∀l:Ba,Ba.of l.toList=l
 | .nil=>rfl
 | .cons s l=>by simp [Ba.toList,Ba.of,Ba.bw l]
theorem xO (h:A3 P c n nx sl hp a sl0 hp0 o gs) {t:TypeId} {x:Operand} (ho:o.op= .load t x) (he:Bf P sg sl0 hp0 nv nx gs o=some e) (hc: ∀q∈e.bu,Cn.den c.ρ q):At P o c n nx sl hp gs a e:=by
 have hm:x∈o.op.operands:=by simp [ho,Op.operands]
 simp only [Bf,ho,An,Am]at he;obtain⟨s,hs,e1,he,rfl⟩:=he;have hr:=(h.bz hs hm).asPtr (fun q hq=>hc q (by simp [hq]));have Zk: ∀q∈e1.bu,Cn.den c.ρ q:=fun q hq=>hc q (by simp [hq]);have ex:(execOp a.eval o).run P c.w=((Instr.loadAt t (a.eval x)).run P c.w).andThen fun v w=> .ok (.value v) w:=by simp [execOp,ho]
 unfold iM at he;split at he
 ·cases he
 rename_i A1;have A1:CC P t=true:=by simpa using A1
 generalize AX:(asPtr s).1=s1 at he hr;split at he
 ·rename_i b o';split at he
  ·rename_i ty g cs hl;obtain⟨s2,AQ,rfl⟩:=Am.1 he;generalize ha:a.eval x=v at hr ex;cases hr with
   |bj h1 h2 _=>
    rename_i q;obtain⟨q',C,_,e2,e3,e4,e5,e5',e6⟩:=h.eh b _ (Cm hl h.gs);rw [h2]at e2;cases e2;unfold Mn at AQ;have hlen:=e6.len;split at AQ
    ·rename_i Av;split at AQ
     ·rename_i hle;simp at AQ;subst AQ;obtain⟨r1,r2⟩:=e6.split o';obtain⟨r3,r4⟩:=r2.split (P.cellsOf t);have:=SR.agg (cs:=Ba.of ((cs.drop o').take (P.cellsOf t))) (fun u hu=>e5' u (List.mem_of_mem_drop (List.mem_of_mem_take hu))) (by rw [Ba.aj];exact r3) .nil;refine At.pure h (v:= .agg ((C.toList.drop o').take (P.cellsOf t)).toArray) ?_ this rfl;rw [ex,Nl A1 ((C.toList.drop o').take (P.cellsOf t)) (fun _=>by simp at hlen ⊢;omega) (fun h=>by rw [Av]at h;cases h) (fun j u hu=>by
       rw [D5 e5];rw [List.getElem?_take]at hu;split at hu
       ·simpa using hu
       ·cases hu)]
      simp [Av]
     ·cases AQ
    ·rename_i Av;have Av:Aj P t=false:=by simpa using Av
     obtain⟨u,hu,r⟩:=e6.get AQ;refine At.pure h (v:=u) ?_ r rfl;rw [ex,Nl A1 [u] (fun h=>by rw [Av]at h;cases h) (fun _=>rfl) (fun j z hz=>by
      cases j with
      |zero=>simp at hz;subst hz;rw [D5 e5];simpa using hu
      |succ j=>simp at hz)]
     simp [Av]
  ·cases he
 ·rename_i b g i sz o';split at he
  ·rename_i e0 sz' g' c0 d hl;split at he
   ·rename_i hh;obtain⟨rfl,rfl,hle,Av⟩:=hh;simp at he;subst he;generalize ha:a.eval x=v at hr ex;cases hr with
    |bt h1 h2 h3 h4 h5 _=>
     rename_i q len cap kk k h6;obtain⟨_,_,N,r1,r2,_,_⟩:=h.eh b _ (Cm hl h.gs);obtain⟨f,r3,_,r4⟩:=r1.rd;obtain⟨xs,B1,Ay,h0,AZ⟩:=r1;rw [h2]at r3 AZ;have hk:k.toNat<len:=by omega
     have HW:xs.length=len:=by
      rcases AZ with⟨_,⟨_,hv⟩,_⟩|⟨_,_,_,hv,_⟩
      ·cases hv;omega
      ·simp at hv;exact hv.2.1.symm
     have Bz:((c0.den c.ρ).nth k.toNat).cells.length=sz:=by rw [B1];exact Ay _ (List.mem_of_getElem? (KG (xs:=xs) (by omega)))
     obtain⟨v',q',g1,g2,g3⟩:=XL r3 hk Bz A1 hle Av;refine At.pure h (v:=v') ?_ (.e (f:=q') ?_ ?_ .nil) rfl
     ·rw [ex];rw [Nat.zero_add]at g1;simp [g1]
     ·simpa [E.den,AV.idx,h3]using g3
     ·exact fun z hz=>r2 z (r4 z (g2 z hz))
   ·cases he
  ·rename_i e0 sz' l g' ep c0 hl;split at he
   ·rename_i hh;obtain⟨rfl,rfl,hle,Av⟩:=hh;generalize ha:a.eval x=v at hr ex;have hE:=h.eh b _ (Cm hl h.gs);obtain⟨u,k1,k2,k3,k4⟩:=wV (P:=P) (t:=t) hE hr A1 hle Av;have AI:(execOp a.eval o).run P c.w= .ok (.value u) c.w:=by rw [ex,k1];rfl
    split at he
    ·rename_i hf;simp only [Ad]at he;subst he;exact At.pure h AI (.e (k2 hf) (by simp) .nil) rfl
    ·simp only [Ad]at he;subst he;cases hr with
     |bt h1 _ _ _ _ _=>
      refine At.pure h AI (.via h1 (Nat.le_of_eq hE.2.2.1.symm) (fun _=>⟨k3, ?_⟩) .nil) rfl;split
      ·exact trivial
      ·rename_i FG;exact k4 (by simpa using FG)
   ·cases he
  ·cases he
 ·rename_i b g m pth y i sz o';split at he
  ·rename_i hh;obtain⟨hle,Av,hv⟩:=hh;have hE:=NG h.eh h.gs hv;generalize ha:a.eval x=v at hr ex;cases hr with
   |vptr h1 h2 h3 _=>
    obtain⟨q,off,len,cap,kk,k,⟨f,p1,p2⟩,_,p4,p5,p6,p7,rfl⟩:=h3 hE;obtain⟨v',q',g1,g2,g3⟩:=XL (fo:=o') p1 (by omega) p7 A1 hle Av;have AI:(execOp a.eval o).run P c.w= .ok (.value v') c.w:=by rw [ex];simp [g1]
    have BG:Rd c.w [v'] [(E.fld (.idx y i) o' (P.cellsOf t) (Aj P t)).den c.ρ] q':=by simpa [E.den,AV.idx,p4]using g3
    split at he
    ·simp only [Ad]at he;subst he;obtain⟨f1,f2,f3,f4⟩:=Bx Zk;have hq:q'= []:=by
      cases hg:Aj P t with
      |true=>obtain⟨cs,Bb⟩:=f3 hg;obtain⟨as_,rfl,_,r⟩:=Ia BG Bb;exact Gz r (by rw [Bb]at f2;exact f2)
      |false=>exact Gz BG (by simpa using f4 hg)
     subst hq;exact At.pure h AI (.e BG (by simp) .nil) rfl
    ·simp only [Ad]at he;subst he;exact At.pure h AI (.via h1 h2 (fun _=>⟨⟨q',BG,fun z hz=>p2 z (List.mem_of_mem_tail (g2 z hz))⟩,trivial⟩) .nil) rfl
  ·cases he
 ·rename_i y i sz o';split at he
  ·rename_i hh;obtain⟨hle,Av⟩:=hh;simp at he;subst he;generalize ha:a.eval x=v at hr ex;cases hr with
   |ct h1 h2 h3 h4 h5 h6 _=>rename_i q off len cap f kk k;obtain⟨v',q',g1,g2,g3⟩:=XL (fo:=o') h1 (by omega) h6 A1 hle Av;refine At.pure h (v:=v') ?_ (.e (f:=q') (by simpa [E.den,AV.idx,h3]using g3) (fun z hz=>h2 z (List.mem_of_mem_tail (g2 z hz))) .nil) rfl;rw [ex];simp [g1]
  ·cases he
 ·rename_i y o';split at he
  ·rename_i Av;simp at he;subst he;generalize ha:a.eval x=v at hr ex;cases hr with
   |cm h1 h2 _=>
    rename_i q f;obtain⟨z,hz,hle⟩:=Bx Zk;rw [hz]at h1;cases h1 with
    |ref hb BC Gp Dt=>
     rename_i C ty fz f1 f2;obtain⟨q',g1,g2⟩:=Gp.ij BC o' (P.cellsOf t) (Aj P t) hle (fun h=>by rcases Av with h'|h';rw [h]at h';cases h';exact h');have J8:((C.toList.drop o').take (P.cellsOf t)).length=P.cellsOf t:=by have:=Gp.len;rw [List.length_take,List.length_drop];omega
     refine At.pure h ?_ (.e (f:=q') (by simpa [E.den,hz,AV.deref]using g2) (fun z hz=>h2 z (by simp [g1 z hz])) .nil) rfl;rw [ex,Nl A1 ((C.toList.drop o').take (P.cellsOf t)) (fun _=>J8) (fun h=>by rw [J8];rcases Av with h'|h';rw [h]at h';cases h';exact h') (fun j u hu=>by
       rw [D5 hb];rw [List.getElem?_take]at hu;split at hu
       ·simpa using hu
       ·cases hu)]
     simp
  ·cases he
 ·cases he
end
theorem Ma (k:IntKind) (n:Int):DA k n↔k.min≤n∧n≤k.max:=by unfold DA;cases k<;>simp only [IntKind.wrap,IntKind.bits,IntKind.signed,IntKind.min,IntKind.max]<;>simp<;>(try split)<;>omega
theorem XZ (k:IntKind) (n:Int):DA k (k.wrap n):=by rw [Ma];cases k<;>simp only [IntKind.wrap,IntKind.bits,IntKind.signed,IntKind.min,IntKind.max]<;>simp<;>(try split)<;>omega
theorem zA {k:IntKind} {x y:Int} (h:DA k x):DA k (x.tmod y):=by
 rw [Ma]at h ⊢;have h1:(x.tmod y).natAbs≤x.natAbs:=by rw [Int.natAbs_tmod];exact Nat.mod_le _ _
 have h2:0≤x→0≤x.tmod y:=Int.tmod_nonneg y;have Vo:k.min≤0:=by cases k<;>decide
 have Dj:0≤k.max:=by cases k<;>decide
 constructor
 ·by_cases h0:0≤x
  ·have:=h2 h0;omega
  ·omega
 ·by_cases h0:0≤x
  ·omega
  ·have h3:x.tmod y≤0:=by
    have:=Int.tmod_nonneg (a:= -x) y (by omega);rw [Int.neg_tmod]at this;omega
   omega
theorem w8 {k:IntKind} {x:Int} (m:Nat) (h:DA k x):DA k (x.fdiv (2^m)):=by
 rw [Ma]at h ⊢;have hp:(0:Int)<2^m:=Int.pow_pos (by decide);rw [Int.fdiv_eq_ediv_of_nonneg _ (Int.le_of_lt hp)];have Vo:k.min≤0:=by cases k<;>decide
 have Dj:0≤k.max:=by cases k<;>decide
 have h1:(1:Int)≤2^m:=hp;constructor
 ·rcases Int.le_total 0 x with h0|h0
  ·have:=Int.ediv_nonneg h0 (Int.le_of_lt hp);omega
  ·have:x≤x/2^m:=by
    rw [Int.le_ediv_iff_mul_le hp];have:=Int.mul_le_mul_of_nonpos_left h0 h1;omega
   omega
 ·rcases Int.le_total 0 x with h0|h0
  ·have:=Int.ediv_le_self (2^m) h0;omega
  ·have h2:x/2^m≤0:=by
    have:=Int.ediv_le_ediv hp h0;simpa using this
   omega
section
variable {P:Program} {c:Cx} {n nx:Nat} {sl sl0:Nat→SV} {hp hp0:Nat→Option Ah} {a:Act} {o:Oper} {gs:Gd} {e:AP} {sg:Bq} {nv:Nat}
def AV.val:AV→Value
 | .int k n=> .int k n
 | .bool b=> .bool b
 | .str s=> .string ⟨s.toArray⟩
 |_=>Go.undef
theorem uZ {op:BinOp} {k k':IntKind} {x y:Int} (hk:k=k'∨op= .shl∨op= .shr) (hz:op= .quo∨op= .rem→y≠0) (hs:op= .shl∨op= .shr→0≤y) (t:TypeId) (p q:Operand) (w:World):
  (do eqGuard op t p q (.int k x) (.int k' y);binOp op t (.int k x) (.int k' y):Sem Value).run P w= .ok (DV op k x y).val w:=by
 have hg:=eqGuard_at_int op t p q (.int k' y) k x;cases op<;>simp only [reduceCtorEq,or_false,or_true,or_self]at hk hz hs<;>simp only [hg]
 all_goals first
  |(subst hk;simp [binOp,Op.intArith,Op.intCmp,Op.intBits,DV,AV.val];done)
  |(subst hk;have:=hz trivial;simp [binOp,Op.intDiv,DV,AV.val,this];done)
  |(have:=hs trivial;simp [binOp,Op.shift,DV,AV.val,Int.not_lt.2 this];done)
theorem xZ {op:BinOp} {k:IntKind} {x y:Int} (hx:DA k x) (w:World):Rd w [(DV op k x y).val] [DV op k x y] []:=by
 cases op<;>simp only [DV,AV.val]<;>first
  |exact .int (XZ _ _) .nil
  |exact .bool .nil
  |exact .int (zA hx) .nil
  |exact .int (w8 _ hx) .nil
theorem Rd.gl {w:World} {v:Value} {x:AV} {f:List Nat} (h:Rd w [v] [x] f):x≠ .undef:=by rintro rfl;cases h
theorem XJ {ρ:List AV}: ∀(x:E) {k:IntKind},BS x=some k→x.den ρ≠ .undef→ ∃m,x.den ρ= .int k m
 | .int k n,_,h,_=>by simp [BS]at h;subst h;exact⟨n,rfl⟩
 | .len y,_,h,hd=>by
  simp [BS]at h;subst h;simp only [E.den,AV.len]at hd ⊢;split at hd
  ·exact⟨_,rfl⟩
  ·exact absurd rfl hd
 | .slen y,_,h,hd=>by
  simp [BS]at h;subst h;simp only [E.den,AV.slen]at hd ⊢;split at hd
  ·exact⟨_,rfl⟩
  ·exact absurd rfl hd
 | .conv k y,_,h,hd=>by
  simp [BS]at h;subst h;simp only [E.den,AV.conv]at hd ⊢;split at hd
  ·exact⟨_,rfl⟩
  ·exact absurd rfl hd
 | .bin op x y,k,h,hd=>by
  simp only [E.den]at hd ⊢;have hx:x.den ρ≠ .undef:=by rintro hh;rw [hh]at hd;exact hd (by simp [AV.bin])
  cases op<;>simp only [BS,reduceCtorEq]at h
  all_goals
   obtain⟨m,hm⟩:=XJ x h hx;rw [hm]at hd ⊢;cases hy:y.den ρ<;>rw [hy]at hd<;>simp only [AV.bin]at hd ⊢ <;>first
    |exact absurd rfl hd
    |(split at hd
      ·rename_i hk;rw [if_pos hk];exact⟨_,rfl⟩
      ·exact absurd rfl hd)
 | .var _,_,h,_=>by simp [BS]at h
 | .bool _,_,h,_=>by simp [BS]at h
 | .str _,_,h,_=>by simp [BS]at h
 | .dd,_,h,_=>by simp [BS]at h
 | .lst _,_,h,_=>by simp [BS]at h
 | .mk _,_,h,_=>by simp [BS]at h
 | .tup _,_,h,_=>by simp [BS]at h
 | .ref _,_,h,_=>by simp [BS]at h
 | .fn ..,_,h,_=>by simp [BS]at h
 | .fld ..,_,h,_=>by simp [BS]at h
 | .proj ..,_,h,_=>by simp [BS]at h
 | .deref _,_,h,_=>by simp [BS]at h
 | .idx ..,_,h,_=>by simp [BS]at h
 | .sidx ..,_,h,_=>by simp [BS]at h
 | .win ..,_,h,_=>by simp [BS]at h
 | .swin ..,_,h,_=>by simp [BS]at h
 | .app ..,_,h,_=>by simp [BS]at h
 | .set ..,_,h,_=>by simp [BS]at h
 | .put ..,_,h,_=>by simp [BS]at h
 | .rep ..,_,h,_=>by simp [BS]at h
 | .sbin ..,_,h,_=>by simp [BS]at h
 | .bbin ..,_,h,_=>by simp [BS]at h
 | .not _,_,h,_=>by simp [BS]at h
 | .neg _,_,h,_=>by simp [BS]at h
 | .ite ..,_,h,_=>by simp [BS]at h
 | .bytes _,_,h,_=>by simp [BS]at h
 | .text _,_,h,_=>by simp [BS]at h
end
section
variable {P:Program} {c:Cx} {n nx:Nat} {sl sl0:Nat→SV} {hp hp0:Nat→Option Ah} {a:Act} {o:Oper} {gs:Gd} {e:AP} {sg:Bq} {nv:Nat}
theorem Gv {s:SV} {v:Value} {x:E} (h:SR c [s] [v]) (hx:Ey s=some x): ∃f,Rd c.w [v] [x.den c.ρ] f∧ ∀b∈f,c.ok b:=by
 cases s<;>simp only [Ey,Ad,reduceCtorEq]at hx;subst hx;cases h with
 |e h1 h2 _=>exact⟨_,h1,h2⟩
theorem SR.ca {v:Value} {x:E} (h:Rd c.w [v] [x.den c.ρ] []):SR c [.e x] [v]:= .e h (by simp) .nil
theorem uL {ρ:List AV} {op:BinOp} {x y:E} {w:World} {v u:Value} {f g:List Nat} (h1:Rd w [v] [x.den ρ] f) (h2:Rd w [u] [y.den ρ] g) (hd:Nz (.bin op x y)=true→(E.bin op x y).den ρ≠ .undef):
  ∃k k' p q,x.den ρ= .int k p∧y.den ρ= .int k' q∧(k=k'∨op= .shl∨op= .shr)∧(E.bin op x y).den ρ=DV op k p q∧DA k p∧v= .int k p∧u= .int k' q:=by
 have key:(∃k k' p q,x.den ρ= .int k p∧y.den ρ= .int k' q∧(k=k'∨op= .shl∨op= .shr)):=by
  by_cases hn:Nz (.bin op x y)=true
  ·have:=hd hn;simp only [E.den]at this;cases hx:x.den ρ<;>cases hy:y.den ρ<;>simp only [hx,hy,AV.bin,ne_eq,not_true_eq_false]at this;split at this
   ·exact⟨_,_,_,_,rfl,rfl,by assumption⟩
   ·exact absurd rfl this
  ·have hn:Nz (.bin op x y)=false:=by simpa using hn
   have hk:(BS x).isSome=true∧(BS x==BS y)=true:=by cases op<;>simp [Nz]at hn<;>simpa using hn
   obtain⟨k,He⟩:=Option.isSome_iff_exists.1 hk.1;have mJ:BS y=some k:=by rw [←beq_iff_eq.1 hk.2,He]
   obtain⟨p,hp⟩:=XJ x He h1.gl;obtain⟨q,hq⟩:=XJ y mJ h2.gl;exact⟨k,k,p,q,hp,hq, .inl rfl⟩
 obtain⟨k,k',p,q,hp,hq,J7⟩:=key;obtain⟨hv,B0⟩:=Fy h1 hp;obtain⟨hu,_⟩:=Fy h2 hq;exact⟨k,k',p,q,hp,hq,J7,by simp only [E.den,hp,hq,AV.bin,if_pos J7],B0,hv,hu⟩
theorem aT (a b:ByteArray):(a.toList==b.toList)=(a.data.toList==b.data.toList):=by rw [ByteArray.toList_eq,ByteArray.toList_eq]
theorem sU {α β γ:Type} (r:Result α) (f:α→World→Result β) (g:β→World→Result γ):(r.andThen f).andThen g=r.andThen fun a w=>(f a w).andThen g:=by cases r<;>rfl
theorem Xs (d:Nat) {t:TypeId} (p q:Bool) (h:P.underlying t=some .bool) (w:World):(Op.equalIn (d+1) t (.bool p) (.bool q)).run P w= .ok (p==q) w:=by simp [Op.equalIn,run_underlying h]
theorem vH {t:TypeId} (p q:Bool) (h:P.underlying t=some .bool) (w:World):(binOp .eql t (.bool p) (.bool q)).run P w= .ok (.bool (p==q)) w:=by simp only [binOp];simp [Op.equal,Op.maxDepth,Xs 9999 p q h]
theorem vC {t:TypeId} (p q:Bool) (h:P.underlying t=some .bool) (w:World):(binOp .neq t (.bool p) (.bool q)).run P w= .ok (.bool (!(p==q))) w:=by simp only [binOp];simp [Op.equal,Op.maxDepth,Xs 9999 p q h]
theorem Md {op:BinOp} {t ty:TypeId} {x y:Operand} (ho:o.op= .binOp op t x y ty) (w:World) {v u:Value} (hv:a.eval x=v) (hu:a.eval y=u):
  (execOp a.eval o).run P w=((do eqGuard op t x y v u;binOp op t v u:Sem Value).run P w).andThen fun v w=> .ok (.value v) w:=by
 simp only [execOp,ho,hv,hu,Sem.run_bind,sU,Sem.run_pure]
theorem aV (h:A3 P c n nx sl hp a sl0 hp0 o gs) {op:BinOp} {t el:TypeId} {x y:Operand} {ty:TypeId} (ho:o.op= .binOp op t x y ty) (hu:P.underlying t=some (.slice el)) (r1:SR c [.a8] [a.eval x]) (r2:SR c [.a8] [a.eval y])
  (AE:op= .eql∨op= .neq):At P o c n nx sl hp gs a {val:= .e (.bool (op== .eql))}:=by
 have ex:=fun(v u:Value) (hv:a.eval x=v) (hu:a.eval y=u)=>Md (P:=P) (o:=o) ho c.w hv hu;generalize Et:a.eval x=v1 at r1;generalize CG:a.eval y=v2 at r2;cases r1 with
 |a8 _=>cases r2 with
  |a8 _=>
   refine At.pure h (v:= .bool (op== .eql)) ?_ (.ca (.bool .nil)) rfl;rw [ex _ _ Et CG,eqGuard_at_slice];rcases AE with rfl|rfl
   ·simp [run_eql_nil_slice c.w t el none 0 0 0 0 hu]
   ·simp [run_neq_nil_slice c.w t el none 0 0 0 0 hu]
theorem tY (h:A3 P c n nx sl hp a sl0 hp0 o gs) {op:BinOp} {t:TypeId} {x y:Operand} {ty:TypeId} (ho:o.op= .binOp op t x y ty) {s1 s2:SV} (r1:SR c [s1] [a.eval x]) (r2:SR c [s2] [a.eval y])
  {x' y':E} (Co:Ey s1=some x') (A8:Ey s2=some y') (hd:Nz (.bin op x' y')=true→Cn.den c.ρ (.dfd (.bin op x' y'))) (mZ:op= .quo∨op= .rem→Cn.den c.ρ (.nz y')) (mX:op= .shl∨op= .shr→Cn.den c.ρ (.nn y')) {ck:List Cn}:
  At P o c n nx sl hp gs a {bu:=ck,val:= .e (.bin op x' y')}:=by
 obtain⟨f1,g1,_⟩:=Gv r1 Co;obtain⟨f2,g2,_⟩:=Gv r2 A8;obtain⟨k,k',p,q,e1,e2,J7,e3,B0,hv,EJ⟩:=uL (op:=op) g1 g2 hd;refine At.pure h (v:=(DV op k p q).val) ?_ (.ca (by rw [e3];exact xZ B0 _)) rfl;rw [Md ho c.w hv EJ,uZ J7 (fun AE=> ?_) (fun AE=> ?_)]
 ·simp
 ·obtain⟨_,m,hm,Dh⟩:=mZ AE;rw [e2]at hm;cases hm;exact Dh
 ·obtain⟨_,m,hm,Dh⟩:=mX AE;rw [e2]at hm;cases hm;exact Dh
theorem tE (h:A3 P c n nx sl hp a sl0 hp0 o gs) {op:BinOp} {t:TypeId} {x y:Operand} {ty:TypeId} (ho:o.op= .binOp op t x y ty) {s1 s2:SV} (r1:SR c [s1] [a.eval x]) (r2:SR c [s2] [a.eval y])
  {x' y':E} (Co:Ey s1=some x') (A8:Ey s2=some y') (hd:Cn.den c.ρ (.dfd (.sbin op x' y'))) (BY:op= .add→Cn.den c.ρ (.roomS x' y')) {ck:List Cn}:
  At P o c n nx sl hp gs a {bu:=ck,val:= .e (.sbin op x' y')}:=by
 obtain⟨f1,g1,_⟩:=Gv r1 Co;obtain⟨f2,g2,_⟩:=Gv r2 A8;have hd:AV.sbin op (x'.den c.ρ) (y'.den c.ρ)≠ .undef:=hd;cases hx:x'.den c.ρ<;>cases hy:y'.den c.ρ<;>simp only [hx,hy,AV.sbin,ne_eq,not_true_eq_false]at hd;obtain⟨b1,Et,rfl,_⟩:=NO g1 hx;obtain⟨b2,CG,rfl,_⟩:=NO g2 hy;have hle:op= .add→b1.size+b2.size≤9223372036854775807:=fun AE=>by obtain⟨p,q,hp,hq,hle⟩:=BY AE;rw [hx]at hp;rw [hy]at hq;cases hp;cases hq;simpa using hle
 refine At.pure h (v:=match op with| .add=> .string (b1++b2)|_=>(NX op b1.data.toList b2.data.toList).val) ?_ (.ca ?_) rfl
 ·rw [Md ho c.w Et CG,eqGuard_at_string];cases op<;>first
   |(exact absurd rfl hd)
   |(have:=hle rfl;simp [binOp,Op.stringOp];omega)
   |(simp [binOp,Op.stringOp,NX,AV.val,ByteArray.toList_eq,bne];done)
 ·simp only [E.den,hx,hy,AV.sbin];cases op<;>simp only [NX,AV.val,ne_eq,not_true_eq_false]at hd ⊢ <;>first
   |exact .bool .nil
   |(have:=hle rfl
     have h9:=Rd.str (w:=c.w) (s:=b1++b2) (by simpa using this) .nil;simpa using h9)
theorem sB (h:A3 P c n nx sl hp a sl0 hp0 o gs) {op:BinOp} {t:TypeId} {x y:Operand} {ty:TypeId} (ho:o.op= .binOp op t x y ty) (hu:P.underlying t=some .bool) {s1 s2:SV} (r1:SR c [s1] [a.eval x]) (r2:SR c [s2] [a.eval y])
  {x' y':E} (Co:Ey s1=some x') (A8:Ey s2=some y') (hd:Cn.den c.ρ (.dfd (.bbin op x' y'))) {ck:List Cn}:
  At P o c n nx sl hp gs a {bu:=ck,val:= .e (.bbin op x' y')}:=by
 obtain⟨f1,g1,_⟩:=Gv r1 Co;obtain⟨f2,g2,_⟩:=Gv r2 A8;have hd:AV.bbin op (x'.den c.ρ) (y'.den c.ρ)≠ .undef:=hd;cases hx:x'.den c.ρ<;>cases hy:y'.den c.ρ<;>simp only [hx,hy,AV.bbin,ne_eq,not_true_eq_false]at hd;rename_i p q;have Et:=GX g1 hx;have CG:=GX g2 hy;refine At.pure h (v:=(AV.bbin op (.bool p) (.bool q)).val) ?_ (.ca ?_) rfl
 ·rw [Md ho c.w Et CG,eqGuard_at_bool];cases op<;>simp only [ne_eq,not_true_eq_false]at hd
  ·simp [vH p q hu,AV.bbin,AV.val]
  ·simp [vC p q hu,AV.bbin,AV.val,bne]
 ·simp only [E.den,hx,hy];cases op<;>simp only [AV.bbin,AV.val,ne_eq,not_true_eq_false]at hd ⊢ <;>exact .bool .nil
theorem yU (h:A3 P c n nx sl hp a sl0 hp0 o gs) {op:BinOp} {t:TypeId} {x y:Operand} {ty:TypeId} (ho:o.op= .binOp op t x y ty) (Kc: ∀fs,P.underlying t≠some (.struct fs)) (he:Bf P sg sl0 hp0 nv nx gs o=some e) (hq:e.bc=none) (hc: ∀q∈e.bu,Cn.den c.ρ q):At P o c n nx sl hp gs a e:=by
 have Di:x∈o.op.operands:=by simp [ho,Op.operands]
 have CS:y∈o.op.operands:=by simp [ho,Op.operands]
 simp only [Bf,ho,An]at he;obtain⟨s1,Bj,s2,AQ,he⟩:=he;have r1:=h.bz Bj Di;have r2:=h.bz AQ CS;unfold NT at he;split at he
 ·rename_i el hu;split at he
  ·simp at he;subst he;exact aV h ho hu r1 r2 (.inl rfl)
  ·simp at he;subst he;exact aV h ho hu r1 r2 (.inr rfl)
  ·obtain⟨_,_,rfl⟩:=Am.1 he;cases hq
  ·obtain⟨_,_,rfl⟩:=Am.1 he;cases hq
  ·cases he
 ·rename_i kk hu;split at he
  ·rename_i x' y' Co A8;simp at he;subst he;exact tY h ho r1 r2 Co A8 (fun hn=>hc _ (by simp [hn])) (fun AE=>hc _ (by rcases AE with rfl|rfl<;>simp)) (fun AE=>hc _ (by rcases AE with rfl|rfl<;>simp))
  ·cases he
 ·rename_i hu;split at he
  ·rename_i x' y' Co A8;simp at he;subst he;exact tE h ho r1 r2 Co A8 (hc _ (by simp)) (fun AE=>hc _ (by subst AE;simp))
  ·cases he
 ·rename_i hu;split at he
  ·rename_i x' y' Co A8;simp at he;subst he;exact sB h ho hu r1 r2 Co A8 (hc _ (by simp))
  ·cases he
 ·rename_i fs hu;exact absurd hu (Kc fs)
 ·cases he
end
section
variable {P:Program} {c:Cx} {n nx:Nat} {sl sl0:Nat→SV} {hp hp0:Nat→Option Ah} {a:Act} {o:Oper} {gs:Gd} {e:AP} {sg:Bq} {nv:Nat}
theorem Ql {t:TypeId} (h:CC P t=true) (cs:List Value) (off:Nat) (hle:off+P.cellsOf t≤cs.length) (hg:Aj P t=true∨P.cellsOf t=1) (w:World):
  (part t cs.toArray off).run P w= .ok (if Aj P t then .agg ((cs.drop off).take (P.cellsOf t)).toArray else((cs.drop off).take (P.cellsOf t)).headD Go.undef) w:=by
 cases ha:Aj P t with
 |true=>simp only [part,Sem.run_bind,Qf h,ha,L0 h,Result.andThen_ok,if_true,Sem.run_pure];congr 2;apply Array.ext';rw [Array.toList_extract];simp [Nat.add_sub_cancel_left,List.extract_eq_take_drop]
 |false=>
  have h1:P.cellsOf t=1:=by rcases hg with h'|h';rw [ha]at h';cases h';exact h'
  have Au:off<cs.length:=by omega
  have e1:(cs.drop off).take (P.cellsOf t)= [cs[off]]:=by rw [h1,List.drop_eq_getElem_cons Au,List.take_succ_cons,List.take_zero]
  rw [e1];simp [part,Qf h,ha,Au]
theorem uT (h:A3 P c n nx sl hp a sl0 hp0 o gs) {t:TypeId} {x:Operand} {f:Nat} (ho:o.op= .field t x f) (he:Bf P sg sl0 hp0 nv nx gs o=some e) (hc: ∀q∈e.bu,Cn.den c.ρ q):At P o c n nx sl hp gs a e:=by
 have hm:x∈o.op.operands:=by simp [ho,Op.operands]
 simp only [Bf,ho,An]at he;obtain⟨s,hs,he⟩:=he;have hr:=h.bz hs hm;split at he
 ·rename_i fs hu;split at he
  ·rename_i fd hf;split at he
   ·cases he
   ·rename_i A1;have A1:CC P fd.type=true:=by simpa using A1
    have ex: ∀as_:List Value,a.eval x= .agg as_.toArray→(execOp a.eval o).run P c.w=((part fd.type as_.toArray fd.offset).run P c.w).andThen fun v w=> .ok (.value v) w:=fun as_ hv=>by simp [execOp,ho,Instr.field,run_underlying hu,hf,hv,asAgg]
    split at he
    ·rename_i cs;obtain⟨s2,AQ,rfl⟩:=Am.1 he;generalize hv:a.eval x=v at hr;cases hr with
     |agg r8 r1 r9=>
      rename_i as_;have hlen:=r1.len;unfold Mn at AQ;split at AQ
      ·rename_i Av;split at AQ
       ·rename_i hle;simp at AQ;subst AQ;obtain⟨q1,q2⟩:=r1.split fd.offset;obtain⟨q3,q4⟩:=q2.split (P.cellsOf fd.type);have:=SR.agg (cs:=Ba.of ((cs.toList.drop fd.offset).take (P.cellsOf fd.type))) (fun u hu=>r8 u (List.mem_of_mem_drop (List.mem_of_mem_take hu))) (by rw [Ba.aj];exact q3) .nil;refine At.pure h (v:= .agg ((as_.drop fd.offset).take (P.cellsOf fd.type)).toArray) ?_ this rfl;rw [ex as_ hv,Ql A1 as_ fd.offset (by omega) (.inl Av)];simp [Av]
       ·cases AQ
      ·rename_i Av;have Av:Aj P fd.type=false:=by simpa using Av
       obtain⟨u,EJ,r⟩:=r1.get AQ;refine At.pure h (v:=u) ?_ r rfl;rw [ex as_ hv];simp [part,Qf A1,Av,EJ]
    ·rename_i y;split at he
     ·rename_i hh;obtain⟨hle,Av⟩:=hh;simp at he;subst he;generalize hv:a.eval x=v at hr;cases hr with
      |e h1 h2 _=>
       rename_i f1;obtain⟨cs,Bb,Ay⟩:=Bx hc;obtain⟨as_,rfl,Lv,Dt⟩:=Ia h1 Bb;have hlen:=Dt.len;have E0:(y.den c.ρ).cells=cs:=by rw [Bb];rfl
       rw [←E0]at Dt;obtain⟨q,g1,g2⟩:=Dt.ij Lv fd.offset (P.cellsOf fd.type) (Aj P fd.type) (by rw [E0];omega) (fun hh=>by rcases Av with h'|h';rw [hh]at h';cases h';exact h');refine At.pure h ?_ (.e (f:=q) (by simpa [E.den]using g2) (fun z hz=>h2 z (g1 z hz)) .nil) rfl;rw [ex as_ hv,Ql A1 as_ fd.offset (by omega) Av];simp
     ·cases he
    ·rename_i b g m pth y;split at he
     ·rename_i hh;obtain⟨hle,Av,VW⟩:=hh;have hE:=NG h.eh h.gs VW;generalize hv:a.eval x=v at hr;have GD:Cn.den c.ρ (.agg y (P.cellsOf t)):=by
       split at he<;>(simp only [Ad]at he;subst he;exact Bx hc)
      cases hr with
      |via h1 h2 h3 _=>
       obtain⟨⟨f1,p1,p2⟩,_⟩:=h3 hE;obtain⟨cs,Bb,Ay⟩:=GD;obtain⟨as_,rfl,Lv,Dt⟩:=Ia p1 Bb;have hlen:=Dt.len;have E0:(y.den c.ρ).cells=cs:=by rw [Bb];rfl
       rw [←E0]at Dt;obtain⟨q,g1,g2⟩:=Dt.ij Lv fd.offset (P.cellsOf fd.type) (Aj P fd.type) (by rw [E0];omega) (fun hh=>by rcases Av with h'|h';rw [hh]at h';cases h';exact h');have AI:=ex as_ hv;rw [Ql A1 as_ fd.offset (by omega) Av]at AI;simp only [Result.andThen_ok]at AI;have BG:Rd c.w _ [(E.fld y fd.offset (P.cellsOf fd.type) (Aj P fd.type)).den c.ρ] q:=g2;split at he
       ·simp only [Ad]at he;subst he;obtain⟨e1,e2,e3,e4⟩:=hc (.flat (.fld y fd.offset (P.cellsOf fd.type) (Aj P fd.type)) (P.cellsOf fd.type) (Aj P fd.type)) (by simp);have hq:q= []:=by
         cases hg:Aj P fd.type with
         |true=>obtain⟨cs,Bb⟩:=e3 hg;obtain⟨as_,_,_,r⟩:=Ia BG Bb;exact Gz r (by rw [Bb]at e2;exact e2)
         |false=>exact Gz BG (by simpa using e4 hg)
        subst hq;exact At.pure h AI (.e BG (by simp) .nil) rfl
       ·simp only [Ad]at he;subst he;exact At.pure h AI (.via h1 h2 (fun _=>⟨⟨q,BG,fun z hz=>p2 z (g1 z hz)⟩,trivial⟩) .nil) rfl
     ·cases he
    ·cases he
  ·cases he
 ·cases he
theorem NB {v:Value} {x:AV} {m:Int} {w:World} {f:List Nat} (h:Rd w [v] [x] f) (hx:x.len= .int .i64 m):(∃a c,v= .slice a 0 c∧m=0)∨ ∃b o k c,v= .slice (some ⟨b,o,none⟩) k c∧m=k:=by
 rcases h.kind with h|h|h|h|h|h|h|h|h|h
 ·obtain⟨_,_,_,rfl,_⟩:=h;simp [AV.len]at hx
 ·obtain⟨_,_,rfl,_⟩:=h;simp [AV.len]at hx
 ·obtain⟨_,_,rfl,_⟩:=h;simp [AV.len]at hx
 ·obtain⟨q,r,rfl,rfl,_⟩:=h;simp [AV.len]at hx;exact .inl ⟨q,r,rfl,by omega⟩
 ·obtain⟨b,o,k,r,ys,_,_,_,_,_,_,rfl,rfl,_,_,_,_,hl,_⟩:=h;simp [AV.len]at hx;exact .inr ⟨b,o,k,r,rfl,by omega⟩
 ·obtain⟨_,_,_,rfl,_⟩:=h;simp [AV.len]at hx
 ·obtain⟨_,_,_,rfl,_⟩:=h;simp [AV.len]at hx
 ·obtain⟨_,_,_,_,_,_,_,rfl,_⟩:=h;simp [AV.len]at hx
 ·obtain⟨_,_,_,_,rfl,_⟩:=h;simp [AV.len]at hx
 ·obtain⟨_,rfl,_⟩:=h;simp [AV.len]at hx
theorem PW {t el:TypeId} (hu:P.underlying t=some (.slice el)) (hz:P.cellsOf el≠0) {b off len cap:Nat} {kk:IntKind} {k:Int} (h0:0≤k) (h1:k<len) (w:World):
  (Instr.indexAt t (.slice (some ⟨b,off,none⟩) len cap) (.int kk k)).run P w= .ok (.pointer (some ⟨b,off+k.toNat*P.cellsOf el,none⟩)) w:=by
 simp [Instr.indexAt,run_underlying hu,asIntOf,h0,h1,cL hz,Addr.add_lit]
theorem cG (h:A3 P c n nx sl hp a sl0 hp0 o gs) {t:TypeId} {x i:Operand} (ho:o.op= .indexAddr t x i∨o.op= .index t x i) {s1 s2:SV} (Bj:Bm sl0 gs x=some s1) (AQ:Bm sl0 gs i=some s2)
  (AE:(∃el,P.underlying t=some (.slice el))→o.op= .indexAddr t x i) (Vy:P.underlying t=some .string→o.op= .index t x i)
  (he:TB P hp0 gs t s1 s2=some e) (hc: ∀q∈e.bu,Cn.den c.ρ q):At P o c n nx sl hp gs a e:=by
 have Di:x∈o.op.operands:=by rcases ho with ho|ho<;>simp [ho,Op.operands]
 have CS:i∈o.op.operands:=by rcases ho with ho|ho<;>simp [ho,Op.operands]
 have r1:=h.bz Bj Di;have r2:=h.bz AQ CS;unfold TB at he;split at he
 ·rename_i el k hu;have Pe:=AE ⟨el,hu⟩;have ex:(execOp a.eval o).run P c.w=((Instr.indexAt t (a.eval x) (a.eval i)).run P c.w).andThen fun v w=> .ok (.value v) w:=by simp [execOp,Pe]
  split at he
  ·cases he
  rename_i hz;obtain⟨fk,He,_⟩: ∃f,Rd c.w [a.eval i] [k.den c.ρ] f∧ ∀b∈f,c.ok b:=by
   generalize a.eval i=v at r2;cases r2 with
   |e h1 h2 _=>exact⟨_,h1,h2⟩
  split at he
  ·rename_i b g;split at he
   ·rename_i e0 sz g' c0 d hl;split at he
    ·rename_i hh;obtain⟨rfl,rfl⟩:=hh;simp at he;subst he;obtain⟨kk,kv,m,e1,e2,e3,e4,e5⟩:=Bx hc;obtain⟨HG,_⟩:=Fy He e1;generalize hv:a.eval x=v at r1 ex;cases r1 with
     |own hK MC _=>
      obtain⟨_,_,N,q1,q2,_,_⟩:=h.eh b _ (Cm hl h.gs);obtain⟨xs,B1,Ay,h0,AZ⟩:=q1;rw [B1]at e3;simp only [AV.len,AV.int.injEq,true_and]at e3;rcases AZ with⟨rfl,_⟩|⟨g9,cap,C,hH,_⟩
      ·simp at e3;omega
      ·refine At.pure h (v:= .pointer (some ⟨g9,kv.toNat*P.cellsOf el+0,none⟩)) ?_ (.bt hK hH e1 e2 (by omega) .nil) rfl;rw [MC]at hH;cases hH;rw [ex,HG,PW hu hz e2 (by omega)];simp
    ·cases he
   ·rename_i g' c0 hl;split at he
    ·rename_i hh;subst hh;simp at he;subst he;obtain⟨kk,kv,m,e1,e2,e3,e4,e5⟩:=Bx hc;obtain⟨HG,_⟩:=Fy He e1;generalize hv:a.eval x=v at r1 ex;cases r1 with
     |own hK MC _=>
      obtain⟨_,⟨f,q1,q2⟩,_,_⟩:=h.eh b _ (Cm hl h.gs);rcases NB q1 e3 with⟨_,_,_,hm⟩|⟨b9,off9,len9,cap9,hH,hm⟩
      ·omega
      ·rw [MC]at hH;cases hH;rw [MC]at q1;refine At.pure h (v:= .pointer (some ⟨b9,off9+kv.toNat*P.cellsOf el+0,none⟩)) ?_ (.ct q1 q2 e1 e2 (by omega) e5 .nil) rfl;rw [ex,HG,PW hu hz e2 (by omega)];simp
    ·cases he
   ·rename_i e0 sz dl g' ep c0 hl;split at he
    ·rename_i hh;obtain⟨rfl,rfl⟩:=hh;simp at he;subst he;obtain⟨kk,kv,m,e1,e2,e3,e4,e5⟩:=Bx hc;obtain⟨HG,_⟩:=Fy He e1;generalize hv:a.eval x=v at r1 ex;cases r1 with
     |own hK MC _=>
      obtain⟨_,_,_,q1,_⟩:=h.eh b _ (Cm hl h.gs);obtain⟨_,_,⟨a9,d3,d4,_⟩|⟨g9,cap,C,ys,N1,hH,d4,_⟩⟩:=q1.inv
      ·rw [d4]at e3;simp [AV.len]at e3;omega
      ·rw [d4]at e3;simp only [AV.len,AV.int.injEq,true_and]at e3;refine At.pure h (v:= .pointer (some ⟨g9,kv.toNat*P.cellsOf el+0,none⟩)) ?_ (.bt hK hH e1 e2 (by omega) .nil) rfl;rw [MC]at hH;cases hH;rw [ex,HG,PW hu hz e2 (by omega)];simp
    ·cases he
   ·cases he
  ·rename_i y;simp at he;subst he;obtain⟨kk,kv,m,e1,e2,e3,e4,e5⟩:=Bx hc;obtain⟨HG,_⟩:=Fy He e1;generalize hv:a.eval x=v at r1 ex;cases r1 with
   |e q1 q2 _=>
    rcases NB q1 e3 with⟨_,_,_,hm⟩|⟨b9,off9,len9,cap9,rfl,hm⟩
    ·omega
    ·refine At.pure h (v:= .pointer (some ⟨b9,off9+kv.toNat*P.cellsOf el+0,none⟩)) ?_ (.ct q1 q2 e1 e2 (by omega) e5 .nil) rfl;rw [ex,HG,PW hu hz e2 (by omega)];simp
  ·rename_i b g m pth y;split at he
   ·rename_i VW;simp at he;subst he;have hE:=NG h.eh h.gs VW;obtain⟨kk,kv,mm,e1,e2,e3,e4,e5⟩:=Bx hc;obtain⟨HG,_⟩:=Fy He e1;generalize hv:a.eval x=v at r1 ex;cases r1 with
    |via q1 q2 q3 _=>
     obtain⟨⟨f,p1,p2⟩,p3⟩:=q3 hE;rcases NB p1 e3 with⟨_,_,_,hm⟩|⟨b9,off9,len9,cap9,rfl,hm⟩
     ·omega
     ·refine At.pure h (v:= .pointer (some ⟨b9,off9+kv.toNat*P.cellsOf el+0,none⟩)) ?_ (.vptr q1 q2 (fun _=>⟨b9,off9,len9,cap9,kk,kv,⟨f,p1,p2⟩,p3,e1,e2,by omega,e5,rfl⟩) .nil) rfl;rw [ex,HG,PW hu hz e2 (by omega)];simp
   ·cases he
  ·cases he
 ·rename_i k hu;have Pe:=Vy hu;obtain⟨fk,He,_⟩: ∃f,Rd c.w [a.eval i] [k.den c.ρ] f∧ ∀b∈f,c.ok b:=by
   generalize a.eval i=v at r2;cases r2 with
   |e h1 h2 _=>exact⟨_,h1,h2⟩
  split at he
  ·rename_i y;simp at he;subst he;obtain⟨kk,kv,s,e1,e2,e3,e4⟩:=Bx hc;obtain⟨HG,_⟩:=Fy He e1;generalize hv:a.eval x=v at r1;cases r1 with
   |e q1 q2 _=>
    obtain⟨bs,rfl,rfl,hle⟩:=NO q1 e2;have Au:kv.toNat<bs.data.toList.length:=by omega
    have Vi:kv.toNat<bs.size:=by simpa using Au
    refine At.pure h (v:= .int .u8 (bs[kv.toNat]).toNat) ?_ (.ca ?_) rfl
    ·simp [execOp,Pe,Instr.index,hv,HG,asIntOf,run_underlying hu,e3,Vi]
    ·simp only [E.den,e1,e2,AV.sidx];have:bs.data.toList[kv.toNat]?=some (bs[kv.toNat]):=by
      rw [List.getElem?_eq_getElem Au];simp [ByteArray.getElem_eq_getElem_data]
     rw [this];refine .int ?_ .nil;rw [Ma];have:=(bs[kv.toNat]).toNat_lt;simp [IntKind.min,IntKind.max,IntKind.signed,IntKind.bits];omega
  ·cases he
 ·cases he
theorem rO (h:A3 P c n nx sl hp a sl0 hp0 o gs) {t:TypeId} {x i:Operand} (ho:o.op= .indexAddr t x i) (Kc:P.underlying t≠some .string) (he:Bf P sg sl0 hp0 nv nx gs o=some e) (hc: ∀q∈e.bu,Cn.den c.ρ q):At P o c n nx sl hp gs a e:=by
 simp only [Bf,ho,An]at he;obtain⟨s1,Bj,s2,AQ,he⟩:=he;split at he
 ·cases he
 exact cG h (.inl ho) Bj AQ (fun _=>ho) (fun hh=>absurd hh Kc) he hc
theorem s6 (h:A3 P c n nx sl hp a sl0 hp0 o gs) {t:TypeId} {x i:Operand} (ho:o.op= .index t x i) (Kc:P.underlying t=some .string) (he:Bf P sg sl0 hp0 nv nx gs o=some e) (hc: ∀q∈e.bu,Cn.den c.ρ q):At P o c n nx sl hp gs a e:=by
 simp only [Bf,ho,An]at he;obtain⟨s1,Bj,s2,AQ,he⟩:=he;split at he
 ·exact cG h (.inr ho) Bj AQ (fun⟨el,hh⟩=>by rw [Kc]at hh;cases hh) (fun _=>ho) he hc
 ·cases he
theorem sY (h:A3 P c n nx sl hp a sl0 hp0 o gs) {x:Operand} {i:Nat} (ho:o.op= .extract x i) (he:Bf P sg sl0 hp0 nv nx gs o=some e) (hc: ∀q∈e.bu,Cn.den c.ρ q):At P o c n nx sl hp gs a e:=by
 have hm:x∈o.op.operands:=by simp [ho,Op.operands]
 simp only [Bf,ho,An]at he;obtain⟨s,hs,he⟩:=he;have hr:=h.bz hs hm;generalize hv:a.eval x=v at hr;have ex: ∀(as_:List Value) u,v= .tuple as_.toArray→as_[i]?=some u→(execOp a.eval o).run P c.w= .ok (.value u) c.w:=fun as_ u Pv hu=>by simp [execOp,ho,Instr.extract,hv,Pv,hu]
 split at he
 ·rename_i vs;obtain⟨s2,AQ,rfl⟩:=Am.1 he;cases hr with
  |tup r1 r9=>obtain⟨u,hu,r⟩:=r1.get AQ;exact At.pure h (ex _ u rfl hu) r rfl
 ·rename_i y;simp at he;subst he;cases hr with
  |e q1 q2 _=>
   have hd:(y.den c.ρ).proj i≠ .undef:=Bx hc;cases hy:y.den c.ρ<;>simp only [hy,AV.proj,ne_eq,not_true_eq_false]at hd;rename_i cs;obtain⟨as_,rfl,r1⟩:=zwY q1 hy;cases OF:cs[i]? with
   |none=>simp [OF]at hd
   |some z=>obtain⟨u,g,hu,hg,CF⟩:=r1.at OF;exact At.pure h (ex as_ u rfl hu) (.e (f:=g) (by simpa [E.den,hy,AV.proj,OF]using CF) (fun b hb=>q2 b (hg b hb)) .nil) rfl
 ·cases he
theorem yC (h:A3 P c n nx sl hp a sl0 hp0 o gs) {x:Operand} {t:TypeId} (ho:o.op= .unOp .not t x) (he:Bf P sg sl0 hp0 nv nx gs o=some e) (hc: ∀q∈e.bu,Cn.den c.ρ q):At P o c n nx sl hp gs a e:=by
 have hm:x∈o.op.operands:=by simp [ho,Op.operands]
 simp only [Bf,ho,An,Am]at he;obtain⟨s,hs,y,hy,he⟩:=he;obtain⟨f,q1,_⟩:=Gv (h.bz hs hm) hy;split at he
 ·subst he;have hv:=GX q1 rfl;rename_i b;exact At.pure h (v:= .bool (!b)) (by simp [execOp,ho,hv,Op.unary]) (.ca (.bool .nil)) rfl
 ·subst he;have hd:(y.den c.ρ).ee≠ .undef:=Bx hc;cases A8:y.den c.ρ<;>simp only [A8,AV.ee,ne_eq,not_true_eq_false]at hd;have hv:=GX q1 A8;rename_i b;exact At.pure h (v:= .bool (!b)) (by simp [execOp,ho,hv,Op.unary]) (.ca (by simp only [E.den,A8,AV.ee];exact .bool .nil)) rfl
theorem yI (h:A3 P c n nx sl hp a sl0 hp0 o gs) {x:Operand} {t:TypeId} (ho:o.op= .unOp .neg t x) (he:Bf P sg sl0 hp0 nv nx gs o=some e) (hc: ∀q∈e.bu,Cn.den c.ρ q):At P o c n nx sl hp gs a e:=by
 have hm:x∈o.op.operands:=by simp [ho,Op.operands]
 simp only [Bf,ho,An,Am]at he;obtain⟨s,hs,y,hy,rfl⟩:=he;obtain⟨f,q1,_⟩:=Gv (h.bz hs hm) hy;have hd:(y.den c.ρ).im≠ .undef:=Bx hc;cases A8:y.den c.ρ<;>simp only [A8,AV.im,ne_eq,not_true_eq_false]at hd;rename_i k m;obtain⟨hv,_⟩:=Fy q1 A8;exact At.pure h (v:= .int k (k.wrap (0-m))) (by simp [execOp,ho,hv,Op.unary,Op.intArith]) (.ca (by simp only [E.den,A8,AV.im];exact .int (XZ _ _) .nil)) rfl
theorem gV {L:List Operand} {sl0:Nat→SV} {gs:Gd} (h: ∀x s,Bm sl0 gs x=some s→x∈L→SR c [s] [a.eval x]): ∀{xs:List Operand} {ss:List SV},(∀x∈xs,x∈L)→xs.mapM (Bm sl0 gs)=some ss→SR c ss (xs.map a.eval)
 | [],ss,_,hm=>by simp at hm;subst hm;exact .nil
 |x::xs,ss,hL,hm=>by rw [List.mapM_cons]at hm;simp only [Option.bind_eq_bind,An]at hm;obtain⟨s,hs,ss',Fg,hm⟩:=hm;simp at hm;subst hm;exact(h x s hs (hL x (by simp))).app (gV h (fun y hy=>hL y (by simp [hy])) Fg)
theorem sG (h:A3 P c n nx sl hp a sl0 hp0 o gs) {f:FuncId} {fst caps:Array Operand} (ho:o.op= .makeFunc (.func f) fst caps) (he:Bf P sg sl0 hp0 nv nx gs o=some e):At P o c n nx sl hp gs a e:=by
 simp only [Bf,ho]at he;split at he
 ·rename_i hf;obtain⟨ss,Fg,rfl⟩:=Am.1 he;have hf:fst= #[]:=by simpa using hf
  have r:=gV (a:=a) (c:=c) (L:=caps.toList) (fun x s hx hm=>h.bz hx (by simp only [ho,Op.operands,Array.mem_append];exact .inr (Array.mem_toList_iff.1 hm))) (fun x hx=>hx) Fg;refine At.pure h (v:= .func (.func f) #[] (caps.toList.map a.eval).toArray) ?_ (.fn (by rw [Ba.aj];exact r) .nil) rfl;simp [execOp,ho,Instr.makeFunc,hf];apply Array.ext';simp
 ·cases he
end
section
variable {P:Program} {c:Cx} {n nx:Nat} {sl sl0:Nat→SV} {hp hp0:Nat→Option Ah} {a:Act} {o:Oper} {gs:Gd} {e:AP} {sg:Bq} {nv:Nat}
theorem A3.jz (h:A3 P c n nx sl hp a sl0 hp0 o gs) {x:Operand} {s:SV} (hs:Bm sl0 gs x=some s) (hm:x∈o.op.operands) {y:E} (hy:A2 hp0 gs AJ s=some y):
  ∃f,Rd c.w [a.eval x] [y.den c.ρ] f∧ ∀b∈f,c.dr (Bo hp0 gs (AJ+1) [s]) b:=Gy h.eh h.gs AJ hy (h.bz hs hm) AJ (Nat.le_refl _)
theorem zE (h:A3 P c n nx sl hp a sl0 hp0 o gs) {x:Operand} {t:TypeId} {cl:Call} (ho:o.op= .call cl) (Ay:cl.callee= .builtin .len) (CA:cl.args.toList= [x]) (DD:cl.argTypes.toList= [t]) (he:Bf P sg sl0 hp0 nv nx gs o=some e) (hc: ∀q∈e.bu,Cn.den c.ρ q):At P o c n nx sl hp gs a e:=by
 have Ao:cl.args= #[x]:=by apply Array.ext';simp [CA]
 have FV:cl.argTypes= #[t]:=by apply Array.ext';simp [DD]
 have hm:x∈o.op.operands:=by simp [ho,Op.operands,Call.operands,Ay,Ao]
 simp only [Bf,ho,Ay,CA,DD,An]at he;obtain⟨s,hs,he⟩:=he;unfold jM at he;have ex:(execOp a.eval o).run P c.w=((Builtin.len_ #[t] o.type #[a.eval x]).run P c.w).andThen fun v w=> .ok (.value v) w:=by simp [execOp,ho,resolve,Ay,Ao,FV,invoke,builtin]
 split at he
 ·rename_i el hu;obtain⟨y,hy,rfl⟩:=Am.1 he;obtain⟨f,q1,q2⟩:=h.jz hs hm hy;have hd:(y.den c.ρ).len≠ .undef:=Bx hc;cases A8:y.den c.ρ<;>simp only [A8,AV.len,ne_eq,not_true_eq_false]at hd;rename_i xs;have hl:(y.den c.ρ).len= .int .i64 (xs.length:Int):=by rw [A8];rfl
  have B0:DA .i64 (xs.length:Int):=by
   rw [Ma];rcases q1.kind with hh|hh|hh|hh|hh|hh|hh|hh|hh|hh
   all_goals first
    |(obtain⟨_,_,_,hh,_⟩:=hh;rw [A8]at hh;cases hh;done)
    |(obtain⟨_,_,hh,_⟩:=hh;rw [A8]at hh;cases hh;done)
    |skip
   ·obtain⟨_,_,_,hh,_⟩:=hh;rw [A8]at hh;cases hh;simp [IntKind.min,IntKind.max,IntKind.signed,IntKind.bits]
   ·obtain⟨_,_,_,_,_,_,_,_,_,_,_,_,hh,_,_,_,hle,hlen,_⟩:=hh;rw [A8]at hh;cases hh;simp [IntKind.min,IntKind.max,IntKind.signed,IntKind.bits];omega
   all_goals first
    |(obtain⟨_,_,_,hh,_⟩:=hh;rw [A8]at hh;cases hh;done)
    |(obtain⟨_,_,_,_,_,_,_,hh,_⟩:=hh;rw [A8]at hh;cases hh;done)
    |(obtain⟨_,_,_,_,hh,_⟩:=hh;rw [A8]at hh;cases hh;done)
    |(obtain⟨_,hh,_⟩:=hh;rw [A8]at hh;cases hh;done)
  refine At.pure h (v:= .int .i64 xs.length) ?_ (.ca (by simp only [E.den,A8,AV.len];exact .int B0 .nil)) rfl;rcases NB q1 hl with⟨p,q,hv,Dh⟩|⟨b,o',k,q,hv,Dh⟩
  ·rw [ex,hv,Dh];simp [Builtin.len_,run_underlying hu,goInt]
  ·rw [ex,hv,Dh];simp [Builtin.len_,run_underlying hu,goInt]
 ·rename_i hu;obtain⟨y,hy,rfl⟩:=Am.1 he;obtain⟨f,q1,q2⟩:=h.jz hs hm hy;have hd:(y.den c.ρ).slen≠ .undef:=Bx hc;cases A8:y.den c.ρ<;>simp only [A8,AV.slen,ne_eq,not_true_eq_false]at hd;obtain⟨bs,hv,rfl,hle⟩:=NO q1 A8;refine At.pure h (v:= .int .i64 bs.size) ?_ (.ca ?_) rfl
  ·rw [ex,hv];simp [Builtin.len_,run_underlying hu,goInt]
  ·simp only [E.den,A8,AV.slen];have:(bs.data.toList.length:Int)=(bs.size:Int):=by simp
   rw [this];refine .int ?_ .nil;rw [Ma];simp [IntKind.min,IntKind.max,IntKind.signed,IntKind.bits];omega
 ·cases he
theorem s7 (h:A3 P c n nx sl hp a sl0 hp0 o gs) {x:Operand} {src dst:TypeId} {k0 k:IntKind} (ho:o.op= .convert src dst x) (h1:P.underlying src=some (.int k0)) (h2:P.underlying dst=some (.int k)) (he:Bf P sg sl0 hp0 nv nx gs o=some e) (hc: ∀q∈e.bu,Cn.den c.ρ q):At P o c n nx sl hp gs a e:=by
 have hm:x∈o.op.operands:=by simp [ho,Op.operands]
 simp only [Bf,ho,An]at he;obtain⟨s,hs,he⟩:=he;simp only [Qv,h1,h2,Am]at he;obtain⟨y,hy,rfl⟩:=he;obtain⟨f,q1,_⟩:=Gv (h.bz hs hm) hy;have hd:(y.den c.ρ).conv k≠ .undef:=Bx hc;cases A8:y.den c.ρ<;>simp only [A8,AV.conv,ne_eq,not_true_eq_false]at hd;rename_i k1 m;obtain⟨hv,_⟩:=Fy q1 A8;exact At.pure h (v:= .int k (k.wrap m)) (by simp [execOp,ho,hv,convert,run_underlying h1,run_underlying h2,Conv.intToInt]) (.ca (by simp only [E.den,A8,AV.conv];exact .int (XZ _ _) .nil)) rfl
theorem tD (h:A3 P c n nx sl hp a sl0 hp0 o gs) {x:Operand} {src dst:TypeId} (ho:o.op= .convert src dst x) (h1:P.underlying src=some .string) (h2:P.underlying dst=some .string) (he:Bf P sg sl0 hp0 nv nx gs o=some e) (hc: ∀q∈e.bu,Cn.den c.ρ q):At P o c n nx sl hp gs a e:=by
 have hm:x∈o.op.operands:=by simp [ho,Op.operands]
 simp only [Bf,ho,An]at he;obtain⟨s,hs,he⟩:=he;simp only [Qv,h1,h2,Am]at he;obtain⟨y,hy,rfl⟩:=he;obtain⟨f,q1,_⟩:=Gv (h.bz hs hm) hy;have hd:(y.den c.ρ).slen≠ .undef:=Bx hc;cases hl:y.den c.ρ<;>simp only [hl,AV.slen,ne_eq,not_true_eq_false]at hd;obtain⟨bs,hv,hle,Vg⟩:=NO q1 hl;exact At.pure h (v:= .string bs) (by simp [execOp,ho,hv,convert,run_underlying h1,run_underlying h2]) (.ca (by rw [hl,hle];exact Rd.str Vg .nil)) rfl
theorem jH {w:World}: ∀{ys:List AV} {s:List UInt8} {cs:List Value} {f:List Nat},Kp ys=some s→Rd w cs (Az ys) f→ ∃ns:List Int,cs=ns.map (Value.int .u8)∧s=ns.map (fun n=>UInt8.ofNat n.toNat)∧ns.length=ys.length
 | [],s,cs,f,h,hr=>by have:Az ([]:List AV)= []:=rfl;rw [this]at hr;cases hr;cases h;exact⟨[],rfl,rfl,rfl⟩
 |y::ys,s,cs,f,h,hr=>by
  unfold Kp at h;split at h
  ·rename_i h0;cases h0
  ·rename_i n xs he;cases he;obtain⟨s',h1,rfl⟩:=Am.1 h;have CT:Rd w cs (.int .u8 n::Az ys) f:=by simpa [Az,AV.cells]using hr
   cases CT with
   |int hk Dt=>obtain⟨ns,rfl,rfl,hl⟩:=jH h1 Dt;exact⟨n::ns,rfl,rfl,by simp [hl]⟩
  ·cases h
theorem sX (h:A3 P c n nx sl hp a sl0 hp0 o gs) {x:Operand} {src dst el:TypeId} (ho:o.op= .convert src dst x) (h1:P.underlying src=some (.slice el)) (h2:P.underlying dst=some .string) (he:Bf P sg sl0 hp0 nv nx gs o=some e) (hc: ∀q∈e.bu,Cn.den c.ρ q):At P o c n nx sl hp gs a e:=by
 have hm:x∈o.op.operands:=by simp [ho,Op.operands]
 simp only [Bf,ho,An]at he;obtain⟨s,hs,he⟩:=he;simp only [Qv,h1,h2]at he;split at he
 ·rename_i hu;obtain⟨y,hy,rfl⟩:=Am.1 he;obtain⟨f,q1,q2⟩:=h.jz hs hm hy;have hd:(y.den c.ρ).text≠ .undef:=Bx hc;cases A8:y.den c.ρ<;>simp only [A8,AV.text,ne_eq,not_true_eq_false]at hd;rename_i xs;split at hd
  ·rename_i t ht;split at hd
   ·rename_i hle;have BG:(E.text y).den c.ρ= .str t:=by
     simp only [E.den,A8,AV.text,ht];rw [if_pos hle]
    have fin: ∀ns:List Int,t=ns.map (fun n=>UInt8.ofNat n.toNat)→ns.length=xs.length→(convert src dst (a.eval x)).run P c.w= .ok (.string (ns.foldl (fun r n=>r.push (UInt8.ofNat n.toNat)) ByteArray.empty)) c.w→At P o c n nx sl hp gs a {bu:= [.dfd (.text y)],val:= .e (.text y)}:=fun ns e1 e2 e3=>by
     have e4:(ns.foldl (fun r n=>r.push (UInt8.ofNat n.toNat)) ByteArray.empty)=⟨t.toArray⟩:=by
      rw [foldl_push_bytes,e1];simp [ByteArray.empty,ByteArray.emptyWithCapacity]
      try rfl
     rw [e4]at e3;refine At.pure h (v:= .string ⟨t.toArray⟩) (by simp [execOp,ho,e3]) (.ca ?_) rfl;rw [BG];have Bz:(ByteArray.mk t.toArray).size≤9223372036854775807:=by simp only [ByteArray.size,List.size_toArray];rw [e1,List.length_map];omega
     have:=Rd.str (w:=c.w) (s:=⟨t.toArray⟩) Bz .nil;simpa using this
    rw [A8]at q1;rcases q1.kind with hh|hh|hh|hh|hh|hh|hh|hh|hh|hh
    all_goals first
     |(obtain⟨_,_,_,hh,_⟩:=hh;cases hh;done)
     |(obtain⟨_,_,hh,_⟩:=hh;cases hh;done)
     |skip
    ·obtain⟨p,q,hv,hx,_⟩:=hh;cases hx;cases ht;refine fin [] rfl rfl ?_;rw [hv];cases p with
     |none=>rw [run_convert_bytes_nil c.w src el h1 hu _ _ dst h2];rfl
     |some ad=>rw [run_convert_bytes_string c.w src dst el _ 0 q h1 hu h2,run_bytesToString c.w ad 0 q [] (by simp [loadCells,loadCellsFrom])]
    ·obtain⟨b,o',k,q,ys,cs,C,t',fz,sz,f1,hv,hx,_,hb,_,mO,hlen,_,_,Bb,hr⟩:=hh;cases hx;obtain⟨ns,rfl,e1,e2⟩:=jH ht hr.2;refine fin ns e1 e2 ?_;have hl:ns.length=k:=by omega
     have BF: ∀i,i<k→c.w.cell? ⟨b,o'+i,none⟩=some (.int .u8 (ns.getD i 0)):=fun i hi=>by
      have I4:i<ns.length:=by omega
      have:=Bb i (.int .u8 ns[i]) (by simp [I4]);rw [D5 hb,this];simp [I4]
     have:=run_convert_bytes_arg c.w src el h1 hu b o' k q ns hl BF dst h2;rw [hv,this];congr 2;rw [foldl_push_bytes];simp [strOfNums,ByteArray.empty,ByteArray.emptyWithCapacity]
     try rfl
    all_goals first
     |(obtain⟨_,_,_,hh,_⟩:=hh;cases hh;done)
     |(obtain⟨_,_,_,_,_,_,_,hh,_⟩:=hh;cases hh;done)
     |(obtain⟨_,_,_,_,hh,_⟩:=hh;cases hh;done)
     |(obtain⟨_,hh,_⟩:=hh;cases hh;done)
   ·exact absurd rfl hd
  ·exact absurd rfl hd
 ·cases he
theorem eP {ρ:List AV} {x:E} {b:Bool} {gs:Gd} (h1:x.den ρ= .bool b) (h2:AY ρ gs):AY ρ ((x,b)::gs):=by
 intro g hg;rcases Ae.1 hg with rfl|hg
 ·exact h1
 ·exact h2 g hg
theorem wO (h:A3 P c n nx sl hp a sl0 hp0 o gs) {x y z:Operand} (ho:o.op= .pick x y z) (he:Bf P sg sl0 hp0 nv nx gs o=some e) (hc: ∀q∈e.bu,Cn.den c.ρ q):At P o c n nx sl hp gs a e:=by
 have Di:x∈o.op.operands:=by simp [ho,Op.operands]
 have CS:y∈o.op.operands:=by simp [ho,Op.operands]
 have MJ:z∈o.op.operands:=by simp [ho,Op.operands]
 simp only [Bf,ho,An]at he;obtain⟨s,hs,he⟩:=he;have hr:=h.bz hs Di;split at he
 ·rename_i q;have ex: ∀b,a.eval x= .bool b→(execOp a.eval o).run P c.w= .ok (.value (if b then a.eval y else a.eval z)) c.w:=fun b hb=>by
   simp [execOp,ho,hb,asBool]
  obtain⟨f,q1⟩: ∃f,Rd c.w [a.eval x] [q.den c.ρ] f:=by
   generalize a.eval x=v at hr;cases hr with
   |e h1 _ _=>exact⟨_,h1⟩
  unfold iX at he;split at he
  ·obtain⟨s',AX,rfl⟩:=Am.1 he;exact At.pure h (v:=a.eval y) (ex true (GX q1 rfl)) (h.bz AX CS) rfl
  ·obtain⟨s',AX,rfl⟩:=Am.1 he;exact At.pure h (v:=a.eval z) (ex false (GX q1 rfl)) (h.bz AX MJ) rfl
  ·split at he
   ·rename_i y' z' hy hz;simp at he;subst he;simp only [An]at hy hz;obtain⟨sy,nI,hy⟩:=hy;obtain⟨sz,Bz,hz⟩:=hz;have hd:(q.den c.ρ).ee≠ .undef:=Bx hc;cases hq:q.den c.ρ<;>simp only [hq,AV.ee,ne_eq,not_true_eq_false]at hd;rename_i b;cases b with
    |true=>have r:=S0 (a:=a) nI (fun t ht=>by subst ht;rw [h.sl t CS];exact h.rel.cc t) (eP hq h.gs);obtain⟨f',g1,g2⟩:=Gv r hy;exact At.pure h (v:=a.eval y) (ex true (GX q1 hq)) (.e (f:=f') (by simpa [E.den,hq,AV.cond]using g1) g2 .nil) rfl
    |false=>have r:=S0 (a:=a) Bz (fun t ht=>by subst ht;rw [h.sl t MJ];exact h.rel.cc t) (eP hq h.gs);obtain⟨f',g1,g2⟩:=Gv r hz;exact At.pure h (v:=a.eval z) (ex false (GX q1 hq)) (.e (f:=f') (by simpa [E.den,hq,AV.cond]using g1) g2 .nil) rfl
   ·cases he
 ·cases he
end
section
variable {P:Program} {c:Cx} {n nx:Nat} {sl sl0:Nat→SV} {hp hp0:Nat→Option Ah} {a:Act} {o:Oper} {gs:Gd} {e:AP} {sg:Bq} {nv:Nat}
theorem WY {w:World} {v:Value} {x:AV} {f:List Nat} (h:Rd w [v] [x] f) (h1: ∀cs,x≠ .agg cs) (h2: ∀cs,x≠ .tup cs):v.oneCell'=true:=by
 cases h<;>first
  |rfl
  |exact absurd rfl (h1 _)
  |exact absurd rfl (h2 _)
theorem one_cells {v:Value} (h:v.oneCell'=true):v.cells= #[v]:=by cases v<;>first|rfl|(simp [Value.oneCell']at h)
theorem Tf {t:TypeId} {s:SV} {v:Value} {cs:List SV} {ck:List Cn} (h:SR c [s] [v]) (hc:NK P t s=some (cs,ck)) (hk: ∀q∈ck,q.den c.ρ):
  SR c cs v.cells.toList∧(∀u∈v.cells.toList,u.oneCell'=true):=by
 unfold NK at hc;split at hc
 ·split at hc
  ·simp at hc;obtain⟨rfl,rfl⟩:=hc;cases h with
   |agg h1 h2 _=>exact⟨by simpa [Value.cells]using h2,by simpa [Value.cells]using h1⟩
  ·rename_i x;simp at hc;obtain⟨rfl,rfl⟩:=hc;cases h with
   |e h1 h2 _=>
    obtain⟨as_,has,hl⟩:=Bx hk;obtain⟨vs,rfl,h3,h4⟩:=Ia h1 has;refine⟨?_,by simpa [Value.cells]using h3⟩;have hlen:=h4.len;have key: ∀k,k≤as_.length→SR c ((List.range k).map fun j=>SV.e (.fld x j 1 false)) (vs.take k):=by
     intro k
     induction k with
     |zero=>intro _;simpa using SR.nil
     |succ k ih=>
      intro hk;have BO:k<as_.length:=by omega
      obtain⟨u,g,hu,hg,hr⟩:=h4.at (show as_[k]?=some as_[k] by simp [BO])
      rw [List.range_succ,List.map_append,List.take_succ_eq_append_getElem (by omega)];refine(ih (by omega)).app ?_;have EJ:vs[k]'(by omega)=u:=by simpa [show k<vs.length by omega]using hu
      rw [EJ];exact .e (f:=g) (by simpa [E.den,AV.fld,has,AV.cells,BO]using hr) (fun b hb=>h2 b (hg b hb)) .nil
    have:=key as_.length (Nat.le_refl _);rw [←hlen,List.take_length,hlen,hl]at this;simpa [Value.cells]using this
  ·cases hc
 ·split at hc
  ·rename_i x;simp at hc;obtain⟨rfl,rfl⟩:=hc;cases h with
   |e h1 h2 _=>
    have hq:(∀cs,x.den c.ρ≠ .agg cs)∧ ∀cs,x.den c.ρ≠ .tup cs:=by
     cases x<;>first
      |exact(Bx hk:Cn.den c.ρ (.cells _ 1))
      |exact⟨by simp [E.den],by simp [E.den]⟩
    have Hc:=WY h1 hq.1 hq.2;rw [one_cells Hc];exact⟨.e h1 h2 .nil,by simpa using Hc⟩
  ·cases hc
  ·cases hc
  ·cases hc
  ·cases hc
  ·cases hc
  ·cases hc
  ·cases hc
  ·cases hc
  ·simp at hc;obtain⟨rfl,rfl⟩:=hc;have Hc:v.oneCell'=true:=by
    cases h<;>first|rfl|(rename_i hh _ _ _ _ _;exact absurd rfl (hh _))|skip
    all_goals first
     |rfl
     |exact(show∀(i:Nat),SV.lent _=SV.lent i→False from by assumption) _ rfl|>.elim
     |exact(show∀(t g n:Nat) (p:KX) (x:E),SV.via _ _ _ _ _=SV.via t g n p x→False from by assumption) _ _ _ _ _ rfl|>.elim
     |exact(show∀(t g n:Nat) (p:KX) (x i:E) (sz o:Nat),SV.vptr _ _ _ _ _ _ _ _=SV.vptr t g n p x i sz o→False from by assumption) _ _ _ _ _ _ _ _ rfl|>.elim
     |(exfalso;simp_all;done)
   rw [one_cells Hc];exact⟨h,by simpa using Hc⟩
theorem zw2 (h:A3 P c n nx sl hp a sl0 hp0 o gs) (ob:Obj) (hv:Value):KQ c (c.new nx ob hv []) nx:=
 ⟨rfl,rfl,rfl,rfl,fun t ht=>ht.imp id (fun hh=>by subst hh;exact⟨Nat.le_refl _,by simp [Bh]⟩)⟩
theorem L9 (h:A3 P c n nx sl hp a sl0 hp0 o gs): ¬c.U nx:=h.new nx (Nat.le_refl _) (by omega)
theorem At.box (h:A3 P c n nx sl hp a sl0 hp0 o gs) {ty:TypeId} {g:Bool} {cs:List SV} {v:Value} {ck:List Cn} (hr:(execOp a.eval o).run P c.w= .ok (.value (.pointer (some ⟨c.w.heap.size,0,none⟩))) (c.w.alloc (.cells v.cells ty)))
  (hs:SR c cs v.cells.toList) (h1: ∀u∈v.cells.toList,u.oneCell'=true):At P o c n nx sl hp gs a {bu:=ck,val:= .bj nx 0,ar:= [(nx,Cf gs (.box ty g cs))]}:=by
 intro next Q hk
 unfold Oper.wp;rw [hr,Oper.upon_value];have hU:=L9 h;have keep:CN c (c.new nx (.cells v.cells ty) (.pointer (some ⟨c.w.heap.size,0,none⟩)) []):=Cx.gf (fun g hg=>hU (h.rel.a6 _ _ hg));have hH:(c.new nx (.cells v.cells ty) (.pointer (some ⟨c.w.heap.size,0,none⟩)) []).H nx 0= .pointer (some ⟨c.w.heap.size,0,none⟩):=by simp [Cx.new]
 have hK:(c.new nx (.cells v.cells ty) (.pointer (some ⟨c.w.heap.size,0,none⟩)) []).K nx 0:= .inr ⟨rfl,rfl⟩;have Ak:=h.rel.new hU (.cells v.cells ty) (.pointer (some ⟨c.w.heap.size,0,none⟩)) (.box ty g cs) gs h.gs (by intros;simp)
  ⟨c.w.heap.size,v.cells,hK,hH,by simp [Cx.new],by simp [Cx.new],heap_alloc_new _ _,h1,hs.keep keep⟩
 exact hk _ _ (zw2 h _ _) (Ak.put ((SR.bj hK hH .nil).mkGd gs h.gs) o.dst)
theorem vJ (h:A3 P c n nx sl hp a sl0 hp0 o gs) {t:TypeId} (ho:o.op= .alloc t) (he:Bf P sg sl0 hp0 nv nx gs o=some e) (hc: ∀q∈e.bu,Cn.den c.ρ q):At P o c n nx sl hp gs a e:=by
 simp only [Bf,ho,An]at he;obtain⟨z,⟨i,hi,hz⟩,s,hs,⟨cs,ck⟩,Bb,he⟩:=he;split at he
 ·cases he
 ·split at he
  ·cases he
  ·rename_i K3;have K3:ck= []:=by simpa using K3
   simp at he;subst he;have AX:D6 z=some s:=by simpa [jT,hi,hz]using hs
   obtain⟨q1,q2⟩:=Tf (S6 (c:=c) AX) Bb (by simp [K3]);refine At.box h (v:=z) ?_ q1 q2;simp [execOp,ho,Instr.alloc,zeroValue,typeInfo,hi,hz,newVar,newRow]
theorem yE (h:A3 P c n nx sl hp a sl0 hp0 o gs) {t:TypeId} {x:Operand} (ho:o.op= .box t x) (he:Bf P sg sl0 hp0 nv nx gs o=some e) (hc: ∀q∈e.bu,Cn.den c.ρ q):At P o c n nx sl hp gs a e:=by
 have hm:x∈o.op.operands:=by simp [ho,Op.operands]
 simp only [Bf,ho,An]at he;obtain⟨s,hs,⟨cs,ck⟩,Bb,he⟩:=he;split at he
 ·cases he
 ·simp at he;subst he;obtain⟨q1,q2⟩:=Tf (h.bz hs hm) Bb hc;refine At.box h (v:=a.eval x) ?_ q1 q2;simp [execOp,ho,Instr.box,newVar,newRow]
end
section
variable {P:Program} {c:Cx} {n nx:Nat} {sl sl0:Nat→SV} {hp hp0:Nat→Option Ah} {a:Act} {o:Oper} {gs:Gd} {e:AP} {sg:Bq} {nv:Nat}
def setVs {α:Type} (cs:List α) (o:Nat) (vs:List α):List α:=cs.take o++vs++cs.drop (o+vs.length)
theorem Nv {α:Type} (cs vs:List α) (o:Nat) (h:o+vs.length≤cs.length) (i:Nat):(setVs cs o vs)[i]?=if o≤i∧i<o+vs.length then vs[i-o]? else cs[i]?:=by
 unfold setVs;have ht:(cs.take o).length=o:=by rw [List.length_take];omega
 rw [List.append_assoc];by_cases h1:i<o
 ·rw [if_neg (by omega),List.getElem?_append_left (by omega),List.getElem?_take,if_pos h1]
 ·rw [List.getElem?_append_right (by omega),ht];by_cases h2:i<o+vs.length
  ·rw [if_pos (by omega),List.getElem?_append_left (by omega)]
  ·rw [if_neg (by omega),List.getElem?_append_right (by omega),List.getElem?_drop];congr 1;omega
theorem Ns {α:Type} (cs vs:List α) (o:Nat) (h:o+vs.length≤cs.length):(setVs cs o vs).length=cs.length:=by simp [setVs];omega
theorem SR.setVs {cs vs:List SV} {C V:List Value} {k:Nat} (h:SR c cs C) (hv:SR c vs V):SR c (N5 cs k vs) (Go.Proofs.YtollgpkegmbpmaaGreatDoor.setVs C k V):=by unfold N5 Go.Proofs.YtollgpkegmbpmaaGreatDoor.setVs;have hl:=hv.len;rw [←hl];exact((h.split k).1.app hv).app (h.split _).2
theorem eX (vs:List Value): ∀(k off:Nat) (C:Array Value),off+k+vs.length≤C.size→
  ((vs.zipIdx k).foldl (fun cs (p:Value × Nat)=>cs.setIfInBounds (off+p.2) p.1) C).toList=setVs C.toList (off+k) vs:=by
 induction vs with
 |nil=>intro k off C _;simp [setVs]
 |cons v vs ih=>
  intro k off C h;simp only [AA]at h;simp only [List.zipIdx_cons,List.foldl_cons];rw [ih (k+1) off _ (by simp;omega)];apply List.ext_getElem?;intro i;rw [Nv _ _ _ (by simp;omega),Nv _ _ _ (by simp;omega)];simp only [Array.toList_setIfInBounds,List.getElem?_set,AA,Array.length_toList];by_cases h1:i=off+k
  ·subst h1;rw [if_neg (by omega),if_pos rfl,if_pos (by omega),if_pos (by omega)];simp
  ·by_cases h2:off+(k+1)≤i∧i<off+(k+1)+vs.length
   ·rw [if_pos h2,if_pos (by omega),show i-(off+k)=(i-(off+(k+1)))+1 by omega,List.getElem?_cons_succ]
   ·rw [if_neg h2,if_neg (by omega),if_neg (by omega)]
theorem WR {b off:Nat} {t:TypeId}: ∀(vs:List Value) (i:Nat) (w:World) (C:Array Value),w.heap[b]?=some (.cells C t (0,0))→off+i+vs.length≤C.size→(∀v∈vs,v.oneCell'=true)→
  (storeCells ⟨b,off,none⟩ vs i).run P w= .ok () (putCells w b (off+i) vs)
 | [],i,w,C,_,_,_=>by simp [storeCells,putCells]
 |v::vs,i,w,C,hb,hl,h1=>by
  simp only [AA]at hl;have hi:off+i<C.size:=by omega
  have BF:w.cell? ⟨b,off+i,none⟩=some C[off+i]:=by simp [World.cell?,hb,hi]
  have UY:w.frozen? ⟨b,off+i,none⟩=false:=by simp [World.frozen?,hb]
  have Ef:(store ((⟨b,off,none⟩:Addr).add i) v).run P w= .ok () (w.setCell ⟨b,off+i,none⟩ v):=by rw [Addr.add_lit,run_store P w _ v _ (h1 v (by simp)),BF];simp [UY]
  have h2:=heap_setCell_same w b (off+i) C t v hb;have ih:=WR (off:=off) vs (i+1) (w.setCell ⟨b,off+i,none⟩ v) _ h2 (by simp;omega) (fun x hx=>h1 x (by simp [hx]));simp only [storeCells,Sem.run_bind,Ef,Result.andThen_ok,ih,putCells];rw [Nat.add_assoc]
theorem SL {w:World} {b off:Nat} {t:TypeId} {vs:List Value} {C:Array Value} (hb:w.heap[b]?=some (.cells C t (0,0))) (hl:off+vs.length≤C.size):
  Mod [b] w (putCells w b off vs)∧(putCells w b off vs).heap[b]?=some (.cells (setVs C.toList off vs).toArray t (0,0))∧(putCells w b off vs).heap.size=w.heap.size:=by
 obtain⟨hm,C',h1,h2,h3,h4⟩:=WE vs w b off C t hb hl;refine⟨hm, ?_, ?_⟩
 ·rw [h1];congr 2;apply Array.ext';apply List.ext_getElem?;intro i;rw [Nv _ _ _ (by simpa using hl)];by_cases hi:off≤i∧i<off+vs.length
  ·rw [if_pos hi];have Au:i-off<vs.length:=by omega
   have:=h3 (i-off) vs[i-off] (by simp [Au]);rw [show off+(i-off)=i by omega]at this;rw [Array.getElem?_toList,this];simp [Au]
  ·rw [if_neg hi,Array.getElem?_toList,Array.getElem?_toList];exact h4 i (by omega)
 ·clear hm h1 h2 h3 h4 hl
  induction vs generalizing w off C with
  |nil=>rfl
  |cons v vs ih=>simp only [putCells];rw [ih (heap_setCell_same w b off C t v hb)];simp [World.setCell]
theorem WX {w:World} {b off:Nat} {t ty:TypeId} {v:Value} {C:Array Value} (hb:w.heap[b]?=some (.cells C ty (0,0))) (ht:CC P t=true) (hs:v.cells.size=P.cellsOf t) (hl:off+v.cells.size≤C.size) (h1: ∀u∈v.cells.toList,u.oneCell'=true):
  (Instr.storeAt t (.pointer (some ⟨b,off,none⟩)) v).run P w= .ok () (putCells w b off v.cells.toList):=by
 have:=WR (P:=P) (off:=off) v.cells.toList 0 w C hb (by simpa using hl) h1;simp only [Nat.add_zero]at this;simp [Instr.storeAt,Instr.sureAddr,storeVar,L0 ht,hs,this]
def Cx.wr (c:Cx) (w':World) (t:Nat):Cx:={c with w:=w',E:=fun u=>if u=t then c.E u+1 else c.E u}
theorem Cx.gz {c:Cx} {w':World} {t b:Nat} (gw:GW c) (BJ:b∈(c.G t).top) (hm:Mod [b] c.w w'):CN c (c.wr w' t):=by
 have A6:b∈(c.G t).own:=by simp [GI.own,BJ]
 refine⟨rfl,rfl,fun q _ hq=>hq,fun q hq Aw=>hm.block q hq ?_,fun u g hu=>⟨hu,rfl⟩,fun u g hu=> ?_⟩
 ·simp only [List.mem_singleton];rintro rfl;exact Aw.1 ⟨t,BJ⟩
 ·by_cases Fv:u=t
  ·have e1:(c.wr w' t).E u=c.E u+1:=by simp only [Cx.wr,if_pos Fv]
   exact⟨by omega,fun h=>by omega⟩
  ·have e1:(c.wr w' t).E u=c.E u:=by simp only [Cx.wr,if_neg Fv]
   rw [e1];refine⟨Nat.le_refl _,fun _=>⟨rfl,fun q hq Hg=>hm.block q Hg ?_⟩⟩;simp only [List.mem_singleton];rintro rfl;exact gw.bp t u (Ne.symm Fv) q A6 (by simp [GI.own,hq])
theorem Rel.write (h:Rel c n sl hp a) {t:Nat} {e0:Ah} {b:Nat} {w':World} (AK:BW c.ρ (hp t) e0) (BJ:b∈(c.G t).top) (hm:Mod [b] c.w w') (Bz:w'.heap.size=c.w.heap.size) (e1:Ah) (A4: ∀hs f,e1≠ .gd hs f)
  (he:Cv (c.wr w' t) t e1):Rel (c.wr w' t) n sl (AU hp [(t,e1)]) a∧CN c (c.wr w' t):=by
 have A6:b∈(c.G t).own:=by simp [GI.own,BJ]
 have Bt:CN c (c.wr w' t):=Cx.gz h.gw BJ hm;have CU: ∀u,AU hp [(t,e1)] u=if u=t then some e1 else hp u:=fun u=>rfl;refine⟨h.change (fun u=>u=t) Bt ⟨hm.os.trans h.base.os,hm.tape.trans h.base.tape,hm.output.trans h.base.output,Nat.le_trans h.base.size hm.size,h.base.pins,fun q hq GL=> ?_,h.base.pk,h.base.lo⟩
  (fun u hu=>⟨by rw [CU,if_neg hu],rfl,by simp [Cx.wr,hu],fun g hg=>hg⟩) (fun u hu q hq=>hm.block q (h.gw.inb u q (by simp [GI.own,hq])) ?_) (fun u hu=> ?_) ⟨h.gw.nodup,h.gw.bp,h.gw.allow,fun u q hq=> ?_⟩ h.a6 (fun u f hf=> ?_),Bt⟩
 ·refine(hm.block q (Nat.lt_of_lt_of_le hq h.base.size) ?_).trans (h.base.block q hq GL);simp only [List.mem_singleton];rintro rfl;rcases h.gw.allow t q A6 with hh|hh
  ·exact absurd hh (Nat.not_le.2 hq)
  ·exact GL hh
 ·simp only [List.mem_singleton];rintro rfl;exact h.gw.bp t u (Ne.symm hu) q A6 (by simp [GI.own,hq])
 ·subst hu;rw [CU,if_pos rfl];refine⟨fun e' hr=> ?_,fun hn=> ?_⟩
  ·cases e1<;>first
    |(simp only [BW]at hr;subst hr;exact he)
    |exact absurd rfl (A4 _ _)
  ·cases e1<;>first
    |exact absurd rfl (A4 _ _)
    |exact absurd rfl (hn _)
 ·show q<w'.heap.size;rw [Bz];exact h.gw.inb u q hq
 ·rw [CU]at hf;split at hf
  ·rename_i hu;subst hu;cases hh:hp u with
   |none=>rw [hh]at AK;exact AK.elim
   |some e9=>exact h.br u e9 hh
  ·exact h.br u f hf
end
section
variable {P:Program} {c:Cx} {n nx:Nat} {sl sl0:Nat→SV} {hp hp0:Nat→Option Ah} {a:Act} {o:Oper} {gs:Gd} {e:AP} {sg:Bq} {nv:Nat}
theorem sK (h:A3 P c n nx sl hp a sl0 hp0 o gs) {t:TypeId} {x y:Operand} (ho:o.op= .store t x y) {b k:Nat} {s:SV} (hx:Bm sl0 gs x=some (.bj b k)) (hy:Bm sl0 gs y=some s)
  (he:KA P hp0 gs t (.bj b k) s=some e) (hc: ∀q∈e.bu,Cn.den c.ρ q):At P o c n nx sl hp gs a e:=by
 have r1:=h.bz hx (by simp [ho,Op.operands]);have r2:=h.bz hy (by simp [ho,Op.operands]);simp only [KA]at he;split at he
 ·rename_i ty g cs vs ck hl Bb;split at he
  ·rename_i hh;obtain⟨A1,hlen,hle,rfl⟩:=hh;simp at he;subst he;obtain⟨q1,q2⟩:=Tf r2 Bb hc;generalize hv:a.eval x=v at r1;cases r1 with
   |bj h1 h2 h3=>
    rename_i q;have Eo:=Cm hl h.gs;obtain⟨q',C,e1,e2,e3,e4,e5,e5',e6⟩:=h.eh b _ Eo;rw [h2]at e2;cases e2;have AK:BW c.ρ (hp b) (.box ty g cs):=by
     cases hh:hp0 b with
     |none=>rw [hh]at Eo;exact Eo.elim
     |some e9=>rw [h.hp b e9 hh];rwa [hh]at Eo
    have Ll:=e6.len;have Vf:=q1.len;obtain⟨m1,m2,m3⟩:=SL (vs:=(a.eval y).cells.toList) e5 (show k+_≤C.size by simp at Ll Vf ⊢;omega);obtain⟨Ak,Bt⟩:=h.rel.write AK (by rw [e3];simp) m1 m3 (.box ty g (N5 cs k vs)) (by intros;simp) (w':=putCells c.w q k (a.eval y).cells.toList) (by
     have BO:CN c (c.wr (putCells c.w q k (a.eval y).cells.toList) b):=Cx.gz h.rel.gw (by rw [e3];simp) m1;refine⟨q,_,e1,h2,e3,e4,m2, ?_, ?_⟩
     ·intro u hu;simp only [List.toList_toArray]at hu;unfold setVs at hu;simp only [Af]at hu;rcases hu with(hu|hu)|hu
      ·exact e5' u (List.mem_of_mem_take hu)
      ·exact q2 u hu
      ·exact e5' u (List.mem_of_mem_drop hu)
     ·simpa using(e6.setVs q1 (k:=k)).keep BO)
    intro next Q hk
    unfold Oper.wp;have hr:(execOp a.eval o).run P c.w= .ok .skip (putCells c.w q k (a.eval y).cells.toList):=by have:=WX (P:=P) (t:=t) (v:=a.eval y) (off:=k) e5 A1 (by simp at Vf;omega) (by simp at Ll Vf;omega) q2;simp [execOp,ho,hv,this]
    rw [hr,Oper.upon_skip];exact hk _ (c.wr (putCells c.w q k (a.eval y).cells.toList) b) ⟨rfl,rfl,rfl,rfl,fun t ht=> .inl ht⟩ (Ak.put ((SR.undef .nil).mkGd []) o.dst)
  ·cases he
 ·cases he
theorem gJ {places:List (Nat × Nat)} {tys:List TypeId}: ∀(ps:List (Nat × SV)) (vs:List (Nat × Value)) (cs:List SV) (C:Array Value) (r:List SV × List Cn),QO P places tys ps cs=some r→(∀q∈r.2,q.den c.ρ)→
  ps.map (·.1)=vs.map (·.1)→SR c (ps.map (·.2)) (vs.map (·.2))→SR c cs C.toList→(∀u∈C.toList,u.oneCell'=true)→
  ∃C',Instr.fill (places.toArray[·]?) C vs=some C'∧SR c r.1 C'.toList∧ ∀u∈C'.toList,u.oneCell'=true
 | [],vs,cs,C,r,h,hk,he,_,hC,h1=>by
  have:vs= []:=by simpa using he.symm
  subst this;simp [QO]at h;subst h;exact⟨C,rfl,hC,h1⟩
 |(i,s)::ps, [],cs,C,r,h,hk,he,_,hC,h1=>by simp at he
 |(i,s)::ps,(j,v)::vs,cs,C,r,h,hk,he,hs,hC,h1=>by
  simp only [List.map_cons,List.cons.injEq]at he;obtain⟨rfl,he⟩:=he;simp only [List.map_cons]at hs;obtain⟨Bj,AQ⟩:=hs.bf;unfold QO at h;split at h
  ·rename_i off sz t Lu A1;split at h
   ·rename_i us ck Bb;split at h
    ·rename_i hh;obtain⟨Bz,hle⟩:=hh;obtain⟨r',CT,rfl⟩:=Am.1 h;obtain⟨q1,q2⟩:=Tf Bj Bb (fun q hq=>hk q (by simp [hq]));have I6:=q1.len;have Rl:=hC.len;have JY:(v.cells.zipIdx.foldl (fun cs (p:Value × Nat)=>cs.setIfInBounds (off+p.2) p.1) C).toList=setVs C.toList off v.cells.toList:=by
      have:=eX v.cells.toList 0 off C (by simp at I6 Rl ⊢;omega);rw [←Array.foldl_toList,Array.toList_zipIdx];simpa using this
     obtain⟨C',g1,g2,g3⟩:=gJ ps vs (N5 cs off us) (v.cells.zipIdx.foldl (fun cs (p:Value × Nat)=>cs.setIfInBounds (off+p.2) p.1) C) r' CT (fun q hq=>hk q (by simp [hq])) he AQ (by rw [JY];exact hC.setVs q1) (by
      rw [JY];intro u hu;unfold setVs at hu;simp only [Af]at hu;rcases hu with(hu|hu)|hu
      ·exact h1 u (List.mem_of_mem_take hu)
      ·exact q2 u hu
      ·exact h1 u (List.mem_of_mem_drop hu))
     refine⟨C', ?_,g2,g3⟩;unfold Instr.fill;have VD:places.toArray[i]?=some (off,sz):=by simpa using Lu
     simp only [VD];rw [if_neg (by simp at I6 Rl ⊢;omega)];exact g1
    ·cases h
   ·cases h
  ·cases h
theorem Te {sl0:Nat→SV} {gs:Gd} (L:List Operand) (h: ∀x s,Bm sl0 gs x=some s→x∈L→SR c [s] [a.eval x]): ∀{xs:List (Nat × Operand)} {ss:List (Nat × SV)},(∀x∈xs,x.2∈L)→xs.mapM (fun(p:Nat × Operand)=>(Bm sl0 gs p.2).map fun s=>(p.1,s))=some ss→
  ss.map (·.1)=xs.map (·.1)∧SR c (ss.map (·.2)) (xs.map fun p=>a.eval p.2)
 | [],ss,_,hm=>by simp at hm;subst hm;exact⟨rfl, .nil⟩
 |x::xs,ss,hL,hm=>by rw [List.mapM_cons]at hm;simp only [Option.bind_eq_bind,An,Am]at hm;obtain⟨_,⟨s,hs,rfl⟩,ss',Fg,hm⟩:=hm;simp at hm;subst hm;obtain⟨e1,e2⟩:=Te L h (fun y hy=>hL y (by simp [hy])) Fg;exact⟨by simp [e1],(h _ s hs (hL x (by simp))).app e2⟩
theorem vA (h:A3 P c n nx sl hp a sl0 hp0 o gs) {t:TypeId} {parts:Array (Nat × Operand)} (ho:o.op= .build t parts) (he:Bf P sg sl0 hp0 nv nx gs o=some e) (hc: ∀q∈e.bu,Cn.den c.ρ q):At P o c n nx sl hp gs a e:=by
 simp only [Bf,ho,An]at he;obtain⟨ps,Ke,he⟩:=he;obtain⟨e1,e2⟩:=Te (c:=c) (a:=a) (parts.toList.map (·.2)) (fun x s hx hm=>h.bz hx (by simpa [ho,Op.operands]using hm)) (fun x hx=>List.mem_map.2 ⟨x,hx,rfl⟩) Ke;unfold fZ at he;split at he
 ·rename_i it fs hit hu;split at he
  ·rename_i zs places hz Lu;obtain⟨r,hr,rfl⟩:=Am.1 he;obtain⟨z,RF,RG⟩:=An.1 hz;have ZJ:=S6 (c:=c) RG;obtain⟨cells,g1,g2,g3⟩:=gJ (c:=c) (P:=P) ps (parts.toList.map fun p=>(p.1,a.eval p.2)) zs.toList z.cells r hr hc (by rw [e1];simp) (by rw [List.map_map];exact e2)
    (by cases ZJ with|agg h1 h2 _=>simpa [Value.cells]using h2) (by cases ZJ with|agg h1 h2 _=>simpa [Value.cells]using h1)
   have hb:P.built t (parts.map fun(x:Nat × Operand)=>(x.1,a.eval x.2)).toList=some cells:=by simp only [Program.built,hit,hu,RF,Lu];simpa using g1
   have:=SR.agg (c:=c) (cs:=Ba.of r.1) (as_:=cells.toList) g3 (by rw [Ba.aj];exact g2) .nil;refine At.pure h (v:= .agg cells) ?_ (by simpa using this) rfl;have AI:=run_build c.w t _ cells hb;simp only [execOp,ho,Sem.run_bind];rw [AI];rfl
  ·cases he
 ·cases he
end
section
variable {P:Program} {c:Cx} {n nx:Nat} {sl sl0:Nat→SV} {hp hp0:Nat→Option Ah} {a:Act} {o:Oper} {gs:Gd} {e:AP} {sg:Bq} {nv:Nat}
def Cx.ax (c:Cx) (ts:List Nat):Cx:={c with G:=fun u=>if u∈ts then⟨[], []⟩else c.G u,E:=fun u=>if u∈ts then c.E u+1 else c.E u}
theorem Cx.iy {c:Cx} {ts:List Nat} {b:Nat} (h:(c.ax ts).M b): ∃u,u∉ts∧b∈(c.G u).top:=by
 obtain⟨u,hu⟩:=h;simp only [Cx.ax]at hu;split at hu
 ·simp at hu
 ·exact⟨u,by assumption,hu⟩
theorem Cx.ed {c:Cx} {ts:List Nat} {b:Nat} (h:c.ok b):(c.ax ts).ok b:=⟨fun hm=>by obtain⟨u,_,hu⟩:=Cx.iy hm;exact h.1 ⟨u,hu⟩,h.2⟩
theorem Cx.jn (c:Cx) (ts:List Nat):CN c (c.ax ts):=⟨rfl,rfl,fun _ _ h=>Cx.ed h,fun _ _ _=>rfl,fun _ _ h=>⟨h,rfl⟩,fun t g _=>by
 by_cases ht:t∈ts
 ·have e1:(c.ax ts).E t=c.E t+1:=by simp only [Cx.ax,if_pos ht]
  exact⟨by omega,fun h=>by omega⟩
 ·have e1:(c.ax ts).E t=c.E t:=by simp only [Cx.ax,if_neg ht]
  have e2:(c.ax ts).G t=c.G t:=by simp only [Cx.ax,if_neg ht]
  rw [e1];exact⟨Nat.le_refl _,fun _=>⟨e2,fun _ _ _=>rfl⟩⟩⟩
theorem gT {c:Cx} (gw:GW c) {ts us:List Nat} (hs: ∀t∈us,t∈ts) {b:Nat} (h:c.dr us b):(c.ax ts).ok b:=by
 rcases h with h|⟨t,ht,hb⟩
 ·exact Cx.ed h
 ·have A6:b∈(c.G t).own:=by simp [GI.own,hb]
  refine⟨fun hm=> ?_, .inr (gw.allow t b A6)⟩;obtain⟨u,hu,GG⟩:=Cx.iy hm;have:t≠u:=fun hh=>hu (hh▸hs t ht);exact gw.bp t u this b A6 (by simp [GI.own,GG])
def Jt (e:Ah) (g:Nat) (x:E):Prop:=(∃ety sz d,e= .row ety sz g x d)∨ ∃ety sz l ep,e= .deep ety sz l g ep x
theorem Jt.ne {e:Ah} {g:Nat} {x:E} (h:Jt e g x): ∀hs f,e≠ .gd hs f:=by rcases h with⟨_,_,_,rfl⟩|⟨_,_,_,_,rfl⟩<;>intros<;>simp
theorem Jt.rd {e:Ah} {g t:Nat} {x:E} (h:Jt e g x) (k:Cv c t e):c.K t g∧ ∃f,Rd c.w [c.H t g] [x.den c.ρ] f∧ ∀b∈f,b∈(c.G t).top∨c.ok b:=by
 rcases h with⟨_,_,_,rfl⟩|⟨_,_,_,_,rfl⟩
 ·obtain⟨q1,q2,N,q3,q4,_⟩:=k;obtain⟨f,r1,r2,_⟩:=q3.rd;exact⟨q1,f,r1,fun b hb=>(r2 b hb).imp id (q4 b)⟩
 ·obtain⟨q1,q2,_,q3,_⟩:=k;obtain⟨f,r1,r2⟩:=q3.rd;exact⟨q1,f,r1,fun b hb=> .inl (r2 b hb)⟩
theorem Jt.fun {e:Ah} {g g':Nat} {x x':E} (h:Jt e g x) (k:Jt e g' x'):g=g'∧x=x':=by rcases h with⟨_,_,_,rfl⟩|⟨_,_,_,_,rfl⟩<;>rcases k with⟨_,_,_,hh⟩|⟨_,_,_,_,hh⟩<;>cases hh<;>exact⟨rfl,rfl⟩
theorem LX {gs:Gd} {ρ:List AV} (k:AY ρ gs): ∀{ts:List Nat} {l:List (Nat × Ah)},CL hp0 gs ts=some l→
  (∀t e,(t,e)∈l→t∈ts∧gs= []∧ ∃g x f,e= .ax g x∧BW ρ (hp0 t) f∧Jt f g x)∧
  (∀t∈ts,(∃g x,(t,Ah.ax g x)∈l)∨(∃g x,BW ρ (hp0 t) (.ax g x))∨ ∃ty g cs,BW ρ (hp0 t) (.box ty g cs))
 | [],l,h=>by simp [CL]at h;subst h;simp
 |t::ts,l,h=>by
  unfold CL at h;split at h
  ·rename_i ety sz g x d l' hl Bl;split at h
   ·rename_i hg;simp at h;subst h;obtain⟨h1,h2⟩:=LX k Bl;refine⟨fun u e hu=> ?_,fun u hu=> ?_⟩
    ·rcases Ae.1 hu with hu|hu
     ·cases hu;exact⟨by simp,by simpa using hg,g,x,_,rfl,Cm hl k, .inl ⟨_,_,_,rfl⟩⟩
     ·obtain⟨p,q,r⟩:=h1 u e hu;exact⟨by simp [p],q,r⟩
    ·rcases Ae.1 hu with rfl|hu
     ·exact .inl ⟨g,x,by simp⟩
     ·rcases h2 u hu with⟨g',x',hh⟩|hh
      ·exact .inl ⟨g',x',by simp [hh]⟩
      ·exact .inr hh
   ·cases h
  ·rename_i ety sz dl g ep x l' hl Bl;split at h
   ·rename_i hg;simp at h;subst h;obtain⟨h1,h2⟩:=LX k Bl;refine⟨fun u e hu=> ?_,fun u hu=> ?_⟩
    ·rcases Ae.1 hu with hu|hu
     ·cases hu;exact⟨by simp,by simpa using hg,g,x,_,rfl,Cm hl k, .inr ⟨_,_,_,_,rfl⟩⟩
     ·obtain⟨p,q,r⟩:=h1 u e hu;exact⟨by simp [p],q,r⟩
    ·rcases Ae.1 hu with rfl|hu
     ·exact .inl ⟨g,x,by simp⟩
     ·rcases h2 u hu with⟨g',x',hh⟩|hh
      ·exact .inl ⟨g',x',by simp [hh]⟩
      ·exact .inr hh
   ·cases h
  ·rename_i g x l' hl Bl;simp at h;subst h;obtain⟨h1,h2⟩:=LX k Bl;refine⟨fun u e hu=> ?_,fun u hu=> ?_⟩
   ·obtain⟨p,q,r⟩:=h1 u e hu;exact⟨by simp [p],q,r⟩
   ·rcases Ae.1 hu with rfl|hu
    ·exact .inr (.inl ⟨g,x,Cm hl k⟩)
    ·exact h2 u hu
  ·rename_i ty g cs l' hl Bl;simp at h;subst h;obtain⟨h1,h2⟩:=LX k Bl;refine⟨fun u e hu=> ?_,fun u hu=> ?_⟩
   ·obtain⟨p,q,r⟩:=h1 u e hu;exact⟨by simp [p],q,r⟩
   ·rcases Ae.1 hu with rfl|hu
    ·exact .inr (.inr ⟨ty,g,cs,Cm hl k⟩)
    ·exact h2 u hu
  ·cases h
theorem Jp {hp:Nat→Option Ah}: ∀{l:List (Nat × Ah)} {t:Nat},(∀e,(t,e)∉l)→AU hp l t=hp t
 | [],_,_=>rfl
 |(u,e)::l,t,h=>by
  have ht:t≠u:=by rintro rfl;exact h e (by simp)
  have:=Jp (hp:=fun v=>if v=u then some e else hp v) (l:=l) (t:=t) (fun e' D0=>h e' (by simp [D0]));simp only [AU,List.foldl_cons]at this ⊢;rw [this,if_neg ht]
theorem XX {hp:Nat→Option Ah}: ∀{l:List (Nat × Ah)} {t:Nat} {e:Ah},(t,e)∈l→(∀e',(t,e')∈l→e'=e)→AU hp l t=some e
 | [],_,_,h,_=>by simp at h
 |(u,f)::l,t,e,h,hu=>by
  simp only [AU,List.foldl_cons];by_cases hm: ∃e',(t,e')∈l
  ·obtain⟨e',D0⟩:=hm;have:=hu e' (by simp [D0]);subst this;exact XX (hp:=fun v=>if v=u then some f else hp v) D0 (fun e'' kY=>hu e'' (by simp [kY]))
  ·have hn: ∀e',(t,e')∉l:=fun e' D0=>hm ⟨e',D0⟩;have:=Jp (hp:=fun v=>if v=u then some f else hp v) (l:=l) (t:=t) hn;simp only [AU]at this;rw [this];rcases Ae.1 h with h|h
   ·cases h;simp
   ·exact absurd h (hn e)
theorem Jw (hs: ∀t e,hp0 t=some e→hp t=some e) {ρ:List AV} {t:Nat} {e:Ah} (h:BW ρ (hp0 t) e):BW ρ (hp t) e:=by
 cases hh:hp0 t with
 |none=>rw [hh]at h;exact h.elim
 |some e9=>rw [hs t e9 hh];rwa [hh]at h
theorem zN {ρ:List AV} {o:Option Ah} {e f:Ah} (h:BW ρ o e) (k:BW ρ o f):e=f:=by
 cases o with
 |none=>exact h.elim
 |some o=>
  cases o with
  |gd gs x=>exact h.2.symm.trans k.2
  |box=>exact h.symm.trans k
  |row=>exact h.symm.trans k
  |ax=>exact h.symm.trans k
  |dead=>exact h.symm.trans k
  |deep=>exact h.symm.trans k
  |hol=>exact h.symm.trans k
theorem Rel.freeze (h:Rel c n sl hp a) (hs: ∀t e,hp0 t=some e→hp t=some e) (k:AY c.ρ gs) {ts:List Nat} {l:List (Nat × Ah)} (hf:CL hp0 gs ts=some l):
  Rel (c.ax (l.map (·.1))) n sl (AU hp l) a:=by
 obtain⟨h1,h2⟩:=LX k hf;have hG: ∀u,(c.ax (l.map (·.1))).G u=if u∈l.map (·.1)then⟨[], []⟩else c.G u:=fun u=>rfl;have HU: ∀t e e',(t,e)∈l→(t,e')∈l→e'=e:=by intro t e e' he D0;obtain⟨_,_,g,x,_,rfl,r,rl⟩:=h1 t e he;obtain⟨_,_,g',x',_,rfl,r',rl'⟩:=h1 t e' D0;have:=zN r r';subst this;obtain⟨rfl,rfl⟩:=rl.fun rl';rfl
 refine h.change (fun u=>u∈l.map (·.1)) (Cx.jn c _) ⟨h.base.os,h.base.tape,h.base.output,h.base.size,h.base.pins,h.base.block,h.base.pk,h.base.lo⟩ (fun u hu=>⟨Jp (fun e he=>hu (List.mem_map.2 ⟨_,he,rfl⟩)),by rw [hG,if_neg hu],by simp only [Cx.ax,if_neg hu],fun g hg=>hg⟩) (fun u hu b hb=>rfl) (fun u hu=> ?_) ?_ h.a6 (fun u e hu=> ?_)
 ·obtain⟨⟨u',e⟩,he,rfl⟩:=List.mem_map.1 hu;have CU:=XX (hp:=hp) he (fun e' D0=>HU _ _ _ he D0);obtain⟨_,_,g,x,f0,rfl,r,rl⟩:=h1 u' e he;obtain⟨q1,f,r1,r2⟩:=rl.rd (h.ents u' _ (Jw hs r));have I1:((c.ax (l.map (·.1))).G u').top= []∧((c.ax (l.map (·.1))).G u').O= []:=by rw [hG,if_pos hu];simp
  rw [CU];refine⟨fun e' hr=> ?_,fun _=>I1⟩;have:e'= .ax g x:=hr.symm;subst this;exact⟨q1,⟨f,r1,fun b hb=>by
   refine gT h.gw (ts:=l.map (·.1)) (us:= [u']) (by simpa using hu) ?_;rcases r2 b hb with hb|hb
   ·exact .inr ⟨u',by simp,hb⟩
   ·exact .inl hb⟩,I1.1,I1.2⟩
 ·refine⟨fun u=> ?_,fun u v VV b hb=> ?_,fun u b hb=> ?_,fun u b hb=> ?_⟩
  ·rw [hG];split
   ·simp [GI.own]
   ·exact h.gw.nodup u
  ·rw [hG]at hb ⊢;split at hb
   ·simp [GI.own]at hb
   ·split
    ·simp [GI.own]
    ·exact h.gw.bp u v VV b hb
  ·rw [hG]at hb;split at hb
   ·simp [GI.own]at hb
   ·exact h.gw.allow u b hb
  ·rw [hG]at hb;split at hb
   ·simp [GI.own]at hb
   ·exact h.gw.inb u b hb
 ·by_cases hm: ∃e',(u,e')∈l
  ·obtain⟨e',D0⟩:=hm;obtain⟨_,_,g,x,f0,rfl,r,rl⟩:=h1 u e' D0;have r':=Jw hs r;cases hh:hp u with
   |none=>rw [hh]at r';exact r'.elim
   |some e9=>exact h.br u e9 hh
  ·rw [Jp (fun e' D0=>hm ⟨e',D0⟩)]at hu;exact h.br u e hu
theorem uU {ts:List Nat} (h:KJ hp0 gs ts=true) {t:Nat} (ht:t∈ts) {ty:Nat} {g:Bool} {cs:List SV}:Cz hp0 gs t≠some (.box ty g cs):=by intro hl;simp only [KJ,Bool.not_eq_true',List.any_eq_false]at h;have:=h t ht;rw [hl]at this;simp at this
theorem tM {ρ:List AV} (k:AY ρ gs) {ts:List Nat} {l:List (Nat × Ah)} (hf:CL hp0 gs ts=some l) {t:Nat} (ht:t∈ts):(∃g x,(t,Ah.ax g x)∈l)∨(∃g x,Cz hp0 gs t=some (.ax g x))∨ ∃ty g cs,Cz hp0 gs t=some (.box ty g cs):=by
 induction ts generalizing l with
 |nil=>simp at ht
 |cons u ts ih=>
  unfold CL at hf;split at hf
  ·rename_i ety sz g x d l' hl Bl;split at hf
   ·simp at hf;subst hf;rcases Ae.1 ht with rfl|ht
    ·exact .inl ⟨g,x,by simp⟩
    ·rcases ih Bl ht with⟨g',x',hh⟩|hh
     ·exact .inl ⟨g',x',by simp [hh]⟩
     ·exact .inr hh
   ·cases hf
  ·rename_i ety sz dl g ep x l' hl Bl;split at hf
   ·simp at hf;subst hf;rcases Ae.1 ht with rfl|ht
    ·exact .inl ⟨g,x,by simp⟩
    ·rcases ih Bl ht with⟨g',x',hh⟩|hh
     ·exact .inl ⟨g',x',by simp [hh]⟩
     ·exact .inr hh
   ·cases hf
  ·rename_i g x l' hl Bl;simp at hf;subst hf;rcases Ae.1 ht with rfl|ht
   ·exact .inr (.inl ⟨g,x,hl⟩)
   ·exact ih Bl ht
  ·rename_i ty g cs l' hl Bl;simp at hf;subst hf;rcases Ae.1 ht with rfl|ht
   ·exact .inr (.inr ⟨ty,g,cs,hl⟩)
   ·exact ih Bl ht
  ·cases hf
theorem P5 (h:Rel c n sl hp a) (eh:EH c hp0) (k:AY c.ρ gs) {ts:List Nat} {l:List (Nat × Ah)} (hf:CL hp0 gs ts=some l) (hb:KJ hp0 gs ts=true) {b:Nat} (hs:c.dr ts b):(c.ax (l.map (·.1))).ok b:=by
 rcases hs with hs|⟨t,ht,B2⟩
 ·exact Cx.ed hs
 ·rcases tM k hf ht with⟨g,x,hh⟩|⟨g,x,hh⟩|⟨ty,g,cs,hh⟩
  ·exact gT h.gw (us:= [t]) (by simpa using⟨_,hh⟩) (.inr ⟨t,by simp,B2⟩)
  ·obtain⟨_,_,BJ,_⟩:=eh t _ (Cm hh k);rw [BJ]at B2;simp at B2
  ·exact absurd hh (uU hb ht)
theorem bZ (h:Rel c n sl hp a) (hs: ∀t e,hp0 t=some e→hp t=some e) (k:AY c.ρ gs) {t:TypeId} {s:SV} {v:Value} (hr:SR c [s] [v]) {x:E} {fz:List (Nat × Ah)} {d:Bool} {ck:List Cn} (ht:T1 P hp0 gs t s=some (x,fz,d,ck)) (hc: ∀q∈ck,q.den c.ρ):
  ∃f,Rd c.w [v] [x.den c.ρ] f∧(d=true→f= [])∧(∃ts,CL hp0 gs ts=some fz∧ ∀b∈f,(c.ax (fz.map (·.1))).ok b)∧
   (if Aj P t then∃cs,x.den c.ρ= .agg cs∧cs.length=P.cellsOf t else(∀cs,x.den c.ρ≠ .agg cs)∧ ∀cs,x.den c.ρ≠ .tup cs):=by
 have eh:EH c hp0:=fun t e hr=>h.ents t e (Jw hs hr);unfold T1 at ht;split at ht
 ·cases ht
 ·rename_i y hy;obtain⟨f,q1,q2⟩:=Gy eh k AJ hy hr AJ (Nat.le_refl _);split at ht
  ·simp at ht;obtain⟨rfl,rfl,rfl,rfl⟩:=ht;obtain⟨c1,c2,c3,c4⟩:=Bx hc;have hf:f= []:=by
    cases hg:Aj P t with
    |true=>obtain⟨cs,Bb⟩:=c3 hg;obtain⟨as_,rfl,_,r⟩:=Ia q1 Bb;exact Gz r (by rw [Bb]at c2;exact c2)
    |false=>exact Gz q1 (by simpa using c4 hg)
   subst hf;refine⟨[],q1,fun _=>rfl,⟨[],rfl,by simp⟩, ?_⟩;split
   ·rename_i hg;obtain⟨cs,Bb⟩:=c3 hg;exact⟨cs,Bb,by rw [Bb]at c1;exact c1⟩
   ·rename_i hg;have:=c4 (by simpa using hg);exact⟨fun cs Bb=>by rw [Bb]at this;simp [AV.scalar]at this,fun cs Bb=>by rw [Bb]at this;simp [AV.scalar]at this⟩
  ·split at ht
   ·rename_i HI;split at ht
    ·cases ht
    ·rename_i l hl;simp only [Ad,Prod.mk.injEq]at ht;obtain⟨rfl,rfl,rfl,rfl⟩:=ht;refine⟨f,q1,by simp,⟨_,hl,fun b hb=>P5 h eh k hl HI (q2 b hb)⟩, ?_⟩;have hq:=Bx hc;unfold kN at hq;split
     ·rename_i hg;rw [if_pos hg]at hq;obtain⟨cs,Bb,hl⟩:=hq;exact⟨cs,Bb,hl⟩
     ·rename_i hg;rw [if_neg hg]at hq;exact hq
   ·cases ht
end
section
variable {P:Program} {c:Cx} {n nx:Nat} {sl sl0:Nat→SV} {hp hp0:Nat→Option Ah} {a:Act} {o:Oper} {gs:Gd} {e:AP} {sg:Bq} {nv:Nat}
theorem Yo (w:World) (t ty el:TypeId) (i:TypeInfo) (z:Value) (ht:P.underlying t=some (.slice el)) (hi:P.info? el=some i) (hz:i.zero=some z) (CV:z.cells.size=i.size) (Bz:0<i.size)
  (Own:Nat→Prop) (v:Value) (k:Nat) (old:List Value) (ho:old.length=k*i.size)
  (Bi:(k=0∧ ∃q,v= .slice q 0 0)∨ ∃g cap C,v= .slice (some ⟨g,0,none⟩) k cap∧k≤cap∧cap≤maxLen∧w.heap[g]?=some (.cells C el (0,0))∧C.size=cap*i.size∧old=C.toList.take (k*i.size)∧Own g)
  (q:Option Addr) (m r:Nat) (news:List Value) (hs:Src w i.size q m news) (Q7:k+m≤maxLen) (hb:(k+m)*i.bytes≤140737488355328):
  ∃v' w',(Builtin.append_ #[t,t] ty #[v, .slice q m r]).run P w= .ok v' w'∧
   ((v'=v∧w'=w∧m=0)∨ ∃g cap C,v'= .slice (some ⟨g,0,none⟩) (k+m) cap∧k+m≤cap∧cap≤maxLen∧w'.heap[g]?=some (.cells C el (0,0))∧C.size=cap*i.size∧C.toList.take ((k+m)*i.size)=old++news∧
    w.grownBy w' (some g)∧((g=w.heap.size∧g<w'.heap.size)∨Own g)):=by
 have Rn:news.length=m*i.size:=by
  rcases hs with⟨rfl,rfl,rfl⟩|⟨ad,rfl,h1,_⟩
  ·simp
  ·exact h1
 have hlen:(old++news).length=(k+m)*i.size:=by rw [AB,ho,Rn,Nat.add_mul]
 have grown: ∀(cp:Nat),cp<k+m→ ∀(X:Array Value),X.toList=old++news→ ∃C,C=X++Builtin.zeroCells z.cells (grownCap w (k+m) cp el-(k+m))∧
   k+m≤grownCap w (k+m) cp el∧grownCap w (k+m) cp el≤maxLen∧C.size=grownCap w (k+m) cp el*i.size∧C.toList.take ((k+m)*i.size)=old++news:=by
  intro cp hcp X hX;have J0:=grownCap_ge w (k+m) cp el;have IY:=grownCap_le_maxLen w (k+m) cp el Q7;refine⟨_,rfl,J0,IY, ?_, ?_⟩
  ·have lO:X.size=(k+m)*i.size:=by rw [←Array.length_toList,hX,hlen]
   rw [Array.size_append,lO,size_zeroCells,CV,←Nat.add_mul];congr 1;omega
  ·rw [Array.toList_append,hX,←hlen];exact List.take_left
 have newb: ∀C:Array Value,w.grownBy (w.drew.alloc (.cells C el)) (some w.heap.size)∧w.heap.size<(w.drew.alloc (.cells C el)).heap.size∧(w.drew.alloc (.cells C el)).heap[w.heap.size]?=some (.cells C el (0,0)):=
  fun C=>⟨⟨rfl,rfl,rfl,by simp,fun j hj _=>Below.heap_alloc w.drew _ _ hj⟩,by simp,heap_alloc_new w.drew _⟩
 rcases Bi with⟨rfl,p,rfl⟩|⟨g,cap,C,rfl,O9,IY,hg,Bb,hold,Ux⟩
 ·have hold:old= []:=List.eq_nil_of_length_eq_zero (by simpa using ho);subst hold;by_cases hm:m=0
  ·subst hm;have hn:news= []:=List.eq_nil_of_length_eq_zero (by simpa using Rn);subst hn;refine⟨_,w, ?_, .inl ⟨rfl,rfl,rfl⟩⟩;rcases hs with⟨rfl,_,_⟩|⟨ad,rfl,_⟩<;>cases p<;>
    simp [Builtin.append_,run_underlying ht,sizeOf,typeInfo,hi,Builtin.lenOf,Builtin.firstCells,loadCells,loadCellsFrom,storeCells]
  ·rcases hs with⟨_,rfl,_⟩|⟨ad,rfl,h1,h2,h3⟩
   ·exact absurd rfl hm
   ·obtain⟨C',MB,g1,g2,g3,g4⟩:=grown 0 (by omega) news.toArray (by simp);cases p with
    |none=>have hr:=run_append_nil (P:=P) w t ty el i z ht hi hz ad m r news h1 h2 (by omega) (by simp only [maxLen]at Q7;omega) (by have hb:=hb;simp only [Nat.zero_add]at hb;omega);simp only [Nat.zero_add]at g1 g2 g3 g4 MB ⊢;obtain⟨n1,n2,n3⟩:=newb C';refine⟨_,_,hr, .inr ⟨_,_,C',rfl,g1,g2, ?_,g3,g4, ?_, .inl ⟨rfl, ?_⟩⟩⟩<;>rw [←MB]<;>first|exact n3|exact n1|exact n2
    |some p=>have hr:=run_append_grow (P:=P) w t ty el i z ht hi hz p 0 0 [] (by simp) (by simp) ad m r news h1 h2 (by omega) (by simp only [maxLen]at Q7;omega) (growslice_fits (by omega) hb);rw [show(([]:List Value).toArray++news.toArray)=news.toArray by simp]at hr;simp only [Nat.zero_add]at g1 g2 g3 g4 MB hr ⊢;obtain⟨n1,n2,n3⟩:=newb C';refine⟨_,_,hr, .inr ⟨_,_,C',rfl,g1,g2, ?_,g3,g4, ?_, .inl ⟨rfl, ?_⟩⟩⟩<;>rw [←MB]<;>first|exact n3|exact n1|exact n2
 ·rcases hs with⟨rfl,rfl,rfl⟩|⟨ad,rfl,h1,h2,h3⟩
  ·refine⟨_,w, ?_, .inl ⟨rfl,rfl,rfl⟩⟩;simp [Builtin.append_,run_underlying ht,sizeOf,typeInfo,hi,Builtin.lenOf,Builtin.firstCells,O9,storeCells]
  ·by_cases BY:k+m≤cap
   ·have K9:k*i.size+news.length≤C.size:=by rw [h1,Bb,←Nat.add_mul];exact Nat.mul_le_mul_right _ BY
    have hr:=run_append_room (P:=P) w t ty el i ht hi g k cap C hg ad m r news h1 h2 h3 BY K9;refine⟨_,_,hr, .inr ⟨g,cap,_,rfl,BY,IY,setRow_heap w g C _ el _ hg, ?_, ?_,⟨rfl,rfl,rfl,by simp,fun j _ hj=>setRow_other w g j _ (fun hh=>hj (by rw [hh]))⟩, .inr Ux⟩⟩
    ·simp only [List.size_toArray,AB,List.length_take,List.length_drop,Array.length_toList];omega
    ·rw [←hold,←hlen];exact List.take_left
   ·have holds: ∀j u,old[j]?=some u→w.cell? ((⟨g,0,none⟩:Addr).add j)=some u:=fun j u hu=>by
     rw [Addr.add_lit,Nat.zero_add,D5 hg];rw [hold,List.getElem?_take]at hu;split at hu
     ·simpa using hu
     ·cases hu
    have hr:=run_append_grow (P:=P) w t ty el i z ht hi hz ⟨g,0,none⟩ k cap old ho holds ad m r news h1 h2 (by omega) (by simp only [maxLen]at Q7;omega) (growslice_fits (by omega) hb);obtain⟨C',MB,g1,g2,g3,g4⟩:=grown cap (by omega) (old.toArray++news.toArray) (by simp);obtain⟨n1,n2,n3⟩:=newb C';refine⟨_,_,hr, .inr ⟨_,_,C',rfl,g1,g2, ?_,g3,g4, ?_, .inl ⟨rfl, ?_⟩⟩⟩<;>rw [←MB]<;>first|exact n3|exact n1|exact n2
def Cx.al (c:Cx) (t g':Nat) (w':World) (v:Value) (top O:List Nat):Cx:=
 {c with w:=w',G:=fun u=>if u=t then⟨top,O⟩else c.G u,K:=fun u g=>c.K u g∨(u=t∧g=g'),H:=fun u g=>if u=t∧g=g' then v else c.H u g,U:=fun u=>c.U u∨u=t,E:=fun u=>if u=t then c.E u+1 else c.E u}
theorem Rel.al (h:Rel c n sl hp a) {t g:Nat} (DN:c.A.pin t=none∨g≠0) (AM: ¬c.K t g) {w':World} {row:Option Nat} (hg:c.w.grownBy w' row)
  (Eb: ∀g0,row=some g0→g0∈(c.G t).top∨(g0=c.w.heap.size∧g0<w'.heap.size)) {top O:List Nat} (BJ:top= []∨ ∃g0,row=some g0∧top= [g0]) (hO:O= []∨O=(c.G t).O) {v:Value} (e1:Ah) (A4: ∀hs f,e1≠ .gd hs f) (k:AY c.ρ gs)
  (he:CN c (c.al t g w' v top O)→Cv (c.al t g w' v top O) t e1):Rel (c.al t g w' v top O) n sl (AU hp [(t,Cf gs e1)]) a:=by
 have hG: ∀u,(c.al t g w' v top O).G u=if u=t then⟨top,O⟩else c.G u:=fun u=>rfl;have hM: ∀b,(c.al t g w' v top O).M b→c.M b∨row=some b:=by
  rintro b ⟨u,hu⟩;rw [hG]at hu;split at hu
  ·rcases BJ with rfl|⟨g0,hr,rfl⟩
   ·simp at hu
   ·simp at hu;subst hu;exact .inr hr
  ·exact .inl ⟨u,hu⟩
 have OS: ∀b,b<c.w.heap.size→c.ok b→row≠some b:=by
  intro b hb Aw hr;rcases Eb b hr with hh|⟨hh,_⟩
  ·exact Aw.1 ⟨t,hh⟩
  ·omega
 have Bt:CN c (c.al t g w' v top O):=by
  refine⟨rfl,rfl,fun b hb Aw=>⟨fun hm=>(hM b hm).elim Aw.1 (OS b hb Aw),Aw.2⟩,fun b hb Aw=>hg.block b hb (fun hh=>OS b hb Aw hh.symm),fun u g1 hu=>⟨.inl hu, ?_⟩,fun u g1 hu=> ?_⟩
  ·simp only [Cx.al];rw [if_neg];rintro⟨rfl,rfl⟩;exact AM hu
  ·by_cases Fv:u=t
   ·have e1:(c.al t g w' v top O).E u=c.E u+1:=by simp only [Cx.al,if_pos Fv]
    exact⟨by omega,fun h=>by omega⟩
   ·have e1:(c.al t g w' v top O).E u=c.E u:=by simp only [Cx.al,if_neg Fv]
    have e2:(c.al t g w' v top O).G u=c.G u:=by simp only [Cx.al,if_neg Fv]
    rw [e1];refine⟨Nat.le_refl _,fun _=>⟨e2,fun b hb Ip=>hg.block b Ip fun hh=> ?_⟩⟩;rcases Eb b hh.symm with h1|⟨h1,_⟩
    ·exact h.gw.bp u t Fv b (by simp [GI.own,hb]) (by simp [GI.own,h1])
    ·omega
 have CU: ∀u,AU hp [(t,Cf gs e1)] u=if u=t then some (Cf gs e1)else hp u:=fun u=>rfl;have Lp: ∀u,u≠t→ ∀b∈(c.G u).own,row≠some b:=by
  intro u hu b hb hr;rcases Eb b hr with hh|⟨hh,_⟩
  ·exact h.gw.bp u t hu b hb (by simp [GI.own,hh])
  ·have:=h.gw.inb u b hb;omega
 have Bn: ∀b∈(⟨top,O⟩:GI).own,row=some b∨b∈(c.G t).own:=by
  intro b hb;simp only [GI.own,Af]at hb ⊢;rcases hb with hb|hb
  ·rcases BJ with rfl|⟨g0,hr,rfl⟩
   ·simp at hb
   ·simp at hb;subst hb;exact .inl hr
  ·rcases hO with rfl|rfl
   ·simp at hb
   ·exact .inr (.inr hb)
 refine h.change (fun u=>u=t) Bt ⟨hg.os.trans h.base.os,hg.tape.trans h.base.tape,hg.output.trans h.base.output,Nat.le_trans h.base.size hg.size,fun u v' hp=>⟨.inl (h.base.pins u v' hp).1,fun hk=> ?_⟩,fun b hb GL=> ?_,h.base.pk,h.base.lo⟩
  (fun u hu=>⟨by rw [CU,if_neg hu],by rw [hG,if_neg hu],by simp [Cx.al,hu],fun g1 hh=>hh.resolve_right (fun hh=>hu hh.1)⟩) (fun u hu b hb=>hg.block b (h.gw.inb u b (by simp [GI.own,hb])) (fun hh=>Lp u hu b (by simp [GI.own,hb]) hh.symm)) (fun u hu=> ?_) ?_ (fun u g1 hh=> ?_) (fun u f hf=> ?_)
 ·have Fv: ¬(u=t∧0=g):=by
   rintro⟨rfl,rfl⟩;rcases DN with hh|hh
   ·have hp':c.A.pin u=some v':=hp;rw [hh]at hp';cases hp'
   ·exact hh rfl
  have BO:=hk.resolve_right Fv;simp only [Cx.al];rw [if_neg Fv];exact(h.base.pins u v' hp).2 BO
 ·refine(hg.block b (Nat.lt_of_lt_of_le hb h.base.size) (fun hh=> ?_)).trans (h.base.block b hb GL);rcases Eb b hh.symm with hh|⟨hh,_⟩
  ·rcases h.gw.allow t b (by simp [GI.own,hh])with h1|h1
   ·exact absurd h1 (Nat.not_le.2 hb)
   ·exact GL h1
  ·have:=h.base.size;have h9:b<c.w0.heap.size:=hb;omega
 ·subst hu;rw [CU,if_pos rfl];exact⟨fun e' hr=>by rw [(Nx k A4).1 hr];exact he Bt,fun hn=>absurd ((Nx k A4).2 rfl) (hn e1)⟩
 ·have By:(⟨top,O⟩:GI).own.Nodup:=by
   have h0:=h.gw.nodup t;simp only [GI.own]at h0 ⊢;rw [List.nodup_append]at h0 ⊢;refine⟨by rcases BJ with rfl|⟨g0,hr,rfl⟩<;>simp,by rcases hO with rfl|rfl;simp;exact h0.2.1,fun p hp q hq=> ?_⟩;rcases BJ with rfl|⟨g0,hr,rfl⟩
   ·simp at hp
   ·simp at hp;subst hp;rcases hO with rfl|rfl
    ·simp at hq
    ·rcases Eb p hr with hh|⟨hh,_⟩
     ·exact h0.2.2 p hh q hq
     ·have:=h.gw.inb t q (by simp [GI.own,hq]);omega
  refine⟨fun u=> ?_,fun u u' Je b hb=> ?_,fun u b hb=> ?_,fun u b hb=> ?_⟩
  ·rw [hG];split
   ·exact By
   ·exact h.gw.nodup u
  ·rw [hG]at hb ⊢;by_cases h1:u=t
   ·rw [if_pos h1]at hb;rw [if_neg (fun hh=>Je (h1.trans hh.symm))];rcases Bn b hb with hr|hb
    ·exact fun hh=>Lp u' (fun h2=>Je (h1.trans h2.symm)) b hh hr
    ·exact h.gw.bp t u' (fun hh=>Je (h1.trans hh)) b hb
   ·rw [if_neg h1]at hb;by_cases h2:u'=t
    ·rw [if_pos h2];intro BC;rcases Bn b BC with hr|BC
     ·exact Lp u h1 b hb hr
     ·exact h.gw.bp u t h1 b hb BC
    ·rw [if_neg h2];exact h.gw.bp u u' Je b hb
  ·rw [hG]at hb;split at hb
   ·rcases Bn b hb with hr|hb
    ·rcases Eb b hr with hh|⟨hh,_⟩
     ·exact h.gw.allow t b (by simp [GI.own,hh])
     ·exact .inl (by rw [hh];exact h.base.size)
    ·exact h.gw.allow t b hb
   ·exact h.gw.allow u b hb
  ·rw [hG]at hb;show b<w'.heap.size;split at hb
   ·rcases Bn b hb with hr|hb
    ·rcases Eb b hr with hh|⟨_,hh⟩
     ·exact Nat.lt_of_lt_of_le (h.gw.inb t b (by simp [GI.own,hh])) hg.size
     ·exact hh
    ·exact Nat.lt_of_lt_of_le (h.gw.inb t b hb) hg.size
   ·exact Nat.lt_of_lt_of_le (h.gw.inb u b hb) hg.size
 ·rcases hh with hh|⟨rfl,_⟩
  ·exact .inl (h.a6 u g1 hh)
  ·exact .inr rfl
 ·rw [CU]at hf;split at hf
  ·rename_i hu;exact .inr hu
  ·exact .inl (h.br u f hf)
theorem jE {w:World} {v:Value} {ys:List AV} {f:List Nat} {sz:Nat} (h:Rd w [v] [.sl ys] f) (hs: ∀y∈ys,y.cells.length=sz):
  ∃q r news N,v= .slice q ys.length r∧Src w sz q ys.length news∧Rd w news (Az ys) N∧(∀b∈N,b∈f)∧news.length=ys.length*sz∧(∀u∈news,u.oneCell'=true):=by
 rcases h.kind with hh|hh|hh|hh|hh|hh|hh|hh|hh|hh
 ·obtain⟨_,_,_,hh,_⟩:=hh;cases hh
 ·obtain⟨_,_,hh,_⟩:=hh;cases hh
 ·obtain⟨_,_,hh,_⟩:=hh;cases hh
 ·obtain⟨p,r,rfl,hh,rfl⟩:=hh;cases hh;refine⟨p,r, [], [],rfl, ?_, .nil,by simp,by simp,by simp⟩;cases p with
  |none=>exact .inl ⟨rfl,rfl,rfl⟩
  |some p=>exact .inr ⟨p,rfl,by simp,by simp,by simp⟩
 ·obtain⟨b,off,m,r,ys',cs,C,t,fz,sz',f1,rfl,hh,rfl,hb,h1,h2,h3,h4,h5,h6,Gh,h7⟩:=hh;cases hh;subst h3;have Fg:sz'=sz:=by
   cases ys with
   |nil=>simp at h1
   |cons y ys=>rw [←h4 y (by simp),hs y (by simp)]
  subst Fg;have hl:=h7.len;rw [Kx ys h4]at hl;exact⟨_,r,cs,f1,rfl, .inr ⟨_,rfl,hl,fun j u hu=>by rw [Addr.add_lit,D5 hb];exact h6 j u hu,Gh⟩,h7,fun q hq=>by simp [hq],hl,Gh⟩
 ·obtain⟨_,_,_,hh,_⟩:=hh;cases hh
 ·obtain⟨_,_,_,hh,_⟩:=hh;cases hh
 ·obtain⟨_,_,_,_,_,_,_,hh,_⟩:=hh;cases hh
 ·obtain⟨_,_,_,_,hh,_⟩:=hh;cases hh
 ·obtain⟨_,hh,_⟩:=hh;cases hh
end
section
variable {P:Program} {c:Cx} {n nx:Nat} {sl sl0:Nat→SV} {hp hp0:Nat→Option Ah} {a:Act} {o:Oper} {gs:Gd} {e:AP} {sg:Bq} {nv:Nat}
theorem L6 (hp:Nat→Option Ah) (l m:List (Nat × Ah)):AU hp (l++m)=AU (AU hp l) m:=by simp [AU,List.foldl_append]
theorem tZ (h:Rel c n sl hp a) (hs: ∀t e,hp0 t=some e→hp t=some e) (k:AY c.ρ gs) {el:TypeId} {s:SV} {v:Value} (hr:SR c [s] [v]) {y:E} (hy:A2 hp0 gs AJ s=some y) {fz:List (Nat × Ah)} {d:Bool} {ck:Cn} (ht:Qu P hp0 gs el s y=some (fz,d,ck)) (hc:ck.den c.ρ):
  ∃ts ys q r news N,CL hp0 gs ts=some fz∧y.den c.ρ= .sl ys∧(∀z∈ys,z.cells.length=P.cellsOf el)∧v= .slice q ys.length r∧Src c.w (P.cellsOf el) q ys.length news∧Rd c.w news (Az ys) N∧(∀b∈N,(c.ax (fz.map (·.1))).ok b)∧(d=true→N= [])∧news.length=ys.length*P.cellsOf el∧ ∀u∈news,u.oneCell'=true:=by
 have eh:EH c hp0:=fun t e hr=>h.ents t e (Jw hs hr);obtain⟨f,q1,q2⟩:=Gy eh k AJ hy hr AJ (Nat.le_refl _);unfold Qu at ht;split at ht
 ·simp only [Ad,Prod.mk.injEq]at ht;obtain⟨rfl,rfl,rfl⟩:=ht;obtain⟨ys,CD,Ay⟩:=hc;rw [CD]at q1;obtain⟨q,r,news,N,hv,g1,g2,g3,g4,g5⟩:=jE q1 (fun z hz=>(Ay z hz).1);have hN:N= []:=Gz g2 (fun x hx=>by
   obtain⟨z,hz,hx⟩:=List.mem_flatMap.1 hx;exact(Ay z hz).2 x hx)
  exact⟨[],ys,q,r,news,N,rfl,CD,fun z hz=>(Ay z hz).1,hv,g1,g2,by simp [hN],fun _=>hN,g4,g5⟩
 ·split at ht
  ·rename_i HI;obtain⟨l,hl,ht⟩:=Am.1 ht;simp only [Prod.mk.injEq]at ht;obtain⟨rfl,rfl,rfl⟩:=ht;obtain⟨ys,CD,Ay⟩:=hc;rw [CD]at q1;obtain⟨q,r,news,N,hv,g1,g2,g3,g4,g5⟩:=jE q1 Ay;exact⟨_,ys,q,r,news,N,hl,CD,Ay,hv,g1,g2,fun b hb=>P5 h eh k hl HI (q2 b (g3 b hb)),by simp,g4,g5⟩
  ·cases ht
theorem Ji {el:TypeId} (h:G0 P el=true): ∃i z,P.info? el=some i∧i.zero=some z∧z.cells.size=i.size∧0<i.size∧P.cellsOf el=i.size∧P.bytesOf el=i.bytes:=by
 unfold G0 at h;cases hi:P.info? el with
 |none=>simp [hi]at h
 |some i=>
  cases hz:i.zero with
  |none=>simp [hi,hz]at h
  |some z=>simp only [hi,hz,Ac,beq_iff_eq,bne_iff_ne]at h;exact⟨i,z,rfl,hz,h.1,by omega,by simp [Program.cellsOf,hi],by simp [Program.bytesOf,hi]⟩
theorem WV (xs ys:List AV):Az (xs++ys)=Az xs++Az ys:=by simp [Az]
theorem WH (h:A3 P c n nx sl hp a sl0 hp0 o gs) {x y:Operand} {tx:TypeId} {cl:Call} (ho:o.op= .call cl) (Ay:cl.callee= .builtin .append) (CA:cl.args.toList= [x,y]) (DD:cl.argTypes.toList= [tx,tx])
  {el:TypeId} (Bc:P.underlying tx=some (.slice el)) (hz:G0 P el=true) {s2:SV} {ye:E} (AQ:Bm sl0 gs y=some s2) (hy:A2 hp0 gs AJ s2=some ye) {fz:List (Nat × Ah)} {d:Bool} {ck:Cn} (BP:Qu P hp0 gs el s2 ye=some (fz,d,ck)) (K3:ck.den c.ρ)
  {t g:Nat} (DN:c.A.pin t=none∨g≠0) {c0:E} {d':Bool} (BY:Cn.den c.ρ (.room c0 ye (P.bytesOf el))) (DM: ∀f,(t,f)∉fz) (AM: ¬c.K t g)
  {top N0:List Nat} {v:Value} (hv:a.eval x=v) (Bi:Ce c.w el (P.cellsOf el) v (c0.den c.ρ) top N0) (BJ:(c.G t).top=top) (K0: ∀b∈N0,c.ok b) (UQ:d'=true→Ol c.w N0∧(c.G t).O=N0) (I3: ∀g',c.K t g'→g'≤g) (hU: ∀u,u=t→c.U u∨(nx≤u∧u<nx+Bh)) {ckl:List Cn}:
  At P o c n nx sl hp gs a {bu:=ckl,val:= .own t g,ar:=fz++ [(t,Cf gs (.row el (P.cellsOf el) g (.app c0 ye) (d&&d')))]}:=by
 have Ao:cl.args= #[x,y]:=by apply Array.ext';simp [CA]
 have FV:cl.argTypes= #[tx,tx]:=by apply Array.ext';simp [DD]
 have CS:y∈o.op.operands:=by simp [ho,Op.operands,Call.operands,Ay,Ao]
 obtain⟨i,z,hi,E2,CV,Bz,BZ,Ft⟩:=Ji hz;obtain⟨ts,ys,q,r,news,N,Gi,CD,LD,CG,EI,HK,EY,lY,Rn,Vs⟩:=tZ h.rel h.hp h.gs (h.bz AQ CS) hy BP K3;have Cy:=h.rel.freeze h.hp h.gs Gi;obtain⟨xs,B1,GN,_,AZ⟩:=Bi;obtain⟨mm,kk,Gp,Dt,Pj,VH⟩:=BY;rw [B1]at Gp;rw [CD]at Dt;simp only [AV.len,AV.int.injEq,true_and]at Gp Dt;have Hy:(xs.length+ys.length)*i.bytes≤140737488355328:=by
  rw [←Gp,←Dt,Ft]at Pj;have h9:(((xs.length+ys.length)*i.bytes:Nat):Int)≤140737488355328:=by rw [Int.natCast_mul,Int.natCast_add];exact Pj
  omega
 have Ip:xs.length+ys.length≤140737488355328:=by rw [←Gp,←Dt]at VH;omega
 rw [BZ]at EI Rn GN LD AZ;obtain⟨old,hold,Gs,CF,Ck⟩: ∃old,old.length=xs.length*i.size∧((xs.length=0∧ ∃q,v= .slice q 0 0)∨ ∃g cap C,v= .slice (some ⟨g,0,none⟩) xs.length cap∧xs.length≤cap∧cap≤maxLen∧c.w.heap[g]?=some (.cells C el (0,0))∧C.size=cap*i.size∧old=C.toList.take (xs.length*i.size)∧g∈(c.G t).top)∧Rd c.w old (Az xs) N0∧ ∀u∈old,u.oneCell'=true:=by
  rcases AZ with⟨rfl,⟨p,rfl⟩,rfl,rfl⟩|⟨g9,cap,C,rfl,h6,h7,h8,h9,rfl,ES,EX⟩
  ·exact⟨[],by simp, .inl ⟨rfl,p,rfl⟩, .nil,by simp⟩
  ·refine⟨_, ?_, .inr ⟨g9,cap,C,rfl,h6,h7,h8,h9,rfl,by rw [BJ];simp⟩,EX,ES⟩;have e9:C.toList.length=cap*i.size:=by rw [←h9];simp
   rw [List.length_take,e9];exact Nat.min_eq_left (Nat.mul_le_mul_right _ h6)
 obtain⟨v',w',AI,AK⟩:=Yo (P:=P) c.w tx o.type el i z Bc hi E2 CV Bz (fun g9=>g9∈(c.G t).top) v xs.length old hold Gs q ys.length r news EI (by simp only [maxLen];omega) Hy;have Er:(execOp a.eval o).run P c.w= .ok (.value v') w':=by simp [execOp,ho,resolve,Ay,Ao,FV,invoke,builtin,hv,CG,AI]
 intro next Q hk
 unfold Oper.wp;rw [Er,Oper.upon_value];have lU:(c.ax (fz.map (·.1))).w=c.w:=rfl;have Zb:(c.ax (fz.map (·.1))).G t=c.G t:=by simp only [Cx.ax];rw [if_neg];rintro hh;obtain⟨⟨u,f⟩,hf,rfl⟩:=List.mem_map.1 hh;exact DM f hf
 obtain⟨row,top',OW,Eb,Pt,A6,B6⟩: ∃row top',c.w.grownBy w' row∧(∀g0,row=some g0→g0∈(c.G t).top∨(g0=c.w.heap.size∧g0<w'.heap.size))∧(top'= []∨ ∃g0,row=some g0∧top'= [g0])∧
   (CN (c.ax (fz.map (·.1))) ((c.ax (fz.map (·.1))).al t g w' v' top' (if(d&&d')=true then(c.G t).O else []))→ ∃N',Ce w' el (P.cellsOf el) v' (.sl (xs++ys)) top' N'∧(∀b∈N',b∈N0∨b∈N)∧((d&&d')=true→N'=N0))∧ ∃p m r,v'= .slice p m r:=by
  rcases AK with⟨rfl,rfl,Dh⟩|⟨g9,cap,C,rfl,h1,h2,h3,h4,h5,h6,h7⟩
  ·have Hi:ys= []:=List.eq_nil_of_length_eq_zero Dh;subst Hi;refine⟨if top= []then none else top.head?,top,⟨rfl,rfl,rfl,Nat.le_refl _,fun _ _ _=>rfl⟩,fun g0 Eb=> .inl ?_, ?_,fun _=>⟨N0, ?_,fun b hb=> .inl hb,fun _=>rfl⟩, ?_⟩
   ·rw [BJ];split at Eb
    ·cases Eb
    ·exact List.mem_of_mem_head? Eb
   ·rcases AZ with⟨_,_,rfl,_⟩|⟨g9,_,_,_,_,_,_,_,rfl,_⟩
    ·exact .inl rfl
    ·exact .inr ⟨g9,by simp,rfl⟩
   ·rw [BZ];exact⟨xs,by simp,GN,Bz,AZ⟩
   ·rcases Gs with⟨_,p,rfl⟩|⟨g9,cap,C,rfl,_⟩
    ·exact⟨_,_,_,rfl⟩
    ·exact⟨_,_,_,rfl⟩
  ·refine⟨some g9, [g9],h6,fun g0 Eb=> ?_, .inr ⟨g9,rfl,rfl⟩,fun Fu=>⟨N0++N,⟨xs++ys,rfl,fun z hz=> ?_,by rw [BZ];exact Bz, .inr ⟨g9,cap,C,by simp,by simpa using h1,h2,h3,by rw [BZ];exact h4,rfl, ?_, ?_⟩⟩,fun b hb=>Af.1 hb,fun DZ=> ?_⟩,_,_,_,rfl⟩
   ·cases Eb;exact h7.symm
   ·rcases Af.1 hz with hz|hz
    ·rw [BZ];exact GN z hz
    ·rw [BZ];exact LD z hz
   ·rw [BZ];simp only [AB];rw [h5];intro u hu;rcases Af.1 hu with hu|hu
    ·exact Ck u hu
    ·exact Vs u hu
   ·rw [BZ];simp only [AB];rw [h5,WV];refine Rd.app (CF.frame fun b hb=> ?_) (HK.frame fun b hb=> ?_)
    ·have Hy:=CF.inb b hb;exact Fu.mem b Hy (Cx.ed (K0 b hb))
    ·have Hy:=HK.inb b hb;exact Fu.mem b Hy (EY b hb)
   ·simp only [Ac]at DZ;rw [lY DZ.1];simp
 obtain⟨p9,m9,r9,LC⟩:=B6;have CR:=Cy.al (gs:=gs) (t:=t) (g:=g) (w':=w') (row:=row) (top:=top') (O:=if(d&&d')=true then(c.G t).O else []) (v:=v') DN AM OW (by rw [Zb];exact Eb) Pt (by split;exact .inr (by rw [Zb]);exact .inl rfl)
  (.row el (P.cellsOf el) g (.app c0 ye) (d&&d')) (by intros;simp) h.gs (fun Fu=>by
   obtain⟨N',o1,o2,o3⟩:=A6 Fu;have Aw: ∀b∈N',((c.ax (fz.map (·.1))).al t g w' v' top' (if(d&&d')=true then(c.G t).O else [])).ok b:=by
    intro b hb;rcases o2 b hb with hb|hb
    ·exact Fu.ok b (CF.inb b hb) (Cx.ed (K0 b hb))
    ·exact Fu.ok b (HK.inb b hb) (EY b hb)
   refine⟨.inr ⟨rfl,rfl⟩,fun g' BN=> ?_,N', ?_,Aw,fun DZ=> ?_,fun DZ=> ?_⟩
   ·rcases BN with BN|⟨_,rfl⟩
    ·exact I3 g' BN
    ·exact Nat.le_refl _
   ·have e1:((c.ax (fz.map (·.1))).al t g w' v' top' (if(d&&d')=true then(c.G t).O else [])).H t g=v':=by simp [Cx.al]
    have e2:(((c.ax (fz.map (·.1))).al t g w' v' top' (if(d&&d')=true then(c.G t).O else [])).G t).top=top':=by simp [Cx.al]
    rw [e1,e2];show Ce w' el (P.cellsOf el) v' (AV.app (c0.den c.ρ) (ye.den c.ρ)) top' N';rw [B1,CD];exact o1
   ·have Us:=o3 DZ;have UR:d'=true:=by simp only [Ac]at DZ;exact DZ.2
    obtain⟨u1,u2⟩:=UQ UR;subst Us;refine⟨u1.frame fun b hb=>Fu.mem b (CF.inb b hb) (Cx.ed (K0 b hb)), ?_⟩;simp only [Cx.al,if_true,DZ];exact u2
   ·simp [Cx.al,DZ])
 have UA:SR ((c.ax (fz.map (·.1))).al t g w' v' top' (if(d&&d')=true then(c.G t).O else [])) [.own t g] [v']:=by rw [LC];exact .own (.inr ⟨rfl,rfl⟩) (by simp [Cx.al]) .nil
 refine hk _ ((c.ax (fz.map (·.1))).al t g w' v' top' (if(d&&d')=true then(c.G t).O else [])) ⟨rfl,rfl,rfl,rfl,fun u hu=> ?_⟩ ?_
 ·rcases hu with hu|rfl
  ·exact .inl hu
  ·exact hU u rfl
 ·have:=CR.put (UA.mkGd gs h.gs) o.dst;rw [L6];exact this
end
section
variable {P:Program} {c:Cx} {n nx:Nat} {sl sl0:Nat→SV} {hp hp0:Nat→Option Ah} {a:Act} {o:Oper} {gs:Gd} {e:AP} {sg:Bq} {nv:Nat}
theorem Ix {t el:TypeId} (h:B9 P t=some el):P.underlying t=some (.slice el):=by
 unfold B9 at h;split at h
 ·simp at h;subst h;assumption
 ·cases h
theorem sS {ts:List Nat} {l:List (Nat × Ah)} (k:AY c.ρ gs) (h:CL hp0 gs ts=some l): ∀t f,(t,f)∈l→ ∃g x f',BW c.ρ (hp0 t) f'∧Jt f' g x:=by intro t f hf;obtain⟨_,_,g,x,f',_,r⟩:=(LX k h).1 t f hf;exact⟨g,x,f',r⟩
theorem tA (h:A3 P c n nx sl hp a sl0 hp0 o gs) {x y:Operand} {tx ty:TypeId} {cl:Call} (ho:o.op= .call cl) (Ay:cl.callee= .builtin .append) (CA:cl.args.toList= [x,y]) (DD:cl.argTypes.toList= [tx,ty])
  {s1 s2:SV} (Bj:Bm sl0 gs x=some s1) (AQ:Bm sl0 gs y=some s2) (he:XN P hp0 gs nx tx ty s1 s2=some e) (hc: ∀q∈e.bu,Cn.den c.ρ q):At P o c n nx sl hp gs a e:=by
 have Ao:cl.args= #[x,y]:=by apply Array.ext';simp [CA]
 have Di:x∈o.op.operands:=by simp [ho,Op.operands,Call.operands,Ay,Ao]
 unfold XN at he;split at he
 ·cases he
 rename_i Ly;have Ly:tx=ty:=by simpa using Ly
 subst Ly;split at he
 ·rename_i el Bc;have Bc:=Ix Bc;split at he
  ·cases he
  rename_i hz;have hz:G0 P el=true:=by simpa using hz
  split at he
  ·cases he
  rename_i ye hy;split at he
  ·cases he
  rename_i fz d ck BP;obtain⟨ts,Gi⟩: ∃ts,CL hp0 gs ts=some fz:=by
   unfold Qu at BP;split at BP
   ·simp only [Ad,Prod.mk.injEq]at BP;obtain⟨rfl,_⟩:=BP;exact⟨[],rfl⟩
   ·split at BP
    ·obtain⟨l,hl,BP⟩:=Am.1 BP;simp only [Prod.mk.injEq]at BP;obtain⟨rfl,_⟩:=BP;exact⟨_,hl⟩
    ·cases BP
  have r1:=h.bz Bj Di;have fresh: ∀f,(nx,f)∉fz:=fun f hf=>by
   obtain⟨_,_,_,r,_⟩:=sS (c:=c) h.gs Gi nx f hf;have r:=Jw h.hp r;cases hh:hp nx with
   |none=>rw [hh]at r;exact r.elim
   |some e9=>exact L9 h (h.rel.br nx e9 hh)
  have hK: ∀g,¬c.K nx g:=fun g hg=>L9 h (h.rel.a6 _ _ hg);have Fe:=h.rel.off nx (fun e9 hr=>by
   cases hh:hp nx with
   |none=>rw [hh]at hr;exact hr.elim
   |some e8=>exact L9 h (h.rel.br nx e8 hh))
  have Rq:c.A.pin nx=none:=by
   cases hh:c.A.pin nx with
   |none=>rfl
   |some v=>exact absurd (h.rel.base.pins nx v hh).1 (L9 h)
  have Zg: ∀u,u=nx→c.U u∨(nx≤u∧u<nx+Bh):=fun u hu=> .inr ⟨by omega,by rw [hu];simp [Bh]⟩;have ZH:P.cellsOf el≠0:=by obtain⟨i,_,_,_,_,h1,h2,_⟩:=Ji hz;omega
  split at he
  ·rename_i t g;split at he
   ·rename_i e' sz' g' c0 d' hl;split at he
    ·rename_i hh;obtain⟨rfl,rfl,rfl,rfl,DM⟩:=hh;simp only [Ad]at he;subst he;have Eo:=Cm hl h.gs;obtain⟨q1,q2,N,q3,q4,q5,q6⟩:=h.eh t _ Eo;generalize hv:a.eval x=v at r1;cases r1 with
     |own k1 k2 _=>
      have:=WH (nx:=nx) h ho Ay CA DD Bc hz AQ hy BP (hc _ (by simp)) (t:=t) (g:=g+1) (.inr (by omega)) (c0:=c0) (d':=d') (hc _ (by simp)) (fun f hf=>by simp only [Bool.not_eq_true',List.contains_eq_mem,decide_eq_false_iff_not]at DM;exact DM (List.mem_map.2 ⟨_,hf,rfl⟩)) (fun hh=>by have:=q2 _ hh;omega) hv (by rw [←k2];exact q3) rfl q4 q5 (fun g' BN=>by have:=q2 _ BN;omega) (fun u hu=> .inl (by rw [hu];exact h.rel.a6 t g q1)) (ckl:= [.room c0 ye (P.bytesOf el),ck])
      exact this
    ·cases he
   ·cases he
  ·simp only [Ad]at he;subst he;generalize hv:a.eval x=v at r1;cases r1 with
   |emp _=>have:=WH (nx:=nx) h ho Ay CA DD Bc hz AQ hy BP (hc _ (by simp)) (t:=nx) (g:=0) (.inl Rq) (c0:= .lst .nil) (d':=true) (top:= []) (N0:= []) (hc _ (by simp)) fresh (hK 0) hv ⟨[],rfl,by simp,by omega, .inl ⟨rfl,⟨_,rfl⟩,rfl,rfl⟩⟩ Fe.1 (by simp) (fun _=>⟨rfl,Fe.2⟩) (fun g' BN=>absurd BN (hK g')) Zg (ckl:= [.room (.lst .nil) ye (P.bytesOf el),ck]);rw [Bool.and_true]at this;exact this
  ·simp only [Ad]at he;subst he;generalize hv:a.eval x=v at r1;cases r1 with
   |a8 _=>have:=WH (nx:=nx) h ho Ay CA DD Bc hz AQ hy BP (hc _ (by simp)) (t:=nx) (g:=0) (.inl Rq) (c0:= .lst .nil) (d':=true) (top:= []) (N0:= []) (hc _ (by simp)) fresh (hK 0) hv ⟨[],rfl,by simp,by omega, .inl ⟨rfl,⟨_,rfl⟩,rfl,rfl⟩⟩ Fe.1 (by simp) (fun _=>⟨rfl,Fe.2⟩) (fun g' BN=>absurd BN (hK g')) Zg (ckl:= [.room (.lst .nil) ye (P.bytesOf el),ck]);rw [Bool.and_true]at this;exact this
  ·cases he
 ·cases he
end
section
variable {P:Program} {c:Cx} {n nx:Nat} {sl sl0:Nat→SV} {hp hp0:Nat→Option Ah} {a:Act} {o:Oper} {gs:Gd} {e:AP} {sg:Bq} {nv:Nat}
theorem PI: ∀{ts us:List Nat} {l m:List (Nat × Ah)},CL hp0 gs ts=some l→CL hp0 gs us=some m→CL hp0 gs (ts++us)=some (l++m)
 | [],us,l,m,h,k=>by simp [CL]at h;subst h;simpa using k
 |t::ts,us,l,m,h,k=>by
  unfold CL at h;simp only [List.cons_append];unfold CL;split at h
  ·rename_i ety sz g x d l' hl Bl;have ih:=PI Bl k;split at h
   ·rename_i hg;simp at h;subst h;simp [hl,ih,hg]
   ·cases h
  ·rename_i ety sz dl g ep x l' hl Bl;have ih:=PI Bl k;split at h
   ·rename_i hg;simp at h;subst h;simp [hl,ih,hg]
   ·cases h
  ·rename_i g x l' hl Bl;have ih:=PI Bl k;simp at h;subst h;simp [hl,ih]
  ·rename_i ty g cs l' hl Bl;have ih:=PI Bl k;simp at h;subst h;simp [hl,ih]
  ·cases h
theorem bX {ts us:List Nat} (hs: ∀t∈ts,t∈us) {b:Nat} (h:(c.ax ts).ok b):(c.ax us).ok b:=by refine⟨fun hm=>h.1 ?_,h.2⟩;obtain⟨u,hu,hb⟩:=Cx.iy hm;exact⟨u,by simp only [Cx.ax];rw [if_neg (fun hh=>hu (hs u hh))];exact hb⟩
theorem XA {w:World} {v:Value} {x:AV} {f:List Nat} {t:TypeId} (h:Rd w [v] [x] f) (hg:Aj P t=true∨P.cellsOf t=1) (hx:if Aj P t then∃cs,x= .agg cs∧cs.length=P.cellsOf t else(∀cs,x≠ .agg cs)∧ ∀cs,x≠ .tup cs):
  Rd w v.cells.toList x.cells f∧(∀u∈v.cells.toList,u.oneCell'=true)∧x.cells.length=P.cellsOf t∧v.cells.size=P.cellsOf t:=by
 split at hx
 ·obtain⟨cs,rfl,hl⟩:=hx;obtain⟨as_,rfl,h1,h2⟩:=Ia h rfl;have:=h2.len;exact⟨by simpa [Value.cells,AV.cells]using h2,by simpa [Value.cells]using h1,hl,by simp [Value.cells];omega⟩
 ·rename_i mV;have h1:P.cellsOf t=1:=by rcases hg with h'|h';exact absurd h' mV;exact h'
  have Ck:=WY h hx.1 hx.2;have GN:x.cells= [x]:=by cases x<;>first|rfl|exact absurd rfl (hx.1 _)
  rw [one_cells Ck,GN];exact⟨by simpa using h,by simpa using Ck,by simp [h1],by simp [h1]⟩
theorem bH (h:Rel c n sl hp a) (hs: ∀t e,hp0 t=some e→hp t=some e) (k:AY c.ρ gs) {t:TypeId} (hg:Aj P t=true∨P.cellsOf t=1): ∀(ss:List SV) (vs:List Value) {xs:List E} {fz:List (Nat × Ah)} {d:Bool} {ck:List Cn},SR c ss vs→Qo P hp0 gs t ss=some (xs,fz,d,ck)→(∀q∈ck,q.den c.ρ)→
  ∃N,Rd c.w (vs.flatMap fun v=>v.cells.toList) (Az (xs.map (E.den c.ρ))) N∧(d=true→N= [])∧(∃ts,CL hp0 gs ts=some fz)∧(∀b∈N,(c.ax (fz.map (·.1))).ok b)∧(∀v∈vs,v.cells.size=P.cellsOf t∧ ∀u∈v.cells.toList,u.oneCell'=true)∧(∀x∈xs,(x.den c.ρ).cells.length=P.cellsOf t)∧xs.length=vs.length
 | [],vs,xs,fz,d,ck,hr,ht,hc=>by simp [Qo]at ht;obtain⟨rfl,rfl,rfl,rfl⟩:=ht;cases hr;exact⟨[],by simpa [Az]using Rd.nil,fun _=>rfl,⟨[],rfl⟩,by simp,by simp,by simp,rfl⟩
 |s::ss, [],xs,fz,d,ck,hr,ht,hc=>by have:=hr.len;simp at this
 |s::ss,v::vs,xs,fz,d,ck,hr,ht,hc=>by
  obtain⟨r1,r2⟩:=hr.bf;unfold Qo at ht;split at ht
  ·rename_i x fz1 d1 ck1 xs2 fz2 d2 ck2 h1 h2;simp only [Ad,Prod.mk.injEq]at ht;obtain⟨rfl,rfl,rfl,rfl⟩:=ht;obtain⟨f,q1,q2,⟨ts1,q3,q4⟩,q5⟩:=bZ h hs k r1 h1 (fun q hq=>hc q (by simp [hq]));obtain⟨N,p1,p2,⟨ts2,p3⟩,p4,p5,p6,p7⟩:=bH h hs k hg ss vs r2 h2 (fun q hq=>hc q (by simp [hq]));obtain⟨o1,o2,o3,o4⟩:=XA (P:=P) q1 hg q5;refine⟨f++N, ?_,fun hd=> ?_,⟨_,PI q3 p3⟩,fun b hb=> ?_, ?_, ?_,by simp [p7]⟩
   ·simpa [Az]using o1.app p1
   ·simp only [Ac]at hd;rw [q2 hd.1,p2 hd.2];rfl
   ·rcases Af.1 hb with hb|hb
    ·exact bX (fun t ht=>by simp only [List.map_append,Af];exact .inl ht) (q4 b hb)
    ·exact bX (fun t ht=>by simp only [List.map_append,Af];exact .inr ht) (p4 b hb)
   ·intro u hu;rcases Ae.1 hu with rfl|hu
    ·exact⟨o4,o2⟩
    ·exact p5 u hu
   ·intro u hu;rcases Ae.1 hu with rfl|hu
    ·exact o3
    ·exact p6 u hu
  ·cases ht
theorem Xm {sz:Nat} (place:Nat→Option (Nat × Nat)) (Lu: ∀i,place i=some (i*sz,sz)): ∀(vs:List Value) (k:Nat) (C:Array Value) (pre suf:List Value),C.toList=pre++suf→pre.length=k*sz→suf.length=vs.length*sz→(∀v∈vs,v.cells.size=sz)→
  ∃C',Instr.fill place C ((vs.zipIdx k).map fun p=>(p.2,p.1))=some C'∧C'.toList=pre++vs.flatMap fun v=>v.cells.toList
 | [],k,C,pre,suf,h,_,h2,_=>by have:suf= []:=List.eq_nil_of_length_eq_zero (by simpa using h2);subst this;exact⟨C,rfl,by simpa using h⟩
 |v::vs,k,C,pre,suf,h,h1,h2,h3=>by
  have hv:=h3 v (by simp);simp only [AA,Nat.add_mul,Nat.one_mul]at h2;have hC:C.size=pre.length+suf.length:=by rw [←Array.length_toList,h,AB]
  have JY:(v.cells.zipIdx.foldl (fun cs (p:Value × Nat)=>cs.setIfInBounds (k*sz+p.2) p.1) C).toList=setVs C.toList (k*sz) v.cells.toList:=by have:=eX v.cells.toList 0 (k*sz) C (by simp;omega);rw [←Array.foldl_toList,Array.toList_zipIdx];simpa using this
  have VN:setVs C.toList (k*sz) v.cells.toList=(pre++v.cells.toList)++suf.drop sz:=by unfold setVs;rw [h,←h1,List.take_left' rfl];congr 1;rw [List.drop_append,List.drop_eq_nil_of_le (by omega)];simp [hv]
  obtain⟨C',g1,g2⟩:=Xm place Lu vs (k+1) (v.cells.zipIdx.foldl (fun cs (p:Value × Nat)=>cs.setIfInBounds (k*sz+p.2) p.1) C) (pre++v.cells.toList) (suf.drop sz) (by rw [JY,VN]) (by simp [h1,hv,Nat.add_mul]) (by simp;omega) (fun u hu=>h3 u (by simp [hu]));refine⟨C', ?_,by rw [g2];simp⟩;simp only [List.zipIdx_cons,List.map_cons];unfold Instr.fill;simp only [Lu];rw [if_neg (by simp [hv];omega)];exact g1
theorem At.newRow (h:A3 P c n nx sl hp a sl0 hp0 o gs) {ts:List Nat} {fz:List (Nat × Ah)} (Gi:CL hp0 gs ts=some fz) {el:TypeId} {C:Array Value} {cap:Nat} {xs:List AV} {x:E} {d:Bool} {N:List Nat} {ckl:List Cn} {wd:World} (nP:wd.heap=c.w.heap∧wd.os=c.w.os∧wd.tape=c.w.tape∧wd.output=c.w.output)
  (hr:(execOp a.eval o).run P c.w= .ok (.value (.slice (some ⟨c.w.heap.size,0,none⟩) xs.length cap)) (wd.alloc (.cells C el))) (hx:x.den c.ρ= .sl xs) (Bz:P.cellsOf el≠0) (Ay: ∀y∈xs,y.cells.length=P.cellsOf el) (hle:xs.length≤cap) (Hz:cap≤maxLen) (hC:C.size=cap*P.cellsOf el)
  (h1: ∀u∈C.toList.take (xs.length*P.cellsOf el),u.oneCell'=true) (hN:Rd c.w (C.toList.take (xs.length*P.cellsOf el)) (Az xs) N) (EY: ∀b∈N,(c.ax (fz.map (·.1))).ok b) (hd:d=true→N= []):
  At P o c n nx sl hp gs a {bu:=ckl,val:= .own nx 0,ar:=fz++ [(nx,Cf gs (.row el (P.cellsOf el) 0 x d))]}:=by
 intro next Q hk
 unfold Oper.wp;rw [hr,Oper.upon_value];have hU:=L9 h;have Cy:=h.rel.freeze h.hp h.gs Gi;have hK: ∀g,¬c.K nx g:=fun g hg=>hU (h.rel.a6 _ _ hg);have Rq:c.A.pin nx=none:=by
  cases hh:c.A.pin nx with
  |none=>rfl
  |some v=>exact absurd (h.rel.base.pins nx v hh).1 hU
 have Fe:=h.rel.off nx (fun e9 hr=>by
  cases hh:hp nx with
  |none=>rw [hh]at hr;exact hr.elim
  |some e8=>exact hU (h.rel.br nx e8 hh))
 obtain⟨w1,w2,w3,w4⟩:=nP;have HE:c.w.grownBy (wd.alloc (.cells C el)) (some c.w.heap.size):=by
  refine⟨w2,w3,w4, ?_,fun k hk _=> ?_⟩
  ·show c.w.heap.size≤(wd.heap.push _).size;simp [w1]
  ·have:=Below.heap_alloc wd (.cells C el) k (by rw [w1];exact hk);rw [this,w1]
 have Ka:(wd.alloc (.cells C el)).heap[c.w.heap.size]?=some (.cells C el (0,0)):=by have:=heap_alloc_new wd (.cells C el);rw [w1]at this;exact this
 have Au:c.w.heap.size<(wd.alloc (.cells C el)).heap.size:=Ev Ka;have hO:(c.ax (fz.map (·.1))).G nx=⟨[], []⟩∨((c.ax (fz.map (·.1))).G nx).O= []:=by
  right;simp only [Cx.ax];split
  ·rfl
  ·exact Fe.2
 have CR:=Cy.al (gs:=gs) (t:=nx) (g:=0) (w':=wd.alloc (.cells C el)) (row:=some c.w.heap.size) (top:= [c.w.heap.size]) (O:= []) (v:= .slice (some ⟨c.w.heap.size,0,none⟩) xs.length cap) (.inl Rq) (hK 0) HE (fun g0 Eb=>by cases Eb;exact .inr ⟨rfl,Au⟩) (.inr ⟨_,rfl,rfl⟩) (.inl rfl)
  (.row el (P.cellsOf el) 0 x d) (by intros;simp) h.gs (fun Fu=>by
   refine⟨.inr ⟨rfl,rfl⟩,fun g' BN=> ?_,N, ?_,fun b hb=>Fu.ok b (hN.inb b hb) (EY b hb),fun DZ=> ?_,fun _=>by simp [Cx.al]⟩
   ·rcases BN with BN|⟨_,rfl⟩
    ·exact absurd BN (hK g')
    ·exact Nat.le_refl _
   ·have e1:((c.ax (fz.map (·.1))).al nx 0 (wd.alloc (.cells C el)) (.slice (some ⟨c.w.heap.size,0,none⟩) xs.length cap) [c.w.heap.size] []).H nx 0= .slice (some ⟨c.w.heap.size,0,none⟩) xs.length cap:=by simp [Cx.al]
    have e2:(((c.ax (fz.map (·.1))).al nx 0 (wd.alloc (.cells C el)) (.slice (some ⟨c.w.heap.size,0,none⟩) xs.length cap) [c.w.heap.size] []).G nx).top= [c.w.heap.size]:=by simp [Cx.al]
    rw [e1,e2];show Ce (wd.alloc (.cells C el)) el (P.cellsOf el) _ (x.den c.ρ) _ N;rw [hx];exact⟨xs,rfl,Ay,by omega, .inr ⟨_,cap,C,rfl,hle,Hz,Ka,hC,rfl,h1,hN.frame fun b hb=>Fu.mem b (hN.inb b hb) (EY b hb)⟩⟩
   ·rw [hd DZ];exact⟨rfl,by simp [Cx.al]⟩)
 have UA:SR ((c.ax (fz.map (·.1))).al nx 0 (wd.alloc (.cells C el)) (.slice (some ⟨c.w.heap.size,0,none⟩) xs.length cap) [c.w.heap.size] []) [.own nx 0] [.slice (some ⟨c.w.heap.size,0,none⟩) xs.length cap]:=
  .own (.inr ⟨rfl,rfl⟩) (by simp [Cx.al]) .nil
 refine hk _ ((c.ax (fz.map (·.1))).al nx 0 (wd.alloc (.cells C el)) (.slice (some ⟨c.w.heap.size,0,none⟩) xs.length cap) [c.w.heap.size] []) ⟨rfl,rfl,rfl,rfl,fun u hu=> ?_⟩ ?_
 ·rcases hu with hu|rfl
  ·exact .inl hu
  ·exact .inr ⟨Nat.le_refl _,by simp [Bh]⟩
 ·have:=CR.put (UA.mkGd gs h.gs) o.dst;rw [L6];exact this
theorem aU {t el:TypeId} (hu:P.underlying t=some (.slice el)) (A1:CC P el=true) {i:TypeInfo} {z:Value} (hi:P.info? el=some i) (hz:i.zero=some z) (BZ:P.cellsOf el=i.size) (m:Nat) (hle:m*i.size≤2^24) (parts:Array (Nat × Value)) (C:Array Value)
  (hf:Instr.fill (fun j=>some (j*i.size,i.size)) ((Array.range (m*i.size)).map (fun j=>(if m*i.size=0 then #[]else z.cells)[j % (if m*i.size=0 then #[]else z.cells).size]!)) parts.toList=some C) (w:World):
  (Instr.buildSlice t m parts).run P w= .ok (.slice (some ⟨w.heap.size,0,none⟩) m m) (w.alloc (.cells C el)):=by
 have Vh: ¬(2^24<m*i.size):=by omega
 have It:Array.range 0= #[]:=rfl;by_cases h0:m*i.size=0
 ·simp only [h0,if_true,It]at hf;have OL: ∀f:Nat→Value,Array.map f #[]= #[]:=fun f=>by simp
  rw [OL]at hf;simp only [Instr.buildSlice,Sem.run_bind,run_underlying hu,Result.andThen_ok,L0 A1,BZ];simp [h0,It,hf,newRow]
 ·simp only [h0,if_false]at hf;simp only [Instr.buildSlice,Sem.run_bind,run_underlying hu,Result.andThen_ok,L0 A1,BZ];simp [h0,Vh,zeroValue,typeInfo,hi,hz,hf,newRow]
theorem qP (h:A3 P c n nx sl hp a sl0 hp0 o gs) {t:TypeId} {m:Nat} {parts:Array (Nat × Operand)} (ho:o.op= .buildSlice t m parts) {ps:List (Nat × SV)} (Ke:parts.toList.mapM (fun(p:Nat × Operand)=>(Bm sl0 gs p.2).map fun s=>(p.1,s))=some ps) (he:WT P hp0 gs nx t m ps=some e) (hc: ∀q∈e.bu,Cn.den c.ρ q):At P o c n nx sl hp gs a e:=by
 obtain⟨e1,e2⟩:=Te (c:=c) (a:=a) (parts.toList.map (·.2)) (fun x s hx hm=>h.bz hx (by simpa [ho,Op.operands]using hm)) (fun x hx=>List.mem_map.2 ⟨x,hx,rfl⟩) Ke;unfold WT at he;split at he
 ·rename_i el Bc;have Bc:=Ix Bc;split at he
  ·cases he
  rename_i Aq;simp only [not_or,Bool.not_eq_true',Bool.not_eq_false',ne_eq,Bool.not_eq_false,Nat.not_lt,Decidable.not_not]at Aq;obtain⟨hz,A1,Av,hle,DF⟩:=Aq;have Av:Aj P el=true∨P.cellsOf el=1:=by simpa using Av
  obtain⟨i,z,hi,E2,CV,Bz,BZ,Ft⟩:=Ji hz;split at he
  ·rename_i xs fz d ck Pr;split at he
   ·simp only [Ad]at he;subst he;obtain⟨N,p1,p2,⟨ts,p3⟩,p4,p5,p6,p7⟩:=bH h.rel h.hp h.gs Av (ps.map (·.2)) (parts.toList.map fun p=>a.eval p.2) e2 Pr hc;have hlen:(parts.toList.map fun p=>a.eval p.2).length=m:=by
     have:ps.length=m:=by have:=congrArg List.length DF;simpa using this
     have h9:=congrArg List.length e1;simp at h9 ⊢;omega
    have FU:(parts.map fun(x:Nat × Operand)=>(x.1,a.eval x.2)).toList=((parts.toList.map fun p=>a.eval p.2).zipIdx 0).map fun p=>(p.2,p.1):=by
     have Le:parts.toList.map (·.1)=List.range m:=by rw [←e1,DF]
     apply List.ext_getElem?;intro j;have hj:(parts.toList.map (·.1))[j]?=(List.range m)[j]?:=by rw [Le]
     simp only [Array.toList_map,List.getElem?_map,List.getElem?_zipIdx]at hj ⊢;cases hp:parts.toList[j]? with
     |none=>simp
     |some p=>
      rw [hp]at hj;simp only [Option.map_some,Ad]at hj ⊢;have Vb:j<m:=by
       rcases Nat.lt_or_ge j m with hh|hh
       ·exact hh
       ·rw [List.getElem?_eq_none (by simpa using hh)]at hj;cases hj
      rw [List.getElem?_range Vb]at hj;simp at hj;simp [hj]
    obtain⟨C',f1,f2⟩:=Xm (sz:=i.size) (fun j=>some (j*i.size,i.size)) (fun j=>rfl) (parts.toList.map fun p=>a.eval p.2) 0 ((Array.range (m*i.size)).map (fun j=>(if m*i.size=0 then #[]else z.cells)[j % (if m*i.size=0 then #[]else z.cells).size]!)) [] _ (by simp;rfl) (by simp) (by simp [hlen]) (fun v hv=>by rw [←BZ];exact(p5 v hv).1);have C4:C'.toList.length=m*P.cellsOf el:=by
     rw [f2,BZ];simp only [List.nil_append];have: ∀(L:List Value),(∀v∈L,v.cells.size=i.size)→(L.flatMap fun v=>v.cells.toList).length=L.length*i.size:=by
      intro L
      induction L with
      |nil=>intro _;simp
      |cons v L ih=>intro hL;simp only [List.flatMap_cons,AB,AA,Array.length_toList];rw [ih (fun u hu=>hL u (by simp [hu])),hL v (by simp),Nat.add_mul];omega
     rw [this _ (fun v hv=>by rw [←BZ];exact(p5 v hv).1),hlen]
    have HW:(xs.map (E.den c.ρ)).length=m:=by rw [List.length_map,p7,hlen]
    have BI:C'.toList.take ((xs.map (E.den c.ρ)).length*P.cellsOf el)=(parts.toList.map fun p=>a.eval p.2).flatMap fun v=>v.cells.toList:=by rw [HW,←C4,List.take_length,f2];simp
    refine At.newRow (xs:=xs.map (E.den c.ρ)) (N:=N) (C:=C') (cap:=m) (wd:=c.w) h p3 ⟨rfl,rfl,rfl,rfl⟩ ?_ (by simp [E.den,EL.cq]) (by omega) (fun y hy=> ?_) (by omega) (by simp only [maxLen];have:m*1≤m*P.cellsOf el:=Nat.mul_le_mul_left _ (by omega);omega) (by rw [←Array.length_toList,C4]) ?_ (by rw [BI];exact p1) p4 p2
    ·rw [HW];have AI:=aU (P:=P) Bc A1 hi E2 BZ m (by rw [←BZ];omega) (parts.map fun(x:Nat × Operand)=>(x.1,a.eval x.2)) C' (by rw [FU];exact f1) c.w;simp only [execOp,ho,Sem.run_bind];rw [AI];rfl
    ·obtain⟨q,hq,rfl⟩:=List.mem_map.1 hy;exact p6 q hq
    ·rw [BI];intro u hu;obtain⟨v,hv,hu⟩:=List.mem_flatMap.1 hu;exact(p5 v hv).2 u hu
   ·cases he
  ·cases he
 ·cases he
end
end Go.Proofs.YtollgpkegmbpmaaGreatDoor
end

/- Parts of a proof, joined: WA, VJa, VK, VL, VM, VN, VO, VP, VQ, VR, VS, VT, VU, VV, VW. -/
import Derived.Test.YtalagilebkaegaaGreatE2
import Derived.WalkSpells
import Derived.Laws.BytesArg
set_option linter.unusedVariables false
set_option linter.unusedSimpArgs false
namespace Go.Proofs.YtalagilebkaegaaGreat
open Go.RowKit
section
theorem BL.{u}{α:Type u}{a:Array α}:a.toList.length=a.size:=Array.length_toList
theorem A4.{u,v}{α:Type u}{β:Type v}(a:α)(b:β)(c:α)(d:β):((a,b)=(c,d))=(a=c/\b=d):=Prod.mk.injEq a b c d
theorem JO:∀{l:List (Nat × Ah)} {t:Nat} {e:Ah},AR l t=some e->(t,e)∈l
 | [],_,_,h=>by simp[AR]at h
 |(u,f)::l,t,e,h=>by
  simp only[AR]at h;split at h
  ·rename_i hu;subst hu;simp at h;subst h;simp
  ·exact List.mem_cons_of_mem _ (JO h)
theorem N7{α:Type}:∀{l:List (Nat × α)} {t:Nat} {e:α},l.lookup t=some e->(t,e)∈l
 | [],_,_,h=>by simp at h
 |(u,f)::l,t,e,h=>by
  simp only[List.lookup_cons]at h;split at h
  ·rename_i hu;simp at h hu;subst h;subst hu;simp
  ·exact List.mem_cons_of_mem _ (N7 h)
theorem aW:∀{θ:List (Nat × Option Nat)},Ow θ=true-> ∀{t u v:Nat},(t,some v)∈θ->(u,some v)∈θ->t=u
 | [],_,t,u,v,h,_=>by simp at h
 |(p,q)::θ,hn,t,u,v,h1,h2=>by
  have hn':Ow θ=true:=by cases q<;>(simp only[Ow,Ab]at hn;exact hn.2)
  have key:∀x,(p,some v)=(p,q)->(x,some v)∈θ->False:=by intro x hq hx;cases hq;simp only[Ow,Ab,AZ]at hn;have:=hn.1 _ hx;simp at this
  rcases Ae.1 h1 with h3|h3<;>rcases Ae.1 h2 with h4|h4
  ·cases h3;cases h4;rfl
  ·cases h3;exact(key u rfl h4).elim
  ·cases h4;exact(key t rfl h3).elim
  ·exact aW hn' h3 h4
def Co(hp:List (Nat × Ah))(t:Nat):Option Nat:=match AR hp t with
 |some (.box ..)=>some 0
 |some (.row _ _ g _ _)=>some g
 |some (.cg g _)=>some g
 |some (.deep _ _ _ g _ _)=>some g
 |_=>none
def HY(hp:List (Nat × Ah))(t:Nat):Bool:=match AR hp t with
 |some (.box ..)=>true
 |some (.row ..)=>true
 |some (.deep ..)=>true
 |_=>false
def Mp(pat leaf:Option Ah)(g:GI):GI:=match pat,leaf with
 |some (.row ..),some (.deep ..)=>⟨g.top.take 1,[]⟩
 |_,_=>g
theorem zDz{p l:Option Ah}{g:GI}{b:Nat}(h:b∈(Mp p l g).top):b∈g.top:=by
 unfold Mp at h;split at h
 ·exact BA h
 ·exact h
theorem zCN{p l:Option Ah}{g:GI}{b:Nat}(h:b∈(Mp p l g).own):b∈g.own:=by
 unfold Mp at h;split at h
 ·simp only[GI.own,AE]at h;simp[GI.own,BA h]
 ·exact h
theorem zzR{p l:Option Ah}{g:GI}(h:g.own.Nodup):(Mp p l g).own.Nodup:=by
 unfold Mp;split
 ·simp only[GI.own,AE]at h ⊢;exact List.Sublist.nodup (List.Sublist.trans (List.take_sublist _ _) (List.sublist_append_left _ _)) h
 ·exact h
def DG(c:Cx)(ρ:List AV)(θ:List (Nat × Option Nat))(pat leaf:St):Cx:=
 {c with
  ρ:=ρ
  G:=λt=>if HY pat.hp t then(match θ.lookup t with|some (some t')=>Mp (AR pat.hp t) (AR leaf.hp t') (c.G t')|_=>⟨[],[]⟩)else⟨[],[]⟩
  K:=λt g=>Co pat.hp t=some g
  H:=λt _=>match θ.lookup t with|some (some t')=>c.H t' ((Co leaf.hp t').getD 0)|_=> .slice none 0 0
  U:=λt=>t<pat.nx
  E:=λt=>match AR pat.hp t with|some (.deep _ _ _ _ ep _)=>ep|_=>0}
section
variable {c:Cx} {ρ:List AV} {nv n:Nat} {es:List E} {θ:List (Nat × Option Nat)} {pat leaf:St} {sl:Nat->SV} {a:Act}
theorem OA{t b:Nat}(h:b∈((DG c ρ θ pat leaf).G t).own):HY pat.hp t=true/\ ∃t',θ.lookup t=some (some t')/\(b∈((DG c ρ θ pat leaf).G t).top->b∈(c.G t').top)/\b∈(c.G t').own:=by
 simp only[DG]at h ⊢;split at h
 ·rename_i ho;split at h
  ·rename_i t' ht;exact⟨ho,t',ht,λhb=>by rw[if_pos ho]at hb;exact zDz hb,zCN h⟩
  ·simp[GI.own]at h
 ·simp[GI.own]at h
theorem TC{b:Nat}(h:c.ok b):(DG c ρ θ pat leaf).ok b:=by refine⟨λ⟨t,ht⟩=> ?_,h.2⟩;obtain⟨_,t',_,hg,_⟩:=OA (b:=b) (by simp only[GI.own,Ac];exact .inl ht);exact h.1 ⟨t',hg ht⟩
theorem MJ(hp:ρ<+:c.ρ)(hn:ρ.length=nv){x y:E}(h:Kz nv es x y=true):x.den (ρ++(EL.of es).den c.ρ)=y.den c.ρ:=by
 obtain⟨τ,hτ⟩:=hp;have L7:x.sc nv=true->x.beq y=true->x.den (ρ++(EL.of es).den c.ρ)=y.den c.ρ:=by intro h1 h2;rw[<-E.bb c.ρ x y h2];subst hn;generalize hq:(EL.of es).den c.ρ=q;rw[E.bd ρ q τ x h1,hτ]
 unfold Kz at h;split at h
 ·rename_i i;split at h
  ·rename_i hi;exact L7 (by simpa[E.sc]using hi) h
  ·rename_i hi;split at h
   ·rename_i z hz;rw[<-E.bb c.ρ z y h];simp only[E.den,EL.dq];rw[List.getElem?_append_right (by omega),hn,List.getElem?_map,hz];rfl
   ·cases h
 ·simp only[Ab]at h;exact L7 h.1 h.2
theorem zC4(hrel:Rel c n sl (AR leaf.hp) a){s:SV}{v:Value}{y:E}(hs:SR c [s] [v])(h:JZ leaf s=some y):∃f,Rd c.w [v] [y.den c.ρ] f/\ ∀b∈f,c.ek (Cf (AR leaf.hp) [] (Bg+1) [s]) b:=
 IE (λt e hr=>hrel.ents t e hr) (Fj _) Bg h hs Bg (AQ _)
mutual
theorem vA(hrel:Rel c n sl (AR leaf.hp) a)(hp:ρ<+:c.ρ)(hn:ρ.length=nv)(CF:∀t e,(t,e)∈pat.hp->IL nv es θ pat leaf t e=true):∀(m:Nat) {p s:SV} {v:Value},Vm nv es θ pat leaf m p s=true->SR c [s] [v]->SR (DG c (ρ++(EL.of es).den c.ρ) θ pat leaf) [p] [v]
 |0,p,s,v,h,_=>by simp[Vm]at h
 |m+1,p,s,v,h,hs=>by
  unfold Vm at h;split at h
  ·exact .undef .nil
  ·rename_i x;split at h
   ·rename_i y hy;simp only[Ab,AZ,Bool.or_eq_true]at h;obtain⟨f,hf,I9⟩:=zC4 hrel hs hy;have hx:=MJ (c:=c) hp hn h.1;refine .e (by rw[show(DG c (ρ++(EL.of es).den c.ρ) θ pat leaf).ρ=ρ++(EL.of es).den c.ρ from rfl,hx];exact hf) (λb hb=> ?_) .nil;rcases I9 b hb with hb|⟨t',Nu,hb⟩
    ·exact TC hb
    ·refine⟨λ⟨u,hu⟩=> ?_, .inr (hrel.gw.allow t' b (by simp[GI.own,hb]))⟩;obtain⟨ho,v',hl,hg,Un⟩:=OA (b:=b) (by simp only[GI.own,Ac];exact .inl hu);have hv:v'=t':=by
      refine Classical.byContradiction λA9=>hrel.gw.cy v' t' A9 b Un (by simp[GI.own,hb])
     subst hv;have:=h.2 _ Nu _ (N7 hl);simp only[bne_self_eq_false,Bj,false_or]at this;unfold HY at ho;split at this
     ·rename_i hh;rw[hh]at ho;simp at ho
     ·rename_i hh;rw[hh]at ho;simp at ho
     ·cases this
   ·cases h
  ·split at h
   ·cases hs with
    |cr _=>exact .cr .nil
   ·cases h
  ·split at h
   ·cases hs with
    |emp _=>exact .emp .nil
   ·cases hs with
    |cr _=>exact .emp .nil
   ·cases h
  ·rename_i t g;have key:∀t' v',Co pat.hp t=some g->θ.lookup t=some (some t')->Lv leaf.hp t' v'=true->SR c [.own t' v'] [v]->SR (DG c (ρ++(EL.of es).den c.ρ) θ pat leaf) [.own t g] [v]:=by
    intro t' v' hg hl hv hs;cases hs with
    |own h1 h2 _=>
     refine .own hg ?_ .nil;show(match θ.lookup t with|some (some t')=>c.H t' ((Co leaf.hp t').getD 0)|_=>Value.slice none 0 0)=_;rw[hl];have:(Co leaf.hp t').getD 0=v':=by
      unfold Lv at hv;unfold Co;split at hv
      ·rename_i hh;rw[hh];simpa using(AO.1 hv).symm
      ·rename_i hh;rw[hh];simpa using(AO.1 hv).symm
      ·rename_i hh;rw[hh];simpa using(AO.1 hv).symm
      ·cases hv
     show c.H t' ((Co leaf.hp t').getD 0)=_;rw[this];exact h2
   split at h
   ·rename_i g' _ _ EJ;simp only[Ab,AO]at h;obtain⟨rfl,h⟩:=h;split at h
    ·simp only[Ab,AO]at h;exact key _ _ (by simp[Co,EJ]) h.1 h.2 hs
    ·rw[AO]at h;cases hs with
     |cr _=>refine .own (p:=none) (q:=0) (r:=0) (by show Co pat.hp t=some g;simp[Co,EJ]) ?_ .nil;show(match θ.lookup t with|some (some t')=>c.H t' ((Co leaf.hp t').getD 0)|_=>Value.slice none 0 0)=_;rw[h]
    ·cases h
   ·rename_i g' _ EJ;simp only[Ab,AO]at h;obtain⟨rfl,h⟩:=h;split at h
    ·simp only[Ab,AO]at h;exact key _ _ (by simp[Co,EJ]) h.1 h.2 hs
    ·cases h
   ·rename_i g' _ _ EJ;simp only[Ab,AO]at h;obtain⟨rfl,h⟩:=h;split at h
    ·simp only[Ab,AO]at h;exact key _ _ (by simp[Co,EJ]) h.1 h.2 hs
    ·rw[AO]at h;cases hs with
     |cr _=>refine .own (p:=none) (q:=0) (r:=0) (by show Co pat.hp t=some g;simp[Co,EJ]) ?_ .nil;show(match θ.lookup t with|some (some t')=>c.H t' ((Co leaf.hp t').getD 0)|_=>Value.slice none 0 0)=_;rw[h]
    ·cases h
   ·cases h
  ·rename_i t o;split at h
   ·rename_i ty g cs EJ;split at h
    ·rename_i t' o';simp only[Ab,AO]at h;obtain⟨rfl,hl⟩:=h;have IV:=CF t _ (JO EJ);simp only[IL,hl]at IV;split at IV
     ·rename_i DA;cases hs with
      |cw h1 h2 _=>
       refine .cw (by show Co pat.hp t=some 0;simp[Co,EJ]) ?_ .nil;show(match θ.lookup t with|some (some t')=>c.H t' ((Co leaf.hp t').getD 0)|_=>Value.slice none 0 0)=_;rw[hl];have:(Co leaf.hp t').getD 0=0:=by simp[Co,DA]
       simp only[this];exact h2
     ·cases IV
    ·cases h
   ·cases h
  ·cases h
  ·rename_i x i z o;split at h
   ·rename_i y j z' o';simp only[Ab,AO]at h;obtain⟨⟨⟨⟨⟨rfl,rfl⟩,h1⟩,h2⟩,h3⟩,h4⟩:=h;have hx:x.den (ρ++(EL.of es).den c.ρ)=y.den c.ρ:=by
     obtain⟨τ,hτ⟩:=hp;rw[<-E.bb c.ρ x y h2];subst hn;generalize (EL.of es).den c.ρ=q;rw[E.bd ρ q τ x h1,hτ]
    have hi:i.den (ρ++(EL.of es).den c.ρ)=j.den c.ρ:=by obtain⟨τ,hτ⟩:=hp;rw[<-E.bb c.ρ i j h4];subst hn;generalize (EL.of es).den c.ρ=q;rw[E.bd ρ q τ i h3,hτ]
    cases hs with
    |dj g1 g2 g3 g4 g5 g6 _=>refine .dj (f:=_) (by show Rd c.w _ [x.den (ρ++(EL.of es).den c.ρ)] _;rw[hx];exact g1) (λb hb=>TC (g2 b hb)) (by show i.den (ρ++(EL.of es).den c.ρ)=_;rw[hi];exact g3) g4 g5 (by show((x.den (ρ++(EL.of es).den c.ρ)).nth _).cells.length=_;rw[hx];exact g6) .nil
   ·cases h
  ·rename_i x o;split at h
   ·rename_i y o';simp only[Ab,AO]at h;obtain⟨⟨rfl,h1⟩,h2⟩:=h;have hx:x.den (ρ++(EL.of es).den c.ρ)=y.den c.ρ:=by
     obtain⟨τ,hτ⟩:=hp;rw[<-E.bb c.ρ x y h2];subst hn;generalize (EL.of es).den c.ρ=q;rw[E.bd ρ q τ x h1,hτ]
    cases hs with
    |dn g1 g2 _=>exact .dn (by show Rd c.w _ [x.den (ρ++(EL.of es).den c.ρ)] _;rw[hx];exact g1) (λb hb=>TC (g2 b hb)) .nil
   ·cases h
  ·split at h
   ·cases hs with
    |agg h9 h1 _=>exact .agg h9 (Xq hrel hp hn CF m h h1) .nil
   ·cases h
  ·split at h
   ·cases hs with
    |tup h1 _=>exact .tup (Xq hrel hp hn CF m h h1) .nil
   ·cases h
  ·split at h
   ·simp only[Ab,AO]at h;obtain⟨rfl,h⟩:=h;cases hs with
    |fn h1 _=>exact .fn (Xq hrel hp hn CF m h h1) .nil
   ·cases h
  ·cases h
  ·cases h
  ·cases h
  ·cases h
  ·rename_i i;split at h
   ·rename_i j;simp only[Ab,AO,AJ]at h;obtain⟨rfl,hi⟩:=h;cases hs with
    |lent g1 _=>
     have hx:(E.var i).den (ρ++(EL.of es).den c.ρ)=(E.var i).den c.ρ:=by obtain⟨τ,hτ⟩:=hp;subst hn;generalize (EL.of es).den c.ρ=q;rw[E.bd ρ q τ (.var i) (by simpa[E.sc]using hi),hτ]
     exact .lent (show c.A.lo v ((E.var i).den (ρ++(EL.of es).den c.ρ)) by rw[hx];exact g1) .nil
   ·cases h
theorem Xq(hrel:Rel c n sl (AR leaf.hp) a)(hp:ρ<+:c.ρ)(hn:ρ.length=nv)(CF:∀t e,(t,e)∈pat.hp->IL nv es θ pat leaf t e=true):∀(m:Nat) {ps ss:List SV} {vs:List Value},Ia nv es θ pat leaf m ps ss=true->SR c ss vs->SR (DG c (ρ++(EL.of es).den c.ρ) θ pat leaf) ps vs
 |0,ps,ss,vs,h,_=>by simp[Ia]at h
 |m+1,[],[],vs,h,hs=>by cases hs;exact .nil
 |m+1,p::ps,[],vs,h,hs=>by simp[Ia]at h
 |m+1,[],s::ss,vs,h,hs=>by simp[Ia]at h
 |m+1,p::ps,s::ss,[],h,hs=>by have:=hs.len;simp at this
 |m+1,p::ps,s::ss,v::vs,h,hs=>by simp only[Ia,Ab]at h;obtain⟨h1,h2⟩:=hs.ct;exact(vA hrel hp hn CF m h.1 h1).cons (Xq hrel hp hn CF m h.2 h2)
end
theorem zzj(hrel:Rel c n sl (AR leaf.hp) a)(hp:ρ<+:c.ρ)(hn:ρ.length=nv)(CF:∀t e,(t,e)∈pat.hp->IL nv es θ pat leaf t e=true)(hθ:Ow θ=true){t:Nat}{e:Ah}(ht:AR pat.hp t=some e):DJ (DG c (ρ++(EL.of es).den c.ρ) θ pat leaf) t e:=by
 have h:=CF t e (JO ht);have rT:HY pat.hp t=false->(DG c (ρ++(EL.of es).den c.ρ) θ pat leaf).G t=⟨[],[]⟩:=by intro h0;simp only[DG];rw[if_neg (by rw[h0];simp)]
 have rU:∀t',HY pat.hp t=true->θ.lookup t=some (some t')->(DG c (ρ++(EL.of es).den c.ρ) θ pat leaf).G t=Mp (AR pat.hp t) (AR leaf.hp t') (c.G t'):=by intro t' h0 hl;simp only[DG];rw[if_pos h0,hl]
 have Uc:∀t',HY pat.hp t=true->θ.lookup t=some (some t')->(∀q1 q2 q3 q4 q5 q6,AR leaf.hp t'=some (.deep q1 q2 q3 q4 q5 q6)-> ∀p1 p2 p3 p4 p5,e≠ .row p1 p2 p3 p4 p5)->(DG c (ρ++(EL.of es).den c.ρ) θ pat leaf).G t=c.G t':=by
  intro t' h0 hl Dl;rw[rU t' h0 hl,ht];unfold Mp;split
  ·rename_i h1 h2;simp only[Ad]at h1;exact absurd h1 (Dl _ _ _ _ _ _ h2 _ _ _ _ _)
  ·rfl
 have LV:∀t' g,θ.lookup t=some (some t')->Co leaf.hp t'=some g-> ∀g',(DG c (ρ++(EL.of es).den c.ρ) θ pat leaf).H t g'=c.H t' g:=by intro t' g hl hg g';simp only[DG,hl,hg,Dt]
 have E4:∀g,Co pat.hp t=some g-> ∀g',(DG c (ρ++(EL.of es).den c.ρ) θ pat leaf).K t g'->g'<=g:=by intro g hg g' hk;have Cy:Co pat.hp t=some g':=hk;rw[hg]at Cy;cases Cy;exact AQ _
 cases e with
 |box ty g cs=>
  simp only[IL]at h;split at h
  ·rename_i t' hl;split at h
   ·rename_i ty' g' ds DA;simp only[Ab,AO]at h;obtain⟨⟨rfl,rfl⟩,h⟩:=h;obtain⟨b,C,h1,h2,h3,h4,h5,h6,h7⟩:=hrel.ents t' _ (by rw[DA];rfl);have hg:=Uc t' (by simp[HY,ht]) hl (by intros;simp);exact⟨b,C,by show Co pat.hp t=some 0;simp[Co,ht],by rw[LV t' 0 hl (by simp[Co,DA])];exact h2,by rw[hg];exact h3,by rw[hg];exact h4,h5,h6,Xq hrel hp hn CF _ h h7⟩
   ·cases h
  ·cases h
 |row et z g x d=>
  simp only[IL]at h;split at h
  ·rename_i t' hl;split at h
   ·rename_i et' z' g' y d' DA;simp only[Ab,AO,Bool.or_eq_true,Be]at h;obtain⟨⟨⟨rfl,rfl⟩,hx⟩,hd⟩:=h;obtain⟨h1,h2,N,h3,h4,h5,h6⟩:=hrel.ents t' _ (by rw[DA];rfl);have hg:=Uc t' (by simp[HY,ht]) hl (λ_ _ _ _ _ _ hh=>by rw[DA]at hh;cases hh);have Ee:=MJ hp hn hx;have hK:Co pat.hp t=some g:=by simp[Co,ht]
    refine⟨hK,E4 g hK,N,?_,λb hb=>TC (h4 b hb),λD1=> ?_,λhdf=> ?_⟩
    ·rw[LV t' g' hl (by simp[Co,DA]),hg];show De c.w et z _ (x.den (ρ++(EL.of es).den c.ρ)) _ N;rw[Ee];exact h3
    ·rw[hg];exact h5 (by rcases hd with hd|hd;rw[D1]at hd;cases hd;exact hd)
    ·rw[hg];cases d' with
     |false=>exact h6 rfl
     |true=>obtain⟨u1,u2⟩:=h5 rfl;rw[u2];exact u1
   ·rename_i et' z' l' g' ep' y DA;simp only[Ab,AO,Be]at h;obtain⟨⟨⟨rfl,rfl⟩,hx⟩,rfl⟩:=h;obtain⟨h1,h2,_,h3,h4⟩:=hrel.ents t' _ (by rw[DA];rfl);have hg:(DG c (ρ++(EL.of es).den c.ρ) θ pat leaf).G t=⟨(c.G t').top.take 1,[]⟩:=by
     rw[rU t' (by simp[HY,ht]) hl,ht,DA];rfl
    have Ee:=MJ hp hn hx;have hK:Co pat.hp t=some g:=by simp[Co,ht]
    obtain⟨f,k1,k2⟩:=h3.ownRow;have Cb:((c.G t').top.take 1++(c.G t').top.drop 1).Nodup:=by rw[Ck];have:=hrel.gw.nodup t';simp only[GI.own,h4,AE]at this;exact this
    refine⟨hK,E4 g hK,f,?_,λb hb=> ?_,λD1=>(by cases D1),λ_=>by rw[hg]⟩
    ·rw[LV t' g' hl (by simp[Co,DA]),hg];show De c.w et z _ (x.den (ρ++(EL.of es).den c.ρ)) _ f;rw[Ee];exact k1
    ·have CX:b∈(c.G t').top:=BM (k2 b hb);refine⟨λ⟨u,hu⟩=> ?_, .inr (hrel.gw.allow t' b (by simp[GI.own,CX]))⟩;obtain⟨_,v',BY,_,Un⟩:=OA (b:=b) (by simp only[GI.own,Ac];exact .inl hu);have hv:v'=t':=Classical.byContradiction λA9=>hrel.gw.cy v' t' A9 b Un (by simp[GI.own,CX]);subst hv;have:=aW hθ (N7 BY) (N7 hl);subst this;rw[hg]at hu;exact(List.nodup_append.1 Cb).2.2 b hu b (k2 b hb) rfl
   ·cases h
  ·rename_i hl;simp only[Ab,AJ]at h;have Ee:=MJ hp hn h.1;have hK:Co pat.hp t=some g:=by simp[Co,ht]
   have hg:(DG c (ρ++(EL.of es).den c.ρ) θ pat leaf).G t=⟨[],[]⟩:=by simp[DG,hl]
   refine⟨hK,E4 g hK,[],⟨[],?_,by simp,h.2, .inl ⟨rfl,⟨none,?_⟩,by rw[hg],rfl⟩⟩,by simp,λ_=>⟨rfl,by rw[hg]⟩,λ_=>by rw[hg]⟩
   ·show x.den (ρ++(EL.of es).den c.ρ)=_;rw[Ee];rfl
   ·simp[DG,hl]
  ·cases h
 |cg g x=>
  have hg:=rT (by simp[HY,ht]);have hK:Co pat.hp t=some g:=by simp[Co,ht]
  simp only[IL]at h;split at h
  ·rename_i t' hl;have I9:∀b,b∈(c.G t').top->(DG c (ρ++(EL.of es).den c.ρ) θ pat leaf).ok b:=by
    intro b hb;refine⟨λ⟨u,hu⟩=> ?_, .inr (hrel.gw.allow t' b (by simp[GI.own,hb]))⟩;obtain⟨ho,v',BY,CG,Un⟩:=OA (b:=b) (by simp only[GI.own,Ac];exact .inl hu);have hv:v'=t':=Classical.byContradiction λA9=>hrel.gw.cy v' t' A9 b Un (by simp[GI.own,hb]);subst hv;have:=aW hθ (N7 BY) (N7 hl);subst this;simp[HY,ht]at ho
   split at h
   ·rename_i et' z' g' y d' DA;obtain⟨h1,h2,N,h3,h4,h5,h6⟩:=hrel.ents t' _ (by rw[DA];rfl);obtain⟨f,r1,r2,_⟩:=h3.rd;refine⟨hK,⟨f,?_,λb hb=>(r2 b hb).elim (I9 b) λhb=>TC (h4 b hb)⟩,by rw[hg],by rw[hg]⟩;rw[LV t' g' hl (by simp[Co,DA])];show Rd c.w _ [x.den (ρ++(EL.of es).den c.ρ)] f;rw[MJ hp hn h];exact r1
   ·rename_i g' y DA;obtain⟨h1,⟨f,r1,r2⟩,_,_⟩:=hrel.ents t' _ (by rw[DA];rfl);refine⟨hK,⟨f,?_,λb hb=>TC (r2 b hb)⟩,by rw[hg],by rw[hg]⟩;rw[LV t' g' hl (by simp[Co,DA])];show Rd c.w _ [x.den (ρ++(EL.of es).den c.ρ)] f;rw[MJ hp hn h];exact r1
   ·rename_i et' z' l' g' ep' y DA;obtain⟨h1,h2,_,h3,h4⟩:=hrel.ents t' _ (by rw[DA];rfl);obtain⟨f,r1,r2⟩:=h3.rd;refine⟨hK,⟨f,?_,λb hb=>I9 b (r2 b hb)⟩,by rw[hg],by rw[hg]⟩;rw[LV t' g' hl (by simp[Co,DA])];show Rd c.w _ [x.den (ρ++(EL.of es).den c.ρ)] f;rw[MJ hp hn h];exact r1
   ·cases h
  ·cases h
 |hol=>simp[IL]at h
 |pre=>simp[IL]at h
 |deep et z dl g ep x=>
  have hE:(DG c (ρ++(EL.of es).den c.ρ) θ pat leaf).E t=ep:=by simp[DG,ht]
  have hK:Co pat.hp t=some g:=by simp[Co,ht]
  simp only[IL]at h;split at h
  ·rename_i t' hl;split at h
   ·rename_i et' z' dl' g' ep' y DA;simp only[Ab,AO]at h;obtain⟨⟨⟨rfl,rfl⟩,M6⟩,hx⟩:=h;have M6:=AA.fh M6;subst M6;obtain⟨h1,h2,_,h3,h4⟩:=hrel.ents t' _ (by rw[DA];rfl);have hg:=Uc t' (by simp[HY,ht]) hl (by intros;simp);refine⟨hK,E4 g hK,hE,?_,by rw[hg];exact h4⟩;rw[LV t' g' hl (by simp[Co,DA]),hg];show DC c.w _ _ [x.den (ρ++(EL.of es).den c.ρ)] _;rw[MJ hp hn hx];exact h3
   ·cases h
  ·rename_i hl;have hg:(DG c (ρ++(EL.of es).den c.ρ) θ pat leaf).G t=⟨[],[]⟩:=by simp[DG,hl]
   simp only[Ab,AJ,AO]at h;refine⟨hK,E4 g hK,hE,?_,by rw[hg]⟩;have e1:(DG c (ρ++(EL.of es).den c.ρ) θ pat leaf).H t g= .slice none 0 0:=by simp[DG,hl]
   rw[e1,hg];show DC c.w _ _ [x.den (ρ++(EL.of es).den c.ρ)] _;rw[MJ hp hn h.1.1];exact .void h.1.2 (by rw[AA.ay];exact h.2) .nil
  ·cases h
 |gd gs e=>simp[IL]at h
 |dead=>have hg:=rT (by simp[HY,ht]);exact⟨by rw[hg],by rw[hg]⟩
end
theorem zx7{nv:Nat}{es:List E}{θ:List (Nat × Option Nat)}{pat leaf:St}:∀(m:Nat) {ps ss:List SV},Ia nv es θ pat leaf m ps ss=true-> ∀{i:Nat} {p:SV},ps[i]?=some p-> ∃s k,ss[i]?=some s/\Vm nv es θ pat leaf k p s=true
 |0,ps,ss,h,_,_,_=>by simp[Ia]at h
 |m+1,[],ss,h,i,p,hp=>by simp at hp
 |m+1,q::ps,[],h,i,p,hp=>by simp[Ia]at h
 |m+1,q::ps,s::ss,h,i,p,hp=>by
  simp only[Ia,Ab]at h;cases i with
  |zero=>simp at hp;subst hp;exact⟨s,m,rfl,h.1⟩
  |succ i=>simpa using zx7 m h.2 (by simpa using hp)
theorem zCY:dA:=by
 intro F nv pat τ es ρ ρ' a w hi hn hp hr;obtain⟨c,rfl,rfl,ND,hA,dJ,GO,hU,hrel⟩:=hr;unfold Lj at hi;simp only at hi;split at hi
 ·rename_i A5;simp only[Ad]at hi;generalize eM:(List.range (pat.nv-nv)).map (λj=>((Qy nv pat τ true pat.hp (Qy nv pat τ false pat.hp (NR nv pat τ 2000 ⟨[],[]⟩ pat.sl τ.sl))).as_.lookup (nv+j)).getD (.int .i64 0))=es0 at A5 hi;subst hi;generalize (Qy nv pat τ true pat.hp (Qy nv pat τ false pat.hp (NR nv pat τ 2000 ⟨[],[]⟩ pat.sl τ.sl))).θ=θ at A5;clear eM;simp only[wR,Ab,AO,AZ,AJ]at A5;obtain⟨⟨⟨⟨⟨⟨h1,hθ⟩,hlen⟩,Dw⟩,B5⟩,hnx⟩,UZ⟩:=A5;have CF:∀t e,(t,e)∈pat.hp->IL nv es0 θ pat τ t e=true:=λt e he=>(B5 _ he).1;have AD:∀t e,(t,e)∈pat.hp->t<pat.nx:=λt e he=>(B5 _ he).2;have UT:∀t e,AR pat.hp t=some e-> ∀gs e',e≠ .gd gs e':=by
   rintro t e he gs e' rfl;have:=CF t _ (JO he);simp[IL]at this
  have AN:∀t e e',AR pat.hp t=some e->(CR (ρ++(EL.of es0).den c.ρ) (AR pat.hp t) e'↔e'=e):=by
   intro t e e' he;rw[he];cases e with
   |gd gs e9=>exact absurd rfl (UT t _ he gs e9)
   |_=>simp[CR,eq_comm]
  refine⟨DG c (ρ++(EL.of es0).den c.ρ) θ pat τ,rfl,rfl,ND,hA,dJ,?_,λt ht=>ht,hrel.defers,by rw[hlen];exact hrel.size,⟨hrel.base.os,hrel.base.tape,hrel.base.output,hrel.base.size,λt v QZ=> ?_,hrel.base.block,hrel.base.pk,hrel.base.lo⟩,λi=> ?_,λt e hr=> ?_,λt Dl=> ?_,⟨λt=> ?_,λt u Nx b hb Cq=> ?_,λt b hb=> ?_,λt b hb=> ?_⟩,λt g hk=> ?_,λt e he=>AD t e (JO he)⟩
  ·rw[h1,EL.dq];simp[hn]
  ·have Pb:OJ t=true:=F.mg t v (by rw[<-hA];exact QZ);refine⟨by
    show t<pat.nx;unfold OJ at Pb;simp only[Ab,AJ]at Pb;omega,λhk=> ?_⟩
   have Cy:Co pat.hp t=some 0:=hk;obtain⟨e,gF⟩:∃e,AR pat.hp t=some e:=by
    unfold Co at Cy;cases hh:AR pat.hp t with
    |none=>rw[hh]at Cy;cases Cy
    |some e=>exact⟨e,rfl⟩
   have Ed:=UZ _ (JO gF);simp only[Pb,Bool.not_true,Bool.false_or]at Ed;have main:θ.lookup t=some (some t)->Co τ.hp t=some 0->c.K t 0->(DG c (ρ++(EL.of es0).den c.ρ) θ pat τ).H t 0=v:=by intro hl hg hK;simp only[DG,hl,hg,Dt];exact(hrel.base.pins t v QZ).2 hK
   unfold NI at Ed;simp only[Co,gF]at Cy;rw[gF]at Ed;cases e with
   |box ty g cs=>
    simp only[Ab,AO]at Ed;obtain⟨hl,hb⟩:=Ed;split at hb
    ·rename_i ty' g' cs' DA;obtain⟨b,C,q1,_⟩:=hrel.ents t _ (by rw[DA];rfl);exact main hl (by simp[Co,DA]) q1
    ·cases hb
   |row ety sz g x d=>
    simp only[Ad]at Cy;subst Cy;simp only[bne_self_eq_false,Bool.false_or,Ab,AO]at Ed;obtain⟨hl,hb⟩:=Ed;split at hb
    ·rename_i ety' sz' g' x' d' DA;rw[AO]at hb;subst hb;obtain⟨q1,_⟩:=hrel.ents t _ (by rw[DA];rfl);exact main hl (by simp[Co,DA]) q1
    ·cases hb
   |cg g x=>simp only[Ad]at Cy;subst Cy;simp at Ed
   |gd=>simp at Cy
   |dead=>simp at Cy
   |hol=>simp at Cy
   |pre=>simp at Cy
   |deep ety sz l g ep x=>
    simp only[Ad]at Cy;subst Cy;simp only[bne_self_eq_false,Bool.false_or,Ab,AO]at Ed;obtain⟨hl,hb⟩:=Ed;split at hb
    ·rename_i DA;rw[AO]at hb;subst hb;obtain⟨q1,_⟩:=hrel.ents t _ (by rw[DA];rfl);exact main hl (by simp[Co,DA]) q1
    ·cases hb
  ·unfold BX;cases UY:pat.sl[i]? with
   |none=>exact .undef .nil
   |some p=>obtain⟨s,k,hs,hk⟩:=zx7 _ Dw UY;have:=hrel.db i;unfold BX at this;rw[hs]at this;exact vA hrel hp hn CF k hk this
  ·cases he:AR pat.hp t with
   |none=>rw[he]at hr;exact hr.elim
   |some e9=>have O3:=(AN t e9 e he).1 hr;subst O3;exact zzj hrel hp hn CF hθ he
  ·have:HY pat.hp t=false:=by
    cases he:AR pat.hp t with
    |none=>simp[HY,he]
    |some e9=>exact absurd ((AN t e9 e9 he).2 rfl) (Dl e9)
   simp[DG,this]
  ·simp only[DG];split
   ·split
    ·exact zzR (hrel.gw.nodup _)
    ·simp[GI.own]
   ·simp[GI.own]
  ·obtain⟨_,t',hl,_,CX⟩:=OA hb;obtain⟨_,u',BY,_,IW⟩:=OA Cq;by_cases hh:t'=u'
   ·subst hh;exact Nx (aW hθ (N7 hl) (N7 BY))
   ·exact hrel.gw.cy t' u' hh b CX IW
  ·obtain⟨_,t',hl,_,CX⟩:=OA hb;exact hrel.gw.allow t' b CX
  ·obtain⟨_,t',hl,_,CX⟩:=OA hb;exact hrel.gw.inb t' b CX
  ·have Cy:Co pat.hp t=some g:=hk;unfold Co at Cy;show t<pat.nx;split at Cy
   ·rename_i hh;exact AD t _ (JO hh)
   ·rename_i hh;exact AD t _ (JO hh)
   ·rename_i hh;exact AD t _ (JO hh)
   ·rename_i hh;exact AD t _ (JO hh)
   ·cases Cy
 ·cases hi
theorem WH(l:List DT):∀(n k o m:Nat),k<n->o+m<=l.length->((Bz n l).drop (k*l.length+o)).take m=(l.drop o).take m
 |0,k,_,_,h,_=>by omega
 |n+1,0,o,m,_,hm=>by rw[Qj,Nat.zero_mul,Nat.zero_add,List.drop_append_of_le_length (by omega),List.take_append_of_le_length (by simp;omega)]
 |n+1,k+1,o,m,h,hm=>by have ih:=WH l n k o m (by omega) hm;rw[<-ih,Qj,show(k+1)*l.length+o=l.length+(k*l.length+o)from by rw[Nat.add_mul];omega,List.drop_append,List.drop_eq_nil_of_le (by omega)];simp
theorem DC.elem{w:World}{ys:List AV}{l:List DT}{cells:List Value}{N:List Nat}{z:Nat}(h:DC w (Bz ys.length l) cells (Aq ys) N)(hl:l.length=z)(h7:∀y∈ys,y.cells.length=z){k o m:Nat}(hk:k<ys.length)(hm:o+m<=z):
  ∃M,(∀b∈M,b∈N)/\DC w ((l.drop o).take m) ((cells.drop (k*z+o)).take m) ((((AV.sl ys).nth k).cells.drop o).take m) M:=by
 obtain⟨N1,N2,N3,rfl,_,h2,_⟩:=h.split (k*z+o) m;subst hl;rw[WH l _ _ _ _ hk hm,WT ys h7 k _ (Ot hk) o m hm]at h2;exact⟨N2,λb hb=>by simp[hb],h2⟩
theorem Rd.kz{w:World}{vs:List Value}{x:AV}{f:List Nat}{o m:Nat}{g:Bool}(h:Rd w vs ((x.cells.drop o).take m) f)(h9:∀u∈vs,u.oneCell'=true)(hm:o+m<=x.cells.length)(h1:g=false->m=1):
  Rd w [if g then .agg vs.toArray else vs.headD undef] [x.fld o m g] f:=by
 cases g with
 |true=>have:=Rd.agg h9 h .nil;simpa[AV.fld]using this
 |false=>
  have:=h1 rfl;subst this;have e2:(x.cells.drop o).take 1=[x.cells[o]'(by omega)]:=by rw[Br (by omega),List.take_succ_cons,List.take_zero]
  rw[e2]at h;have hl:=h.len
  match vs,hl with
  | [v],_=>simpa[AV.fld,show o<x.cells.length by omega]using h
section
variable {P:Program} {c:Cx} {n nx:Nat} {sl sl0:Nat->SV} {hp hp0:Nat->Option Ah} {a:Act} {o:Oper} {gs:Gd} {e:Bn} {sg:B4} {nv:Nat}
theorem zuV{w:World}{b p:Nat}{t:TypeId}{C:Array Value}{ty:TypeId}{fz:Nat × Nat}(hb:w.heap[b]?=some (.cells C ty fz))(ht:DI P t=true)(hg:Ap P t=true\/P.cellsOf t=1)(hp:p+P.cellsOf t<=C.size):
  (Instr.loadAt t (.pointer (some ⟨b,p,none⟩))).run P w= .ok (if Ap P t then .agg ((C.toList.drop p).take (P.cellsOf t)).toArray else((C.toList.drop p).take (P.cellsOf t)).headD undef) w:=by
 have Nj:((C.toList.drop p).take (P.cellsOf t)).length=P.cellsOf t:=by rw[Au,Bx,BL];omega
 refine S4 ht _ (λ_=>Nj) (λh=> ?_) (λj u hu=> ?_)
 ·rw[Nj];rcases hg with h'|h';rw[h]at h';cases h';exact h'
 ·rw[EU hb];rw[List.getElem?_take]at hu;split at hu
  ·simpa using hu
  ·cases hu
theorem zAV{b g e z ep:Nat}{l:List DT}{c0 i:E}{t:TypeId}{k':Nat}{v:Value}(hE:DJ c b (.deep e z l g ep c0))(hr:SR c [.cz b g i z k'] [v])(BC:DI P t=true)(hle:k'+P.cellsOf t<=z)(AM:Ap P t=true\/P.cellsOf t=1):
  ∃u,(Instr.loadAt t v).run P c.w= .ok u c.w/\(((l.drop k').take (P.cellsOf t)).all DT.ch=true->Rd c.w [u] [(E.fld (.idx c0 i) k' (P.cellsOf t) (Ap P t)).den c.ρ] [])/\Rh c b u ((E.fld (.idx c0 i) k' (P.cellsOf t) (Ap P t)).den c.ρ)/\(Ap P t=false->Jr c b g (some (i,z,k')) u):=by
 obtain⟨q1,q2,q3,q4,q5⟩:=hE;cases hr with
 |cz h1 h2 h3 h4 h5 _=>
  rename_i q len cap kk k h6;obtain⟨d1,d2,⟨a9,d3,_⟩|⟨g9,cap9,C,ys,N1,d3,d4,d5,d6,d7,d8,d9,d10,d11,d12⟩⟩:=q4.inv
  ·rw[h2]at d3;cases d3;omega
  ·rw[h2]at d3;cases d3;rw[AA.ay]at d2 d12;have hk:k.toNat<ys.length:=by omega
   have hmul:(k.toNat+1)*z<=ys.length*z:=BF _ (by omega);have E9:ys.length*z<=cap*z:=BF _ d7;rw[Nat.add_mul]at hmul;have AW:=zuV (P:=P) (t:=t) (p:=k.toNat*z+k') d6 BC AM (by omega);obtain⟨M,m1,m2⟩:=d12.elem d2 d10 hk hle;have GC:((C.toList.take (ys.length*z)).drop (k.toNat*z+k')).take (P.cellsOf t)=(C.toList.drop (k.toNat*z+k')).take (P.cellsOf t):=by rw[List.drop_take,List.take_take,Nat.min_eq_left (by omega)]
   rw[GC]at m2;have Cs:∀u∈(C.toList.drop (k.toNat*z+k')).take (P.cellsOf t),u.oneCell'=true:=λu hu=>d11 u (by rw[<-GC]at hu;exact BM (BA hu))
   have tD:((AV.sl ys).nth k.toNat).cells.length=z:=d10 _ (List.mem_of_getElem? (Ot hk));have Cw:(E.fld (.idx c0 i) k' (P.cellsOf t) (Ap P t)).den c.ρ=((AV.sl ys).nth k.toNat).fld k' (P.cellsOf t) (Ap P t):=by simp only[E.den,d4,h3,AV.idx]
   have Lb:Ap P t=false->P.cellsOf t=1:=λh=>by rcases AM with h'|h';rw[h]at h';cases h';exact h'
   refine⟨_,AW,λhf=> ?_,?_,λhf=> ?_⟩
   ·rw[Cw];exact(m2.ji hf).kz Cs (by omega) Lb
   ·obtain⟨f,r1,r2⟩:=m2.rd;rw[Cw];exact⟨f,r1.kz Cs (by omega) Lb,λb hb=> .inr (by rw[d5];simp[m1 b (r2 b hb)])⟩
   ·refine⟨_,_,_,C,_,_,kk,k,h2,by rw[d5];simp,d6,h3,h4,h5,?_⟩;have Cl:=Lb hf;have AD:k.toNat*z+k'<C.size:=by omega
    have e1:(C.toList.drop (k.toNat*z+k')).take 1=[C[k.toNat*z+k']]:=by rw[Br (by simpa using AD),List.take_succ_cons,List.take_zero];simp
    rw[hf,Cl,e1];simp[AD]
end
section
variable {P:Program} {c:Cx} {n nx:Nat} {sl sl0:Nat->SV} {hp hp0:Nat->Option Ah} {a:Act} {o:Oper} {gs:Gd} {e:Bn} {sg:B4} {nv:Nat}
theorem BV.c8:∀l:BV,BV.of l.toList=l
 | .nil=>rfl
 | .cons s l=>by simp[BV.toList,BV.of,BV.c8 l]
theorem zBL(h:BJ P c n nx sl hp a sl0 hp0 o gs){t:TypeId}{x:Operand}(ho:o.op= .load t x)(he:B2 P sg sl0 hp0 nv nx gs o=some e)(hc:∀q∈e.cq,Cn.den c.ρ q):AI P o c n nx sl hp gs a e:=by
 have hm:x∈o.op.operands:=by simp[ho,Op.operands]
 simp only[B2,ho,Ax,Av]at he;obtain⟨s,hs,e1,he,rfl⟩:=he;have hr:=(h.c7 hs hm).asPtr (λq hq=>hc q (by simp[hq]));have sD:∀q∈e1.cq,Cn.den c.ρ q:=λq hq=>hc q (by simp[hq]);have ex:(execOp a.eval o).run P c.w=((Instr.loadAt t (a.eval x)).run P c.w).andThen λv w=> .ok (.value v) w:=by simp[execOp,ho]
 unfold u0 at he;split at he
 ·cases he
 rename_i BC;have BC:DI P t=true:=by simpa using BC
 generalize Bh:(asPtr s).1=s1 at he hr;split at he
 ·rename_i b o';split at he
  ·rename_i ty g cs hl;obtain⟨s2,Bi,rfl⟩:=Av.1 he;generalize ha:a.eval x=v at hr ex;cases hr with
   |cw h1 h2 _=>
    rename_i q;obtain⟨q',C,_,e2,e3,e4,e5,e5',e6⟩:=h.eh b _ (CU hl h.gs);rw[h2]at e2;cases e2;unfold QI at Bi;have hlen:=e6.len;split at Bi
    ·rename_i AM;split at Bi
     ·rename_i hle;simp at Bi;subst Bi;obtain⟨r1,r2⟩:=e6.split o';obtain⟨r3,r4⟩:=r2.split (P.cellsOf t);have:=SR.agg (cs:=BV.of ((cs.drop o').take (P.cellsOf t))) (λu hu=>e5' u (BM (BA hu))) (by rw[BV.ay];exact r3) .nil;refine AI.pure h (v:= .agg ((C.toList.drop o').take (P.cellsOf t)).toArray) ?_ this rfl;rw[ex,S4 BC ((C.toList.drop o').take (P.cellsOf t)) (λ_=>by simp at hlen ⊢;omega) (λh=>by rw[AM]at h;cases h) (λj u hu=>by
       rw[EU e5];rw[List.getElem?_take]at hu;split at hu
       ·simpa using hu
       ·cases hu)]
      simp[AM]
     ·cases Bi
    ·rename_i AM;have AM:Ap P t=false:=by simpa using AM
     obtain⟨u,hu,r⟩:=e6.get Bi;refine AI.pure h (v:=u) ?_ r rfl;rw[ex,S4 BC [u] (λh=>by rw[AM]at h;cases h) (λ_=>rfl) (λj z hz=>by
      cases j with
      |zero=>simp at hz;subst hz;rw[EU e5];simpa using hu
      |succ j=>simp at hz)]
     simp[AM]
  ·cases he
 ·rename_i b g i sz o';split at he
  ·rename_i e0 sz' g' c0 d hl;split at he
   ·rename_i hh;obtain⟨rfl,rfl,hle,AM⟩:=hh;simp at he;subst he;generalize ha:a.eval x=v at hr ex;cases hr with
    |cz h1 h2 h3 h4 h5 _=>
     rename_i q len cap kk k h6;obtain⟨_,_,N,r1,r2,_,_⟩:=h.eh b _ (CU hl h.gs);obtain⟨f,r3,_,r4⟩:=r1.rd;obtain⟨xs,Cu,AB,h0,Bc⟩:=r1;rw[h2]at r3 Bc;have hk:k.toNat<len:=by omega
     have Jb:xs.length=len:=by
      rcases Bc with⟨_,⟨_,hv⟩,_⟩|⟨_,_,_,hv,_⟩
      ·cases hv;omega
      ·simp at hv;exact hv.2.1.symm
     have Bv:((c0.den c.ρ).nth k.toNat).cells.length=sz:=by rw[Cu];exact AB _ (List.mem_of_getElem? (Ot (xs:=xs) (by omega)))
     obtain⟨v',q',g1,g2,g3⟩:=o6 r3 hk Bv BC hle AM;refine AI.pure h (v:=v') ?_ (.e (f:=q') ?_ ?_ .nil) rfl
     ·rw[ex];rw[Nat.zero_add]at g1;simp[g1]
     ·simpa[E.den,AV.idx,h3]using g3
     ·exact λz hz=>r2 z (r4 z (g2 z hz))
   ·cases he
  ·rename_i e0 sz' l g' ep c0 hl;split at he
   ·rename_i hh;obtain⟨rfl,rfl,hle,AM⟩:=hh;generalize ha:a.eval x=v at hr ex;have hE:=h.eh b _ (CU hl h.gs);obtain⟨u,k1,k2,k3,k4⟩:=zAV (P:=P) (t:=t) hE hr BC hle AM;have AW:(execOp a.eval o).run P c.w= .ok (.value u) c.w:=by rw[ex,k1];rfl
    split at he
    ·rename_i hf;simp only[Ad]at he;subst he;exact AI.pure h AW (.e (k2 hf) (by simp) .nil) rfl
    ·simp only[Ad]at he;subst he;cases hr with
     |cz h1 _ _ _ _ _=>
      refine AI.pure h AW (.via h1 (Nat.le_of_eq hE.2.2.1.symm) (λ_=>⟨k3,?_⟩) .nil) rfl;split
      ·exact trivial
      ·rename_i Ho;exact k4 (by simpa using Ho)
   ·cases he
  ·cases he
 ·rename_i b g m pth y i sz o';split at he
  ·rename_i hh;obtain⟨hle,AM,hv⟩:=hh;have hE:=TJ h.eh h.gs hv;generalize ha:a.eval x=v at hr ex;cases hr with
   |vptr h1 h2 h3 _=>
    obtain⟨q,off,len,cap,kk,k,⟨f,p1,p2⟩,_,p4,p5,p6,p7,rfl⟩:=h3 hE;obtain⟨v',q',g1,g2,g3⟩:=o6 (fo:=o') p1 (by omega) p7 BC hle AM;have AW:(execOp a.eval o).run P c.w= .ok (.value v') c.w:=by rw[ex];simp[g1]
    have Cw:Rd c.w [v'] [(E.fld (.idx y i) o' (P.cellsOf t) (Ap P t)).den c.ρ] q':=by simpa[E.den,AV.idx,p4]using g3
    split at he
    ·simp only[Ad]at he;subst he;obtain⟨f1,f2,f3,f4⟩:=Cl sD;have hq:q'=[]:=by
      cases hg:Ap P t with
      |true=>obtain⟨cs,BI⟩:=f3 hg;obtain⟨as_,rfl,_,r⟩:=K2 Cw BI;exact HV r (by rw[BI]at f2;exact f2)
      |false=>exact HV Cw (by simpa using f4 hg)
     subst hq;exact AI.pure h AW (.e Cw (by simp) .nil) rfl
    ·simp only[Ad]at he;subst he;exact AI.pure h AW (.via h1 h2 (λ_=>⟨⟨q',Cw,λz hz=>p2 z (List.mem_of_mem_tail (g2 z hz))⟩,trivial⟩) .nil) rfl
  ·cases he
 ·rename_i y i sz o';split at he
  ·rename_i hh;obtain⟨hle,AM⟩:=hh;simp at he;subst he;generalize ha:a.eval x=v at hr ex;cases hr with
   |dj h1 h2 h3 h4 h5 h6 _=>rename_i q off len cap f kk k;obtain⟨v',q',g1,g2,g3⟩:=o6 (fo:=o') h1 (by omega) h6 BC hle AM;refine AI.pure h (v:=v') ?_ (.e (f:=q') (by simpa[E.den,AV.idx,h3]using g3) (λz hz=>h2 z (List.mem_of_mem_tail (g2 z hz))) .nil) rfl;rw[ex];simp[g1]
  ·cases he
 ·rename_i y o';split at he
  ·rename_i AM;simp at he;subst he;generalize ha:a.eval x=v at hr ex;cases hr with
   |dn h1 h2 _=>
    rename_i q f;obtain⟨z,hz,hle⟩:=Cl sD;rw[hz]at h1;cases h1 with
    |ref hb Cq F6 D3=>
     rename_i C ty fz f1 f2;obtain⟨q',g1,g2⟩:=F6.iu Cq o' (P.cellsOf t) (Ap P t) hle (λh=>by rcases AM with h'|h';rw[h]at h';cases h';exact h');have Nj:((C.toList.drop o').take (P.cellsOf t)).length=P.cellsOf t:=by have:=F6.len;rw[Au,Bx];omega
     refine AI.pure h ?_ (.e (f:=q') (by simpa[E.den,hz,AV.deref]using g2) (λz hz=>h2 z (by simp[g1 z hz])) .nil) rfl;rw[ex,S4 BC ((C.toList.drop o').take (P.cellsOf t)) (λ_=>Nj) (λh=>by rw[Nj];rcases AM with h'|h';rw[h]at h';cases h';exact h') (λj u hu=>by
       rw[EU hb];rw[List.getElem?_take]at hu;split at hu
       ·simpa using hu
       ·cases hu)]
     simp
  ·cases he
 ·cases he
end
theorem Qr(k:IntKind)(n:Int):Fl k n↔k.min<=n/\n<=k.max:=by unfold Fl;cases k<;>simp only[IntKind.wrap,IntKind.bits,IntKind.signed,IntKind.min,IntKind.max]<;>simp<;>(try split)<;>omega
theorem pI(k:IntKind)(n:Int):Fl k (k.wrap n):=by rw[Qr];cases k<;>simp only[IntKind.wrap,IntKind.bits,IntKind.signed,IntKind.min,IntKind.max]<;>simp<;>(try split)<;>omega
theorem zDd{k:IntKind}{x y:Int}(h:Fl k x):Fl k (x.tmod y):=by
 rw[Qr]at h ⊢;have h1:(x.tmod y).natAbs<=x.natAbs:=by rw[Int.natAbs_tmod];exact Nat.mod_le _ _
 have h2:0<=x->0<=x.tmod y:=Int.tmod_nonneg y;have Ma:k.min<=0:=by cases k<;>decide
 have FE:0<=k.max:=by cases k<;>decide
 constructor
 ·by_cases h0:0<=x
  ·have:=h2 h0;omega
  ·omega
 ·by_cases h0:0<=x
  ·omega
  ·have h3:x.tmod y<=0:=by
    have:=Int.tmod_nonneg (a:= -x) y (by omega);rw[Int.neg_tmod]at this;omega
   omega
theorem zCI{k:IntKind}{x:Int}(m:Nat)(h:Fl k x):Fl k (x.fdiv (2^m)):=by
 rw[Qr]at h ⊢;have hp:(0:Int)<2^m:=Int.pow_pos (by decide);rw[Int.fdiv_eq_ediv_of_nonneg _ (Int.le_of_lt hp)];have Ma:k.min<=0:=by cases k<;>decide
 have FE:0<=k.max:=by cases k<;>decide
 have h1:(1:Int)<=2^m:=hp;constructor
 ·rcases Int.le_total 0 x with h0|h0
  ·have:=Int.ediv_nonneg h0 (Int.le_of_lt hp);omega
  ·have:x<=x/2^m:=by
    rw[Int.le_ediv_iff_mul_le hp];have:=Int.mul_le_mul_of_nonpos_left h0 h1;omega
   omega
 ·rcases Int.le_total 0 x with h0|h0
  ·have:=Int.ediv_le_self (2^m) h0;omega
  ·have h2:x/2^m<=0:=by
    have:=Int.ediv_le_ediv hp h0;simpa using this
   omega
section
variable {P:Program} {c:Cx} {n nx:Nat} {sl sl0:Nat->SV} {hp hp0:Nat->Option Ah} {a:Act} {o:Oper} {gs:Gd} {e:Bn} {sg:B4} {nv:Nat}
def AV.val:AV->Value
 | .int k n=> .int k n
 | .bool b=> .bool b
 | .str s=> .string ⟨s.toArray⟩
 |_=>Go.undef
theorem zy0{op:BinOp}{k k':IntKind}{x y:Int}(hk:k=k'\/op= .shl\/op= .shr)(hz:op= .quo\/op= .rem->y≠0)(hs:op= .shl\/op= .shr->0<=y)(t:TypeId)(p q:Operand)(w:World):
  (do eqGuard op t p q (.int k x) (.int k' y);binOp op t (.int k x) (.int k' y):Sem Value).run P w= .ok (CK op k x y).val w:=by
 have hg:=eqGuard_at_int op t p q (.int k' y) k x;cases op<;>simp only[reduceCtorEq,or_false,or_true,or_self]at hk hz hs<;>simp only[hg]
 all_goals first
  |(subst hk;simp[binOp,Op.intArith,Op.intCmp,Op.intBits,CK,AV.val];done)
  |(subst hk;have:=hz trivial;simp[binOp,Op.intDiv,CK,AV.val,this];done)
  |(have:=hs trivial;simp[binOp,Op.shift,CK,AV.val,Int.not_lt.2 this];done)
theorem zB5{op:BinOp}{k:IntKind}{x y:Int}(hx:Fl k x)(w:World):Rd w [(CK op k x y).val] [CK op k x y] []:=by
 cases op<;>simp only[CK,AV.val]<;>first
  |exact .int (pI _ _) .nil
  |exact .bool .nil
  |exact .int (zDd hx) .nil
  |exact .int (zCI _ hx) .nil
theorem Rd.gz{w:World}{v:Value}{x:AV}{f:List Nat}(h:Rd w [v] [x] f):x≠ .undef:=by rintro rfl;cases h
theorem o0{ρ:List AV}:∀(x:E) {k:IntKind},CM x=some k->x.den ρ≠ .undef-> ∃m,x.den ρ= .int k m
 | .int k n,_,h,_=>by simp[CM]at h;subst h;exact⟨n,rfl⟩
 | .len y,_,h,hd=>by
  simp[CM]at h;subst h;simp only[E.den,AV.len]at hd ⊢;split at hd
  ·exact⟨_,rfl⟩
  ·exact absurd rfl hd
 | .slen y,_,h,hd=>by
  simp[CM]at h;subst h;simp only[E.den,AV.slen]at hd ⊢;split at hd
  ·exact⟨_,rfl⟩
  ·exact absurd rfl hd
 | .conv k y,_,h,hd=>by
  simp[CM]at h;subst h;simp only[E.den,AV.conv]at hd ⊢;split at hd
  ·exact⟨_,rfl⟩
  ·exact absurd rfl hd
 | .bin op x y,k,h,hd=>by
  simp only[E.den]at hd ⊢;have hx:x.den ρ≠ .undef:=by rintro hh;rw[hh]at hd;exact hd (by simp[AV.bin])
  cases op<;>simp only[CM,reduceCtorEq]at h
  all_goals
   obtain⟨m,hm⟩:=o0 x h hx;rw[hm]at hd ⊢;cases hy:y.den ρ<;>rw[hy]at hd<;>simp only[AV.bin]at hd ⊢ <;>first
    |exact absurd rfl hd
    |(split at hd
      ·rename_i hk;rw[if_pos hk];exact⟨_,rfl⟩
      ·exact absurd rfl hd)
 | .var _,_,h,_=>by simp[CM]at h
 | .bool _,_,h,_=>by simp[CM]at h
 | .str _,_,h,_=>by simp[CM]at h
 | .dw,_,h,_=>by simp[CM]at h
 | .lst _,_,h,_=>by simp[CM]at h
 | .mk _,_,h,_=>by simp[CM]at h
 | .tup _,_,h,_=>by simp[CM]at h
 | .ref _,_,h,_=>by simp[CM]at h
 | .fn ..,_,h,_=>by simp[CM]at h
 | .fld ..,_,h,_=>by simp[CM]at h
 | .proj ..,_,h,_=>by simp[CM]at h
 | .deref _,_,h,_=>by simp[CM]at h
 | .idx ..,_,h,_=>by simp[CM]at h
 | .sidx ..,_,h,_=>by simp[CM]at h
 | .win ..,_,h,_=>by simp[CM]at h
 | .swin ..,_,h,_=>by simp[CM]at h
 | .app ..,_,h,_=>by simp[CM]at h
 | .set ..,_,h,_=>by simp[CM]at h
 | .put ..,_,h,_=>by simp[CM]at h
 | .rep ..,_,h,_=>by simp[CM]at h
 | .sbin ..,_,h,_=>by simp[CM]at h
 | .bbin ..,_,h,_=>by simp[CM]at h
 | .not _,_,h,_=>by simp[CM]at h
 | .neg _,_,h,_=>by simp[CM]at h
 | .ite ..,_,h,_=>by simp[CM]at h
 | .bytes _,_,h,_=>by simp[CM]at h
 | .text _,_,h,_=>by simp[CM]at h
end
section
variable {P:Program} {c:Cx} {n nx:Nat} {sl sl0:Nat->SV} {hp hp0:Nat->Option Ah} {a:Act} {o:Oper} {gs:Gd} {e:Bn} {sg:B4} {nv:Nat}
theorem Iy{s:SV}{v:Value}{x:E}(h:SR c [s] [v])(hx:FU s=some x):∃f,Rd c.w [v] [x.den c.ρ] f/\ ∀b∈f,c.ok b:=by
 cases s<;>simp only[FU,Ad,reduceCtorEq]at hx;subst hx;cases h with
 |e h1 h2 _=>exact⟨_,h1,h2⟩
theorem SR.da{v:Value}{x:E}(h:Rd c.w [v] [x.den c.ρ] []):SR c [.e x] [v]:= .e h (by simp) .nil
theorem zzC{ρ:List AV}{op:BinOp}{x y:E}{w:World}{v u:Value}{f g:List Nat}(h1:Rd w [v] [x.den ρ] f)(h2:Rd w [u] [y.den ρ] g)(hd:To (.bin op x y)=true->(E.bin op x y).den ρ≠ .undef):
  ∃k k' p q,x.den ρ= .int k p/\y.den ρ= .int k' q/\(k=k'\/op= .shl\/op= .shr)/\(E.bin op x y).den ρ=CK op k p q/\Fl k p/\v= .int k p/\u= .int k' q:=by
 have key:(∃k k' p q,x.den ρ= .int k p/\y.den ρ= .int k' q/\(k=k'\/op= .shl\/op= .shr)):=by
  by_cases hn:To (.bin op x y)=true
  ·have:=hd hn;simp only[E.den]at this;cases hx:x.den ρ<;>cases hy:y.den ρ<;>simp only[hx,hy,AV.bin,ne_eq,not_true_eq_false]at this;split at this
   ·exact⟨_,_,_,_,rfl,rfl,by assumption⟩
   ·exact absurd rfl this
  ·have hn:To (.bin op x y)=false:=by simpa using hn
   have hk:(CM x).isSome=true/\(CM x==CM y)=true:=by cases op<;>simp[To]at hn<;>simpa using hn
   obtain⟨k,G5⟩:=Option.isSome_iff_exists.1 hk.1;have hk2:CM y=some k:=by rw[<-AO.1 hk.2,G5]
   obtain⟨p,hp⟩:=o0 x G5 h1.gz;obtain⟨q,hq⟩:=o0 y hk2 h2.gz;exact⟨k,k,p,q,hp,hq, .inl rfl⟩
 obtain⟨k,k',p,q,hp,hq,Ni⟩:=key;obtain⟨hv,Cm⟩:=Gw h1 hp;obtain⟨hu,_⟩:=Gw h2 hq;exact⟨k,k',p,q,hp,hq,Ni,by simp only[E.den,hp,hq,AV.bin,if_pos Ni],Cm,hv,hu⟩
theorem zub(a b:ByteArray):(a.toList==b.toList)=(a.data.toList==b.data.toList):=by rw[ByteArray.toList_eq,ByteArray.toList_eq]
theorem zur{α β γ:Type}(r:Result α)(f:α->World->Result β)(g:β->World->Result γ):(r.andThen f).andThen g=r.andThen λa w=>(f a w).andThen g:=by cases r<;>rfl
theorem oB(d:Nat){t:TypeId}(p q:Bool)(h:P.underlying t=some .bool)(w:World):(Op.equalIn (d+1) t (.bool p) (.bool q)).run P w= .ok (p==q) w:=by simp[Op.equalIn,run_underlying h]
theorem zzt{t:TypeId}(p q:Bool)(h:P.underlying t=some .bool)(w:World):(binOp .eql t (.bool p) (.bool q)).run P w= .ok (.bool (p==q)) w:=by simp only[binOp];simp[Op.equal,Op.maxDepth,oB 9999 p q h]
theorem zzh{t:TypeId}(p q:Bool)(h:P.underlying t=some .bool)(w:World):(binOp .neq t (.bool p) (.bool q)).run P w= .ok (.bool (!(p==q))) w:=by simp only[binOp];simp[Op.equal,Op.maxDepth,oB 9999 p q h]
theorem QD{op:BinOp}{t ty:TypeId}{x y:Operand}(ho:o.op= .binOp op t x y ty)(w:World){v u:Value}(hv:a.eval x=v)(hu:a.eval y=u):
  (execOp a.eval o).run P w=((do eqGuard op t x y v u;binOp op t v u:Sem Value).run P w).andThen λv w=> .ok (.value v) w:=by
 simp only[execOp,ho,hv,hu,Sem.run_bind,zur,Sem.run_pure]
theorem yM(h:BJ P c n nx sl hp a sl0 hp0 o gs){op:BinOp}{t el:TypeId}{x y:Operand}{ty:TypeId}(ho:o.op= .binOp op t x y ty)(hu:P.underlying t=some (.slice el))(r1:SR c [.cr] [a.eval x])(r2:SR c [.cr] [a.eval y])
  (A0:op= .eql\/op= .neq):AI P o c n nx sl hp gs a {val:= .e (.bool (op== .eql))}:=by
 have ex:=λ(v u:Value) (hv:a.eval x=v) (hu:a.eval y=u)=>QD (P:=P) (o:=o) ho c.w hv hu;generalize FR:a.eval x=v1 at r1;generalize Ds:a.eval y=v2 at r2;cases r1 with
 |cr _=>cases r2 with
  |cr _=>
   refine AI.pure h (v:= .bool (op== .eql)) ?_ (.da (.bool .nil)) rfl;rw[ex _ _ FR Ds,eqGuard_at_slice];rcases A0 with rfl|rfl
   ·simp[run_eql_nil_slice c.w t el none 0 0 0 0 hu]
   ·simp[run_neq_nil_slice c.w t el none 0 0 0 0 hu]
theorem zwN(h:BJ P c n nx sl hp a sl0 hp0 o gs){op:BinOp}{t:TypeId}{x y:Operand}{ty:TypeId}(ho:o.op= .binOp op t x y ty){s1 s2:SV}(r1:SR c [s1] [a.eval x])(r2:SR c [s2] [a.eval y])
  {x' y':E} (Ee:FU s1=some x') (BO:FU s2=some y') (hd:To (.bin op x' y')=true->Cn.den c.ρ (.dfd (.bin op x' y'))) (hnz:op= .quo\/op= .rem->Cn.den c.ρ (.nz y')) (hnn:op= .shl\/op= .shr->Cn.den c.ρ (.nn y')) {ck:List Cn}:
  AI P o c n nx sl hp gs a {cq:=ck,val:= .e (.bin op x' y')}:=by
 obtain⟨f1,g1,_⟩:=Iy r1 Ee;obtain⟨f2,g2,_⟩:=Iy r2 BO;obtain⟨k,k',p,q,e1,e2,Ni,e3,Cm,hv,F9⟩:=zzC (op:=op) g1 g2 hd;refine AI.pure h (v:=(CK op k p q).val) ?_ (.da (by rw[e3];exact zB5 Cm _)) rfl;rw[QD ho c.w hv F9,zy0 Ni (λA0=> ?_) (λA0=> ?_)]
 ·simp
 ·obtain⟨_,m,hm,Ct⟩:=hnz A0;rw[e2]at hm;cases hm;exact Ct
 ·obtain⟨_,m,hm,Ct⟩:=hnn A0;rw[e2]at hm;cases hm;exact Ct
theorem zvF(h:BJ P c n nx sl hp a sl0 hp0 o gs){op:BinOp}{t:TypeId}{x y:Operand}{ty:TypeId}(ho:o.op= .binOp op t x y ty){s1 s2:SV}(r1:SR c [s1] [a.eval x])(r2:SR c [s2] [a.eval y])
  {x' y':E} (Ee:FU s1=some x') (BO:FU s2=some y') (hd:Cn.den c.ρ (.dfd (.sbin op x' y'))) (BW:op= .add->Cn.den c.ρ (.roomS x' y')) {ck:List Cn}:
  AI P o c n nx sl hp gs a {cq:=ck,val:= .e (.sbin op x' y')}:=by
 obtain⟨f1,g1,_⟩:=Iy r1 Ee;obtain⟨f2,g2,_⟩:=Iy r2 BO;have hd:AV.sbin op (x'.den c.ρ) (y'.den c.ρ)≠ .undef:=hd;cases hx:x'.den c.ρ<;>cases hy:y'.den c.ρ<;>simp only[hx,hy,AV.sbin,ne_eq,not_true_eq_false]at hd;obtain⟨b1,FR,rfl,_⟩:=TS g1 hx;obtain⟨b2,Ds,rfl,_⟩:=TS g2 hy;have hle:op= .add->b1.size+b2.size<=9223372036854775807:=λA0=>by obtain⟨p,q,hp,hq,hle⟩:=BW A0;rw[hx]at hp;rw[hy]at hq;cases hp;cases hq;simpa using hle
 refine AI.pure h (v:=match op with| .add=> .string (b1++b2)|_=>(TR op b1.data.toList b2.data.toList).val) ?_ (.da ?_) rfl
 ·rw[QD ho c.w FR Ds,eqGuard_at_string];cases op<;>first
   |(exact absurd rfl hd)
   |(have:=hle rfl;simp[binOp,Op.stringOp];omega)
   |(simp[binOp,Op.stringOp,TR,AV.val,ByteArray.toList_eq,bne];done)
 ·simp only[E.den,hx,hy,AV.sbin];cases op<;>simp only[TR,AV.val,ne_eq,not_true_eq_false]at hd ⊢ <;>first
   |exact .bool .nil
   |(have:=hle rfl
     have h9:=Rd.str (w:=c.w) (s:=b1++b2) (by simpa using this) .nil;simpa using h9)
theorem zvd(h:BJ P c n nx sl hp a sl0 hp0 o gs){op:BinOp}{t:TypeId}{x y:Operand}{ty:TypeId}(ho:o.op= .binOp op t x y ty)(hu:P.underlying t=some .bool){s1 s2:SV}(r1:SR c [s1] [a.eval x])(r2:SR c [s2] [a.eval y])
  {x' y':E} (Ee:FU s1=some x') (BO:FU s2=some y') (hd:Cn.den c.ρ (.dfd (.bbin op x' y'))) {ck:List Cn}:
  AI P o c n nx sl hp gs a {cq:=ck,val:= .e (.bbin op x' y')}:=by
 obtain⟨f1,g1,_⟩:=Iy r1 Ee;obtain⟨f2,g2,_⟩:=Iy r2 BO;have hd:AV.bbin op (x'.den c.ρ) (y'.den c.ρ)≠ .undef:=hd;cases hx:x'.den c.ρ<;>cases hy:y'.den c.ρ<;>simp only[hx,hy,AV.bbin,ne_eq,not_true_eq_false]at hd;rename_i p q;have FR:=Jj g1 hx;have Ds:=Jj g2 hy;refine AI.pure h (v:=(AV.bbin op (.bool p) (.bool q)).val) ?_ (.da ?_) rfl
 ·rw[QD ho c.w FR Ds,eqGuard_at_bool];cases op<;>simp only[ne_eq,not_true_eq_false]at hd
  ·simp[zzt p q hu,AV.bbin,AV.val]
  ·simp[zzh p q hu,AV.bbin,AV.val,bne]
 ·simp only[E.den,hx,hy];cases op<;>simp only[AV.bbin,AV.val,ne_eq,not_true_eq_false]at hd ⊢ <;>exact .bool .nil
theorem zCZ(h:BJ P c n nx sl hp a sl0 hp0 o gs){op:BinOp}{t:TypeId}{x y:Operand}{ty:TypeId}(ho:o.op= .binOp op t x y ty)(Nn:∀fs,P.underlying t≠some (.struct fs))(he:B2 P sg sl0 hp0 nv nx gs o=some e)(hq:e.cm=none)(hc:∀q∈e.cq,Cn.den c.ρ q):AI P o c n nx sl hp gs a e:=by
 have DM:x∈o.op.operands:=by simp[ho,Op.operands]
 have CS:y∈o.op.operands:=by simp[ho,Op.operands]
 simp only[B2,ho,Ax]at he;obtain⟨s1,BR,s2,Bi,he⟩:=he;have r1:=h.c7 BR DM;have r2:=h.c7 Bi CS;unfold TY at he;split at he
 ·rename_i el hu;split at he
  ·simp at he;subst he;exact yM h ho hu r1 r2 (.inl rfl)
  ·simp at he;subst he;exact yM h ho hu r1 r2 (.inr rfl)
  ·obtain⟨_,_,rfl⟩:=Av.1 he;cases hq
  ·obtain⟨_,_,rfl⟩:=Av.1 he;cases hq
  ·cases he
 ·rename_i kk hu;split at he
  ·rename_i x' y' Ee BO;simp at he;subst he;exact zwN h ho r1 r2 Ee BO (λhn=>hc _ (by simp[hn])) (λA0=>hc _ (by rcases A0 with rfl|rfl<;>simp)) (λA0=>hc _ (by rcases A0 with rfl|rfl<;>simp))
  ·cases he
 ·rename_i hu;split at he
  ·rename_i x' y' Ee BO;simp at he;subst he;exact zvF h ho r1 r2 Ee BO (hc _ (by simp)) (λA0=>hc _ (by subst A0;simp))
  ·cases he
 ·rename_i hu;split at he
  ·rename_i x' y' Ee BO;simp at he;subst he;exact zvd h ho hu r1 r2 Ee BO (hc _ (by simp))
  ·cases he
 ·rename_i fs hu;exact absurd hu (Nn fs)
 ·cases he
end
section
variable {P:Program} {c:Cx} {n nx:Nat} {sl sl0:Nat->SV} {hp hp0:Nat->Option Ah} {a:Act} {o:Oper} {gs:Gd} {e:Bn} {sg:B4} {nv:Nat}
theorem Xf{t:TypeId}(h:DI P t=true)(cs:List Value)(off:Nat)(hle:off+P.cellsOf t<=cs.length)(hg:Ap P t=true\/P.cellsOf t=1)(w:World):
  (part t cs.toArray off).run P w= .ok (if Ap P t then .agg ((cs.drop off).take (P.cellsOf t)).toArray else((cs.drop off).take (P.cellsOf t)).headD Go.undef) w:=by
 cases ha:Ap P t with
 |true=>simp only[part,Sem.run_bind,WO h,ha,Qd h,Result.andThen_ok,if_true,Sem.run_pure];congr 2;apply Array.ext';rw[Array.toList_extract];simp[Nat.add_sub_cancel_left,List.extract_eq_take_drop]
 |false=>
  have h1:P.cellsOf t=1:=by rcases hg with h'|h';rw[ha]at h';cases h';exact h'
  have AD:off<cs.length:=by omega
  have e1:(cs.drop off).take (P.cellsOf t)=[cs[off]]:=by rw[h1,Br AD,List.take_succ_cons,List.take_zero]
  rw[e1];simp[part,WO h,ha,AD]
theorem zzW(h:BJ P c n nx sl hp a sl0 hp0 o gs){t:TypeId}{x:Operand}{f:Nat}(ho:o.op= .field t x f)(he:B2 P sg sl0 hp0 nv nx gs o=some e)(hc:∀q∈e.cq,Cn.den c.ρ q):AI P o c n nx sl hp gs a e:=by
 have hm:x∈o.op.operands:=by simp[ho,Op.operands]
 simp only[B2,ho,Ax]at he;obtain⟨s,hs,he⟩:=he;have hr:=h.c7 hs hm;split at he
 ·rename_i fs hu;split at he
  ·rename_i fd hf;split at he
   ·cases he
   ·rename_i BC;have BC:DI P fd.type=true:=by simpa using BC
    have ex:∀as_:List Value,a.eval x= .agg as_.toArray->(execOp a.eval o).run P c.w=((part fd.type as_.toArray fd.offset).run P c.w).andThen λv w=> .ok (.value v) w:=λas_ hv=>by simp[execOp,ho,Instr.field,run_underlying hu,hf,hv,asAgg]
    split at he
    ·rename_i cs;obtain⟨s2,Bi,rfl⟩:=Av.1 he;generalize hv:a.eval x=v at hr;cases hr with
     |agg r8 r1 r9=>
      rename_i as_;have hlen:=r1.len;unfold QI at Bi;split at Bi
      ·rename_i AM;split at Bi
       ·rename_i hle;simp at Bi;subst Bi;obtain⟨q1,q2⟩:=r1.split fd.offset;obtain⟨q3,q4⟩:=q2.split (P.cellsOf fd.type);have:=SR.agg (cs:=BV.of ((cs.toList.drop fd.offset).take (P.cellsOf fd.type))) (λu hu=>r8 u (BM (BA hu))) (by rw[BV.ay];exact q3) .nil;refine AI.pure h (v:= .agg ((as_.drop fd.offset).take (P.cellsOf fd.type)).toArray) ?_ this rfl;rw[ex as_ hv,Xf BC as_ fd.offset (by omega) (.inl AM)];simp[AM]
       ·cases Bi
      ·rename_i AM;have AM:Ap P fd.type=false:=by simpa using AM
       obtain⟨u,F9,r⟩:=r1.get Bi;refine AI.pure h (v:=u) ?_ r rfl;rw[ex as_ hv];simp[part,WO BC,AM,F9]
    ·rename_i y;split at he
     ·rename_i hh;obtain⟨hle,AM⟩:=hh;simp at he;subst he;generalize hv:a.eval x=v at hr;cases hr with
      |e h1 h2 _=>
       rename_i f1;obtain⟨cs,BI,AB⟩:=Cl hc;obtain⟨as_,rfl,Pp,D3⟩:=K2 h1 BI;have hlen:=D3.len;have GC:(y.den c.ρ).cells=cs:=by rw[BI];rfl
       rw[<-GC]at D3;obtain⟨q,g1,g2⟩:=D3.iu Pp fd.offset (P.cellsOf fd.type) (Ap P fd.type) (by rw[GC];omega) (λhh=>by rcases AM with h'|h';rw[hh]at h';cases h';exact h');refine AI.pure h ?_ (.e (f:=q) (by simpa[E.den]using g2) (λz hz=>h2 z (g1 z hz)) .nil) rfl;rw[ex as_ hv,Xf BC as_ fd.offset (by omega) AM];simp
     ·cases he
    ·rename_i b g m pth y;split at he
     ·rename_i hh;obtain⟨hle,AM,Va⟩:=hh;have hE:=TJ h.eh h.gs Va;generalize hv:a.eval x=v at hr;have IU:Cn.den c.ρ (.agg y (P.cellsOf t)):=by
       split at he<;>(simp only[Ad]at he;subst he;exact Cl hc)
      cases hr with
      |via h1 h2 h3 _=>
       obtain⟨⟨f1,p1,p2⟩,_⟩:=h3 hE;obtain⟨cs,BI,AB⟩:=IU;obtain⟨as_,rfl,Pp,D3⟩:=K2 p1 BI;have hlen:=D3.len;have GC:(y.den c.ρ).cells=cs:=by rw[BI];rfl
       rw[<-GC]at D3;obtain⟨q,g1,g2⟩:=D3.iu Pp fd.offset (P.cellsOf fd.type) (Ap P fd.type) (by rw[GC];omega) (λhh=>by rcases AM with h'|h';rw[hh]at h';cases h';exact h');have AW:=ex as_ hv;rw[Xf BC as_ fd.offset (by omega) AM]at AW;simp only[Result.andThen_ok]at AW;have Cw:Rd c.w _ [(E.fld y fd.offset (P.cellsOf fd.type) (Ap P fd.type)).den c.ρ] q:=g2;split at he
       ·simp only[Ad]at he;subst he;obtain⟨e1,e2,e3,e4⟩:=hc (.flat (.fld y fd.offset (P.cellsOf fd.type) (Ap P fd.type)) (P.cellsOf fd.type) (Ap P fd.type)) (by simp);have hq:q=[]:=by
         cases hg:Ap P fd.type with
         |true=>obtain⟨cs,BI⟩:=e3 hg;obtain⟨as_,_,_,r⟩:=K2 Cw BI;exact HV r (by rw[BI]at e2;exact e2)
         |false=>exact HV Cw (by simpa using e4 hg)
        subst hq;exact AI.pure h AW (.e Cw (by simp) .nil) rfl
       ·simp only[Ad]at he;subst he;exact AI.pure h AW (.via h1 h2 (λ_=>⟨⟨q,Cw,λz hz=>p2 z (g1 z hz)⟩,trivial⟩) .nil) rfl
     ·cases he
    ·cases he
  ·cases he
 ·cases he
theorem Tu{v:Value}{x:AV}{m:Int}{w:World}{f:List Nat}(h:Rd w [v] [x] f)(hx:x.len= .int .i64 m):(∃a c,v= .slice a 0 c/\m=0)\/ ∃b o k c,v= .slice (some ⟨b,o,none⟩) k c/\m=k:=by
 rcases h.kind with h|h|h|h|h|h|h|h|h|h
 ·obtain⟨_,_,_,rfl,_⟩:=h;simp[AV.len]at hx
 ·obtain⟨_,_,rfl,_⟩:=h;simp[AV.len]at hx
 ·obtain⟨_,_,rfl,_⟩:=h;simp[AV.len]at hx
 ·obtain⟨q,r,rfl,rfl,_⟩:=h;simp[AV.len]at hx;exact .inl ⟨q,r,rfl,by omega⟩
 ·obtain⟨b,o,k,r,ys,_,_,_,_,_,_,rfl,rfl,_,_,_,_,hl,_⟩:=h;simp[AV.len]at hx;exact .inr ⟨b,o,k,r,rfl,by omega⟩
 ·obtain⟨_,_,_,rfl,_⟩:=h;simp[AV.len]at hx
 ·obtain⟨_,_,_,rfl,_⟩:=h;simp[AV.len]at hx
 ·obtain⟨_,_,_,_,_,_,_,rfl,_⟩:=h;simp[AV.len]at hx
 ·obtain⟨_,_,_,_,rfl,_⟩:=h;simp[AV.len]at hx
 ·obtain⟨_,rfl,_⟩:=h;simp[AV.len]at hx
theorem S3{t el:TypeId}(hu:P.underlying t=some (.slice el))(hz:P.cellsOf el≠0){b off len cap:Nat}{kk:IntKind}{k:Int}(h0:0<=k)(h1:k<len)(w:World):
  (Instr.indexAt t (.slice (some ⟨b,off,none⟩) len cap) (.int kk k)).run P w= .ok (.pointer (some ⟨b,off+k.toNat*P.cellsOf el,none⟩)) w:=by
 simp[Instr.indexAt,run_underlying hu,asIntOf,h0,h1,ztS hz,Addr.add_lit]
theorem ztN(h:BJ P c n nx sl hp a sl0 hp0 o gs){t:TypeId}{x i:Operand}(ho:o.op= .indexAddr t x i\/o.op= .index t x i){s1 s2:SV}(BR:BT sl0 gs x=some s1)(Bi:BT sl0 gs i=some s2)
  (A0:(∃el,P.underlying t=some (.slice el))->o.op= .indexAddr t x i) (gD:P.underlying t=some .string->o.op= .index t x i)
  (he:bX P hp0 gs t s1 s2=some e) (hc:∀q∈e.cq,Cn.den c.ρ q):AI P o c n nx sl hp gs a e:=by
 have DM:x∈o.op.operands:=by rcases ho with ho|ho<;>simp[ho,Op.operands]
 have CS:i∈o.op.operands:=by rcases ho with ho|ho<;>simp[ho,Op.operands]
 have r1:=h.c7 BR DM;have r2:=h.c7 Bi CS;unfold bX at he;split at he
 ·rename_i el k hu;have JB:=A0 ⟨el,hu⟩;have ex:(execOp a.eval o).run P c.w=((Instr.indexAt t (a.eval x) (a.eval i)).run P c.w).andThen λv w=> .ok (.value v) w:=by simp[execOp,JB]
  split at he
  ·cases he
  rename_i hz;obtain⟨fk,G5,_⟩:∃f,Rd c.w [a.eval i] [k.den c.ρ] f/\ ∀b∈f,c.ok b:=by
   generalize a.eval i=v at r2;cases r2 with
   |e h1 h2 _=>exact⟨_,h1,h2⟩
  split at he
  ·rename_i b g;split at he
   ·rename_i e0 sz g' c0 d hl;split at he
    ·rename_i hh;obtain⟨rfl,rfl⟩:=hh;simp at he;subst he;obtain⟨kk,kv,m,e1,e2,e3,e4,e5⟩:=Cl hc;obtain⟨I2,_⟩:=Gw G5 e1;generalize hv:a.eval x=v at r1 ex;cases r1 with
     |own hK M4 _=>
      obtain⟨_,_,N,q1,q2,_,_⟩:=h.eh b _ (CU hl h.gs);obtain⟨xs,Cu,AB,h0,Bc⟩:=q1;rw[Cu]at e3;simp only[AV.len,AV.int.injEq,true_and]at e3;rcases Bc with⟨rfl,_⟩|⟨g9,cap,C,hH,_⟩
      ·simp at e3;omega
      ·refine AI.pure h (v:= .pointer (some ⟨g9,kv.toNat*P.cellsOf el+0,none⟩)) ?_ (.cz hK hH e1 e2 (by omega) .nil) rfl;rw[M4]at hH;cases hH;rw[ex,I2,S3 hu hz e2 (by omega)];simp
    ·cases he
   ·rename_i g' c0 hl;split at he
    ·rename_i hh;subst hh;simp at he;subst he;obtain⟨kk,kv,m,e1,e2,e3,e4,e5⟩:=Cl hc;obtain⟨I2,_⟩:=Gw G5 e1;generalize hv:a.eval x=v at r1 ex;cases r1 with
     |own hK M4 _=>
      obtain⟨_,⟨f,q1,q2⟩,_,_⟩:=h.eh b _ (CU hl h.gs);rcases Tu q1 e3 with⟨_,_,_,hm⟩|⟨b9,off9,len9,cap9,hH,hm⟩
      ·omega
      ·rw[M4]at hH;cases hH;rw[M4]at q1;refine AI.pure h (v:= .pointer (some ⟨b9,off9+kv.toNat*P.cellsOf el+0,none⟩)) ?_ (.dj q1 q2 e1 e2 (by omega) e5 .nil) rfl;rw[ex,I2,S3 hu hz e2 (by omega)];simp
    ·cases he
   ·rename_i e0 sz dl g' ep c0 hl;split at he
    ·rename_i hh;obtain⟨rfl,rfl⟩:=hh;simp at he;subst he;obtain⟨kk,kv,m,e1,e2,e3,e4,e5⟩:=Cl hc;obtain⟨I2,_⟩:=Gw G5 e1;generalize hv:a.eval x=v at r1 ex;cases r1 with
     |own hK M4 _=>
      obtain⟨_,_,_,q1,_⟩:=h.eh b _ (CU hl h.gs);obtain⟨_,_,⟨a9,d3,d4,_⟩|⟨g9,cap,C,ys,N1,hH,d4,_⟩⟩:=q1.inv
      ·rw[d4]at e3;simp[AV.len]at e3;omega
      ·rw[d4]at e3;simp only[AV.len,AV.int.injEq,true_and]at e3;refine AI.pure h (v:= .pointer (some ⟨g9,kv.toNat*P.cellsOf el+0,none⟩)) ?_ (.cz hK hH e1 e2 (by omega) .nil) rfl;rw[M4]at hH;cases hH;rw[ex,I2,S3 hu hz e2 (by omega)];simp
    ·cases he
   ·rename_i e0 sz dl g' ep c0 ih oh uh hl;split at he
    ·rename_i hh;obtain⟨rfl,rfl⟩:=hh;simp at he;subst he;obtain⟨kk,kv,m,e1,e2,e3,e4,e5⟩:=Cl hc;obtain⟨I2,_⟩:=Gw G5 e1;generalize hv:a.eval x=v at r1 ex;cases r1 with
     |own hK M4 _=>obtain⟨_,_,_,⟨g9,cap,C,ys,_,_,_,_,hH,d4,_⟩,_⟩:=h.eh b _ (CU hl h.gs);rw[d4]at e3;simp only[AV.len,AV.int.injEq,true_and]at e3;refine AI.pure h (v:= .pointer (some ⟨g9,kv.toNat*P.cellsOf el+0,none⟩)) ?_ (.cz hK hH e1 e2 (by omega) .nil) rfl;rw[M4]at hH;cases hH;rw[ex,I2,S3 hu hz e2 (by omega)];simp
    ·cases he
   ·cases he
  ·rename_i y;simp at he;subst he;obtain⟨kk,kv,m,e1,e2,e3,e4,e5⟩:=Cl hc;obtain⟨I2,_⟩:=Gw G5 e1;generalize hv:a.eval x=v at r1 ex;cases r1 with
   |e q1 q2 _=>
    rcases Tu q1 e3 with⟨_,_,_,hm⟩|⟨b9,off9,len9,cap9,rfl,hm⟩
    ·omega
    ·refine AI.pure h (v:= .pointer (some ⟨b9,off9+kv.toNat*P.cellsOf el+0,none⟩)) ?_ (.dj q1 q2 e1 e2 (by omega) e5 .nil) rfl;rw[ex,I2,S3 hu hz e2 (by omega)];simp
  ·rename_i b g m pth y;split at he
   ·rename_i Va;simp at he;subst he;have hE:=TJ h.eh h.gs Va;obtain⟨kk,kv,mm,e1,e2,e3,e4,e5⟩:=Cl hc;obtain⟨I2,_⟩:=Gw G5 e1;generalize hv:a.eval x=v at r1 ex;cases r1 with
    |via q1 q2 q3 _=>
     obtain⟨⟨f,p1,p2⟩,p3⟩:=q3 hE;rcases Tu p1 e3 with⟨_,_,_,hm⟩|⟨b9,off9,len9,cap9,rfl,hm⟩
     ·omega
     ·refine AI.pure h (v:= .pointer (some ⟨b9,off9+kv.toNat*P.cellsOf el+0,none⟩)) ?_ (.vptr q1 q2 (λ_=>⟨b9,off9,len9,cap9,kk,kv,⟨f,p1,p2⟩,p3,e1,e2,by omega,e5,rfl⟩) .nil) rfl;rw[ex,I2,S3 hu hz e2 (by omega)];simp
   ·cases he
  ·simp at he;subst he;obtain⟨kk,kv,m,e1,e2,e3,e4,e5⟩:=Cl hc;simp only[E.den,EL.den,AV.len,List.length_nil,AV.int.injEq,true_and]at e3;omega
  ·cases he
 ·rename_i k hu;have JB:=gD hu;obtain⟨fk,G5,_⟩:∃f,Rd c.w [a.eval i] [k.den c.ρ] f/\ ∀b∈f,c.ok b:=by
   generalize a.eval i=v at r2;cases r2 with
   |e h1 h2 _=>exact⟨_,h1,h2⟩
  split at he
  ·rename_i y;simp at he;subst he;obtain⟨kk,kv,s,e1,e2,e3,e4⟩:=Cl hc;obtain⟨I2,_⟩:=Gw G5 e1;generalize hv:a.eval x=v at r1;cases r1 with
   |e q1 q2 _=>
    obtain⟨bs,rfl,rfl,hle⟩:=TS q1 e2;have AD:kv.toNat<bs.data.toList.length:=by omega
    have fP:kv.toNat<bs.size:=by simpa using AD
    refine AI.pure h (v:= .int .u8 (bs[kv.toNat]).toNat) ?_ (.da ?_) rfl
    ·simp[execOp,JB,Instr.index,hv,I2,asIntOf,run_underlying hu,e3,fP]
    ·simp only[E.den,e1,e2,AV.sidx];have:bs.data.toList[kv.toNat]?=some (bs[kv.toNat]):=by
      rw[Bt AD];simp[ByteArray.getElem_eq_getElem_data]
     rw[this];refine .int ?_ .nil;rw[Qr];have:=(bs[kv.toNat]).toNat_lt;simp[IntKind.min,IntKind.max,IntKind.signed,IntKind.bits];omega
  ·cases he
 ·cases he
theorem zs8(h:BJ P c n nx sl hp a sl0 hp0 o gs){t:TypeId}{x i:Operand}(ho:o.op= .indexAddr t x i)(Nn:P.underlying t≠some .string)(he:B2 P sg sl0 hp0 nv nx gs o=some e)(hc:∀q∈e.cq,Cn.den c.ρ q):AI P o c n nx sl hp gs a e:=by
 simp only[B2,ho,Ax]at he;obtain⟨s1,BR,s2,Bi,he⟩:=he;split at he
 ·cases he
 exact ztN h (.inl ho) BR Bi (λ_=>ho) (λhh=>absurd hh Nn) he hc
theorem zv8(h:BJ P c n nx sl hp a sl0 hp0 o gs){t:TypeId}{x i:Operand}(ho:o.op= .index t x i)(Nn:P.underlying t=some .string)(he:B2 P sg sl0 hp0 nv nx gs o=some e)(hc:∀q∈e.cq,Cn.den c.ρ q):AI P o c n nx sl hp gs a e:=by
 simp only[B2,ho,Ax]at he;obtain⟨s1,BR,s2,Bi,he⟩:=he;split at he
 ·exact ztN h (.inr ho) BR Bi (λ⟨el,hh⟩=>by rw[Nn]at hh;cases hh) (λ_=>ho) he hc
 ·cases he
theorem zwo(h:BJ P c n nx sl hp a sl0 hp0 o gs){x:Operand}{i:Nat}(ho:o.op= .extract x i)(he:B2 P sg sl0 hp0 nv nx gs o=some e)(hc:∀q∈e.cq,Cn.den c.ρ q):AI P o c n nx sl hp gs a e:=by
 have hm:x∈o.op.operands:=by simp[ho,Op.operands]
 simp only[B2,ho,Ax]at he;obtain⟨s,hs,he⟩:=he;have hr:=h.c7 hs hm;generalize hv:a.eval x=v at hr;have ex:∀(as_:List Value) u,v= .tuple as_.toArray->as_[i]?=some u->(execOp a.eval o).run P c.w= .ok (.value u) c.w:=λas_ u gY hu=>by simp[execOp,ho,Instr.extract,hv,gY,hu]
 split at he
 ·rename_i vs;obtain⟨s2,Bi,rfl⟩:=Av.1 he;cases hr with
  |tup r1 r9=>obtain⟨u,hu,r⟩:=r1.get Bi;exact AI.pure h (ex _ u rfl hu) r rfl
 ·rename_i y;simp at he;subst he;cases hr with
  |e q1 q2 _=>
   have hd:(y.den c.ρ).proj i≠ .undef:=Cl hc;cases hy:y.den c.ρ<;>simp only[hy,AV.proj,ne_eq,not_true_eq_false]at hd;rename_i cs;obtain⟨as_,rfl,r1⟩:=zGe q1 hy;cases Ut:cs[i]? with
   |none=>simp[Ut]at hd
   |some z=>obtain⟨u,g,hu,hg,Dn⟩:=r1.at Ut;exact AI.pure h (ex as_ u rfl hu) (.e (f:=g) (by simpa[E.den,hy,AV.proj,Ut]using Dn) (λb hb=>q2 b (hg b hb)) .nil) rfl
 ·cases he
theorem zDE(h:BJ P c n nx sl hp a sl0 hp0 o gs){x:Operand}{t:TypeId}(ho:o.op= .unOp .not t x)(he:B2 P sg sl0 hp0 nv nx gs o=some e)(hc:∀q∈e.cq,Cn.den c.ρ q):AI P o c n nx sl hp gs a e:=by
 have hm:x∈o.op.operands:=by simp[ho,Op.operands]
 simp only[B2,ho,Ax,Av]at he;obtain⟨s,hs,y,hy,he⟩:=he;obtain⟨f,q1,_⟩:=Iy (h.c7 hs hm) hy;split at he
 ·subst he;have hv:=Jj q1 rfl;rename_i b;exact AI.pure h (v:= .bool (!b)) (by simp[execOp,ho,hv,Op.unary]) (.da (.bool .nil)) rfl
 ·subst he;have hd:(y.den c.ρ).ff≠ .undef:=Cl hc;cases BO:y.den c.ρ<;>simp only[BO,AV.ff,ne_eq,not_true_eq_false]at hd;have hv:=Jj q1 BO;rename_i b;exact AI.pure h (v:= .bool (!b)) (by simp[execOp,ho,hv,Op.unary]) (.da (by simp only[E.den,BO,AV.ff];exact .bool .nil)) rfl
theorem zDN(h:BJ P c n nx sl hp a sl0 hp0 o gs){x:Operand}{t:TypeId}(ho:o.op= .unOp .neg t x)(he:B2 P sg sl0 hp0 nv nx gs o=some e)(hc:∀q∈e.cq,Cn.den c.ρ q):AI P o c n nx sl hp gs a e:=by
 have hm:x∈o.op.operands:=by simp[ho,Op.operands]
 simp only[B2,ho,Ax,Av]at he;obtain⟨s,hs,y,hy,rfl⟩:=he;obtain⟨f,q1,_⟩:=Iy (h.c7 hs hm) hy;have hd:(y.den c.ρ).iy≠ .undef:=Cl hc;cases BO:y.den c.ρ<;>simp only[BO,AV.iy,ne_eq,not_true_eq_false]at hd;rename_i k m;obtain⟨hv,_⟩:=Gw q1 BO;exact AI.pure h (v:= .int k (k.wrap (0-m))) (by simp[execOp,ho,hv,Op.unary,Op.intArith]) (.da (by simp only[E.den,BO,AV.iy];exact .int (pI _ _) .nil)) rfl
theorem zz4{L:List Operand}{sl0:Nat->SV}{gs:Gd}(h:∀x s,BT sl0 gs x=some s->x∈L->SR c [s] [a.eval x]):∀{xs:List Operand} {ss:List SV},(∀x∈xs,x∈L)->xs.mapM (BT sl0 gs)=some ss->SR c ss (xs.map a.eval)
 | [],ss,_,hm=>by simp at hm;subst hm;exact .nil
 |x::xs,ss,hL,hm=>by rw[List.mapM_cons]at hm;simp only[Option.bind_eq_bind,Ax]at hm;obtain⟨s,hs,ss',GR,hm⟩:=hm;simp at hm;subst hm;exact(h x s hs (hL x (by simp))).app (zz4 h (λy hy=>hL y (by simp[hy])) GR)
theorem zuN(h:BJ P c n nx sl hp a sl0 hp0 o gs){f:FuncId}{fst caps:Array Operand}(ho:o.op= .makeFunc (.func f) fst caps)(he:B2 P sg sl0 hp0 nv nx gs o=some e):AI P o c n nx sl hp gs a e:=by
 simp only[B2,ho]at he;split at he
 ·rename_i hf;obtain⟨ss,GR,rfl⟩:=Av.1 he;have hf:fst= #[]:=by simpa using hf
  have r:=zz4 (a:=a) (c:=c) (L:=caps.toList) (λx s hx hm=>h.c7 hx (by simp only[ho,Op.operands,Array.mem_append];exact .inr (Array.mem_toList_iff.1 hm))) (λx hx=>hx) GR;refine AI.pure h (v:= .func (.func f) #[] (caps.toList.map a.eval).toArray) ?_ (.fn (by rw[BV.ay];exact r) .nil) rfl;simp[execOp,ho,Instr.makeFunc,hf];apply Array.ext';simp
 ·cases he
end
section
variable {P:Program} {c:Cx} {n nx:Nat} {sl sl0:Nat->SV} {hp hp0:Nat->Option Ah} {a:Act} {o:Oper} {gs:Gd} {e:Bn} {sg:B4} {nv:Nat}
theorem BJ.j0(h:BJ P c n nx sl hp a sl0 hp0 o gs){x:Operand}{s:SV}(hs:BT sl0 gs x=some s)(hm:x∈o.op.operands){y:E}(hy:BK hp0 gs Bg s=some y):
  ∃f,Rd c.w [a.eval x] [y.den c.ρ] f/\ ∀b∈f,c.ek (Cf hp0 gs (Bg+1) [s]) b:=IE h.eh h.gs Bg hy (h.c7 hs hm) Bg (AQ _)
theorem zDi(h:BJ P c n nx sl hp a sl0 hp0 o gs){x:Operand}{t:TypeId}{cl:Call}(ho:o.op= .call cl)(AB:cl.callee= .builtin .len)(C6:cl.args.toList=[x])(Eb:cl.argTypes.toList=[t])(he:B2 P sg sl0 hp0 nv nx gs o=some e)(hc:∀q∈e.cq,Cn.den c.ρ q):AI P o c n nx sl hp gs a e:=by
 have Aj:cl.args= #[x]:=by apply Array.ext';simp[C6]
 have F8:cl.argTypes= #[t]:=by apply Array.ext';simp[Eb]
 have hm:x∈o.op.operands:=by simp[ho,Op.operands,Call.operands,AB,Aj]
 simp only[B2,ho,AB,C6,Eb,Ax]at he;obtain⟨s,hs,he⟩:=he;unfold vL at he;have ex:(execOp a.eval o).run P c.w=((Builtin.len_ #[t] o.type #[a.eval x]).run P c.w).andThen λv w=> .ok (.value v) w:=by simp[execOp,ho,resolve,AB,Aj,F8,invoke,builtin]
 split at he
 ·rename_i el hu;obtain⟨y,hy,rfl⟩:=Av.1 he;obtain⟨f,q1,q2⟩:=h.j0 hs hm hy;have hd:(y.den c.ρ).len≠ .undef:=Cl hc;cases BO:y.den c.ρ<;>simp only[BO,AV.len,ne_eq,not_true_eq_false]at hd;rename_i xs;have hl:(y.den c.ρ).len= .int .i64 (xs.length:Int):=by rw[BO];rfl
  have Cm:Fl .i64 (xs.length:Int):=by
   rw[Qr];rcases q1.kind with hh|hh|hh|hh|hh|hh|hh|hh|hh|hh
   all_goals first
    |(obtain⟨_,_,_,hh,_⟩:=hh;rw[BO]at hh;cases hh;done)
    |(obtain⟨_,_,hh,_⟩:=hh;rw[BO]at hh;cases hh;done)
    |skip
   ·obtain⟨_,_,_,hh,_⟩:=hh;rw[BO]at hh;cases hh;simp[IntKind.min,IntKind.max,IntKind.signed,IntKind.bits]
   ·obtain⟨_,_,_,_,_,_,_,_,_,_,_,_,hh,_,_,_,hle,hlen,_⟩:=hh;rw[BO]at hh;cases hh;simp[IntKind.min,IntKind.max,IntKind.signed,IntKind.bits];omega
   all_goals first
    |(obtain⟨_,_,_,hh,_⟩:=hh;rw[BO]at hh;cases hh;done)
    |(obtain⟨_,_,_,_,_,_,_,hh,_⟩:=hh;rw[BO]at hh;cases hh;done)
    |(obtain⟨_,_,_,_,hh,_⟩:=hh;rw[BO]at hh;cases hh;done)
    |(obtain⟨_,hh,_⟩:=hh;rw[BO]at hh;cases hh;done)
  refine AI.pure h (v:= .int .i64 xs.length) ?_ (.da (by simp only[E.den,BO,AV.len];exact .int Cm .nil)) rfl;rcases Tu q1 hl with⟨p,q,hv,Ct⟩|⟨b,o',k,q,hv,Ct⟩
  ·rw[ex,hv,Ct];simp[Builtin.len_,run_underlying hu,goInt]
  ·rw[ex,hv,Ct];simp[Builtin.len_,run_underlying hu,goInt]
 ·rename_i hu;obtain⟨y,hy,rfl⟩:=Av.1 he;obtain⟨f,q1,q2⟩:=h.j0 hs hm hy;have hd:(y.den c.ρ).slen≠ .undef:=Cl hc;cases BO:y.den c.ρ<;>simp only[BO,AV.slen,ne_eq,not_true_eq_false]at hd;obtain⟨bs,hv,rfl,hle⟩:=TS q1 BO;refine AI.pure h (v:= .int .i64 bs.size) ?_ (.da ?_) rfl
  ·rw[ex,hv];simp[Builtin.len_,run_underlying hu,goInt]
  ·simp only[E.den,BO,AV.slen];have:(bs.data.toList.length:Int)=(bs.size:Int):=by simp
   rw[this];refine .int ?_ .nil;rw[Qr];simp[IntKind.min,IntKind.max,IntKind.signed,IntKind.bits];omega
 ·cases he
theorem zwa(h:BJ P c n nx sl hp a sl0 hp0 o gs){x:Operand}{src dst:TypeId}{k0 k:IntKind}(ho:o.op= .convert src dst x)(h1:P.underlying src=some (.int k0))(h2:P.underlying dst=some (.int k))(he:B2 P sg sl0 hp0 nv nx gs o=some e)(hc:∀q∈e.cq,Cn.den c.ρ q):AI P o c n nx sl hp gs a e:=by
 have hm:x∈o.op.operands:=by simp[ho,Op.operands]
 simp only[B2,ho,Ax]at he;obtain⟨s,hs,he⟩:=he;simp only[Xj,h1,h2,Av]at he;obtain⟨y,hy,rfl⟩:=he;obtain⟨f,q1,_⟩:=Iy (h.c7 hs hm) hy;have hd:(y.den c.ρ).conv k≠ .undef:=Cl hc;cases BO:y.den c.ρ<;>simp only[BO,AV.conv,ne_eq,not_true_eq_false]at hd;rename_i k1 m;obtain⟨hv,_⟩:=Gw q1 BO;exact AI.pure h (v:= .int k (k.wrap m)) (by simp[execOp,ho,hv,convert,run_underlying h1,run_underlying h2,Conv.intToInt]) (.da (by simp only[E.den,BO,AV.conv];exact .int (pI _ _) .nil)) rfl
theorem zvE(h:BJ P c n nx sl hp a sl0 hp0 o gs){x:Operand}{src dst:TypeId}(ho:o.op= .convert src dst x)(h1:P.underlying src=some .string)(h2:P.underlying dst=some .string)(he:B2 P sg sl0 hp0 nv nx gs o=some e)(hc:∀q∈e.cq,Cn.den c.ρ q):AI P o c n nx sl hp gs a e:=by
 have hm:x∈o.op.operands:=by simp[ho,Op.operands]
 simp only[B2,ho,Ax]at he;obtain⟨s,hs,he⟩:=he;simp only[Xj,h1,h2,Av]at he;obtain⟨y,hy,rfl⟩:=he;obtain⟨f,q1,_⟩:=Iy (h.c7 hs hm) hy;have hd:(y.den c.ρ).slen≠ .undef:=Cl hc;cases hl:y.den c.ρ<;>simp only[hl,AV.slen,ne_eq,not_true_eq_false]at hd;obtain⟨bs,hv,hle,fL⟩:=TS q1 hl;exact AI.pure h (v:= .string bs) (by simp[execOp,ho,hv,convert,run_underlying h1,run_underlying h2]) (.da (by rw[hl,hle];exact Rd.str fL .nil)) rfl
theorem vH{w:World}:∀{ys:List AV} {s:List UInt8} {cs:List Value} {f:List Nat},NK ys=some s->Rd w cs (Aq ys) f-> ∃ns:List Int,cs=ns.map (Value.int .u8)/\s=ns.map (λn=>UInt8.ofNat n.toNat)/\ns.length=ys.length
 | [],s,cs,f,h,hr=>by have:Aq ([]:List AV)=[]:=rfl;rw[this]at hr;cases hr;cases h;exact⟨[],rfl,rfl,rfl⟩
 |y::ys,s,cs,f,h,hr=>by
  unfold NK at h;split at h
  ·rename_i h0;cases h0
  ·rename_i n xs he;cases he;obtain⟨s',h1,rfl⟩:=Av.1 h;have CN:Rd w cs (.int .u8 n::Aq ys) f:=by simpa[Aq,AV.cells]using hr
   cases CN with
   |int hk D3=>obtain⟨ns,rfl,rfl,hl⟩:=vH h1 D3;exact⟨n::ns,rfl,rfl,by simp[hl]⟩
  ·cases h
theorem zuw(h:BJ P c n nx sl hp a sl0 hp0 o gs){x:Operand}{src dst el:TypeId}(ho:o.op= .convert src dst x)(h1:P.underlying src=some (.slice el))(h2:P.underlying dst=some .string)(he:B2 P sg sl0 hp0 nv nx gs o=some e)(hc:∀q∈e.cq,Cn.den c.ρ q):AI P o c n nx sl hp gs a e:=by
 have hm:x∈o.op.operands:=by simp[ho,Op.operands]
 simp only[B2,ho,Ax]at he;obtain⟨s,hs,he⟩:=he;simp only[Xj,h1,h2]at he;split at he
 ·rename_i hu;obtain⟨y,hy,rfl⟩:=Av.1 he;obtain⟨f,q1,q2⟩:=h.j0 hs hm hy;have hd:(y.den c.ρ).text≠ .undef:=Cl hc;cases BO:y.den c.ρ<;>simp only[BO,AV.text,ne_eq,not_true_eq_false]at hd;rename_i xs;split at hd
  ·rename_i t ht;split at hd
   ·rename_i hle;have Cw:(E.text y).den c.ρ= .str t:=by
     simp only[E.den,BO,AV.text,ht];rw[if_pos hle]
    have fin:∀ns:List Int,t=ns.map (λn=>UInt8.ofNat n.toNat)->ns.length=xs.length->(convert src dst (a.eval x)).run P c.w= .ok (.string (ns.foldl (λr n=>r.push (UInt8.ofNat n.toNat)) ByteArray.empty)) c.w->AI P o c n nx sl hp gs a {cq:=[.dfd (.text y)],val:= .e (.text y)}:=λns e1 e2 e3=>by
     have e4:(ns.foldl (λr n=>r.push (UInt8.ofNat n.toNat)) ByteArray.empty)=⟨t.toArray⟩:=by
      rw[foldl_push_bytes,e1];simp[ByteArray.empty,ByteArray.emptyWithCapacity]
      try rfl
     rw[e4]at e3;refine AI.pure h (v:= .string ⟨t.toArray⟩) (by simp[execOp,ho,e3]) (.da ?_) rfl;rw[Cw];have Bv:(ByteArray.mk t.toArray).size<=9223372036854775807:=by simp only[ByteArray.size,List.size_toArray];rw[e1,List.length_map];omega
     have:=Rd.str (w:=c.w) (s:=⟨t.toArray⟩) Bv .nil;simpa using this
    rw[BO]at q1;rcases q1.kind with hh|hh|hh|hh|hh|hh|hh|hh|hh|hh
    all_goals first
     |(obtain⟨_,_,_,hh,_⟩:=hh;cases hh;done)
     |(obtain⟨_,_,hh,_⟩:=hh;cases hh;done)
     |skip
    ·obtain⟨p,q,hv,hx,_⟩:=hh;cases hx;cases ht;refine fin [] rfl rfl ?_;rw[hv];cases p with
     |none=>rw[run_convert_bytes_nil c.w src el h1 hu _ _ dst h2];rfl
     |some ad=>rw[run_convert_bytes_string c.w src dst el _ 0 q h1 hu h2,run_bytesToString c.w ad 0 q [] (by simp[loadCells,loadCellsFrom])]
    ·obtain⟨b,o',k,q,ys,cs,C,t',fz,sz,f1,hv,hx,_,hb,_,hle',hlen,_,_,BI,hr⟩:=hh;cases hx;obtain⟨ns,rfl,e1,e2⟩:=vH ht hr.2;refine fin ns e1 e2 ?_;have hl:ns.length=k:=by omega
     have B6:∀i,i<k->c.w.cell? ⟨b,o'+i,none⟩=some (.int .u8 (ns.getD i 0)):=λi hi=>by
      have I1:i<ns.length:=by omega
      have:=BI i (.int .u8 ns[i]) (by simp[I1]);rw[EU hb,this];simp[I1]
     have:=run_convert_bytes_arg c.w src el h1 hu b o' k q ns hl B6 dst h2;rw[hv,this];congr 2;rw[foldl_push_bytes];simp[strOfNums,ByteArray.empty,ByteArray.emptyWithCapacity]
     try rfl
    all_goals first
     |(obtain⟨_,_,_,hh,_⟩:=hh;cases hh;done)
     |(obtain⟨_,_,_,_,_,_,_,hh,_⟩:=hh;cases hh;done)
     |(obtain⟨_,_,_,_,hh,_⟩:=hh;cases hh;done)
     |(obtain⟨_,hh,_⟩:=hh;cases hh;done)
   ·exact absurd rfl hd
  ·exact absurd rfl hd
 ·cases he
theorem zvV{ρ:List AV}{x:E}{b:Bool}{gs:Gd}(h1:x.den ρ= .bool b)(h2:BH ρ gs):BH ρ ((x,b)::gs):=by
 intro g hg;rcases Ae.1 hg with rfl|hg
 ·exact h1
 ·exact h2 g hg
theorem zAI(h:BJ P c n nx sl hp a sl0 hp0 o gs){x y z:Operand}(ho:o.op= .pick x y z)(he:B2 P sg sl0 hp0 nv nx gs o=some e)(hc:∀q∈e.cq,Cn.den c.ρ q):AI P o c n nx sl hp gs a e:=by
 have DM:x∈o.op.operands:=by simp[ho,Op.operands]
 have CS:y∈o.op.operands:=by simp[ho,Op.operands]
 have sP:z∈o.op.operands:=by simp[ho,Op.operands]
 simp only[B2,ho,Ax]at he;obtain⟨s,hs,he⟩:=he;have hr:=h.c7 hs DM;split at he
 ·rename_i q;have ex:∀b,a.eval x= .bool b->(execOp a.eval o).run P c.w= .ok (.value (if b then a.eval y else a.eval z)) c.w:=λb hb=>by
   simp[execOp,ho,hb,asBool]
  obtain⟨f,q1⟩:∃f,Rd c.w [a.eval x] [q.den c.ρ] f:=by
   generalize a.eval x=v at hr;cases hr with
   |e h1 _ _=>exact⟨_,h1⟩
  unfold uH at he;split at he
  ·obtain⟨s',Bh,rfl⟩:=Av.1 he;exact AI.pure h (v:=a.eval y) (ex true (Jj q1 rfl)) (h.c7 Bh CS) rfl
  ·obtain⟨s',Bh,rfl⟩:=Av.1 he;exact AI.pure h (v:=a.eval z) (ex false (Jj q1 rfl)) (h.c7 Bh sP) rfl
  ·split at he
   ·rename_i y' z' hy hz;simp at he;subst he;simp only[Ax]at hy hz;obtain⟨sy,hsy,hy⟩:=hy;obtain⟨sz,Bv,hz⟩:=hz;have hd:(q.den c.ρ).ff≠ .undef:=Cl hc;cases hq:q.den c.ρ<;>simp only[hq,AV.ff,ne_eq,not_true_eq_false]at hd;rename_i b;cases b with
    |true=>have r:=aF (a:=a) hsy (λt ht=>by subst ht;rw[h.sl t CS];exact h.rel.db t) (zvV hq h.gs);obtain⟨f',g1,g2⟩:=Iy r hy;exact AI.pure h (v:=a.eval y) (ex true (Jj q1 hq)) (.e (f:=f') (by simpa[E.den,hq,AV.cond]using g1) g2 .nil) rfl
    |false=>have r:=aF (a:=a) Bv (λt ht=>by subst ht;rw[h.sl t sP];exact h.rel.db t) (zvV hq h.gs);obtain⟨f',g1,g2⟩:=Iy r hz;exact AI.pure h (v:=a.eval z) (ex false (Jj q1 hq)) (.e (f:=f') (by simpa[E.den,hq,AV.cond]using g1) g2 .nil) rfl
   ·cases he
 ·cases he
end
section
variable {P:Program} {c:Cx} {n nx:Nat} {sl sl0:Nat->SV} {hp hp0:Nat->Option Ah} {a:Act} {o:Oper} {gs:Gd} {e:Bn} {sg:B4} {nv:Nat}
theorem nG{w:World}{v:Value}{x:AV}{f:List Nat}(h:Rd w [v] [x] f)(h1:∀cs,x≠ .agg cs)(h2:∀cs,x≠ .tup cs):v.oneCell'=true:=by
 cases h<;>first
  |rfl
  |exact absurd rfl (h1 _)
  |exact absurd rfl (h2 _)
theorem one_cells{v:Value}(h:v.oneCell'=true):v.cells= #[v]:=by cases v<;>first|rfl|(simp[Value.oneCell']at h)
theorem aU{t:TypeId}{s:SV}{v:Value}{cs:List SV}{ck:List Cn}(h:SR c [s] [v])(hc:TD P t s=some (cs,ck))(hk:∀q∈ck,q.den c.ρ):
  SR c cs v.cells.toList/\(∀u∈v.cells.toList,u.oneCell'=true):=by
 unfold TD at hc;split at hc
 ·split at hc
  ·simp at hc;obtain⟨rfl,rfl⟩:=hc;cases h with
   |agg h1 h2 _=>exact⟨by simpa[Value.cells]using h2,by simpa[Value.cells]using h1⟩
  ·rename_i x;simp at hc;obtain⟨rfl,rfl⟩:=hc;cases h with
   |e h1 h2 _=>
    obtain⟨as_,has,hl⟩:=Cl hk;obtain⟨vs,rfl,h3,h4⟩:=K2 h1 has;refine⟨?_,by simpa[Value.cells]using h3⟩;have hlen:=h4.len;have key:∀k,k<=as_.length->SR c ((List.range k).map λj=>SV.e (.fld x j 1 false)) (vs.take k):=by
     intro k
     induction k with
     |zero=>intro _;simpa using SR.nil
     |succ k ih=>
      intro hk;have Cy:k<as_.length:=by omega
      obtain⟨u,g,hu,hg,hr⟩:=h4.at (show as_[k]?=some as_[k] by simp[Cy])
      rw[List.range_succ,List.map_append,List.take_succ_eq_append_getElem (by omega)];refine(ih (by omega)).app ?_;have F9:vs[k]'(by omega)=u:=by simpa[show k<vs.length by omega]using hu
      rw[F9];exact .e (f:=g) (by simpa[E.den,AV.fld,has,AV.cells,Cy]using hr) (λb hb=>h2 b (hg b hb)) .nil
    have:=key as_.length (AQ _);rw[<-hlen,List.take_length,hlen,hl]at this;simpa[Value.cells]using this
  ·cases hc
 ·split at hc
  ·rename_i x;simp at hc;obtain⟨rfl,rfl⟩:=hc;cases h with
   |e h1 h2 _=>
    have hq:(∀cs,x.den c.ρ≠ .agg cs)/\ ∀cs,x.den c.ρ≠ .tup cs:=by
     cases x<;>first
      |exact(Cl hk:Cn.den c.ρ (.cells _ 1))
      |exact⟨by simp[E.den],by simp[E.den]⟩
    have G2:=nG h1 hq.1 hq.2;rw[one_cells G2];exact⟨.e h1 h2 .nil,by simpa using G2⟩
  ·cases hc
  ·cases hc
  ·cases hc
  ·cases hc
  ·cases hc
  ·cases hc
  ·cases hc
  ·cases hc
  ·simp at hc;obtain⟨rfl,rfl⟩:=hc;have G2:v.oneCell'=true:=by
    cases h<;>first|rfl|(rename_i hh _ _ _ _ _;exact absurd rfl (hh _))|skip
    all_goals first
     |rfl
     |exact(show∀(i:Nat),SV.lent _=SV.lent i->False from by assumption) _ rfl|>.elim
     |exact(show∀(t g n:Nat) (p:OO) (x:E),SV.via _ _ _ _ _=SV.via t g n p x->False from by assumption) _ _ _ _ _ rfl|>.elim
     |exact(show∀(t g n:Nat) (p:OO) (x i:E) (sz o:Nat),SV.vptr _ _ _ _ _ _ _ _=SV.vptr t g n p x i sz o->False from by assumption) _ _ _ _ _ _ _ _ rfl|>.elim
     |(exfalso;simp_all;done)
   rw[one_cells G2];exact⟨h,by simpa using G2⟩
theorem zGi(h:BJ P c n nx sl hp a sl0 hp0 o gs)(ob:Obj)(hv:Value):NN c (c.new nx ob hv []) nx:=
 ⟨rfl,rfl,rfl,rfl,λt ht=>ht.imp id (λhh=>by subst hh;exact⟨AQ _,by simp[B1]⟩)⟩
theorem Of(h:BJ P c n nx sl hp a sl0 hp0 o gs): ¬c.U nx:=h.new nx (AQ _) (by omega)
theorem AI.box(h:BJ P c n nx sl hp a sl0 hp0 o gs){ty:TypeId}{g:Bool}{cs:List SV}{v:Value}{ck:List Cn}(hr:(execOp a.eval o).run P c.w= .ok (.value (.pointer (some ⟨c.w.heap.size,0,none⟩))) (c.w.alloc (.cells v.cells ty)))
  (hs:SR c cs v.cells.toList) (h1:∀u∈v.cells.toList,u.oneCell'=true):AI P o c n nx sl hp gs a {cq:=ck,val:= .cw nx 0,bu:=[(nx,Da gs (.box ty g cs))]}:=by
 intro next Q hk
 unfold Oper.wp;rw[hr,Oper.upon_value];have hU:=Of h;have keep:Ej c (c.new nx (.cells v.cells ty) (.pointer (some ⟨c.w.heap.size,0,none⟩)) []):=Cx.gp (λg hg=>hU (h.rel.ca _ _ hg));have hH:(c.new nx (.cells v.cells ty) (.pointer (some ⟨c.w.heap.size,0,none⟩)) []).H nx 0= .pointer (some ⟨c.w.heap.size,0,none⟩):=by simp[Cx.new]
 have hK:(c.new nx (.cells v.cells ty) (.pointer (some ⟨c.w.heap.size,0,none⟩)) []).K nx 0:= .inr ⟨rfl,rfl⟩;have hrel:=h.rel.new hU (.cells v.cells ty) (.pointer (some ⟨c.w.heap.size,0,none⟩)) (.box ty g cs) gs h.gs (by intros;simp)
  ⟨c.w.heap.size,v.cells,hK,hH,by simp[Cx.new],by simp[Cx.new],heap_alloc_new _ _,h1,hs.keep keep⟩
 exact hk _ _ (zGi h _ _) (hrel.put ((SR.cw hK hH .nil).mkGd gs h.gs) o.dst)
theorem zzx(h:BJ P c n nx sl hp a sl0 hp0 o gs){t:TypeId}(ho:o.op= .alloc t)(he:B2 P sg sl0 hp0 nv nx gs o=some e)(hc:∀q∈e.cq,Cn.den c.ρ q):AI P o c n nx sl hp gs a e:=by
 simp only[B2,ho,Ax]at he;obtain⟨z,⟨i,hi,hz⟩,s,hs,⟨cs,ck⟩,BI,he⟩:=he;split at he
 ·cases he
 ·split at he
  ·cases he
  ·rename_i IX;have IX:ck=[]:=by simpa using IX
   simp at he;subst he;have Bh:Fv z=some s:=by simpa[vZ,hi,hz]using hs
   obtain⟨q1,q2⟩:=aU (aN (c:=c) Bh) BI (by simp[IX]);refine AI.box h (v:=z) ?_ q1 q2;simp[execOp,ho,Instr.alloc,zeroValue,typeInfo,hi,hz,newVar,newRow]
theorem zDJ(h:BJ P c n nx sl hp a sl0 hp0 o gs){t:TypeId}{x:Operand}(ho:o.op= .box t x)(he:B2 P sg sl0 hp0 nv nx gs o=some e)(hc:∀q∈e.cq,Cn.den c.ρ q):AI P o c n nx sl hp gs a e:=by
 have hm:x∈o.op.operands:=by simp[ho,Op.operands]
 simp only[B2,ho,Ax]at he;obtain⟨s,hs,⟨cs,ck⟩,BI,he⟩:=he;split at he
 ·cases he
 ·simp at he;subst he;obtain⟨q1,q2⟩:=aU (h.c7 hs hm) BI hc;refine AI.box h (v:=a.eval x) ?_ q1 q2;simp[execOp,ho,Instr.box,newVar,newRow]
end
section
variable {P:Program} {c:Cx} {n nx:Nat} {sl sl0:Nat->SV} {hp hp0:Nat->Option Ah} {a:Act} {o:Oper} {gs:Gd} {e:Bn} {sg:B4} {nv:Nat}
def setVs{α:Type}(cs:List α)(o:Nat)(vs:List α):List α:=cs.take o++vs++cs.drop (o+vs.length)
theorem Tl{α:Type}(cs vs:List α)(o:Nat)(h:o+vs.length<=cs.length)(i:Nat):(setVs cs o vs)[i]?=if o<=i/\i<o+vs.length then vs[i-o]? else cs[i]?:=by
 unfold setVs;have ht:(cs.take o).length=o:=by rw[Au];omega
 rw[List.append_assoc];by_cases h1:i<o
 ·rw[if_neg (by omega),List.getElem?_append_left (by omega),List.getElem?_take,if_pos h1]
 ·rw[List.getElem?_append_right (by omega),ht];by_cases h2:i<o+vs.length
  ·rw[if_pos (by omega),List.getElem?_append_left (by omega)]
  ·rw[if_neg (by omega),List.getElem?_append_right (by omega),List.getElem?_drop];congr 1;omega
theorem Te{α:Type}(cs vs:List α)(o:Nat)(h:o+vs.length<=cs.length):(setVs cs o vs).length=cs.length:=by simp[setVs];omega
theorem SR.setVs{cs vs:List SV}{C V:List Value}{k:Nat}(h:SR c cs C)(hv:SR c vs V):SR c (T2 cs k vs) (Go.Proofs.YtalagilebkaegaaGreat.setVs C k V):=by unfold T2 Go.Proofs.YtalagilebkaegaaGreat.setVs;have hl:=hv.len;rw[<-hl];exact((h.split k).1.app hv).app (h.split _).2
theorem zyL(vs:List Value):∀(k off:Nat) (C:Array Value),off+k+vs.length<=C.size->
  ((vs.zipIdx k).foldl (λcs (p:Value × Nat)=>cs.setIfInBounds (off+p.2) p.1) C).toList=setVs C.toList (off+k) vs:=by
 induction vs with
 |nil=>intro k off C _;simp[setVs]
 |cons v vs ih=>
  intro k off C h;simp only[Bk]at h;simp only[List.zipIdx_cons,List.foldl_cons];rw[ih (k+1) off _ (by simp;omega)];apply List.ext_getElem?;intro i;rw[Tl _ _ _ (by simp;omega),Tl _ _ _ (by simp;omega)];simp only[Array.toList_setIfInBounds,List.getElem?_set,Bk,BL];by_cases h1:i=off+k
  ·subst h1;rw[if_neg (by omega),if_pos rfl,if_pos (by omega),if_pos (by omega)];simp
  ·by_cases h2:off+(k+1)<=i/\i<off+(k+1)+vs.length
   ·rw[if_pos h2,if_pos (by omega),show i-(off+k)=(i-(off+(k+1)))+1 by omega,List.getElem?_cons_succ]
   ·rw[if_neg h2,if_neg (by omega),if_neg (by omega)]
theorem mY{b off:Nat}{t:TypeId}:∀(vs:List Value) (i:Nat) (w:World) (C:Array Value),w.heap[b]?=some (.cells C t (0,0))->off+i+vs.length<=C.size->(∀v∈vs,v.oneCell'=true)->
  (storeCells ⟨b,off,none⟩ vs i).run P w= .ok () (putCells w b (off+i) vs)
 | [],i,w,C,_,_,_=>by simp[storeCells,putCells]
 |v::vs,i,w,C,hb,hl,h1=>by
  simp only[Bk]at hl;have hi:off+i<C.size:=by omega
  have B6:w.cell? ⟨b,off+i,none⟩=some C[off+i]:=by simp[World.cell?,hb,hi]
  have eT:w.frozen? ⟨b,off+i,none⟩=false:=by simp[World.frozen?,hb]
  have DD:(store ((⟨b,off,none⟩:Addr).add i) v).run P w= .ok () (w.setCell ⟨b,off+i,none⟩ v):=by rw[Addr.add_lit,run_store P w _ v _ (h1 v (by simp)),B6];simp[eT]
  have h2:=heap_setCell_same w b (off+i) C t v hb;have ih:=mY (off:=off) vs (i+1) (w.setCell ⟨b,off+i,none⟩ v) _ h2 (by simp;omega) (λx hx=>h1 x (by simp[hx]));simp only[storeCells,Sem.run_bind,DD,Result.andThen_ok,ih,putCells];rw[Nat.add_assoc]
theorem ZY{w:World}{b off:Nat}{t:TypeId}{vs:List Value}{C:Array Value}(hb:w.heap[b]?=some (.cells C t (0,0)))(hl:off+vs.length<=C.size):
  Mod [b] w (putCells w b off vs)/\(putCells w b off vs).heap[b]?=some (.cells (setVs C.toList off vs).toArray t (0,0))/\(putCells w b off vs).heap.size=w.heap.size:=by
 obtain⟨hm,C',h1,h2,h3,h4⟩:=mR vs w b off C t hb hl;refine⟨hm,?_,?_⟩
 ·rw[h1];congr 2;apply Array.ext';apply List.ext_getElem?;intro i;rw[Tl _ _ _ (by simpa using hl)];by_cases hi:off<=i/\i<off+vs.length
  ·rw[if_pos hi];have AD:i-off<vs.length:=by omega
   have:=h3 (i-off) vs[i-off] (by simp[AD]);rw[show off+(i-off)=i by omega]at this;rw[Array.getElem?_toList,this];simp[AD]
  ·rw[if_neg hi,Array.getElem?_toList,Array.getElem?_toList];exact h4 i (by omega)
 ·clear hm h1 h2 h3 h4 hl
  induction vs generalizing w off C with
  |nil=>rfl
  |cons v vs ih=>simp only[putCells];rw[ih (heap_setCell_same w b off C t v hb)];simp[World.setCell]
theorem nE{w:World}{b off:Nat}{t ty:TypeId}{v:Value}{C:Array Value}(hb:w.heap[b]?=some (.cells C ty (0,0)))(ht:DI P t=true)(hs:v.cells.size=P.cellsOf t)(hl:off+v.cells.size<=C.size)(h1:∀u∈v.cells.toList,u.oneCell'=true):
  (Instr.storeAt t (.pointer (some ⟨b,off,none⟩)) v).run P w= .ok () (putCells w b off v.cells.toList):=by
 have:=mY (P:=P) (off:=off) v.cells.toList 0 w C hb (by simpa using hl) h1;simp only[Nat.add_zero]at this;simp[Instr.storeAt,Instr.sureAddr,storeVar,Qd ht,hs,this]
def Cx.wr(c:Cx)(w':World)(t:Nat):Cx:={c with w:=w',E:=λu=>if u=t then c.E u+1 else c.E u}
theorem Cx.ij{c:Cx}{w':World}{t b:Nat}(gw:GW c)(Cp:b∈(c.G t).top)(hm:Mod [b] c.w w'):Ej c (c.wr w' t):=by
 have Bq:b∈(c.G t).own:=by simp[GI.own,Cp]
 refine⟨rfl,rfl,λq _ hq=>hq,λq hq A5=>hm.block q hq ?_,λu g hu=>⟨hu,rfl⟩,λu g hu=> ?_⟩
 ·simp only[List.mem_singleton];rintro rfl;exact A5.1 ⟨t,Cp⟩
 ·by_cases G9:u=t
  ·have e1:(c.wr w' t).E u=c.E u+1:=by simp only[Cx.wr,if_pos G9]
   exact⟨by omega,λh=>by omega⟩
  ·have e1:(c.wr w' t).E u=c.E u:=by simp only[Cx.wr,if_neg G9]
   rw[e1];refine⟨AQ _,λ_=>⟨rfl,λq hq FJ=>hm.block q FJ ?_⟩⟩;simp only[List.mem_singleton];rintro rfl;exact gw.cy t u (Ne.symm G9) q Bq (by simp[GI.own,hq])
theorem Rel.write(h:Rel c n sl hp a){t:Nat}{e0:Ah}{b:Nat}{w':World}(AN:CR c.ρ (hp t) e0)(Cp:b∈(c.G t).top)(hm:Mod [b] c.w w')(Bv:w'.heap.size=c.w.heap.size)(e1:Ah)(A9:∀hs f,e1≠ .gd hs f)
  (he:DJ (c.wr w' t) t e1):Rel (c.wr w' t) n sl (By hp [(t,e1)]) a/\Ej c (c.wr w' t):=by
 have Bq:b∈(c.G t).own:=by simp[GI.own,Cp]
 have Cj:Ej c (c.wr w' t):=Cx.ij h.gw Cp hm;have Ep:∀u,By hp [(t,e1)] u=if u=t then some e1 else hp u:=λu=>rfl;refine⟨h.change (λu=>u=t) Cj ⟨hm.os.trans h.base.os,hm.tape.trans h.base.tape,hm.output.trans h.base.output,Nat.le_trans h.base.size hm.size,h.base.pins,λq hq GJ=> ?_,h.base.pk,h.base.lo⟩
  (λu hu=>⟨by rw[Ep,if_neg hu],rfl,by simp[Cx.wr,hu],λg hg=>hg⟩) (λu hu q hq=>hm.block q (h.gw.inb u q (by simp[GI.own,hq])) ?_) (λu hu=> ?_) ⟨h.gw.nodup,h.gw.cy,h.gw.allow,λu q hq=> ?_⟩ h.ca (λu f hf=> ?_),Cj⟩
 ·refine(hm.block q (Nat.lt_of_lt_of_le hq h.base.size) ?_).trans (h.base.block q hq GJ);simp only[List.mem_singleton];rintro rfl;rcases h.gw.allow t q Bq with hh|hh
  ·exact absurd hh (Nat.not_le.2 hq)
  ·exact GJ hh
 ·simp only[List.mem_singleton];rintro rfl;exact h.gw.cy t u (Ne.symm hu) q Bq (by simp[GI.own,hq])
 ·subst hu;rw[Ep,if_pos rfl];refine⟨λe' hr=> ?_,λhn=> ?_⟩
  ·cases e1<;>first
    |(simp only[CR]at hr;subst hr;exact he)
    |exact absurd rfl (A9 _ _)
  ·cases e1<;>first
    |exact absurd rfl (A9 _ _)
    |exact absurd rfl (hn _)
 ·show q<w'.heap.size;rw[Bv];exact h.gw.inb u q hq
 ·rw[Ep]at hf;split at hf
  ·rename_i hu;subst hu;cases hh:hp u with
   |none=>rw[hh]at AN;exact AN.elim
   |some e9=>exact h.c6 u e9 hh
  ·exact h.c6 u f hf
end
section
variable {P:Program} {c:Cx} {n nx:Nat} {sl sl0:Nat->SV} {hp hp0:Nat->Option Ah} {a:Act} {o:Oper} {gs:Gd} {e:Bn} {sg:B4} {nv:Nat}
theorem zuQ(h:BJ P c n nx sl hp a sl0 hp0 o gs){t:TypeId}{x y:Operand}(ho:o.op= .store t x y){b k:Nat}{s:SV}(hx:BT sl0 gs x=some (.cw b k))(hy:BT sl0 gs y=some s)
  (he:Og P hp0 gs t (.cw b k) s=some e) (hc:∀q∈e.cq,Cn.den c.ρ q):AI P o c n nx sl hp gs a e:=by
 have r1:=h.c7 hx (by simp[ho,Op.operands]);have r2:=h.c7 hy (by simp[ho,Op.operands]);simp only[Og]at he;split at he
 ·rename_i ty g cs vs ck hl BI;split at he
  ·rename_i hh;obtain⟨BC,hlen,hle,rfl⟩:=hh;simp at he;subst he;obtain⟨q1,q2⟩:=aU r2 BI hc;generalize hv:a.eval x=v at r1;cases r1 with
   |cw h1 h2 h3=>
    rename_i q;have FL:=CU hl h.gs;obtain⟨q',C,e1,e2,e3,e4,e5,e5',e6⟩:=h.eh b _ FL;rw[h2]at e2;cases e2;have AN:CR c.ρ (hp b) (.box ty g cs):=by
     cases hh:hp0 b with
     |none=>rw[hh]at FL;exact FL.elim
     |some e9=>rw[h.hp b e9 hh];rwa[hh]at FL
    have Pe:=e6.len;have fK:=q1.len;obtain⟨m1,m2,m3⟩:=ZY (vs:=(a.eval y).cells.toList) e5 (show k+_<=C.size by simp at Pe fK ⊢;omega);obtain⟨hrel,Cj⟩:=h.rel.write AN (by rw[e3];simp) m1 m3 (.box ty g (T2 cs k vs)) (by intros;simp) (w':=putCells c.w q k (a.eval y).cells.toList) (by
     have Cy:Ej c (c.wr (putCells c.w q k (a.eval y).cells.toList) b):=Cx.ij h.rel.gw (by rw[e3];simp) m1;refine⟨q,_,e1,h2,e3,e4,m2,?_,?_⟩
     ·intro u hu;simp only[List.toList_toArray]at hu;unfold setVs at hu;simp only[Ac]at hu;rcases hu with(hu|hu)|hu
      ·exact e5' u (BA hu)
      ·exact q2 u hu
      ·exact e5' u (BM hu)
     ·simpa using(e6.setVs q1 (k:=k)).keep Cy)
    intro next Q hk
    unfold Oper.wp;have hr:(execOp a.eval o).run P c.w= .ok .skip (putCells c.w q k (a.eval y).cells.toList):=by have:=nE (P:=P) (t:=t) (v:=a.eval y) (off:=k) e5 BC (by simp at fK;omega) (by simp at Pe fK;omega) q2;simp[execOp,ho,hv,this]
    rw[hr,Oper.upon_skip];exact hk _ (c.wr (putCells c.w q k (a.eval y).cells.toList) b) ⟨rfl,rfl,rfl,rfl,λt ht=> .inl ht⟩ (hrel.put ((SR.undef .nil).mkGd []) o.dst)
  ·cases he
 ·cases he
theorem zxY{places:List (Nat × Nat)}{tys:List TypeId}:∀(ps:List (Nat × SV)) (vs:List (Nat × Value)) (cs:List SV) (C:Array Value) (r:List SV × List Cn),Vx P places tys ps cs=some r->(∀q∈r.2,q.den c.ρ)->
  ps.map (·.1)=vs.map (·.1)->SR c (ps.map (·.2)) (vs.map (·.2))->SR c cs C.toList->(∀u∈C.toList,u.oneCell'=true)->
  ∃C',Instr.fill (places.toArray[·]?) C vs=some C'/\SR c r.1 C'.toList/\ ∀u∈C'.toList,u.oneCell'=true
 | [],vs,cs,C,r,h,hk,he,_,hC,h1=>by
  have:vs=[]:=by simpa using he.symm
  subst this;simp[Vx]at h;subst h;exact⟨C,rfl,hC,h1⟩
 |(i,s)::ps,[],cs,C,r,h,hk,he,_,hC,h1=>by simp at he
 |(i,s)::ps,(j,v)::vs,cs,C,r,h,hk,he,hs,hC,h1=>by
  simp only[List.map_cons,List.cons.injEq]at he;obtain⟨rfl,he⟩:=he;simp only[List.map_cons]at hs;obtain⟨BR,Bi⟩:=hs.ct;unfold Vx at h;split at h
  ·rename_i off sz t GQ BC;split at h
   ·rename_i us ck BI;split at h
    ·rename_i hh;obtain⟨Bv,hle⟩:=hh;obtain⟨r',CN,rfl⟩:=Av.1 h;obtain⟨q1,q2⟩:=aU BR BI (λq hq=>hk q (by simp[hq]));have JA:=q1.len;have Ld:=hC.len;have M9:(v.cells.zipIdx.foldl (λcs (p:Value × Nat)=>cs.setIfInBounds (off+p.2) p.1) C).toList=setVs C.toList off v.cells.toList:=by
      have:=zyL v.cells.toList 0 off C (by simp at JA Ld ⊢;omega);rw[<-Array.foldl_toList,Array.toList_zipIdx];simpa using this
     obtain⟨C',g1,g2,g3⟩:=zxY ps vs (T2 cs off us) (v.cells.zipIdx.foldl (λcs (p:Value × Nat)=>cs.setIfInBounds (off+p.2) p.1) C) r' CN (λq hq=>hk q (by simp[hq])) he Bi (by rw[M9];exact hC.setVs q1) (by
      rw[M9];intro u hu;unfold setVs at hu;simp only[Ac]at hu;rcases hu with(hu|hu)|hu
      ·exact h1 u (BA hu)
      ·exact q2 u hu
      ·exact h1 u (BM hu))
     refine⟨C',?_,g2,g3⟩;unfold Instr.fill;have gG:places.toArray[i]?=some (off,sz):=by simpa using GQ
     simp only[gG];rw[if_neg (by simp at JA Ld ⊢;omega)];exact g1
    ·cases h
   ·cases h
  ·cases h
theorem aT{sl0:Nat->SV}{gs:Gd}(L:List Operand)(h:∀x s,BT sl0 gs x=some s->x∈L->SR c [s] [a.eval x]):∀{xs:List (Nat × Operand)} {ss:List (Nat × SV)},(∀x∈xs,x.2∈L)->xs.mapM (λ(p:Nat × Operand)=>(BT sl0 gs p.2).map λs=>(p.1,s))=some ss->
  ss.map (·.1)=xs.map (·.1)/\SR c (ss.map (·.2)) (xs.map λp=>a.eval p.2)
 | [],ss,_,hm=>by simp at hm;subst hm;exact⟨rfl, .nil⟩
 |x::xs,ss,hL,hm=>by rw[List.mapM_cons]at hm;simp only[Option.bind_eq_bind,Ax,Av]at hm;obtain⟨_,⟨s,hs,rfl⟩,ss',GR,hm⟩:=hm;simp at hm;subst hm;obtain⟨e1,e2⟩:=aT L h (λy hy=>hL y (by simp[hy])) GR;exact⟨by simp[e1],(h _ s hs (hL x (by simp))).app e2⟩
theorem zzg(h:BJ P c n nx sl hp a sl0 hp0 o gs){t:TypeId}{parts:Array (Nat × Operand)}(ho:o.op= .build t parts)(he:B2 P sg sl0 hp0 nv nx gs o=some e)(hc:∀q∈e.cq,Cn.den c.ρ q):AI P o c n nx sl hp gs a e:=by
 simp only[B2,ho,Ax]at he;obtain⟨ps,Le,he⟩:=he;obtain⟨e1,e2⟩:=aT (c:=c) (a:=a) (parts.toList.map (·.2)) (λx s hx hm=>h.c7 hx (by simpa[ho,Op.operands]using hm)) (λx hx=>List.mem_map.2 ⟨x,hx,rfl⟩) Le;unfold zyD at he;split at he
 ·rename_i it fs Nh hu;split at he
  ·rename_i zs places hz GQ;obtain⟨r,hr,rfl⟩:=Av.1 he;obtain⟨z,Hc,Ya⟩:=Ax.1 hz;have tH:=aN (c:=c) Ya;obtain⟨cells,g1,g2,g3⟩:=zxY (c:=c) (P:=P) ps (parts.toList.map λp=>(p.1,a.eval p.2)) zs.toList z.cells r hr hc (by rw[e1];simp) (by rw[List.map_map];exact e2)
    (by cases tH with|agg h1 h2 _=>simpa[Value.cells]using h2) (by cases tH with|agg h1 h2 _=>simpa[Value.cells]using h1)
   have hb:P.built t (parts.map λ(x:Nat × Operand)=>(x.1,a.eval x.2)).toList=some cells:=by simp only[Program.built,Nh,hu,Hc,GQ];simpa using g1
   have:=SR.agg (c:=c) (cs:=BV.of r.1) (as_:=cells.toList) g3 (by rw[BV.ay];exact g2) .nil;refine AI.pure h (v:= .agg cells) ?_ (by simpa using this) rfl;have AW:=run_build c.w t _ cells hb;simp only[execOp,ho,Sem.run_bind];rw[AW];rfl
  ·cases he
 ·cases he
end
section
variable {P:Program} {c:Cx} {n nx:Nat} {sl sl0:Nat->SV} {hp hp0:Nat->Option Ah} {a:Act} {o:Oper} {gs:Gd} {e:Bn} {sg:B4} {nv:Nat}
def Cx.cg(c:Cx)(ts:List Nat):Cx:={c with G:=λu=>if u∈ts then⟨[],[]⟩else c.G u,E:=λu=>if u∈ts then c.E u+1 else c.E u}
theorem Cx.jb{c:Cx}{ts:List Nat}{b:Nat}(h:(c.cg ts).M b):∃u,u∉ts/\b∈(c.G u).top:=by
 obtain⟨u,hu⟩:=h;simp only[Cx.cg]at hu;split at hu
 ·simp at hu
 ·exact⟨u,by assumption,hu⟩
theorem Cx.fc{c:Cx}{ts:List Nat}{b:Nat}(h:c.ok b):(c.cg ts).ok b:=⟨λhm=>by obtain⟨u,_,hu⟩:=Cx.jb hm;exact h.1 ⟨u,hu⟩,h.2⟩
theorem Cx.jo(c:Cx)(ts:List Nat):Ej c (c.cg ts):=⟨rfl,rfl,λ_ _ h=>Cx.fc h,λ_ _ _=>rfl,λ_ _ h=>⟨h,rfl⟩,λt g _=>by
 by_cases ht:t∈ts
 ·have e1:(c.cg ts).E t=c.E t+1:=by simp only[Cx.cg,if_pos ht]
  exact⟨by omega,λh=>by omega⟩
 ·have e1:(c.cg ts).E t=c.E t:=by simp only[Cx.cg,if_neg ht]
  have e2:(c.cg ts).G t=c.G t:=by simp only[Cx.cg,if_neg ht]
  rw[e1];exact⟨AQ _,λ_=>⟨e2,λ_ _ _=>rfl⟩⟩⟩
theorem uB{c:Cx}(gw:GW c){ts us:List Nat}(hs:∀t∈us,t∈ts){b:Nat}(h:c.ek us b):(c.cg ts).ok b:=by
 rcases h with h|⟨t,ht,hb⟩
 ·exact Cx.fc h
 ·have Bq:b∈(c.G t).own:=by simp[GI.own,hb]
  refine⟨λhm=> ?_, .inr (gw.allow t b Bq)⟩;obtain⟨u,hu,IW⟩:=Cx.jb hm;have:t≠u:=λhh=>hu (hh▸hs t ht);exact gw.cy t u this b Bq (by simp[GI.own,IW])
def MI(e:Ah)(g:Nat)(x:E):Prop:=(∃ety sz d,e= .row ety sz g x d)\/ ∃ety sz l ep,e= .deep ety sz l g ep x
theorem MI.ne{e:Ah}{g:Nat}{x:E}(h:MI e g x):∀hs f,e≠ .gd hs f:=by rcases h with⟨_,_,_,rfl⟩|⟨_,_,_,_,rfl⟩<;>intros<;>simp
theorem MI.rd{e:Ah}{g t:Nat}{x:E}(h:MI e g x)(k:DJ c t e):c.K t g/\ ∃f,Rd c.w [c.H t g] [x.den c.ρ] f/\ ∀b∈f,b∈(c.G t).top\/c.ok b:=by
 rcases h with⟨_,_,_,rfl⟩|⟨_,_,_,_,rfl⟩
 ·obtain⟨q1,q2,N,q3,q4,_⟩:=k;obtain⟨f,r1,r2,_⟩:=q3.rd;exact⟨q1,f,r1,λb hb=>(r2 b hb).imp id (q4 b)⟩
 ·obtain⟨q1,q2,_,q3,_⟩:=k;obtain⟨f,r1,r2⟩:=q3.rd;exact⟨q1,f,r1,λb hb=> .inl (r2 b hb)⟩
theorem MI.fun{e:Ah}{g g':Nat}{x x':E}(h:MI e g x)(k:MI e g' x'):g=g'/\x=x':=by rcases h with⟨_,_,_,rfl⟩|⟨_,_,_,_,rfl⟩<;>rcases k with⟨_,_,_,hh⟩|⟨_,_,_,_,hh⟩<;>cases hh<;>exact⟨rfl,rfl⟩
theorem P6{gs:Gd}{ρ:List AV}(k:BH ρ gs):∀{ts:List Nat} {l:List (Nat × Ah)},Ef hp0 gs ts=some l->
  (∀t e,(t,e)∈l->t∈ts/\gs=[]/\ ∃g x f,e= .cg g x/\CR ρ (hp0 t) f/\MI f g x)/\
  (∀t∈ts,(∃g x,(t,Ah.cg g x)∈l)\/(∃g x,CR ρ (hp0 t) (.cg g x))\/ ∃ty g cs,CR ρ (hp0 t) (.box ty g cs))
 | [],l,h=>by simp[Ef]at h;subst h;simp
 |t::ts,l,h=>by
  unfold Ef at h;split at h
  ·rename_i ety sz g x d l' hl BY;split at h
   ·rename_i hg;simp at h;subst h;obtain⟨h1,h2⟩:=P6 k BY;refine⟨λu e hu=> ?_,λu hu=> ?_⟩
    ·rcases Ae.1 hu with hu|hu
     ·cases hu;exact⟨by simp,by simpa using hg,g,x,_,rfl,CU hl k, .inl ⟨_,_,_,rfl⟩⟩
     ·obtain⟨p,q,r⟩:=h1 u e hu;exact⟨by simp[p],q,r⟩
    ·rcases Ae.1 hu with rfl|hu
     ·exact .inl ⟨g,x,by simp⟩
     ·rcases h2 u hu with⟨g',x',hh⟩|hh
      ·exact .inl ⟨g',x',by simp[hh]⟩
      ·exact .inr hh
   ·cases h
  ·rename_i ety sz dl g ep x l' hl BY;split at h
   ·rename_i hg;simp at h;subst h;obtain⟨h1,h2⟩:=P6 k BY;refine⟨λu e hu=> ?_,λu hu=> ?_⟩
    ·rcases Ae.1 hu with hu|hu
     ·cases hu;exact⟨by simp,by simpa using hg,g,x,_,rfl,CU hl k, .inr ⟨_,_,_,_,rfl⟩⟩
     ·obtain⟨p,q,r⟩:=h1 u e hu;exact⟨by simp[p],q,r⟩
    ·rcases Ae.1 hu with rfl|hu
     ·exact .inl ⟨g,x,by simp⟩
     ·rcases h2 u hu with⟨g',x',hh⟩|hh
      ·exact .inl ⟨g',x',by simp[hh]⟩
      ·exact .inr hh
   ·cases h
  ·rename_i g x l' hl BY;simp at h;subst h;obtain⟨h1,h2⟩:=P6 k BY;refine⟨λu e hu=> ?_,λu hu=> ?_⟩
   ·obtain⟨p,q,r⟩:=h1 u e hu;exact⟨by simp[p],q,r⟩
   ·rcases Ae.1 hu with rfl|hu
    ·exact .inr (.inl ⟨g,x,CU hl k⟩)
    ·exact h2 u hu
  ·rename_i ty g cs l' hl BY;simp at h;subst h;obtain⟨h1,h2⟩:=P6 k BY;refine⟨λu e hu=> ?_,λu hu=> ?_⟩
   ·obtain⟨p,q,r⟩:=h1 u e hu;exact⟨by simp[p],q,r⟩
   ·rcases Ae.1 hu with rfl|hu
    ·exact .inr (.inr ⟨ty,g,cs,CU hl k⟩)
    ·exact h2 u hu
  ·cases h
theorem ME{hp:Nat->Option Ah}:∀{l:List (Nat × Ah)} {t:Nat},(∀e,(t,e)∉l)->By hp l t=hp t
 | [],_,_=>rfl
 |(u,e)::l,t,h=>by
  have ht:t≠u:=by rintro rfl;exact h e (by simp)
  have:=ME (hp:=λv=>if v=u then some e else hp v) (l:=l) (t:=t) (λe' Fo=>h e' (by simp[Fo]));simp only[By,List.foldl_cons]at this ⊢;rw[this,if_neg ht]
theorem pX{hp:Nat->Option Ah}:∀{l:List (Nat × Ah)} {t:Nat} {e:Ah},(t,e)∈l->(∀e',(t,e')∈l->e'=e)->By hp l t=some e
 | [],_,_,h,_=>by simp at h
 |(u,f)::l,t,e,h,hu=>by
  simp only[By,List.foldl_cons];by_cases hm:∃e',(t,e')∈l
  ·obtain⟨e',Fo⟩:=hm;have:=hu e' (by simp[Fo]);subst this;exact pX (hp:=λv=>if v=u then some f else hp v) Fo (λe'' h''=>hu e'' (by simp[h'']))
  ·have hn:∀e',(t,e')∉l:=λe' Fo=>hm ⟨e',Fo⟩;have:=ME (hp:=λv=>if v=u then some f else hp v) (l:=l) (t:=t) hn;simp only[By]at this;rw[this];rcases Ae.1 h with h|h
   ·cases h;simp
   ·exact absurd h (hn e)
theorem MN(hs:∀t e,hp0 t=some e->hp t=some e){ρ:List AV}{t:Nat}{e:Ah}(h:CR ρ (hp0 t) e):CR ρ (hp t) e:=by
 cases hh:hp0 t with
 |none=>rw[hh]at h;exact h.elim
 |some e9=>rw[hs t e9 hh];rwa[hh]at h
theorem zFn{ρ:List AV}{o:Option Ah}{e f:Ah}(h:CR ρ o e)(k:CR ρ o f):e=f:=by
 cases o with
 |none=>exact h.elim
 |some o=>
  cases o with
  |gd gs x=>exact h.2.symm.trans k.2
  |box=>exact h.symm.trans k
  |row=>exact h.symm.trans k
  |cg=>exact h.symm.trans k
  |dead=>exact h.symm.trans k
  |deep=>exact h.symm.trans k
  |hol=>exact h.symm.trans k
  |pre=>exact h.symm.trans k
theorem Rel.freeze(h:Rel c n sl hp a)(hs:∀t e,hp0 t=some e->hp t=some e)(k:BH c.ρ gs){ts:List Nat}{l:List (Nat × Ah)}(hf:Ef hp0 gs ts=some l):
  Rel (c.cg (l.map (·.1))) n sl (By hp l) a:=by
 obtain⟨h1,h2⟩:=P6 k hf;have hG:∀u,(c.cg (l.map (·.1))).G u=if u∈l.map (·.1)then⟨[],[]⟩else c.G u:=λu=>rfl;have Kv:∀t e e',(t,e)∈l->(t,e')∈l->e'=e:=by intro t e e' he Fo;obtain⟨_,_,g,x,_,rfl,r,rl⟩:=h1 t e he;obtain⟨_,_,g',x',_,rfl,r',rl'⟩:=h1 t e' Fo;have:=zFn r r';subst this;obtain⟨rfl,rfl⟩:=rl.fun rl';rfl
 refine h.change (λu=>u∈l.map (·.1)) (Cx.jo c _) ⟨h.base.os,h.base.tape,h.base.output,h.base.size,h.base.pins,h.base.block,h.base.pk,h.base.lo⟩ (λu hu=>⟨ME (λe he=>hu (List.mem_map.2 ⟨_,he,rfl⟩)),by rw[hG,if_neg hu],by simp only[Cx.cg,if_neg hu],λg hg=>hg⟩) (λu hu b hb=>rfl) (λu hu=> ?_) ?_ h.ca (λu e hu=> ?_)
 ·obtain⟨⟨u',e⟩,he,rfl⟩:=List.mem_map.1 hu;have Ep:=pX (hp:=hp) he (λe' Fo=>Kv _ _ _ he Fo);obtain⟨_,_,g,x,f0,rfl,r,rl⟩:=h1 u' e he;obtain⟨q1,f,r1,r2⟩:=rl.rd (h.ents u' _ (MN hs r));have L5:((c.cg (l.map (·.1))).G u').top=[]/\((c.cg (l.map (·.1))).G u').O=[]:=by rw[hG,if_pos hu];simp
  rw[Ep];refine⟨λe' hr=> ?_,λ_=>L5⟩;have:e'= .cg g x:=hr.symm;subst this;exact⟨q1,⟨f,r1,λb hb=>by
   refine uB h.gw (ts:=l.map (·.1)) (us:=[u']) (by simpa using hu) ?_;rcases r2 b hb with hb|hb
   ·exact .inr ⟨u',by simp,hb⟩
   ·exact .inl hb⟩,L5.1,L5.2⟩
 ·refine⟨λu=> ?_,λu v gX b hb=> ?_,λu b hb=> ?_,λu b hb=> ?_⟩
  ·rw[hG];split
   ·simp[GI.own]
   ·exact h.gw.nodup u
  ·rw[hG]at hb ⊢;split at hb
   ·simp[GI.own]at hb
   ·split
    ·simp[GI.own]
    ·exact h.gw.cy u v gX b hb
  ·rw[hG]at hb;split at hb
   ·simp[GI.own]at hb
   ·exact h.gw.allow u b hb
  ·rw[hG]at hb;split at hb
   ·simp[GI.own]at hb
   ·exact h.gw.inb u b hb
 ·by_cases hm:∃e',(u,e')∈l
  ·obtain⟨e',Fo⟩:=hm;obtain⟨_,_,g,x,f0,rfl,r,rl⟩:=h1 u e' Fo;have r':=MN hs r;cases hh:hp u with
   |none=>rw[hh]at r';exact r'.elim
   |some e9=>exact h.c6 u e9 hh
  ·rw[ME (λe' Fo=>hm ⟨e',Fo⟩)]at hu;exact h.c6 u e hu
theorem zzZ{ts:List Nat}(h:OM hp0 gs ts=true){t:Nat}(ht:t∈ts){ty:Nat}{g:Bool}{cs:List SV}:Dv hp0 gs t≠some (.box ty g cs):=by intro hl;simp only[OM,Be,List.any_eq_false]at h;have:=h t ht;rw[hl]at this;simp at this
theorem zxg{ρ:List AV}(k:BH ρ gs){ts:List Nat}{l:List (Nat × Ah)}(hf:Ef hp0 gs ts=some l){t:Nat}(ht:t∈ts):(∃g x,(t,Ah.cg g x)∈l)\/(∃g x,Dv hp0 gs t=some (.cg g x))\/ ∃ty g cs,Dv hp0 gs t=some (.box ty g cs):=by
 induction ts generalizing l with
 |nil=>simp at ht
 |cons u ts ih=>
  unfold Ef at hf;split at hf
  ·rename_i ety sz g x d l' hl BY;split at hf
   ·simp at hf;subst hf;rcases Ae.1 ht with rfl|ht
    ·exact .inl ⟨g,x,by simp⟩
    ·rcases ih BY ht with⟨g',x',hh⟩|hh
     ·exact .inl ⟨g',x',by simp[hh]⟩
     ·exact .inr hh
   ·cases hf
  ·rename_i ety sz dl g ep x l' hl BY;split at hf
   ·simp at hf;subst hf;rcases Ae.1 ht with rfl|ht
    ·exact .inl ⟨g,x,by simp⟩
    ·rcases ih BY ht with⟨g',x',hh⟩|hh
     ·exact .inl ⟨g',x',by simp[hh]⟩
     ·exact .inr hh
   ·cases hf
  ·rename_i g x l' hl BY;simp at hf;subst hf;rcases Ae.1 ht with rfl|ht
   ·exact .inr (.inl ⟨g,x,hl⟩)
   ·exact ih BY ht
  ·rename_i ty g cs l' hl BY;simp at hf;subst hf;rcases Ae.1 ht with rfl|ht
   ·exact .inr (.inr ⟨ty,g,cs,hl⟩)
   ·exact ih BY ht
  ·cases hf
theorem WE(h:Rel c n sl hp a)(eh:EH c hp0)(k:BH c.ρ gs){ts:List Nat}{l:List (Nat × Ah)}(hf:Ef hp0 gs ts=some l)(hb:OM hp0 gs ts=true){b:Nat}(hs:c.ek ts b):(c.cg (l.map (·.1))).ok b:=by
 rcases hs with hs|⟨t,ht,CX⟩
 ·exact Cx.fc hs
 ·rcases zxg k hf ht with⟨g,x,hh⟩|⟨g,x,hh⟩|⟨ty,g,cs,hh⟩
  ·exact uB h.gw (us:=[t]) (by simpa using⟨_,hh⟩) (.inr ⟨t,by simp,CX⟩)
  ·obtain⟨_,_,Cp,_⟩:=eh t _ (CU hh k);rw[Cp]at CX;simp at CX
  ·exact absurd hh (zzZ hb ht)
theorem zrz(h:Rel c n sl hp a)(hs:∀t e,hp0 t=some e->hp t=some e)(k:BH c.ρ gs){t:TypeId}{s:SV}{v:Value}(hr:SR c [s] [v]){x:E}{fz:List (Nat × Ah)}{d:Bool}{ck:List Cn}(ht:cY P hp0 gs t s=some (x,fz,d,ck))(hc:∀q∈ck,q.den c.ρ):
  ∃f,Rd c.w [v] [x.den c.ρ] f/\(d=true->f=[])/\(∃ts,Ef hp0 gs ts=some fz/\ ∀b∈f,(c.cg (fz.map (·.1))).ok b)/\
   (if Ap P t then∃cs,x.den c.ρ= .agg cs/\cs.length=P.cellsOf t else(∀cs,x.den c.ρ≠ .agg cs)/\ ∀cs,x.den c.ρ≠ .tup cs):=by
 have eh:EH c hp0:=λt e hr=>h.ents t e (MN hs hr);unfold cY at ht;split at ht
 ·cases ht
 ·rename_i y hy;obtain⟨f,q1,q2⟩:=IE eh k Bg hy hr Bg (AQ _);split at ht
  ·simp at ht;obtain⟨rfl,rfl,rfl,rfl⟩:=ht;obtain⟨c1,c2,c3,c4⟩:=Cl hc;have hf:f=[]:=by
    cases hg:Ap P t with
    |true=>obtain⟨cs,BI⟩:=c3 hg;obtain⟨as_,rfl,_,r⟩:=K2 q1 BI;exact HV r (by rw[BI]at c2;exact c2)
    |false=>exact HV q1 (by simpa using c4 hg)
   subst hf;refine⟨[],q1,λ_=>rfl,⟨[],rfl,by simp⟩,?_⟩;split
   ·rename_i hg;obtain⟨cs,BI⟩:=c3 hg;exact⟨cs,BI,by rw[BI]at c1;exact c1⟩
   ·rename_i hg;have:=c4 (by simpa using hg);exact⟨λcs BI=>by rw[BI]at this;simp[AV.scalar]at this,λcs BI=>by rw[BI]at this;simp[AV.scalar]at this⟩
  ·split at ht
   ·rename_i I6;split at ht
    ·cases ht
    ·rename_i l hl;simp only[Ad,A4]at ht;obtain⟨rfl,rfl,rfl,rfl⟩:=ht;refine⟨f,q1,by simp,⟨_,hl,λb hb=>WE h eh k hl I6 (q2 b hb)⟩,?_⟩;have hq:=Cl hc;unfold wO at hq;split
     ·rename_i hg;rw[if_pos hg]at hq;obtain⟨cs,BI,hl⟩:=hq;exact⟨cs,BI,hl⟩
     ·rename_i hg;rw[if_neg hg]at hq;exact hq
   ·cases ht
end
section
variable {P:Program} {c:Cx} {n nx:Nat} {sl sl0:Nat->SV} {hp hp0:Nat->Option Ah} {a:Act} {o:Oper} {gs:Gd} {e:Bn} {sg:B4} {nv:Nat}
theorem Qw(w:World)(t ty el:TypeId)(i:TypeInfo)(z:Value)(ht:P.underlying t=some (.slice el))(hi:P.info? el=some i)(hz:i.zero=some z)(CY:z.cells.size=i.size)(Bv:0<i.size)
  (Own:Nat->Prop) (v:Value) (k:Nat) (old:List Value) (ho:old.length=k*i.size)
  (AX:(k=0/\ ∃q,v= .slice q 0 0)\/ ∃g cap C,v= .slice (some ⟨g,0,none⟩) k cap/\k<=cap/\cap<=maxLen/\w.heap[g]?=some (.cells C el (0,0))/\C.size=cap*i.size/\old=C.toList.take (k*i.size)/\Own g)
  (q:Option Addr) (m r:Nat) (news:List Value) (hs:Src w i.size q m news) (XO:k+m<=maxLen) (hb:(k+m)*i.bytes<=140737488355328):
  ∃v' w',(Builtin.append_ #[t,t] ty #[v, .slice q m r]).run P w= .ok v' w'/\
   ((v'=v/\w'=w/\m=0)\/ ∃g cap C,v'= .slice (some ⟨g,0,none⟩) (k+m) cap/\k+m<=cap/\cap<=maxLen/\w'.heap[g]?=some (.cells C el (0,0))/\C.size=cap*i.size/\C.toList.take ((k+m)*i.size)=old++news/\
    w.grownBy w' (some g)/\((g=w.heap.size/\g<w'.heap.size)\/Own g)):=by
 have Kq:news.length=m*i.size:=by
  rcases hs with⟨rfl,rfl,rfl⟩|⟨ad,rfl,h1,_⟩
  ·simp
  ·exact h1
 have hlen:(old++news).length=(k+m)*i.size:=by rw[AF,ho,Kq,Nat.add_mul]
 have grown:∀(cp:Nat),cp<k+m-> ∀(X:Array Value),X.toList=old++news-> ∃C,C=X++Builtin.zeroCells z.cells (grownCap w (k+m) cp el-(k+m))/\
   k+m<=grownCap w (k+m) cp el/\grownCap w (k+m) cp el<=maxLen/\C.size=grownCap w (k+m) cp el*i.size/\C.toList.take ((k+m)*i.size)=old++news:=by
  intro cp hcp X hX;have Nb:=grownCap_ge w (k+m) cp el;have Gq:=grownCap_le_maxLen w (k+m) cp el XO;refine⟨_,rfl,Nb,Gq,?_,?_⟩
  ·have hXs:X.size=(k+m)*i.size:=by rw[<-BL,hX,hlen]
   rw[Array.size_append,hXs,size_zeroCells,CY,<-Nat.add_mul];congr 1;omega
  ·rw[Array.toList_append,hX,<-hlen];exact List.take_left
 have newb:∀C:Array Value,w.grownBy (w.drew.alloc (.cells C el)) (some w.heap.size)/\w.heap.size<(w.drew.alloc (.cells C el)).heap.size/\(w.drew.alloc (.cells C el)).heap[w.heap.size]?=some (.cells C el (0,0)):=
  λC=>⟨⟨rfl,rfl,rfl,by simp,λj hj _=>Below.heap_alloc w.drew _ _ hj⟩,by simp,heap_alloc_new w.drew _⟩
 rcases AX with⟨rfl,p,rfl⟩|⟨g,cap,C,rfl,Mb,Gq,hg,BI,hold,dN⟩
 ·have hold:old=[]:=List.eq_nil_of_length_eq_zero (by simpa using ho);subst hold;by_cases hm:m=0
  ·subst hm;have hn:news=[]:=List.eq_nil_of_length_eq_zero (by simpa using Kq);subst hn;refine⟨_,w,?_, .inl ⟨rfl,rfl,rfl⟩⟩;rcases hs with⟨rfl,_,_⟩|⟨ad,rfl,_⟩<;>cases p<;>
    simp[Builtin.append_,run_underlying ht,sizeOf,typeInfo,hi,Builtin.lenOf,Builtin.firstCells,loadCells,loadCellsFrom,storeCells]
  ·rcases hs with⟨_,rfl,_⟩|⟨ad,rfl,h1,h2,h3⟩
   ·exact absurd rfl hm
   ·obtain⟨C',QP,g1,g2,g3,g4⟩:=grown 0 (by omega) news.toArray (by simp);cases p with
    |none=>have hr:=run_append_nil (P:=P) w t ty el i z ht hi hz ad m r news h1 h2 (by omega) (by simp only[maxLen]at XO;omega) (by have hb:=hb;simp only[Nat.zero_add]at hb;omega);simp only[Nat.zero_add]at g1 g2 g3 g4 QP ⊢;obtain⟨n1,n2,n3⟩:=newb C';refine⟨_,_,hr, .inr ⟨_,_,C',rfl,g1,g2,?_,g3,g4,?_, .inl ⟨rfl,?_⟩⟩⟩<;>rw[<-QP]<;>first|exact n3|exact n1|exact n2
    |some p=>have hr:=run_append_grow (P:=P) w t ty el i z ht hi hz p 0 0 [] (by simp) (by simp) ad m r news h1 h2 (by omega) (by simp only[maxLen]at XO;omega) (growslice_fits (by omega) hb);rw[show(([]:List Value).toArray++news.toArray)=news.toArray by simp]at hr;simp only[Nat.zero_add]at g1 g2 g3 g4 QP hr ⊢;obtain⟨n1,n2,n3⟩:=newb C';refine⟨_,_,hr, .inr ⟨_,_,C',rfl,g1,g2,?_,g3,g4,?_, .inl ⟨rfl,?_⟩⟩⟩<;>rw[<-QP]<;>first|exact n3|exact n1|exact n2
 ·rcases hs with⟨rfl,rfl,rfl⟩|⟨ad,rfl,h1,h2,h3⟩
  ·refine⟨_,w,?_, .inl ⟨rfl,rfl,rfl⟩⟩;simp[Builtin.append_,run_underlying ht,sizeOf,typeInfo,hi,Builtin.lenOf,Builtin.firstCells,Mb,storeCells]
  ·by_cases BW:k+m<=cap
   ·have E2:k*i.size+news.length<=C.size:=by rw[h1,BI,<-Nat.add_mul];exact BF _ BW
    have hr:=run_append_room (P:=P) w t ty el i ht hi g k cap C hg ad m r news h1 h2 h3 BW E2;refine⟨_,_,hr, .inr ⟨g,cap,_,rfl,BW,Gq,setRow_heap w g C _ el _ hg,?_,?_,⟨rfl,rfl,rfl,by simp,λj _ hj=>setRow_other w g j _ (λhh=>hj (by rw[hh]))⟩, .inr dN⟩⟩
    ·simp only[List.size_toArray,AF,Au,Bx,BL];omega
    ·rw[<-hold,<-hlen];exact List.take_left
   ·have holds:∀j u,old[j]?=some u->w.cell? ((⟨g,0,none⟩:Addr).add j)=some u:=λj u hu=>by
     rw[Addr.add_lit,Nat.zero_add,EU hg];rw[hold,List.getElem?_take]at hu;split at hu
     ·simpa using hu
     ·cases hu
    have hr:=run_append_grow (P:=P) w t ty el i z ht hi hz ⟨g,0,none⟩ k cap old ho holds ad m r news h1 h2 (by omega) (by simp only[maxLen]at XO;omega) (growslice_fits (by omega) hb);obtain⟨C',QP,g1,g2,g3,g4⟩:=grown cap (by omega) (old.toArray++news.toArray) (by simp);obtain⟨n1,n2,n3⟩:=newb C';refine⟨_,_,hr, .inr ⟨_,_,C',rfl,g1,g2,?_,g3,g4,?_, .inl ⟨rfl,?_⟩⟩⟩<;>rw[<-QP]<;>first|exact n3|exact n1|exact n2
def Cx.bg(c:Cx)(t g':Nat)(w':World)(v:Value)(top O:List Nat):Cx:=
 {c with w:=w',G:=λu=>if u=t then⟨top,O⟩else c.G u,K:=λu g=>c.K u g\/(u=t/\g=g'),H:=λu g=>if u=t/\g=g' then v else c.H u g,U:=λu=>c.U u\/u=t,E:=λu=>if u=t then c.E u+1 else c.E u}
theorem Rel.bg(h:Rel c n sl hp a){t g:Nat}(Fb:c.A.pin t=none\/g≠0)(Bm: ¬c.K t g){w':World}{row:Option Nat}(hg:c.w.grownBy w' row)
  (FC:∀g0,row=some g0->g0∈(c.G t).top\/(g0=c.w.heap.size/\g0<w'.heap.size)) {top O:List Nat} (Cp:top=[]\/ ∃g0,row=some g0/\top=[g0]) (hO:O=[]\/O=(c.G t).O) {v:Value} (e1:Ah) (A9:∀hs f,e1≠ .gd hs f) (k:BH c.ρ gs)
  (he:Ej c (c.bg t g w' v top O)->DJ (c.bg t g w' v top O) t e1):Rel (c.bg t g w' v top O) n sl (By hp [(t,Da gs e1)]) a:=by
 have hG:∀u,(c.bg t g w' v top O).G u=if u=t then⟨top,O⟩else c.G u:=λu=>rfl;have hM:∀b,(c.bg t g w' v top O).M b->c.M b\/row=some b:=by
  rintro b ⟨u,hu⟩;rw[hG]at hu;split at hu
  ·rcases Cp with rfl|⟨g0,hr,rfl⟩
   ·simp at hu
   ·simp at hu;subst hu;exact .inr hr
  ·exact .inl ⟨u,hu⟩
 have UF:∀b,b<c.w.heap.size->c.ok b->row≠some b:=by
  intro b hb A5 hr;rcases FC b hr with hh|⟨hh,_⟩
  ·exact A5.1 ⟨t,hh⟩
  ·omega
 have Cj:Ej c (c.bg t g w' v top O):=by
  refine⟨rfl,rfl,λb hb A5=>⟨λhm=>(hM b hm).elim A5.1 (UF b hb A5),A5.2⟩,λb hb A5=>hg.block b hb (λhh=>UF b hb A5 hh.symm),λu g1 hu=>⟨.inl hu,?_⟩,λu g1 hu=> ?_⟩
  ·simp only[Cx.bg];rw[if_neg];rintro⟨rfl,rfl⟩;exact Bm hu
  ·by_cases G9:u=t
   ·have e1:(c.bg t g w' v top O).E u=c.E u+1:=by simp only[Cx.bg,if_pos G9]
    exact⟨by omega,λh=>by omega⟩
   ·have e1:(c.bg t g w' v top O).E u=c.E u:=by simp only[Cx.bg,if_neg G9]
    have e2:(c.bg t g w' v top O).G u=c.G u:=by simp only[Cx.bg,if_neg G9]
    rw[e1];refine⟨AQ _,λ_=>⟨e2,λb hb GB=>hg.block b GB λhh=> ?_⟩⟩;rcases FC b hh.symm with h1|⟨h1,_⟩
    ·exact h.gw.cy u t G9 b (by simp[GI.own,hb]) (by simp[GI.own,h1])
    ·omega
 have Ep:∀u,By hp [(t,Da gs e1)] u=if u=t then some (Da gs e1)else hp u:=λu=>rfl;have Pk:∀u,u≠t-> ∀b∈(c.G u).own,row≠some b:=by
  intro u hu b hb hr;rcases FC b hr with hh|⟨hh,_⟩
  ·exact h.gw.cy u t hu b hb (by simp[GI.own,hh])
  ·have:=h.gw.inb u b hb;omega
 have B7:∀b∈(⟨top,O⟩:GI).own,row=some b\/b∈(c.G t).own:=by
  intro b hb;simp only[GI.own,Ac]at hb ⊢;rcases hb with hb|hb
  ·rcases Cp with rfl|⟨g0,hr,rfl⟩
   ·simp at hb
   ·simp at hb;subst hb;exact .inl hr
  ·rcases hO with rfl|rfl
   ·simp at hb
   ·exact .inr (.inr hb)
 refine h.change (λu=>u=t) Cj ⟨hg.os.trans h.base.os,hg.tape.trans h.base.tape,hg.output.trans h.base.output,Nat.le_trans h.base.size hg.size,λu v' hp=>⟨.inl (h.base.pins u v' hp).1,λhk=> ?_⟩,λb hb GJ=> ?_,h.base.pk,h.base.lo⟩
  (λu hu=>⟨by rw[Ep,if_neg hu],by rw[hG,if_neg hu],by simp[Cx.bg,hu],λg1 hh=>hh.resolve_right (λhh=>hu hh.1)⟩) (λu hu b hb=>hg.block b (h.gw.inb u b (by simp[GI.own,hb])) (λhh=>Pk u hu b (by simp[GI.own,hb]) hh.symm)) (λu hu=> ?_) ?_ (λu g1 hh=> ?_) (λu f hf=> ?_)
 ·have G9: ¬(u=t/\0=g):=by
   rintro⟨rfl,rfl⟩;rcases Fb with hh|hh
   ·have hp':c.A.pin u=some v':=hp;rw[hh]at hp';cases hp'
   ·exact hh rfl
  have Cy:=hk.resolve_right G9;simp only[Cx.bg];rw[if_neg G9];exact(h.base.pins u v' hp).2 Cy
 ·refine(hg.block b (Nat.lt_of_lt_of_le hb h.base.size) (λhh=> ?_)).trans (h.base.block b hb GJ);rcases FC b hh.symm with hh|⟨hh,_⟩
  ·rcases h.gw.allow t b (by simp[GI.own,hh])with h1|h1
   ·exact absurd h1 (Nat.not_le.2 hb)
   ·exact GJ h1
  ·have:=h.base.size;have h9:b<c.w0.heap.size:=hb;omega
 ·subst hu;rw[Ep,if_pos rfl];exact⟨λe' hr=>by rw[(Tc k A9).1 hr];exact he Cj,λhn=>absurd ((Tc k A9).2 rfl) (hn e1)⟩
 ·have Cb:(⟨top,O⟩:GI).own.Nodup:=by
   have h0:=h.gw.nodup t;simp only[GI.own]at h0 ⊢;rw[List.nodup_append]at h0 ⊢;refine⟨by rcases Cp with rfl|⟨g0,hr,rfl⟩<;>simp,by rcases hO with rfl|rfl;simp;exact h0.2.1,λp hp q hq=> ?_⟩;rcases Cp with rfl|⟨g0,hr,rfl⟩
   ·simp at hp
   ·simp at hp;subst hp;rcases hO with rfl|rfl
    ·simp at hq
    ·rcases FC p hr with hh|⟨hh,_⟩
     ·exact h0.2.2 p hh q hq
     ·have:=h.gw.inb t q (by simp[GI.own,hq]);omega
  refine⟨λu=> ?_,λu u' Ml b hb=> ?_,λu b hb=> ?_,λu b hb=> ?_⟩
  ·rw[hG];split
   ·exact Cb
   ·exact h.gw.nodup u
  ·rw[hG]at hb ⊢;by_cases h1:u=t
   ·rw[if_pos h1]at hb;rw[if_neg (λhh=>Ml (h1.trans hh.symm))];rcases B7 b hb with hr|hb
    ·exact λhh=>Pk u' (λh2=>Ml (h1.trans h2.symm)) b hh hr
    ·exact h.gw.cy t u' (λhh=>Ml (h1.trans hh)) b hb
   ·rw[if_neg h1]at hb;by_cases h2:u'=t
    ·rw[if_pos h2];intro Cq;rcases B7 b Cq with hr|Cq
     ·exact Pk u h1 b hb hr
     ·exact h.gw.cy u t h1 b hb Cq
    ·rw[if_neg h2];exact h.gw.cy u u' Ml b hb
  ·rw[hG]at hb;split at hb
   ·rcases B7 b hb with hr|hb
    ·rcases FC b hr with hh|⟨hh,_⟩
     ·exact h.gw.allow t b (by simp[GI.own,hh])
     ·exact .inl (by rw[hh];exact h.base.size)
    ·exact h.gw.allow t b hb
   ·exact h.gw.allow u b hb
  ·rw[hG]at hb;show b<w'.heap.size;split at hb
   ·rcases B7 b hb with hr|hb
    ·rcases FC b hr with hh|⟨_,hh⟩
     ·exact Nat.lt_of_lt_of_le (h.gw.inb t b (by simp[GI.own,hh])) hg.size
     ·exact hh
    ·exact Nat.lt_of_lt_of_le (h.gw.inb t b hb) hg.size
   ·exact Nat.lt_of_lt_of_le (h.gw.inb u b hb) hg.size
 ·rcases hh with hh|⟨rfl,_⟩
  ·exact .inl (h.ca u g1 hh)
  ·exact .inr rfl
 ·rw[Ep]at hf;split at hf
  ·rename_i hu;exact .inr hu
  ·exact .inl (h.c6 u f hf)
theorem vF{w:World}{v:Value}{ys:List AV}{f:List Nat}{sz:Nat}(h:Rd w [v] [.sl ys] f)(hs:∀y∈ys,y.cells.length=sz):
  ∃q r news N,v= .slice q ys.length r/\Src w sz q ys.length news/\Rd w news (Aq ys) N/\(∀b∈N,b∈f)/\news.length=ys.length*sz/\(∀u∈news,u.oneCell'=true):=by
 rcases h.kind with hh|hh|hh|hh|hh|hh|hh|hh|hh|hh
 ·obtain⟨_,_,_,hh,_⟩:=hh;cases hh
 ·obtain⟨_,_,hh,_⟩:=hh;cases hh
 ·obtain⟨_,_,hh,_⟩:=hh;cases hh
 ·obtain⟨p,r,rfl,hh,rfl⟩:=hh;cases hh;refine⟨p,r,[],[],rfl,?_, .nil,by simp,by simp,by simp⟩;cases p with
  |none=>exact .inl ⟨rfl,rfl,rfl⟩
  |some p=>exact .inr ⟨p,rfl,by simp,by simp,by simp⟩
 ·obtain⟨b,off,m,r,ys',cs,C,t,fz,sz',f1,rfl,hh,rfl,hb,h1,h2,h3,h4,h5,h6,Ih,h7⟩:=hh;cases hh;subst h3;have GR:sz'=sz:=by
   cases ys with
   |nil=>simp at h1
   |cons y ys=>rw[<-h4 y (by simp),hs y (by simp)]
  subst GR;have hl:=h7.len;rw[Lq ys h4]at hl;exact⟨_,r,cs,f1,rfl, .inr ⟨_,rfl,hl,λj u hu=>by rw[Addr.add_lit,EU hb];exact h6 j u hu,Ih⟩,h7,λq hq=>by simp[hq],hl,Ih⟩
 ·obtain⟨_,_,_,hh,_⟩:=hh;cases hh
 ·obtain⟨_,_,_,hh,_⟩:=hh;cases hh
 ·obtain⟨_,_,_,_,_,_,_,hh,_⟩:=hh;cases hh
 ·obtain⟨_,_,_,_,hh,_⟩:=hh;cases hh
 ·obtain⟨_,hh,_⟩:=hh;cases hh
end
section
variable {P:Program} {c:Cx} {n nx:Nat} {sl sl0:Nat->SV} {hp hp0:Nat->Option Ah} {a:Act} {o:Oper} {gs:Gd} {e:Bn} {sg:B4} {nv:Nat}
theorem Qq(hp:Nat->Option Ah)(l m:List (Nat × Ah)):By hp (l++m)=By (By hp l) m:=by simp[By,List.foldl_append]
theorem zwV(h:Rel c n sl hp a)(hs:∀t e,hp0 t=some e->hp t=some e)(k:BH c.ρ gs){el:TypeId}{s:SV}{v:Value}(hr:SR c [s] [v]){y:E}(hy:BK hp0 gs Bg s=some y){fz:List (Nat × Ah)}{d:Bool}{ck:Cn}(ht:Xv P hp0 gs el s y=some (fz,d,ck))(hc:ck.den c.ρ):
  ∃ts ys q r news N,Ef hp0 gs ts=some fz/\y.den c.ρ= .sl ys/\(∀z∈ys,z.cells.length=P.cellsOf el)/\v= .slice q ys.length r/\Src c.w (P.cellsOf el) q ys.length news/\Rd c.w news (Aq ys) N/\(∀b∈N,(c.cg (fz.map (·.1))).ok b)/\(d=true->N=[])/\news.length=ys.length*P.cellsOf el/\ ∀u∈news,u.oneCell'=true:=by
 have eh:EH c hp0:=λt e hr=>h.ents t e (MN hs hr);obtain⟨f,q1,q2⟩:=IE eh k Bg hy hr Bg (AQ _);unfold Xv at ht;split at ht
 ·simp only[Ad,A4]at ht;obtain⟨rfl,rfl,rfl⟩:=ht;obtain⟨ys,DE,AB⟩:=hc;rw[DE]at q1;obtain⟨q,r,news,N,hv,g1,g2,g3,g4,g5⟩:=vF q1 (λz hz=>(AB z hz).1);have hN:N=[]:=HV g2 (λx hx=>by
   obtain⟨z,hz,hx⟩:=List.mem_flatMap.1 hx;exact(AB z hz).2 x hx)
  exact⟨[],ys,q,r,news,N,rfl,DE,λz hz=>(AB z hz).1,hv,g1,g2,by simp[hN],λ_=>hN,g4,g5⟩
 ·split at ht
  ·rename_i I6;obtain⟨l,hl,ht⟩:=Av.1 ht;simp only[A4]at ht;obtain⟨rfl,rfl,rfl⟩:=ht;obtain⟨ys,DE,AB⟩:=hc;rw[DE]at q1;obtain⟨q,r,news,N,hv,g1,g2,g3,g4,g5⟩:=vF q1 AB;exact⟨_,ys,q,r,news,N,hl,DE,AB,hv,g1,g2,λb hb=>WE h eh k hl I6 (q2 b (g3 b hb)),by simp,g4,g5⟩
  ·cases ht
theorem Lo{el:TypeId}(h:HX P el=true):∃i z,P.info? el=some i/\i.zero=some z/\z.cells.size=i.size/\0<i.size/\P.cellsOf el=i.size/\P.bytesOf el=i.bytes:=by
 unfold HX at h;cases hi:P.info? el with
 |none=>simp[hi]at h
 |some i=>
  cases hz:i.zero with
  |none=>simp[hi,hz]at h
  |some z=>simp only[hi,hz,Ab,AO,bne_iff_ne]at h;exact⟨i,z,rfl,hz,h.1,by omega,by simp[Program.cellsOf,hi],by simp[Program.bytesOf,hi]⟩
theorem Wv(xs ys:List AV):Aq (xs++ys)=Aq xs++Aq ys:=by simp[Aq]
theorem mH(h:BJ P c n nx sl hp a sl0 hp0 o gs){x y:Operand}{tx:TypeId}{cl:Call}(ho:o.op= .call cl)(AB:cl.callee= .builtin .append)(C6:cl.args.toList=[x,y])(Eb:cl.argTypes.toList=[tx,tx])
  {el:TypeId} (BE:P.underlying tx=some (.slice el)) (hz:HX P el=true) {s2:SV} {ye:E} (Bi:BT sl0 gs y=some s2) (hy:BK hp0 gs Bg s2=some ye) {fz:List (Nat × Ah)} {d:Bool} {ck:Cn} (CI:Xv P hp0 gs el s2 ye=some (fz,d,ck)) (IX:ck.den c.ρ)
  {t g:Nat} (Fb:c.A.pin t=none\/g≠0) {c0:E} {d':Bool} (BW:Cn.den c.ρ (.room c0 ye (P.bytesOf el))) (EI:∀f,(t,f)∉fz) (Bm: ¬c.K t g)
  {top N0:List Nat} {v:Value} (hv:a.eval x=v) (AX:De c.w el (P.cellsOf el) v (c0.den c.ρ) top N0) (Cp:(c.G t).top=top) (OR:∀b∈N0,c.ok b) (XX:d'=true->T8 c.w N0/\(c.G t).O=N0) (L7:∀g',c.K t g'->g'<=g) (hU:∀u,u=t->c.U u\/(nx<=u/\u<nx+B1)) {ckl:List Cn}:
  AI P o c n nx sl hp gs a {cq:=ckl,val:= .own t g,bu:=fz++ [(t,Da gs (.row el (P.cellsOf el) g (.app c0 ye) (d&&d')))]}:=by
 have Aj:cl.args= #[x,y]:=by apply Array.ext';simp[C6]
 have F8:cl.argTypes= #[tx,tx]:=by apply Array.ext';simp[Eb]
 have CS:y∈o.op.operands:=by simp[ho,Op.operands,Call.operands,AB,Aj]
 obtain⟨i,z,hi,F4,CY,Bv,Cv,ES⟩:=Lo hz;obtain⟨ts,ys,q,r,news,N,Ij,DE,JF,Ds,Dr,Dk,Gz,hdN,Kq,Ph⟩:=zwV h.rel h.hp h.gs (h.c7 Bi CS) hy CI IX;have DN:=h.rel.freeze h.hp h.gs Ij;obtain⟨xs,Cu,Ha,_,Bc⟩:=AX;obtain⟨mm,kk,F6,D3,Np,X5⟩:=BW;rw[Cu]at F6;rw[DE]at D3;simp only[AV.len,AV.int.injEq,true_and]at F6 D3;have GA:(xs.length+ys.length)*i.bytes<=140737488355328:=by
  rw[<-F6,<-D3,ES]at Np;have h9:(((xs.length+ys.length)*i.bytes:Nat):Int)<=140737488355328:=by rw[Int.natCast_mul,Int.natCast_add];exact Np
  omega
 have GB:xs.length+ys.length<=140737488355328:=by rw[<-F6,<-D3]at X5;omega
 rw[Cv]at Dr Kq Ha JF Bc;obtain⟨old,hold,FM,Dn,Cs⟩:∃old,old.length=xs.length*i.size/\((xs.length=0/\ ∃q,v= .slice q 0 0)\/ ∃g cap C,v= .slice (some ⟨g,0,none⟩) xs.length cap/\xs.length<=cap/\cap<=maxLen/\c.w.heap[g]?=some (.cells C el (0,0))/\C.size=cap*i.size/\old=C.toList.take (xs.length*i.size)/\g∈(c.G t).top)/\Rd c.w old (Aq xs) N0/\ ∀u∈old,u.oneCell'=true:=by
  rcases Bc with⟨rfl,⟨p,rfl⟩,rfl,rfl⟩|⟨g9,cap,C,rfl,h6,h7,h8,h9,rfl,FA,EZ⟩
  ·exact⟨[],by simp, .inl ⟨rfl,p,rfl⟩, .nil,by simp⟩
  ·refine⟨_,?_, .inr ⟨g9,cap,C,rfl,h6,h7,h8,h9,rfl,by rw[Cp];simp⟩,EZ,FA⟩;have e9:C.toList.length=cap*i.size:=by rw[<-h9];simp
   rw[Au,e9];exact Nat.min_eq_left (BF _ h6)
 obtain⟨v',w',AW,AN⟩:=Qw (P:=P) c.w tx o.type el i z BE hi F4 CY Bv (λg9=>g9∈(c.G t).top) v xs.length old hold FM q ys.length r news Dr (by simp only[maxLen];omega) GA;have Dq:(execOp a.eval o).run P c.w= .ok (.value v') w':=by simp[execOp,ho,resolve,AB,Aj,F8,invoke,builtin,hv,Ds,AW]
 intro next Q hk
 unfold Oper.wp;rw[Dq,Oper.upon_value];have hc1w:(c.cg (fz.map (·.1))).w=c.w:=rfl;have rV:(c.cg (fz.map (·.1))).G t=c.G t:=by simp only[Cx.cg];rw[if_neg];rintro hh;obtain⟨⟨u,f⟩,hf,rfl⟩:=List.mem_map.1 hh;exact EI f hf
 obtain⟨row,top',UH,FC,U7,Bq,Dw⟩:∃row top',c.w.grownBy w' row/\(∀g0,row=some g0->g0∈(c.G t).top\/(g0=c.w.heap.size/\g0<w'.heap.size))/\(top'=[]\/ ∃g0,row=some g0/\top'=[g0])/\
   (Ej (c.cg (fz.map (·.1))) ((c.cg (fz.map (·.1))).bg t g w' v' top' (if(d&&d')=true then(c.G t).O else []))-> ∃N',De w' el (P.cellsOf el) v' (.sl (xs++ys)) top' N'/\(∀b∈N',b∈N0\/b∈N)/\((d&&d')=true->N'=N0))/\ ∃p m r,v'= .slice p m r:=by
  rcases AN with⟨rfl,rfl,Ct⟩|⟨g9,cap,C,rfl,h1,h2,h3,h4,h5,h6,h7⟩
  ·have Iu:ys=[]:=List.eq_nil_of_length_eq_zero Ct;subst Iu;refine⟨if top=[]then none else top.head?,top,⟨rfl,rfl,rfl,AQ _,λ_ _ _=>rfl⟩,λg0 FC=> .inl ?_,?_,λ_=>⟨N0,?_,λb hb=> .inl hb,λ_=>rfl⟩,?_⟩
   ·rw[Cp];split at FC
    ·cases FC
    ·exact List.mem_of_mem_head? FC
   ·rcases Bc with⟨_,_,rfl,_⟩|⟨g9,_,_,_,_,_,_,_,rfl,_⟩
    ·exact .inl rfl
    ·exact .inr ⟨g9,by simp,rfl⟩
   ·rw[Cv];exact⟨xs,by simp,Ha,Bv,Bc⟩
   ·rcases FM with⟨_,p,rfl⟩|⟨g9,cap,C,rfl,_⟩
    ·exact⟨_,_,_,rfl⟩
    ·exact⟨_,_,_,rfl⟩
  ·refine⟨some g9,[g9],h6,λg0 FC=> ?_, .inr ⟨g9,rfl,rfl⟩,λG6=>⟨N0++N,⟨xs++ys,rfl,λz hz=> ?_,by rw[Cv];exact Bv, .inr ⟨g9,cap,C,by simp,by simpa using h1,h2,h3,by rw[Cv];exact h4,rfl,?_,?_⟩⟩,λb hb=>Ac.1 hb,λFm=> ?_⟩,_,_,_,rfl⟩
   ·cases FC;exact h7.symm
   ·rcases Ac.1 hz with hz|hz
    ·rw[Cv];exact Ha z hz
    ·rw[Cv];exact JF z hz
   ·rw[Cv];simp only[AF];rw[h5];intro u hu;rcases Ac.1 hu with hu|hu
    ·exact Cs u hu
    ·exact Ph u hu
   ·rw[Cv];simp only[AF];rw[h5,Wv];refine Rd.app (Dn.frame λb hb=> ?_) (Dk.frame λb hb=> ?_)
    ·have GA:=Dn.inb b hb;exact G6.mem b GA (Cx.fc (OR b hb))
    ·have GA:=Dk.inb b hb;exact G6.mem b GA (Gz b hb)
   ·simp only[Ab]at Fm;rw[hdN Fm.1];simp
 obtain⟨p9,m9,r9,hv9⟩:=Dw;have Em:=DN.bg (gs:=gs) (t:=t) (g:=g) (w':=w') (row:=row) (top:=top') (O:=if(d&&d')=true then(c.G t).O else []) (v:=v') Fb Bm UH (by rw[rV];exact FC) U7 (by split;exact .inr (by rw[rV]);exact .inl rfl)
  (.row el (P.cellsOf el) g (.app c0 ye) (d&&d')) (by intros;simp) h.gs (λG6=>by
   obtain⟨N',o1,o2,o3⟩:=Bq G6;have A5:∀b∈N',((c.cg (fz.map (·.1))).bg t g w' v' top' (if(d&&d')=true then(c.G t).O else [])).ok b:=by
    intro b hb;rcases o2 b hb with hb|hb
    ·exact G6.ok b (Dn.inb b hb) (Cx.fc (OR b hb))
    ·exact G6.ok b (Dk.inb b hb) (Gz b hb)
   refine⟨.inr ⟨rfl,rfl⟩,λg' CG=> ?_,N',?_,A5,λFm=> ?_,λFm=> ?_⟩
   ·rcases CG with CG|⟨_,rfl⟩
    ·exact L7 g' CG
    ·exact AQ _
   ·have e1:((c.cg (fz.map (·.1))).bg t g w' v' top' (if(d&&d')=true then(c.G t).O else [])).H t g=v':=by simp[Cx.bg]
    have e2:(((c.cg (fz.map (·.1))).bg t g w' v' top' (if(d&&d')=true then(c.G t).O else [])).G t).top=top':=by simp[Cx.bg]
    rw[e1,e2];show De w' el (P.cellsOf el) v' (AV.app (c0.den c.ρ) (ye.den c.ρ)) top' N';rw[Cu,DE];exact o1
   ·have dK:=o3 Fm;have eK:d'=true:=by simp only[Ab]at Fm;exact Fm.2
    obtain⟨u1,u2⟩:=XX eK;subst dK;refine⟨u1.frame λb hb=>G6.mem b (Dn.inb b hb) (Cx.fc (OR b hb)),?_⟩;simp only[Cx.bg,if_true,Fm];exact u2
   ·simp[Cx.bg,Fm])
 have dR:SR ((c.cg (fz.map (·.1))).bg t g w' v' top' (if(d&&d')=true then(c.G t).O else [])) [.own t g] [v']:=by rw[hv9];exact .own (.inr ⟨rfl,rfl⟩) (by simp[Cx.bg]) .nil
 refine hk _ ((c.cg (fz.map (·.1))).bg t g w' v' top' (if(d&&d')=true then(c.G t).O else [])) ⟨rfl,rfl,rfl,rfl,λu hu=> ?_⟩ ?_
 ·rcases hu with hu|rfl
  ·exact .inl hu
  ·exact hU u rfl
 ·have:=Em.put (dR.mkGd gs h.gs) o.dst;rw[Qq];exact this
end
section
variable {P:Program} {c:Cx} {n nx:Nat} {sl sl0:Nat->SV} {hp hp0:Nat->Option Ah} {a:Act} {o:Oper} {gs:Gd} {e:Bn} {sg:B4} {nv:Nat}
theorem JL{t el:TypeId}(h:HZ P t=some el):P.underlying t=some (.slice el):=by
 unfold HZ at h;split at h
 ·simp at h;subst h;assumption
 ·cases h
theorem bF{t el:TypeId}(h:HZ P t=some el):C3 P t=some el:=by have hu:=JL h;simp[C3,hu]
theorem zum{ts:List Nat}{l:List (Nat × Ah)}(k:BH c.ρ gs)(h:Ef hp0 gs ts=some l):∀t f,(t,f)∈l-> ∃g x f',CR c.ρ (hp0 t) f'/\MI f' g x:=by intro t f hf;obtain⟨_,_,g,x,f',_,r⟩:=(P6 k h).1 t f hf;exact⟨g,x,f',r⟩
theorem zvk(h:BJ P c n nx sl hp a sl0 hp0 o gs){x y:Operand}{tx ty:TypeId}{cl:Call}(ho:o.op= .call cl)(AB:cl.callee= .builtin .append)(C6:cl.args.toList=[x,y])(Eb:cl.argTypes.toList=[tx,ty])
  {s1 s2:SV} (BR:BT sl0 gs x=some s1) (Bi:BT sl0 gs y=some s2) (he:oK P hp0 gs nx tx ty s1 s2=some e) (hc:∀q∈e.cq,Cn.den c.ρ q):AI P o c n nx sl hp gs a e:=by
 have Aj:cl.args= #[x,y]:=by apply Array.ext';simp[C6]
 have DM:x∈o.op.operands:=by simp[ho,Op.operands,Call.operands,AB,Aj]
 unfold oK at he;split at he
 ·cases he
 rename_i Ku;have Ku:tx=ty:=by simpa using Ku
 subst Ku;split at he
 ·rename_i el BE;have BE:=JL BE;split at he
  ·cases he
  rename_i hz;have hz:HX P el=true:=by simpa using hz
  split at he
  ·cases he
  rename_i ye hy;split at he
  ·cases he
  rename_i fz d ck CI;obtain⟨ts,Ij⟩:∃ts,Ef hp0 gs ts=some fz:=by
   unfold Xv at CI;split at CI
   ·simp only[Ad,A4]at CI;obtain⟨rfl,_⟩:=CI;exact⟨[],rfl⟩
   ·split at CI
    ·obtain⟨l,hl,CI⟩:=Av.1 CI;simp only[A4]at CI;obtain⟨rfl,_⟩:=CI;exact⟨_,hl⟩
    ·cases CI
  have r1:=h.c7 BR DM;have fresh:∀f,(nx,f)∉fz:=λf hf=>by
   obtain⟨_,_,_,r,_⟩:=zum (c:=c) h.gs Ij nx f hf;have r:=MN h.hp r;cases hh:hp nx with
   |none=>rw[hh]at r;exact r.elim
   |some e9=>exact Of h (h.rel.c6 nx e9 hh)
  have hK:∀g,¬c.K nx g:=λg hg=>Of h (h.rel.ca _ _ hg);have GP:=h.rel.off nx (λe9 hr=>by
   cases hh:hp nx with
   |none=>rw[hh]at hr;exact hr.elim
   |some e8=>exact Of h (h.rel.c6 nx e8 hh))
  have X1:c.A.pin nx=none:=by
   cases hh:c.A.pin nx with
   |none=>rfl
   |some v=>exact absurd (h.rel.base.pins nx v hh).1 (Of h)
  have QQ:∀u,u=nx->c.U u\/(nx<=u/\u<nx+B1):=λu hu=> .inr ⟨by omega,by rw[hu];simp[B1]⟩;have tE:P.cellsOf el≠0:=by obtain⟨i,_,_,_,_,h1,h2,_⟩:=Lo hz;omega
  split at he
  ·rename_i t g;split at he
   ·rename_i e' sz' g' c0 d' hl;split at he
    ·rename_i hh;obtain⟨rfl,rfl,rfl,rfl,EI⟩:=hh;simp only[Ad]at he;subst he;have FL:=CU hl h.gs;obtain⟨q1,q2,N,q3,q4,q5,q6⟩:=h.eh t _ FL;generalize hv:a.eval x=v at r1;cases r1 with
     |own k1 k2 _=>
      have:=mH (nx:=nx) h ho AB C6 Eb BE hz Bi hy CI (hc _ (by simp)) (t:=t) (g:=g+1) (.inr (by omega)) (c0:=c0) (d':=d') (hc _ (by simp)) (λf hf=>by simp only[Be,List.contains_eq_mem,decide_eq_false_iff_not]at EI;exact EI (List.mem_map.2 ⟨_,hf,rfl⟩)) (λhh=>by have:=q2 _ hh;omega) hv (by rw[<-k2];exact q3) rfl q4 q5 (λg' CG=>by have:=q2 _ CG;omega) (λu hu=> .inl (by rw[hu];exact h.rel.ca t g q1)) (ckl:=[.room c0 ye (P.bytesOf el),ck])
      exact this
    ·cases he
   ·cases he
  ·simp only[Ad]at he;subst he;generalize hv:a.eval x=v at r1;cases r1 with
   |emp _=>have:=mH (nx:=nx) h ho AB C6 Eb BE hz Bi hy CI (hc _ (by simp)) (t:=nx) (g:=0) (.inl X1) (c0:= .lst .nil) (d':=true) (top:=[]) (N0:=[]) (hc _ (by simp)) fresh (hK 0) hv ⟨[],rfl,by simp,by omega, .inl ⟨rfl,⟨_,rfl⟩,rfl,rfl⟩⟩ GP.1 (by simp) (λ_=>⟨rfl,GP.2⟩) (λg' CG=>absurd CG (hK g')) QQ (ckl:=[.room (.lst .nil) ye (P.bytesOf el),ck]);rw[Bool.and_true]at this;exact this
  ·simp only[Ad]at he;subst he;generalize hv:a.eval x=v at r1;cases r1 with
   |cr _=>have:=mH (nx:=nx) h ho AB C6 Eb BE hz Bi hy CI (hc _ (by simp)) (t:=nx) (g:=0) (.inl X1) (c0:= .lst .nil) (d':=true) (top:=[]) (N0:=[]) (hc _ (by simp)) fresh (hK 0) hv ⟨[],rfl,by simp,by omega, .inl ⟨rfl,⟨_,rfl⟩,rfl,rfl⟩⟩ GP.1 (by simp) (λ_=>⟨rfl,GP.2⟩) (λg' CG=>absurd CG (hK g')) QQ (ckl:=[.room (.lst .nil) ye (P.bytesOf el),ck]);rw[Bool.and_true]at this;exact this
  ·cases he
 ·cases he
end
section
variable {P:Program} {c:Cx} {n nx:Nat} {sl sl0:Nat->SV} {hp hp0:Nat->Option Ah} {a:Act} {o:Oper} {gs:Gd} {e:Bn} {sg:B4} {nv:Nat}
theorem V4:∀{ts us:List Nat} {l m:List (Nat × Ah)},Ef hp0 gs ts=some l->Ef hp0 gs us=some m->Ef hp0 gs (ts++us)=some (l++m)
 | [],us,l,m,h,k=>by simp[Ef]at h;subst h;simpa using k
 |t::ts,us,l,m,h,k=>by
  unfold Ef at h;simp only[List.cons_append];unfold Ef;split at h
  ·rename_i ety sz g x d l' hl BY;have ih:=V4 BY k;split at h
   ·rename_i hg;simp at h;subst h;simp[hl,ih,hg]
   ·cases h
  ·rename_i ety sz dl g ep x l' hl BY;have ih:=V4 BY k;split at h
   ·rename_i hg;simp at h;subst h;simp[hl,ih,hg]
   ·cases h
  ·rename_i g x l' hl BY;have ih:=V4 BY k;simp at h;subst h;simp[hl,ih]
  ·rename_i ty g cs l' hl BY;have ih:=V4 BY k;simp at h;subst h;simp[hl,ih]
  ·cases h
theorem zsl{ts us:List Nat}(hs:∀t∈ts,t∈us){b:Nat}(h:(c.cg ts).ok b):(c.cg us).ok b:=by refine⟨λhm=>h.1 ?_,h.2⟩;obtain⟨u,hu,hb⟩:=Cx.jb hm;exact⟨u,by simp only[Cx.cg];rw[if_neg (λhh=>hu (hs u hh))];exact hb⟩
theorem oS{w:World}{v:Value}{x:AV}{f:List Nat}{t:TypeId}(h:Rd w [v] [x] f)(hg:Ap P t=true\/P.cellsOf t=1)(hx:if Ap P t then∃cs,x= .agg cs/\cs.length=P.cellsOf t else(∀cs,x≠ .agg cs)/\ ∀cs,x≠ .tup cs):
  Rd w v.cells.toList x.cells f/\(∀u∈v.cells.toList,u.oneCell'=true)/\x.cells.length=P.cellsOf t/\v.cells.size=P.cellsOf t:=by
 split at hx
 ·obtain⟨cs,rfl,hl⟩:=hx;obtain⟨as_,rfl,h1,h2⟩:=K2 h rfl;have:=h2.len;exact⟨by simpa[Value.cells,AV.cells]using h2,by simpa[Value.cells]using h1,hl,by simp[Value.cells];omega⟩
 ·rename_i hna;have h1:P.cellsOf t=1:=by rcases hg with h'|h';exact absurd h' hna;exact h'
  have Cs:=nG h hx.1 hx.2;have Ha:x.cells=[x]:=by cases x<;>first|rfl|exact absurd rfl (hx.1 _)
  rw[one_cells Cs,Ha];exact⟨by simpa using h,by simpa using Cs,by simp[h1],by simp[h1]⟩
theorem zD(h:Rel c n sl hp a)(hs:∀t e,hp0 t=some e->hp t=some e)(k:BH c.ρ gs){t:TypeId}(hg:Ap P t=true\/P.cellsOf t=1):∀(ss:List SV) (vs:List Value) {xs:List E} {fz:List (Nat × Ah)} {d:Bool} {ck:List Cn},SR c ss vs->Xo P hp0 gs t ss=some (xs,fz,d,ck)->(∀q∈ck,q.den c.ρ)->
  ∃N,Rd c.w (vs.flatMap λv=>v.cells.toList) (Aq (xs.map (E.den c.ρ))) N/\(d=true->N=[])/\(∃ts,Ef hp0 gs ts=some fz)/\(∀b∈N,(c.cg (fz.map (·.1))).ok b)/\(∀v∈vs,v.cells.size=P.cellsOf t/\ ∀u∈v.cells.toList,u.oneCell'=true)/\(∀x∈xs,(x.den c.ρ).cells.length=P.cellsOf t)/\xs.length=vs.length
 | [],vs,xs,fz,d,ck,hr,ht,hc=>by simp[Xo]at ht;obtain⟨rfl,rfl,rfl,rfl⟩:=ht;cases hr;exact⟨[],by simpa[Aq]using Rd.nil,λ_=>rfl,⟨[],rfl⟩,by simp,by simp,by simp,rfl⟩
 |s::ss,[],xs,fz,d,ck,hr,ht,hc=>by have:=hr.len;simp at this
 |s::ss,v::vs,xs,fz,d,ck,hr,ht,hc=>by
  obtain⟨r1,r2⟩:=hr.ct;unfold Xo at ht;split at ht
  ·rename_i x fz1 d1 ck1 xs2 fz2 d2 ck2 h1 h2;simp only[Ad,A4]at ht;obtain⟨rfl,rfl,rfl,rfl⟩:=ht;obtain⟨f,q1,q2,⟨ts1,q3,q4⟩,q5⟩:=zrz h hs k r1 h1 (λq hq=>hc q (by simp[hq]));obtain⟨N,p1,p2,⟨ts2,p3⟩,p4,p5,p6,p7⟩:=zD h hs k hg ss vs r2 h2 (λq hq=>hc q (by simp[hq]));obtain⟨o1,o2,o3,o4⟩:=oS (P:=P) q1 hg q5;refine⟨f++N,?_,λhd=> ?_,⟨_,V4 q3 p3⟩,λb hb=> ?_,?_,?_,by simp[p7]⟩
   ·simpa[Aq]using o1.app p1
   ·simp only[Ab]at hd;rw[q2 hd.1,p2 hd.2];rfl
   ·rcases Ac.1 hb with hb|hb
    ·exact zsl (λt ht=>by simp only[List.map_append,Ac];exact .inl ht) (q4 b hb)
    ·exact zsl (λt ht=>by simp only[List.map_append,Ac];exact .inr ht) (p4 b hb)
   ·intro u hu;rcases Ae.1 hu with rfl|hu
    ·exact⟨o4,o2⟩
    ·exact p5 u hu
   ·intro u hu;rcases Ae.1 hu with rfl|hu
    ·exact o3
    ·exact p6 u hu
  ·cases ht
theorem oH{sz:Nat}(place:Nat->Option (Nat × Nat))(GQ:∀i,place i=some (i*sz,sz)):∀(vs:List Value) (k:Nat) (C:Array Value) (pre suf:List Value),C.toList=pre++suf->pre.length=k*sz->suf.length=vs.length*sz->(∀v∈vs,v.cells.size=sz)->
  ∃C',Instr.fill place C ((vs.zipIdx k).map λp=>(p.2,p.1))=some C'/\C'.toList=pre++vs.flatMap λv=>v.cells.toList
 | [],k,C,pre,suf,h,_,h2,_=>by have:suf=[]:=List.eq_nil_of_length_eq_zero (by simpa using h2);subst this;exact⟨C,rfl,by simpa using h⟩
 |v::vs,k,C,pre,suf,h,h1,h2,h3=>by
  have hv:=h3 v (by simp);simp only[Bk,Nat.add_mul,Nat.one_mul]at h2;have hC:C.size=pre.length+suf.length:=by rw[<-BL,h,AF]
  have M9:(v.cells.zipIdx.foldl (λcs (p:Value × Nat)=>cs.setIfInBounds (k*sz+p.2) p.1) C).toList=setVs C.toList (k*sz) v.cells.toList:=by have:=zyL v.cells.toList 0 (k*sz) C (by simp;omega);rw[<-Array.foldl_toList,Array.toList_zipIdx];simpa using this
  have gP:setVs C.toList (k*sz) v.cells.toList=(pre++v.cells.toList)++suf.drop sz:=by unfold setVs;rw[h,<-h1,List.take_left' rfl];congr 1;rw[List.drop_append,List.drop_eq_nil_of_le (by omega)];simp[hv]
  obtain⟨C',g1,g2⟩:=oH place GQ vs (k+1) (v.cells.zipIdx.foldl (λcs (p:Value × Nat)=>cs.setIfInBounds (k*sz+p.2) p.1) C) (pre++v.cells.toList) (suf.drop sz) (by rw[M9,gP]) (by simp[h1,hv,Nat.add_mul]) (by simp;omega) (λu hu=>h3 u (by simp[hu]));refine⟨C',?_,by rw[g2];simp⟩;simp only[List.zipIdx_cons,List.map_cons];unfold Instr.fill;simp only[GQ];rw[if_neg (by simp[hv];omega)];exact g1
theorem AI.newRow(h:BJ P c n nx sl hp a sl0 hp0 o gs){ts:List Nat}{fz:List (Nat × Ah)}(Ij:Ef hp0 gs ts=some fz){el:TypeId}{C:Array Value}{cap:Nat}{xs:List AV}{x:E}{d:Bool}{N:List Nat}{ckl:List Cn}{wd:World}(hwd:wd.heap=c.w.heap/\wd.os=c.w.os/\wd.tape=c.w.tape/\wd.output=c.w.output)
  (hr:(execOp a.eval o).run P c.w= .ok (.value (.slice (some ⟨c.w.heap.size,0,none⟩) xs.length cap)) (wd.alloc (.cells C el))) (hx:x.den c.ρ= .sl xs) (Bv:P.cellsOf el≠0) (AB:∀y∈xs,y.cells.length=P.cellsOf el) (hle:xs.length<=cap) (FB:cap<=maxLen) (hC:C.size=cap*P.cellsOf el)
  (h1:∀u∈C.toList.take (xs.length*P.cellsOf el),u.oneCell'=true) (hN:Rd c.w (C.toList.take (xs.length*P.cellsOf el)) (Aq xs) N) (Gz:∀b∈N,(c.cg (fz.map (·.1))).ok b) (hd:d=true->N=[]):
  AI P o c n nx sl hp gs a {cq:=ckl,val:= .own nx 0,bu:=fz++ [(nx,Da gs (.row el (P.cellsOf el) 0 x d))]}:=by
 intro next Q hk
 unfold Oper.wp;rw[hr,Oper.upon_value];have hU:=Of h;have DN:=h.rel.freeze h.hp h.gs Ij;have hK:∀g,¬c.K nx g:=λg hg=>hU (h.rel.ca _ _ hg);have X1:c.A.pin nx=none:=by
  cases hh:c.A.pin nx with
  |none=>rfl
  |some v=>exact absurd (h.rel.base.pins nx v hh).1 hU
 have GP:=h.rel.off nx (λe9 hr=>by
  cases hh:hp nx with
  |none=>rw[hh]at hr;exact hr.elim
  |some e8=>exact hU (h.rel.c6 nx e8 hh))
 obtain⟨w1,w2,w3,w4⟩:=hwd;have O7:c.w.grownBy (wd.alloc (.cells C el)) (some c.w.heap.size):=by
  refine⟨w2,w3,w4,?_,λk hk _=> ?_⟩
  ·show c.w.heap.size<=(wd.heap.push _).size;simp[w1]
  ·have:=Below.heap_alloc wd (.cells C el) k (by rw[w1];exact hk);rw[this,w1]
 have Nk:(wd.alloc (.cells C el)).heap[c.w.heap.size]?=some (.cells C el (0,0)):=by have:=heap_alloc_new wd (.cells C el);rw[w1]at this;exact this
 have AD:c.w.heap.size<(wd.alloc (.cells C el)).heap.size:=Dh Nk;have hO:(c.cg (fz.map (·.1))).G nx=⟨[],[]⟩\/((c.cg (fz.map (·.1))).G nx).O=[]:=by
  right;simp only[Cx.cg];split
  ·rfl
  ·exact GP.2
 have Em:=DN.bg (gs:=gs) (t:=nx) (g:=0) (w':=wd.alloc (.cells C el)) (row:=some c.w.heap.size) (top:=[c.w.heap.size]) (O:=[]) (v:= .slice (some ⟨c.w.heap.size,0,none⟩) xs.length cap) (.inl X1) (hK 0) O7 (λg0 FC=>by cases FC;exact .inr ⟨rfl,AD⟩) (.inr ⟨_,rfl,rfl⟩) (.inl rfl)
  (.row el (P.cellsOf el) 0 x d) (by intros;simp) h.gs (λG6=>by
   refine⟨.inr ⟨rfl,rfl⟩,λg' CG=> ?_,N,?_,λb hb=>G6.ok b (hN.inb b hb) (Gz b hb),λFm=> ?_,λ_=>by simp[Cx.bg]⟩
   ·rcases CG with CG|⟨_,rfl⟩
    ·exact absurd CG (hK g')
    ·exact AQ _
   ·have e1:((c.cg (fz.map (·.1))).bg nx 0 (wd.alloc (.cells C el)) (.slice (some ⟨c.w.heap.size,0,none⟩) xs.length cap) [c.w.heap.size] []).H nx 0= .slice (some ⟨c.w.heap.size,0,none⟩) xs.length cap:=by simp[Cx.bg]
    have e2:(((c.cg (fz.map (·.1))).bg nx 0 (wd.alloc (.cells C el)) (.slice (some ⟨c.w.heap.size,0,none⟩) xs.length cap) [c.w.heap.size] []).G nx).top=[c.w.heap.size]:=by simp[Cx.bg]
    rw[e1,e2];show De (wd.alloc (.cells C el)) el (P.cellsOf el) _ (x.den c.ρ) _ N;rw[hx];exact⟨xs,rfl,AB,by omega, .inr ⟨_,cap,C,rfl,hle,FB,Nk,hC,rfl,h1,hN.frame λb hb=>G6.mem b (hN.inb b hb) (Gz b hb)⟩⟩
   ·rw[hd Fm];exact⟨rfl,by simp[Cx.bg]⟩)
 have dR:SR ((c.cg (fz.map (·.1))).bg nx 0 (wd.alloc (.cells C el)) (.slice (some ⟨c.w.heap.size,0,none⟩) xs.length cap) [c.w.heap.size] []) [.own nx 0] [.slice (some ⟨c.w.heap.size,0,none⟩) xs.length cap]:=
  .own (.inr ⟨rfl,rfl⟩) (by simp[Cx.bg]) .nil
 refine hk _ ((c.cg (fz.map (·.1))).bg nx 0 (wd.alloc (.cells C el)) (.slice (some ⟨c.w.heap.size,0,none⟩) xs.length cap) [c.w.heap.size] []) ⟨rfl,rfl,rfl,rfl,λu hu=> ?_⟩ ?_
 ·rcases hu with hu|rfl
  ·exact .inl hu
  ·exact .inr ⟨AQ _,by simp[B1]⟩
 ·have:=Em.put (dR.mkGd gs h.gs) o.dst;rw[Qq];exact this
theorem yK{t el:TypeId}(hu:P.underlying t=some (.slice el))(BC:DI P el=true){i:TypeInfo}{z:Value}(hi:P.info? el=some i)(hz:i.zero=some z)(Cv:P.cellsOf el=i.size)(m:Nat)(hle:m*i.size<=2^24)(parts:Array (Nat × Value))(C:Array Value)
  (hf:Instr.fill (λj=>some (j*i.size,i.size)) ((Array.range (m*i.size)).map (λj=>(if m*i.size=0 then #[]else z.cells)[j % (if m*i.size=0 then #[]else z.cells).size]!)) parts.toList=some C) (w:World):
  (Instr.buildSlice t m parts).run P w= .ok (.slice (some ⟨w.heap.size,0,none⟩) m m) (w.alloc (.cells C el)):=by
 have fO: ¬(2^24<m*i.size):=by omega
 have JD:Array.range 0= #[]:=rfl;by_cases h0:m*i.size=0
 ·simp only[h0,if_true,JD]at hf;have Uy:∀f:Nat->Value,Array.map f #[]= #[]:=λf=>by simp
  rw[Uy]at hf;simp only[Instr.buildSlice,Sem.run_bind,run_underlying hu,Result.andThen_ok,Qd BC,Cv];simp[h0,JD,hf,newRow]
 ·simp only[h0,if_false]at hf;simp only[Instr.buildSlice,Sem.run_bind,run_underlying hu,Result.andThen_ok,Qd BC,Cv];simp[h0,fO,zeroValue,typeInfo,hi,hz,hf,newRow]
theorem zqY(h:BJ P c n nx sl hp a sl0 hp0 o gs){t:TypeId}{m:Nat}{parts:Array (Nat × Operand)}(ho:o.op= .buildSlice t m parts){ps:List (Nat × SV)}(Le:parts.toList.mapM (λ(p:Nat × Operand)=>(BT sl0 gs p.2).map λs=>(p.1,s))=some ps)(he:mT P hp0 gs nx t m ps=some e)(hc:∀q∈e.cq,Cn.den c.ρ q):AI P o c n nx sl hp gs a e:=by
 obtain⟨e1,e2⟩:=aT (c:=c) (a:=a) (parts.toList.map (·.2)) (λx s hx hm=>h.c7 hx (by simpa[ho,Op.operands]using hm)) (λx hx=>List.mem_map.2 ⟨x,hx,rfl⟩) Le;unfold mT at he;split at he
 ·rename_i el BE;have BE:=JL BE;split at he
  ·cases he
  rename_i AG;simp only[not_or,Be,Bool.not_eq_false',ne_eq,Bool.not_eq_false,Nat.not_lt,Decidable.not_not]at AG;obtain⟨hz,BC,AM,hle,E1⟩:=AG;have AM:Ap P el=true\/P.cellsOf el=1:=by simpa using AM
  obtain⟨i,z,hi,F4,CY,Bv,Cv,ES⟩:=Lo hz;split at he
  ·rename_i xs fz d ck Nw;split at he
   ·simp only[Ad]at he;subst he;obtain⟨N,p1,p2,⟨ts,p3⟩,p4,p5,p6,p7⟩:=zD h.rel h.hp h.gs AM (ps.map (·.2)) (parts.toList.map λp=>a.eval p.2) e2 Nw hc;have hlen:(parts.toList.map λp=>a.eval p.2).length=m:=by
     have:ps.length=m:=by have:=congrArg List.length E1;simpa using this
     have h9:=congrArg List.length e1;simp at h9 ⊢;omega
    have Hz:(parts.map λ(x:Nat × Operand)=>(x.1,a.eval x.2)).toList=((parts.toList.map λp=>a.eval p.2).zipIdx 0).map λp=>(p.2,p.1):=by
     have Pa:parts.toList.map (·.1)=List.range m:=by rw[<-e1,E1]
     apply List.ext_getElem?;intro j;have hj:(parts.toList.map (·.1))[j]?=(List.range m)[j]?:=by rw[Pa]
     simp only[Array.toList_map,List.getElem?_map,List.getElem?_zipIdx]at hj ⊢;cases hp:parts.toList[j]? with
     |none=>simp
     |some p=>
      rw[hp]at hj;simp only[Option.map_some,Ad]at hj ⊢;have fH:j<m:=by
       rcases Nat.lt_or_ge j m with hh|hh
       ·exact hh
       ·rw[List.getElem?_eq_none (by simpa using hh)]at hj;cases hj
      rw[List.getElem?_range fH]at hj;simp at hj;simp[hj]
    obtain⟨C',f1,f2⟩:=oH (sz:=i.size) (λj=>some (j*i.size,i.size)) (λj=>rfl) (parts.toList.map λp=>a.eval p.2) 0 ((Array.range (m*i.size)).map (λj=>(if m*i.size=0 then #[]else z.cells)[j % (if m*i.size=0 then #[]else z.cells).size]!)) [] _ (by simp;rfl) (by simp) (by simp[hlen]) (λv hv=>by rw[<-Cv];exact(p5 v hv).1);have DP:C'.toList.length=m*P.cellsOf el:=by
     rw[f2,Cv];simp only[List.nil_append];have:∀(L:List Value),(∀v∈L,v.cells.size=i.size)->(L.flatMap λv=>v.cells.toList).length=L.length*i.size:=by
      intro L
      induction L with
      |nil=>intro _;simp
      |cons v L ih=>intro hL;simp only[List.flatMap_cons,AF,Bk,BL];rw[ih (λu hu=>hL u (by simp[hu])),hL v (by simp),Nat.add_mul];omega
     rw[this _ (λv hv=>by rw[<-Cv];exact(p5 v hv).1),hlen]
    have Jb:(xs.map (E.den c.ρ)).length=m:=by rw[List.length_map,p7,hlen]
    have B8:C'.toList.take ((xs.map (E.den c.ρ)).length*P.cellsOf el)=(parts.toList.map λp=>a.eval p.2).flatMap λv=>v.cells.toList:=by rw[Jb,<-DP,List.take_length,f2];simp
    refine AI.newRow (xs:=xs.map (E.den c.ρ)) (N:=N) (C:=C') (cap:=m) (wd:=c.w) h p3 ⟨rfl,rfl,rfl,rfl⟩ ?_ (by simp[E.den,EL.dq]) (by omega) (λy hy=> ?_) (by omega) (by simp only[maxLen];have:m*1<=m*P.cellsOf el:=Nat.mul_le_mul_left _ (by omega);omega) (by rw[<-BL,DP]) ?_ (by rw[B8];exact p1) p4 p2
    ·rw[Jb];have AW:=yK (P:=P) BE BC hi F4 Cv m (by rw[<-Cv];omega) (parts.map λ(x:Nat × Operand)=>(x.1,a.eval x.2)) C' (by rw[Hz];exact f1) c.w;simp only[execOp,ho,Sem.run_bind];rw[AW];rfl
    ·obtain⟨q,hq,rfl⟩:=List.mem_map.1 hy;exact p6 q hq
    ·rw[B8];intro u hu;obtain⟨v,hv,hu⟩:=List.mem_flatMap.1 hu;exact(p5 v hv).2 u hu
   ·cases he
  ·cases he
 ·cases he
end
end
end Go.Proofs.YtalagilebkaegaaGreat

/- Parts of a proof, joined: WA, VJa, VK, VL, VM, VN, VO, VP, VQ, VR, VS, VT, VU, VV, VW. -/
import Derived.Test.YtalagilebkaegaaGreatJ2
import Derived.WalkSpells
import Derived.Laws.BytesArg
set_option linter.unusedVariables false
set_option linter.unusedSimpArgs false
namespace Go.Proofs.YtalagilebkaegaaGreat
open Go.RowKit
section
theorem BC.{u}{α:Type u}{a:Array α}:a.toList.length=a.size:=Array.length_toList
theorem AX.{u,v}{α:Type u}{β:Type v}(a:α)(b:β)(c:α)(d:β):((a,b)=(c,d))=(a=c/\b=d):=Prod.mk.injEq a b c d
theorem Jh:∀{l:List (Nat × Af)} {t:Nat} {e:Af},AL l t=some e->(t,e)∈l
 | [],_,_,h=>by simp[AL]at h
 |(u,f)::l,t,e,h=>by
  simp only[AL]at h;split at h
  ·rename_i hu;subst hu;simp at h;subst h;simp
  ·exact List.mem_cons_of_mem _ (Jh h)
theorem No{α:Type}:∀{l:List (Nat × α)} {t:Nat} {e:α},l.lookup t=some e->(t,e)∈l
 | [],_,_,h=>by simp at h
 |(u,f)::l,t,e,h=>by
  simp only[List.lookup_cons]at h;split at h
  ·rename_i hu;simp at h hu;subst h;subst hu;simp
  ·exact List.mem_cons_of_mem _ (No h)
theorem ZE:∀{θ:List (Nat × Option Nat)},NI θ=true-> ∀{t u v:Nat},(t,some v)∈θ->(u,some v)∈θ->t=u
 | [],_,t,u,v,h,_=>by simp at h
 |(p,q)::θ,hn,t,u,v,h1,h2=>by
  have hn':NI θ=true:=by cases q<;>(simp only[NI,Ab]at hn;exact hn.2)
  have key:∀x,(p,some v)=(p,q)->(x,some v)∈θ->False:=by intro x hq hx;cases hq;simp only[NI,Ab,Bl]at hn;have:=hn.1 _ hx;simp at this
  rcases Ae.1 h1 with h3|h3<;>rcases Ae.1 h2 with h4|h4
  ·cases h3;cases h4;rfl
  ·cases h3;exact(key u rfl h4).elim
  ·cases h4;exact(key t rfl h3).elim
  ·exact ZE hn' h3 h4
def Cg(hp:List (Nat × Af))(t:Nat):Option Nat:=match AL hp t with
 |some (.box ..)=>some 0
 |some (.row _ _ g _ _)=>some g
 |some (.bu g _)=>some g
 |some (.deep _ _ _ g _ _)=>some g
 |_=>none
def Hy(hp:List (Nat × Af))(t:Nat):Bool:=match AL hp t with
 |some (.box ..)=>true
 |some (.row ..)=>true
 |some (.deep ..)=>true
 |_=>false
def LL(pat leaf:Option Af)(g:GI):GI:=match pat,leaf with
 |some (.row ..),some (.deep ..)=>⟨g.top.take 1,[]⟩
 |_,_=>g
theorem zDo{p l:Option Af}{g:GI}{b:Nat}(h:b∈(LL p l g).top):b∈g.top:=by
 unfold LL at h;split at h
 ·exact Bt h
 ·exact h
theorem zCo{p l:Option Af}{g:GI}{b:Nat}(h:b∈(LL p l g).own):b∈g.own:=by
 unfold LL at h;split at h
 ·simp only[GI.own,AE]at h;simp[GI.own,Bt h]
 ·exact h
theorem zzu{p l:Option Af}{g:GI}(h:g.own.Nodup):(LL p l g).own.Nodup:=by
 unfold LL;split
 ·simp only[GI.own,AE]at h ⊢;exact List.Sublist.nodup (List.Sublist.trans (List.take_sublist _ _) (List.sublist_append_left _ _)) h
 ·exact h
def Ds(c:Cx)(ρ:List AV)(θ:List (Nat × Option Nat))(pat leaf:St):Cx:=
 {c with
  ρ:=ρ
  G:=λt=>if Hy pat.hp t then(match θ.lookup t with|some (some t')=>LL (AL pat.hp t) (AL leaf.hp t') (c.G t')|_=>⟨[],[]⟩)else⟨[],[]⟩
  K:=λt g=>Cg pat.hp t=some g
  H:=λt _=>match θ.lookup t with|some (some t')=>c.H t' ((Cg leaf.hp t').getD 0)|_=> .slice none 0 0
  U:=λt=>t<pat.nx
  E:=λt=>match AL pat.hp t with|some (.deep _ _ _ _ ep _)=>ep|_=>0}
section
variable {c:Cx} {ρ:List AV} {nv n:Nat} {es:List E} {θ:List (Nat × Option Nat)} {pat leaf:St} {sl:Nat->SV} {a:Act}
theorem NL{t b:Nat}(h:b∈((Ds c ρ θ pat leaf).G t).own):Hy pat.hp t=true/\ ∃t',θ.lookup t=some (some t')/\(b∈((Ds c ρ θ pat leaf).G t).top->b∈(c.G t').top)/\b∈(c.G t').own:=by
 simp only[Ds]at h ⊢;split at h
 ·rename_i ho;split at h
  ·rename_i t' ht;exact⟨ho,t',ht,λhb=>by rw[if_pos ho]at hb;exact zDo hb,zCo h⟩
  ·simp[GI.own]at h
 ·simp[GI.own]at h
theorem SJ{b:Nat}(h:c.ok b):(Ds c ρ θ pat leaf).ok b:=by refine⟨λ⟨t,ht⟩=> ?_,h.2⟩;obtain⟨_,t',_,hg,_⟩:=NL (b:=b) (by simp only[GI.own,Ac];exact .inl ht);exact h.1 ⟨t',hg ht⟩
theorem L4(hp:ρ<+:c.ρ)(hn:ρ.length=nv){x y:E}(h:J2 nv es x y=true):x.den (ρ++(EL.of es).den c.ρ)=y.den c.ρ:=by
 obtain⟨τ,hτ⟩:=hp;have Lo:x.sc nv=true->x.beq y=true->x.den (ρ++(EL.of es).den c.ρ)=y.den c.ρ:=by intro h1 h2;rw[<-E.az c.ρ x y h2];subst hn;generalize hq:(EL.of es).den c.ρ=q;rw[E.bd ρ q τ x h1,hτ]
 unfold J2 at h;split at h
 ·rename_i i;split at h
  ·rename_i hi;exact Lo (by simpa[E.sc]using hi) h
  ·rename_i hi;split at h
   ·rename_i z hz;rw[<-E.az c.ρ z y h];simp only[E.den,EL.dd];rw[List.getElem?_append_right (by omega),hn,List.getElem?_map,hz];rfl
   ·cases h
 ·simp only[Ab]at h;exact Lo h.1 h.2
theorem zCK(hrel:Rel c n sl (AL leaf.hp) a){s:SV}{v:Value}{y:E}(hs:SR c [s] [v])(h:Jp leaf s=some y):∃f,Rd c.w [v] [y.den c.ρ] f/\ ∀b∈f,c.dy (Ca (AL leaf.hp) [] (A6+1) [s]) b:=
 H8 (λt e hr=>hrel.ents t e hr) (E1 _) A6 h hs A6 (AJ _)
mutual
theorem tN(hrel:Rel c n sl (AL leaf.hp) a)(hp:ρ<+:c.ρ)(hn:ρ.length=nv)(Ct:∀t e,(t,e)∈pat.hp->Ia nv es θ pat leaf t e=true):∀(m:Nat) {p s:SV} {v:Value},Uu nv es θ pat leaf m p s=true->SR c [s] [v]->SR (Ds c (ρ++(EL.of es).den c.ρ) θ pat leaf) [p] [v]
 |0,p,s,v,h,_=>by simp[Uu]at h
 |m+1,p,s,v,h,hs=>by
  unfold Uu at h;split at h
  ·exact .undef .nil
  ·rename_i x;split at h
   ·rename_i y hy;simp only[Ab,Bl,Bool.or_eq_true]at h;obtain⟨f,hf,IC⟩:=zCK hrel hs hy;have hx:=L4 (c:=c) hp hn h.1;refine .e (by rw[show(Ds c (ρ++(EL.of es).den c.ρ) θ pat leaf).ρ=ρ++(EL.of es).den c.ρ from rfl,hx];exact hf) (λb hb=> ?_) .nil;rcases IC b hb with hb|⟨t',MR,hb⟩
    ·exact SJ hb
    ·refine⟨λ⟨u,hu⟩=> ?_, .inr (hrel.gw.allow t' b (by simp[GI.own,hb]))⟩;obtain⟨ho,v',hl,hg,Tv⟩:=NL (b:=b) (by simp only[GI.own,Ac];exact .inl hu);have hv:v'=t':=by
      refine Classical.byContradiction λBF=>hrel.gw.cq v' t' BF b Tv (by simp[GI.own,hb])
     subst hv;have:=h.2 _ MR _ (No hl);simp only[bne_self_eq_false,AS,false_or]at this;unfold Hy at ho;split at this
     ·rename_i hh;rw[hh]at ho;simp at ho
     ·rename_i hh;rw[hh]at ho;simp at ho
     ·cases this
   ·cases h
  ·split at h
   ·cases hs with
    |cd _=>exact .cd .nil
   ·cases h
  ·split at h
   ·cases hs with
    |emp _=>exact .emp .nil
   ·cases hs with
    |cd _=>exact .emp .nil
   ·cases h
  ·rename_i t g;have key:∀t' v',Cg pat.hp t=some g->θ.lookup t=some (some t')->KR leaf.hp t' v'=true->SR c [.own t' v'] [v]->SR (Ds c (ρ++(EL.of es).den c.ρ) θ pat leaf) [.own t g] [v]:=by
    intro t' v' hg hl hv hs;cases hs with
    |own h1 h2 _=>
     refine .own hg ?_ .nil;show(match θ.lookup t with|some (some t')=>c.H t' ((Cg leaf.hp t').getD 0)|_=>Value.slice none 0 0)=_;rw[hl];have:(Cg leaf.hp t').getD 0=v':=by
      unfold KR at hv;unfold Cg;split at hv
      ·rename_i hh;rw[hh];simpa using(AM.1 hv).symm
      ·rename_i hh;rw[hh];simpa using(AM.1 hv).symm
      ·rename_i hh;rw[hh];simpa using(AM.1 hv).symm
      ·cases hv
     show c.H t' ((Cg leaf.hp t').getD 0)=_;rw[this];exact h2
   split at h
   ·rename_i g' _ _ El;simp only[Ab,AM]at h;obtain⟨rfl,h⟩:=h;split at h
    ·simp only[Ab,AM]at h;exact key _ _ (by simp[Cg,El]) h.1 h.2 hs
    ·rw[AM]at h;cases hs with
     |cd _=>refine .own (p:=none) (q:=0) (r:=0) (by show Cg pat.hp t=some g;simp[Cg,El]) ?_ .nil;show(match θ.lookup t with|some (some t')=>c.H t' ((Cg leaf.hp t').getD 0)|_=>Value.slice none 0 0)=_;rw[h]
    ·cases h
   ·rename_i g' _ El;simp only[Ab,AM]at h;obtain⟨rfl,h⟩:=h;split at h
    ·simp only[Ab,AM]at h;exact key _ _ (by simp[Cg,El]) h.1 h.2 hs
    ·cases h
   ·rename_i g' _ _ El;simp only[Ab,AM]at h;obtain⟨rfl,h⟩:=h;split at h
    ·simp only[Ab,AM]at h;exact key _ _ (by simp[Cg,El]) h.1 h.2 hs
    ·rw[AM]at h;cases hs with
     |cd _=>refine .own (p:=none) (q:=0) (r:=0) (by show Cg pat.hp t=some g;simp[Cg,El]) ?_ .nil;show(match θ.lookup t with|some (some t')=>c.H t' ((Cg leaf.hp t').getD 0)|_=>Value.slice none 0 0)=_;rw[h]
    ·cases h
   ·cases h
  ·rename_i t o;split at h
   ·rename_i ty g cs El;split at h
    ·rename_i t' o';simp only[Ab,AM]at h;obtain⟨rfl,hl⟩:=h;have Iq:=Ct t _ (Jh El);simp only[Ia,hl]at Iq;split at Iq
     ·rename_i Dm;cases hs with
      |cj h1 h2 _=>
       refine .cj (by show Cg pat.hp t=some 0;simp[Cg,El]) ?_ .nil;show(match θ.lookup t with|some (some t')=>c.H t' ((Cg leaf.hp t').getD 0)|_=>Value.slice none 0 0)=_;rw[hl];have:(Cg leaf.hp t').getD 0=0:=by simp[Cg,Dm]
       simp only[this];exact h2
     ·cases Iq
    ·cases h
   ·cases h
  ·cases h
  ·rename_i x i z o;split at h
   ·rename_i y j z' o';simp only[Ab,AM]at h;obtain⟨⟨⟨⟨⟨rfl,rfl⟩,h1⟩,h2⟩,h3⟩,h4⟩:=h;have hx:x.den (ρ++(EL.of es).den c.ρ)=y.den c.ρ:=by
     obtain⟨τ,hτ⟩:=hp;rw[<-E.az c.ρ x y h2];subst hn;generalize (EL.of es).den c.ρ=q;rw[E.bd ρ q τ x h1,hτ]
    have hi:i.den (ρ++(EL.of es).den c.ρ)=j.den c.ρ:=by obtain⟨τ,hτ⟩:=hp;rw[<-E.az c.ρ i j h4];subst hn;generalize (EL.of es).den c.ρ=q;rw[E.bd ρ q τ i h3,hτ]
    cases hs with
    |de g1 g2 g3 g4 g5 g6 _=>refine .de (f:=_) (by show Rd c.w _ [x.den (ρ++(EL.of es).den c.ρ)] _;rw[hx];exact g1) (λb hb=>SJ (g2 b hb)) (by show i.den (ρ++(EL.of es).den c.ρ)=_;rw[hi];exact g3) g4 g5 (by show((x.den (ρ++(EL.of es).den c.ρ)).nth _).cells.length=_;rw[hx];exact g6) .nil
   ·cases h
  ·rename_i x o;split at h
   ·rename_i y o';simp only[Ab,AM]at h;obtain⟨⟨rfl,h1⟩,h2⟩:=h;have hx:x.den (ρ++(EL.of es).den c.ρ)=y.den c.ρ:=by
     obtain⟨τ,hτ⟩:=hp;rw[<-E.az c.ρ x y h2];subst hn;generalize (EL.of es).den c.ρ=q;rw[E.bd ρ q τ x h1,hτ]
    cases hs with
    |db g1 g2 _=>exact .db (by show Rd c.w _ [x.den (ρ++(EL.of es).den c.ρ)] _;rw[hx];exact g1) (λb hb=>SJ (g2 b hb)) .nil
   ·cases h
  ·split at h
   ·cases hs with
    |agg h9 h1 _=>exact .agg h9 (Wu hrel hp hn Ct m h h1) .nil
   ·cases h
  ·split at h
   ·cases hs with
    |tup h1 _=>exact .tup (Wu hrel hp hn Ct m h h1) .nil
   ·cases h
  ·split at h
   ·simp only[Ab,AM]at h;obtain⟨rfl,h⟩:=h;cases hs with
    |fn h1 _=>exact .fn (Wu hrel hp hn Ct m h h1) .nil
   ·cases h
  ·cases h
  ·cases h
  ·cases h
  ·cases h
  ·rename_i i;split at h
   ·rename_i j;simp only[Ab,AM,AR]at h;obtain⟨rfl,hi⟩:=h;cases hs with
    |lent g1 _=>
     have hx:(E.var i).den (ρ++(EL.of es).den c.ρ)=(E.var i).den c.ρ:=by obtain⟨τ,hτ⟩:=hp;subst hn;generalize (EL.of es).den c.ρ=q;rw[E.bd ρ q τ (.var i) (by simpa[E.sc]using hi),hτ]
     exact .lent (show c.A.lo v ((E.var i).den (ρ++(EL.of es).den c.ρ)) by rw[hx];exact g1) .nil
   ·cases h
theorem Wu(hrel:Rel c n sl (AL leaf.hp) a)(hp:ρ<+:c.ρ)(hn:ρ.length=nv)(Ct:∀t e,(t,e)∈pat.hp->Ia nv es θ pat leaf t e=true):∀(m:Nat) {ps ss:List SV} {vs:List Value},HF nv es θ pat leaf m ps ss=true->SR c ss vs->SR (Ds c (ρ++(EL.of es).den c.ρ) θ pat leaf) ps vs
 |0,ps,ss,vs,h,_=>by simp[HF]at h
 |m+1,[],[],vs,h,hs=>by cases hs;exact .nil
 |m+1,p::ps,[],vs,h,hs=>by simp[HF]at h
 |m+1,[],s::ss,vs,h,hs=>by simp[HF]at h
 |m+1,p::ps,s::ss,[],h,hs=>by have:=hs.len;simp at this
 |m+1,p::ps,s::ss,v::vs,h,hs=>by simp only[HF,Ab]at h;obtain⟨h1,h2⟩:=hs.cf;exact(tN hrel hp hn Ct m h.1 h1).cons (Wu hrel hp hn Ct m h.2 h2)
end
theorem zy2(hrel:Rel c n sl (AL leaf.hp) a)(hp:ρ<+:c.ρ)(hn:ρ.length=nv)(Ct:∀t e,(t,e)∈pat.hp->Ia nv es θ pat leaf t e=true)(hθ:NI θ=true){t:Nat}{e:Af}(ht:AL pat.hp t=some e):Dv (Ds c (ρ++(EL.of es).den c.ρ) θ pat leaf) t e:=by
 have h:=Ct t e (Jh ht);have qN:Hy pat.hp t=false->(Ds c (ρ++(EL.of es).den c.ρ) θ pat leaf).G t=⟨[],[]⟩:=by intro h0;simp only[Ds];rw[if_neg (by rw[h0];simp)]
 have qO:∀t',Hy pat.hp t=true->θ.lookup t=some (some t')->(Ds c (ρ++(EL.of es).den c.ρ) θ pat leaf).G t=LL (AL pat.hp t) (AL leaf.hp t') (c.G t'):=by intro t' h0 hl;simp only[Ds];rw[if_pos h0,hl]
 have Tj:∀t',Hy pat.hp t=true->θ.lookup t=some (some t')->(∀q1 q2 q3 q4 q5 q6,AL leaf.hp t'=some (.deep q1 q2 q3 q4 q5 q6)-> ∀p1 p2 p3 p4 p5,e≠ .row p1 p2 p3 p4 p5)->(Ds c (ρ++(EL.of es).den c.ρ) θ pat leaf).G t=c.G t':=by
  intro t' h0 hl DU;rw[qO t' h0 hl,ht];unfold LL;split
  ·rename_i h1 h2;simp only[Ad]at h1;exact absurd h1 (DU _ _ _ _ _ _ h2 _ _ _ _ _)
  ·rfl
 have Lb:∀t' g,θ.lookup t=some (some t')->Cg leaf.hp t'=some g-> ∀g',(Ds c (ρ++(EL.of es).den c.ρ) θ pat leaf).H t g'=c.H t' g:=by intro t' g hl hg g';simp only[Ds,hl,hg,Dg]
 have EK:∀g,Cg pat.hp t=some g-> ∀g',(Ds c (ρ++(EL.of es).den c.ρ) θ pat leaf).K t g'->g'<=g:=by intro g hg g' hk;have Cq:Cg pat.hp t=some g':=hk;rw[hg]at Cq;cases Cq;exact AJ _
 cases e with
 |box ty g cs=>
  simp only[Ia]at h;split at h
  ·rename_i t' hl;split at h
   ·rename_i ty' g' ds Dm;simp only[Ab,AM]at h;obtain⟨⟨rfl,rfl⟩,h⟩:=h;obtain⟨b,C,h1,h2,h3,h4,h5,h6,h7⟩:=hrel.ents t' _ (by rw[Dm];rfl);have hg:=Tj t' (by simp[Hy,ht]) hl (by intros;simp);exact⟨b,C,by show Cg pat.hp t=some 0;simp[Cg,ht],by rw[Lb t' 0 hl (by simp[Cg,Dm])];exact h2,by rw[hg];exact h3,by rw[hg];exact h4,h5,h6,Wu hrel hp hn Ct _ h h7⟩
   ·cases h
  ·cases h
 |row et z g x d=>
  simp only[Ia]at h;split at h
  ·rename_i t' hl;split at h
   ·rename_i et' z' g' y d' Dm;simp only[Ab,AM,Bool.or_eq_true,Bg]at h;obtain⟨⟨⟨rfl,rfl⟩,hx⟩,hd⟩:=h;obtain⟨h1,h2,N,h3,h4,h5,h6⟩:=hrel.ents t' _ (by rw[Dm];rfl);have hg:=Tj t' (by simp[Hy,ht]) hl (λ_ _ _ _ _ _ hh=>by rw[Dm]at hh;cases hh);have DW:=L4 hp hn hx;have hK:Cg pat.hp t=some g:=by simp[Cg,ht]
    refine⟨hK,EK g hK,N,?_,λb hb=>SJ (h4 b hb),λDJ=> ?_,λhdf=> ?_⟩
    ·rw[Lb t' g' hl (by simp[Cg,Dm]),hg];show C3 c.w et z _ (x.den (ρ++(EL.of es).den c.ρ)) _ N;rw[DW];exact h3
    ·rw[hg];exact h5 (by rcases hd with hd|hd;rw[DJ]at hd;cases hd;exact hd)
    ·rw[hg];cases d' with
     |false=>exact h6 rfl
     |true=>obtain⟨u1,u2⟩:=h5 rfl;rw[u2];exact u1
   ·rename_i et' z' l' g' ep' y Dm;simp only[Ab,AM,Bg]at h;obtain⟨⟨⟨rfl,rfl⟩,hx⟩,rfl⟩:=h;obtain⟨h1,h2,_,h3,h4⟩:=hrel.ents t' _ (by rw[Dm];rfl);have hg:(Ds c (ρ++(EL.of es).den c.ρ) θ pat leaf).G t=⟨(c.G t').top.take 1,[]⟩:=by
     rw[qO t' (by simp[Hy,ht]) hl,ht,Dm];rfl
    have DW:=L4 hp hn hx;have hK:Cg pat.hp t=some g:=by simp[Cg,ht]
    obtain⟨f,k1,k2⟩:=h3.ownRow;have B8:((c.G t').top.take 1++(c.G t').top.drop 1).Nodup:=by rw[B9];have:=hrel.gw.nodup t';simp only[GI.own,h4,AE]at this;exact this
    refine⟨hK,EK g hK,f,?_,λb hb=> ?_,λDJ=>(by cases DJ),λ_=>by rw[hg]⟩
    ·rw[Lb t' g' hl (by simp[Cg,Dm]),hg];show C3 c.w et z _ (x.den (ρ++(EL.of es).den c.ρ)) _ f;rw[DW];exact k1
    ·have CL:b∈(c.G t').top:=BO (k2 b hb);refine⟨λ⟨u,hu⟩=> ?_, .inr (hrel.gw.allow t' b (by simp[GI.own,CL]))⟩;obtain⟨_,v',BH,_,Tv⟩:=NL (b:=b) (by simp only[GI.own,Ac];exact .inl hu);have hv:v'=t':=Classical.byContradiction λBF=>hrel.gw.cq v' t' BF b Tv (by simp[GI.own,CL]);subst hv;have:=ZE hθ (No BH) (No hl);subst this;rw[hg]at hu;exact(List.nodup_append.1 B8).2.2 b hu b (k2 b hb) rfl
   ·cases h
  ·rename_i hl;simp only[Ab,AR]at h;have DW:=L4 hp hn h.1;have hK:Cg pat.hp t=some g:=by simp[Cg,ht]
   have hg:(Ds c (ρ++(EL.of es).den c.ρ) θ pat leaf).G t=⟨[],[]⟩:=by simp[Ds,hl]
   refine⟨hK,EK g hK,[],⟨[],?_,by simp,h.2, .inl ⟨rfl,⟨none,?_⟩,by rw[hg],rfl⟩⟩,by simp,λ_=>⟨rfl,by rw[hg]⟩,λ_=>by rw[hg]⟩
   ·show x.den (ρ++(EL.of es).den c.ρ)=_;rw[DW];rfl
   ·simp[Ds,hl]
  ·cases h
 |bu g x=>
  have hg:=qN (by simp[Hy,ht]);have hK:Cg pat.hp t=some g:=by simp[Cg,ht]
  simp only[Ia]at h;split at h
  ·rename_i t' hl;have IC:∀b,b∈(c.G t').top->(Ds c (ρ++(EL.of es).den c.ρ) θ pat leaf).ok b:=by
    intro b hb;refine⟨λ⟨u,hu⟩=> ?_, .inr (hrel.gw.allow t' b (by simp[GI.own,hb]))⟩;obtain⟨ho,v',BH,Cu,Tv⟩:=NL (b:=b) (by simp only[GI.own,Ac];exact .inl hu);have hv:v'=t':=Classical.byContradiction λBF=>hrel.gw.cq v' t' BF b Tv (by simp[GI.own,hb]);subst hv;have:=ZE hθ (No BH) (No hl);subst this;simp[Hy,ht]at ho
   split at h
   ·rename_i et' z' g' y d' Dm;obtain⟨h1,h2,N,h3,h4,h5,h6⟩:=hrel.ents t' _ (by rw[Dm];rfl);obtain⟨f,r1,r2,_⟩:=h3.rd;refine⟨hK,⟨f,?_,λb hb=>(r2 b hb).elim (IC b) λhb=>SJ (h4 b hb)⟩,by rw[hg],by rw[hg]⟩;rw[Lb t' g' hl (by simp[Cg,Dm])];show Rd c.w _ [x.den (ρ++(EL.of es).den c.ρ)] f;rw[L4 hp hn h];exact r1
   ·rename_i g' y Dm;obtain⟨h1,⟨f,r1,r2⟩,_,_⟩:=hrel.ents t' _ (by rw[Dm];rfl);refine⟨hK,⟨f,?_,λb hb=>SJ (r2 b hb)⟩,by rw[hg],by rw[hg]⟩;rw[Lb t' g' hl (by simp[Cg,Dm])];show Rd c.w _ [x.den (ρ++(EL.of es).den c.ρ)] f;rw[L4 hp hn h];exact r1
   ·rename_i et' z' l' g' ep' y Dm;obtain⟨h1,h2,_,h3,h4⟩:=hrel.ents t' _ (by rw[Dm];rfl);obtain⟨f,r1,r2⟩:=h3.rd;refine⟨hK,⟨f,?_,λb hb=>IC b (r2 b hb)⟩,by rw[hg],by rw[hg]⟩;rw[Lb t' g' hl (by simp[Cg,Dm])];show Rd c.w _ [x.den (ρ++(EL.of es).den c.ρ)] f;rw[L4 hp hn h];exact r1
   ·cases h
  ·cases h
 |hol=>simp[Ia]at h
 |pre=>simp[Ia]at h
 |deep et z dl g ep x=>
  have hE:(Ds c (ρ++(EL.of es).den c.ρ) θ pat leaf).E t=ep:=by simp[Ds,ht]
  have hK:Cg pat.hp t=some g:=by simp[Cg,ht]
  simp only[Ia]at h;split at h
  ·rename_i t' hl;split at h
   ·rename_i et' z' dl' g' ep' y Dm;simp only[Ab,AM]at h;obtain⟨⟨⟨rfl,rfl⟩,Oi⟩,hx⟩:=h;have Oi:=Az.er Oi;subst Oi;obtain⟨h1,h2,_,h3,h4⟩:=hrel.ents t' _ (by rw[Dm];rfl);have hg:=Tj t' (by simp[Hy,ht]) hl (by intros;simp);refine⟨hK,EK g hK,hE,?_,by rw[hg];exact h4⟩;rw[Lb t' g' hl (by simp[Cg,Dm]),hg];show DC c.w _ _ [x.den (ρ++(EL.of es).den c.ρ)] _;rw[L4 hp hn hx];exact h3
   ·cases h
  ·rename_i hl;have hg:(Ds c (ρ++(EL.of es).den c.ρ) θ pat leaf).G t=⟨[],[]⟩:=by simp[Ds,hl]
   simp only[Ab,AR,AM]at h;refine⟨hK,EK g hK,hE,?_,by rw[hg]⟩;have e1:(Ds c (ρ++(EL.of es).den c.ρ) θ pat leaf).H t g= .slice none 0 0:=by simp[Ds,hl]
   rw[e1,hg];show DC c.w _ _ [x.den (ρ++(EL.of es).den c.ρ)] _;rw[L4 hp hn h.1.1];exact .void h.1.2 (by rw[Az.ax];exact h.2) .nil
  ·cases h
 |gd gs e=>simp[Ia]at h
 |dead=>have hg:=qN (by simp[Hy,ht]);exact⟨by rw[hg],by rw[hg]⟩
end
theorem zx0{nv:Nat}{es:List E}{θ:List (Nat × Option Nat)}{pat leaf:St}:∀(m:Nat) {ps ss:List SV},HF nv es θ pat leaf m ps ss=true-> ∀{i:Nat} {p:SV},ps[i]?=some p-> ∃s k,ss[i]?=some s/\Uu nv es θ pat leaf k p s=true
 |0,ps,ss,h,_,_,_=>by simp[HF]at h
 |m+1,[],ss,h,i,p,hp=>by simp at hp
 |m+1,q::ps,[],h,i,p,hp=>by simp[HF]at h
 |m+1,q::ps,s::ss,h,i,p,hp=>by
  simp only[HF,Ab]at h;cases i with
  |zero=>simp at hp;subst hp;exact⟨s,m,rfl,h.1⟩
  |succ i=>simpa using zx0 m h.2 (by simpa using hp)
theorem zCE:bE:=by
 intro F nv pat τ es ρ ρ' a w hi hn hp hr;obtain⟨c,rfl,rfl,MW,hA,bP,Gl,hU,hrel⟩:=hr;unfold KG at hi;simp only at hi;split at hi
 ·rename_i AZ;simp only[Ad]at hi;generalize cP:(List.range (pat.nv-nv)).map (λj=>((PS nv pat τ true pat.hp (PS nv pat τ false pat.hp (M7 nv pat τ 2000 ⟨[],[]⟩ pat.sl τ.sl))).as_.lookup (nv+j)).getD (.int .i64 0))=es0 at AZ hi;subst hi;generalize (PS nv pat τ true pat.hp (PS nv pat τ false pat.hp (M7 nv pat τ 2000 ⟨[],[]⟩ pat.sl τ.sl))).θ=θ at AZ;clear cP;simp only[uV,Ab,AM,Bl,AR]at AZ;obtain⟨⟨⟨⟨⟨⟨h1,hθ⟩,hlen⟩,Dj⟩,BX⟩,hnx⟩,Ua⟩:=AZ;have Ct:∀t e,(t,e)∈pat.hp->Ia nv es0 θ pat τ t e=true:=λt e he=>(BX _ he).1;have AH:∀t e,(t,e)∈pat.hp->t<pat.nx:=λt e he=>(BX _ he).2;have T4:∀t e,AL pat.hp t=some e-> ∀gs e',e≠ .gd gs e':=by
   rintro t e he gs e' rfl;have:=Ct t _ (Jh he);simp[Ia]at this
  have AO:∀t e e',AL pat.hp t=some e->(CH (ρ++(EL.of es0).den c.ρ) (AL pat.hp t) e'↔e'=e):=by
   intro t e e' he;rw[he];cases e with
   |gd gs e9=>exact absurd rfl (T4 t _ he gs e9)
   |_=>simp[CH,eq_comm]
  refine⟨Ds c (ρ++(EL.of es0).den c.ρ) θ pat τ,rfl,rfl,MW,hA,bP,?_,λt ht=>ht,hrel.defers,by rw[hlen];exact hrel.size,⟨hrel.base.os,hrel.base.tape,hrel.base.output,hrel.base.size,λt v Qd=> ?_,hrel.base.block,hrel.base.pk,hrel.base.lo⟩,λi=> ?_,λt e hr=> ?_,λt DU=> ?_,⟨λt=> ?_,λt u MU b hb Cb=> ?_,λt b hb=> ?_,λt b hb=> ?_⟩,λt g hk=> ?_,λt e he=>AH t e (Jh he)⟩
  ·rw[h1,EL.dd];simp[hn]
  ·have Ow:NV t=true:=F.lq t v (by rw[<-hA];exact Qd);refine⟨by
    show t<pat.nx;unfold NV at Ow;simp only[Ab,AR]at Ow;omega,λhk=> ?_⟩
   have Cq:Cg pat.hp t=some 0:=hk;obtain⟨e,eG⟩:∃e,AL pat.hp t=some e:=by
    unfold Cg at Cq;cases hh:AL pat.hp t with
    |none=>rw[hh]at Cq;cases Cq
    |some e=>exact⟨e,rfl⟩
   have D3:=Ua _ (Jh eG);simp only[Ow,Bool.not_true,Bool.false_or]at D3;have main:θ.lookup t=some (some t)->Cg τ.hp t=some 0->c.K t 0->(Ds c (ρ++(EL.of es0).den c.ρ) θ pat τ).H t 0=v:=by intro hl hg hK;simp only[Ds,hl,hg,Dg];exact(hrel.base.pins t v Qd).2 hK
   unfold MZ at D3;simp only[Cg,eG]at Cq;rw[eG]at D3;cases e with
   |box ty g cs=>
    simp only[Ab,AM]at D3;obtain⟨hl,hb⟩:=D3;split at hb
    ·rename_i ty' g' cs' Dm;obtain⟨b,C,q1,_⟩:=hrel.ents t _ (by rw[Dm];rfl);exact main hl (by simp[Cg,Dm]) q1
    ·cases hb
   |row ety sz g x d=>
    simp only[Ad]at Cq;subst Cq;simp only[bne_self_eq_false,Bool.false_or,Ab,AM]at D3;obtain⟨hl,hb⟩:=D3;split at hb
    ·rename_i ety' sz' g' x' d' Dm;rw[AM]at hb;subst hb;obtain⟨q1,_⟩:=hrel.ents t _ (by rw[Dm];rfl);exact main hl (by simp[Cg,Dm]) q1
    ·cases hb
   |bu g x=>simp only[Ad]at Cq;subst Cq;simp at D3
   |gd=>simp at Cq
   |dead=>simp at Cq
   |hol=>simp at Cq
   |pre=>simp at Cq
   |deep ety sz l g ep x=>
    simp only[Ad]at Cq;subst Cq;simp only[bne_self_eq_false,Bool.false_or,Ab,AM]at D3;obtain⟨hl,hb⟩:=D3;split at hb
    ·rename_i Dm;rw[AM]at hb;subst hb;obtain⟨q1,_⟩:=hrel.ents t _ (by rw[Dm];rfl);exact main hl (by simp[Cg,Dm]) q1
    ·cases hb
  ·unfold BS;cases T9:pat.sl[i]? with
   |none=>exact .undef .nil
   |some p=>obtain⟨s,k,hs,hk⟩:=zx0 _ Dj T9;have:=hrel.cz i;unfold BS at this;rw[hs]at this;exact tN hrel hp hn Ct k hk this
  ·cases he:AL pat.hp t with
   |none=>rw[he]at hr;exact hr.elim
   |some e9=>have Ol:=(AO t e9 e he).1 hr;subst Ol;exact zy2 hrel hp hn Ct hθ he
  ·have:Hy pat.hp t=false:=by
    cases he:AL pat.hp t with
    |none=>simp[Hy,he]
    |some e9=>exact absurd ((AO t e9 e9 he).2 rfl) (DU e9)
   simp[Ds,this]
  ·simp only[Ds];split
   ·split
    ·exact zzu (hrel.gw.nodup _)
    ·simp[GI.own]
   ·simp[GI.own]
  ·obtain⟨_,t',hl,_,CL⟩:=NL hb;obtain⟨_,u',BH,_,Ir⟩:=NL Cb;by_cases hh:t'=u'
   ·subst hh;exact MU (ZE hθ (No hl) (No BH))
   ·exact hrel.gw.cq t' u' hh b CL Ir
  ·obtain⟨_,t',hl,_,CL⟩:=NL hb;exact hrel.gw.allow t' b CL
  ·obtain⟨_,t',hl,_,CL⟩:=NL hb;exact hrel.gw.inb t' b CL
  ·have Cq:Cg pat.hp t=some g:=hk;unfold Cg at Cq;show t<pat.nx;split at Cq
   ·rename_i hh;exact AH t _ (Jh hh)
   ·rename_i hh;exact AH t _ (Jh hh)
   ·rename_i hh;exact AH t _ (Jh hh)
   ·rename_i hh;exact AH t _ (Jh hh)
   ·cases Cq
 ·cases hi
theorem VO(l:List DT):∀(n k o m:Nat),k<n->o+m<=l.length->((BJ n l).drop (k*l.length+o)).take m=(l.drop o).take m
 |0,k,_,_,h,_=>by omega
 |n+1,0,o,m,_,hm=>by rw[Pw,Nat.zero_mul,Nat.zero_add,List.drop_append_of_le_length (by omega),List.take_append_of_le_length (by simp;omega)]
 |n+1,k+1,o,m,h,hm=>by have ih:=VO l n k o m (by omega) hm;rw[<-ih,Pw,show(k+1)*l.length+o=l.length+(k*l.length+o)from by rw[Nat.add_mul];omega,List.drop_append,List.drop_eq_nil_of_le (by omega)];simp
theorem DC.elem{w:World}{ys:List AV}{l:List DT}{cells:List Value}{N:List Nat}{z:Nat}(h:DC w (BJ ys.length l) cells (Aq ys) N)(hl:l.length=z)(h7:∀y∈ys,y.cells.length=z){k o m:Nat}(hk:k<ys.length)(hm:o+m<=z):
  ∃M,(∀b∈M,b∈N)/\DC w ((l.drop o).take m) ((cells.drop (k*z+o)).take m) ((((AV.sl ys).nth k).cells.drop o).take m) M:=by
 obtain⟨N1,N2,N3,rfl,_,h2,_⟩:=h.split (k*z+o) m;subst hl;rw[VO l _ _ _ _ hk hm,VY ys h7 k _ (NM hk) o m hm]at h2;exact⟨N2,λb hb=>by simp[hb],h2⟩
theorem Rd.kf{w:World}{vs:List Value}{x:AV}{f:List Nat}{o m:Nat}{g:Bool}(h:Rd w vs ((x.cells.drop o).take m) f)(h9:∀u∈vs,u.oneCell'=true)(hm:o+m<=x.cells.length)(h1:g=false->m=1):
  Rd w [if g then .agg vs.toArray else vs.headD undef] [x.fld o m g] f:=by
 cases g with
 |true=>have:=Rd.agg h9 h .nil;simpa[AV.fld]using this
 |false=>
  have:=h1 rfl;subst this;have e2:(x.cells.drop o).take 1=[x.cells[o]'(by omega)]:=by rw[Bw (by omega),List.take_succ_cons,List.take_zero]
  rw[e2]at h;have hl:=h.len
  match vs,hl with
  | [v],_=>simpa[AV.fld,show o<x.cells.length by omega]using h
section
variable {P:Program} {c:Cx} {n nx:Nat} {sl sl0:Nat->SV} {hp hp0:Nat->Option Af} {a:Act} {o:Oper} {gs:Gd} {e:Bb} {sg:B1} {nv:Nat}
theorem zuX{w:World}{b p:Nat}{t:TypeId}{C:Array Value}{ty:TypeId}{fz:Nat × Nat}(hb:w.heap[b]?=some (.cells C ty fz))(ht:Du P t=true)(hg:Ao P t=true\/P.cellsOf t=1)(hp:p+P.cellsOf t<=C.size):
  (Instr.loadAt t (.pointer (some ⟨b,p,none⟩))).run P w= .ok (if Ao P t then .agg ((C.toList.drop p).take (P.cellsOf t)).toArray else((C.toList.drop p).take (P.cellsOf t)).headD undef) w:=by
 have MG:((C.toList.drop p).take (P.cellsOf t)).length=P.cellsOf t:=by rw[Aw,BD,BC];omega
 refine Sa ht _ (λ_=>MG) (λh=> ?_) (λj u hu=> ?_)
 ·rw[MG];rcases hg with h'|h';rw[h]at h';cases h';exact h'
 ·rw[EA hb];rw[List.getElem?_take]at hu;split at hu
  ·simpa using hu
  ·cases hu
theorem zAo{b g e z ep:Nat}{l:List DT}{c0 i:E}{t:TypeId}{k':Nat}{v:Value}(hE:Dv c b (.deep e z l g ep c0))(hr:SR c [.cr b g i z k'] [v])(Bn:Du P t=true)(hle:k'+P.cellsOf t<=z)(AI:Ao P t=true\/P.cellsOf t=1):
  ∃u,(Instr.loadAt t v).run P c.w= .ok u c.w/\(((l.drop k').take (P.cellsOf t)).all DT.bw=true->Rd c.w [u] [(E.fld (.idx c0 i) k' (P.cellsOf t) (Ao P t)).den c.ρ] [])/\Qp c b u ((E.fld (.idx c0 i) k' (P.cellsOf t) (Ao P t)).den c.ρ)/\(Ao P t=false->IU c b g (some (i,z,k')) u):=by
 obtain⟨q1,q2,q3,q4,q5⟩:=hE;cases hr with
 |cr h1 h2 h3 h4 h5 _=>
  rename_i q len cap kk k h6;obtain⟨d1,d2,⟨a9,d3,_⟩|⟨g9,cap9,C,ys,N1,d3,d4,d5,d6,d7,d8,d9,d10,d11,d12⟩⟩:=q4.inv
  ·rw[h2]at d3;cases d3;omega
  ·rw[h2]at d3;cases d3;rw[Az.ax]at d2 d12;have hk:k.toNat<ys.length:=by omega
   have hmul:(k.toNat+1)*z<=ys.length*z:=Br _ (by omega);have ES:ys.length*z<=cap*z:=Br _ d7;rw[Nat.add_mul]at hmul;have AQ:=zuX (P:=P) (t:=t) (p:=k.toNat*z+k') d6 Bn AI (by omega);obtain⟨M,m1,m2⟩:=d12.elem d2 d10 hk hle;have Ga:((C.toList.take (ys.length*z)).drop (k.toNat*z+k')).take (P.cellsOf t)=(C.toList.drop (k.toNat*z+k')).take (P.cellsOf t):=by rw[List.drop_take,List.take_take,Nat.min_eq_left (by omega)]
   rw[Ga]at m2;have CN:∀u∈(C.toList.drop (k.toNat*z+k')).take (P.cellsOf t),u.oneCell'=true:=λu hu=>d11 u (by rw[<-Ga]at hu;exact BO (Bt hu))
   have sB:((AV.sl ys).nth k.toNat).cells.length=z:=d10 _ (List.mem_of_getElem? (NM hk));have Cp:(E.fld (.idx c0 i) k' (P.cellsOf t) (Ao P t)).den c.ρ=((AV.sl ys).nth k.toNat).fld k' (P.cellsOf t) (Ao P t):=by simp only[E.den,d4,h3,AV.idx]
   have KB:Ao P t=false->P.cellsOf t=1:=λh=>by rcases AI with h'|h';rw[h]at h';cases h';exact h'
   refine⟨_,AQ,λhf=> ?_,?_,λhf=> ?_⟩
   ·rw[Cp];exact(m2.iw hf).kf CN (by omega) KB
   ·obtain⟨f,r1,r2⟩:=m2.rd;rw[Cp];exact⟨f,r1.kf CN (by omega) KB,λb hb=> .inr (by rw[d5];simp[m1 b (r2 b hb)])⟩
   ·refine⟨_,_,_,C,_,_,kk,k,h2,by rw[d5];simp,d6,h3,h4,h5,?_⟩;have Ci:=KB hf;have AH:k.toNat*z+k'<C.size:=by omega
    have e1:(C.toList.drop (k.toNat*z+k')).take 1=[C[k.toNat*z+k']]:=by rw[Bw (by simpa using AH),List.take_succ_cons,List.take_zero];simp
    rw[hf,Ci,e1];simp[AH]
end
section
variable {P:Program} {c:Cx} {n nx:Nat} {sl sl0:Nat->SV} {hp hp0:Nat->Option Af} {a:Act} {o:Oper} {gs:Gd} {e:Bb} {sg:B1} {nv:Nat}
theorem BP.cw:∀l:BP,BP.of l.toList=l
 | .nil=>rfl
 | .cons s l=>by simp[BP.toList,BP.of,BP.cw l]
theorem zBf(h:BA P c n nx sl hp a sl0 hp0 o gs){t:TypeId}{x:Operand}(ho:o.op= .load t x)(he:BW P sg sl0 hp0 nv nx gs o=some e)(hc:∀q∈e.cc,Cn.den c.ρ q):AB P o c n nx sl hp gs a e:=by
 have hm:x∈o.op.operands:=by simp[ho,Op.operands]
 simp only[BW,ho,Av,As]at he;obtain⟨s,hs,e1,he,rfl⟩:=he;have hr:=(h.cu hs hm).asPtr (λq hq=>hc q (by simp[hq]));have qY:∀q∈e1.cc,Cn.den c.ρ q:=λq hq=>hc q (by simp[hq]);have ex:(execOp a.eval o).run P c.w=((Instr.loadAt t (a.eval x)).run P c.w).andThen λv w=> .ok (.value v) w:=by simp[execOp,ho]
 unfold tE at he;split at he
 ·cases he
 rename_i Bn;have Bn:Du P t=true:=by simpa using Bn
 generalize A5:(asPtr s).1=s1 at he hr;split at he
 ·rename_i b o';split at he
  ·rename_i ty g cs hl;obtain⟨s2,A8,rfl⟩:=As.1 he;generalize ha:a.eval x=v at hr ex;cases hr with
   |cj h1 h2 _=>
    rename_i q;obtain⟨q',C,_,e2,e3,e4,e5,e5',e6⟩:=h.eh b _ (CJ hl h.gs);rw[h2]at e2;cases e2;unfold PW at A8;have hlen:=e6.len;split at A8
    ·rename_i AI;split at A8
     ·rename_i hle;simp at A8;subst A8;obtain⟨r1,r2⟩:=e6.split o';obtain⟨r3,r4⟩:=r2.split (P.cellsOf t);have:=SR.agg (cs:=BP.of ((cs.drop o').take (P.cellsOf t))) (λu hu=>e5' u (BO (Bt hu))) (by rw[BP.ax];exact r3) .nil;refine AB.pure h (v:= .agg ((C.toList.drop o').take (P.cellsOf t)).toArray) ?_ this rfl;rw[ex,Sa Bn ((C.toList.drop o').take (P.cellsOf t)) (λ_=>by simp at hlen ⊢;omega) (λh=>by rw[AI]at h;cases h) (λj u hu=>by
       rw[EA e5];rw[List.getElem?_take]at hu;split at hu
       ·simpa using hu
       ·cases hu)]
      simp[AI]
     ·cases A8
    ·rename_i AI;have AI:Ao P t=false:=by simpa using AI
     obtain⟨u,hu,r⟩:=e6.get A8;refine AB.pure h (v:=u) ?_ r rfl;rw[ex,Sa Bn [u] (λh=>by rw[AI]at h;cases h) (λ_=>rfl) (λj z hz=>by
      cases j with
      |zero=>simp at hz;subst hz;rw[EA e5];simpa using hu
      |succ j=>simp at hz)]
     simp[AI]
  ·cases he
 ·rename_i b g i sz o';split at he
  ·rename_i e0 sz' g' c0 d hl;split at he
   ·rename_i hh;obtain⟨rfl,rfl,hle,AI⟩:=hh;simp at he;subst he;generalize ha:a.eval x=v at hr ex;cases hr with
    |cr h1 h2 h3 h4 h5 _=>
     rename_i q len cap kk k h6;obtain⟨_,_,N,r1,r2,_,_⟩:=h.eh b _ (CJ hl h.gs);obtain⟨f,r3,_,r4⟩:=r1.rd;obtain⟨xs,Cl,Ax,h0,A1⟩:=r1;rw[h2]at r3 A1;have hk:k.toNat<len:=by omega
     have IE:xs.length=len:=by
      rcases A1 with⟨_,⟨_,hv⟩,_⟩|⟨_,_,_,hv,_⟩
      ·cases hv;omega
      ·simp at hv;exact hv.2.1.symm
     have Bz:((c0.den c.ρ).nth k.toNat).cells.length=sz:=by rw[Cl];exact Ax _ (List.mem_of_getElem? (NM (xs:=xs) (by omega)))
     obtain⟨v',q',g1,g2,g3⟩:=nU r3 hk Bz Bn hle AI;refine AB.pure h (v:=v') ?_ (.e (f:=q') ?_ ?_ .nil) rfl
     ·rw[ex];rw[Nat.zero_add]at g1;simp[g1]
     ·simpa[E.den,AV.idx,h3]using g3
     ·exact λz hz=>r2 z (r4 z (g2 z hz))
   ·cases he
  ·rename_i e0 sz' l g' ep c0 hl;split at he
   ·rename_i hh;obtain⟨rfl,rfl,hle,AI⟩:=hh;generalize ha:a.eval x=v at hr ex;have hE:=h.eh b _ (CJ hl h.gs);obtain⟨u,k1,k2,k3,k4⟩:=zAo (P:=P) (t:=t) hE hr Bn hle AI;have AQ:(execOp a.eval o).run P c.w= .ok (.value u) c.w:=by rw[ex,k1];rfl
    split at he
    ·rename_i hf;simp only[Ad]at he;subst he;exact AB.pure h AQ (.e (k2 hf) (by simp) .nil) rfl
    ·simp only[Ad]at he;subst he;cases hr with
     |cr h1 _ _ _ _ _=>
      refine AB.pure h AQ (.via h1 (Nat.le_of_eq hE.2.2.1.symm) (λ_=>⟨k3,?_⟩) .nil) rfl;split
      ·exact trivial
      ·rename_i G8;exact k4 (by simpa using G8)
   ·cases he
  ·cases he
 ·rename_i b g m pth y i sz o';split at he
  ·rename_i hh;obtain⟨hle,AI,hv⟩:=hh;have hE:=SE h.eh h.gs hv;generalize ha:a.eval x=v at hr ex;cases hr with
   |vptr h1 h2 h3 _=>
    obtain⟨q,off,len,cap,kk,k,⟨f,p1,p2⟩,_,p4,p5,p6,p7,rfl⟩:=h3 hE;obtain⟨v',q',g1,g2,g3⟩:=nU (fo:=o') p1 (by omega) p7 Bn hle AI;have AQ:(execOp a.eval o).run P c.w= .ok (.value v') c.w:=by rw[ex];simp[g1]
    have Cp:Rd c.w [v'] [(E.fld (.idx y i) o' (P.cellsOf t) (Ao P t)).den c.ρ] q':=by simpa[E.den,AV.idx,p4]using g3
    split at he
    ·simp only[Ad]at he;subst he;obtain⟨f1,f2,f3,f4⟩:=Ci qY;have hq:q'=[]:=by
      cases hg:Ao P t with
      |true=>obtain⟨cs,By⟩:=f3 hg;obtain⟨as_,rfl,_,r⟩:=Kt Cp By;exact Hw r (by rw[By]at f2;exact f2)
      |false=>exact Hw Cp (by simpa using f4 hg)
     subst hq;exact AB.pure h AQ (.e Cp (by simp) .nil) rfl
    ·simp only[Ad]at he;subst he;exact AB.pure h AQ (.via h1 h2 (λ_=>⟨⟨q',Cp,λz hz=>p2 z (List.mem_of_mem_tail (g2 z hz))⟩,trivial⟩) .nil) rfl
  ·cases he
 ·rename_i y i sz o';split at he
  ·rename_i hh;obtain⟨hle,AI⟩:=hh;simp at he;subst he;generalize ha:a.eval x=v at hr ex;cases hr with
   |de h1 h2 h3 h4 h5 h6 _=>rename_i q off len cap f kk k;obtain⟨v',q',g1,g2,g3⟩:=nU (fo:=o') h1 (by omega) h6 Bn hle AI;refine AB.pure h (v:=v') ?_ (.e (f:=q') (by simpa[E.den,AV.idx,h3]using g3) (λz hz=>h2 z (List.mem_of_mem_tail (g2 z hz))) .nil) rfl;rw[ex];simp[g1]
  ·cases he
 ·rename_i y o';split at he
  ·rename_i AI;simp at he;subst he;generalize ha:a.eval x=v at hr ex;cases hr with
   |db h1 h2 _=>
    rename_i q f;obtain⟨z,hz,hle⟩:=Ci qY;rw[hz]at h1;cases h1 with
    |ref hb Cb GP DV=>
     rename_i C ty fz f1 f2;obtain⟨q',g1,g2⟩:=GP.gz Cb o' (P.cellsOf t) (Ao P t) hle (λh=>by rcases AI with h'|h';rw[h]at h';cases h';exact h');have MG:((C.toList.drop o').take (P.cellsOf t)).length=P.cellsOf t:=by have:=GP.len;rw[Aw,BD];omega
     refine AB.pure h ?_ (.e (f:=q') (by simpa[E.den,hz,AV.deref]using g2) (λz hz=>h2 z (by simp[g1 z hz])) .nil) rfl;rw[ex,Sa Bn ((C.toList.drop o').take (P.cellsOf t)) (λ_=>MG) (λh=>by rw[MG];rcases AI with h'|h';rw[h]at h';cases h';exact h') (λj u hu=>by
       rw[EA hb];rw[List.getElem?_take]at hu;split at hu
       ·simpa using hu
       ·cases hu)]
     simp
  ·cases he
 ·cases he
end
theorem PF(k:IntKind)(n:Int):E4 k n↔k.min<=n/\n<=k.max:=by unfold E4;cases k<;>simp only[IntKind.wrap,IntKind.bits,IntKind.signed,IntKind.min,IntKind.max]<;>simp<;>(try split)<;>omega
theorem oD(k:IntKind)(n:Int):E4 k (k.wrap n):=by rw[PF];cases k<;>simp only[IntKind.wrap,IntKind.bits,IntKind.signed,IntKind.min,IntKind.max]<;>simp<;>(try split)<;>omega
theorem zCU{k:IntKind}{x y:Int}(h:E4 k x):E4 k (x.tmod y):=by
 rw[PF]at h ⊢;have h1:(x.tmod y).natAbs<=x.natAbs:=by rw[Int.natAbs_tmod];exact Nat.mod_le _ _
 have h2:0<=x->0<=x.tmod y:=Int.tmod_nonneg y;have Lr:k.min<=0:=by cases k<;>decide
 have Fo:0<=k.max:=by cases k<;>decide
 constructor
 ·by_cases h0:0<=x
  ·have:=h2 h0;omega
  ·omega
 ·by_cases h0:0<=x
  ·omega
  ·have h3:x.tmod y<=0:=by
    have:=Int.tmod_nonneg (a:= -x) y (by omega);rw[Int.neg_tmod]at this;omega
   omega
theorem zCj{k:IntKind}{x:Int}(m:Nat)(h:E4 k x):E4 k (x.fdiv (2^m)):=by
 rw[PF]at h ⊢;have hp:(0:Int)<2^m:=Int.pow_pos (by decide);rw[Int.fdiv_eq_ediv_of_nonneg _ (Int.le_of_lt hp)];have Lr:k.min<=0:=by cases k<;>decide
 have Fo:0<=k.max:=by cases k<;>decide
 have h1:(1:Int)<=2^m:=hp;constructor
 ·rcases Int.le_total 0 x with h0|h0
  ·have:=Int.ediv_nonneg h0 (Int.le_of_lt hp);omega
  ·have:x<=x/2^m:=by
    rw[Int.le_ediv_iff_mul_le hp];have:=Int.mul_le_mul_of_nonpos_left h0 h1;omega
   omega
 ·rcases Int.le_total 0 x with h0|h0
  ·have:=Int.ediv_le_self (2^m) h0;omega
  ·have h2:x/2^m<=0:=by
    have:=Int.ediv_le_ediv hp h0;simpa using this
   omega
section
variable {P:Program} {c:Cx} {n nx:Nat} {sl sl0:Nat->SV} {hp hp0:Nat->Option Af} {a:Act} {o:Oper} {gs:Gd} {e:Bb} {sg:B1} {nv:Nat}
def AV.val:AV->Value
 | .int k n=> .int k n
 | .bool b=> .bool b
 | .str s=> .string ⟨s.toArray⟩
 |_=>Go.undef
theorem zyL{op:BinOp}{k k':IntKind}{x y:Int}(hk:k=k'\/op= .shl\/op= .shr)(hz:op= .quo\/op= .rem->y≠0)(hs:op= .shl\/op= .shr->0<=y)(t:TypeId)(p q:Operand)(w:World):
  (do eqGuard op t p q (.int k x) (.int k' y);binOp op t (.int k x) (.int k' y):Sem Value).run P w= .ok (Cy op k x y).val w:=by
 have hg:=eqGuard_at_int op t p q (.int k' y) k x;cases op<;>simp only[reduceCtorEq,or_false,or_true,or_self]at hk hz hs<;>simp only[hg]
 all_goals first
  |(subst hk;simp[binOp,Op.intArith,Op.intCmp,Op.intBits,Cy,AV.val];done)
  |(subst hk;have:=hz trivial;simp[binOp,Op.intDiv,Cy,AV.val,this];done)
  |(have:=hs trivial;simp[binOp,Op.shift,Cy,AV.val,Int.not_lt.2 this];done)
theorem zBB{op:BinOp}{k:IntKind}{x y:Int}(hx:E4 k x)(w:World):Rd w [(Cy op k x y).val] [Cy op k x y] []:=by
 cases op<;>simp only[Cy,AV.val]<;>first
  |exact .int (oD _ _) .nil
  |exact .bool .nil
  |exact .int (zCU hx) .nil
  |exact .int (zCj _ hx) .nil
theorem Rd.gj{w:World}{v:Value}{x:AV}{f:List Nat}(h:Rd w [v] [x] f):x≠ .undef:=by rintro rfl;cases h
theorem nT{ρ:List AV}:∀(x:E) {k:IntKind},Cz x=some k->x.den ρ≠ .undef-> ∃m,x.den ρ= .int k m
 | .int k n,_,h,_=>by simp[Cz]at h;subst h;exact⟨n,rfl⟩
 | .len y,_,h,hd=>by
  simp[Cz]at h;subst h;simp only[E.den,AV.len]at hd ⊢;split at hd
  ·exact⟨_,rfl⟩
  ·exact absurd rfl hd
 | .slen y,_,h,hd=>by
  simp[Cz]at h;subst h;simp only[E.den,AV.slen]at hd ⊢;split at hd
  ·exact⟨_,rfl⟩
  ·exact absurd rfl hd
 | .conv k y,_,h,hd=>by
  simp[Cz]at h;subst h;simp only[E.den,AV.conv]at hd ⊢;split at hd
  ·exact⟨_,rfl⟩
  ·exact absurd rfl hd
 | .bin op x y,k,h,hd=>by
  simp only[E.den]at hd ⊢;have hx:x.den ρ≠ .undef:=by rintro hh;rw[hh]at hd;exact hd (by simp[AV.bin])
  cases op<;>simp only[Cz,reduceCtorEq]at h
  all_goals
   obtain⟨m,hm⟩:=nT x h hx;rw[hm]at hd ⊢;cases hy:y.den ρ<;>rw[hy]at hd<;>simp only[AV.bin]at hd ⊢ <;>first
    |exact absurd rfl hd
    |(split at hd
      ·rename_i hk;rw[if_pos hk];exact⟨_,rfl⟩
      ·exact absurd rfl hd)
 | .var _,_,h,_=>by simp[Cz]at h
 | .bool _,_,h,_=>by simp[Cz]at h
 | .str _,_,h,_=>by simp[Cz]at h
 | .dk,_,h,_=>by simp[Cz]at h
 | .lst _,_,h,_=>by simp[Cz]at h
 | .mk _,_,h,_=>by simp[Cz]at h
 | .tup _,_,h,_=>by simp[Cz]at h
 | .ref _,_,h,_=>by simp[Cz]at h
 | .fn ..,_,h,_=>by simp[Cz]at h
 | .fld ..,_,h,_=>by simp[Cz]at h
 | .proj ..,_,h,_=>by simp[Cz]at h
 | .deref _,_,h,_=>by simp[Cz]at h
 | .idx ..,_,h,_=>by simp[Cz]at h
 | .sidx ..,_,h,_=>by simp[Cz]at h
 | .win ..,_,h,_=>by simp[Cz]at h
 | .swin ..,_,h,_=>by simp[Cz]at h
 | .app ..,_,h,_=>by simp[Cz]at h
 | .set ..,_,h,_=>by simp[Cz]at h
 | .put ..,_,h,_=>by simp[Cz]at h
 | .rep ..,_,h,_=>by simp[Cz]at h
 | .sbin ..,_,h,_=>by simp[Cz]at h
 | .bbin ..,_,h,_=>by simp[Cz]at h
 | .not _,_,h,_=>by simp[Cz]at h
 | .neg _,_,h,_=>by simp[Cz]at h
 | .ite ..,_,h,_=>by simp[Cz]at h
 | .bytes _,_,h,_=>by simp[Cz]at h
 | .text _,_,h,_=>by simp[Cz]at h
end
section
variable {P:Program} {c:Cx} {n nx:Nat} {sl sl0:Nat->SV} {hp hp0:Nat->Option Af} {a:Act} {o:Oper} {gs:Gd} {e:Bb} {sg:B1} {nv:Nat}
theorem H4{s:SV}{v:Value}{x:E}(h:SR c [s] [v])(hx:FF s=some x):∃f,Rd c.w [v] [x.den c.ρ] f/\ ∀b∈f,c.ok b:=by
 cases s<;>simp only[FF,Ad,reduceCtorEq]at hx;subst hx;cases h with
 |e h1 h2 _=>exact⟨_,h1,h2⟩
theorem SR.cy{v:Value}{x:E}(h:Rd c.w [v] [x.den c.ρ] []):SR c [.e x] [v]:= .e h (by simp) .nil
theorem zzj{ρ:List AV}{op:BinOp}{x y:E}{w:World}{v u:Value}{f g:List Nat}(h1:Rd w [v] [x.den ρ] f)(h2:Rd w [u] [y.den ρ] g)(hd:Sr (.bin op x y)=true->(E.bin op x y).den ρ≠ .undef):
  ∃k k' p q,x.den ρ= .int k p/\y.den ρ= .int k' q/\(k=k'\/op= .shl\/op= .shr)/\(E.bin op x y).den ρ=Cy op k p q/\E4 k p/\v= .int k p/\u= .int k' q:=by
 have key:(∃k k' p q,x.den ρ= .int k p/\y.den ρ= .int k' q/\(k=k'\/op= .shl\/op= .shr)):=by
  by_cases hn:Sr (.bin op x y)=true
  ·have:=hd hn;simp only[E.den]at this;cases hx:x.den ρ<;>cases hy:y.den ρ<;>simp only[hx,hy,AV.bin,ne_eq,not_true_eq_false]at this;split at this
   ·exact⟨_,_,_,_,rfl,rfl,by assumption⟩
   ·exact absurd rfl this
  ·have hn:Sr (.bin op x y)=false:=by simpa using hn
   have hk:(Cz x).isSome=true/\(Cz x==Cz y)=true:=by cases op<;>simp[Sr]at hn<;>simpa using hn
   obtain⟨k,GM⟩:=Option.isSome_iff_exists.1 hk.1;have hk2:Cz y=some k:=by rw[<-AM.1 hk.2,GM]
   obtain⟨p,hp⟩:=nT x GM h1.gj;obtain⟨q,hq⟩:=nT y hk2 h2.gj;exact⟨k,k,p,q,hp,hq, .inl rfl⟩
 obtain⟨k,k',p,q,hp,hq,MF⟩:=key;obtain⟨hv,Ce⟩:=F2 h1 hp;obtain⟨hu,_⟩:=F2 h2 hq;exact⟨k,k',p,q,hp,hq,MF,by simp only[E.den,hp,hq,AV.bin,if_pos MF],Ce,hv,hu⟩
theorem zt4(a b:ByteArray):(a.toList==b.toList)=(a.data.toList==b.data.toList):=by rw[ByteArray.toList_eq,ByteArray.toList_eq]
theorem zul{α β γ:Type}(r:Result α)(f:α->World->Result β)(g:β->World->Result γ):(r.andThen f).andThen g=r.andThen λa w=>(f a w).andThen g:=by cases r<;>rfl
theorem nA(d:Nat){t:TypeId}(p q:Bool)(h:P.underlying t=some .bool)(w:World):(Op.equalIn (d+1) t (.bool p) (.bool q)).run P w= .ok (p==q) w:=by simp[Op.equalIn,run_underlying h]
theorem zzb{t:TypeId}(p q:Bool)(h:P.underlying t=some .bool)(w:World):(binOp .eql t (.bool p) (.bool q)).run P w= .ok (.bool (p==q)) w:=by simp only[binOp];simp[Op.equal,Op.maxDepth,nA 9999 p q h]
theorem zy0{t:TypeId}(p q:Bool)(h:P.underlying t=some .bool)(w:World):(binOp .neq t (.bool p) (.bool q)).run P w= .ok (.bool (!(p==q))) w:=by simp only[binOp];simp[Op.equal,Op.maxDepth,nA 9999 p q h]
theorem PL{op:BinOp}{t ty:TypeId}{x y:Operand}(ho:o.op= .binOp op t x y ty)(w:World){v u:Value}(hv:a.eval x=v)(hu:a.eval y=u):
  (execOp a.eval o).run P w=((do eqGuard op t x y v u;binOp op t v u:Sem Value).run P w).andThen λv w=> .ok (.value v) w:=by
 simp only[execOp,ho,hv,hu,Sem.run_bind,zul,Sem.run_pure]
theorem wF(h:BA P c n nx sl hp a sl0 hp0 o gs){op:BinOp}{t el:TypeId}{x y:Operand}{ty:TypeId}(ho:o.op= .binOp op t x y ty)(hu:P.underlying t=some (.slice el))(r1:SR c [.cd] [a.eval x])(r2:SR c [.cd] [a.eval y])
  (AU:op= .eql\/op= .neq):AB P o c n nx sl hp gs a {val:= .e (.bool (op== .eql))}:=by
 have ex:=λ(v u:Value) (hv:a.eval x=v) (hu:a.eval y=u)=>PL (P:=P) (o:=o) ho c.w hv hu;generalize FB:a.eval x=v1 at r1;generalize Df:a.eval y=v2 at r2;cases r1 with
 |cd _=>cases r2 with
  |cd _=>
   refine AB.pure h (v:= .bool (op== .eql)) ?_ (.cy (.bool .nil)) rfl;rw[ex _ _ FB Df,eqGuard_at_slice];rcases AU with rfl|rfl
   ·simp[run_eql_nil_slice c.w t el none 0 0 0 0 hu]
   ·simp[run_neq_nil_slice c.w t el none 0 0 0 0 hu]
theorem zwM(h:BA P c n nx sl hp a sl0 hp0 o gs){op:BinOp}{t:TypeId}{x y:Operand}{ty:TypeId}(ho:o.op= .binOp op t x y ty){s1 s2:SV}(r1:SR c [s1] [a.eval x])(r2:SR c [s2] [a.eval y])
  {x' y':E} (DW:FF s1=some x') (BN:FF s2=some y') (hd:Sr (.bin op x' y')=true->Cn.den c.ρ (.dfd (.bin op x' y'))) (hnz:op= .quo\/op= .rem->Cn.den c.ρ (.nz y')) (hnn:op= .shl\/op= .shr->Cn.den c.ρ (.nn y')) {ck:List Cn}:
  AB P o c n nx sl hp gs a {cc:=ck,val:= .e (.bin op x' y')}:=by
 obtain⟨f1,g1,_⟩:=H4 r1 DW;obtain⟨f2,g2,_⟩:=H4 r2 BN;obtain⟨k,k',p,q,e1,e2,MF,e3,Ce,hv,FT⟩:=zzj (op:=op) g1 g2 hd;refine AB.pure h (v:=(Cy op k p q).val) ?_ (.cy (by rw[e3];exact zBB Ce _)) rfl;rw[PL ho c.w hv FT,zyL MF (λAU=> ?_) (λAU=> ?_)]
 ·simp
 ·obtain⟨_,m,hm,Ck⟩:=hnz AU;rw[e2]at hm;cases hm;exact Ck
 ·obtain⟨_,m,hm,Ck⟩:=hnn AU;rw[e2]at hm;cases hm;exact Ck
theorem zvM(h:BA P c n nx sl hp a sl0 hp0 o gs){op:BinOp}{t:TypeId}{x y:Operand}{ty:TypeId}(ho:o.op= .binOp op t x y ty){s1 s2:SV}(r1:SR c [s1] [a.eval x])(r2:SR c [s2] [a.eval y])
  {x' y':E} (DW:FF s1=some x') (BN:FF s2=some y') (hd:Cn.den c.ρ (.dfd (.sbin op x' y'))) (BQ:op= .add->Cn.den c.ρ (.roomS x' y')) {ck:List Cn}:
  AB P o c n nx sl hp gs a {cc:=ck,val:= .e (.sbin op x' y')}:=by
 obtain⟨f1,g1,_⟩:=H4 r1 DW;obtain⟨f2,g2,_⟩:=H4 r2 BN;have hd:AV.sbin op (x'.den c.ρ) (y'.den c.ρ)≠ .undef:=hd;cases hx:x'.den c.ρ<;>cases hy:y'.den c.ρ<;>simp only[hx,hy,AV.sbin,ne_eq,not_true_eq_false]at hd;obtain⟨b1,FB,rfl,_⟩:=S4 g1 hx;obtain⟨b2,Df,rfl,_⟩:=S4 g2 hy;have hle:op= .add->b1.size+b2.size<=9223372036854775807:=λAU=>by obtain⟨p,q,hp,hq,hle⟩:=BQ AU;rw[hx]at hp;rw[hy]at hq;cases hp;cases hq;simpa using hle
 refine AB.pure h (v:=match op with| .add=> .string (b1++b2)|_=>(S2 op b1.data.toList b2.data.toList).val) ?_ (.cy ?_) rfl
 ·rw[PL ho c.w FB Df,eqGuard_at_string];cases op<;>first
   |(exact absurd rfl hd)
   |(have:=hle rfl;simp[binOp,Op.stringOp];omega)
   |(simp[binOp,Op.stringOp,S2,AV.val,ByteArray.toList_eq,bne];done)
 ·simp only[E.den,hx,hy,AV.sbin];cases op<;>simp only[S2,AV.val,ne_eq,not_true_eq_false]at hd ⊢ <;>first
   |exact .bool .nil
   |(have:=hle rfl
     have h9:=Rd.str (w:=c.w) (s:=b1++b2) (by simpa using this) .nil;simpa using h9)
theorem zvj(h:BA P c n nx sl hp a sl0 hp0 o gs){op:BinOp}{t:TypeId}{x y:Operand}{ty:TypeId}(ho:o.op= .binOp op t x y ty)(hu:P.underlying t=some .bool){s1 s2:SV}(r1:SR c [s1] [a.eval x])(r2:SR c [s2] [a.eval y])
  {x' y':E} (DW:FF s1=some x') (BN:FF s2=some y') (hd:Cn.den c.ρ (.dfd (.bbin op x' y'))) {ck:List Cn}:
  AB P o c n nx sl hp gs a {cc:=ck,val:= .e (.bbin op x' y')}:=by
 obtain⟨f1,g1,_⟩:=H4 r1 DW;obtain⟨f2,g2,_⟩:=H4 r2 BN;have hd:AV.bbin op (x'.den c.ρ) (y'.den c.ρ)≠ .undef:=hd;cases hx:x'.den c.ρ<;>cases hy:y'.den c.ρ<;>simp only[hx,hy,AV.bbin,ne_eq,not_true_eq_false]at hd;rename_i p q;have FB:=IM g1 hx;have Df:=IM g2 hy;refine AB.pure h (v:=(AV.bbin op (.bool p) (.bool q)).val) ?_ (.cy ?_) rfl
 ·rw[PL ho c.w FB Df,eqGuard_at_bool];cases op<;>simp only[ne_eq,not_true_eq_false]at hd
  ·simp[zzb p q hu,AV.bbin,AV.val]
  ·simp[zy0 p q hu,AV.bbin,AV.val,bne]
 ·simp only[E.den,hx,hy];cases op<;>simp only[AV.bbin,AV.val,ne_eq,not_true_eq_false]at hd ⊢ <;>exact .bool .nil
theorem zCF(h:BA P c n nx sl hp a sl0 hp0 o gs){op:BinOp}{t:TypeId}{x y:Operand}{ty:TypeId}(ho:o.op= .binOp op t x y ty)(MJ:∀fs,P.underlying t≠some (.struct fs))(he:BW P sg sl0 hp0 nv nx gs o=some e)(hq:e.ca=none)(hc:∀q∈e.cc,Cn.den c.ρ q):AB P o c n nx sl hp gs a e:=by
 have Dz:x∈o.op.operands:=by simp[ho,Op.operands]
 have CM:y∈o.op.operands:=by simp[ho,Op.operands]
 simp only[BW,ho,Av]at he;obtain⟨s1,BM,s2,A8,he⟩:=he;have r1:=h.cu BM Dz;have r2:=h.cu A8 CM;unfold SX at he;split at he
 ·rename_i el hu;split at he
  ·simp at he;subst he;exact wF h ho hu r1 r2 (.inl rfl)
  ·simp at he;subst he;exact wF h ho hu r1 r2 (.inr rfl)
  ·obtain⟨_,_,rfl⟩:=As.1 he;cases hq
  ·obtain⟨_,_,rfl⟩:=As.1 he;cases hq
  ·cases he
 ·rename_i kk hu;split at he
  ·rename_i x' y' DW BN;simp at he;subst he;exact zwM h ho r1 r2 DW BN (λhn=>hc _ (by simp[hn])) (λAU=>hc _ (by rcases AU with rfl|rfl<;>simp)) (λAU=>hc _ (by rcases AU with rfl|rfl<;>simp))
  ·cases he
 ·rename_i hu;split at he
  ·rename_i x' y' DW BN;simp at he;subst he;exact zvM h ho r1 r2 DW BN (hc _ (by simp)) (λAU=>hc _ (by subst AU;simp))
  ·cases he
 ·rename_i hu;split at he
  ·rename_i x' y' DW BN;simp at he;subst he;exact zvj h ho hu r1 r2 DW BN (hc _ (by simp))
  ·cases he
 ·rename_i fs hu;exact absurd hu (MJ fs)
 ·cases he
end
section
variable {P:Program} {c:Cx} {n nx:Nat} {sl sl0:Nat->SV} {hp hp0:Nat->Option Af} {a:Act} {o:Oper} {gs:Gd} {e:Bb} {sg:B1} {nv:Nat}
theorem V8{t:TypeId}(h:Du P t=true)(cs:List Value)(off:Nat)(hle:off+P.cellsOf t<=cs.length)(hg:Ao P t=true\/P.cellsOf t=1)(w:World):
  (part t cs.toArray off).run P w= .ok (if Ao P t then .agg ((cs.drop off).take (P.cellsOf t)).toArray else((cs.drop off).take (P.cellsOf t)).headD Go.undef) w:=by
 cases ha:Ao P t with
 |true=>simp only[part,Sem.run_bind,VW h,ha,Pq h,Result.andThen_ok,if_true,Sem.run_pure];congr 2;apply Array.ext';rw[Array.toList_extract];simp[Nat.add_sub_cancel_left,List.extract_eq_take_drop]
 |false=>
  have h1:P.cellsOf t=1:=by rcases hg with h'|h';rw[ha]at h';cases h';exact h'
  have AH:off<cs.length:=by omega
  have e1:(cs.drop off).take (P.cellsOf t)=[cs[off]]:=by rw[h1,Bw AH,List.take_succ_cons,List.take_zero]
  rw[e1];simp[part,VW h,ha,AH]
theorem zzx(h:BA P c n nx sl hp a sl0 hp0 o gs){t:TypeId}{x:Operand}{f:Nat}(ho:o.op= .field t x f)(he:BW P sg sl0 hp0 nv nx gs o=some e)(hc:∀q∈e.cc,Cn.den c.ρ q):AB P o c n nx sl hp gs a e:=by
 have hm:x∈o.op.operands:=by simp[ho,Op.operands]
 simp only[BW,ho,Av]at he;obtain⟨s,hs,he⟩:=he;have hr:=h.cu hs hm;split at he
 ·rename_i fs hu;split at he
  ·rename_i fd hf;split at he
   ·cases he
   ·rename_i Bn;have Bn:Du P fd.type=true:=by simpa using Bn
    have ex:∀as_:List Value,a.eval x= .agg as_.toArray->(execOp a.eval o).run P c.w=((part fd.type as_.toArray fd.offset).run P c.w).andThen λv w=> .ok (.value v) w:=λas_ hv=>by simp[execOp,ho,Instr.field,run_underlying hu,hf,hv,asAgg]
    split at he
    ·rename_i cs;obtain⟨s2,A8,rfl⟩:=As.1 he;generalize hv:a.eval x=v at hr;cases hr with
     |agg r8 r1 r9=>
      rename_i as_;have hlen:=r1.len;unfold PW at A8;split at A8
      ·rename_i AI;split at A8
       ·rename_i hle;simp at A8;subst A8;obtain⟨q1,q2⟩:=r1.split fd.offset;obtain⟨q3,q4⟩:=q2.split (P.cellsOf fd.type);have:=SR.agg (cs:=BP.of ((cs.toList.drop fd.offset).take (P.cellsOf fd.type))) (λu hu=>r8 u (BO (Bt hu))) (by rw[BP.ax];exact q3) .nil;refine AB.pure h (v:= .agg ((as_.drop fd.offset).take (P.cellsOf fd.type)).toArray) ?_ this rfl;rw[ex as_ hv,V8 Bn as_ fd.offset (by omega) (.inl AI)];simp[AI]
       ·cases A8
      ·rename_i AI;have AI:Ao P fd.type=false:=by simpa using AI
       obtain⟨u,FT,r⟩:=r1.get A8;refine AB.pure h (v:=u) ?_ r rfl;rw[ex as_ hv];simp[part,VW Bn,AI,FT]
    ·rename_i y;split at he
     ·rename_i hh;obtain⟨hle,AI⟩:=hh;simp at he;subst he;generalize hv:a.eval x=v at hr;cases hr with
      |e h1 h2 _=>
       rename_i f1;obtain⟨cs,By,Ax⟩:=Ci hc;obtain⟨as_,rfl,OI,DV⟩:=Kt h1 By;have hlen:=DV.len;have Ga:(y.den c.ρ).cells=cs:=by rw[By];rfl
       rw[<-Ga]at DV;obtain⟨q,g1,g2⟩:=DV.gz OI fd.offset (P.cellsOf fd.type) (Ao P fd.type) (by rw[Ga];omega) (λhh=>by rcases AI with h'|h';rw[hh]at h';cases h';exact h');refine AB.pure h ?_ (.e (f:=q) (by simpa[E.den]using g2) (λz hz=>h2 z (g1 z hz)) .nil) rfl;rw[ex as_ hv,V8 Bn as_ fd.offset (by omega) AI];simp
     ·cases he
    ·rename_i b g m pth y;split at he
     ·rename_i hh;obtain⟨hle,AI,Ul⟩:=hh;have hE:=SE h.eh h.gs Ul;generalize hv:a.eval x=v at hr;have Ip:Cn.den c.ρ (.agg y (P.cellsOf t)):=by
       split at he<;>(simp only[Ad]at he;subst he;exact Ci hc)
      cases hr with
      |via h1 h2 h3 _=>
       obtain⟨⟨f1,p1,p2⟩,_⟩:=h3 hE;obtain⟨cs,By,Ax⟩:=Ip;obtain⟨as_,rfl,OI,DV⟩:=Kt p1 By;have hlen:=DV.len;have Ga:(y.den c.ρ).cells=cs:=by rw[By];rfl
       rw[<-Ga]at DV;obtain⟨q,g1,g2⟩:=DV.gz OI fd.offset (P.cellsOf fd.type) (Ao P fd.type) (by rw[Ga];omega) (λhh=>by rcases AI with h'|h';rw[hh]at h';cases h';exact h');have AQ:=ex as_ hv;rw[V8 Bn as_ fd.offset (by omega) AI]at AQ;simp only[Result.andThen_ok]at AQ;have Cp:Rd c.w _ [(E.fld y fd.offset (P.cellsOf fd.type) (Ao P fd.type)).den c.ρ] q:=g2;split at he
       ·simp only[Ad]at he;subst he;obtain⟨e1,e2,e3,e4⟩:=hc (.flat (.fld y fd.offset (P.cellsOf fd.type) (Ao P fd.type)) (P.cellsOf fd.type) (Ao P fd.type)) (by simp);have hq:q=[]:=by
         cases hg:Ao P fd.type with
         |true=>obtain⟨cs,By⟩:=e3 hg;obtain⟨as_,_,_,r⟩:=Kt Cp By;exact Hw r (by rw[By]at e2;exact e2)
         |false=>exact Hw Cp (by simpa using e4 hg)
        subst hq;exact AB.pure h AQ (.e Cp (by simp) .nil) rfl
       ·simp only[Ad]at he;subst he;exact AB.pure h AQ (.via h1 h2 (λ_=>⟨⟨q,Cp,λz hz=>p2 z (g1 z hz)⟩,trivial⟩) .nil) rfl
     ·cases he
    ·cases he
  ·cases he
 ·cases he
theorem Sw{v:Value}{x:AV}{m:Int}{w:World}{f:List Nat}(h:Rd w [v] [x] f)(hx:x.len= .int .i64 m):(∃a c,v= .slice a 0 c/\m=0)\/ ∃b o k c,v= .slice (some ⟨b,o,none⟩) k c/\m=k:=by
 rcases h.kind with h|h|h|h|h|h|h|h|h|h
 ·obtain⟨_,_,_,rfl,_⟩:=h;simp[AV.len]at hx
 ·obtain⟨_,_,rfl,_⟩:=h;simp[AV.len]at hx
 ·obtain⟨_,_,rfl,_⟩:=h;simp[AV.len]at hx
 ·obtain⟨q,r,rfl,rfl,_⟩:=h;simp[AV.len]at hx;exact .inl ⟨q,r,rfl,by omega⟩
 ·obtain⟨b,o,k,r,ys,_,_,_,_,_,_,rfl,rfl,_,_,_,_,hl,_⟩:=h;simp[AV.len]at hx;exact .inr ⟨b,o,k,r,rfl,by omega⟩
 ·obtain⟨_,_,_,rfl,_⟩:=h;simp[AV.len]at hx
 ·obtain⟨_,_,_,rfl,_⟩:=h;simp[AV.len]at hx
 ·obtain⟨_,_,_,_,_,_,_,rfl,_⟩:=h;simp[AV.len]at hx
 ·obtain⟨_,_,_,_,rfl,_⟩:=h;simp[AV.len]at hx
 ·obtain⟨_,rfl,_⟩:=h;simp[AV.len]at hx
theorem R8{t el:TypeId}(hu:P.underlying t=some (.slice el))(hz:P.cellsOf el≠0){b off len cap:Nat}{kk:IntKind}{k:Int}(h0:0<=k)(h1:k<len)(w:World):
  (Instr.indexAt t (.slice (some ⟨b,off,none⟩) len cap) (.int kk k)).run P w= .ok (.pointer (some ⟨b,off+k.toNat*P.cellsOf el,none⟩)) w:=by
 simp[Instr.indexAt,run_underlying hu,asIntOf,h0,h1,yL hz,Addr.add_lit]
theorem yH(h:BA P c n nx sl hp a sl0 hp0 o gs){t:TypeId}{x i:Operand}(ho:o.op= .indexAddr t x i\/o.op= .index t x i){s1 s2:SV}(BM:BL sl0 gs x=some s1)(A8:BL sl0 gs i=some s2)
  (AU:(∃el,P.underlying t=some (.slice el))->o.op= .indexAddr t x i) (eD:P.underlying t=some .string->o.op= .index t x i)
  (he:aF P hp0 gs t s1 s2=some e) (hc:∀q∈e.cc,Cn.den c.ρ q):AB P o c n nx sl hp gs a e:=by
 have Dz:x∈o.op.operands:=by rcases ho with ho|ho<;>simp[ho,Op.operands]
 have CM:i∈o.op.operands:=by rcases ho with ho|ho<;>simp[ho,Op.operands]
 have r1:=h.cu BM Dz;have r2:=h.cu A8 CM;unfold aF at he;split at he
 ·rename_i el k hu;have T5:=AU ⟨el,hu⟩;have ex:(execOp a.eval o).run P c.w=((Instr.indexAt t (a.eval x) (a.eval i)).run P c.w).andThen λv w=> .ok (.value v) w:=by simp[execOp,T5]
  split at he
  ·cases he
  rename_i hz;obtain⟨fk,GM,_⟩:∃f,Rd c.w [a.eval i] [k.den c.ρ] f/\ ∀b∈f,c.ok b:=by
   generalize a.eval i=v at r2;cases r2 with
   |e h1 h2 _=>exact⟨_,h1,h2⟩
  split at he
  ·rename_i b g;split at he
   ·rename_i e0 sz g' c0 d hl;split at he
    ·rename_i hh;obtain⟨rfl,rfl⟩:=hh;simp at he;subst he;obtain⟨kk,kv,m,e1,e2,e3,e4,e5⟩:=Ci hc;obtain⟨Iw,_⟩:=F2 GM e1;generalize hv:a.eval x=v at r1 ex;cases r1 with
     |own hK Mv _=>
      obtain⟨_,_,N,q1,q2,_,_⟩:=h.eh b _ (CJ hl h.gs);obtain⟨xs,Cl,Ax,h0,A1⟩:=q1;rw[Cl]at e3;simp only[AV.len,AV.int.injEq,true_and]at e3;rcases A1 with⟨rfl,_⟩|⟨g9,cap,C,hH,_⟩
      ·simp at e3;omega
      ·refine AB.pure h (v:= .pointer (some ⟨g9,kv.toNat*P.cellsOf el+0,none⟩)) ?_ (.cr hK hH e1 e2 (by omega) .nil) rfl;rw[Mv]at hH;cases hH;rw[ex,Iw,R8 hu hz e2 (by omega)];simp
    ·cases he
   ·rename_i g' c0 hl;split at he
    ·rename_i hh;subst hh;simp at he;subst he;obtain⟨kk,kv,m,e1,e2,e3,e4,e5⟩:=Ci hc;obtain⟨Iw,_⟩:=F2 GM e1;generalize hv:a.eval x=v at r1 ex;cases r1 with
     |own hK Mv _=>
      obtain⟨_,⟨f,q1,q2⟩,_,_⟩:=h.eh b _ (CJ hl h.gs);rcases Sw q1 e3 with⟨_,_,_,hm⟩|⟨b9,off9,len9,cap9,hH,hm⟩
      ·omega
      ·rw[Mv]at hH;cases hH;rw[Mv]at q1;refine AB.pure h (v:= .pointer (some ⟨b9,off9+kv.toNat*P.cellsOf el+0,none⟩)) ?_ (.de q1 q2 e1 e2 (by omega) e5 .nil) rfl;rw[ex,Iw,R8 hu hz e2 (by omega)];simp
    ·cases he
   ·rename_i e0 sz dl g' ep c0 hl;split at he
    ·rename_i hh;obtain⟨rfl,rfl⟩:=hh;simp at he;subst he;obtain⟨kk,kv,m,e1,e2,e3,e4,e5⟩:=Ci hc;obtain⟨Iw,_⟩:=F2 GM e1;generalize hv:a.eval x=v at r1 ex;cases r1 with
     |own hK Mv _=>
      obtain⟨_,_,_,q1,_⟩:=h.eh b _ (CJ hl h.gs);obtain⟨_,_,⟨a9,d3,d4,_⟩|⟨g9,cap,C,ys,N1,hH,d4,_⟩⟩:=q1.inv
      ·rw[d4]at e3;simp[AV.len]at e3;omega
      ·rw[d4]at e3;simp only[AV.len,AV.int.injEq,true_and]at e3;refine AB.pure h (v:= .pointer (some ⟨g9,kv.toNat*P.cellsOf el+0,none⟩)) ?_ (.cr hK hH e1 e2 (by omega) .nil) rfl;rw[Mv]at hH;cases hH;rw[ex,Iw,R8 hu hz e2 (by omega)];simp
    ·cases he
   ·rename_i e0 sz dl g' ep c0 ih oh uh hl;split at he
    ·rename_i hh;obtain⟨rfl,rfl⟩:=hh;simp at he;subst he;obtain⟨kk,kv,m,e1,e2,e3,e4,e5⟩:=Ci hc;obtain⟨Iw,_⟩:=F2 GM e1;generalize hv:a.eval x=v at r1 ex;cases r1 with
     |own hK Mv _=>obtain⟨_,_,_,⟨g9,cap,C,ys,_,_,_,_,hH,d4,_⟩,_⟩:=h.eh b _ (CJ hl h.gs);rw[d4]at e3;simp only[AV.len,AV.int.injEq,true_and]at e3;refine AB.pure h (v:= .pointer (some ⟨g9,kv.toNat*P.cellsOf el+0,none⟩)) ?_ (.cr hK hH e1 e2 (by omega) .nil) rfl;rw[Mv]at hH;cases hH;rw[ex,Iw,R8 hu hz e2 (by omega)];simp
    ·cases he
   ·cases he
  ·rename_i y;simp at he;subst he;obtain⟨kk,kv,m,e1,e2,e3,e4,e5⟩:=Ci hc;obtain⟨Iw,_⟩:=F2 GM e1;generalize hv:a.eval x=v at r1 ex;cases r1 with
   |e q1 q2 _=>
    rcases Sw q1 e3 with⟨_,_,_,hm⟩|⟨b9,off9,len9,cap9,rfl,hm⟩
    ·omega
    ·refine AB.pure h (v:= .pointer (some ⟨b9,off9+kv.toNat*P.cellsOf el+0,none⟩)) ?_ (.de q1 q2 e1 e2 (by omega) e5 .nil) rfl;rw[ex,Iw,R8 hu hz e2 (by omega)];simp
  ·rename_i b g m pth y;split at he
   ·rename_i Ul;simp at he;subst he;have hE:=SE h.eh h.gs Ul;obtain⟨kk,kv,mm,e1,e2,e3,e4,e5⟩:=Ci hc;obtain⟨Iw,_⟩:=F2 GM e1;generalize hv:a.eval x=v at r1 ex;cases r1 with
    |via q1 q2 q3 _=>
     obtain⟨⟨f,p1,p2⟩,p3⟩:=q3 hE;rcases Sw p1 e3 with⟨_,_,_,hm⟩|⟨b9,off9,len9,cap9,rfl,hm⟩
     ·omega
     ·refine AB.pure h (v:= .pointer (some ⟨b9,off9+kv.toNat*P.cellsOf el+0,none⟩)) ?_ (.vptr q1 q2 (λ_=>⟨b9,off9,len9,cap9,kk,kv,⟨f,p1,p2⟩,p3,e1,e2,by omega,e5,rfl⟩) .nil) rfl;rw[ex,Iw,R8 hu hz e2 (by omega)];simp
   ·cases he
  ·cases he
 ·rename_i k hu;have T5:=eD hu;obtain⟨fk,GM,_⟩:∃f,Rd c.w [a.eval i] [k.den c.ρ] f/\ ∀b∈f,c.ok b:=by
   generalize a.eval i=v at r2;cases r2 with
   |e h1 h2 _=>exact⟨_,h1,h2⟩
  split at he
  ·rename_i y;simp at he;subst he;obtain⟨kk,kv,s,e1,e2,e3,e4⟩:=Ci hc;obtain⟨Iw,_⟩:=F2 GM e1;generalize hv:a.eval x=v at r1;cases r1 with
   |e q1 q2 _=>
    obtain⟨bs,rfl,rfl,hle⟩:=S4 q1 e2;have AH:kv.toNat<bs.data.toList.length:=by omega
    have dN:kv.toNat<bs.size:=by simpa using AH
    refine AB.pure h (v:= .int .u8 (bs[kv.toNat]).toNat) ?_ (.cy ?_) rfl
    ·simp[execOp,T5,Instr.index,hv,Iw,asIntOf,run_underlying hu,e3,dN]
    ·simp only[E.den,e1,e2,AV.sidx];have:bs.data.toList[kv.toNat]?=some (bs[kv.toNat]):=by
      rw[Bh AH];simp[ByteArray.getElem_eq_getElem_data]
     rw[this];refine .int ?_ .nil;rw[PF];have:=(bs[kv.toNat]).toNat_lt;simp[IntKind.min,IntKind.max,IntKind.signed,IntKind.bits];omega
  ·cases he
 ·cases he
theorem zsM(h:BA P c n nx sl hp a sl0 hp0 o gs){t:TypeId}{x i:Operand}(ho:o.op= .indexAddr t x i)(MJ:P.underlying t≠some .string)(he:BW P sg sl0 hp0 nv nx gs o=some e)(hc:∀q∈e.cc,Cn.den c.ρ q):AB P o c n nx sl hp gs a e:=by
 simp only[BW,ho,Av]at he;obtain⟨s1,BM,s2,A8,he⟩:=he;split at he
 ·cases he
 exact yH h (.inl ho) BM A8 (λ_=>ho) (λhh=>absurd hh MJ) he hc
theorem zwb(h:BA P c n nx sl hp a sl0 hp0 o gs){t:TypeId}{x i:Operand}(ho:o.op= .index t x i)(MJ:P.underlying t=some .string)(he:BW P sg sl0 hp0 nv nx gs o=some e)(hc:∀q∈e.cc,Cn.den c.ρ q):AB P o c n nx sl hp gs a e:=by
 simp only[BW,ho,Av]at he;obtain⟨s1,BM,s2,A8,he⟩:=he;split at he
 ·exact yH h (.inr ho) BM A8 (λ⟨el,hh⟩=>by rw[MJ]at hh;cases hh) (λ_=>ho) he hc
 ·cases he
theorem zwp(h:BA P c n nx sl hp a sl0 hp0 o gs){x:Operand}{i:Nat}(ho:o.op= .extract x i)(he:BW P sg sl0 hp0 nv nx gs o=some e)(hc:∀q∈e.cc,Cn.den c.ρ q):AB P o c n nx sl hp gs a e:=by
 have hm:x∈o.op.operands:=by simp[ho,Op.operands]
 simp only[BW,ho,Av]at he;obtain⟨s,hs,he⟩:=he;have hr:=h.cu hs hm;generalize hv:a.eval x=v at hr;have ex:∀(as_:List Value) u,v= .tuple as_.toArray->as_[i]?=some u->(execOp a.eval o).run P c.w= .ok (.value u) c.w:=λas_ u eZ hu=>by simp[execOp,ho,Instr.extract,hv,eZ,hu]
 split at he
 ·rename_i vs;obtain⟨s2,A8,rfl⟩:=As.1 he;cases hr with
  |tup r1 r9=>obtain⟨u,hu,r⟩:=r1.get A8;exact AB.pure h (ex _ u rfl hu) r rfl
 ·rename_i y;simp at he;subst he;cases hr with
  |e q1 q2 _=>
   have hd:(y.den c.ρ).proj i≠ .undef:=Ci hc;cases hy:y.den c.ρ<;>simp only[hy,AV.proj,ne_eq,not_true_eq_false]at hd;rename_i cs;obtain⟨as_,rfl,r1⟩:=zF6 q1 hy;cases TC:cs[i]? with
   |none=>simp[TC]at hd
   |some z=>obtain⟨u,g,hu,hg,Db⟩:=r1.at TC;exact AB.pure h (ex as_ u rfl hu) (.e (f:=g) (by simpa[E.den,hy,AV.proj,TC]using Db) (λb hb=>q2 b (hg b hb)) .nil) rfl
 ·cases he
theorem zDv(h:BA P c n nx sl hp a sl0 hp0 o gs){x:Operand}{t:TypeId}(ho:o.op= .unOp .not t x)(he:BW P sg sl0 hp0 nv nx gs o=some e)(hc:∀q∈e.cc,Cn.den c.ρ q):AB P o c n nx sl hp gs a e:=by
 have hm:x∈o.op.operands:=by simp[ho,Op.operands]
 simp only[BW,ho,Av,As]at he;obtain⟨s,hs,y,hy,he⟩:=he;obtain⟨f,q1,_⟩:=H4 (h.cu hs hm) hy;split at he
 ·subst he;have hv:=IM q1 rfl;rename_i b;exact AB.pure h (v:= .bool (!b)) (by simp[execOp,ho,hv,Op.unary]) (.cy (.bool .nil)) rfl
 ·subst he;have hd:(y.den c.ρ).ek≠ .undef:=Ci hc;cases BN:y.den c.ρ<;>simp only[BN,AV.ek,ne_eq,not_true_eq_false]at hd;have hv:=IM q1 BN;rename_i b;exact AB.pure h (v:= .bool (!b)) (by simp[execOp,ho,hv,Op.unary]) (.cy (by simp only[E.den,BN,AV.ek];exact .bool .nil)) rfl
theorem zDJ(h:BA P c n nx sl hp a sl0 hp0 o gs){x:Operand}{t:TypeId}(ho:o.op= .unOp .neg t x)(he:BW P sg sl0 hp0 nv nx gs o=some e)(hc:∀q∈e.cc,Cn.den c.ρ q):AB P o c n nx sl hp gs a e:=by
 have hm:x∈o.op.operands:=by simp[ho,Op.operands]
 simp only[BW,ho,Av,As]at he;obtain⟨s,hs,y,hy,rfl⟩:=he;obtain⟨f,q1,_⟩:=H4 (h.cu hs hm) hy;have hd:(y.den c.ρ).ic≠ .undef:=Ci hc;cases BN:y.den c.ρ<;>simp only[BN,AV.ic,ne_eq,not_true_eq_false]at hd;rename_i k m;obtain⟨hv,_⟩:=F2 q1 BN;exact AB.pure h (v:= .int k (k.wrap (0-m))) (by simp[execOp,ho,hv,Op.unary,Op.intArith]) (.cy (by simp only[E.den,BN,AV.ic];exact .int (oD _ _) .nil)) rfl
theorem zzG{L:List Operand}{sl0:Nat->SV}{gs:Gd}(h:∀x s,BL sl0 gs x=some s->x∈L->SR c [s] [a.eval x]):∀{xs:List Operand} {ss:List SV},(∀x∈xs,x∈L)->xs.mapM (BL sl0 gs)=some ss->SR c ss (xs.map a.eval)
 | [],ss,_,hm=>by simp at hm;subst hm;exact .nil
 |x::xs,ss,hL,hm=>by rw[List.mapM_cons]at hm;simp only[Option.bind_eq_bind,Av]at hm;obtain⟨s,hs,ss',Gp,hm⟩:=hm;simp at hm;subst hm;exact(h x s hs (hL x (by simp))).app (zzG h (λy hy=>hL y (by simp[hy])) Gp)
theorem zuP(h:BA P c n nx sl hp a sl0 hp0 o gs){f:FuncId}{fst caps:Array Operand}(ho:o.op= .makeFunc (.func f) fst caps)(he:BW P sg sl0 hp0 nv nx gs o=some e):AB P o c n nx sl hp gs a e:=by
 simp only[BW,ho]at he;split at he
 ·rename_i hf;obtain⟨ss,Gp,rfl⟩:=As.1 he;have hf:fst= #[]:=by simpa using hf
  have r:=zzG (a:=a) (c:=c) (L:=caps.toList) (λx s hx hm=>h.cu hx (by simp only[ho,Op.operands,Array.mem_append];exact .inr (Array.mem_toList_iff.1 hm))) (λx hx=>hx) Gp;refine AB.pure h (v:= .func (.func f) #[] (caps.toList.map a.eval).toArray) ?_ (.fn (by rw[BP.ax];exact r) .nil) rfl;simp[execOp,ho,Instr.makeFunc,hf];apply Array.ext';simp
 ·cases he
end
section
variable {P:Program} {c:Cx} {n nx:Nat} {sl sl0:Nat->SV} {hp hp0:Nat->Option Af} {a:Act} {o:Oper} {gs:Gd} {e:Bb} {sg:B1} {nv:Nat}
theorem BA.jj(h:BA P c n nx sl hp a sl0 hp0 o gs){x:Operand}{s:SV}(hs:BL sl0 gs x=some s)(hm:x∈o.op.operands){y:E}(hy:BB hp0 gs A6 s=some y):
  ∃f,Rd c.w [a.eval x] [y.den c.ρ] f/\ ∀b∈f,c.dy (Ca hp0 gs (A6+1) [s]) b:=H8 h.eh h.gs A6 hy (h.cu hs hm) A6 (AJ _)
theorem zC0(h:BA P c n nx sl hp a sl0 hp0 o gs){x:Operand}{t:TypeId}{cl:Call}(ho:o.op= .call cl)(Ax:cl.callee= .builtin .len)(CW:cl.args.toList=[x])(DR:cl.argTypes.toList=[t])(he:BW P sg sl0 hp0 nv nx gs o=some e)(hc:∀q∈e.cc,Cn.den c.ρ q):AB P o c n nx sl hp gs a e:=by
 have Ah:cl.args= #[x]:=by apply Array.ext';simp[CW]
 have FR:cl.argTypes= #[t]:=by apply Array.ext';simp[DR]
 have hm:x∈o.op.operands:=by simp[ho,Op.operands,Call.operands,Ax,Ah]
 simp only[BW,ho,Ax,CW,DR,Av]at he;obtain⟨s,hs,he⟩:=he;unfold tY at he;have ex:(execOp a.eval o).run P c.w=((Builtin.len_ #[t] o.type #[a.eval x]).run P c.w).andThen λv w=> .ok (.value v) w:=by simp[execOp,ho,resolve,Ax,Ah,FR,invoke,builtin]
 split at he
 ·rename_i el hu;obtain⟨y,hy,rfl⟩:=As.1 he;obtain⟨f,q1,q2⟩:=h.jj hs hm hy;have hd:(y.den c.ρ).len≠ .undef:=Ci hc;cases BN:y.den c.ρ<;>simp only[BN,AV.len,ne_eq,not_true_eq_false]at hd;rename_i xs;have hl:(y.den c.ρ).len= .int .i64 (xs.length:Int):=by rw[BN];rfl
  have Ce:E4 .i64 (xs.length:Int):=by
   rw[PF];rcases q1.kind with hh|hh|hh|hh|hh|hh|hh|hh|hh|hh
   all_goals first
    |(obtain⟨_,_,_,hh,_⟩:=hh;rw[BN]at hh;cases hh;done)
    |(obtain⟨_,_,hh,_⟩:=hh;rw[BN]at hh;cases hh;done)
    |skip
   ·obtain⟨_,_,_,hh,_⟩:=hh;rw[BN]at hh;cases hh;simp[IntKind.min,IntKind.max,IntKind.signed,IntKind.bits]
   ·obtain⟨_,_,_,_,_,_,_,_,_,_,_,_,hh,_,_,_,hle,hlen,_⟩:=hh;rw[BN]at hh;cases hh;simp[IntKind.min,IntKind.max,IntKind.signed,IntKind.bits];omega
   all_goals first
    |(obtain⟨_,_,_,hh,_⟩:=hh;rw[BN]at hh;cases hh;done)
    |(obtain⟨_,_,_,_,_,_,_,hh,_⟩:=hh;rw[BN]at hh;cases hh;done)
    |(obtain⟨_,_,_,_,hh,_⟩:=hh;rw[BN]at hh;cases hh;done)
    |(obtain⟨_,hh,_⟩:=hh;rw[BN]at hh;cases hh;done)
  refine AB.pure h (v:= .int .i64 xs.length) ?_ (.cy (by simp only[E.den,BN,AV.len];exact .int Ce .nil)) rfl;rcases Sw q1 hl with⟨p,q,hv,Ck⟩|⟨b,o',k,q,hv,Ck⟩
  ·rw[ex,hv,Ck];simp[Builtin.len_,run_underlying hu,goInt]
  ·rw[ex,hv,Ck];simp[Builtin.len_,run_underlying hu,goInt]
 ·rename_i hu;obtain⟨y,hy,rfl⟩:=As.1 he;obtain⟨f,q1,q2⟩:=h.jj hs hm hy;have hd:(y.den c.ρ).slen≠ .undef:=Ci hc;cases BN:y.den c.ρ<;>simp only[BN,AV.slen,ne_eq,not_true_eq_false]at hd;obtain⟨bs,hv,rfl,hle⟩:=S4 q1 BN;refine AB.pure h (v:= .int .i64 bs.size) ?_ (.cy ?_) rfl
  ·rw[ex,hv];simp[Builtin.len_,run_underlying hu,goInt]
  ·simp only[E.den,BN,AV.slen];have:(bs.data.toList.length:Int)=(bs.size:Int):=by simp
   rw[this];refine .int ?_ .nil;rw[PF];simp[IntKind.min,IntKind.max,IntKind.signed,IntKind.bits];omega
 ·cases he
theorem zwd(h:BA P c n nx sl hp a sl0 hp0 o gs){x:Operand}{src dst:TypeId}{k0 k:IntKind}(ho:o.op= .convert src dst x)(h1:P.underlying src=some (.int k0))(h2:P.underlying dst=some (.int k))(he:BW P sg sl0 hp0 nv nx gs o=some e)(hc:∀q∈e.cc,Cn.den c.ρ q):AB P o c n nx sl hp gs a e:=by
 have hm:x∈o.op.operands:=by simp[ho,Op.operands]
 simp only[BW,ho,Av]at he;obtain⟨s,hs,he⟩:=he;simp only[Wn,h1,h2,As]at he;obtain⟨y,hy,rfl⟩:=he;obtain⟨f,q1,_⟩:=H4 (h.cu hs hm) hy;have hd:(y.den c.ρ).conv k≠ .undef:=Ci hc;cases BN:y.den c.ρ<;>simp only[BN,AV.conv,ne_eq,not_true_eq_false]at hd;rename_i k1 m;obtain⟨hv,_⟩:=F2 q1 BN;exact AB.pure h (v:= .int k (k.wrap m)) (by simp[execOp,ho,hv,convert,run_underlying h1,run_underlying h2,Conv.intToInt]) (.cy (by simp only[E.den,BN,AV.conv];exact .int (oD _ _) .nil)) rfl
theorem zvJ(h:BA P c n nx sl hp a sl0 hp0 o gs){x:Operand}{src dst:TypeId}(ho:o.op= .convert src dst x)(h1:P.underlying src=some .string)(h2:P.underlying dst=some .string)(he:BW P sg sl0 hp0 nv nx gs o=some e)(hc:∀q∈e.cc,Cn.den c.ρ q):AB P o c n nx sl hp gs a e:=by
 have hm:x∈o.op.operands:=by simp[ho,Op.operands]
 simp only[BW,ho,Av]at he;obtain⟨s,hs,he⟩:=he;simp only[Wn,h1,h2,As]at he;obtain⟨y,hy,rfl⟩:=he;obtain⟨f,q1,_⟩:=H4 (h.cu hs hm) hy;have hd:(y.den c.ρ).slen≠ .undef:=Ci hc;cases hl:y.den c.ρ<;>simp only[hl,AV.slen,ne_eq,not_true_eq_false]at hd;obtain⟨bs,hv,hle,dL⟩:=S4 q1 hl;exact AB.pure h (v:= .string bs) (by simp[execOp,ho,hv,convert,run_underlying h1,run_underlying h2]) (.cy (by rw[hl,hle];exact Rd.str dL .nil)) rfl
theorem tR{w:World}:∀{ys:List AV} {s:List UInt8} {cs:List Value} {f:List Nat},M1 ys=some s->Rd w cs (Aq ys) f-> ∃ns:List Int,cs=ns.map (Value.int .u8)/\s=ns.map (λn=>UInt8.ofNat n.toNat)/\ns.length=ys.length
 | [],s,cs,f,h,hr=>by have:Aq ([]:List AV)=[]:=rfl;rw[this]at hr;cases hr;cases h;exact⟨[],rfl,rfl,rfl⟩
 |y::ys,s,cs,f,h,hr=>by
  unfold M1 at h;split at h
  ·rename_i h0;cases h0
  ·rename_i n xs he;cases he;obtain⟨s',h1,rfl⟩:=As.1 h;have CB:Rd w cs (.int .u8 n::Aq ys) f:=by simpa[Aq,AV.cells]using hr
   cases CB with
   |int hk DV=>obtain⟨ns,rfl,rfl,hl⟩:=tR h1 DV;exact⟨n::ns,rfl,rfl,by simp[hl]⟩
  ·cases h
theorem zuv(h:BA P c n nx sl hp a sl0 hp0 o gs){x:Operand}{src dst el:TypeId}(ho:o.op= .convert src dst x)(h1:P.underlying src=some (.slice el))(h2:P.underlying dst=some .string)(he:BW P sg sl0 hp0 nv nx gs o=some e)(hc:∀q∈e.cc,Cn.den c.ρ q):AB P o c n nx sl hp gs a e:=by
 have hm:x∈o.op.operands:=by simp[ho,Op.operands]
 simp only[BW,ho,Av]at he;obtain⟨s,hs,he⟩:=he;simp only[Wn,h1,h2]at he;split at he
 ·rename_i hu;obtain⟨y,hy,rfl⟩:=As.1 he;obtain⟨f,q1,q2⟩:=h.jj hs hm hy;have hd:(y.den c.ρ).text≠ .undef:=Ci hc;cases BN:y.den c.ρ<;>simp only[BN,AV.text,ne_eq,not_true_eq_false]at hd;rename_i xs;split at hd
  ·rename_i t ht;split at hd
   ·rename_i hle;have Cp:(E.text y).den c.ρ= .str t:=by
     simp only[E.den,BN,AV.text,ht];rw[if_pos hle]
    have fin:∀ns:List Int,t=ns.map (λn=>UInt8.ofNat n.toNat)->ns.length=xs.length->(convert src dst (a.eval x)).run P c.w= .ok (.string (ns.foldl (λr n=>r.push (UInt8.ofNat n.toNat)) ByteArray.empty)) c.w->AB P o c n nx sl hp gs a {cc:=[.dfd (.text y)],val:= .e (.text y)}:=λns e1 e2 e3=>by
     have e4:(ns.foldl (λr n=>r.push (UInt8.ofNat n.toNat)) ByteArray.empty)=⟨t.toArray⟩:=by
      rw[foldl_push_bytes,e1];simp[ByteArray.empty,ByteArray.emptyWithCapacity]
      try rfl
     rw[e4]at e3;refine AB.pure h (v:= .string ⟨t.toArray⟩) (by simp[execOp,ho,e3]) (.cy ?_) rfl;rw[Cp];have Bz:(ByteArray.mk t.toArray).size<=9223372036854775807:=by simp only[ByteArray.size,List.size_toArray];rw[e1,List.length_map];omega
     have:=Rd.str (w:=c.w) (s:=⟨t.toArray⟩) Bz .nil;simpa using this
    rw[BN]at q1;rcases q1.kind with hh|hh|hh|hh|hh|hh|hh|hh|hh|hh
    all_goals first
     |(obtain⟨_,_,_,hh,_⟩:=hh;cases hh;done)
     |(obtain⟨_,_,hh,_⟩:=hh;cases hh;done)
     |skip
    ·obtain⟨p,q,hv,hx,_⟩:=hh;cases hx;cases ht;refine fin [] rfl rfl ?_;rw[hv];cases p with
     |none=>rw[run_convert_bytes_nil c.w src el h1 hu _ _ dst h2];rfl
     |some ad=>rw[run_convert_bytes_string c.w src dst el _ 0 q h1 hu h2,run_bytesToString c.w ad 0 q [] (by simp[loadCells,loadCellsFrom])]
    ·obtain⟨b,o',k,q,ys,cs,C,t',fz,sz,f1,hv,hx,_,hb,_,hle',hlen,_,_,By,hr⟩:=hh;cases hx;obtain⟨ns,rfl,e1,e2⟩:=tR ht hr.2;refine fin ns e1 e2 ?_;have hl:ns.length=k:=by omega
     have BY:∀i,i<k->c.w.cell? ⟨b,o'+i,none⟩=some (.int .u8 (ns.getD i 0)):=λi hi=>by
      have BR:i<ns.length:=by omega
      have:=By i (.int .u8 ns[i]) (by simp[BR]);rw[EA hb,this];simp[BR]
     have:=run_convert_bytes_arg c.w src el h1 hu b o' k q ns hl BY dst h2;rw[hv,this];congr 2;rw[foldl_push_bytes];simp[strOfNums,ByteArray.empty,ByteArray.emptyWithCapacity]
     try rfl
    all_goals first
     |(obtain⟨_,_,_,hh,_⟩:=hh;cases hh;done)
     |(obtain⟨_,_,_,_,_,_,_,hh,_⟩:=hh;cases hh;done)
     |(obtain⟨_,_,_,_,hh,_⟩:=hh;cases hh;done)
     |(obtain⟨_,hh,_⟩:=hh;cases hh;done)
   ·exact absurd rfl hd
  ·exact absurd rfl hd
 ·cases he
theorem zE{ρ:List AV}{x:E}{b:Bool}{gs:Gd}(h1:x.den ρ= .bool b)(h2:Bu ρ gs):Bu ρ ((x,b)::gs):=by
 intro g hg;rcases Ae.1 hg with rfl|hg
 ·exact h1
 ·exact h2 g hg
theorem zAe(h:BA P c n nx sl hp a sl0 hp0 o gs){x y z:Operand}(ho:o.op= .pick x y z)(he:BW P sg sl0 hp0 nv nx gs o=some e)(hc:∀q∈e.cc,Cn.den c.ρ q):AB P o c n nx sl hp gs a e:=by
 have Dz:x∈o.op.operands:=by simp[ho,Op.operands]
 have CM:y∈o.op.operands:=by simp[ho,Op.operands]
 have rK:z∈o.op.operands:=by simp[ho,Op.operands]
 simp only[BW,ho,Av]at he;obtain⟨s,hs,he⟩:=he;have hr:=h.cu hs Dz;split at he
 ·rename_i q;have ex:∀b,a.eval x= .bool b->(execOp a.eval o).run P c.w= .ok (.value (if b then a.eval y else a.eval z)) c.w:=λb hb=>by
   simp[execOp,ho,hb,asBool]
  obtain⟨f,q1⟩:∃f,Rd c.w [a.eval x] [q.den c.ρ] f:=by
   generalize a.eval x=v at hr;cases hr with
   |e h1 _ _=>exact⟨_,h1⟩
  unfold tB at he;split at he
  ·obtain⟨s',A5,rfl⟩:=As.1 he;exact AB.pure h (v:=a.eval y) (ex true (IM q1 rfl)) (h.cu A5 CM) rfl
  ·obtain⟨s',A5,rfl⟩:=As.1 he;exact AB.pure h (v:=a.eval z) (ex false (IM q1 rfl)) (h.cu A5 rK) rfl
  ·split at he
   ·rename_i y' z' hy hz;simp at he;subst he;simp only[Av]at hy hz;obtain⟨sy,hsy,hy⟩:=hy;obtain⟨sz,Bz,hz⟩:=hz;have hd:(q.den c.ρ).ek≠ .undef:=Ci hc;cases hq:q.den c.ρ<;>simp only[hq,AV.ek,ne_eq,not_true_eq_false]at hd;rename_i b;cases b with
    |true=>have r:=Zp (a:=a) hsy (λt ht=>by subst ht;rw[h.sl t CM];exact h.rel.cz t) (zE hq h.gs);obtain⟨f',g1,g2⟩:=H4 r hy;exact AB.pure h (v:=a.eval y) (ex true (IM q1 hq)) (.e (f:=f') (by simpa[E.den,hq,AV.cond]using g1) g2 .nil) rfl
    |false=>have r:=Zp (a:=a) Bz (λt ht=>by subst ht;rw[h.sl t rK];exact h.rel.cz t) (zE hq h.gs);obtain⟨f',g1,g2⟩:=H4 r hz;exact AB.pure h (v:=a.eval z) (ex false (IM q1 hq)) (.e (f:=f') (by simpa[E.den,hq,AV.cond]using g1) g2 .nil) rfl
   ·cases he
 ·cases he
end
section
variable {P:Program} {c:Cx} {n nx:Nat} {sl sl0:Nat->SV} {hp hp0:Nat->Option Af} {a:Act} {o:Oper} {gs:Gd} {e:Bb} {sg:B1} {nv:Nat}
theorem mD{w:World}{v:Value}{x:AV}{f:List Nat}(h:Rd w [v] [x] f)(h1:∀cs,x≠ .agg cs)(h2:∀cs,x≠ .tup cs):v.oneCell'=true:=by
 cases h<;>first
  |rfl
  |exact absurd rfl (h1 _)
  |exact absurd rfl (h2 _)
theorem one_cells{v:Value}(h:v.oneCell'=true):v.cells= #[v]:=by cases v<;>first|rfl|(simp[Value.oneCell']at h)
theorem ZD{t:TypeId}{s:SV}{v:Value}{cs:List SV}{ck:List Cn}(h:SR c [s] [v])(hc:Sz P t s=some (cs,ck))(hk:∀q∈ck,q.den c.ρ):
  SR c cs v.cells.toList/\(∀u∈v.cells.toList,u.oneCell'=true):=by
 unfold Sz at hc;split at hc
 ·split at hc
  ·simp at hc;obtain⟨rfl,rfl⟩:=hc;cases h with
   |agg h1 h2 _=>exact⟨by simpa[Value.cells]using h2,by simpa[Value.cells]using h1⟩
  ·rename_i x;simp at hc;obtain⟨rfl,rfl⟩:=hc;cases h with
   |e h1 h2 _=>
    obtain⟨as_,has,hl⟩:=Ci hk;obtain⟨vs,rfl,h3,h4⟩:=Kt h1 has;refine⟨?_,by simpa[Value.cells]using h3⟩;have hlen:=h4.len;have key:∀k,k<=as_.length->SR c ((List.range k).map λj=>SV.e (.fld x j 1 false)) (vs.take k):=by
     intro k
     induction k with
     |zero=>intro _;simpa using SR.nil
     |succ k ih=>
      intro hk;have Cq:k<as_.length:=by omega
      obtain⟨u,g,hu,hg,hr⟩:=h4.at (show as_[k]?=some as_[k] by simp[Cq])
      rw[List.range_succ,List.map_append,List.take_succ_eq_append_getElem (by omega)];refine(ih (by omega)).app ?_;have FT:vs[k]'(by omega)=u:=by simpa[show k<vs.length by omega]using hu
      rw[FT];exact .e (f:=g) (by simpa[E.den,AV.fld,has,AV.cells,Cq]using hr) (λb hb=>h2 b (hg b hb)) .nil
    have:=key as_.length (AJ _);rw[<-hlen,List.take_length,hlen,hl]at this;simpa[Value.cells]using this
  ·cases hc
 ·split at hc
  ·rename_i x;simp at hc;obtain⟨rfl,rfl⟩:=hc;cases h with
   |e h1 h2 _=>
    have hq:(∀cs,x.den c.ρ≠ .agg cs)/\ ∀cs,x.den c.ρ≠ .tup cs:=by
     cases x<;>first
      |exact(Ci hk:Cn.den c.ρ (.cells _ 1))
      |exact⟨by simp[E.den],by simp[E.den]⟩
    have GJ:=mD h1 hq.1 hq.2;rw[one_cells GJ];exact⟨.e h1 h2 .nil,by simpa using GJ⟩
  ·cases hc
  ·cases hc
  ·cases hc
  ·cases hc
  ·cases hc
  ·cases hc
  ·cases hc
  ·cases hc
  ·simp at hc;obtain⟨rfl,rfl⟩:=hc;have GJ:v.oneCell'=true:=by
    cases h<;>first|rfl|(rename_i hh _ _ _ _ _;exact absurd rfl (hh _))|skip
    all_goals first
     |rfl
     |exact(show∀(i:Nat),SV.lent _=SV.lent i->False from by assumption) _ rfl|>.elim
     |exact(show∀(t g n:Nat) (p:NZ) (x:E),SV.via _ _ _ _ _=SV.via t g n p x->False from by assumption) _ _ _ _ _ rfl|>.elim
     |exact(show∀(t g n:Nat) (p:NZ) (x i:E) (sz o:Nat),SV.vptr _ _ _ _ _ _ _ _=SV.vptr t g n p x i sz o->False from by assumption) _ _ _ _ _ _ _ _ rfl|>.elim
     |(exfalso;simp_all;done)
   rw[one_cells GJ];exact⟨h,by simpa using GJ⟩
theorem zGe(h:BA P c n nx sl hp a sl0 hp0 o gs)(ob:Obj)(hv:Value):M3 c (c.new nx ob hv []) nx:=
 ⟨rfl,rfl,rfl,rfl,λt ht=>ht.imp id (λhh=>by subst hh;exact⟨AJ _,by simp[BV]⟩)⟩
theorem Nr(h:BA P c n nx sl hp a sl0 hp0 o gs): ¬c.U nx:=h.new nx (AJ _) (by omega)
theorem AB.box(h:BA P c n nx sl hp a sl0 hp0 o gs){ty:TypeId}{g:Bool}{cs:List SV}{v:Value}{ck:List Cn}(hr:(execOp a.eval o).run P c.w= .ok (.value (.pointer (some ⟨c.w.heap.size,0,none⟩))) (c.w.alloc (.cells v.cells ty)))
  (hs:SR c cs v.cells.toList) (h1:∀u∈v.cells.toList,u.oneCell'=true):AB P o c n nx sl hp gs a {cc:=ck,val:= .cj nx 0,bk:=[(nx,CS gs (.box ty g cs))]}:=by
 intro next Q hk
 unfold Oper.wp;rw[hr,Oper.upon_value];have hU:=Nr h;have keep:DY c (c.new nx (.cells v.cells ty) (.pointer (some ⟨c.w.heap.size,0,none⟩)) []):=Cx.ga (λg hg=>hU (h.rel.bq _ _ hg));have hH:(c.new nx (.cells v.cells ty) (.pointer (some ⟨c.w.heap.size,0,none⟩)) []).H nx 0= .pointer (some ⟨c.w.heap.size,0,none⟩):=by simp[Cx.new]
 have hK:(c.new nx (.cells v.cells ty) (.pointer (some ⟨c.w.heap.size,0,none⟩)) []).K nx 0:= .inr ⟨rfl,rfl⟩;have hrel:=h.rel.new hU (.cells v.cells ty) (.pointer (some ⟨c.w.heap.size,0,none⟩)) (.box ty g cs) gs h.gs (by intros;simp)
  ⟨c.w.heap.size,v.cells,hK,hH,by simp[Cx.new],by simp[Cx.new],heap_alloc_new _ _,h1,hs.keep keep⟩
 exact hk _ _ (zGe h _ _) (hrel.put ((SR.cj hK hH .nil).mkGd gs h.gs) o.dst)
theorem zzf(h:BA P c n nx sl hp a sl0 hp0 o gs){t:TypeId}(ho:o.op= .alloc t)(he:BW P sg sl0 hp0 nv nx gs o=some e)(hc:∀q∈e.cc,Cn.den c.ρ q):AB P o c n nx sl hp gs a e:=by
 simp only[BW,ho,Av]at he;obtain⟨z,⟨i,hi,hz⟩,s,hs,⟨cs,ck⟩,By,he⟩:=he;split at he
 ·cases he
 ·split at he
  ·cases he
  ·rename_i Is;have Is:ck=[]:=by simpa using Is
   simp at he;subst he;have A5:Fc z=some s:=by simpa[uF,hi,hz]using hs
   obtain⟨q1,q2⟩:=ZD (ZH (c:=c) A5) By (by simp[Is]);refine AB.box h (v:=z) ?_ q1 q2;simp[execOp,ho,Instr.alloc,zeroValue,typeInfo,hi,hz,newVar,newRow]
theorem zDE(h:BA P c n nx sl hp a sl0 hp0 o gs){t:TypeId}{x:Operand}(ho:o.op= .box t x)(he:BW P sg sl0 hp0 nv nx gs o=some e)(hc:∀q∈e.cc,Cn.den c.ρ q):AB P o c n nx sl hp gs a e:=by
 have hm:x∈o.op.operands:=by simp[ho,Op.operands]
 simp only[BW,ho,Av]at he;obtain⟨s,hs,⟨cs,ck⟩,By,he⟩:=he;split at he
 ·cases he
 ·simp at he;subst he;obtain⟨q1,q2⟩:=ZD (h.cu hs hm) By hc;refine AB.box h (v:=a.eval x) ?_ q1 q2;simp[execOp,ho,Instr.box,newVar,newRow]
end
section
variable {P:Program} {c:Cx} {n nx:Nat} {sl sl0:Nat->SV} {hp hp0:Nat->Option Af} {a:Act} {o:Oper} {gs:Gd} {e:Bb} {sg:B1} {nv:Nat}
def setVs{α:Type}(cs:List α)(o:Nat)(vs:List α):List α:=cs.take o++vs++cs.drop (o+vs.length)
theorem Sj{α:Type}(cs vs:List α)(o:Nat)(h:o+vs.length<=cs.length)(i:Nat):(setVs cs o vs)[i]?=if o<=i/\i<o+vs.length then vs[i-o]? else cs[i]?:=by
 unfold setVs;have ht:(cs.take o).length=o:=by rw[Aw];omega
 rw[List.append_assoc];by_cases h1:i<o
 ·rw[if_neg (by omega),List.getElem?_append_left (by omega),List.getElem?_take,if_pos h1]
 ·rw[List.getElem?_append_right (by omega),ht];by_cases h2:i<o+vs.length
  ·rw[if_pos (by omega),List.getElem?_append_left (by omega)]
  ·rw[if_neg (by omega),List.getElem?_append_right (by omega),List.getElem?_drop];congr 1;omega
theorem Sp{α:Type}(cs vs:List α)(o:Nat)(h:o+vs.length<=cs.length):(setVs cs o vs).length=cs.length:=by simp[setVs];omega
theorem SR.setVs{cs vs:List SV}{C V:List Value}{k:Nat}(h:SR c cs C)(hv:SR c vs V):SR c (Td cs k vs) (Go.Proofs.YtalagilebkaegaaGreat.setVs C k V):=by unfold Td Go.Proofs.YtalagilebkaegaaGreat.setVs;have hl:=hv.len;rw[<-hl];exact((h.split k).1.app hv).app (h.split _).2
theorem zyx(vs:List Value):∀(k off:Nat) (C:Array Value),off+k+vs.length<=C.size->
  ((vs.zipIdx k).foldl (λcs (p:Value × Nat)=>cs.setIfInBounds (off+p.2) p.1) C).toList=setVs C.toList (off+k) vs:=by
 induction vs with
 |nil=>intro k off C _;simp[setVs]
 |cons v vs ih=>
  intro k off C h;simp only[A3]at h;simp only[List.zipIdx_cons,List.foldl_cons];rw[ih (k+1) off _ (by simp;omega)];apply List.ext_getElem?;intro i;rw[Sj _ _ _ (by simp;omega),Sj _ _ _ (by simp;omega)];simp only[Array.toList_setIfInBounds,List.getElem?_set,A3,BC];by_cases h1:i=off+k
  ·subst h1;rw[if_neg (by omega),if_pos rfl,if_pos (by omega),if_pos (by omega)];simp
  ·by_cases h2:off+(k+1)<=i/\i<off+(k+1)+vs.length
   ·rw[if_pos h2,if_pos (by omega),show i-(off+k)=(i-(off+(k+1)))+1 by omega,List.getElem?_cons_succ]
   ·rw[if_neg h2,if_neg (by omega),if_neg (by omega)]
theorem lM{b off:Nat}{t:TypeId}:∀(vs:List Value) (i:Nat) (w:World) (C:Array Value),w.heap[b]?=some (.cells C t (0,0))->off+i+vs.length<=C.size->(∀v∈vs,v.oneCell'=true)->
  (storeCells ⟨b,off,none⟩ vs i).run P w= .ok () (putCells w b (off+i) vs)
 | [],i,w,C,_,_,_=>by simp[storeCells,putCells]
 |v::vs,i,w,C,hb,hl,h1=>by
  simp only[A3]at hl;have hi:off+i<C.size:=by omega
  have BY:w.cell? ⟨b,off+i,none⟩=some C[off+i]:=by simp[World.cell?,hb,hi]
  have cU:w.frozen? ⟨b,off+i,none⟩=false:=by simp[World.frozen?,hb]
  have Em:(store ((⟨b,off,none⟩:Addr).add i) v).run P w= .ok () (w.setCell ⟨b,off+i,none⟩ v):=by rw[Addr.add_lit,run_store P w _ v _ (h1 v (by simp)),BY];simp[cU]
  have h2:=heap_setCell_same w b (off+i) C t v hb;have ih:=lM (off:=off) vs (i+1) (w.setCell ⟨b,off+i,none⟩ v) _ h2 (by simp;omega) (λx hx=>h1 x (by simp[hx]));simp only[storeCells,Sem.run_bind,Em,Result.andThen_ok,ih,putCells];rw[Nat.add_assoc]
theorem Zd{w:World}{b off:Nat}{t:TypeId}{vs:List Value}{C:Array Value}(hb:w.heap[b]?=some (.cells C t (0,0)))(hl:off+vs.length<=C.size):
  Mod [b] w (putCells w b off vs)/\(putCells w b off vs).heap[b]?=some (.cells (setVs C.toList off vs).toArray t (0,0))/\(putCells w b off vs).heap.size=w.heap.size:=by
 obtain⟨hm,C',h1,h2,h3,h4⟩:=lT vs w b off C t hb hl;refine⟨hm,?_,?_⟩
 ·rw[h1];congr 2;apply Array.ext';apply List.ext_getElem?;intro i;rw[Sj _ _ _ (by simpa using hl)];by_cases hi:off<=i/\i<off+vs.length
  ·rw[if_pos hi];have AH:i-off<vs.length:=by omega
   have:=h3 (i-off) vs[i-off] (by simp[AH]);rw[show off+(i-off)=i by omega]at this;rw[Array.getElem?_toList,this];simp[AH]
  ·rw[if_neg hi,Array.getElem?_toList,Array.getElem?_toList];exact h4 i (by omega)
 ·clear hm h1 h2 h3 h4 hl
  induction vs generalizing w off C with
  |nil=>rfl
  |cons v vs ih=>simp only[putCells];rw[ih (heap_setCell_same w b off C t v hb)];simp[World.setCell]
theorem lZ{w:World}{b off:Nat}{t ty:TypeId}{v:Value}{C:Array Value}(hb:w.heap[b]?=some (.cells C ty (0,0)))(ht:Du P t=true)(hs:v.cells.size=P.cellsOf t)(hl:off+v.cells.size<=C.size)(h1:∀u∈v.cells.toList,u.oneCell'=true):
  (Instr.storeAt t (.pointer (some ⟨b,off,none⟩)) v).run P w= .ok () (putCells w b off v.cells.toList):=by
 have:=lM (P:=P) (off:=off) v.cells.toList 0 w C hb (by simpa using hl) h1;simp only[Nat.add_zero]at this;simp[Instr.storeAt,Instr.sureAddr,storeVar,Pq ht,hs,this]
def Cx.wr(c:Cx)(w':World)(t:Nat):Cx:={c with w:=w',E:=λu=>if u=t then c.E u+1 else c.E u}
theorem Cx.gq{c:Cx}{w':World}{t b:Nat}(gw:GW c)(Cj:b∈(c.G t).top)(hm:Mod [b] c.w w'):DY c (c.wr w' t):=by
 have Be:b∈(c.G t).own:=by simp[GI.own,Cj]
 refine⟨rfl,rfl,λq _ hq=>hq,λq hq AZ=>hm.block q hq ?_,λu g hu=>⟨hu,rfl⟩,λu g hu=> ?_⟩
 ·simp only[List.mem_singleton];rintro rfl;exact AZ.1 ⟨t,Cj⟩
 ·by_cases GQ:u=t
  ·have e1:(c.wr w' t).E u=c.E u+1:=by simp only[Cx.wr,if_pos GQ]
   exact⟨by omega,λh=>by omega⟩
  ·have e1:(c.wr w' t).E u=c.E u:=by simp only[Cx.wr,if_neg GQ]
   rw[e1];refine⟨AJ _,λ_=>⟨rfl,λq hq I6=>hm.block q I6 ?_⟩⟩;simp only[List.mem_singleton];rintro rfl;exact gw.cq t u (Ne.symm GQ) q Be (by simp[GI.own,hq])
theorem Rel.write(h:Rel c n sl hp a){t:Nat}{e0:Af}{b:Nat}{w':World}(AO:CH c.ρ (hp t) e0)(Cj:b∈(c.G t).top)(hm:Mod [b] c.w w')(Bz:w'.heap.size=c.w.heap.size)(e1:Af)(BF:∀hs f,e1≠ .gd hs f)
  (he:Dv (c.wr w' t) t e1):Rel (c.wr w' t) n sl (Bk hp [(t,e1)]) a/\DY c (c.wr w' t):=by
 have Be:b∈(c.G t).own:=by simp[GI.own,Cj]
 have Cd:DY c (c.wr w' t):=Cx.gq h.gw Cj hm;have D4:∀u,Bk hp [(t,e1)] u=if u=t then some e1 else hp u:=λu=>rfl;refine⟨h.change (λu=>u=t) Cd ⟨hm.os.trans h.base.os,hm.tape.trans h.base.tape,hm.output.trans h.base.output,Nat.le_trans h.base.size hm.size,h.base.pins,λq hq Gg=> ?_,h.base.pk,h.base.lo⟩
  (λu hu=>⟨by rw[D4,if_neg hu],rfl,by simp[Cx.wr,hu],λg hg=>hg⟩) (λu hu q hq=>hm.block q (h.gw.inb u q (by simp[GI.own,hq])) ?_) (λu hu=> ?_) ⟨h.gw.nodup,h.gw.cq,h.gw.allow,λu q hq=> ?_⟩ h.bq (λu f hf=> ?_),Cd⟩
 ·refine(hm.block q (Nat.lt_of_lt_of_le hq h.base.size) ?_).trans (h.base.block q hq Gg);simp only[List.mem_singleton];rintro rfl;rcases h.gw.allow t q Be with hh|hh
  ·exact absurd hh (Nat.not_le.2 hq)
  ·exact Gg hh
 ·simp only[List.mem_singleton];rintro rfl;exact h.gw.cq t u (Ne.symm hu) q Be (by simp[GI.own,hq])
 ·subst hu;rw[D4,if_pos rfl];refine⟨λe' hr=> ?_,λhn=> ?_⟩
  ·cases e1<;>first
    |(simp only[CH]at hr;subst hr;exact he)
    |exact absurd rfl (BF _ _)
  ·cases e1<;>first
    |exact absurd rfl (BF _ _)
    |exact absurd rfl (hn _)
 ·show q<w'.heap.size;rw[Bz];exact h.gw.inb u q hq
 ·rw[D4]at hf;split at hf
  ·rename_i hu;subst hu;cases hh:hp u with
   |none=>rw[hh]at AO;exact AO.elim
   |some e9=>exact h.ct u e9 hh
  ·exact h.ct u f hf
end
section
variable {P:Program} {c:Cx} {n nx:Nat} {sl sl0:Nat->SV} {hp hp0:Nat->Option Af} {a:Act} {o:Oper} {gs:Gd} {e:Bb} {sg:B1} {nv:Nat}
theorem zuT(h:BA P c n nx sl hp a sl0 hp0 o gs){t:TypeId}{x y:Operand}(ho:o.op= .store t x y){b k:Nat}{s:SV}(hx:BL sl0 gs x=some (.cj b k))(hy:BL sl0 gs y=some s)
  (he:Ns P hp0 gs t (.cj b k) s=some e) (hc:∀q∈e.cc,Cn.den c.ρ q):AB P o c n nx sl hp gs a e:=by
 have r1:=h.cu hx (by simp[ho,Op.operands]);have r2:=h.cu hy (by simp[ho,Op.operands]);simp only[Ns]at he;split at he
 ·rename_i ty g cs vs ck hl By;split at he
  ·rename_i hh;obtain⟨Bn,hlen,hle,rfl⟩:=hh;simp at he;subst he;obtain⟨q1,q2⟩:=ZD r2 By hc;generalize hv:a.eval x=v at r1;cases r1 with
   |cj h1 h2 h3=>
    rename_i q;have Fw:=CJ hl h.gs;obtain⟨q',C,e1,e2,e3,e4,e5,e5',e6⟩:=h.eh b _ Fw;rw[h2]at e2;cases e2;have AO:CH c.ρ (hp b) (.box ty g cs):=by
     cases hh:hp0 b with
     |none=>rw[hh]at Fw;exact Fw.elim
     |some e9=>rw[h.hp b e9 hh];rwa[hh]at Fw
    have Oz:=e6.len;have dK:=q1.len;obtain⟨m1,m2,m3⟩:=Zd (vs:=(a.eval y).cells.toList) e5 (show k+_<=C.size by simp at Oz dK ⊢;omega);obtain⟨hrel,Cd⟩:=h.rel.write AO (by rw[e3];simp) m1 m3 (.box ty g (Td cs k vs)) (by intros;simp) (w':=putCells c.w q k (a.eval y).cells.toList) (by
     have Cq:DY c (c.wr (putCells c.w q k (a.eval y).cells.toList) b):=Cx.gq h.rel.gw (by rw[e3];simp) m1;refine⟨q,_,e1,h2,e3,e4,m2,?_,?_⟩
     ·intro u hu;simp only[List.toList_toArray]at hu;unfold setVs at hu;simp only[Ac]at hu;rcases hu with(hu|hu)|hu
      ·exact e5' u (Bt hu)
      ·exact q2 u hu
      ·exact e5' u (BO hu)
     ·simpa using(e6.setVs q1 (k:=k)).keep Cq)
    intro next Q hk
    unfold Oper.wp;have hr:(execOp a.eval o).run P c.w= .ok .skip (putCells c.w q k (a.eval y).cells.toList):=by have:=lZ (P:=P) (t:=t) (v:=a.eval y) (off:=k) e5 Bn (by simp at dK;omega) (by simp at Oz dK;omega) q2;simp[execOp,ho,hv,this]
    rw[hr,Oper.upon_skip];exact hk _ (c.wr (putCells c.w q k (a.eval y).cells.toList) b) ⟨rfl,rfl,rfl,rfl,λt ht=> .inl ht⟩ (hrel.put ((SR.undef .nil).mkGd []) o.dst)
  ·cases he
 ·cases he
theorem zxT{places:List (Nat × Nat)}{tys:List TypeId}:∀(ps:List (Nat × SV)) (vs:List (Nat × Value)) (cs:List SV) (C:Array Value) (r:List SV × List Cn),Uy P places tys ps cs=some r->(∀q∈r.2,q.den c.ρ)->
  ps.map (·.1)=vs.map (·.1)->SR c (ps.map (·.2)) (vs.map (·.2))->SR c cs C.toList->(∀u∈C.toList,u.oneCell'=true)->
  ∃C',Instr.fill (places.toArray[·]?) C vs=some C'/\SR c r.1 C'.toList/\ ∀u∈C'.toList,u.oneCell'=true
 | [],vs,cs,C,r,h,hk,he,_,hC,h1=>by
  have:vs=[]:=by simpa using he.symm
  subst this;simp[Uy]at h;subst h;exact⟨C,rfl,hC,h1⟩
 |(i,s)::ps,[],cs,C,r,h,hk,he,_,hC,h1=>by simp at he
 |(i,s)::ps,(j,v)::vs,cs,C,r,h,hk,he,hs,hC,h1=>by
  simp only[List.map_cons,List.cons.injEq]at he;obtain⟨rfl,he⟩:=he;simp only[List.map_cons]at hs;obtain⟨BM,A8⟩:=hs.cf;unfold Uy at h;split at h
  ·rename_i off sz t Gn Bn;split at h
   ·rename_i us ck By;split at h
    ·rename_i hh;obtain⟨Bz,hle⟩:=hh;obtain⟨r',CB,rfl⟩:=As.1 h;obtain⟨q1,q2⟩:=ZD BM By (λq hq=>hk q (by simp[hq]));have I5:=q1.len;have Iz:=hC.len;have Mz:(v.cells.zipIdx.foldl (λcs (p:Value × Nat)=>cs.setIfInBounds (off+p.2) p.1) C).toList=setVs C.toList off v.cells.toList:=by
      have:=zyx v.cells.toList 0 off C (by simp at I5 Iz ⊢;omega);rw[<-Array.foldl_toList,Array.toList_zipIdx];simpa using this
     obtain⟨C',g1,g2,g3⟩:=zxT ps vs (Td cs off us) (v.cells.zipIdx.foldl (λcs (p:Value × Nat)=>cs.setIfInBounds (off+p.2) p.1) C) r' CB (λq hq=>hk q (by simp[hq])) he A8 (by rw[Mz];exact hC.setVs q1) (by
      rw[Mz];intro u hu;unfold setVs at hu;simp only[Ac]at hu;rcases hu with(hu|hu)|hu
      ·exact h1 u (Bt hu)
      ·exact q2 u hu
      ·exact h1 u (BO hu))
     refine⟨C',?_,g2,g3⟩;unfold Instr.fill;have eH:places.toArray[i]?=some (off,sz):=by simpa using Gn
     simp only[eH];rw[if_neg (by simp at I5 Iz ⊢;omega)];exact g1
    ·cases h
   ·cases h
  ·cases h
theorem ZC{sl0:Nat->SV}{gs:Gd}(L:List Operand)(h:∀x s,BL sl0 gs x=some s->x∈L->SR c [s] [a.eval x]):∀{xs:List (Nat × Operand)} {ss:List (Nat × SV)},(∀x∈xs,x.2∈L)->xs.mapM (λ(p:Nat × Operand)=>(BL sl0 gs p.2).map λs=>(p.1,s))=some ss->
  ss.map (·.1)=xs.map (·.1)/\SR c (ss.map (·.2)) (xs.map λp=>a.eval p.2)
 | [],ss,_,hm=>by simp at hm;subst hm;exact⟨rfl, .nil⟩
 |x::xs,ss,hL,hm=>by rw[List.mapM_cons]at hm;simp only[Option.bind_eq_bind,Av,As]at hm;obtain⟨_,⟨s,hs,rfl⟩,ss',Gp,hm⟩:=hm;simp at hm;subst hm;obtain⟨e1,e2⟩:=ZC L h (λy hy=>hL y (by simp[hy])) Gp;exact⟨by simp[e1],(h _ s hs (hL x (by simp))).app e2⟩
theorem zyZ(h:BA P c n nx sl hp a sl0 hp0 o gs){t:TypeId}{parts:Array (Nat × Operand)}(ho:o.op= .build t parts)(he:BW P sg sl0 hp0 nv nx gs o=some e)(hc:∀q∈e.cc,Cn.den c.ρ q):AB P o c n nx sl hp gs a e:=by
 simp only[BW,ho,Av]at he;obtain⟨ps,ML,he⟩:=he;obtain⟨e1,e2⟩:=ZC (c:=c) (a:=a) (parts.toList.map (·.2)) (λx s hx hm=>h.cu hx (by simpa[ho,Op.operands]using hm)) (λx hx=>List.mem_map.2 ⟨x,hx,rfl⟩) ML;unfold zyq at he;split at he
 ·rename_i it fs ME hu;split at he
  ·rename_i zs places hz Gn;obtain⟨r,hr,rfl⟩:=As.1 he;obtain⟨z,Xh,Xi⟩:=Av.1 hz;have sF:=ZH (c:=c) Xi;obtain⟨cells,g1,g2,g3⟩:=zxT (c:=c) (P:=P) ps (parts.toList.map λp=>(p.1,a.eval p.2)) zs.toList z.cells r hr hc (by rw[e1];simp) (by rw[List.map_map];exact e2)
    (by cases sF with|agg h1 h2 _=>simpa[Value.cells]using h2) (by cases sF with|agg h1 h2 _=>simpa[Value.cells]using h1)
   have hb:P.built t (parts.map λ(x:Nat × Operand)=>(x.1,a.eval x.2)).toList=some cells:=by simp only[Program.built,ME,hu,Xh,Gn];simpa using g1
   have:=SR.agg (c:=c) (cs:=BP.of r.1) (as_:=cells.toList) g3 (by rw[BP.ax];exact g2) .nil;refine AB.pure h (v:= .agg cells) ?_ (by simpa using this) rfl;have AQ:=run_build c.w t _ cells hb;simp only[execOp,ho,Sem.run_bind];rw[AQ];rfl
  ·cases he
 ·cases he
end
section
variable {P:Program} {c:Cx} {n nx:Nat} {sl sl0:Nat->SV} {hp hp0:Nat->Option Af} {a:Act} {o:Oper} {gs:Gd} {e:Bb} {sg:B1} {nv:Nat}
def Cx.bu(c:Cx)(ts:List Nat):Cx:={c with G:=λu=>if u∈ts then⟨[],[]⟩else c.G u,E:=λu=>if u∈ts then c.E u+1 else c.E u}
theorem Cx.ij{c:Cx}{ts:List Nat}{b:Nat}(h:(c.bu ts).M b):∃u,u∉ts/\b∈(c.G u).top:=by
 obtain⟨u,hu⟩:=h;simp only[Cx.bu]at hu;split at hu
 ·simp at hu
 ·exact⟨u,by assumption,hu⟩
theorem Cx.ej{c:Cx}{ts:List Nat}{b:Nat}(h:c.ok b):(c.bu ts).ok b:=⟨λhm=>by obtain⟨u,_,hu⟩:=Cx.ij hm;exact h.1 ⟨u,hu⟩,h.2⟩
theorem Cx.ja(c:Cx)(ts:List Nat):DY c (c.bu ts):=⟨rfl,rfl,λ_ _ h=>Cx.ej h,λ_ _ _=>rfl,λ_ _ h=>⟨h,rfl⟩,λt g _=>by
 by_cases ht:t∈ts
 ·have e1:(c.bu ts).E t=c.E t+1:=by simp only[Cx.bu,if_pos ht]
  exact⟨by omega,λh=>by omega⟩
 ·have e1:(c.bu ts).E t=c.E t:=by simp only[Cx.bu,if_neg ht]
  have e2:(c.bu ts).G t=c.G t:=by simp only[Cx.bu,if_neg ht]
  rw[e1];exact⟨AJ _,λ_=>⟨e2,λ_ _ _=>rfl⟩⟩⟩
theorem zz2{c:Cx}(gw:GW c){ts us:List Nat}(hs:∀t∈us,t∈ts){b:Nat}(h:c.dy us b):(c.bu ts).ok b:=by
 rcases h with h|⟨t,ht,hb⟩
 ·exact Cx.ej h
 ·have Be:b∈(c.G t).own:=by simp[GI.own,hb]
  refine⟨λhm=> ?_, .inr (gw.allow t b Be)⟩;obtain⟨u,hu,Ir⟩:=Cx.ij hm;have:t≠u:=λhh=>hu (hh▸hs t ht);exact gw.cq t u this b Be (by simp[GI.own,Ir])
def L9(e:Af)(g:Nat)(x:E):Prop:=(∃ety sz d,e= .row ety sz g x d)\/ ∃ety sz l ep,e= .deep ety sz l g ep x
theorem L9.ne{e:Af}{g:Nat}{x:E}(h:L9 e g x):∀hs f,e≠ .gd hs f:=by rcases h with⟨_,_,_,rfl⟩|⟨_,_,_,_,rfl⟩<;>intros<;>simp
theorem L9.rd{e:Af}{g t:Nat}{x:E}(h:L9 e g x)(k:Dv c t e):c.K t g/\ ∃f,Rd c.w [c.H t g] [x.den c.ρ] f/\ ∀b∈f,b∈(c.G t).top\/c.ok b:=by
 rcases h with⟨_,_,_,rfl⟩|⟨_,_,_,_,rfl⟩
 ·obtain⟨q1,q2,N,q3,q4,_⟩:=k;obtain⟨f,r1,r2,_⟩:=q3.rd;exact⟨q1,f,r1,λb hb=>(r2 b hb).imp id (q4 b)⟩
 ·obtain⟨q1,q2,_,q3,_⟩:=k;obtain⟨f,r1,r2⟩:=q3.rd;exact⟨q1,f,r1,λb hb=> .inl (r2 b hb)⟩
theorem L9.fun{e:Af}{g g':Nat}{x x':E}(h:L9 e g x)(k:L9 e g' x'):g=g'/\x=x':=by rcases h with⟨_,_,_,rfl⟩|⟨_,_,_,_,rfl⟩<;>rcases k with⟨_,_,_,hh⟩|⟨_,_,_,_,hh⟩<;>cases hh<;>exact⟨rfl,rfl⟩
theorem Pn{gs:Gd}{ρ:List AV}(k:Bu ρ gs):∀{ts:List Nat} {l:List (Nat × Af)},DX hp0 gs ts=some l->
  (∀t e,(t,e)∈l->t∈ts/\gs=[]/\ ∃g x f,e= .bu g x/\CH ρ (hp0 t) f/\L9 f g x)/\
  (∀t∈ts,(∃g x,(t,Af.bu g x)∈l)\/(∃g x,CH ρ (hp0 t) (.bu g x))\/ ∃ty g cs,CH ρ (hp0 t) (.box ty g cs))
 | [],l,h=>by simp[DX]at h;subst h;simp
 |t::ts,l,h=>by
  unfold DX at h;split at h
  ·rename_i ety sz g x d l' hl BH;split at h
   ·rename_i hg;simp at h;subst h;obtain⟨h1,h2⟩:=Pn k BH;refine⟨λu e hu=> ?_,λu hu=> ?_⟩
    ·rcases Ae.1 hu with hu|hu
     ·cases hu;exact⟨by simp,by simpa using hg,g,x,_,rfl,CJ hl k, .inl ⟨_,_,_,rfl⟩⟩
     ·obtain⟨p,q,r⟩:=h1 u e hu;exact⟨by simp[p],q,r⟩
    ·rcases Ae.1 hu with rfl|hu
     ·exact .inl ⟨g,x,by simp⟩
     ·rcases h2 u hu with⟨g',x',hh⟩|hh
      ·exact .inl ⟨g',x',by simp[hh]⟩
      ·exact .inr hh
   ·cases h
  ·rename_i ety sz dl g ep x l' hl BH;split at h
   ·rename_i hg;simp at h;subst h;obtain⟨h1,h2⟩:=Pn k BH;refine⟨λu e hu=> ?_,λu hu=> ?_⟩
    ·rcases Ae.1 hu with hu|hu
     ·cases hu;exact⟨by simp,by simpa using hg,g,x,_,rfl,CJ hl k, .inr ⟨_,_,_,_,rfl⟩⟩
     ·obtain⟨p,q,r⟩:=h1 u e hu;exact⟨by simp[p],q,r⟩
    ·rcases Ae.1 hu with rfl|hu
     ·exact .inl ⟨g,x,by simp⟩
     ·rcases h2 u hu with⟨g',x',hh⟩|hh
      ·exact .inl ⟨g',x',by simp[hh]⟩
      ·exact .inr hh
   ·cases h
  ·rename_i g x l' hl BH;simp at h;subst h;obtain⟨h1,h2⟩:=Pn k BH;refine⟨λu e hu=> ?_,λu hu=> ?_⟩
   ·obtain⟨p,q,r⟩:=h1 u e hu;exact⟨by simp[p],q,r⟩
   ·rcases Ae.1 hu with rfl|hu
    ·exact .inr (.inl ⟨g,x,CJ hl k⟩)
    ·exact h2 u hu
  ·rename_i ty g cs l' hl BH;simp at h;subst h;obtain⟨h1,h2⟩:=Pn k BH;refine⟨λu e hu=> ?_,λu hu=> ?_⟩
   ·obtain⟨p,q,r⟩:=h1 u e hu;exact⟨by simp[p],q,r⟩
   ·rcases Ae.1 hu with rfl|hu
    ·exact .inr (.inr ⟨ty,g,cs,CJ hl k⟩)
    ·exact h2 u hu
  ·cases h
theorem L2{hp:Nat->Option Af}:∀{l:List (Nat × Af)} {t:Nat},(∀e,(t,e)∉l)->Bk hp l t=hp t
 | [],_,_=>rfl
 |(u,e)::l,t,h=>by
  have ht:t≠u:=by rintro rfl;exact h e (by simp)
  have:=L2 (hp:=λv=>if v=u then some e else hp v) (l:=l) (t:=t) (λe' E7=>h e' (by simp[E7]));simp only[Bk,List.foldl_cons]at this ⊢;rw[this,if_neg ht]
theorem oL{hp:Nat->Option Af}:∀{l:List (Nat × Af)} {t:Nat} {e:Af},(t,e)∈l->(∀e',(t,e')∈l->e'=e)->Bk hp l t=some e
 | [],_,_,h,_=>by simp at h
 |(u,f)::l,t,e,h,hu=>by
  simp only[Bk,List.foldl_cons];by_cases hm:∃e',(t,e')∈l
  ·obtain⟨e',E7⟩:=hm;have:=hu e' (by simp[E7]);subst this;exact oL (hp:=λv=>if v=u then some f else hp v) E7 (λe'' h''=>hu e'' (by simp[h'']))
  ·have hn:∀e',(t,e')∉l:=λe' E7=>hm ⟨e',E7⟩;have:=L2 (hp:=λv=>if v=u then some f else hp v) (l:=l) (t:=t) hn;simp only[Bk]at this;rw[this];rcases Ae.1 h with h|h
   ·cases h;simp
   ·exact absurd h (hn e)
theorem Mb(hs:∀t e,hp0 t=some e->hp t=some e){ρ:List AV}{t:Nat}{e:Af}(h:CH ρ (hp0 t) e):CH ρ (hp t) e:=by
 cases hh:hp0 t with
 |none=>rw[hh]at h;exact h.elim
 |some e9=>rw[hs t e9 hh];rwa[hh]at h
theorem zFg{ρ:List AV}{o:Option Af}{e f:Af}(h:CH ρ o e)(k:CH ρ o f):e=f:=by
 cases o with
 |none=>exact h.elim
 |some o=>
  cases o with
  |gd gs x=>exact h.2.symm.trans k.2
  |box=>exact h.symm.trans k
  |row=>exact h.symm.trans k
  |bu=>exact h.symm.trans k
  |dead=>exact h.symm.trans k
  |deep=>exact h.symm.trans k
  |hol=>exact h.symm.trans k
  |pre=>exact h.symm.trans k
theorem Rel.freeze(h:Rel c n sl hp a)(hs:∀t e,hp0 t=some e->hp t=some e)(k:Bu c.ρ gs){ts:List Nat}{l:List (Nat × Af)}(hf:DX hp0 gs ts=some l):
  Rel (c.bu (l.map (·.1))) n sl (Bk hp l) a:=by
 obtain⟨h1,h2⟩:=Pn k hf;have hG:∀u,(c.bu (l.map (·.1))).G u=if u∈l.map (·.1)then⟨[],[]⟩else c.G u:=λu=>rfl;have JY:∀t e e',(t,e)∈l->(t,e')∈l->e'=e:=by intro t e e' he E7;obtain⟨_,_,g,x,_,rfl,r,rl⟩:=h1 t e he;obtain⟨_,_,g',x',_,rfl,r',rl'⟩:=h1 t e' E7;have:=zFg r r';subst this;obtain⟨rfl,rfl⟩:=rl.fun rl';rfl
 refine h.change (λu=>u∈l.map (·.1)) (Cx.ja c _) ⟨h.base.os,h.base.tape,h.base.output,h.base.size,h.base.pins,h.base.block,h.base.pk,h.base.lo⟩ (λu hu=>⟨L2 (λe he=>hu (List.mem_map.2 ⟨_,he,rfl⟩)),by rw[hG,if_neg hu],by simp only[Cx.bu,if_neg hu],λg hg=>hg⟩) (λu hu b hb=>rfl) (λu hu=> ?_) ?_ h.bq (λu e hu=> ?_)
 ·obtain⟨⟨u',e⟩,he,rfl⟩:=List.mem_map.1 hu;have D4:=oL (hp:=hp) he (λe' E7=>JY _ _ _ he E7);obtain⟨_,_,g,x,f0,rfl,r,rl⟩:=h1 u' e he;obtain⟨q1,f,r1,r2⟩:=rl.rd (h.ents u' _ (Mb hs r));have Lm:((c.bu (l.map (·.1))).G u').top=[]/\((c.bu (l.map (·.1))).G u').O=[]:=by rw[hG,if_pos hu];simp
  rw[D4];refine⟨λe' hr=> ?_,λ_=>Lm⟩;have:e'= .bu g x:=hr.symm;subst this;exact⟨q1,⟨f,r1,λb hb=>by
   refine zz2 h.gw (ts:=l.map (·.1)) (us:=[u']) (by simpa using hu) ?_;rcases r2 b hb with hb|hb
   ·exact .inr ⟨u',by simp,hb⟩
   ·exact .inl hb⟩,Lm.1,Lm.2⟩
 ·refine⟨λu=> ?_,λu v eY b hb=> ?_,λu b hb=> ?_,λu b hb=> ?_⟩
  ·rw[hG];split
   ·simp[GI.own]
   ·exact h.gw.nodup u
  ·rw[hG]at hb ⊢;split at hb
   ·simp[GI.own]at hb
   ·split
    ·simp[GI.own]
    ·exact h.gw.cq u v eY b hb
  ·rw[hG]at hb;split at hb
   ·simp[GI.own]at hb
   ·exact h.gw.allow u b hb
  ·rw[hG]at hb;split at hb
   ·simp[GI.own]at hb
   ·exact h.gw.inb u b hb
 ·by_cases hm:∃e',(u,e')∈l
  ·obtain⟨e',E7⟩:=hm;obtain⟨_,_,g,x,f0,rfl,r,rl⟩:=h1 u e' E7;have r':=Mb hs r;cases hh:hp u with
   |none=>rw[hh]at r';exact r'.elim
   |some e9=>exact h.ct u e9 hh
  ·rw[L2 (λe' E7=>hm ⟨e',E7⟩)]at hu;exact h.ct u e hu
theorem zzA{ts:List Nat}(h:NX hp0 gs ts=true){t:Nat}(ht:t∈ts){ty:Nat}{g:Bool}{cs:List SV}:Di hp0 gs t≠some (.box ty g cs):=by intro hl;simp only[NX,Bg,List.any_eq_false]at h;have:=h t ht;rw[hl]at this;simp at this
theorem zw9{ρ:List AV}(k:Bu ρ gs){ts:List Nat}{l:List (Nat × Af)}(hf:DX hp0 gs ts=some l){t:Nat}(ht:t∈ts):(∃g x,(t,Af.bu g x)∈l)\/(∃g x,Di hp0 gs t=some (.bu g x))\/ ∃ty g cs,Di hp0 gs t=some (.box ty g cs):=by
 induction ts generalizing l with
 |nil=>simp at ht
 |cons u ts ih=>
  unfold DX at hf;split at hf
  ·rename_i ety sz g x d l' hl BH;split at hf
   ·simp at hf;subst hf;rcases Ae.1 ht with rfl|ht
    ·exact .inl ⟨g,x,by simp⟩
    ·rcases ih BH ht with⟨g',x',hh⟩|hh
     ·exact .inl ⟨g',x',by simp[hh]⟩
     ·exact .inr hh
   ·cases hf
  ·rename_i ety sz dl g ep x l' hl BH;split at hf
   ·simp at hf;subst hf;rcases Ae.1 ht with rfl|ht
    ·exact .inl ⟨g,x,by simp⟩
    ·rcases ih BH ht with⟨g',x',hh⟩|hh
     ·exact .inl ⟨g',x',by simp[hh]⟩
     ·exact .inr hh
   ·cases hf
  ·rename_i g x l' hl BH;simp at hf;subst hf;rcases Ae.1 ht with rfl|ht
   ·exact .inr (.inl ⟨g,x,hl⟩)
   ·exact ih BH ht
  ·rename_i ty g cs l' hl BH;simp at hf;subst hf;rcases Ae.1 ht with rfl|ht
   ·exact .inr (.inr ⟨ty,g,cs,hl⟩)
   ·exact ih BH ht
  ·cases hf
theorem VM(h:Rel c n sl hp a)(eh:EH c hp0)(k:Bu c.ρ gs){ts:List Nat}{l:List (Nat × Af)}(hf:DX hp0 gs ts=some l)(hb:NX hp0 gs ts=true){b:Nat}(hs:c.dy ts b):(c.bu (l.map (·.1))).ok b:=by
 rcases hs with hs|⟨t,ht,CL⟩
 ·exact Cx.ej hs
 ·rcases zw9 k hf ht with⟨g,x,hh⟩|⟨g,x,hh⟩|⟨ty,g,cs,hh⟩
  ·exact zz2 h.gw (us:=[t]) (by simpa using⟨_,hh⟩) (.inr ⟨t,by simp,CL⟩)
  ·obtain⟨_,_,Cj,_⟩:=eh t _ (CJ hh k);rw[Cj]at CL;simp at CL
  ·exact absurd hh (zzA hb ht)
theorem xP(h:Rel c n sl hp a)(hs:∀t e,hp0 t=some e->hp t=some e)(k:Bu c.ρ gs){t:TypeId}{s:SV}{v:Value}(hr:SR c [s] [v]){x:E}{fz:List (Nat × Af)}{d:Bool}{ck:List Cn}(ht:bF P hp0 gs t s=some (x,fz,d,ck))(hc:∀q∈ck,q.den c.ρ):
  ∃f,Rd c.w [v] [x.den c.ρ] f/\(d=true->f=[])/\(∃ts,DX hp0 gs ts=some fz/\ ∀b∈f,(c.bu (fz.map (·.1))).ok b)/\
   (if Ao P t then∃cs,x.den c.ρ= .agg cs/\cs.length=P.cellsOf t else(∀cs,x.den c.ρ≠ .agg cs)/\ ∀cs,x.den c.ρ≠ .tup cs):=by
 have eh:EH c hp0:=λt e hr=>h.ents t e (Mb hs hr);unfold bF at ht;split at ht
 ·cases ht
 ·rename_i y hy;obtain⟨f,q1,q2⟩:=H8 eh k A6 hy hr A6 (AJ _);split at ht
  ·simp at ht;obtain⟨rfl,rfl,rfl,rfl⟩:=ht;obtain⟨c1,c2,c3,c4⟩:=Ci hc;have hf:f=[]:=by
    cases hg:Ao P t with
    |true=>obtain⟨cs,By⟩:=c3 hg;obtain⟨as_,rfl,_,r⟩:=Kt q1 By;exact Hw r (by rw[By]at c2;exact c2)
    |false=>exact Hw q1 (by simpa using c4 hg)
   subst hf;refine⟨[],q1,λ_=>rfl,⟨[],rfl,by simp⟩,?_⟩;split
   ·rename_i hg;obtain⟨cs,By⟩:=c3 hg;exact⟨cs,By,by rw[By]at c1;exact c1⟩
   ·rename_i hg;have:=c4 (by simpa using hg);exact⟨λcs By=>by rw[By]at this;simp[AV.scalar]at this,λcs By=>by rw[By]at this;simp[AV.scalar]at this⟩
  ·split at ht
   ·rename_i IB;split at ht
    ·cases ht
    ·rename_i l hl;simp only[Ad,AX]at ht;obtain⟨rfl,rfl,rfl,rfl⟩:=ht;refine⟨f,q1,by simp,⟨_,hl,λb hb=>VM h eh k hl IB (q2 b hb)⟩,?_⟩;have hq:=Ci hc;unfold uT at hq;split
     ·rename_i hg;rw[if_pos hg]at hq;obtain⟨cs,By,hl⟩:=hq;exact⟨cs,By,hl⟩
     ·rename_i hg;rw[if_neg hg]at hq;exact hq
   ·cases ht
end
section
variable {P:Program} {c:Cx} {n nx:Nat} {sl sl0:Nat->SV} {hp hp0:Nat->Option Af} {a:Act} {o:Oper} {gs:Gd} {e:Bb} {sg:B1} {nv:Nat}
theorem SH(w:World)(t ty el:TypeId)(i:TypeInfo)(z:Value)(ht:P.underlying t=some (.slice el))(hi:P.info? el=some i)(hz:i.zero=some z)(CY:z.cells.size=i.size)(Bz:0<i.size)
  (Own:Nat->Prop) (v:Value) (k:Nat) (old:List Value) (ho:old.length=k*i.size)
  (AY:(k=0/\ ∃q,v= .slice q 0 0)\/ ∃g cap C,v= .slice (some ⟨g,0,none⟩) k cap/\k<=cap/\cap<=maxLen/\w.heap[g]?=some (.cells C el (0,0))/\C.size=cap*i.size/\old=C.toList.take (k*i.size)/\Own g)
  (q:Option Addr) (m r:Nat) (news:List Value) (hs:Src w i.size q m news) (WQ:k+m<=maxLen) (hb:(k+m)*i.bytes<=140737488355328):
  ∃v' w',(Builtin.append_ #[t,t] ty #[v, .slice q m r]).run P w= .ok v' w'/\
   ((v'=v/\w'=w/\m=0)\/ ∃g cap C,v'= .slice (some ⟨g,0,none⟩) (k+m) cap/\k+m<=cap/\cap<=maxLen/\w'.heap[g]?=some (.cells C el (0,0))/\C.size=cap*i.size/\C.toList.take ((k+m)*i.size)=old++news/\
    w.grownBy w' (some g)/\((g=w.heap.size/\g<w'.heap.size)\/Own g)):=by
 have JR:news.length=m*i.size:=by
  rcases hs with⟨rfl,rfl,rfl⟩|⟨ad,rfl,h1,_⟩
  ·simp
  ·exact h1
 have hlen:(old++news).length=(k+m)*i.size:=by rw[AP,ho,JR,Nat.add_mul]
 have grown:∀(cp:Nat),cp<k+m-> ∀(X:Array Value),X.toList=old++news-> ∃C,C=X++Builtin.zeroCells z.cells (grownCap w (k+m) cp el-(k+m))/\
   k+m<=grownCap w (k+m) cp el/\grownCap w (k+m) cp el<=maxLen/\C.size=grownCap w (k+m) cp el*i.size/\C.toList.take ((k+m)*i.size)=old++news:=by
  intro cp hcp X hX;have Qb:=grownCap_ge w (k+m) cp el;have FZ:=grownCap_le_maxLen w (k+m) cp el WQ;refine⟨_,rfl,Qb,FZ,?_,?_⟩
  ·have hXs:X.size=(k+m)*i.size:=by rw[<-BC,hX,hlen]
   rw[Array.size_append,hXs,size_zeroCells,CY,<-Nat.add_mul];congr 1;omega
  ·rw[Array.toList_append,hX,<-hlen];exact List.take_left
 have newb:∀C:Array Value,w.grownBy (w.drew.alloc (.cells C el)) (some w.heap.size)/\w.heap.size<(w.drew.alloc (.cells C el)).heap.size/\(w.drew.alloc (.cells C el)).heap[w.heap.size]?=some (.cells C el (0,0)):=
  λC=>⟨⟨rfl,rfl,rfl,by simp,λj hj _=>Below.heap_alloc w.drew _ _ hj⟩,by simp,heap_alloc_new w.drew _⟩
 rcases AY with⟨rfl,p,rfl⟩|⟨g,cap,C,rfl,Lt,FZ,hg,By,hold,bT⟩
 ·have hold:old=[]:=List.eq_nil_of_length_eq_zero (by simpa using ho);subst hold;by_cases hm:m=0
  ·subst hm;have hn:news=[]:=List.eq_nil_of_length_eq_zero (by simpa using JR);subst hn;refine⟨_,w,?_, .inl ⟨rfl,rfl,rfl⟩⟩;rcases hs with⟨rfl,_,_⟩|⟨ad,rfl,_⟩<;>cases p<;>
    simp[Builtin.append_,run_underlying ht,sizeOf,typeInfo,hi,Builtin.lenOf,Builtin.firstCells,loadCells,loadCellsFrom,storeCells]
  ·rcases hs with⟨_,rfl,_⟩|⟨ad,rfl,h1,h2,h3⟩
   ·exact absurd rfl hm
   ·obtain⟨C',P5,g1,g2,g3,g4⟩:=grown 0 (by omega) news.toArray (by simp);cases p with
    |none=>have hr:=run_append_nil (P:=P) w t ty el i z ht hi hz ad m r news h1 h2 (by omega) (by simp only[maxLen]at WQ;omega) (by have hb:=hb;simp only[Nat.zero_add]at hb;omega);simp only[Nat.zero_add]at g1 g2 g3 g4 P5 ⊢;obtain⟨n1,n2,n3⟩:=newb C';refine⟨_,_,hr, .inr ⟨_,_,C',rfl,g1,g2,?_,g3,g4,?_, .inl ⟨rfl,?_⟩⟩⟩<;>rw[<-P5]<;>first|exact n3|exact n1|exact n2
    |some p=>have hr:=run_append_grow (P:=P) w t ty el i z ht hi hz p 0 0 [] (by simp) (by simp) ad m r news h1 h2 (by omega) (by simp only[maxLen]at WQ;omega) (growslice_fits (by omega) hb);rw[show(([]:List Value).toArray++news.toArray)=news.toArray by simp]at hr;simp only[Nat.zero_add]at g1 g2 g3 g4 P5 hr ⊢;obtain⟨n1,n2,n3⟩:=newb C';refine⟨_,_,hr, .inr ⟨_,_,C',rfl,g1,g2,?_,g3,g4,?_, .inl ⟨rfl,?_⟩⟩⟩<;>rw[<-P5]<;>first|exact n3|exact n1|exact n2
 ·rcases hs with⟨rfl,rfl,rfl⟩|⟨ad,rfl,h1,h2,h3⟩
  ·refine⟨_,w,?_, .inl ⟨rfl,rfl,rfl⟩⟩;simp[Builtin.append_,run_underlying ht,sizeOf,typeInfo,hi,Builtin.lenOf,Builtin.firstCells,Lt,storeCells]
  ·by_cases BQ:k+m<=cap
   ·have EI:k*i.size+news.length<=C.size:=by rw[h1,By,<-Nat.add_mul];exact Br _ BQ
    have hr:=run_append_room (P:=P) w t ty el i ht hi g k cap C hg ad m r news h1 h2 h3 BQ EI;refine⟨_,_,hr, .inr ⟨g,cap,_,rfl,BQ,FZ,setRow_heap w g C _ el _ hg,?_,?_,⟨rfl,rfl,rfl,by simp,λj _ hj=>setRow_other w g j _ (λhh=>hj (by rw[hh]))⟩, .inr bT⟩⟩
    ·simp only[List.size_toArray,AP,Aw,BD,BC];omega
    ·rw[<-hold,<-hlen];exact List.take_left
   ·have holds:∀j u,old[j]?=some u->w.cell? ((⟨g,0,none⟩:Addr).add j)=some u:=λj u hu=>by
     rw[Addr.add_lit,Nat.zero_add,EA hg];rw[hold,List.getElem?_take]at hu;split at hu
     ·simpa using hu
     ·cases hu
    have hr:=run_append_grow (P:=P) w t ty el i z ht hi hz ⟨g,0,none⟩ k cap old ho holds ad m r news h1 h2 (by omega) (by simp only[maxLen]at WQ;omega) (growslice_fits (by omega) hb);obtain⟨C',P5,g1,g2,g3,g4⟩:=grown cap (by omega) (old.toArray++news.toArray) (by simp);obtain⟨n1,n2,n3⟩:=newb C';refine⟨_,_,hr, .inr ⟨_,_,C',rfl,g1,g2,?_,g3,g4,?_, .inl ⟨rfl,?_⟩⟩⟩<;>rw[<-P5]<;>first|exact n3|exact n1|exact n2
def Cx.bf(c:Cx)(t g':Nat)(w':World)(v:Value)(top O:List Nat):Cx:=
 {c with w:=w',G:=λu=>if u=t then⟨top,O⟩else c.G u,K:=λu g=>c.K u g\/(u=t/\g=g'),H:=λu g=>if u=t/\g=g' then v else c.H u g,U:=λu=>c.U u\/u=t,E:=λu=>if u=t then c.E u+1 else c.E u}
theorem Rel.bf(h:Rel c n sl hp a){t g:Nat}(EU:c.A.pin t=none\/g≠0)(Ba: ¬c.K t g){w':World}{row:Option Nat}(hg:c.w.grownBy w' row)
  (Fl:∀g0,row=some g0->g0∈(c.G t).top\/(g0=c.w.heap.size/\g0<w'.heap.size)) {top O:List Nat} (Cj:top=[]\/ ∃g0,row=some g0/\top=[g0]) (hO:O=[]\/O=(c.G t).O) {v:Value} (e1:Af) (BF:∀hs f,e1≠ .gd hs f) (k:Bu c.ρ gs)
  (he:DY c (c.bf t g w' v top O)->Dv (c.bf t g w' v top O) t e1):Rel (c.bf t g w' v top O) n sl (Bk hp [(t,CS gs e1)]) a:=by
 have hG:∀u,(c.bf t g w' v top O).G u=if u=t then⟨top,O⟩else c.G u:=λu=>rfl;have hM:∀b,(c.bf t g w' v top O).M b->c.M b\/row=some b:=by
  rintro b ⟨u,hu⟩;rw[hG]at hu;split at hu
  ·rcases Cj with rfl|⟨g0,hr,rfl⟩
   ·simp at hu
   ·simp at hu;subst hu;exact .inr hr
  ·exact .inl ⟨u,hu⟩
 have TO:∀b,b<c.w.heap.size->c.ok b->row≠some b:=by
  intro b hb AZ hr;rcases Fl b hr with hh|⟨hh,_⟩
  ·exact AZ.1 ⟨t,hh⟩
  ·omega
 have Cd:DY c (c.bf t g w' v top O):=by
  refine⟨rfl,rfl,λb hb AZ=>⟨λhm=>(hM b hm).elim AZ.1 (TO b hb AZ),AZ.2⟩,λb hb AZ=>hg.block b hb (λhh=>TO b hb AZ hh.symm),λu g1 hu=>⟨.inl hu,?_⟩,λu g1 hu=> ?_⟩
  ·simp only[Cx.bf];rw[if_neg];rintro⟨rfl,rfl⟩;exact Ba hu
  ·by_cases GQ:u=t
   ·have e1:(c.bf t g w' v top O).E u=c.E u+1:=by simp only[Cx.bf,if_pos GQ]
    exact⟨by omega,λh=>by omega⟩
   ·have e1:(c.bf t g w' v top O).E u=c.E u:=by simp only[Cx.bf,if_neg GQ]
    have e2:(c.bf t g w' v top O).G u=c.G u:=by simp only[Cx.bf,if_neg GQ]
    rw[e1];refine⟨AJ _,λ_=>⟨e2,λb hb F9=>hg.block b F9 λhh=> ?_⟩⟩;rcases Fl b hh.symm with h1|⟨h1,_⟩
    ·exact h.gw.cq u t GQ b (by simp[GI.own,hb]) (by simp[GI.own,h1])
    ·omega
 have D4:∀u,Bk hp [(t,CS gs e1)] u=if u=t then some (CS gs e1)else hp u:=λu=>rfl;have OE:∀u,u≠t-> ∀b∈(c.G u).own,row≠some b:=by
  intro u hu b hb hr;rcases Fl b hr with hh|⟨hh,_⟩
  ·exact h.gw.cq u t hu b hb (by simp[GI.own,hh])
  ·have:=h.gw.inb u b hb;omega
 have BZ:∀b∈(⟨top,O⟩:GI).own,row=some b\/b∈(c.G t).own:=by
  intro b hb;simp only[GI.own,Ac]at hb ⊢;rcases hb with hb|hb
  ·rcases Cj with rfl|⟨g0,hr,rfl⟩
   ·simp at hb
   ·simp at hb;subst hb;exact .inl hr
  ·rcases hO with rfl|rfl
   ·simp at hb
   ·exact .inr (.inr hb)
 refine h.change (λu=>u=t) Cd ⟨hg.os.trans h.base.os,hg.tape.trans h.base.tape,hg.output.trans h.base.output,Nat.le_trans h.base.size hg.size,λu v' hp=>⟨.inl (h.base.pins u v' hp).1,λhk=> ?_⟩,λb hb Gg=> ?_,h.base.pk,h.base.lo⟩
  (λu hu=>⟨by rw[D4,if_neg hu],by rw[hG,if_neg hu],by simp[Cx.bf,hu],λg1 hh=>hh.resolve_right (λhh=>hu hh.1)⟩) (λu hu b hb=>hg.block b (h.gw.inb u b (by simp[GI.own,hb])) (λhh=>OE u hu b (by simp[GI.own,hb]) hh.symm)) (λu hu=> ?_) ?_ (λu g1 hh=> ?_) (λu f hf=> ?_)
 ·have GQ: ¬(u=t/\0=g):=by
   rintro⟨rfl,rfl⟩;rcases EU with hh|hh
   ·have hp':c.A.pin u=some v':=hp;rw[hh]at hp';cases hp'
   ·exact hh rfl
  have Cq:=hk.resolve_right GQ;simp only[Cx.bf];rw[if_neg GQ];exact(h.base.pins u v' hp).2 Cq
 ·refine(hg.block b (Nat.lt_of_lt_of_le hb h.base.size) (λhh=> ?_)).trans (h.base.block b hb Gg);rcases Fl b hh.symm with hh|⟨hh,_⟩
  ·rcases h.gw.allow t b (by simp[GI.own,hh])with h1|h1
   ·exact absurd h1 (Nat.not_le.2 hb)
   ·exact Gg h1
  ·have:=h.base.size;have h9:b<c.w0.heap.size:=hb;omega
 ·subst hu;rw[D4,if_pos rfl];exact⟨λe' hr=>by rw[(Sn k BF).1 hr];exact he Cd,λhn=>absurd ((Sn k BF).2 rfl) (hn e1)⟩
 ·have B8:(⟨top,O⟩:GI).own.Nodup:=by
   have h0:=h.gw.nodup t;simp only[GI.own]at h0 ⊢;rw[List.nodup_append]at h0 ⊢;refine⟨by rcases Cj with rfl|⟨g0,hr,rfl⟩<;>simp,by rcases hO with rfl|rfl;simp;exact h0.2.1,λp hp q hq=> ?_⟩;rcases Cj with rfl|⟨g0,hr,rfl⟩
   ·simp at hp
   ·simp at hp;subst hp;rcases hO with rfl|rfl
    ·simp at hq
    ·rcases Fl p hr with hh|⟨hh,_⟩
     ·exact h0.2.2 p hh q hq
     ·have:=h.gw.inb t q (by simp[GI.own,hq]);omega
  refine⟨λu=> ?_,λu u' LD b hb=> ?_,λu b hb=> ?_,λu b hb=> ?_⟩
  ·rw[hG];split
   ·exact B8
   ·exact h.gw.nodup u
  ·rw[hG]at hb ⊢;by_cases h1:u=t
   ·rw[if_pos h1]at hb;rw[if_neg (λhh=>LD (h1.trans hh.symm))];rcases BZ b hb with hr|hb
    ·exact λhh=>OE u' (λh2=>LD (h1.trans h2.symm)) b hh hr
    ·exact h.gw.cq t u' (λhh=>LD (h1.trans hh)) b hb
   ·rw[if_neg h1]at hb;by_cases h2:u'=t
    ·rw[if_pos h2];intro Cb;rcases BZ b Cb with hr|Cb
     ·exact OE u h1 b hb hr
     ·exact h.gw.cq u t h1 b hb Cb
    ·rw[if_neg h2];exact h.gw.cq u u' LD b hb
  ·rw[hG]at hb;split at hb
   ·rcases BZ b hb with hr|hb
    ·rcases Fl b hr with hh|⟨hh,_⟩
     ·exact h.gw.allow t b (by simp[GI.own,hh])
     ·exact .inl (by rw[hh];exact h.base.size)
    ·exact h.gw.allow t b hb
   ·exact h.gw.allow u b hb
  ·rw[hG]at hb;show b<w'.heap.size;split at hb
   ·rcases BZ b hb with hr|hb
    ·rcases Fl b hr with hh|⟨_,hh⟩
     ·exact Nat.lt_of_lt_of_le (h.gw.inb t b (by simp[GI.own,hh])) hg.size
     ·exact hh
    ·exact Nat.lt_of_lt_of_le (h.gw.inb t b hb) hg.size
   ·exact Nat.lt_of_lt_of_le (h.gw.inb u b hb) hg.size
 ·rcases hh with hh|⟨rfl,_⟩
  ·exact .inl (h.bq u g1 hh)
  ·exact .inr rfl
 ·rw[D4]at hf;split at hf
  ·rename_i hu;exact .inr hu
  ·exact .inl (h.ct u f hf)
theorem tP{w:World}{v:Value}{ys:List AV}{f:List Nat}{sz:Nat}(h:Rd w [v] [.sl ys] f)(hs:∀y∈ys,y.cells.length=sz):
  ∃q r news N,v= .slice q ys.length r/\Src w sz q ys.length news/\Rd w news (Aq ys) N/\(∀b∈N,b∈f)/\news.length=ys.length*sz/\(∀u∈news,u.oneCell'=true):=by
 rcases h.kind with hh|hh|hh|hh|hh|hh|hh|hh|hh|hh
 ·obtain⟨_,_,_,hh,_⟩:=hh;cases hh
 ·obtain⟨_,_,hh,_⟩:=hh;cases hh
 ·obtain⟨_,_,hh,_⟩:=hh;cases hh
 ·obtain⟨p,r,rfl,hh,rfl⟩:=hh;cases hh;refine⟨p,r,[],[],rfl,?_, .nil,by simp,by simp,by simp⟩;cases p with
  |none=>exact .inl ⟨rfl,rfl,rfl⟩
  |some p=>exact .inr ⟨p,rfl,by simp,by simp,by simp⟩
 ·obtain⟨b,off,m,r,ys',cs,C,t,fz,sz',f1,rfl,hh,rfl,hb,h1,h2,h3,h4,h5,h6,HN,h7⟩:=hh;cases hh;subst h3;have Gp:sz'=sz:=by
   cases ys with
   |nil=>simp at h1
   |cons y ys=>rw[<-h4 y (by simp),hs y (by simp)]
  subst Gp;have hl:=h7.len;rw[KQ ys h4]at hl;exact⟨_,r,cs,f1,rfl, .inr ⟨_,rfl,hl,λj u hu=>by rw[Addr.add_lit,EA hb];exact h6 j u hu,HN⟩,h7,λq hq=>by simp[hq],hl,HN⟩
 ·obtain⟨_,_,_,hh,_⟩:=hh;cases hh
 ·obtain⟨_,_,_,hh,_⟩:=hh;cases hh
 ·obtain⟨_,_,_,_,_,_,_,hh,_⟩:=hh;cases hh
 ·obtain⟨_,_,_,_,hh,_⟩:=hh;cases hh
 ·obtain⟨_,hh,_⟩:=hh;cases hh
end
section
variable {P:Program} {c:Cx} {n nx:Nat} {sl sl0:Nat->SV} {hp hp0:Nat->Option Af} {a:Act} {o:Oper} {gs:Gd} {e:Bb} {sg:B1} {nv:Nat}
theorem PB(hp:Nat->Option Af)(l m:List (Nat × Af)):Bk hp (l++m)=Bk (Bk hp l) m:=by simp[Bk,List.foldl_append]
theorem zwU(h:Rel c n sl hp a)(hs:∀t e,hp0 t=some e->hp t=some e)(k:Bu c.ρ gs){el:TypeId}{s:SV}{v:Value}(hr:SR c [s] [v]){y:E}(hy:BB hp0 gs A6 s=some y){fz:List (Nat × Af)}{d:Bool}{ck:Cn}(ht:Wl P hp0 gs el s y=some (fz,d,ck))(hc:ck.den c.ρ):
  ∃ts ys q r news N,DX hp0 gs ts=some fz/\y.den c.ρ= .sl ys/\(∀z∈ys,z.cells.length=P.cellsOf el)/\v= .slice q ys.length r/\Src c.w (P.cellsOf el) q ys.length news/\Rd c.w news (Aq ys) N/\(∀b∈N,(c.bu (fz.map (·.1))).ok b)/\(d=true->N=[])/\news.length=ys.length*P.cellsOf el/\ ∀u∈news,u.oneCell'=true:=by
 have eh:EH c hp0:=λt e hr=>h.ents t e (Mb hs hr);obtain⟨f,q1,q2⟩:=H8 eh k A6 hy hr A6 (AJ _);unfold Wl at ht;split at ht
 ·simp only[Ad,AX]at ht;obtain⟨rfl,rfl,rfl⟩:=ht;obtain⟨ys,Dp,Ax⟩:=hc;rw[Dp]at q1;obtain⟨q,r,news,N,hv,g1,g2,g3,g4,g5⟩:=tP q1 (λz hz=>(Ax z hz).1);have hN:N=[]:=Hw g2 (λx hx=>by
   obtain⟨z,hz,hx⟩:=List.mem_flatMap.1 hx;exact(Ax z hz).2 x hx)
  exact⟨[],ys,q,r,news,N,rfl,Dp,λz hz=>(Ax z hz).1,hv,g1,g2,by simp[hN],λ_=>hN,g4,g5⟩
 ·split at ht
  ·rename_i IB;obtain⟨l,hl,ht⟩:=As.1 ht;simp only[AX]at ht;obtain⟨rfl,rfl,rfl⟩:=ht;obtain⟨ys,Dp,Ax⟩:=hc;rw[Dp]at q1;obtain⟨q,r,news,N,hv,g1,g2,g3,g4,g5⟩:=tP q1 Ax;exact⟨_,ys,q,r,news,N,hl,Dp,Ax,hv,g1,g2,λb hb=>VM h eh k hl IB (q2 b (g3 b hb)),by simp,g4,g5⟩
  ·cases ht
theorem KO{el:TypeId}(h:Hx P el=true):∃i z,P.info? el=some i/\i.zero=some z/\z.cells.size=i.size/\0<i.size/\P.cellsOf el=i.size/\P.bytesOf el=i.bytes:=by
 unfold Hx at h;cases hi:P.info? el with
 |none=>simp[hi]at h
 |some i=>
  cases hz:i.zero with
  |none=>simp[hi,hz]at h
  |some z=>simp only[hi,hz,Ab,AM,bne_iff_ne]at h;exact⟨i,z,rfl,hz,h.1,by omega,by simp[Program.cellsOf,hi],by simp[Program.bytesOf,hi]⟩
theorem VD(xs ys:List AV):Aq (xs++ys)=Aq xs++Aq ys:=by simp[Aq]
theorem kV(h:BA P c n nx sl hp a sl0 hp0 o gs){x y:Operand}{tx:TypeId}{cl:Call}(ho:o.op= .call cl)(Ax:cl.callee= .builtin .append)(CW:cl.args.toList=[x,y])(DR:cl.argTypes.toList=[tx,tx])
  {el:TypeId} (Bp:P.underlying tx=some (.slice el)) (hz:Hx P el=true) {s2:SV} {ye:E} (A8:BL sl0 gs y=some s2) (hy:BB hp0 gs A6 s2=some ye) {fz:List (Nat × Af)} {d:Bool} {ck:Cn} (Cv:Wl P hp0 gs el s2 ye=some (fz,d,ck)) (Is:ck.den c.ρ)
  {t g:Nat} (EU:c.A.pin t=none\/g≠0) {c0:E} {d':Bool} (BQ:Cn.den c.ρ (.room c0 ye (P.bytesOf el))) (Ek:∀f,(t,f)∉fz) (Ba: ¬c.K t g)
  {top N0:List Nat} {v:Value} (hv:a.eval x=v) (AY:C3 c.w el (P.cellsOf el) v (c0.den c.ρ) top N0) (Cj:(c.G t).top=top) (N6:∀b∈N0,c.ok b) (W0:d'=true->Tf c.w N0/\(c.G t).O=N0) (Lo:∀g',c.K t g'->g'<=g) (hU:∀u,u=t->c.U u\/(nx<=u/\u<nx+BV)) {ckl:List Cn}:
  AB P o c n nx sl hp gs a {cc:=ckl,val:= .own t g,bk:=fz++ [(t,CS gs (.row el (P.cellsOf el) g (.app c0 ye) (d&&d')))]}:=by
 have Ah:cl.args= #[x,y]:=by apply Array.ext';simp[CW]
 have FR:cl.argTypes= #[tx,tx]:=by apply Array.ext';simp[DR]
 have CM:y∈o.op.operands:=by simp[ho,Op.operands,Call.operands,Ax,Ah]
 obtain⟨i,z,hi,FO,CY,Bz,Co,E5⟩:=KO hz;obtain⟨ts,ys,q,r,news,N,HO,Dp,Ja,Df,De,C8,F8,hdN,JR,OC⟩:=zwU h.rel h.hp h.gs (h.cu A8 CM) hy Cv Is;have DA:=h.rel.freeze h.hp h.gs HO;obtain⟨xs,Cl,GR,_,A1⟩:=AY;obtain⟨mm,kk,GP,DV,MM,Xa⟩:=BQ;rw[Cl]at GP;rw[Dp]at DV;simp only[AV.len,AV.int.injEq,true_and]at GP DV;have Dy:(xs.length+ys.length)*i.bytes<=140737488355328:=by
  rw[<-GP,<-DV,E5]at MM;have h9:(((xs.length+ys.length)*i.bytes:Nat):Int)<=140737488355328:=by rw[Int.natCast_mul,Int.natCast_add];exact MM
  omega
 have F9:xs.length+ys.length<=140737488355328:=by rw[<-GP,<-DV]at Xa;omega
 rw[Co]at De JR GR Ja A1;obtain⟨old,hold,Fx,Db,CN⟩:∃old,old.length=xs.length*i.size/\((xs.length=0/\ ∃q,v= .slice q 0 0)\/ ∃g cap C,v= .slice (some ⟨g,0,none⟩) xs.length cap/\xs.length<=cap/\cap<=maxLen/\c.w.heap[g]?=some (.cells C el (0,0))/\C.size=cap*i.size/\old=C.toList.take (xs.length*i.size)/\g∈(c.G t).top)/\Rd c.w old (Aq xs) N0/\ ∀u∈old,u.oneCell'=true:=by
  rcases A1 with⟨rfl,⟨p,rfl⟩,rfl,rfl⟩|⟨g9,cap,C,rfl,h6,h7,h8,h9,rfl,Fj,EE⟩
  ·exact⟨[],by simp, .inl ⟨rfl,p,rfl⟩, .nil,by simp⟩
  ·refine⟨_,?_, .inr ⟨g9,cap,C,rfl,h6,h7,h8,h9,rfl,by rw[Cj];simp⟩,EE,Fj⟩;have e9:C.toList.length=cap*i.size:=by rw[<-h9];simp
   rw[Aw,e9];exact Nat.min_eq_left (Br _ h6)
 obtain⟨v',w',AQ,AO⟩:=SH (P:=P) c.w tx o.type el i z Bp hi FO CY Bz (λg9=>g9∈(c.G t).top) v xs.length old hold Fx q ys.length r news De (by simp only[maxLen];omega) Dy;have Dd:(execOp a.eval o).run P c.w= .ok (.value v') w':=by simp[execOp,ho,resolve,Ax,Ah,FR,invoke,builtin,hv,Df,AQ]
 intro next Q hk
 unfold Oper.wp;rw[Dd,Oper.upon_value];have hc1w:(c.bu (fz.map (·.1))).w=c.w:=rfl;have qP:(c.bu (fz.map (·.1))).G t=c.G t:=by simp only[Cx.bu];rw[if_neg];rintro hh;obtain⟨⟨u,f⟩,hf,rfl⟩:=List.mem_map.1 hh;exact Ek f hf
 obtain⟨row,top',TR,Fl,Ui,Be,Dj⟩:∃row top',c.w.grownBy w' row/\(∀g0,row=some g0->g0∈(c.G t).top\/(g0=c.w.heap.size/\g0<w'.heap.size))/\(top'=[]\/ ∃g0,row=some g0/\top'=[g0])/\
   (DY (c.bu (fz.map (·.1))) ((c.bu (fz.map (·.1))).bf t g w' v' top' (if(d&&d')=true then(c.G t).O else []))-> ∃N',C3 w' el (P.cellsOf el) v' (.sl (xs++ys)) top' N'/\(∀b∈N',b∈N0\/b∈N)/\((d&&d')=true->N'=N0))/\ ∃p m r,v'= .slice p m r:=by
  rcases AO with⟨rfl,rfl,Ck⟩|⟨g9,cap,C,rfl,h1,h2,h3,h4,h5,h6,h7⟩
  ·have HY:ys=[]:=List.eq_nil_of_length_eq_zero Ck;subst HY;refine⟨if top=[]then none else top.head?,top,⟨rfl,rfl,rfl,AJ _,λ_ _ _=>rfl⟩,λg0 Fl=> .inl ?_,?_,λ_=>⟨N0,?_,λb hb=> .inl hb,λ_=>rfl⟩,?_⟩
   ·rw[Cj];split at Fl
    ·cases Fl
    ·exact List.mem_of_mem_head? Fl
   ·rcases A1 with⟨_,_,rfl,_⟩|⟨g9,_,_,_,_,_,_,_,rfl,_⟩
    ·exact .inl rfl
    ·exact .inr ⟨g9,by simp,rfl⟩
   ·rw[Co];exact⟨xs,by simp,GR,Bz,A1⟩
   ·rcases Fx with⟨_,p,rfl⟩|⟨g9,cap,C,rfl,_⟩
    ·exact⟨_,_,_,rfl⟩
    ·exact⟨_,_,_,rfl⟩
  ·refine⟨some g9,[g9],h6,λg0 Fl=> ?_, .inr ⟨g9,rfl,rfl⟩,λGN=>⟨N0++N,⟨xs++ys,rfl,λz hz=> ?_,by rw[Co];exact Bz, .inr ⟨g9,cap,C,by simp,by simpa using h1,h2,h3,by rw[Co];exact h4,rfl,?_,?_⟩⟩,λb hb=>Ac.1 hb,λE6=> ?_⟩,_,_,_,rfl⟩
   ·cases Fl;exact h7.symm
   ·rcases Ac.1 hz with hz|hz
    ·rw[Co];exact GR z hz
    ·rw[Co];exact Ja z hz
   ·rw[Co];simp only[AP];rw[h5];intro u hu;rcases Ac.1 hu with hu|hu
    ·exact CN u hu
    ·exact OC u hu
   ·rw[Co];simp only[AP];rw[h5,VD];refine Rd.app (Db.frame λb hb=> ?_) (C8.frame λb hb=> ?_)
    ·have Dy:=Db.inb b hb;exact GN.mem b Dy (Cx.ej (N6 b hb))
    ·have Dy:=C8.inb b hb;exact GN.mem b Dy (F8 b hb)
   ·simp only[Ab]at E6;rw[hdN E6.1];simp
 obtain⟨p9,m9,r9,hv9⟩:=Dj;have D1:=DA.bf (gs:=gs) (t:=t) (g:=g) (w':=w') (row:=row) (top:=top') (O:=if(d&&d')=true then(c.G t).O else []) (v:=v') EU Ba TR (by rw[qP];exact Fl) Ui (by split;exact .inr (by rw[qP]);exact .inl rfl)
  (.row el (P.cellsOf el) g (.app c0 ye) (d&&d')) (by intros;simp) h.gs (λGN=>by
   obtain⟨N',o1,o2,o3⟩:=Be GN;have AZ:∀b∈N',((c.bu (fz.map (·.1))).bf t g w' v' top' (if(d&&d')=true then(c.G t).O else [])).ok b:=by
    intro b hb;rcases o2 b hb with hb|hb
    ·exact GN.ok b (Db.inb b hb) (Cx.ej (N6 b hb))
    ·exact GN.ok b (C8.inb b hb) (F8 b hb)
   refine⟨.inr ⟨rfl,rfl⟩,λg' Cu=> ?_,N',?_,AZ,λE6=> ?_,λE6=> ?_⟩
   ·rcases Cu with Cu|⟨_,rfl⟩
    ·exact Lo g' Cu
    ·exact AJ _
   ·have e1:((c.bu (fz.map (·.1))).bf t g w' v' top' (if(d&&d')=true then(c.G t).O else [])).H t g=v':=by simp[Cx.bf]
    have e2:(((c.bu (fz.map (·.1))).bf t g w' v' top' (if(d&&d')=true then(c.G t).O else [])).G t).top=top':=by simp[Cx.bf]
    rw[e1,e2];show C3 w' el (P.cellsOf el) v' (AV.app (c0.den c.ρ) (ye.den c.ρ)) top' N';rw[Cl,Dp];exact o1
   ·have bQ:=o3 E6;have cN:d'=true:=by simp only[Ab]at E6;exact E6.2
    obtain⟨u1,u2⟩:=W0 cN;subst bQ;refine⟨u1.frame λb hb=>GN.mem b (Db.inb b hb) (Cx.ej (N6 b hb)),?_⟩;simp only[Cx.bf,if_true,E6];exact u2
   ·simp[Cx.bf,E6])
 have bX:SR ((c.bu (fz.map (·.1))).bf t g w' v' top' (if(d&&d')=true then(c.G t).O else [])) [.own t g] [v']:=by rw[hv9];exact .own (.inr ⟨rfl,rfl⟩) (by simp[Cx.bf]) .nil
 refine hk _ ((c.bu (fz.map (·.1))).bf t g w' v' top' (if(d&&d')=true then(c.G t).O else [])) ⟨rfl,rfl,rfl,rfl,λu hu=> ?_⟩ ?_
 ·rcases hu with hu|rfl
  ·exact .inl hu
  ·exact hU u rfl
 ·have:=D1.put (bX.mkGd gs h.gs) o.dst;rw[PB];exact this
end
section
variable {P:Program} {c:Cx} {n nx:Nat} {sl sl0:Nat->SV} {hp hp0:Nat->Option Af} {a:Act} {o:Oper} {gs:Gd} {e:Bb} {sg:B1} {nv:Nat}
theorem Jg{t el:TypeId}(h:Hz P t=some el):P.underlying t=some (.slice el):=by
 unfold Hz at h;split at h
 ·simp at h;subst h;assumption
 ·cases h
theorem ZJ{t el:TypeId}(h:Hz P t=some el):CT P t=some el:=by have hu:=Jg h;simp[CT,hu]
theorem zug{ts:List Nat}{l:List (Nat × Af)}(k:Bu c.ρ gs)(h:DX hp0 gs ts=some l):∀t f,(t,f)∈l-> ∃g x f',CH c.ρ (hp0 t) f'/\L9 f' g x:=by intro t f hf;obtain⟨_,_,g,x,f',_,r⟩:=(Pn k h).1 t f hf;exact⟨g,x,f',r⟩
theorem zvr(h:BA P c n nx sl hp a sl0 hp0 o gs){x y:Operand}{tx ty:TypeId}{cl:Call}(ho:o.op= .call cl)(Ax:cl.callee= .builtin .append)(CW:cl.args.toList=[x,y])(DR:cl.argTypes.toList=[tx,ty])
  {s1 s2:SV} (BM:BL sl0 gs x=some s1) (A8:BL sl0 gs y=some s2) (he:nK P hp0 gs nx tx ty s1 s2=some e) (hc:∀q∈e.cc,Cn.den c.ρ q):AB P o c n nx sl hp gs a e:=by
 have Ah:cl.args= #[x,y]:=by apply Array.ext';simp[CW]
 have Dz:x∈o.op.operands:=by simp[ho,Op.operands,Call.operands,Ax,Ah]
 unfold nK at he;split at he
 ·cases he
 rename_i JX;have JX:tx=ty:=by simpa using JX
 subst JX;split at he
 ·rename_i el Bp;have Bp:=Jg Bp;split at he
  ·cases he
  rename_i hz;have hz:Hx P el=true:=by simpa using hz
  split at he
  ·cases he
  rename_i ye hy;split at he
  ·cases he
  rename_i fz d ck Cv;obtain⟨ts,HO⟩:∃ts,DX hp0 gs ts=some fz:=by
   unfold Wl at Cv;split at Cv
   ·simp only[Ad,AX]at Cv;obtain⟨rfl,_⟩:=Cv;exact⟨[],rfl⟩
   ·split at Cv
    ·obtain⟨l,hl,Cv⟩:=As.1 Cv;simp only[AX]at Cv;obtain⟨rfl,_⟩:=Cv;exact⟨_,hl⟩
    ·cases Cv
  have r1:=h.cu BM Dz;have fresh:∀f,(nx,f)∉fz:=λf hf=>by
   obtain⟨_,_,_,r,_⟩:=zug (c:=c) h.gs HO nx f hf;have r:=Mb h.hp r;cases hh:hp nx with
   |none=>rw[hh]at r;exact r.elim
   |some e9=>exact Nr h (h.rel.ct nx e9 hh)
  have hK:∀g,¬c.K nx g:=λg hg=>Nr h (h.rel.bq _ _ hg);have Gm:=h.rel.off nx (λe9 hr=>by
   cases hh:hp nx with
   |none=>rw[hh]at hr;exact hr.elim
   |some e8=>exact Nr h (h.rel.ct nx e8 hh))
  have W6:c.A.pin nx=none:=by
   cases hh:c.A.pin nx with
   |none=>rfl
   |some v=>exact absurd (h.rel.base.pins nx v hh).1 (Nr h)
  have P6:∀u,u=nx->c.U u\/(nx<=u/\u<nx+BV):=λu hu=> .inr ⟨by omega,by rw[hu];simp[BV]⟩;have sC:P.cellsOf el≠0:=by obtain⟨i,_,_,_,_,h1,h2,_⟩:=KO hz;omega
  split at he
  ·rename_i t g;split at he
   ·rename_i e' sz' g' c0 d' hl;split at he
    ·rename_i hh;obtain⟨rfl,rfl,rfl,rfl,Ek⟩:=hh;simp only[Ad]at he;subst he;have Fw:=CJ hl h.gs;obtain⟨q1,q2,N,q3,q4,q5,q6⟩:=h.eh t _ Fw;generalize hv:a.eval x=v at r1;cases r1 with
     |own k1 k2 _=>
      have:=kV (nx:=nx) h ho Ax CW DR Bp hz A8 hy Cv (hc _ (by simp)) (t:=t) (g:=g+1) (.inr (by omega)) (c0:=c0) (d':=d') (hc _ (by simp)) (λf hf=>by simp only[Bg,List.contains_eq_mem,decide_eq_false_iff_not]at Ek;exact Ek (List.mem_map.2 ⟨_,hf,rfl⟩)) (λhh=>by have:=q2 _ hh;omega) hv (by rw[<-k2];exact q3) rfl q4 q5 (λg' Cu=>by have:=q2 _ Cu;omega) (λu hu=> .inl (by rw[hu];exact h.rel.bq t g q1)) (ckl:=[.room c0 ye (P.bytesOf el),ck])
      exact this
    ·cases he
   ·cases he
  ·simp only[Ad]at he;subst he;generalize hv:a.eval x=v at r1;cases r1 with
   |emp _=>have:=kV (nx:=nx) h ho Ax CW DR Bp hz A8 hy Cv (hc _ (by simp)) (t:=nx) (g:=0) (.inl W6) (c0:= .lst .nil) (d':=true) (top:=[]) (N0:=[]) (hc _ (by simp)) fresh (hK 0) hv ⟨[],rfl,by simp,by omega, .inl ⟨rfl,⟨_,rfl⟩,rfl,rfl⟩⟩ Gm.1 (by simp) (λ_=>⟨rfl,Gm.2⟩) (λg' Cu=>absurd Cu (hK g')) P6 (ckl:=[.room (.lst .nil) ye (P.bytesOf el),ck]);rw[Bool.and_true]at this;exact this
  ·simp only[Ad]at he;subst he;generalize hv:a.eval x=v at r1;cases r1 with
   |cd _=>have:=kV (nx:=nx) h ho Ax CW DR Bp hz A8 hy Cv (hc _ (by simp)) (t:=nx) (g:=0) (.inl W6) (c0:= .lst .nil) (d':=true) (top:=[]) (N0:=[]) (hc _ (by simp)) fresh (hK 0) hv ⟨[],rfl,by simp,by omega, .inl ⟨rfl,⟨_,rfl⟩,rfl,rfl⟩⟩ Gm.1 (by simp) (λ_=>⟨rfl,Gm.2⟩) (λg' Cu=>absurd Cu (hK g')) P6 (ckl:=[.room (.lst .nil) ye (P.bytesOf el),ck]);rw[Bool.and_true]at this;exact this
  ·cases he
 ·cases he
end
section
variable {P:Program} {c:Cx} {n nx:Nat} {sl sl0:Nat->SV} {hp hp0:Nat->Option Af} {a:Act} {o:Oper} {gs:Gd} {e:Bb} {sg:B1} {nv:Nat}
theorem Vi:∀{ts us:List Nat} {l m:List (Nat × Af)},DX hp0 gs ts=some l->DX hp0 gs us=some m->DX hp0 gs (ts++us)=some (l++m)
 | [],us,l,m,h,k=>by simp[DX]at h;subst h;simpa using k
 |t::ts,us,l,m,h,k=>by
  unfold DX at h;simp only[List.cons_append];unfold DX;split at h
  ·rename_i ety sz g x d l' hl BH;have ih:=Vi BH k;split at h
   ·rename_i hg;simp at h;subst h;simp[hl,ih,hg]
   ·cases h
  ·rename_i ety sz dl g ep x l' hl BH;have ih:=Vi BH k;split at h
   ·rename_i hg;simp at h;subst h;simp[hl,ih,hg]
   ·cases h
  ·rename_i g x l' hl BH;have ih:=Vi BH k;simp at h;subst h;simp[hl,ih]
  ·rename_i ty g cs l' hl BH;have ih:=Vi BH k;simp at h;subst h;simp[hl,ih]
  ·cases h
theorem xU{ts us:List Nat}(hs:∀t∈ts,t∈us){b:Nat}(h:(c.bu ts).ok b):(c.bu us).ok b:=by refine⟨λhm=>h.1 ?_,h.2⟩;obtain⟨u,hu,hb⟩:=Cx.ij hm;exact⟨u,by simp only[Cx.bu];rw[if_neg (λhh=>hu (hs u hh))];exact hb⟩
theorem nO{w:World}{v:Value}{x:AV}{f:List Nat}{t:TypeId}(h:Rd w [v] [x] f)(hg:Ao P t=true\/P.cellsOf t=1)(hx:if Ao P t then∃cs,x= .agg cs/\cs.length=P.cellsOf t else(∀cs,x≠ .agg cs)/\ ∀cs,x≠ .tup cs):
  Rd w v.cells.toList x.cells f/\(∀u∈v.cells.toList,u.oneCell'=true)/\x.cells.length=P.cellsOf t/\v.cells.size=P.cellsOf t:=by
 split at hx
 ·obtain⟨cs,rfl,hl⟩:=hx;obtain⟨as_,rfl,h1,h2⟩:=Kt h rfl;have:=h2.len;exact⟨by simpa[Value.cells,AV.cells]using h2,by simpa[Value.cells]using h1,hl,by simp[Value.cells];omega⟩
 ·rename_i hna;have h1:P.cellsOf t=1:=by rcases hg with h'|h';exact absurd h' hna;exact h'
  have CN:=mD h hx.1 hx.2;have GR:x.cells=[x]:=by cases x<;>first|rfl|exact absurd rfl (hx.1 _)
  rw[one_cells CN,GR];exact⟨by simpa using h,by simpa using CN,by simp[h1],by simp[h1]⟩
theorem w5(h:Rel c n sl hp a)(hs:∀t e,hp0 t=some e->hp t=some e)(k:Bu c.ρ gs){t:TypeId}(hg:Ao P t=true\/P.cellsOf t=1):∀(ss:List SV) (vs:List Value) {xs:List E} {fz:List (Nat × Af)} {d:Bool} {ck:List Cn},SR c ss vs->Wf P hp0 gs t ss=some (xs,fz,d,ck)->(∀q∈ck,q.den c.ρ)->
  ∃N,Rd c.w (vs.flatMap λv=>v.cells.toList) (Aq (xs.map (E.den c.ρ))) N/\(d=true->N=[])/\(∃ts,DX hp0 gs ts=some fz)/\(∀b∈N,(c.bu (fz.map (·.1))).ok b)/\(∀v∈vs,v.cells.size=P.cellsOf t/\ ∀u∈v.cells.toList,u.oneCell'=true)/\(∀x∈xs,(x.den c.ρ).cells.length=P.cellsOf t)/\xs.length=vs.length
 | [],vs,xs,fz,d,ck,hr,ht,hc=>by simp[Wf]at ht;obtain⟨rfl,rfl,rfl,rfl⟩:=ht;cases hr;exact⟨[],by simpa[Aq]using Rd.nil,λ_=>rfl,⟨[],rfl⟩,by simp,by simp,by simp,rfl⟩
 |s::ss,[],xs,fz,d,ck,hr,ht,hc=>by have:=hr.len;simp at this
 |s::ss,v::vs,xs,fz,d,ck,hr,ht,hc=>by
  obtain⟨r1,r2⟩:=hr.cf;unfold Wf at ht;split at ht
  ·rename_i x fz1 d1 ck1 xs2 fz2 d2 ck2 h1 h2;simp only[Ad,AX]at ht;obtain⟨rfl,rfl,rfl,rfl⟩:=ht;obtain⟨f,q1,q2,⟨ts1,q3,q4⟩,q5⟩:=xP h hs k r1 h1 (λq hq=>hc q (by simp[hq]));obtain⟨N,p1,p2,⟨ts2,p3⟩,p4,p5,p6,p7⟩:=w5 h hs k hg ss vs r2 h2 (λq hq=>hc q (by simp[hq]));obtain⟨o1,o2,o3,o4⟩:=nO (P:=P) q1 hg q5;refine⟨f++N,?_,λhd=> ?_,⟨_,Vi q3 p3⟩,λb hb=> ?_,?_,?_,by simp[p7]⟩
   ·simpa[Aq]using o1.app p1
   ·simp only[Ab]at hd;rw[q2 hd.1,p2 hd.2];rfl
   ·rcases Ac.1 hb with hb|hb
    ·exact xU (λt ht=>by simp only[List.map_append,Ac];exact .inl ht) (q4 b hb)
    ·exact xU (λt ht=>by simp only[List.map_append,Ac];exact .inr ht) (p4 b hb)
   ·intro u hu;rcases Ae.1 hu with rfl|hu
    ·exact⟨o4,o2⟩
    ·exact p5 u hu
   ·intro u hu;rcases Ae.1 hu with rfl|hu
    ·exact o3
    ·exact p6 u hu
  ·cases ht
theorem nI{sz:Nat}(place:Nat->Option (Nat × Nat))(Gn:∀i,place i=some (i*sz,sz)):∀(vs:List Value) (k:Nat) (C:Array Value) (pre suf:List Value),C.toList=pre++suf->pre.length=k*sz->suf.length=vs.length*sz->(∀v∈vs,v.cells.size=sz)->
  ∃C',Instr.fill place C ((vs.zipIdx k).map λp=>(p.2,p.1))=some C'/\C'.toList=pre++vs.flatMap λv=>v.cells.toList
 | [],k,C,pre,suf,h,_,h2,_=>by have:suf=[]:=List.eq_nil_of_length_eq_zero (by simpa using h2);subst this;exact⟨C,rfl,by simpa using h⟩
 |v::vs,k,C,pre,suf,h,h1,h2,h3=>by
  have hv:=h3 v (by simp);simp only[A3,Nat.add_mul,Nat.one_mul]at h2;have hC:C.size=pre.length+suf.length:=by rw[<-BC,h,AP]
  have Mz:(v.cells.zipIdx.foldl (λcs (p:Value × Nat)=>cs.setIfInBounds (k*sz+p.2) p.1) C).toList=setVs C.toList (k*sz) v.cells.toList:=by have:=zyx v.cells.toList 0 (k*sz) C (by simp;omega);rw[<-Array.foldl_toList,Array.toList_zipIdx];simpa using this
  have eR:setVs C.toList (k*sz) v.cells.toList=(pre++v.cells.toList)++suf.drop sz:=by unfold setVs;rw[h,<-h1,List.take_left' rfl];congr 1;rw[List.drop_append,List.drop_eq_nil_of_le (by omega)];simp[hv]
  obtain⟨C',g1,g2⟩:=nI place Gn vs (k+1) (v.cells.zipIdx.foldl (λcs (p:Value × Nat)=>cs.setIfInBounds (k*sz+p.2) p.1) C) (pre++v.cells.toList) (suf.drop sz) (by rw[Mz,eR]) (by simp[h1,hv,Nat.add_mul]) (by simp;omega) (λu hu=>h3 u (by simp[hu]));refine⟨C',?_,by rw[g2];simp⟩;simp only[List.zipIdx_cons,List.map_cons];unfold Instr.fill;simp only[Gn];rw[if_neg (by simp[hv];omega)];exact g1
theorem AB.newRow(h:BA P c n nx sl hp a sl0 hp0 o gs){ts:List Nat}{fz:List (Nat × Af)}(HO:DX hp0 gs ts=some fz){el:TypeId}{C:Array Value}{cap:Nat}{xs:List AV}{x:E}{d:Bool}{N:List Nat}{ckl:List Cn}{wd:World}(hwd:wd.heap=c.w.heap/\wd.os=c.w.os/\wd.tape=c.w.tape/\wd.output=c.w.output)
  (hr:(execOp a.eval o).run P c.w= .ok (.value (.slice (some ⟨c.w.heap.size,0,none⟩) xs.length cap)) (wd.alloc (.cells C el))) (hx:x.den c.ρ= .sl xs) (Bz:P.cellsOf el≠0) (Ax:∀y∈xs,y.cells.length=P.cellsOf el) (hle:xs.length<=cap) (Fk:cap<=maxLen) (hC:C.size=cap*P.cellsOf el)
  (h1:∀u∈C.toList.take (xs.length*P.cellsOf el),u.oneCell'=true) (hN:Rd c.w (C.toList.take (xs.length*P.cellsOf el)) (Aq xs) N) (F8:∀b∈N,(c.bu (fz.map (·.1))).ok b) (hd:d=true->N=[]):
  AB P o c n nx sl hp gs a {cc:=ckl,val:= .own nx 0,bk:=fz++ [(nx,CS gs (.row el (P.cellsOf el) 0 x d))]}:=by
 intro next Q hk
 unfold Oper.wp;rw[hr,Oper.upon_value];have hU:=Nr h;have DA:=h.rel.freeze h.hp h.gs HO;have hK:∀g,¬c.K nx g:=λg hg=>hU (h.rel.bq _ _ hg);have W6:c.A.pin nx=none:=by
  cases hh:c.A.pin nx with
  |none=>rfl
  |some v=>exact absurd (h.rel.base.pins nx v hh).1 hU
 have Gm:=h.rel.off nx (λe9 hr=>by
  cases hh:hp nx with
  |none=>rw[hh]at hr;exact hr.elim
  |some e8=>exact hU (h.rel.ct nx e8 hh))
 obtain⟨w1,w2,w3,w4⟩:=hwd;have Oq:c.w.grownBy (wd.alloc (.cells C el)) (some c.w.heap.size):=by
  refine⟨w2,w3,w4,?_,λk hk _=> ?_⟩
  ·show c.w.heap.size<=(wd.heap.push _).size;simp[w1]
  ·have:=Below.heap_alloc wd (.cells C el) k (by rw[w1];exact hk);rw[this,w1]
 have MH:(wd.alloc (.cells C el)).heap[c.w.heap.size]?=some (.cells C el (0,0)):=by have:=heap_alloc_new wd (.cells C el);rw[w1]at this;exact this
 have AH:c.w.heap.size<(wd.alloc (.cells C el)).heap.size:=Dq MH;have hO:(c.bu (fz.map (·.1))).G nx=⟨[],[]⟩\/((c.bu (fz.map (·.1))).G nx).O=[]:=by
  right;simp only[Cx.bu];split
  ·rfl
  ·exact Gm.2
 have D1:=DA.bf (gs:=gs) (t:=nx) (g:=0) (w':=wd.alloc (.cells C el)) (row:=some c.w.heap.size) (top:=[c.w.heap.size]) (O:=[]) (v:= .slice (some ⟨c.w.heap.size,0,none⟩) xs.length cap) (.inl W6) (hK 0) Oq (λg0 Fl=>by cases Fl;exact .inr ⟨rfl,AH⟩) (.inr ⟨_,rfl,rfl⟩) (.inl rfl)
  (.row el (P.cellsOf el) 0 x d) (by intros;simp) h.gs (λGN=>by
   refine⟨.inr ⟨rfl,rfl⟩,λg' Cu=> ?_,N,?_,λb hb=>GN.ok b (hN.inb b hb) (F8 b hb),λE6=> ?_,λ_=>by simp[Cx.bf]⟩
   ·rcases Cu with Cu|⟨_,rfl⟩
    ·exact absurd Cu (hK g')
    ·exact AJ _
   ·have e1:((c.bu (fz.map (·.1))).bf nx 0 (wd.alloc (.cells C el)) (.slice (some ⟨c.w.heap.size,0,none⟩) xs.length cap) [c.w.heap.size] []).H nx 0= .slice (some ⟨c.w.heap.size,0,none⟩) xs.length cap:=by simp[Cx.bf]
    have e2:(((c.bu (fz.map (·.1))).bf nx 0 (wd.alloc (.cells C el)) (.slice (some ⟨c.w.heap.size,0,none⟩) xs.length cap) [c.w.heap.size] []).G nx).top=[c.w.heap.size]:=by simp[Cx.bf]
    rw[e1,e2];show C3 (wd.alloc (.cells C el)) el (P.cellsOf el) _ (x.den c.ρ) _ N;rw[hx];exact⟨xs,rfl,Ax,by omega, .inr ⟨_,cap,C,rfl,hle,Fk,MH,hC,rfl,h1,hN.frame λb hb=>GN.mem b (hN.inb b hb) (F8 b hb)⟩⟩
   ·rw[hd E6];exact⟨rfl,by simp[Cx.bf]⟩)
 have bX:SR ((c.bu (fz.map (·.1))).bf nx 0 (wd.alloc (.cells C el)) (.slice (some ⟨c.w.heap.size,0,none⟩) xs.length cap) [c.w.heap.size] []) [.own nx 0] [.slice (some ⟨c.w.heap.size,0,none⟩) xs.length cap]:=
  .own (.inr ⟨rfl,rfl⟩) (by simp[Cx.bf]) .nil
 refine hk _ ((c.bu (fz.map (·.1))).bf nx 0 (wd.alloc (.cells C el)) (.slice (some ⟨c.w.heap.size,0,none⟩) xs.length cap) [c.w.heap.size] []) ⟨rfl,rfl,rfl,rfl,λu hu=> ?_⟩ ?_
 ·rcases hu with hu|rfl
  ·exact .inl hu
  ·exact .inr ⟨AJ _,by simp[BV]⟩
 ·have:=D1.put (bX.mkGd gs h.gs) o.dst;rw[PB];exact this
theorem wD{t el:TypeId}(hu:P.underlying t=some (.slice el))(Bn:Du P el=true){i:TypeInfo}{z:Value}(hi:P.info? el=some i)(hz:i.zero=some z)(Co:P.cellsOf el=i.size)(m:Nat)(hle:m*i.size<=2^24)(parts:Array (Nat × Value))(C:Array Value)
  (hf:Instr.fill (λj=>some (j*i.size,i.size)) ((Array.range (m*i.size)).map (λj=>(if m*i.size=0 then #[]else z.cells)[j % (if m*i.size=0 then #[]else z.cells).size]!)) parts.toList=some C) (w:World):
  (Instr.buildSlice t m parts).run P w= .ok (.slice (some ⟨w.heap.size,0,none⟩) m m) (w.alloc (.cells C el)):=by
 have dM: ¬(2^24<m*i.size):=by omega
 have I8:Array.range 0= #[]:=rfl;by_cases h0:m*i.size=0
 ·simp only[h0,if_true,I8]at hf;have TH:∀f:Nat->Value,Array.map f #[]= #[]:=λf=>by simp
  rw[TH]at hf;simp only[Instr.buildSlice,Sem.run_bind,run_underlying hu,Result.andThen_ok,Pq Bn,Co];simp[h0,I8,hf,newRow]
 ·simp only[h0,if_false]at hf;simp only[Instr.buildSlice,Sem.run_bind,run_underlying hu,Result.andThen_ok,Pq Bn,Co];simp[h0,dM,zeroValue,typeInfo,hi,hz,hf,newRow]
theorem zqo(h:BA P c n nx sl hp a sl0 hp0 o gs){t:TypeId}{m:Nat}{parts:Array (Nat × Operand)}(ho:o.op= .buildSlice t m parts){ps:List (Nat × SV)}(ML:parts.toList.mapM (λ(p:Nat × Operand)=>(BL sl0 gs p.2).map λs=>(p.1,s))=some ps)(he:lV P hp0 gs nx t m ps=some e)(hc:∀q∈e.cc,Cn.den c.ρ q):AB P o c n nx sl hp gs a e:=by
 obtain⟨e1,e2⟩:=ZC (c:=c) (a:=a) (parts.toList.map (·.2)) (λx s hx hm=>h.cu hx (by simpa[ho,Op.operands]using hm)) (λx hx=>List.mem_map.2 ⟨x,hx,rfl⟩) ML;unfold lV at he;split at he
 ·rename_i el Bp;have Bp:=Jg Bp;split at he
  ·cases he
  rename_i AA;simp only[not_or,Bg,Bool.not_eq_false',ne_eq,Bool.not_eq_false,Nat.not_lt,Decidable.not_not]at AA;obtain⟨hz,Bn,AI,hle,EG⟩:=AA;have AI:Ao P el=true\/P.cellsOf el=1:=by simpa using AI
  obtain⟨i,z,hi,FO,CY,Bz,Co,E5⟩:=KO hz;split at he
  ·rename_i xs fz d ck MT;split at he
   ·simp only[Ad]at he;subst he;obtain⟨N,p1,p2,⟨ts,p3⟩,p4,p5,p6,p7⟩:=w5 h.rel h.hp h.gs AI (ps.map (·.2)) (parts.toList.map λp=>a.eval p.2) e2 MT hc;have hlen:(parts.toList.map λp=>a.eval p.2).length=m:=by
     have:ps.length=m:=by have:=congrArg List.length EG;simpa using this
     have h9:=congrArg List.length e1;simp at h9 ⊢;omega
    have Hk:(parts.map λ(x:Nat × Operand)=>(x.1,a.eval x.2)).toList=((parts.toList.map λp=>a.eval p.2).zipIdx 0).map λp=>(p.2,p.1):=by
     have Ov:parts.toList.map (·.1)=List.range m:=by rw[<-e1,EG]
     apply List.ext_getElem?;intro j;have hj:(parts.toList.map (·.1))[j]?=(List.range m)[j]?:=by rw[Ov]
     simp only[Array.toList_map,List.getElem?_map,List.getElem?_zipIdx]at hj ⊢;cases hp:parts.toList[j]? with
     |none=>simp
     |some p=>
      rw[hp]at hj;simp only[Option.map_some,Ad]at hj ⊢;have dH:j<m:=by
       rcases Nat.lt_or_ge j m with hh|hh
       ·exact hh
       ·rw[List.getElem?_eq_none (by simpa using hh)]at hj;cases hj
      rw[List.getElem?_range dH]at hj;simp at hj;simp[hj]
    obtain⟨C',f1,f2⟩:=nI (sz:=i.size) (λj=>some (j*i.size,i.size)) (λj=>rfl) (parts.toList.map λp=>a.eval p.2) 0 ((Array.range (m*i.size)).map (λj=>(if m*i.size=0 then #[]else z.cells)[j % (if m*i.size=0 then #[]else z.cells).size]!)) [] _ (by simp;rfl) (by simp) (by simp[hlen]) (λv hv=>by rw[<-Co];exact(p5 v hv).1);have DF:C'.toList.length=m*P.cellsOf el:=by
     rw[f2,Co];simp only[List.nil_append];have:∀(L:List Value),(∀v∈L,v.cells.size=i.size)->(L.flatMap λv=>v.cells.toList).length=L.length*i.size:=by
      intro L
      induction L with
      |nil=>intro _;simp
      |cons v L ih=>intro hL;simp only[List.flatMap_cons,AP,A3,BC];rw[ih (λu hu=>hL u (by simp[hu])),hL v (by simp),Nat.add_mul];omega
     rw[this _ (λv hv=>by rw[<-Co];exact(p5 v hv).1),hlen]
    have IE:(xs.map (E.den c.ρ)).length=m:=by rw[List.length_map,p7,hlen]
    have B0:C'.toList.take ((xs.map (E.den c.ρ)).length*P.cellsOf el)=(parts.toList.map λp=>a.eval p.2).flatMap λv=>v.cells.toList:=by rw[IE,<-DF,List.take_length,f2];simp
    refine AB.newRow (xs:=xs.map (E.den c.ρ)) (N:=N) (C:=C') (cap:=m) (wd:=c.w) h p3 ⟨rfl,rfl,rfl,rfl⟩ ?_ (by simp[E.den,EL.dd]) (by omega) (λy hy=> ?_) (by omega) (by simp only[maxLen];have:m*1<=m*P.cellsOf el:=Nat.mul_le_mul_left _ (by omega);omega) (by rw[<-BC,DF]) ?_ (by rw[B0];exact p1) p4 p2
    ·rw[IE];have AQ:=wD (P:=P) Bp Bn hi FO Co m (by rw[<-Co];omega) (parts.map λ(x:Nat × Operand)=>(x.1,a.eval x.2)) C' (by rw[Hk];exact f1) c.w;simp only[execOp,ho,Sem.run_bind];rw[AQ];rfl
    ·obtain⟨q,hq,rfl⟩:=List.mem_map.1 hy;exact p6 q hq
    ·rw[B0];intro u hu;obtain⟨v,hv,hu⟩:=List.mem_flatMap.1 hu;exact(p5 v hv).2 u hu
   ·cases he
  ·cases he
 ·cases he
end
end
end Go.Proofs.YtalagilebkaegaaGreat

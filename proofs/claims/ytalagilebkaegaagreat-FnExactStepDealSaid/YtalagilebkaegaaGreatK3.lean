/- Parts of a proof, joined: WA, VJa, VK, VL, VM, VN, VO, VP, VQ, VR, VS, VT, VU, VV, VW. -/
import Derived.Test.YtalagilebkaegaaGreatK2
import Derived.WalkSpells
import Derived.Laws.BytesArg
set_option linter.unusedVariables false
set_option linter.unusedSimpArgs false
namespace Go.Proofs.YtalagilebkaegaaGreat
open Go.RowKit
section
theorem BC.{u}{α:Type u}{a:Array α}:a.toList.length=a.size:=Array.length_toList
theorem AX.{u,v}{α:Type u}{β:Type v}(a:α)(b:β)(c:α)(d:β):((a,b)=(c,d))=(a=c/\b=d):=Prod.mk.injEq a b c d
theorem Jd:∀{l:List (Nat × Af)} {t:Nat} {e:Af},AJ l t=some e->(t,e)∈l
 | [],_,_,h=>by simp[AJ]at h
 |(u,f)::l,t,e,h=>by
  simp only[AJ]at h;split at h
  ·rename_i hu;subst hu;simp at h;subst h;simp
  ·exact List.mem_cons_of_mem _ (Jd h)
theorem Nb{α:Type}:∀{l:List (Nat × α)} {t:Nat} {e:α},l.lookup t=some e->(t,e)∈l
 | [],_,_,h=>by simp at h
 |(u,f)::l,t,e,h=>by
  simp only[List.lookup_cons]at h;split at h
  ·rename_i hu;simp at h hu;subst h;subst hu;simp
  ·exact List.mem_cons_of_mem _ (Nb h)
theorem Zm:∀{θ:List (Nat × Option Nat)},Nv θ=true-> ∀{t u v:Nat},(t,some v)∈θ->(u,some v)∈θ->t=u
 | [],_,t,u,v,h,_=>by simp at h
 |(p,q)::θ,hn,t,u,v,h1,h2=>by
  have hn':Nv θ=true:=by cases q<;>(simp only[Nv,Ab]at hn;exact hn.2)
  have key:∀x,(p,some v)=(p,q)->(x,some v)∈θ->False:=by intro x hq hx;cases hq;simp only[Nv,Ab,Bj]at hn;have:=hn.1 _ hx;simp at this
  rcases Ae.1 h1 with h3|h3<;>rcases Ae.1 h2 with h4|h4
  ·cases h3;cases h4;rfl
  ·cases h3;exact(key u rfl h4).elim
  ·cases h4;exact(key t rfl h3).elim
  ·exact Zm hn' h3 h4
def Cf(hp:List (Nat × Af))(t:Nat):Option Nat:=match AJ hp t with
 |some (.box ..)=>some 0
 |some (.row _ _ g _ _)=>some g
 |some (.br g _)=>some g
 |some (.deep _ _ _ g _ _)=>some g
 |_=>none
def Hw(hp:List (Nat × Af))(t:Nat):Bool:=match AJ hp t with
 |some (.box ..)=>true
 |some (.row ..)=>true
 |some (.deep ..)=>true
 |_=>false
def LB(pat leaf:Option Af)(g:GI):GI:=match pat,leaf with
 |some (.row ..),some (.deep ..)=>⟨g.top.take 1,[]⟩
 |_,_=>g
theorem zCz{p l:Option Af}{g:GI}{b:Nat}(h:b∈(LB p l g).top):b∈g.top:=by
 unfold LB at h;split at h
 ·exact Br h
 ·exact h
theorem zBy{p l:Option Af}{g:GI}{b:Nat}(h:b∈(LB p l g).own):b∈g.own:=by
 unfold LB at h;split at h
 ·simp only[GI.own,AE]at h;simp[GI.own,Br h]
 ·exact h
theorem zyL{p l:Option Af}{g:GI}(h:g.own.Nodup):(LB p l g).own.Nodup:=by
 unfold LB;split
 ·simp only[GI.own,AE]at h ⊢;exact List.Sublist.nodup (List.Sublist.trans (List.take_sublist _ _) (List.sublist_append_left _ _)) h
 ·exact h
def Dr(c:Cx)(ρ:List AV)(θ:List (Nat × Option Nat))(pat leaf:St):Cx:=
 {c with
  ρ:=ρ
  G:=λt=>if Hw pat.hp t then(match θ.lookup t with|some (some t')=>LB (AJ pat.hp t) (AJ leaf.hp t') (c.G t')|_=>⟨[],[]⟩)else⟨[],[]⟩
  K:=λt g=>Cf pat.hp t=some g
  H:=λt _=>match θ.lookup t with|some (some t')=>c.H t' ((Cf leaf.hp t').getD 0)|_=> .slice none 0 0
  U:=λt=>t<pat.nx
  E:=λt=>match AJ pat.hp t with|some (.deep _ _ _ _ ep _)=>ep|_=>0}
section
variable {c:Cx} {ρ:List AV} {nv n:Nat} {es:List E} {θ:List (Nat × Option Nat)} {pat leaf:St} {sl:Nat->SV} {a:Act}
theorem Ny{t b:Nat}(h:b∈((Dr c ρ θ pat leaf).G t).own):Hw pat.hp t=true/\ ∃t',θ.lookup t=some (some t')/\(b∈((Dr c ρ θ pat leaf).G t).top->b∈(c.G t').top)/\b∈(c.G t').own:=by
 simp only[Dr]at h ⊢;split at h
 ·rename_i ho;split at h
  ·rename_i t' ht;exact⟨ho,t',ht,λhb=>by rw[if_pos ho]at hb;exact zCz hb,zBy h⟩
  ·simp[GI.own]at h
 ·simp[GI.own]at h
theorem Sw{b:Nat}(h:c.ok b):(Dr c ρ θ pat leaf).ok b:=by refine⟨λ⟨t,ht⟩=> ?_,h.2⟩;obtain⟨_,t',_,hg,_⟩:=Ny (b:=b) (by simp only[GI.own,Ac];exact .inl ht);exact h.1 ⟨t',hg ht⟩
theorem LX(hp:ρ<+:c.ρ)(hn:ρ.length=nv){x y:E}(h:JY nv es x y=true):x.den (ρ++(EL.of es).den c.ρ)=y.den c.ρ:=by
 obtain⟨τ,hτ⟩:=hp;have Lh:x.sc nv=true->x.beq y=true->x.den (ρ++(EL.of es).den c.ρ)=y.den c.ρ:=by intro h1 h2;rw[<-E.ay c.ρ x y h2];subst hn;generalize hq:(EL.of es).den c.ρ=q;rw[E.bc ρ q τ x h1,hτ]
 unfold JY at h;split at h
 ·rename_i i;split at h
  ·rename_i hi;exact Lh (by simpa[E.sc]using hi) h
  ·rename_i hi;split at h
   ·rename_i z hz;rw[<-E.ay c.ρ z y h];simp only[E.den,EL.db];rw[List.getElem?_append_right (by omega),hn,List.getElem?_map,hz];rfl
   ·cases h
 ·simp only[Ab]at h;exact Lh h.1 h.2
theorem zBU(hrel:Rel c n sl (AJ leaf.hp) a){s:SV}{v:Value}{y:E}(hs:SR c [s] [v])(h:Jk leaf s=some y):∃f,Rd c.w [v] [y.den c.ρ] f/\ ∀b∈f,c.dw (B9 (AJ leaf.hp) [] (A5+1) [s]) b:=
 H6 (λt e hr=>hrel.ents t e hr) (E1 _) A5 h hs A5 (AI _)
mutual
theorem sA(hrel:Rel c n sl (AJ leaf.hp) a)(hp:ρ<+:c.ρ)(hn:ρ.length=nv)(Cs:∀t e,(t,e)∈pat.hp->Ia nv es θ pat leaf t e=true):∀(m:Nat) {p s:SV} {v:Value},Ue nv es θ pat leaf m p s=true->SR c [s] [v]->SR (Dr c (ρ++(EL.of es).den c.ρ) θ pat leaf) [p] [v]
 |0,p,s,v,h,_=>by simp[Ue]at h
 |m+1,p,s,v,h,hs=>by
  unfold Ue at h;split at h
  ·exact .undef .nil
  ·rename_i x;split at h
   ·rename_i y hy;simp only[Ab,Bj,Bool.or_eq_true]at h;obtain⟨f,hf,IA⟩:=zBU hrel hs hy;have hx:=LX (c:=c) hp hn h.1;refine .e (by rw[show(Dr c (ρ++(EL.of es).den c.ρ) θ pat leaf).ρ=ρ++(EL.of es).den c.ρ from rfl,hx];exact hf) (λb hb=> ?_) .nil;rcases IA b hb with hb|⟨t',MI,hb⟩
    ·exact Sw hb
    ·refine⟨λ⟨u,hu⟩=> ?_, .inr (hrel.gw.allow t' b (by simp[GI.own,hb]))⟩;obtain⟨ho,v',hl,hg,Td⟩:=Ny (b:=b) (by simp only[GI.own,Ac];exact .inl hu);have hv:v'=t':=by
      refine Classical.byContradiction λBF=>hrel.gw.cm v' t' BF b Td (by simp[GI.own,hb])
     subst hv;have:=h.2 _ MI _ (Nb hl);simp only[bne_self_eq_false,AW,false_or]at this;unfold Hw at ho;split at this
     ·rename_i hh;rw[hh]at ho;simp at ho
     ·rename_i hh;rw[hh]at ho;simp at ho
     ·cases this
   ·cases h
  ·split at h
   ·cases hs with
    |cc _=>exact .cc .nil
   ·cases h
  ·split at h
   ·cases hs with
    |emp _=>exact .emp .nil
   ·cases hs with
    |cc _=>exact .emp .nil
   ·cases h
  ·rename_i t g;have key:∀t' v',Cf pat.hp t=some g->θ.lookup t=some (some t')->KK leaf.hp t' v'=true->SR c [.own t' v'] [v]->SR (Dr c (ρ++(EL.of es).den c.ρ) θ pat leaf) [.own t g] [v]:=by
    intro t' v' hg hl hv hs;cases hs with
    |own h1 h2 _=>
     refine .own hg ?_ .nil;show(match θ.lookup t with|some (some t')=>c.H t' ((Cf leaf.hp t').getD 0)|_=>Value.slice none 0 0)=_;rw[hl];have:(Cf leaf.hp t').getD 0=v':=by
      unfold KK at hv;unfold Cf;split at hv
      ·rename_i hh;rw[hh];simpa using(AK.1 hv).symm
      ·rename_i hh;rw[hh];simpa using(AK.1 hv).symm
      ·rename_i hh;rw[hh];simpa using(AK.1 hv).symm
      ·cases hv
     show c.H t' ((Cf leaf.hp t').getD 0)=_;rw[this];exact h2
   split at h
   ·rename_i g' _ _ El;simp only[Ab,AK]at h;obtain⟨rfl,h⟩:=h;split at h
    ·simp only[Ab,AK]at h;exact key _ _ (by simp[Cf,El]) h.1 h.2 hs
    ·rw[AK]at h;cases hs with
     |cc _=>refine .own (p:=none) (q:=0) (r:=0) (by show Cf pat.hp t=some g;simp[Cf,El]) ?_ .nil;show(match θ.lookup t with|some (some t')=>c.H t' ((Cf leaf.hp t').getD 0)|_=>Value.slice none 0 0)=_;rw[h]
    ·cases h
   ·rename_i g' _ El;simp only[Ab,AK]at h;obtain⟨rfl,h⟩:=h;split at h
    ·simp only[Ab,AK]at h;exact key _ _ (by simp[Cf,El]) h.1 h.2 hs
    ·cases h
   ·rename_i g' _ _ El;simp only[Ab,AK]at h;obtain⟨rfl,h⟩:=h;split at h
    ·simp only[Ab,AK]at h;exact key _ _ (by simp[Cf,El]) h.1 h.2 hs
    ·rw[AK]at h;cases hs with
     |cc _=>refine .own (p:=none) (q:=0) (r:=0) (by show Cf pat.hp t=some g;simp[Cf,El]) ?_ .nil;show(match θ.lookup t with|some (some t')=>c.H t' ((Cf leaf.hp t').getD 0)|_=>Value.slice none 0 0)=_;rw[h]
    ·cases h
   ·cases h
  ·rename_i t o;split at h
   ·rename_i ty g cs El;split at h
    ·rename_i t' o';simp only[Ab,AK]at h;obtain⟨rfl,hl⟩:=h;have Ip:=Cs t _ (Jd El);simp only[Ia,hl]at Ip;split at Ip
     ·rename_i Dl;cases hs with
      |ch h1 h2 _=>
       refine .ch (by show Cf pat.hp t=some 0;simp[Cf,El]) ?_ .nil;show(match θ.lookup t with|some (some t')=>c.H t' ((Cf leaf.hp t').getD 0)|_=>Value.slice none 0 0)=_;rw[hl];have:(Cf leaf.hp t').getD 0=0:=by simp[Cf,Dl]
       simp only[this];exact h2
     ·cases Ip
    ·cases h
   ·cases h
  ·cases h
  ·rename_i x i z o;split at h
   ·rename_i y j z' o';simp only[Ab,AK]at h;obtain⟨⟨⟨⟨⟨rfl,rfl⟩,h1⟩,h2⟩,h3⟩,h4⟩:=h;have hx:x.den (ρ++(EL.of es).den c.ρ)=y.den c.ρ:=by
     obtain⟨τ,hτ⟩:=hp;rw[<-E.ay c.ρ x y h2];subst hn;generalize (EL.of es).den c.ρ=q;rw[E.bc ρ q τ x h1,hτ]
    have hi:i.den (ρ++(EL.of es).den c.ρ)=j.den c.ρ:=by obtain⟨τ,hτ⟩:=hp;rw[<-E.ay c.ρ i j h4];subst hn;generalize (EL.of es).den c.ρ=q;rw[E.bc ρ q τ i h3,hτ]
    cases hs with
    |dd g1 g2 g3 g4 g5 g6 _=>refine .dd (f:=_) (by show Rd c.w _ [x.den (ρ++(EL.of es).den c.ρ)] _;rw[hx];exact g1) (λb hb=>Sw (g2 b hb)) (by show i.den (ρ++(EL.of es).den c.ρ)=_;rw[hi];exact g3) g4 g5 (by show((x.den (ρ++(EL.of es).den c.ρ)).nth _).cells.length=_;rw[hx];exact g6) .nil
   ·cases h
  ·rename_i x o;split at h
   ·rename_i y o';simp only[Ab,AK]at h;obtain⟨⟨rfl,h1⟩,h2⟩:=h;have hx:x.den (ρ++(EL.of es).den c.ρ)=y.den c.ρ:=by
     obtain⟨τ,hτ⟩:=hp;rw[<-E.ay c.ρ x y h2];subst hn;generalize (EL.of es).den c.ρ=q;rw[E.bc ρ q τ x h1,hτ]
    cases hs with
    |da g1 g2 _=>exact .da (by show Rd c.w _ [x.den (ρ++(EL.of es).den c.ρ)] _;rw[hx];exact g1) (λb hb=>Sw (g2 b hb)) .nil
   ·cases h
  ·split at h
   ·cases hs with
    |agg h9 h1 _=>exact .agg h9 (V1 hrel hp hn Cs m h h1) .nil
   ·cases h
  ·split at h
   ·cases hs with
    |tup h1 _=>exact .tup (V1 hrel hp hn Cs m h h1) .nil
   ·cases h
  ·split at h
   ·simp only[Ab,AK]at h;obtain⟨rfl,h⟩:=h;cases hs with
    |fn h1 _=>exact .fn (V1 hrel hp hn Cs m h h1) .nil
   ·cases h
  ·cases h
  ·cases h
  ·cases h
  ·cases h
  ·rename_i i;split at h
   ·rename_i j;simp only[Ab,AK,AR]at h;obtain⟨rfl,hi⟩:=h;cases hs with
    |lent g1 _=>
     have hx:(E.var i).den (ρ++(EL.of es).den c.ρ)=(E.var i).den c.ρ:=by obtain⟨τ,hτ⟩:=hp;subst hn;generalize (EL.of es).den c.ρ=q;rw[E.bc ρ q τ (.var i) (by simpa[E.sc]using hi),hτ]
     exact .lent (show c.A.lo v ((E.var i).den (ρ++(EL.of es).den c.ρ)) by rw[hx];exact g1) .nil
   ·cases h
theorem V1(hrel:Rel c n sl (AJ leaf.hp) a)(hp:ρ<+:c.ρ)(hn:ρ.length=nv)(Cs:∀t e,(t,e)∈pat.hp->Ia nv es θ pat leaf t e=true):∀(m:Nat) {ps ss:List SV} {vs:List Value},HC nv es θ pat leaf m ps ss=true->SR c ss vs->SR (Dr c (ρ++(EL.of es).den c.ρ) θ pat leaf) ps vs
 |0,ps,ss,vs,h,_=>by simp[HC]at h
 |m+1,[],[],vs,h,hs=>by cases hs;exact .nil
 |m+1,p::ps,[],vs,h,hs=>by simp[HC]at h
 |m+1,[],s::ss,vs,h,hs=>by simp[HC]at h
 |m+1,p::ps,s::ss,[],h,hs=>by have:=hs.len;simp at this
 |m+1,p::ps,s::ss,v::vs,h,hs=>by simp only[HC,Ab]at h;obtain⟨h1,h2⟩:=hs.cd;exact(sA hrel hp hn Cs m h.1 h1).cons (V1 hrel hp hn Cs m h.2 h2)
end
theorem zyj(hrel:Rel c n sl (AJ leaf.hp) a)(hp:ρ<+:c.ρ)(hn:ρ.length=nv)(Cs:∀t e,(t,e)∈pat.hp->Ia nv es θ pat leaf t e=true)(hθ:Nv θ=true){t:Nat}{e:Af}(ht:AJ pat.hp t=some e):Du (Dr c (ρ++(EL.of es).den c.ρ) θ pat leaf) t e:=by
 have h:=Cs t e (Jd ht);have pM:Hw pat.hp t=false->(Dr c (ρ++(EL.of es).den c.ρ) θ pat leaf).G t=⟨[],[]⟩:=by intro h0;simp only[Dr];rw[if_neg (by rw[h0];simp)]
 have pN:∀t',Hw pat.hp t=true->θ.lookup t=some (some t')->(Dr c (ρ++(EL.of es).den c.ρ) θ pat leaf).G t=LB (AJ pat.hp t) (AJ leaf.hp t') (c.G t'):=by intro t' h0 hl;simp only[Dr];rw[if_pos h0,hl]
 have S2:∀t',Hw pat.hp t=true->θ.lookup t=some (some t')->(∀q1 q2 q3 q4 q5 q6,AJ leaf.hp t'=some (.deep q1 q2 q3 q4 q5 q6)-> ∀p1 p2 p3 p4 p5,e≠ .row p1 p2 p3 p4 p5)->(Dr c (ρ++(EL.of es).den c.ρ) θ pat leaf).G t=c.G t':=by
  intro t' h0 hl DR;rw[pN t' h0 hl,ht];unfold LB;split
  ·rename_i h1 h2;simp only[Ad]at h1;exact absurd h1 (DR _ _ _ _ _ _ h2 _ _ _ _ _)
  ·rfl
 have K4:∀t' g,θ.lookup t=some (some t')->Cf leaf.hp t'=some g-> ∀g',(Dr c (ρ++(EL.of es).den c.ρ) θ pat leaf).H t g'=c.H t' g:=by intro t' g hl hg g';simp only[Dr,hl,hg,Df]
 have EK:∀g,Cf pat.hp t=some g-> ∀g',(Dr c (ρ++(EL.of es).den c.ρ) θ pat leaf).K t g'->g'<=g:=by intro g hg g' hk;have Cp:Cf pat.hp t=some g':=hk;rw[hg]at Cp;cases Cp;exact AI _
 cases e with
 |box ty g cs=>
  simp only[Ia]at h;split at h
  ·rename_i t' hl;split at h
   ·rename_i ty' g' ds Dl;simp only[Ab,AK]at h;obtain⟨⟨rfl,rfl⟩,h⟩:=h;obtain⟨b,C,h1,h2,h3,h4,h5,h6,h7⟩:=hrel.ents t' _ (by rw[Dl];rfl);have hg:=S2 t' (by simp[Hw,ht]) hl (by intros;simp);exact⟨b,C,by show Cf pat.hp t=some 0;simp[Cf,ht],by rw[K4 t' 0 hl (by simp[Cf,Dl])];exact h2,by rw[hg];exact h3,by rw[hg];exact h4,h5,h6,V1 hrel hp hn Cs _ h h7⟩
   ·cases h
  ·cases h
 |row et z g x d=>
  simp only[Ia]at h;split at h
  ·rename_i t' hl;split at h
   ·rename_i et' z' g' y d' Dl;simp only[Ab,AK,Bool.or_eq_true,Bf]at h;obtain⟨⟨⟨rfl,rfl⟩,hx⟩,hd⟩:=h;obtain⟨h1,h2,N,h3,h4,h5,h6⟩:=hrel.ents t' _ (by rw[Dl];rfl);have hg:=S2 t' (by simp[Hw,ht]) hl (λ_ _ _ _ _ _ hh=>by rw[Dl]at hh;cases hh);have DU:=LX hp hn hx;have hK:Cf pat.hp t=some g:=by simp[Cf,ht]
    refine⟨hK,EK g hK,N,?_,λb hb=>Sw (h4 b hb),λDH=> ?_,λhdf=> ?_⟩
    ·rw[K4 t' g' hl (by simp[Cf,Dl]),hg];show CZ c.w et z _ (x.den (ρ++(EL.of es).den c.ρ)) _ N;rw[DU];exact h3
    ·rw[hg];exact h5 (by rcases hd with hd|hd;rw[DH]at hd;cases hd;exact hd)
    ·rw[hg];cases d' with
     |false=>exact h6 rfl
     |true=>obtain⟨u1,u2⟩:=h5 rfl;rw[u2];exact u1
   ·rename_i et' z' l' g' ep' y Dl;simp only[Ab,AK,Bf]at h;obtain⟨⟨⟨rfl,rfl⟩,hx⟩,rfl⟩:=h;obtain⟨h1,h2,_,h3,h4⟩:=hrel.ents t' _ (by rw[Dl];rfl);have hg:(Dr c (ρ++(EL.of es).den c.ρ) θ pat leaf).G t=⟨(c.G t').top.take 1,[]⟩:=by
     rw[pN t' (by simp[Hw,ht]) hl,ht,Dl];rfl
    have DU:=LX hp hn hx;have hK:Cf pat.hp t=some g:=by simp[Cf,ht]
    obtain⟨f,k1,k2⟩:=h3.ownRow;have B7:((c.G t').top.take 1++(c.G t').top.drop 1).Nodup:=by rw[B8];have:=hrel.gw.nodup t';simp only[GI.own,h4,AE]at this;exact this
    refine⟨hK,EK g hK,f,?_,λb hb=> ?_,λDH=>(by cases DH),λ_=>by rw[hg]⟩
    ·rw[K4 t' g' hl (by simp[Cf,Dl]),hg];show CZ c.w et z _ (x.den (ρ++(EL.of es).den c.ρ)) _ f;rw[DU];exact k1
    ·have CI:b∈(c.G t').top:=BO (k2 b hb);refine⟨λ⟨u,hu⟩=> ?_, .inr (hrel.gw.allow t' b (by simp[GI.own,CI]))⟩;obtain⟨_,v',BL,_,Td⟩:=Ny (b:=b) (by simp only[GI.own,Ac];exact .inl hu);have hv:v'=t':=Classical.byContradiction λBF=>hrel.gw.cm v' t' BF b Td (by simp[GI.own,CI]);subst hv;have:=Zm hθ (Nb BL) (Nb hl);subst this;rw[hg]at hu;exact(List.nodup_append.1 B7).2.2 b hu b (k2 b hb) rfl
   ·cases h
  ·rename_i hl;simp only[Ab,AR]at h;have DU:=LX hp hn h.1;have hK:Cf pat.hp t=some g:=by simp[Cf,ht]
   have hg:(Dr c (ρ++(EL.of es).den c.ρ) θ pat leaf).G t=⟨[],[]⟩:=by simp[Dr,hl]
   refine⟨hK,EK g hK,[],⟨[],?_,by simp,h.2, .inl ⟨rfl,⟨none,?_⟩,by rw[hg],rfl⟩⟩,by simp,λ_=>⟨rfl,by rw[hg]⟩,λ_=>by rw[hg]⟩
   ·show x.den (ρ++(EL.of es).den c.ρ)=_;rw[DU];rfl
   ·simp[Dr,hl]
  ·cases h
 |br g x=>
  have hg:=pM (by simp[Hw,ht]);have hK:Cf pat.hp t=some g:=by simp[Cf,ht]
  simp only[Ia]at h;split at h
  ·rename_i t' hl;have IA:∀b,b∈(c.G t').top->(Dr c (ρ++(EL.of es).den c.ρ) θ pat leaf).ok b:=by
    intro b hb;refine⟨λ⟨u,hu⟩=> ?_, .inr (hrel.gw.allow t' b (by simp[GI.own,hb]))⟩;obtain⟨ho,v',BL,Ct,Td⟩:=Ny (b:=b) (by simp only[GI.own,Ac];exact .inl hu);have hv:v'=t':=Classical.byContradiction λBF=>hrel.gw.cm v' t' BF b Td (by simp[GI.own,hb]);subst hv;have:=Zm hθ (Nb BL) (Nb hl);subst this;simp[Hw,ht]at ho
   split at h
   ·rename_i et' z' g' y d' Dl;obtain⟨h1,h2,N,h3,h4,h5,h6⟩:=hrel.ents t' _ (by rw[Dl];rfl);obtain⟨f,r1,r2,_⟩:=h3.rd;refine⟨hK,⟨f,?_,λb hb=>(r2 b hb).elim (IA b) λhb=>Sw (h4 b hb)⟩,by rw[hg],by rw[hg]⟩;rw[K4 t' g' hl (by simp[Cf,Dl])];show Rd c.w _ [x.den (ρ++(EL.of es).den c.ρ)] f;rw[LX hp hn h];exact r1
   ·rename_i g' y Dl;obtain⟨h1,⟨f,r1,r2⟩,_,_⟩:=hrel.ents t' _ (by rw[Dl];rfl);refine⟨hK,⟨f,?_,λb hb=>Sw (r2 b hb)⟩,by rw[hg],by rw[hg]⟩;rw[K4 t' g' hl (by simp[Cf,Dl])];show Rd c.w _ [x.den (ρ++(EL.of es).den c.ρ)] f;rw[LX hp hn h];exact r1
   ·rename_i et' z' l' g' ep' y Dl;obtain⟨h1,h2,_,h3,h4⟩:=hrel.ents t' _ (by rw[Dl];rfl);obtain⟨f,r1,r2⟩:=h3.rd;refine⟨hK,⟨f,?_,λb hb=>IA b (r2 b hb)⟩,by rw[hg],by rw[hg]⟩;rw[K4 t' g' hl (by simp[Cf,Dl])];show Rd c.w _ [x.den (ρ++(EL.of es).den c.ρ)] f;rw[LX hp hn h];exact r1
   ·cases h
  ·cases h
 |hol=>simp[Ia]at h
 |pre=>simp[Ia]at h
 |deep et z dl g ep x=>
  have hE:(Dr c (ρ++(EL.of es).den c.ρ) θ pat leaf).E t=ep:=by simp[Dr,ht]
  have hK:Cf pat.hp t=some g:=by simp[Cf,ht]
  simp only[Ia]at h;split at h
  ·rename_i t' hl;split at h
   ·rename_i et' z' dl' g' ep' y Dl;simp only[Ab,AK]at h;obtain⟨⟨⟨rfl,rfl⟩,N6⟩,hx⟩:=h;have N6:=Ay.eo N6;subst N6;obtain⟨h1,h2,_,h3,h4⟩:=hrel.ents t' _ (by rw[Dl];rfl);have hg:=S2 t' (by simp[Hw,ht]) hl (by intros;simp);refine⟨hK,EK g hK,hE,?_,by rw[hg];exact h4⟩;rw[K4 t' g' hl (by simp[Cf,Dl]),hg];show DC c.w _ _ [x.den (ρ++(EL.of es).den c.ρ)] _;rw[LX hp hn hx];exact h3
   ·cases h
  ·rename_i hl;have hg:(Dr c (ρ++(EL.of es).den c.ρ) θ pat leaf).G t=⟨[],[]⟩:=by simp[Dr,hl]
   simp only[Ab,AR,AK]at h;refine⟨hK,EK g hK,hE,?_,by rw[hg]⟩;have e1:(Dr c (ρ++(EL.of es).den c.ρ) θ pat leaf).H t g= .slice none 0 0:=by simp[Dr,hl]
   rw[e1,hg];show DC c.w _ _ [x.den (ρ++(EL.of es).den c.ρ)] _;rw[LX hp hn h.1.1];exact .void h.1.2 (by rw[Ay.au];exact h.2) .nil
  ·cases h
 |gd gs e=>simp[Ia]at h
 |dead=>have hg:=pM (by simp[Hw,ht]);exact⟨by rw[hg],by rw[hg]⟩
end
theorem zW{nv:Nat}{es:List E}{θ:List (Nat × Option Nat)}{pat leaf:St}:∀(m:Nat) {ps ss:List SV},HC nv es θ pat leaf m ps ss=true-> ∀{i:Nat} {p:SV},ps[i]?=some p-> ∃s k,ss[i]?=some s/\Ue nv es θ pat leaf k p s=true
 |0,ps,ss,h,_,_,_=>by simp[HC]at h
 |m+1,[],ss,h,i,p,hp=>by simp at hp
 |m+1,q::ps,[],h,i,p,hp=>by simp[HC]at h
 |m+1,q::ps,s::ss,h,i,p,hp=>by
  simp only[HC,Ab]at h;cases i with
  |zero=>simp at hp;subst hp;exact⟨s,m,rfl,h.1⟩
  |succ i=>simpa using zW m h.2 (by simpa using hp)
theorem zBO:aL:=by
 intro F nv pat τ es ρ ρ' a w hi hn hp hr;obtain⟨c,rfl,rfl,MN,hA,aU,Gk,hU,hrel⟩:=hr;unfold Kz at hi;simp only at hi;split at hi
 ·rename_i AZ;simp only[Ad]at hi;generalize bU:(List.range (pat.nv-nv)).map (λj=>((PC nv pat τ true pat.hp (PC nv pat τ false pat.hp (MY nv pat τ 2000 ⟨[],[]⟩ pat.sl τ.sl))).as_.lookup (nv+j)).getD (.int .i64 0))=es0 at AZ hi;subst hi;generalize (PC nv pat τ true pat.hp (PC nv pat τ false pat.hp (MY nv pat τ 2000 ⟨[],[]⟩ pat.sl τ.sl))).θ=θ at AZ;clear bU;simp only[tF,Ab,AK,Bj,AR]at AZ;obtain⟨⟨⟨⟨⟨⟨h1,hθ⟩,hlen⟩,Di⟩,BV⟩,hnx⟩,TS⟩:=AZ;have Cs:∀t e,(t,e)∈pat.hp->Ia nv es0 θ pat τ t e=true:=λt e he=>(BV _ he).1;have AG:∀t e,(t,e)∈pat.hp->t<pat.nx:=λt e he=>(BV _ he).2;have TM:∀t e,AJ pat.hp t=some e-> ∀gs e',e≠ .gd gs e':=by
   rintro t e he gs e' rfl;have:=Cs t _ (Jd he);simp[Ia]at this
  have AN:∀t e e',AJ pat.hp t=some e->(CE (ρ++(EL.of es0).den c.ρ) (AJ pat.hp t) e'↔e'=e):=by
   intro t e e' he;rw[he];cases e with
   |gd gs e9=>exact absurd rfl (TM t _ he gs e9)
   |_=>simp[CE,eq_comm]
  refine⟨Dr c (ρ++(EL.of es0).den c.ρ) θ pat τ,rfl,rfl,MN,hA,aU,?_,λt ht=>ht,hrel.defers,by rw[hlen];exact hrel.size,⟨hrel.base.os,hrel.base.tape,hrel.base.output,hrel.base.size,λt v P5=> ?_,hrel.base.block,hrel.base.pk,hrel.base.lo⟩,λi=> ?_,λt e hr=> ?_,λt DR=> ?_,⟨λt=> ?_,λt u ML b hb Cc=> ?_,λt b hb=> ?_,λt b hb=> ?_⟩,λt g hk=> ?_,λt e he=>AG t e (Jd he)⟩
  ·rw[h1,EL.db];simp[hn]
  ·have Oh:NH t=true:=F.lp t v (by rw[<-hA];exact P5);refine⟨by
    show t<pat.nx;unfold NH at Oh;simp only[Ab,AR]at Oh;omega,λhk=> ?_⟩
   have Cp:Cf pat.hp t=some 0:=hk;obtain⟨e,dI⟩:∃e,AJ pat.hp t=some e:=by
    unfold Cf at Cp;cases hh:AJ pat.hp t with
    |none=>rw[hh]at Cp;cases Cp
    |some e=>exact⟨e,rfl⟩
   have D1:=TS _ (Jd dI);simp only[Oh,Bool.not_true,Bool.false_or]at D1;have main:θ.lookup t=some (some t)->Cf τ.hp t=some 0->c.K t 0->(Dr c (ρ++(EL.of es0).den c.ρ) θ pat τ).H t 0=v:=by intro hl hg hK;simp only[Dr,hl,hg,Df];exact(hrel.base.pins t v P5).2 hK
   unfold MQ at D1;simp only[Cf,dI]at Cp;rw[dI]at D1;cases e with
   |box ty g cs=>
    simp only[Ab,AK]at D1;obtain⟨hl,hb⟩:=D1;split at hb
    ·rename_i ty' g' cs' Dl;obtain⟨b,C,q1,_⟩:=hrel.ents t _ (by rw[Dl];rfl);exact main hl (by simp[Cf,Dl]) q1
    ·cases hb
   |row ety sz g x d=>
    simp only[Ad]at Cp;subst Cp;simp only[bne_self_eq_false,Bool.false_or,Ab,AK]at D1;obtain⟨hl,hb⟩:=D1;split at hb
    ·rename_i ety' sz' g' x' d' Dl;rw[AK]at hb;subst hb;obtain⟨q1,_⟩:=hrel.ents t _ (by rw[Dl];rfl);exact main hl (by simp[Cf,Dl]) q1
    ·cases hb
   |br g x=>simp only[Ad]at Cp;subst Cp;simp at D1
   |gd=>simp at Cp
   |dead=>simp at Cp
   |hol=>simp at Cp
   |pre=>simp at Cp
   |deep ety sz l g ep x=>
    simp only[Ad]at Cp;subst Cp;simp only[bne_self_eq_false,Bool.false_or,Ab,AK]at D1;obtain⟨hl,hb⟩:=D1;split at hb
    ·rename_i Dl;rw[AK]at hb;subst hb;obtain⟨q1,_⟩:=hrel.ents t _ (by rw[Dl];rfl);exact main hl (by simp[Cf,Dl]) q1
    ·cases hb
  ·unfold BR;cases TR:pat.sl[i]? with
   |none=>exact .undef .nil
   |some p=>obtain⟨s,k,hs,hk⟩:=zW _ Di TR;have:=hrel.cy i;unfold BR at this;rw[hs]at this;exact sA hrel hp hn Cs k hk this
  ·cases he:AJ pat.hp t with
   |none=>rw[he]at hr;exact hr.elim
   |some e9=>have N8:=(AN t e9 e he).1 hr;subst N8;exact zyj hrel hp hn Cs hθ he
  ·have:Hw pat.hp t=false:=by
    cases he:AJ pat.hp t with
    |none=>simp[Hw,he]
    |some e9=>exact absurd ((AN t e9 e9 he).2 rfl) (DR e9)
   simp[Dr,this]
  ·simp only[Dr];split
   ·split
    ·exact zyL (hrel.gw.nodup _)
    ·simp[GI.own]
   ·simp[GI.own]
  ·obtain⟨_,t',hl,_,CI⟩:=Ny hb;obtain⟨_,u',BL,_,Iq⟩:=Ny Cc;by_cases hh:t'=u'
   ·subst hh;exact ML (Zm hθ (Nb hl) (Nb BL))
   ·exact hrel.gw.cm t' u' hh b CI Iq
  ·obtain⟨_,t',hl,_,CI⟩:=Ny hb;exact hrel.gw.allow t' b CI
  ·obtain⟨_,t',hl,_,CI⟩:=Ny hb;exact hrel.gw.inb t' b CI
  ·have Cp:Cf pat.hp t=some g:=hk;unfold Cf at Cp;show t<pat.nx;split at Cp
   ·rename_i hh;exact AG t _ (Jd hh)
   ·rename_i hh;exact AG t _ (Jd hh)
   ·rename_i hh;exact AG t _ (Jd hh)
   ·rename_i hh;exact AG t _ (Jd hh)
   ·cases Cp
 ·cases hi
theorem Vo(l:List DT):∀(n k o m:Nat),k<n->o+m<=l.length->((BI n l).drop (k*l.length+o)).take m=(l.drop o).take m
 |0,k,_,_,h,_=>by omega
 |n+1,0,o,m,_,hm=>by rw[Pj,Nat.zero_mul,Nat.zero_add,List.drop_append_of_le_length (by omega),List.take_append_of_le_length (by simp;omega)]
 |n+1,k+1,o,m,h,hm=>by have ih:=Vo l n k o m (by omega) hm;rw[<-ih,Pj,show(k+1)*l.length+o=l.length+(k*l.length+o)from by rw[Nat.add_mul];omega,List.drop_append,List.drop_eq_nil_of_le (by omega)];simp
theorem DC.elem{w:World}{ys:List AV}{l:List DT}{cells:List Value}{N:List Nat}{z:Nat}(h:DC w (BI ys.length l) cells (Aq ys) N)(hl:l.length=z)(h7:∀y∈ys,y.cells.length=z){k o m:Nat}(hk:k<ys.length)(hm:o+m<=z):
  ∃M,(∀b∈M,b∈N)/\DC w ((l.drop o).take m) ((cells.drop (k*z+o)).take m) ((((AV.sl ys).nth k).cells.drop o).take m) M:=by
 obtain⟨N1,N2,N3,rfl,_,h2,_⟩:=h.split (k*z+o) m;subst hl;rw[Vo l _ _ _ _ hk hm,Vr ys h7 k _ (Nz hk) o m hm]at h2;exact⟨N2,λb hb=>by simp[hb],h2⟩
theorem Rd.kd{w:World}{vs:List Value}{x:AV}{f:List Nat}{o m:Nat}{g:Bool}(h:Rd w vs ((x.cells.drop o).take m) f)(h9:∀u∈vs,u.oneCell'=true)(hm:o+m<=x.cells.length)(h1:g=false->m=1):
  Rd w [if g then .agg vs.toArray else vs.headD undef] [x.fld o m g] f:=by
 cases g with
 |true=>have:=Rd.agg h9 h .nil;simpa[AV.fld]using this
 |false=>
  have:=h1 rfl;subst this;have e2:(x.cells.drop o).take 1=[x.cells[o]'(by omega)]:=by rw[Bv (by omega),List.take_succ_cons,List.take_zero]
  rw[e2]at h;have hl:=h.len
  match vs,hl with
  | [v],_=>simpa[AV.fld,show o<x.cells.length by omega]using h
section
variable {P:Program} {c:Cx} {n nx:Nat} {sl sl0:Nat->SV} {hp hp0:Nat->Option Af} {a:Act} {o:Oper} {gs:Gd} {e:Bb} {sg:BZ} {nv:Nat}
theorem zui{w:World}{b p:Nat}{t:TypeId}{C:Array Value}{ty:TypeId}{fz:Nat × Nat}(hb:w.heap[b]?=some (.cells C ty fz))(ht:Dt P t=true)(hg:Ao P t=true\/P.cellsOf t=1)(hp:p+P.cellsOf t<=C.size):
  (Instr.loadAt t (.pointer (some ⟨b,p,none⟩))).run P w= .ok (if Ao P t then .agg ((C.toList.drop p).take (P.cellsOf t)).toArray else((C.toList.drop p).take (P.cellsOf t)).headD undef) w:=by
 have Mx:((C.toList.drop p).take (P.cellsOf t)).length=P.cellsOf t:=by rw[Au,BD,BC];omega
 refine RV ht _ (λ_=>Mx) (λh=> ?_) (λj u hu=> ?_)
 ·rw[Mx];rcases hg with h'|h';rw[h]at h';cases h';exact h'
 ·rw[EA hb];rw[List.getElem?_take]at hu;split at hu
  ·simpa using hu
  ·cases hu
theorem zzH{b g e z ep:Nat}{l:List DT}{c0 i:E}{t:TypeId}{k':Nat}{v:Value}(hE:Du c b (.deep e z l g ep c0))(hr:SR c [.cq b g i z k'] [v])(Bm:Dt P t=true)(hle:k'+P.cellsOf t<=z)(AH:Ao P t=true\/P.cellsOf t=1):
  ∃u,(Instr.loadAt t v).run P c.w= .ok u c.w/\(((l.drop k').take (P.cellsOf t)).all DT.bu=true->Rd c.w [u] [(E.fld (.idx c0 i) k' (P.cellsOf t) (Ao P t)).den c.ρ] [])/\Qq c b u ((E.fld (.idx c0 i) k' (P.cellsOf t) (Ao P t)).den c.ρ)/\(Ao P t=false->IS c b g (some (i,z,k')) u):=by
 obtain⟨q1,q2,q3,q4,q5⟩:=hE;cases hr with
 |cq h1 h2 h3 h4 h5 _=>
  rename_i q len cap kk k h6;obtain⟨d1,d2,⟨a9,d3,_⟩|⟨g9,cap9,C,ys,N1,d3,d4,d5,d6,d7,d8,d9,d10,d11,d12⟩⟩:=q4.inv
  ·rw[h2]at d3;cases d3;omega
  ·rw[h2]at d3;cases d3;rw[Ay.au]at d2 d12;have hk:k.toNat<ys.length:=by omega
   have hmul:(k.toNat+1)*z<=ys.length*z:=Bq _ (by omega);have ES:ys.length*z<=cap*z:=Bq _ d7;rw[Nat.add_mul]at hmul;have AQ:=zui (P:=P) (t:=t) (p:=k.toNat*z+k') d6 Bm AH (by omega);obtain⟨M,m1,m2⟩:=d12.elem d2 d10 hk hle;have F9:((C.toList.take (ys.length*z)).drop (k.toNat*z+k')).take (P.cellsOf t)=(C.toList.drop (k.toNat*z+k')).take (P.cellsOf t):=by rw[List.drop_take,List.take_take,Nat.min_eq_left (by omega)]
   rw[F9]at m2;have CK:∀u∈(C.toList.drop (k.toNat*z+k')).take (P.cellsOf t),u.oneCell'=true:=λu hu=>d11 u (by rw[<-F9]at hu;exact BO (Br hu))
   have rB:((AV.sl ys).nth k.toNat).cells.length=z:=d10 _ (List.mem_of_getElem? (Nz hk));have Co:(E.fld (.idx c0 i) k' (P.cellsOf t) (Ao P t)).den c.ρ=((AV.sl ys).nth k.toNat).fld k' (P.cellsOf t) (Ao P t):=by simp only[E.den,d4,h3,AV.idx]
   have Ku:Ao P t=false->P.cellsOf t=1:=λh=>by rcases AH with h'|h';rw[h]at h';cases h';exact h'
   refine⟨_,AQ,λhf=> ?_,?_,λhf=> ?_⟩
   ·rw[Co];exact(m2.iv hf).kd CK (by omega) Ku
   ·obtain⟨f,r1,r2⟩:=m2.rd;rw[Co];exact⟨f,r1.kd CK (by omega) Ku,λb hb=> .inr (by rw[d5];simp[m1 b (r2 b hb)])⟩
   ·refine⟨_,_,_,C,_,_,kk,k,h2,by rw[d5];simp,d6,h3,h4,h5,?_⟩;have Ch:=Ku hf;have AG:k.toNat*z+k'<C.size:=by omega
    have e1:(C.toList.drop (k.toNat*z+k')).take 1=[C[k.toNat*z+k']]:=by rw[Bv (by simpa using AG),List.take_succ_cons,List.take_zero];simp
    rw[hf,Ch,e1];simp[AG]
end
section
variable {P:Program} {c:Cx} {n nx:Nat} {sl sl0:Nat->SV} {hp hp0:Nat->Option Af} {a:Act} {o:Oper} {gs:Gd} {e:Bb} {sg:BZ} {nv:Nat}
theorem BP.cu:∀l:BP,BP.of l.toList=l
 | .nil=>rfl
 | .cons s l=>by simp[BP.toList,BP.of,BP.cu l]
theorem zAt(h:Bz P c n nx sl hp a sl0 hp0 o gs){t:TypeId}{x:Operand}(ho:o.op= .load t x)(he:BU P sg sl0 hp0 nv nx gs o=some e)(hc:∀q∈e.ca,Cn.den c.ρ q):AB P o c n nx sl hp gs a e:=by
 have hm:x∈o.op.operands:=by simp[ho,Op.operands]
 simp only[BU,ho,As,Ar]at he;obtain⟨s,hs,e1,he,rfl⟩:=he;have hr:=(h.ct hs hm).asPtr (λq hq=>hc q (by simp[hq]));have pX:∀q∈e1.ca,Cn.den c.ρ q:=λq hq=>hc q (by simp[hq]);have ex:(execOp a.eval o).run P c.w=((Instr.loadAt t (a.eval x)).run P c.w).andThen λv w=> .ok (.value v) w:=by simp[execOp,ho]
 unfold rL at he;split at he
 ·cases he
 rename_i Bm;have Bm:Dt P t=true:=by simpa using Bm
 generalize A4:(asPtr s).1=s1 at he hr;split at he
 ·rename_i b o';split at he
  ·rename_i ty g cs hl;obtain⟨s2,A7,rfl⟩:=Ar.1 he;generalize ha:a.eval x=v at hr ex;cases hr with
   |ch h1 h2 _=>
    rename_i q;obtain⟨q',C,_,e2,e3,e4,e5,e5',e6⟩:=h.eh b _ (CG hl h.gs);rw[h2]at e2;cases e2;unfold PG at A7;have hlen:=e6.len;split at A7
    ·rename_i AH;split at A7
     ·rename_i hle;simp at A7;subst A7;obtain⟨r1,r2⟩:=e6.split o';obtain⟨r3,r4⟩:=r2.split (P.cellsOf t);have:=SR.agg (cs:=BP.of ((cs.drop o').take (P.cellsOf t))) (λu hu=>e5' u (BO (Br hu))) (by rw[BP.au];exact r3) .nil;refine AB.pure h (v:= .agg ((C.toList.drop o').take (P.cellsOf t)).toArray) ?_ this rfl;rw[ex,RV Bm ((C.toList.drop o').take (P.cellsOf t)) (λ_=>by simp at hlen ⊢;omega) (λh=>by rw[AH]at h;cases h) (λj u hu=>by
       rw[EA e5];rw[List.getElem?_take]at hu;split at hu
       ·simpa using hu
       ·cases hu)]
      simp[AH]
     ·cases A7
    ·rename_i AH;have AH:Ao P t=false:=by simpa using AH
     obtain⟨u,hu,r⟩:=e6.get A7;refine AB.pure h (v:=u) ?_ r rfl;rw[ex,RV Bm [u] (λh=>by rw[AH]at h;cases h) (λ_=>rfl) (λj z hz=>by
      cases j with
      |zero=>simp at hz;subst hz;rw[EA e5];simpa using hu
      |succ j=>simp at hz)]
     simp[AH]
  ·cases he
 ·rename_i b g i sz o';split at he
  ·rename_i e0 sz' g' c0 d hl;split at he
   ·rename_i hh;obtain⟨rfl,rfl,hle,AH⟩:=hh;simp at he;subst he;generalize ha:a.eval x=v at hr ex;cases hr with
    |cq h1 h2 h3 h4 h5 _=>
     rename_i q len cap kk k h6;obtain⟨_,_,N,r1,r2,_,_⟩:=h.eh b _ (CG hl h.gs);obtain⟨f,r3,_,r4⟩:=r1.rd;obtain⟨xs,Ck,Aw,h0,A1⟩:=r1;rw[h2]at r3 A1;have hk:k.toNat<len:=by omega
     have IC:xs.length=len:=by
      rcases A1 with⟨_,⟨_,hv⟩,_⟩|⟨_,_,_,hv,_⟩
      ·cases hv;omega
      ·simp at hv;exact hv.2.1.symm
     have By:((c0.den c.ρ).nth k.toNat).cells.length=sz:=by rw[Ck];exact Aw _ (List.mem_of_getElem? (Nz (xs:=xs) (by omega)))
     obtain⟨v',q',g1,g2,g3⟩:=mS r3 hk By Bm hle AH;refine AB.pure h (v:=v') ?_ (.e (f:=q') ?_ ?_ .nil) rfl
     ·rw[ex];rw[Nat.zero_add]at g1;simp[g1]
     ·simpa[E.den,AV.idx,h3]using g3
     ·exact λz hz=>r2 z (r4 z (g2 z hz))
   ·cases he
  ·rename_i e0 sz' l g' ep c0 hl;split at he
   ·rename_i hh;obtain⟨rfl,rfl,hle,AH⟩:=hh;generalize ha:a.eval x=v at hr ex;have hE:=h.eh b _ (CG hl h.gs);obtain⟨u,k1,k2,k3,k4⟩:=zzH (P:=P) (t:=t) hE hr Bm hle AH;have AQ:(execOp a.eval o).run P c.w= .ok (.value u) c.w:=by rw[ex,k1];rfl
    split at he
    ·rename_i hf;simp only[Ad]at he;subst he;exact AB.pure h AQ (.e (k2 hf) (by simp) .nil) rfl
    ·simp only[Ad]at he;subst he;cases hr with
     |cq h1 _ _ _ _ _=>
      refine AB.pure h AQ (.via h1 (Nat.le_of_eq hE.2.2.1.symm) (λ_=>⟨k3,?_⟩) .nil) rfl;split
      ·exact trivial
      ·rename_i G7;exact k4 (by simpa using G7)
   ·cases he
  ·cases he
 ·rename_i b g m pth y i sz o';split at he
  ·rename_i hh;obtain⟨hle,AH,hv⟩:=hh;have hE:=Sq h.eh h.gs hv;generalize ha:a.eval x=v at hr ex;cases hr with
   |vptr h1 h2 h3 _=>
    obtain⟨q,off,len,cap,kk,k,⟨f,p1,p2⟩,_,p4,p5,p6,p7,rfl⟩:=h3 hE;obtain⟨v',q',g1,g2,g3⟩:=mS (fo:=o') p1 (by omega) p7 Bm hle AH;have AQ:(execOp a.eval o).run P c.w= .ok (.value v') c.w:=by rw[ex];simp[g1]
    have Co:Rd c.w [v'] [(E.fld (.idx y i) o' (P.cellsOf t) (Ao P t)).den c.ρ] q':=by simpa[E.den,AV.idx,p4]using g3
    split at he
    ·simp only[Ad]at he;subst he;obtain⟨f1,f2,f3,f4⟩:=Ch pX;have hq:q'=[]:=by
      cases hg:Ao P t with
      |true=>obtain⟨cs,Bx⟩:=f3 hg;obtain⟨as_,rfl,_,r⟩:=Kj Co Bx;exact Hv r (by rw[Bx]at f2;exact f2)
      |false=>exact Hv Co (by simpa using f4 hg)
     subst hq;exact AB.pure h AQ (.e Co (by simp) .nil) rfl
    ·simp only[Ad]at he;subst he;exact AB.pure h AQ (.via h1 h2 (λ_=>⟨⟨q',Co,λz hz=>p2 z (List.mem_of_mem_tail (g2 z hz))⟩,trivial⟩) .nil) rfl
  ·cases he
 ·rename_i y i sz o';split at he
  ·rename_i hh;obtain⟨hle,AH⟩:=hh;simp at he;subst he;generalize ha:a.eval x=v at hr ex;cases hr with
   |dd h1 h2 h3 h4 h5 h6 _=>rename_i q off len cap f kk k;obtain⟨v',q',g1,g2,g3⟩:=mS (fo:=o') h1 (by omega) h6 Bm hle AH;refine AB.pure h (v:=v') ?_ (.e (f:=q') (by simpa[E.den,AV.idx,h3]using g3) (λz hz=>h2 z (List.mem_of_mem_tail (g2 z hz))) .nil) rfl;rw[ex];simp[g1]
  ·cases he
 ·rename_i y o';split at he
  ·rename_i AH;simp at he;subst he;generalize ha:a.eval x=v at hr ex;cases hr with
   |da h1 h2 _=>
    rename_i q f;obtain⟨z,hz,hle⟩:=Ch pX;rw[hz]at h1;cases h1 with
    |ref hb Cc GP DS=>
     rename_i C ty fz f1 f2;obtain⟨q',g1,g2⟩:=GP.gy Cc o' (P.cellsOf t) (Ao P t) hle (λh=>by rcases AH with h'|h';rw[h]at h';cases h';exact h');have Mx:((C.toList.drop o').take (P.cellsOf t)).length=P.cellsOf t:=by have:=GP.len;rw[Au,BD];omega
     refine AB.pure h ?_ (.e (f:=q') (by simpa[E.den,hz,AV.deref]using g2) (λz hz=>h2 z (by simp[g1 z hz])) .nil) rfl;rw[ex,RV Bm ((C.toList.drop o').take (P.cellsOf t)) (λ_=>Mx) (λh=>by rw[Mx];rcases AH with h'|h';rw[h]at h';cases h';exact h') (λj u hu=>by
       rw[EA hb];rw[List.getElem?_take]at hu;split at hu
       ·simpa using hu
       ·cases hu)]
     simp
  ·cases he
 ·cases he
end
theorem Pq(k:IntKind)(n:Int):E3 k n↔k.min<=n/\n<=k.max:=by unfold E3;cases k<;>simp only[IntKind.wrap,IntKind.bits,IntKind.signed,IntKind.min,IntKind.max]<;>simp<;>(try split)<;>omega
theorem mX(k:IntKind)(n:Int):E3 k (k.wrap n):=by rw[Pq];cases k<;>simp only[IntKind.wrap,IntKind.bits,IntKind.signed,IntKind.min,IntKind.max]<;>simp<;>(try split)<;>omega
theorem zB4{k:IntKind}{x y:Int}(h:E3 k x):E3 k (x.tmod y):=by
 rw[Pq]at h ⊢;have h1:(x.tmod y).natAbs<=x.natAbs:=by rw[Int.natAbs_tmod];exact Nat.mod_le _ _
 have h2:0<=x->0<=x.tmod y:=Int.tmod_nonneg y;have Lk:k.min<=0:=by cases k<;>decide
 have Fl:0<=k.max:=by cases k<;>decide
 constructor
 ·by_cases h0:0<=x
  ·have:=h2 h0;omega
  ·omega
 ·by_cases h0:0<=x
  ·omega
  ·have h3:x.tmod y<=0:=by
    have:=Int.tmod_nonneg (a:= -x) y (by omega);rw[Int.neg_tmod]at this;omega
   omega
theorem zBt{k:IntKind}{x:Int}(m:Nat)(h:E3 k x):E3 k (x.fdiv (2^m)):=by
 rw[Pq]at h ⊢;have hp:(0:Int)<2^m:=Int.pow_pos (by decide);rw[Int.fdiv_eq_ediv_of_nonneg _ (Int.le_of_lt hp)];have Lk:k.min<=0:=by cases k<;>decide
 have Fl:0<=k.max:=by cases k<;>decide
 have h1:(1:Int)<=2^m:=hp;constructor
 ·rcases Int.le_total 0 x with h0|h0
  ·have:=Int.ediv_nonneg h0 (Int.le_of_lt hp);omega
  ·have:x<=x/2^m:=by
    rw[Int.le_ediv_iff_mul_le hp];have:=Int.mul_le_mul_of_nonpos_left h0 h1;omega
   omega
 ·rcases Int.le_total 0 x with h0|h0
  ·have:=Int.ediv_le_self (2^m) h0;omega
  ·have h2:x/2^m<=0:=by
    have:=Int.ediv_le_ediv hp h0;simpa using this
   omega
section
variable {P:Program} {c:Cx} {n nx:Nat} {sl sl0:Nat->SV} {hp hp0:Nat->Option Af} {a:Act} {o:Oper} {gs:Gd} {e:Bb} {sg:BZ} {nv:Nat}
def AV.val:AV->Value
 | .int k n=> .int k n
 | .bool b=> .bool b
 | .str s=> .string ⟨s.toArray⟩
 |_=>Go.undef
theorem zx3{op:BinOp}{k k':IntKind}{x y:Int}(hk:k=k'\/op= .shl\/op= .shr)(hz:op= .quo\/op= .rem->y≠0)(hs:op= .shl\/op= .shr->0<=y)(t:TypeId)(p q:Operand)(w:World):
  (do eqGuard op t p q (.int k x) (.int k' y);binOp op t (.int k x) (.int k' y):Sem Value).run P w= .ok (Cw op k x y).val w:=by
 have hg:=eqGuard_at_int op t p q (.int k' y) k x;cases op<;>simp only[reduceCtorEq,or_false,or_true,or_self]at hk hz hs<;>simp only[hg]
 all_goals first
  |(subst hk;simp[binOp,Op.intArith,Op.intCmp,Op.intBits,Cw,AV.val];done)
  |(subst hk;have:=hz trivial;simp[binOp,Op.intDiv,Cw,AV.val,this];done)
  |(have:=hs trivial;simp[binOp,Op.shift,Cw,AV.val,Int.not_lt.2 this];done)
theorem zAO{op:BinOp}{k:IntKind}{x y:Int}(hx:E3 k x)(w:World):Rd w [(Cw op k x y).val] [Cw op k x y] []:=by
 cases op<;>simp only[Cw,AV.val]<;>first
  |exact .int (mX _ _) .nil
  |exact .bool .nil
  |exact .int (zB4 hx) .nil
  |exact .int (zBt _ hx) .nil
theorem Rd.gi{w:World}{v:Value}{x:AV}{f:List Nat}(h:Rd w [v] [x] f):x≠ .undef:=by rintro rfl;cases h
theorem mR{ρ:List AV}:∀(x:E) {k:IntKind},Cy x=some k->x.den ρ≠ .undef-> ∃m,x.den ρ= .int k m
 | .int k n,_,h,_=>by simp[Cy]at h;subst h;exact⟨n,rfl⟩
 | .len y,_,h,hd=>by
  simp[Cy]at h;subst h;simp only[E.den,AV.len]at hd ⊢;split at hd
  ·exact⟨_,rfl⟩
  ·exact absurd rfl hd
 | .slen y,_,h,hd=>by
  simp[Cy]at h;subst h;simp only[E.den,AV.slen]at hd ⊢;split at hd
  ·exact⟨_,rfl⟩
  ·exact absurd rfl hd
 | .conv k y,_,h,hd=>by
  simp[Cy]at h;subst h;simp only[E.den,AV.conv]at hd ⊢;split at hd
  ·exact⟨_,rfl⟩
  ·exact absurd rfl hd
 | .bin op x y,k,h,hd=>by
  simp only[E.den]at hd ⊢;have hx:x.den ρ≠ .undef:=by rintro hh;rw[hh]at hd;exact hd (by simp[AV.bin])
  cases op<;>simp only[Cy,reduceCtorEq]at h
  all_goals
   obtain⟨m,hm⟩:=mR x h hx;rw[hm]at hd ⊢;cases hy:y.den ρ<;>rw[hy]at hd<;>simp only[AV.bin]at hd ⊢ <;>first
    |exact absurd rfl hd
    |(split at hd
      ·rename_i hk;rw[if_pos hk];exact⟨_,rfl⟩
      ·exact absurd rfl hd)
 | .var _,_,h,_=>by simp[Cy]at h
 | .bool _,_,h,_=>by simp[Cy]at h
 | .str _,_,h,_=>by simp[Cy]at h
 | .dj,_,h,_=>by simp[Cy]at h
 | .lst _,_,h,_=>by simp[Cy]at h
 | .mk _,_,h,_=>by simp[Cy]at h
 | .tup _,_,h,_=>by simp[Cy]at h
 | .ref _,_,h,_=>by simp[Cy]at h
 | .fn ..,_,h,_=>by simp[Cy]at h
 | .fld ..,_,h,_=>by simp[Cy]at h
 | .proj ..,_,h,_=>by simp[Cy]at h
 | .deref _,_,h,_=>by simp[Cy]at h
 | .idx ..,_,h,_=>by simp[Cy]at h
 | .sidx ..,_,h,_=>by simp[Cy]at h
 | .win ..,_,h,_=>by simp[Cy]at h
 | .swin ..,_,h,_=>by simp[Cy]at h
 | .app ..,_,h,_=>by simp[Cy]at h
 | .set ..,_,h,_=>by simp[Cy]at h
 | .put ..,_,h,_=>by simp[Cy]at h
 | .rep ..,_,h,_=>by simp[Cy]at h
 | .sbin ..,_,h,_=>by simp[Cy]at h
 | .bbin ..,_,h,_=>by simp[Cy]at h
 | .not _,_,h,_=>by simp[Cy]at h
 | .neg _,_,h,_=>by simp[Cy]at h
 | .ite ..,_,h,_=>by simp[Cy]at h
 | .bytes _,_,h,_=>by simp[Cy]at h
 | .text _,_,h,_=>by simp[Cy]at h
end
section
variable {P:Program} {c:Cx} {n nx:Nat} {sl sl0:Nat->SV} {hp hp0:Nat->Option Af} {a:Act} {o:Oper} {gs:Gd} {e:Bb} {sg:BZ} {nv:Nat}
theorem H0{s:SV}{v:Value}{x:E}(h:SR c [s] [v])(hx:FE s=some x):∃f,Rd c.w [v] [x.den c.ρ] f/\ ∀b∈f,c.ok b:=by
 cases s<;>simp only[FE,Ad,reduceCtorEq]at hx;subst hx;cases h with
 |e h1 h2 _=>exact⟨_,h1,h2⟩
theorem SR.cx{v:Value}{x:E}(h:Rd c.w [v] [x.den c.ρ] []):SR c [.e x] [v]:= .e h (by simp) .nil
theorem zyz{ρ:List AV}{op:BinOp}{x y:E}{w:World}{v u:Value}{f g:List Nat}(h1:Rd w [v] [x.den ρ] f)(h2:Rd w [u] [y.den ρ] g)(hd:Sf (.bin op x y)=true->(E.bin op x y).den ρ≠ .undef):
  ∃k k' p q,x.den ρ= .int k p/\y.den ρ= .int k' q/\(k=k'\/op= .shl\/op= .shr)/\(E.bin op x y).den ρ=Cw op k p q/\E3 k p/\v= .int k p/\u= .int k' q:=by
 have key:(∃k k' p q,x.den ρ= .int k p/\y.den ρ= .int k' q/\(k=k'\/op= .shl\/op= .shr)):=by
  by_cases hn:Sf (.bin op x y)=true
  ·have:=hd hn;simp only[E.den]at this;cases hx:x.den ρ<;>cases hy:y.den ρ<;>simp only[hx,hy,AV.bin,ne_eq,not_true_eq_false]at this;split at this
   ·exact⟨_,_,_,_,rfl,rfl,by assumption⟩
   ·exact absurd rfl this
  ·have hn:Sf (.bin op x y)=false:=by simpa using hn
   have hk:(Cy x).isSome=true/\(Cy x==Cy y)=true:=by cases op<;>simp[Sf]at hn<;>simpa using hn
   obtain⟨k,GM⟩:=Option.isSome_iff_exists.1 hk.1;have hk2:Cy y=some k:=by rw[<-AK.1 hk.2,GM]
   obtain⟨p,hp⟩:=mR x GM h1.gi;obtain⟨q,hq⟩:=mR y hk2 h2.gi;exact⟨k,k,p,q,hp,hq, .inl rfl⟩
 obtain⟨k,k',p,q,hp,hq,Mw⟩:=key;obtain⟨hv,Cd⟩:=F1 h1 hp;obtain⟨hu,_⟩:=F1 h2 hq;exact⟨k,k',p,q,hp,hq,Mw,by simp only[E.den,hp,hq,AV.bin,if_pos Mw],Cd,hv,hu⟩
theorem ztq(a b:ByteArray):(a.toList==b.toList)=(a.data.toList==b.data.toList):=by rw[ByteArray.toList_eq,ByteArray.toList_eq]
theorem ztH{α β γ:Type}(r:Result α)(f:α->World->Result β)(g:β->World->Result γ):(r.andThen f).andThen g=r.andThen λa w=>(f a w).andThen g:=by cases r<;>rfl
theorem lV(d:Nat){t:TypeId}(p q:Bool)(h:P.underlying t=some .bool)(w:World):(Op.equalIn (d+1) t (.bool p) (.bool q)).run P w= .ok (p==q) w:=by simp[Op.equalIn,run_underlying h]
theorem zys{t:TypeId}(p q:Bool)(h:P.underlying t=some .bool)(w:World):(binOp .eql t (.bool p) (.bool q)).run P w= .ok (.bool (p==q)) w:=by simp only[binOp];simp[Op.equal,Op.maxDepth,lV 9999 p q h]
theorem zyh{t:TypeId}(p q:Bool)(h:P.underlying t=some .bool)(w:World):(binOp .neq t (.bool p) (.bool q)).run P w= .ok (.bool (!(p==q))) w:=by simp only[binOp];simp[Op.equal,Op.maxDepth,lV 9999 p q h]
theorem PF{op:BinOp}{t ty:TypeId}{x y:Operand}(ho:o.op= .binOp op t x y ty)(w:World){v u:Value}(hv:a.eval x=v)(hu:a.eval y=u):
  (execOp a.eval o).run P w=((do eqGuard op t x y v u;binOp op t v u:Sem Value).run P w).andThen λv w=> .ok (.value v) w:=by
 simp only[execOp,ho,hv,hu,Sem.run_bind,ztH,Sem.run_pure]
theorem uN(h:Bz P c n nx sl hp a sl0 hp0 o gs){op:BinOp}{t el:TypeId}{x y:Operand}{ty:TypeId}(ho:o.op= .binOp op t x y ty)(hu:P.underlying t=some (.slice el))(r1:SR c [.cc] [a.eval x])(r2:SR c [.cc] [a.eval y])
  (AT:op= .eql\/op= .neq):AB P o c n nx sl hp gs a {val:= .e (.bool (op== .eql))}:=by
 have ex:=λ(v u:Value) (hv:a.eval x=v) (hu:a.eval y=u)=>PF (P:=P) (o:=o) ho c.w hv hu;generalize FA:a.eval x=v1 at r1;generalize De:a.eval y=v2 at r2;cases r1 with
 |cc _=>cases r2 with
  |cc _=>
   refine AB.pure h (v:= .bool (op== .eql)) ?_ (.cx (.bool .nil)) rfl;rw[ex _ _ FA De,eqGuard_at_slice];rcases AT with rfl|rfl
   ·simp[run_eql_nil_slice c.w t el none 0 0 0 0 hu]
   ·simp[run_neq_nil_slice c.w t el none 0 0 0 0 hu]
theorem zv8(h:Bz P c n nx sl hp a sl0 hp0 o gs){op:BinOp}{t:TypeId}{x y:Operand}{ty:TypeId}(ho:o.op= .binOp op t x y ty){s1 s2:SV}(r1:SR c [s1] [a.eval x])(r2:SR c [s2] [a.eval y])
  {x' y':E} (DU:FE s1=some x') (BN:FE s2=some y') (hd:Sf (.bin op x' y')=true->Cn.den c.ρ (.dfd (.bin op x' y'))) (hnz:op= .quo\/op= .rem->Cn.den c.ρ (.nz y')) (hnn:op= .shl\/op= .shr->Cn.den c.ρ (.nn y')) {ck:List Cn}:
  AB P o c n nx sl hp gs a {ca:=ck,val:= .e (.bin op x' y')}:=by
 obtain⟨f1,g1,_⟩:=H0 r1 DU;obtain⟨f2,g2,_⟩:=H0 r2 BN;obtain⟨k,k',p,q,e1,e2,Mw,e3,Cd,hv,FQ⟩:=zyz (op:=op) g1 g2 hd;refine AB.pure h (v:=(Cw op k p q).val) ?_ (.cx (by rw[e3];exact zAO Cd _)) rfl;rw[PF ho c.w hv FQ,zx3 Mw (λAT=> ?_) (λAT=> ?_)]
 ·simp
 ·obtain⟨_,m,hm,Cj⟩:=hnz AT;rw[e2]at hm;cases hm;exact Cj
 ·obtain⟨_,m,hm,Cj⟩:=hnn AT;rw[e2]at hm;cases hm;exact Cj
theorem zu6(h:Bz P c n nx sl hp a sl0 hp0 o gs){op:BinOp}{t:TypeId}{x y:Operand}{ty:TypeId}(ho:o.op= .binOp op t x y ty){s1 s2:SV}(r1:SR c [s1] [a.eval x])(r2:SR c [s2] [a.eval y])
  {x' y':E} (DU:FE s1=some x') (BN:FE s2=some y') (hd:Cn.den c.ρ (.dfd (.sbin op x' y'))) (BQ:op= .add->Cn.den c.ρ (.roomS x' y')) {ck:List Cn}:
  AB P o c n nx sl hp gs a {ca:=ck,val:= .e (.sbin op x' y')}:=by
 obtain⟨f1,g1,_⟩:=H0 r1 DU;obtain⟨f2,g2,_⟩:=H0 r2 BN;have hd:AV.sbin op (x'.den c.ρ) (y'.den c.ρ)≠ .undef:=hd;cases hx:x'.den c.ρ<;>cases hy:y'.den c.ρ<;>simp only[hx,hy,AV.sbin,ne_eq,not_true_eq_false]at hd;obtain⟨b1,FA,rfl,_⟩:=SH g1 hx;obtain⟨b2,De,rfl,_⟩:=SH g2 hy;have hle:op= .add->b1.size+b2.size<=9223372036854775807:=λAT=>by obtain⟨p,q,hp,hq,hle⟩:=BQ AT;rw[hx]at hp;rw[hy]at hq;cases hp;cases hq;simpa using hle
 refine AB.pure h (v:=match op with| .add=> .string (b1++b2)|_=>(SF op b1.data.toList b2.data.toList).val) ?_ (.cx ?_) rfl
 ·rw[PF ho c.w FA De,eqGuard_at_string];cases op<;>first
   |(exact absurd rfl hd)
   |(have:=hle rfl;simp[binOp,Op.stringOp];omega)
   |(simp[binOp,Op.stringOp,SF,AV.val,ByteArray.toList_eq,bne];done)
 ·simp only[E.den,hx,hy,AV.sbin];cases op<;>simp only[SF,AV.val,ne_eq,not_true_eq_false]at hd ⊢ <;>first
   |exact .bool .nil
   |(have:=hle rfl
     have h9:=Rd.str (w:=c.w) (s:=b1++b2) (by simpa using this) .nil;simpa using h9)
theorem zuE(h:Bz P c n nx sl hp a sl0 hp0 o gs){op:BinOp}{t:TypeId}{x y:Operand}{ty:TypeId}(ho:o.op= .binOp op t x y ty)(hu:P.underlying t=some .bool){s1 s2:SV}(r1:SR c [s1] [a.eval x])(r2:SR c [s2] [a.eval y])
  {x' y':E} (DU:FE s1=some x') (BN:FE s2=some y') (hd:Cn.den c.ρ (.dfd (.bbin op x' y'))) {ck:List Cn}:
  AB P o c n nx sl hp gs a {ca:=ck,val:= .e (.bbin op x' y')}:=by
 obtain⟨f1,g1,_⟩:=H0 r1 DU;obtain⟨f2,g2,_⟩:=H0 r2 BN;have hd:AV.bbin op (x'.den c.ρ) (y'.den c.ρ)≠ .undef:=hd;cases hx:x'.den c.ρ<;>cases hy:y'.den c.ρ<;>simp only[hx,hy,AV.bbin,ne_eq,not_true_eq_false]at hd;rename_i p q;have FA:=IK g1 hx;have De:=IK g2 hy;refine AB.pure h (v:=(AV.bbin op (.bool p) (.bool q)).val) ?_ (.cx ?_) rfl
 ·rw[PF ho c.w FA De,eqGuard_at_bool];cases op<;>simp only[ne_eq,not_true_eq_false]at hd
  ·simp[zys p q hu,AV.bbin,AV.val]
  ·simp[zyh p q hu,AV.bbin,AV.val,bne]
 ·simp only[E.den,hx,hy];cases op<;>simp only[AV.bbin,AV.val,ne_eq,not_true_eq_false]at hd ⊢ <;>exact .bool .nil
theorem zBP(h:Bz P c n nx sl hp a sl0 hp0 o gs){op:BinOp}{t:TypeId}{x y:Operand}{ty:TypeId}(ho:o.op= .binOp op t x y ty)(MA:∀fs,P.underlying t≠some (.struct fs))(he:BU P sg sl0 hp0 nv nx gs o=some e)(hq:e.b8=none)(hc:∀q∈e.ca,Cn.den c.ρ q):AB P o c n nx sl hp gs a e:=by
 have Dy:x∈o.op.operands:=by simp[ho,Op.operands]
 have CJ:y∈o.op.operands:=by simp[ho,Op.operands]
 simp only[BU,ho,As]at he;obtain⟨s1,BM,s2,A7,he⟩:=he;have r1:=h.ct BM Dy;have r2:=h.ct A7 CJ;unfold SB at he;split at he
 ·rename_i el hu;split at he
  ·simp at he;subst he;exact uN h ho hu r1 r2 (.inl rfl)
  ·simp at he;subst he;exact uN h ho hu r1 r2 (.inr rfl)
  ·obtain⟨_,_,rfl⟩:=Ar.1 he;cases hq
  ·obtain⟨_,_,rfl⟩:=Ar.1 he;cases hq
  ·cases he
 ·rename_i kk hu;split at he
  ·rename_i x' y' DU BN;simp at he;subst he;exact zv8 h ho r1 r2 DU BN (λhn=>hc _ (by simp[hn])) (λAT=>hc _ (by rcases AT with rfl|rfl<;>simp)) (λAT=>hc _ (by rcases AT with rfl|rfl<;>simp))
  ·cases he
 ·rename_i hu;split at he
  ·rename_i x' y' DU BN;simp at he;subst he;exact zu6 h ho r1 r2 DU BN (hc _ (by simp)) (λAT=>hc _ (by subst AT;simp))
  ·cases he
 ·rename_i hu;split at he
  ·rename_i x' y' DU BN;simp at he;subst he;exact zuE h ho hu r1 r2 DU BN (hc _ (by simp))
  ·cases he
 ·rename_i fs hu;exact absurd hu (MA fs)
 ·cases he
end
section
variable {P:Program} {c:Cx} {n nx:Nat} {sl sl0:Nat->SV} {hp hp0:Nat->Option Af} {a:Act} {o:Oper} {gs:Gd} {e:Bb} {sg:BZ} {nv:Nat}
theorem VO{t:TypeId}(h:Dt P t=true)(cs:List Value)(off:Nat)(hle:off+P.cellsOf t<=cs.length)(hg:Ao P t=true\/P.cellsOf t=1)(w:World):
  (part t cs.toArray off).run P w= .ok (if Ao P t then .agg ((cs.drop off).take (P.cellsOf t)).toArray else((cs.drop off).take (P.cellsOf t)).headD Go.undef) w:=by
 cases ha:Ao P t with
 |true=>simp only[part,Sem.run_bind,Vz h,ha,Pe h,Result.andThen_ok,if_true,Sem.run_pure];congr 2;apply Array.ext';rw[Array.toList_extract];simp[Nat.add_sub_cancel_left,List.extract_eq_take_drop]
 |false=>
  have h1:P.cellsOf t=1:=by rcases hg with h'|h';rw[ha]at h';cases h';exact h'
  have AG:off<cs.length:=by omega
  have e1:(cs.drop off).take (P.cellsOf t)=[cs[off]]:=by rw[h1,Bv AG,List.take_succ_cons,List.take_zero]
  rw[e1];simp[part,Vz h,ha,AG]
theorem zyO(h:Bz P c n nx sl hp a sl0 hp0 o gs){t:TypeId}{x:Operand}{f:Nat}(ho:o.op= .field t x f)(he:BU P sg sl0 hp0 nv nx gs o=some e)(hc:∀q∈e.ca,Cn.den c.ρ q):AB P o c n nx sl hp gs a e:=by
 have hm:x∈o.op.operands:=by simp[ho,Op.operands]
 simp only[BU,ho,As]at he;obtain⟨s,hs,he⟩:=he;have hr:=h.ct hs hm;split at he
 ·rename_i fs hu;split at he
  ·rename_i fd hf;split at he
   ·cases he
   ·rename_i Bm;have Bm:Dt P fd.type=true:=by simpa using Bm
    have ex:∀as_:List Value,a.eval x= .agg as_.toArray->(execOp a.eval o).run P c.w=((part fd.type as_.toArray fd.offset).run P c.w).andThen λv w=> .ok (.value v) w:=λas_ hv=>by simp[execOp,ho,Instr.field,run_underlying hu,hf,hv,asAgg]
    split at he
    ·rename_i cs;obtain⟨s2,A7,rfl⟩:=Ar.1 he;generalize hv:a.eval x=v at hr;cases hr with
     |agg r8 r1 r9=>
      rename_i as_;have hlen:=r1.len;unfold PG at A7;split at A7
      ·rename_i AH;split at A7
       ·rename_i hle;simp at A7;subst A7;obtain⟨q1,q2⟩:=r1.split fd.offset;obtain⟨q3,q4⟩:=q2.split (P.cellsOf fd.type);have:=SR.agg (cs:=BP.of ((cs.toList.drop fd.offset).take (P.cellsOf fd.type))) (λu hu=>r8 u (BO (Br hu))) (by rw[BP.au];exact q3) .nil;refine AB.pure h (v:= .agg ((as_.drop fd.offset).take (P.cellsOf fd.type)).toArray) ?_ this rfl;rw[ex as_ hv,VO Bm as_ fd.offset (by omega) (.inl AH)];simp[AH]
       ·cases A7
      ·rename_i AH;have AH:Ao P fd.type=false:=by simpa using AH
       obtain⟨u,FQ,r⟩:=r1.get A7;refine AB.pure h (v:=u) ?_ r rfl;rw[ex as_ hv];simp[part,Vz Bm,AH,FQ]
    ·rename_i y;split at he
     ·rename_i hh;obtain⟨hle,AH⟩:=hh;simp at he;subst he;generalize hv:a.eval x=v at hr;cases hr with
      |e h1 h2 _=>
       rename_i f1;obtain⟨cs,Bx,Aw⟩:=Ch hc;obtain⟨as_,rfl,Ox,DS⟩:=Kj h1 Bx;have hlen:=DS.len;have F9:(y.den c.ρ).cells=cs:=by rw[Bx];rfl
       rw[<-F9]at DS;obtain⟨q,g1,g2⟩:=DS.gy Ox fd.offset (P.cellsOf fd.type) (Ao P fd.type) (by rw[F9];omega) (λhh=>by rcases AH with h'|h';rw[hh]at h';cases h';exact h');refine AB.pure h ?_ (.e (f:=q) (by simpa[E.den]using g2) (λz hz=>h2 z (g1 z hz)) .nil) rfl;rw[ex as_ hv,VO Bm as_ fd.offset (by omega) AH];simp
     ·cases he
    ·rename_i b g m pth y;split at he
     ·rename_i hh;obtain⟨hle,AH,T4⟩:=hh;have hE:=Sq h.eh h.gs T4;generalize hv:a.eval x=v at hr;have Io:Cn.den c.ρ (.agg y (P.cellsOf t)):=by
       split at he<;>(simp only[Ad]at he;subst he;exact Ch hc)
      cases hr with
      |via h1 h2 h3 _=>
       obtain⟨⟨f1,p1,p2⟩,_⟩:=h3 hE;obtain⟨cs,Bx,Aw⟩:=Io;obtain⟨as_,rfl,Ox,DS⟩:=Kj p1 Bx;have hlen:=DS.len;have F9:(y.den c.ρ).cells=cs:=by rw[Bx];rfl
       rw[<-F9]at DS;obtain⟨q,g1,g2⟩:=DS.gy Ox fd.offset (P.cellsOf fd.type) (Ao P fd.type) (by rw[F9];omega) (λhh=>by rcases AH with h'|h';rw[hh]at h';cases h';exact h');have AQ:=ex as_ hv;rw[VO Bm as_ fd.offset (by omega) AH]at AQ;simp only[Result.andThen_ok]at AQ;have Co:Rd c.w _ [(E.fld y fd.offset (P.cellsOf fd.type) (Ao P fd.type)).den c.ρ] q:=g2;split at he
       ·simp only[Ad]at he;subst he;obtain⟨e1,e2,e3,e4⟩:=hc (.flat (.fld y fd.offset (P.cellsOf fd.type) (Ao P fd.type)) (P.cellsOf fd.type) (Ao P fd.type)) (by simp);have hq:q=[]:=by
         cases hg:Ao P fd.type with
         |true=>obtain⟨cs,Bx⟩:=e3 hg;obtain⟨as_,_,_,r⟩:=Kj Co Bx;exact Hv r (by rw[Bx]at e2;exact e2)
         |false=>exact Hv Co (by simpa using e4 hg)
        subst hq;exact AB.pure h AQ (.e Co (by simp) .nil) rfl
       ·simp only[Ad]at he;subst he;exact AB.pure h AQ (.via h1 h2 (λ_=>⟨⟨q,Co,λz hz=>p2 z (g1 z hz)⟩,trivial⟩) .nil) rfl
     ·cases he
    ·cases he
  ·cases he
 ·cases he
theorem Sc{v:Value}{x:AV}{m:Int}{w:World}{f:List Nat}(h:Rd w [v] [x] f)(hx:x.len= .int .i64 m):(∃a c,v= .slice a 0 c/\m=0)\/ ∃b o k c,v= .slice (some ⟨b,o,none⟩) k c/\m=k:=by
 rcases h.kind with h|h|h|h|h|h|h|h|h|h
 ·obtain⟨_,_,_,rfl,_⟩:=h;simp[AV.len]at hx
 ·obtain⟨_,_,rfl,_⟩:=h;simp[AV.len]at hx
 ·obtain⟨_,_,rfl,_⟩:=h;simp[AV.len]at hx
 ·obtain⟨q,r,rfl,rfl,_⟩:=h;simp[AV.len]at hx;exact .inl ⟨q,r,rfl,by omega⟩
 ·obtain⟨b,o,k,r,ys,_,_,_,_,_,_,rfl,rfl,_,_,_,_,hl,_⟩:=h;simp[AV.len]at hx;exact .inr ⟨b,o,k,r,rfl,by omega⟩
 ·obtain⟨_,_,_,rfl,_⟩:=h;simp[AV.len]at hx
 ·obtain⟨_,_,_,rfl,_⟩:=h;simp[AV.len]at hx
 ·obtain⟨_,_,_,_,_,_,_,rfl,_⟩:=h;simp[AV.len]at hx
 ·obtain⟨_,_,_,_,rfl,_⟩:=h;simp[AV.len]at hx
 ·obtain⟨_,rfl,_⟩:=h;simp[AV.len]at hx
theorem RS{t el:TypeId}(hu:P.underlying t=some (.slice el))(hz:P.cellsOf el≠0){b off len cap:Nat}{kk:IntKind}{k:Int}(h0:0<=k)(h1:k<len)(w:World):
  (Instr.indexAt t (.slice (some ⟨b,off,none⟩) len cap) (.int kk k)).run P w= .ok (.pointer (some ⟨b,off+k.toNat*P.cellsOf el,none⟩)) w:=by
 simp[Instr.indexAt,run_underlying hu,asIntOf,h0,h1,wM hz,Addr.add_lit]
theorem w8(h:Bz P c n nx sl hp a sl0 hp0 o gs){t:TypeId}{x i:Operand}(ho:o.op= .indexAddr t x i\/o.op= .index t x i){s1 s2:SV}(BM:BK sl0 gs x=some s1)(A7:BK sl0 gs i=some s2)
  (AT:(∃el,P.underlying t=some (.slice el))->o.op= .indexAddr t x i) (dF:P.underlying t=some .string->o.op= .index t x i)
  (he:ZY P hp0 gs t s1 s2=some e) (hc:∀q∈e.ca,Cn.den c.ρ q):AB P o c n nx sl hp gs a e:=by
 have Dy:x∈o.op.operands:=by rcases ho with ho|ho<;>simp[ho,Op.operands]
 have CJ:i∈o.op.operands:=by rcases ho with ho|ho<;>simp[ho,Op.operands]
 have r1:=h.ct BM Dy;have r2:=h.ct A7 CJ;unfold ZY at he;split at he
 ·rename_i el k hu;have TN:=AT ⟨el,hu⟩;have ex:(execOp a.eval o).run P c.w=((Instr.indexAt t (a.eval x) (a.eval i)).run P c.w).andThen λv w=> .ok (.value v) w:=by simp[execOp,TN]
  split at he
  ·cases he
  rename_i hz;obtain⟨fk,GM,_⟩:∃f,Rd c.w [a.eval i] [k.den c.ρ] f/\ ∀b∈f,c.ok b:=by
   generalize a.eval i=v at r2;cases r2 with
   |e h1 h2 _=>exact⟨_,h1,h2⟩
  split at he
  ·rename_i b g;split at he
   ·rename_i e0 sz g' c0 d hl;split at he
    ·rename_i hh;obtain⟨rfl,rfl⟩:=hh;simp at he;subst he;obtain⟨kk,kv,m,e1,e2,e3,e4,e5⟩:=Ch hc;obtain⟨Iv,_⟩:=F1 GM e1;generalize hv:a.eval x=v at r1 ex;cases r1 with
     |own hK Ml _=>
      obtain⟨_,_,N,q1,q2,_,_⟩:=h.eh b _ (CG hl h.gs);obtain⟨xs,Ck,Aw,h0,A1⟩:=q1;rw[Ck]at e3;simp only[AV.len,AV.int.injEq,true_and]at e3;rcases A1 with⟨rfl,_⟩|⟨g9,cap,C,hH,_⟩
      ·simp at e3;omega
      ·refine AB.pure h (v:= .pointer (some ⟨g9,kv.toNat*P.cellsOf el+0,none⟩)) ?_ (.cq hK hH e1 e2 (by omega) .nil) rfl;rw[Ml]at hH;cases hH;rw[ex,Iv,RS hu hz e2 (by omega)];simp
    ·cases he
   ·rename_i g' c0 hl;split at he
    ·rename_i hh;subst hh;simp at he;subst he;obtain⟨kk,kv,m,e1,e2,e3,e4,e5⟩:=Ch hc;obtain⟨Iv,_⟩:=F1 GM e1;generalize hv:a.eval x=v at r1 ex;cases r1 with
     |own hK Ml _=>
      obtain⟨_,⟨f,q1,q2⟩,_,_⟩:=h.eh b _ (CG hl h.gs);rcases Sc q1 e3 with⟨_,_,_,hm⟩|⟨b9,off9,len9,cap9,hH,hm⟩
      ·omega
      ·rw[Ml]at hH;cases hH;rw[Ml]at q1;refine AB.pure h (v:= .pointer (some ⟨b9,off9+kv.toNat*P.cellsOf el+0,none⟩)) ?_ (.dd q1 q2 e1 e2 (by omega) e5 .nil) rfl;rw[ex,Iv,RS hu hz e2 (by omega)];simp
    ·cases he
   ·rename_i e0 sz dl g' ep c0 hl;split at he
    ·rename_i hh;obtain⟨rfl,rfl⟩:=hh;simp at he;subst he;obtain⟨kk,kv,m,e1,e2,e3,e4,e5⟩:=Ch hc;obtain⟨Iv,_⟩:=F1 GM e1;generalize hv:a.eval x=v at r1 ex;cases r1 with
     |own hK Ml _=>
      obtain⟨_,_,_,q1,_⟩:=h.eh b _ (CG hl h.gs);obtain⟨_,_,⟨a9,d3,d4,_⟩|⟨g9,cap,C,ys,N1,hH,d4,_⟩⟩:=q1.inv
      ·rw[d4]at e3;simp[AV.len]at e3;omega
      ·rw[d4]at e3;simp only[AV.len,AV.int.injEq,true_and]at e3;refine AB.pure h (v:= .pointer (some ⟨g9,kv.toNat*P.cellsOf el+0,none⟩)) ?_ (.cq hK hH e1 e2 (by omega) .nil) rfl;rw[Ml]at hH;cases hH;rw[ex,Iv,RS hu hz e2 (by omega)];simp
    ·cases he
   ·rename_i e0 sz dl g' ep c0 ih oh uh hl;split at he
    ·rename_i hh;obtain⟨rfl,rfl⟩:=hh;simp at he;subst he;obtain⟨kk,kv,m,e1,e2,e3,e4,e5⟩:=Ch hc;obtain⟨Iv,_⟩:=F1 GM e1;generalize hv:a.eval x=v at r1 ex;cases r1 with
     |own hK Ml _=>obtain⟨_,_,_,⟨g9,cap,C,ys,_,_,_,_,hH,d4,_⟩,_⟩:=h.eh b _ (CG hl h.gs);rw[d4]at e3;simp only[AV.len,AV.int.injEq,true_and]at e3;refine AB.pure h (v:= .pointer (some ⟨g9,kv.toNat*P.cellsOf el+0,none⟩)) ?_ (.cq hK hH e1 e2 (by omega) .nil) rfl;rw[Ml]at hH;cases hH;rw[ex,Iv,RS hu hz e2 (by omega)];simp
    ·cases he
   ·cases he
  ·rename_i y;simp at he;subst he;obtain⟨kk,kv,m,e1,e2,e3,e4,e5⟩:=Ch hc;obtain⟨Iv,_⟩:=F1 GM e1;generalize hv:a.eval x=v at r1 ex;cases r1 with
   |e q1 q2 _=>
    rcases Sc q1 e3 with⟨_,_,_,hm⟩|⟨b9,off9,len9,cap9,rfl,hm⟩
    ·omega
    ·refine AB.pure h (v:= .pointer (some ⟨b9,off9+kv.toNat*P.cellsOf el+0,none⟩)) ?_ (.dd q1 q2 e1 e2 (by omega) e5 .nil) rfl;rw[ex,Iv,RS hu hz e2 (by omega)];simp
  ·rename_i b g m pth y;split at he
   ·rename_i T4;simp at he;subst he;have hE:=Sq h.eh h.gs T4;obtain⟨kk,kv,mm,e1,e2,e3,e4,e5⟩:=Ch hc;obtain⟨Iv,_⟩:=F1 GM e1;generalize hv:a.eval x=v at r1 ex;cases r1 with
    |via q1 q2 q3 _=>
     obtain⟨⟨f,p1,p2⟩,p3⟩:=q3 hE;rcases Sc p1 e3 with⟨_,_,_,hm⟩|⟨b9,off9,len9,cap9,rfl,hm⟩
     ·omega
     ·refine AB.pure h (v:= .pointer (some ⟨b9,off9+kv.toNat*P.cellsOf el+0,none⟩)) ?_ (.vptr q1 q2 (λ_=>⟨b9,off9,len9,cap9,kk,kv,⟨f,p1,p2⟩,p3,e1,e2,by omega,e5,rfl⟩) .nil) rfl;rw[ex,Iv,RS hu hz e2 (by omega)];simp
   ·cases he
  ·cases he
 ·rename_i k hu;have TN:=dF hu;obtain⟨fk,GM,_⟩:∃f,Rd c.w [a.eval i] [k.den c.ρ] f/\ ∀b∈f,c.ok b:=by
   generalize a.eval i=v at r2;cases r2 with
   |e h1 h2 _=>exact⟨_,h1,h2⟩
  split at he
  ·rename_i y;simp at he;subst he;obtain⟨kk,kv,s,e1,e2,e3,e4⟩:=Ch hc;obtain⟨Iv,_⟩:=F1 GM e1;generalize hv:a.eval x=v at r1;cases r1 with
   |e q1 q2 _=>
    obtain⟨bs,rfl,rfl,hle⟩:=SH q1 e2;have AG:kv.toNat<bs.data.toList.length:=by omega
    have cS:kv.toNat<bs.size:=by simpa using AG
    refine AB.pure h (v:= .int .u8 (bs[kv.toNat]).toNat) ?_ (.cx ?_) rfl
    ·simp[execOp,TN,Instr.index,hv,Iv,asIntOf,run_underlying hu,e3,cS]
    ·simp only[E.den,e1,e2,AV.sidx];have:bs.data.toList[kv.toNat]?=some (bs[kv.toNat]):=by
      rw[Bg AG];simp[ByteArray.getElem_eq_getElem_data]
     rw[this];refine .int ?_ .nil;rw[Pq];have:=(bs[kv.toNat]).toNat_lt;simp[IntKind.min,IntKind.max,IntKind.signed,IntKind.bits];omega
  ·cases he
 ·cases he
theorem zsc(h:Bz P c n nx sl hp a sl0 hp0 o gs){t:TypeId}{x i:Operand}(ho:o.op= .indexAddr t x i)(MA:P.underlying t≠some .string)(he:BU P sg sl0 hp0 nv nx gs o=some e)(hc:∀q∈e.ca,Cn.den c.ρ q):AB P o c n nx sl hp gs a e:=by
 simp only[BU,ho,As]at he;obtain⟨s1,BM,s2,A7,he⟩:=he;split at he
 ·cases he
 exact w8 h (.inl ho) BM A7 (λ_=>ho) (λhh=>absurd hh MA) he hc
theorem zvv(h:Bz P c n nx sl hp a sl0 hp0 o gs){t:TypeId}{x i:Operand}(ho:o.op= .index t x i)(MA:P.underlying t=some .string)(he:BU P sg sl0 hp0 nv nx gs o=some e)(hc:∀q∈e.ca,Cn.den c.ρ q):AB P o c n nx sl hp gs a e:=by
 simp only[BU,ho,As]at he;obtain⟨s1,BM,s2,A7,he⟩:=he;split at he
 ·exact w8 h (.inr ho) BM A7 (λ⟨el,hh⟩=>by rw[MA]at hh;cases hh) (λ_=>ho) he hc
 ·cases he
theorem zvK(h:Bz P c n nx sl hp a sl0 hp0 o gs){x:Operand}{i:Nat}(ho:o.op= .extract x i)(he:BU P sg sl0 hp0 nv nx gs o=some e)(hc:∀q∈e.ca,Cn.den c.ρ q):AB P o c n nx sl hp gs a e:=by
 have hm:x∈o.op.operands:=by simp[ho,Op.operands]
 simp only[BU,ho,As]at he;obtain⟨s,hs,he⟩:=he;have hr:=h.ct hs hm;generalize hv:a.eval x=v at hr;have ex:∀(as_:List Value) u,v= .tuple as_.toArray->as_[i]?=some u->(execOp a.eval o).run P c.w= .ok (.value u) c.w:=λas_ u eD hu=>by simp[execOp,ho,Instr.extract,hv,eD,hu]
 split at he
 ·rename_i vs;obtain⟨s2,A7,rfl⟩:=Ar.1 he;cases hr with
  |tup r1 r9=>obtain⟨u,hu,r⟩:=r1.get A7;exact AB.pure h (ex _ u rfl hu) r rfl
 ·rename_i y;simp at he;subst he;cases hr with
  |e q1 q2 _=>
   have hd:(y.den c.ρ).proj i≠ .undef:=Ch hc;cases hy:y.den c.ρ<;>simp only[hy,AV.proj,ne_eq,not_true_eq_false]at hd;rename_i cs;obtain⟨as_,rfl,r1⟩:=zFl q1 hy;cases Tj:cs[i]? with
   |none=>simp[Tj]at hd
   |some z=>obtain⟨u,g,hu,hg,Da⟩:=r1.at Tj;exact AB.pure h (ex as_ u rfl hu) (.e (f:=g) (by simpa[E.den,hy,AV.proj,Tj]using Da) (λb hb=>q2 b (hg b hb)) .nil) rfl
 ·cases he
theorem zCG(h:Bz P c n nx sl hp a sl0 hp0 o gs){x:Operand}{t:TypeId}(ho:o.op= .unOp .not t x)(he:BU P sg sl0 hp0 nv nx gs o=some e)(hc:∀q∈e.ca,Cn.den c.ρ q):AB P o c n nx sl hp gs a e:=by
 have hm:x∈o.op.operands:=by simp[ho,Op.operands]
 simp only[BU,ho,As,Ar]at he;obtain⟨s,hs,y,hy,he⟩:=he;obtain⟨f,q1,_⟩:=H0 (h.ct hs hm) hy;split at he
 ·subst he;have hv:=IK q1 rfl;rename_i b;exact AB.pure h (v:= .bool (!b)) (by simp[execOp,ho,hv,Op.unary]) (.cx (.bool .nil)) rfl
 ·subst he;have hd:(y.den c.ρ).ej≠ .undef:=Ch hc;cases BN:y.den c.ρ<;>simp only[BN,AV.ej,ne_eq,not_true_eq_false]at hd;have hv:=IK q1 BN;rename_i b;exact AB.pure h (v:= .bool (!b)) (by simp[execOp,ho,hv,Op.unary]) (.cx (by simp only[E.den,BN,AV.ej];exact .bool .nil)) rfl
theorem zCV(h:Bz P c n nx sl hp a sl0 hp0 o gs){x:Operand}{t:TypeId}(ho:o.op= .unOp .neg t x)(he:BU P sg sl0 hp0 nv nx gs o=some e)(hc:∀q∈e.ca,Cn.den c.ρ q):AB P o c n nx sl hp gs a e:=by
 have hm:x∈o.op.operands:=by simp[ho,Op.operands]
 simp only[BU,ho,As,Ar]at he;obtain⟨s,hs,y,hy,rfl⟩:=he;obtain⟨f,q1,_⟩:=H0 (h.ct hs hm) hy;have hd:(y.den c.ρ).ib≠ .undef:=Ch hc;cases BN:y.den c.ρ<;>simp only[BN,AV.ib,ne_eq,not_true_eq_false]at hd;rename_i k m;obtain⟨hv,_⟩:=F1 q1 BN;exact AB.pure h (v:= .int k (k.wrap (0-m))) (by simp[execOp,ho,hv,Op.unary,Op.intArith]) (.cx (by simp only[E.den,BN,AV.ib];exact .int (mX _ _) .nil)) rfl
theorem zyX{L:List Operand}{sl0:Nat->SV}{gs:Gd}(h:∀x s,BK sl0 gs x=some s->x∈L->SR c [s] [a.eval x]):∀{xs:List Operand} {ss:List SV},(∀x∈xs,x∈L)->xs.mapM (BK sl0 gs)=some ss->SR c ss (xs.map a.eval)
 | [],ss,_,hm=>by simp at hm;subst hm;exact .nil
 |x::xs,ss,hL,hm=>by rw[List.mapM_cons]at hm;simp only[Option.bind_eq_bind,As]at hm;obtain⟨s,hs,ss',Gn,hm⟩:=hm;simp at hm;subst hm;exact(h x s hs (hL x (by simp))).app (zyX h (λy hy=>hL y (by simp[hy])) Gn)
theorem zua(h:Bz P c n nx sl hp a sl0 hp0 o gs){f:FuncId}{fst caps:Array Operand}(ho:o.op= .makeFunc (.func f) fst caps)(he:BU P sg sl0 hp0 nv nx gs o=some e):AB P o c n nx sl hp gs a e:=by
 simp only[BU,ho]at he;split at he
 ·rename_i hf;obtain⟨ss,Gn,rfl⟩:=Ar.1 he;have hf:fst= #[]:=by simpa using hf
  have r:=zyX (a:=a) (c:=c) (L:=caps.toList) (λx s hx hm=>h.ct hx (by simp only[ho,Op.operands,Array.mem_append];exact .inr (Array.mem_toList_iff.1 hm))) (λx hx=>hx) Gn;refine AB.pure h (v:= .func (.func f) #[] (caps.toList.map a.eval).toArray) ?_ (.fn (by rw[BP.au];exact r) .nil) rfl;simp[execOp,ho,Instr.makeFunc,hf];apply Array.ext';simp
 ·cases he
end
section
variable {P:Program} {c:Cx} {n nx:Nat} {sl sl0:Nat->SV} {hp hp0:Nat->Option Af} {a:Act} {o:Oper} {gs:Gd} {e:Bb} {sg:BZ} {nv:Nat}
theorem Bz.ji(h:Bz P c n nx sl hp a sl0 hp0 o gs){x:Operand}{s:SV}(hs:BK sl0 gs x=some s)(hm:x∈o.op.operands){y:E}(hy:BB hp0 gs A5 s=some y):
  ∃f,Rd c.w [a.eval x] [y.den c.ρ] f/\ ∀b∈f,c.dw (B9 hp0 gs (A5+1) [s]) b:=H6 h.eh h.gs A5 hy (h.ct hs hm) A5 (AI _)
theorem zCa(h:Bz P c n nx sl hp a sl0 hp0 o gs){x:Operand}{t:TypeId}{cl:Call}(ho:o.op= .call cl)(Aw:cl.callee= .builtin .len)(CV:cl.args.toList=[x])(DP:cl.argTypes.toList=[t])(he:BU P sg sl0 hp0 nv nx gs o=some e)(hc:∀q∈e.ca,Cn.den c.ρ q):AB P o c n nx sl hp gs a e:=by
 have Ah:cl.args= #[x]:=by apply Array.ext';simp[CV]
 have FP:cl.argTypes= #[t]:=by apply Array.ext';simp[DP]
 have hm:x∈o.op.operands:=by simp[ho,Op.operands,Call.operands,Aw,Ah]
 simp only[BU,ho,Aw,CV,DP,As]at he;obtain⟨s,hs,he⟩:=he;unfold sH at he;have ex:(execOp a.eval o).run P c.w=((Builtin.len_ #[t] o.type #[a.eval x]).run P c.w).andThen λv w=> .ok (.value v) w:=by simp[execOp,ho,resolve,Aw,Ah,FP,invoke,builtin]
 split at he
 ·rename_i el hu;obtain⟨y,hy,rfl⟩:=Ar.1 he;obtain⟨f,q1,q2⟩:=h.ji hs hm hy;have hd:(y.den c.ρ).len≠ .undef:=Ch hc;cases BN:y.den c.ρ<;>simp only[BN,AV.len,ne_eq,not_true_eq_false]at hd;rename_i xs;have hl:(y.den c.ρ).len= .int .i64 (xs.length:Int):=by rw[BN];rfl
  have Cd:E3 .i64 (xs.length:Int):=by
   rw[Pq];rcases q1.kind with hh|hh|hh|hh|hh|hh|hh|hh|hh|hh
   all_goals first
    |(obtain⟨_,_,_,hh,_⟩:=hh;rw[BN]at hh;cases hh;done)
    |(obtain⟨_,_,hh,_⟩:=hh;rw[BN]at hh;cases hh;done)
    |skip
   ·obtain⟨_,_,_,hh,_⟩:=hh;rw[BN]at hh;cases hh;simp[IntKind.min,IntKind.max,IntKind.signed,IntKind.bits]
   ·obtain⟨_,_,_,_,_,_,_,_,_,_,_,_,hh,_,_,_,hle,hlen,_⟩:=hh;rw[BN]at hh;cases hh;simp[IntKind.min,IntKind.max,IntKind.signed,IntKind.bits];omega
   all_goals first
    |(obtain⟨_,_,_,hh,_⟩:=hh;rw[BN]at hh;cases hh;done)
    |(obtain⟨_,_,_,_,_,_,_,hh,_⟩:=hh;rw[BN]at hh;cases hh;done)
    |(obtain⟨_,_,_,_,hh,_⟩:=hh;rw[BN]at hh;cases hh;done)
    |(obtain⟨_,hh,_⟩:=hh;rw[BN]at hh;cases hh;done)
  refine AB.pure h (v:= .int .i64 xs.length) ?_ (.cx (by simp only[E.den,BN,AV.len];exact .int Cd .nil)) rfl;rcases Sc q1 hl with⟨p,q,hv,Cj⟩|⟨b,o',k,q,hv,Cj⟩
  ·rw[ex,hv,Cj];simp[Builtin.len_,run_underlying hu,goInt]
  ·rw[ex,hv,Cj];simp[Builtin.len_,run_underlying hu,goInt]
 ·rename_i hu;obtain⟨y,hy,rfl⟩:=Ar.1 he;obtain⟨f,q1,q2⟩:=h.ji hs hm hy;have hd:(y.den c.ρ).slen≠ .undef:=Ch hc;cases BN:y.den c.ρ<;>simp only[BN,AV.slen,ne_eq,not_true_eq_false]at hd;obtain⟨bs,hv,rfl,hle⟩:=SH q1 BN;refine AB.pure h (v:= .int .i64 bs.size) ?_ (.cx ?_) rfl
  ·rw[ex,hv];simp[Builtin.len_,run_underlying hu,goInt]
  ·simp only[E.den,BN,AV.slen];have:(bs.data.toList.length:Int)=(bs.size:Int):=by simp
   rw[this];refine .int ?_ .nil;rw[Pq];simp[IntKind.min,IntKind.max,IntKind.signed,IntKind.bits];omega
 ·cases he
theorem zvx(h:Bz P c n nx sl hp a sl0 hp0 o gs){x:Operand}{src dst:TypeId}{k0 k:IntKind}(ho:o.op= .convert src dst x)(h1:P.underlying src=some (.int k0))(h2:P.underlying dst=some (.int k))(he:BU P sg sl0 hp0 nv nx gs o=some e)(hc:∀q∈e.ca,Cn.den c.ρ q):AB P o c n nx sl hp gs a e:=by
 have hm:x∈o.op.operands:=by simp[ho,Op.operands]
 simp only[BU,ho,As]at he;obtain⟨s,hs,he⟩:=he;simp only[VS,h1,h2,Ar]at he;obtain⟨y,hy,rfl⟩:=he;obtain⟨f,q1,_⟩:=H0 (h.ct hs hm) hy;have hd:(y.den c.ρ).conv k≠ .undef:=Ch hc;cases BN:y.den c.ρ<;>simp only[BN,AV.conv,ne_eq,not_true_eq_false]at hd;rename_i k1 m;obtain⟨hv,_⟩:=F1 q1 BN;exact AB.pure h (v:= .int k (k.wrap m)) (by simp[execOp,ho,hv,convert,run_underlying h1,run_underlying h2,Conv.intToInt]) (.cx (by simp only[E.den,BN,AV.conv];exact .int (mX _ _) .nil)) rfl
theorem zu3(h:Bz P c n nx sl hp a sl0 hp0 o gs){x:Operand}{src dst:TypeId}(ho:o.op= .convert src dst x)(h1:P.underlying src=some .string)(h2:P.underlying dst=some .string)(he:BU P sg sl0 hp0 nv nx gs o=some e)(hc:∀q∈e.ca,Cn.den c.ρ q):AB P o c n nx sl hp gs a e:=by
 have hm:x∈o.op.operands:=by simp[ho,Op.operands]
 simp only[BU,ho,As]at he;obtain⟨s,hs,he⟩:=he;simp only[VS,h1,h2,Ar]at he;obtain⟨y,hy,rfl⟩:=he;obtain⟨f,q1,_⟩:=H0 (h.ct hs hm) hy;have hd:(y.den c.ρ).slen≠ .undef:=Ch hc;cases hl:y.den c.ρ<;>simp only[hl,AV.slen,ne_eq,not_true_eq_false]at hd;obtain⟨bs,hv,hle,cQ⟩:=SH q1 hl;exact AB.pure h (v:= .string bs) (by simp[execOp,ho,hv,convert,run_underlying h1,run_underlying h2]) (.cx (by rw[hl,hle];exact Rd.str cQ .nil)) rfl
theorem sE{w:World}:∀{ys:List AV} {s:List UInt8} {cs:List Value} {f:List Nat},MS ys=some s->Rd w cs (Aq ys) f-> ∃ns:List Int,cs=ns.map (Value.int .u8)/\s=ns.map (λn=>UInt8.ofNat n.toNat)/\ns.length=ys.length
 | [],s,cs,f,h,hr=>by have:Aq ([]:List AV)=[]:=rfl;rw[this]at hr;cases hr;cases h;exact⟨[],rfl,rfl,rfl⟩
 |y::ys,s,cs,f,h,hr=>by
  unfold MS at h;split at h
  ·rename_i h0;cases h0
  ·rename_i n xs he;cases he;obtain⟨s',h1,rfl⟩:=Ar.1 h;have CA:Rd w cs (.int .u8 n::Aq ys) f:=by simpa[Aq,AV.cells]using hr
   cases CA with
   |int hk DS=>obtain⟨ns,rfl,rfl,hl⟩:=sE h1 DS;exact⟨n::ns,rfl,rfl,by simp[hl]⟩
  ·cases h
theorem ztR(h:Bz P c n nx sl hp a sl0 hp0 o gs){x:Operand}{src dst el:TypeId}(ho:o.op= .convert src dst x)(h1:P.underlying src=some (.slice el))(h2:P.underlying dst=some .string)(he:BU P sg sl0 hp0 nv nx gs o=some e)(hc:∀q∈e.ca,Cn.den c.ρ q):AB P o c n nx sl hp gs a e:=by
 have hm:x∈o.op.operands:=by simp[ho,Op.operands]
 simp only[BU,ho,As]at he;obtain⟨s,hs,he⟩:=he;simp only[VS,h1,h2]at he;split at he
 ·rename_i hu;obtain⟨y,hy,rfl⟩:=Ar.1 he;obtain⟨f,q1,q2⟩:=h.ji hs hm hy;have hd:(y.den c.ρ).text≠ .undef:=Ch hc;cases BN:y.den c.ρ<;>simp only[BN,AV.text,ne_eq,not_true_eq_false]at hd;rename_i xs;split at hd
  ·rename_i t ht;split at hd
   ·rename_i hle;have Co:(E.text y).den c.ρ= .str t:=by
     simp only[E.den,BN,AV.text,ht];rw[if_pos hle]
    have fin:∀ns:List Int,t=ns.map (λn=>UInt8.ofNat n.toNat)->ns.length=xs.length->(convert src dst (a.eval x)).run P c.w= .ok (.string (ns.foldl (λr n=>r.push (UInt8.ofNat n.toNat)) ByteArray.empty)) c.w->AB P o c n nx sl hp gs a {ca:=[.dfd (.text y)],val:= .e (.text y)}:=λns e1 e2 e3=>by
     have e4:(ns.foldl (λr n=>r.push (UInt8.ofNat n.toNat)) ByteArray.empty)=⟨t.toArray⟩:=by
      rw[foldl_push_bytes,e1];simp[ByteArray.empty,ByteArray.emptyWithCapacity]
      try rfl
     rw[e4]at e3;refine AB.pure h (v:= .string ⟨t.toArray⟩) (by simp[execOp,ho,e3]) (.cx ?_) rfl;rw[Co];have By:(ByteArray.mk t.toArray).size<=9223372036854775807:=by simp only[ByteArray.size,List.size_toArray];rw[e1,List.length_map];omega
     have:=Rd.str (w:=c.w) (s:=⟨t.toArray⟩) By .nil;simpa using this
    rw[BN]at q1;rcases q1.kind with hh|hh|hh|hh|hh|hh|hh|hh|hh|hh
    all_goals first
     |(obtain⟨_,_,_,hh,_⟩:=hh;cases hh;done)
     |(obtain⟨_,_,hh,_⟩:=hh;cases hh;done)
     |skip
    ·obtain⟨p,q,hv,hx,_⟩:=hh;cases hx;cases ht;refine fin [] rfl rfl ?_;rw[hv];cases p with
     |none=>rw[run_convert_bytes_nil c.w src el h1 hu _ _ dst h2];rfl
     |some ad=>rw[run_convert_bytes_string c.w src dst el _ 0 q h1 hu h2,run_bytesToString c.w ad 0 q [] (by simp[loadCells,loadCellsFrom])]
    ·obtain⟨b,o',k,q,ys,cs,C,t',fz,sz,f1,hv,hx,_,hb,_,hle',hlen,_,_,Bx,hr⟩:=hh;cases hx;obtain⟨ns,rfl,e1,e2⟩:=sE ht hr.2;refine fin ns e1 e2 ?_;have hl:ns.length=k:=by omega
     have BW:∀i,i<k->c.w.cell? ⟨b,o'+i,none⟩=some (.int .u8 (ns.getD i 0)):=λi hi=>by
      have B6:i<ns.length:=by omega
      have:=Bx i (.int .u8 ns[i]) (by simp[B6]);rw[EA hb,this];simp[B6]
     have:=run_convert_bytes_arg c.w src el h1 hu b o' k q ns hl BW dst h2;rw[hv,this];congr 2;rw[foldl_push_bytes];simp[strOfNums,ByteArray.empty,ByteArray.emptyWithCapacity]
     try rfl
    all_goals first
     |(obtain⟨_,_,_,hh,_⟩:=hh;cases hh;done)
     |(obtain⟨_,_,_,_,_,_,_,hh,_⟩:=hh;cases hh;done)
     |(obtain⟨_,_,_,_,hh,_⟩:=hh;cases hh;done)
     |(obtain⟨_,hh,_⟩:=hh;cases hh;done)
   ·exact absurd rfl hd
  ·exact absurd rfl hd
 ·cases he
theorem yG{ρ:List AV}{x:E}{b:Bool}{gs:Gd}(h1:x.den ρ= .bool b)(h2:Bt ρ gs):Bt ρ ((x,b)::gs):=by
 intro g hg;rcases Ae.1 hg with rfl|hg
 ·exact h1
 ·exact h2 g hg
theorem zzx(h:Bz P c n nx sl hp a sl0 hp0 o gs){x y z:Operand}(ho:o.op= .pick x y z)(he:BU P sg sl0 hp0 nv nx gs o=some e)(hc:∀q∈e.ca,Cn.den c.ρ q):AB P o c n nx sl hp gs a e:=by
 have Dy:x∈o.op.operands:=by simp[ho,Op.operands]
 have CJ:y∈o.op.operands:=by simp[ho,Op.operands]
 have qJ:z∈o.op.operands:=by simp[ho,Op.operands]
 simp only[BU,ho,As]at he;obtain⟨s,hs,he⟩:=he;have hr:=h.ct hs Dy;split at he
 ·rename_i q;have ex:∀b,a.eval x= .bool b->(execOp a.eval o).run P c.w= .ok (.value (if b then a.eval y else a.eval z)) c.w:=λb hb=>by
   simp[execOp,ho,hb,asBool]
  obtain⟨f,q1⟩:∃f,Rd c.w [a.eval x] [q.den c.ρ] f:=by
   generalize a.eval x=v at hr;cases hr with
   |e h1 _ _=>exact⟨_,h1⟩
  unfold rP at he;split at he
  ·obtain⟨s',A4,rfl⟩:=Ar.1 he;exact AB.pure h (v:=a.eval y) (ex true (IK q1 rfl)) (h.ct A4 CJ) rfl
  ·obtain⟨s',A4,rfl⟩:=Ar.1 he;exact AB.pure h (v:=a.eval z) (ex false (IK q1 rfl)) (h.ct A4 qJ) rfl
  ·split at he
   ·rename_i y' z' hy hz;simp at he;subst he;simp only[As]at hy hz;obtain⟨sy,hsy,hy⟩:=hy;obtain⟨sz,By,hz⟩:=hz;have hd:(q.den c.ρ).ej≠ .undef:=Ch hc;cases hq:q.den c.ρ<;>simp only[hq,AV.ej,ne_eq,not_true_eq_false]at hd;rename_i b;cases b with
    |true=>have r:=Y8 (a:=a) hsy (λt ht=>by subst ht;rw[h.sl t CJ];exact h.rel.cy t) (yG hq h.gs);obtain⟨f',g1,g2⟩:=H0 r hy;exact AB.pure h (v:=a.eval y) (ex true (IK q1 hq)) (.e (f:=f') (by simpa[E.den,hq,AV.cond]using g1) g2 .nil) rfl
    |false=>have r:=Y8 (a:=a) By (λt ht=>by subst ht;rw[h.sl t qJ];exact h.rel.cy t) (yG hq h.gs);obtain⟨f',g1,g2⟩:=H0 r hz;exact AB.pure h (v:=a.eval z) (ex false (IK q1 hq)) (.e (f:=f') (by simpa[E.den,hq,AV.cond]using g1) g2 .nil) rfl
   ·cases he
 ·cases he
end
section
variable {P:Program} {c:Cx} {n nx:Nat} {sl sl0:Nat->SV} {hp hp0:Nat->Option Af} {a:Act} {o:Oper} {gs:Gd} {e:Bb} {sg:BZ} {nv:Nat}
theorem lD{w:World}{v:Value}{x:AV}{f:List Nat}(h:Rd w [v] [x] f)(h1:∀cs,x≠ .agg cs)(h2:∀cs,x≠ .tup cs):v.oneCell'=true:=by
 cases h<;>first
  |rfl
  |exact absurd rfl (h1 _)
  |exact absurd rfl (h2 _)
theorem one_cells{v:Value}(h:v.oneCell'=true):v.cells= #[v]:=by cases v<;>first|rfl|(simp[Value.oneCell']at h)
theorem Zl{t:TypeId}{s:SV}{v:Value}{cs:List SV}{ck:List Cn}(h:SR c [s] [v])(hc:Si P t s=some (cs,ck))(hk:∀q∈ck,q.den c.ρ):
  SR c cs v.cells.toList/\(∀u∈v.cells.toList,u.oneCell'=true):=by
 unfold Si at hc;split at hc
 ·split at hc
  ·simp at hc;obtain⟨rfl,rfl⟩:=hc;cases h with
   |agg h1 h2 _=>exact⟨by simpa[Value.cells]using h2,by simpa[Value.cells]using h1⟩
  ·rename_i x;simp at hc;obtain⟨rfl,rfl⟩:=hc;cases h with
   |e h1 h2 _=>
    obtain⟨as_,has,hl⟩:=Ch hk;obtain⟨vs,rfl,h3,h4⟩:=Kj h1 has;refine⟨?_,by simpa[Value.cells]using h3⟩;have hlen:=h4.len;have key:∀k,k<=as_.length->SR c ((List.range k).map λj=>SV.e (.fld x j 1 false)) (vs.take k):=by
     intro k
     induction k with
     |zero=>intro _;simpa using SR.nil
     |succ k ih=>
      intro hk;have Cp:k<as_.length:=by omega
      obtain⟨u,g,hu,hg,hr⟩:=h4.at (show as_[k]?=some as_[k] by simp[Cp])
      rw[List.range_succ,List.map_append,List.take_succ_eq_append_getElem (by omega)];refine(ih (by omega)).app ?_;have FQ:vs[k]'(by omega)=u:=by simpa[show k<vs.length by omega]using hu
      rw[FQ];exact .e (f:=g) (by simpa[E.den,AV.fld,has,AV.cells,Cp]using hr) (λb hb=>h2 b (hg b hb)) .nil
    have:=key as_.length (AI _);rw[<-hlen,List.take_length,hlen,hl]at this;simpa[Value.cells]using this
  ·cases hc
 ·split at hc
  ·rename_i x;simp at hc;obtain⟨rfl,rfl⟩:=hc;cases h with
   |e h1 h2 _=>
    have hq:(∀cs,x.den c.ρ≠ .agg cs)/\ ∀cs,x.den c.ρ≠ .tup cs:=by
     cases x<;>first
      |exact(Ch hk:Cn.den c.ρ (.cells _ 1))
      |exact⟨by simp[E.den],by simp[E.den]⟩
    have GJ:=lD h1 hq.1 hq.2;rw[one_cells GJ];exact⟨.e h1 h2 .nil,by simpa using GJ⟩
  ·cases hc
  ·cases hc
  ·cases hc
  ·cases hc
  ·cases hc
  ·cases hc
  ·cases hc
  ·cases hc
  ·simp at hc;obtain⟨rfl,rfl⟩:=hc;have GJ:v.oneCell'=true:=by
    cases h<;>first|rfl|(rename_i hh _ _ _ _ _;exact absurd rfl (hh _))|skip
    all_goals first
     |rfl
     |exact(show∀(i:Nat),SV.lent _=SV.lent i->False from by assumption) _ rfl|>.elim
     |exact(show∀(t g n:Nat) (p:NO) (x:E),SV.via _ _ _ _ _=SV.via t g n p x->False from by assumption) _ _ _ _ _ rfl|>.elim
     |exact(show∀(t g n:Nat) (p:NO) (x i:E) (sz o:Nat),SV.vptr _ _ _ _ _ _ _ _=SV.vptr t g n p x i sz o->False from by assumption) _ _ _ _ _ _ _ _ rfl|>.elim
     |(exfalso;simp_all;done)
   rw[one_cells GJ];exact⟨h,by simpa using GJ⟩
theorem zFt(h:Bz P c n nx sl hp a sl0 hp0 o gs)(ob:Obj)(hv:Value):MV c (c.new nx ob hv []) nx:=
 ⟨rfl,rfl,rfl,rfl,λt ht=>ht.imp id (λhh=>by subst hh;exact⟨AI _,by simp[BT]⟩)⟩
theorem Ni(h:Bz P c n nx sl hp a sl0 hp0 o gs): ¬c.U nx:=h.new nx (AI _) (by omega)
theorem AB.box(h:Bz P c n nx sl hp a sl0 hp0 o gs){ty:TypeId}{g:Bool}{cs:List SV}{v:Value}{ck:List Cn}(hr:(execOp a.eval o).run P c.w= .ok (.value (.pointer (some ⟨c.w.heap.size,0,none⟩))) (c.w.alloc (.cells v.cells ty)))
  (hs:SR c cs v.cells.toList) (h1:∀u∈v.cells.toList,u.oneCell'=true):AB P o c n nx sl hp gs a {ca:=ck,val:= .ch nx 0,bj:=[(nx,CS gs (.box ty g cs))]}:=by
 intro next Q hk
 unfold Oper.wp;rw[hr,Oper.upon_value];have hU:=Ni h;have keep:DW c (c.new nx (.cells v.cells ty) (.pointer (some ⟨c.w.heap.size,0,none⟩)) []):=Cx.fy (λg hg=>hU (h.rel.bp _ _ hg));have hH:(c.new nx (.cells v.cells ty) (.pointer (some ⟨c.w.heap.size,0,none⟩)) []).H nx 0= .pointer (some ⟨c.w.heap.size,0,none⟩):=by simp[Cx.new]
 have hK:(c.new nx (.cells v.cells ty) (.pointer (some ⟨c.w.heap.size,0,none⟩)) []).K nx 0:= .inr ⟨rfl,rfl⟩;have hrel:=h.rel.new hU (.cells v.cells ty) (.pointer (some ⟨c.w.heap.size,0,none⟩)) (.box ty g cs) gs h.gs (by intros;simp)
  ⟨c.w.heap.size,v.cells,hK,hH,by simp[Cx.new],by simp[Cx.new],heap_alloc_new _ _,h1,hs.keep keep⟩
 exact hk _ _ (zFt h _ _) (hrel.put ((SR.ch hK hH .nil).mkGd gs h.gs) o.dst)
theorem zyw(h:Bz P c n nx sl hp a sl0 hp0 o gs){t:TypeId}(ho:o.op= .alloc t)(he:BU P sg sl0 hp0 nv nx gs o=some e)(hc:∀q∈e.ca,Cn.den c.ρ q):AB P o c n nx sl hp gs a e:=by
 simp only[BU,ho,As]at he;obtain⟨z,⟨i,hi,hz⟩,s,hs,⟨cs,ck⟩,Bx,he⟩:=he;split at he
 ·cases he
 ·split at he
  ·cases he
  ·rename_i Ir;have Ir:ck=[]:=by simpa using Ir
   simp at he;subst he;have A4:E9 z=some s:=by simpa[sO,hi,hz]using hs
   obtain⟨q1,q2⟩:=Zl (Zp (c:=c) A4) Bx (by simp[Ir]);refine AB.box h (v:=z) ?_ q1 q2;simp[execOp,ho,Instr.alloc,zeroValue,typeInfo,hi,hz,newVar,newRow]
theorem zCQ(h:Bz P c n nx sl hp a sl0 hp0 o gs){t:TypeId}{x:Operand}(ho:o.op= .box t x)(he:BU P sg sl0 hp0 nv nx gs o=some e)(hc:∀q∈e.ca,Cn.den c.ρ q):AB P o c n nx sl hp gs a e:=by
 have hm:x∈o.op.operands:=by simp[ho,Op.operands]
 simp only[BU,ho,As]at he;obtain⟨s,hs,⟨cs,ck⟩,Bx,he⟩:=he;split at he
 ·cases he
 ·simp at he;subst he;obtain⟨q1,q2⟩:=Zl (h.ct hs hm) Bx hc;refine AB.box h (v:=a.eval x) ?_ q1 q2;simp[execOp,ho,Instr.box,newVar,newRow]
end
section
variable {P:Program} {c:Cx} {n nx:Nat} {sl sl0:Nat->SV} {hp hp0:Nat->Option Af} {a:Act} {o:Oper} {gs:Gd} {e:Bb} {sg:BZ} {nv:Nat}
def setVs{α:Type}(cs:List α)(o:Nat)(vs:List α):List α:=cs.take o++vs++cs.drop (o+vs.length)
theorem R5{α:Type}(cs vs:List α)(o:Nat)(h:o+vs.length<=cs.length)(i:Nat):(setVs cs o vs)[i]?=if o<=i/\i<o+vs.length then vs[i-o]? else cs[i]?:=by
 unfold setVs;have ht:(cs.take o).length=o:=by rw[Au];omega
 rw[List.append_assoc];by_cases h1:i<o
 ·rw[if_neg (by omega),List.getElem?_append_left (by omega),List.getElem?_take,if_pos h1]
 ·rw[List.getElem?_append_right (by omega),ht];by_cases h2:i<o+vs.length
  ·rw[if_pos (by omega),List.getElem?_append_left (by omega)]
  ·rw[if_neg (by omega),List.getElem?_append_right (by omega),List.getElem?_drop];congr 1;omega
theorem R1{α:Type}(cs vs:List α)(o:Nat)(h:o+vs.length<=cs.length):(setVs cs o vs).length=cs.length:=by simp[setVs];omega
theorem SR.setVs{cs vs:List SV}{C V:List Value}{k:Nat}(h:SR c cs C)(hv:SR c vs V):SR c (SQ cs k vs) (Go.Proofs.YtalagilebkaegaaGreat.setVs C k V):=by unfold SQ Go.Proofs.YtalagilebkaegaaGreat.setVs;have hl:=hv.len;rw[<-hl];exact((h.split k).1.app hv).app (h.split _).2
theorem zG(vs:List Value):∀(k off:Nat) (C:Array Value),off+k+vs.length<=C.size->
  ((vs.zipIdx k).foldl (λcs (p:Value × Nat)=>cs.setIfInBounds (off+p.2) p.1) C).toList=setVs C.toList (off+k) vs:=by
 induction vs with
 |nil=>intro k off C _;simp[setVs]
 |cons v vs ih=>
  intro k off C h;simp only[A6]at h;simp only[List.zipIdx_cons,List.foldl_cons];rw[ih (k+1) off _ (by simp;omega)];apply List.ext_getElem?;intro i;rw[R5 _ _ _ (by simp;omega),R5 _ _ _ (by simp;omega)];simp only[Array.toList_setIfInBounds,List.getElem?_set,A6,BC];by_cases h1:i=off+k
  ·subst h1;rw[if_neg (by omega),if_pos rfl,if_pos (by omega),if_pos (by omega)];simp
  ·by_cases h2:off+(k+1)<=i/\i<off+(k+1)+vs.length
   ·rw[if_pos h2,if_pos (by omega),show i-(off+k)=(i-(off+(k+1)))+1 by omega,List.getElem?_cons_succ]
   ·rw[if_neg h2,if_neg (by omega),if_neg (by omega)]
theorem kR{b off:Nat}{t:TypeId}:∀(vs:List Value) (i:Nat) (w:World) (C:Array Value),w.heap[b]?=some (.cells C t (0,0))->off+i+vs.length<=C.size->(∀v∈vs,v.oneCell'=true)->
  (storeCells ⟨b,off,none⟩ vs i).run P w= .ok () (putCells w b (off+i) vs)
 | [],i,w,C,_,_,_=>by simp[storeCells,putCells]
 |v::vs,i,w,C,hb,hl,h1=>by
  simp only[A6]at hl;have hi:off+i<C.size:=by omega
  have BW:w.cell? ⟨b,off+i,none⟩=some C[off+i]:=by simp[World.cell?,hb,hi]
  have bZ:w.frozen? ⟨b,off+i,none⟩=false:=by simp[World.frozen?,hb]
  have Em:(store ((⟨b,off,none⟩:Addr).add i) v).run P w= .ok () (w.setCell ⟨b,off+i,none⟩ v):=by rw[Addr.add_lit,run_store P w _ v _ (h1 v (by simp)),BW];simp[bZ]
  have h2:=heap_setCell_same w b (off+i) C t v hb;have ih:=kR (off:=off) vs (i+1) (w.setCell ⟨b,off+i,none⟩ v) _ h2 (by simp;omega) (λx hx=>h1 x (by simp[hx]));simp only[storeCells,Sem.run_bind,Em,Result.andThen_ok,ih,putCells];rw[Nat.add_assoc]
theorem YN{w:World}{b off:Nat}{t:TypeId}{vs:List Value}{C:Array Value}(hb:w.heap[b]?=some (.cells C t (0,0)))(hl:off+vs.length<=C.size):
  Mod [b] w (putCells w b off vs)/\(putCells w b off vs).heap[b]?=some (.cells (setVs C.toList off vs).toArray t (0,0))/\(putCells w b off vs).heap.size=w.heap.size:=by
 obtain⟨hm,C',h1,h2,h3,h4⟩:=kH vs w b off C t hb hl;refine⟨hm,?_,?_⟩
 ·rw[h1];congr 2;apply Array.ext';apply List.ext_getElem?;intro i;rw[R5 _ _ _ (by simpa using hl)];by_cases hi:off<=i/\i<off+vs.length
  ·rw[if_pos hi];have AG:i-off<vs.length:=by omega
   have:=h3 (i-off) vs[i-off] (by simp[AG]);rw[show off+(i-off)=i by omega]at this;rw[Array.getElem?_toList,this];simp[AG]
  ·rw[if_neg hi,Array.getElem?_toList,Array.getElem?_toList];exact h4 i (by omega)
 ·clear hm h1 h2 h3 h4 hl
  induction vs generalizing w off C with
  |nil=>rfl
  |cons v vs ih=>simp only[putCells];rw[ih (heap_setCell_same w b off C t v hb)];simp[World.setCell]
theorem lC{w:World}{b off:Nat}{t ty:TypeId}{v:Value}{C:Array Value}(hb:w.heap[b]?=some (.cells C ty (0,0)))(ht:Dt P t=true)(hs:v.cells.size=P.cellsOf t)(hl:off+v.cells.size<=C.size)(h1:∀u∈v.cells.toList,u.oneCell'=true):
  (Instr.storeAt t (.pointer (some ⟨b,off,none⟩)) v).run P w= .ok () (putCells w b off v.cells.toList):=by
 have:=kR (P:=P) (off:=off) v.cells.toList 0 w C hb (by simpa using hl) h1;simp only[Nat.add_zero]at this;simp[Instr.storeAt,Instr.sureAddr,storeVar,Pe ht,hs,this]
def Cx.wr(c:Cx)(w':World)(t:Nat):Cx:={c with w:=w',E:=λu=>if u=t then c.E u+1 else c.E u}
theorem Cx.gp{c:Cx}{w':World}{t b:Nat}(gw:GW c)(Ci:b∈(c.G t).top)(hm:Mod [b] c.w w'):DW c (c.wr w' t):=by
 have Bd:b∈(c.G t).own:=by simp[GI.own,Ci]
 refine⟨rfl,rfl,λq _ hq=>hq,λq hq AZ=>hm.block q hq ?_,λu g hu=>⟨hu,rfl⟩,λu g hu=> ?_⟩
 ·simp only[List.mem_singleton];rintro rfl;exact AZ.1 ⟨t,Ci⟩
 ·by_cases GQ:u=t
  ·have e1:(c.wr w' t).E u=c.E u+1:=by simp only[Cx.wr,if_pos GQ]
   exact⟨by omega,λh=>by omega⟩
  ·have e1:(c.wr w' t).E u=c.E u:=by simp only[Cx.wr,if_neg GQ]
   rw[e1];refine⟨AI _,λ_=>⟨rfl,λq hq I3=>hm.block q I3 ?_⟩⟩;simp only[List.mem_singleton];rintro rfl;exact gw.cm t u (Ne.symm GQ) q Bd (by simp[GI.own,hq])
theorem Rel.write(h:Rel c n sl hp a){t:Nat}{e0:Af}{b:Nat}{w':World}(AN:CE c.ρ (hp t) e0)(Ci:b∈(c.G t).top)(hm:Mod [b] c.w w')(By:w'.heap.size=c.w.heap.size)(e1:Af)(BF:∀hs f,e1≠ .gd hs f)
  (he:Du (c.wr w' t) t e1):Rel (c.wr w' t) n sl (Bi hp [(t,e1)]) a/\DW c (c.wr w' t):=by
 have Bd:b∈(c.G t).own:=by simp[GI.own,Ci]
 have Cb:DW c (c.wr w' t):=Cx.gp h.gw Ci hm;have D2:∀u,Bi hp [(t,e1)] u=if u=t then some e1 else hp u:=λu=>rfl;refine⟨h.change (λu=>u=t) Cb ⟨hm.os.trans h.base.os,hm.tape.trans h.base.tape,hm.output.trans h.base.output,Nat.le_trans h.base.size hm.size,h.base.pins,λq hq Gf=> ?_,h.base.pk,h.base.lo⟩
  (λu hu=>⟨by rw[D2,if_neg hu],rfl,by simp[Cx.wr,hu],λg hg=>hg⟩) (λu hu q hq=>hm.block q (h.gw.inb u q (by simp[GI.own,hq])) ?_) (λu hu=> ?_) ⟨h.gw.nodup,h.gw.cm,h.gw.allow,λu q hq=> ?_⟩ h.bp (λu f hf=> ?_),Cb⟩
 ·refine(hm.block q (Nat.lt_of_lt_of_le hq h.base.size) ?_).trans (h.base.block q hq Gf);simp only[List.mem_singleton];rintro rfl;rcases h.gw.allow t q Bd with hh|hh
  ·exact absurd hh (Nat.not_le.2 hq)
  ·exact Gf hh
 ·simp only[List.mem_singleton];rintro rfl;exact h.gw.cm t u (Ne.symm hu) q Bd (by simp[GI.own,hq])
 ·subst hu;rw[D2,if_pos rfl];refine⟨λe' hr=> ?_,λhn=> ?_⟩
  ·cases e1<;>first
    |(simp only[CE]at hr;subst hr;exact he)
    |exact absurd rfl (BF _ _)
  ·cases e1<;>first
    |exact absurd rfl (BF _ _)
    |exact absurd rfl (hn _)
 ·show q<w'.heap.size;rw[By];exact h.gw.inb u q hq
 ·rw[D2]at hf;split at hf
  ·rename_i hu;subst hu;cases hh:hp u with
   |none=>rw[hh]at AN;exact AN.elim
   |some e9=>exact h.cr u e9 hh
  ·exact h.cr u f hf
end
section
variable {P:Program} {c:Cx} {n nx:Nat} {sl sl0:Nat->SV} {hp hp0:Nat->Option Af} {a:Act} {o:Oper} {gs:Gd} {e:Bb} {sg:BZ} {nv:Nat}
theorem zue(h:Bz P c n nx sl hp a sl0 hp0 o gs){t:TypeId}{x y:Operand}(ho:o.op= .store t x y){b k:Nat}{s:SV}(hx:BK sl0 gs x=some (.ch b k))(hy:BK sl0 gs y=some s)
  (he:Nj P hp0 gs t (.ch b k) s=some e) (hc:∀q∈e.ca,Cn.den c.ρ q):AB P o c n nx sl hp gs a e:=by
 have r1:=h.ct hx (by simp[ho,Op.operands]);have r2:=h.ct hy (by simp[ho,Op.operands]);simp only[Nj]at he;split at he
 ·rename_i ty g cs vs ck hl Bx;split at he
  ·rename_i hh;obtain⟨Bm,hlen,hle,rfl⟩:=hh;simp at he;subst he;obtain⟨q1,q2⟩:=Zl r2 Bx hc;generalize hv:a.eval x=v at r1;cases r1 with
   |ch h1 h2 h3=>
    rename_i q;have Fv:=CG hl h.gs;obtain⟨q',C,e1,e2,e3,e4,e5,e5',e6⟩:=h.eh b _ Fv;rw[h2]at e2;cases e2;have AN:CE c.ρ (hp b) (.box ty g cs):=by
     cases hh:hp0 b with
     |none=>rw[hh]at Fv;exact Fv.elim
     |some e9=>rw[h.hp b e9 hh];rwa[hh]at Fv
    have Ol:=e6.len;have cP:=q1.len;obtain⟨m1,m2,m3⟩:=YN (vs:=(a.eval y).cells.toList) e5 (show k+_<=C.size by simp at Ol cP ⊢;omega);obtain⟨hrel,Cb⟩:=h.rel.write AN (by rw[e3];simp) m1 m3 (.box ty g (SQ cs k vs)) (by intros;simp) (w':=putCells c.w q k (a.eval y).cells.toList) (by
     have Cp:DW c (c.wr (putCells c.w q k (a.eval y).cells.toList) b):=Cx.gp h.rel.gw (by rw[e3];simp) m1;refine⟨q,_,e1,h2,e3,e4,m2,?_,?_⟩
     ·intro u hu;simp only[List.toList_toArray]at hu;unfold setVs at hu;simp only[Ac]at hu;rcases hu with(hu|hu)|hu
      ·exact e5' u (Br hu)
      ·exact q2 u hu
      ·exact e5' u (BO hu)
     ·simpa using(e6.setVs q1 (k:=k)).keep Cp)
    intro next Q hk
    unfold Oper.wp;have hr:(execOp a.eval o).run P c.w= .ok .skip (putCells c.w q k (a.eval y).cells.toList):=by have:=lC (P:=P) (t:=t) (v:=a.eval y) (off:=k) e5 Bm (by simp at cP;omega) (by simp at Ol cP;omega) q2;simp[execOp,ho,hv,this]
    rw[hr,Oper.upon_skip];exact hk _ (c.wr (putCells c.w q k (a.eval y).cells.toList) b) ⟨rfl,rfl,rfl,rfl,λt ht=> .inl ht⟩ (hrel.put ((SR.undef .nil).mkGd []) o.dst)
  ·cases he
 ·cases he
theorem zR{places:List (Nat × Nat)}{tys:List TypeId}:∀(ps:List (Nat × SV)) (vs:List (Nat × Value)) (cs:List SV) (C:Array Value) (r:List SV × List Cn),Wp P places tys ps cs=some r->(∀q∈r.2,q.den c.ρ)->
  ps.map (·.1)=vs.map (·.1)->SR c (ps.map (·.2)) (vs.map (·.2))->SR c cs C.toList->(∀u∈C.toList,u.oneCell'=true)->
  ∃C',Instr.fill (places.toArray[·]?) C vs=some C'/\SR c r.1 C'.toList/\ ∀u∈C'.toList,u.oneCell'=true
 | [],vs,cs,C,r,h,hk,he,_,hC,h1=>by
  have:vs=[]:=by simpa using he.symm
  subst this;simp[Wp]at h;subst h;exact⟨C,rfl,hC,h1⟩
 |(i,s)::ps,[],cs,C,r,h,hk,he,_,hC,h1=>by simp at he
 |(i,s)::ps,(j,v)::vs,cs,C,r,h,hk,he,hs,hC,h1=>by
  simp only[List.map_cons,List.cons.injEq]at he;obtain⟨rfl,he⟩:=he;simp only[List.map_cons]at hs;obtain⟨BM,A7⟩:=hs.cd;unfold Wp at h;split at h
  ·rename_i off sz t Gm Bm;split at h
   ·rename_i us ck Bx;split at h
    ·rename_i hh;obtain⟨By,hle⟩:=hh;obtain⟨r',CA,rfl⟩:=Ar.1 h;obtain⟨q1,q2⟩:=Zl BM Bx (λq hq=>hk q (by simp[hq]));have I2:=q1.len;have JG:=hC.len;have Mp:(v.cells.zipIdx.foldl (λcs (p:Value × Nat)=>cs.setIfInBounds (off+p.2) p.1) C).toList=setVs C.toList off v.cells.toList:=by
      have:=zG v.cells.toList 0 off C (by simp at I2 JG ⊢;omega);rw[<-Array.foldl_toList,Array.toList_zipIdx];simpa using this
     obtain⟨C',g1,g2,g3⟩:=zR ps vs (SQ cs off us) (v.cells.zipIdx.foldl (λcs (p:Value × Nat)=>cs.setIfInBounds (off+p.2) p.1) C) r' CA (λq hq=>hk q (by simp[hq])) he A7 (by rw[Mp];exact hC.setVs q1) (by
      rw[Mp];intro u hu;unfold setVs at hu;simp only[Ac]at hu;rcases hu with(hu|hu)|hu
      ·exact h1 u (Br hu)
      ·exact q2 u hu
      ·exact h1 u (BO hu))
     refine⟨C',?_,g2,g3⟩;unfold Instr.fill;have dJ:places.toArray[i]?=some (off,sz):=by simpa using Gm
     simp only[dJ];rw[if_neg (by simp at I2 JG ⊢;omega)];exact g1
    ·cases h
   ·cases h
  ·cases h
theorem Zk{sl0:Nat->SV}{gs:Gd}(L:List Operand)(h:∀x s,BK sl0 gs x=some s->x∈L->SR c [s] [a.eval x]):∀{xs:List (Nat × Operand)} {ss:List (Nat × SV)},(∀x∈xs,x.2∈L)->xs.mapM (λ(p:Nat × Operand)=>(BK sl0 gs p.2).map λs=>(p.1,s))=some ss->
  ss.map (·.1)=xs.map (·.1)/\SR c (ss.map (·.2)) (xs.map λp=>a.eval p.2)
 | [],ss,_,hm=>by simp at hm;subst hm;exact⟨rfl, .nil⟩
 |x::xs,ss,hL,hm=>by rw[List.mapM_cons]at hm;simp only[Option.bind_eq_bind,As,Ar]at hm;obtain⟨_,⟨s,hs,rfl⟩,ss',Gn,hm⟩:=hm;simp at hm;subst hm;obtain⟨e1,e2⟩:=Zk L h (λy hy=>hL y (by simp[hy])) Gn;exact⟨by simp[e1],(h _ s hs (hL x (by simp))).app e2⟩
theorem zyg(h:Bz P c n nx sl hp a sl0 hp0 o gs){t:TypeId}{parts:Array (Nat × Operand)}(ho:o.op= .build t parts)(he:BU P sg sl0 hp0 nv nx gs o=some e)(hc:∀q∈e.ca,Cn.den c.ρ q):AB P o c n nx sl hp gs a e:=by
 simp only[BU,ho,As]at he;obtain⟨ps,MC,he⟩:=he;obtain⟨e1,e2⟩:=Zk (c:=c) (a:=a) (parts.toList.map (·.2)) (λx s hx hm=>h.ct hx (by simpa[ho,Op.operands]using hm)) (λx hx=>List.mem_map.2 ⟨x,hx,rfl⟩) MC;unfold zB at he;split at he
 ·rename_i it fs Mv hu;split at he
  ·rename_i zs places hz Gm;obtain⟨r,hr,rfl⟩:=Ar.1 he;obtain⟨z,WY,WZ⟩:=As.1 hz;have rF:=Zp (c:=c) WZ;obtain⟨cells,g1,g2,g3⟩:=zR (c:=c) (P:=P) ps (parts.toList.map λp=>(p.1,a.eval p.2)) zs.toList z.cells r hr hc (by rw[e1];simp) (by rw[List.map_map];exact e2)
    (by cases rF with|agg h1 h2 _=>simpa[Value.cells]using h2) (by cases rF with|agg h1 h2 _=>simpa[Value.cells]using h1)
   have hb:P.built t (parts.map λ(x:Nat × Operand)=>(x.1,a.eval x.2)).toList=some cells:=by simp only[Program.built,Mv,hu,WY,Gm];simpa using g1
   have:=SR.agg (c:=c) (cs:=BP.of r.1) (as_:=cells.toList) g3 (by rw[BP.au];exact g2) .nil;refine AB.pure h (v:= .agg cells) ?_ (by simpa using this) rfl;have AQ:=run_build c.w t _ cells hb;simp only[execOp,ho,Sem.run_bind];rw[AQ];rfl
  ·cases he
 ·cases he
end
section
variable {P:Program} {c:Cx} {n nx:Nat} {sl sl0:Nat->SV} {hp hp0:Nat->Option Af} {a:Act} {o:Oper} {gs:Gd} {e:Bb} {sg:BZ} {nv:Nat}
def Cx.br(c:Cx)(ts:List Nat):Cx:={c with G:=λu=>if u∈ts then⟨[],[]⟩else c.G u,E:=λu=>if u∈ts then c.E u+1 else c.E u}
theorem Cx.ig{c:Cx}{ts:List Nat}{b:Nat}(h:(c.br ts).M b):∃u,u∉ts/\b∈(c.G u).top:=by
 obtain⟨u,hu⟩:=h;simp only[Cx.br]at hu;split at hu
 ·simp at hu
 ·exact⟨u,by assumption,hu⟩
theorem Cx.ei{c:Cx}{ts:List Nat}{b:Nat}(h:c.ok b):(c.br ts).ok b:=⟨λhm=>by obtain⟨u,_,hu⟩:=Cx.ig hm;exact h.1 ⟨u,hu⟩,h.2⟩
theorem Cx.iz(c:Cx)(ts:List Nat):DW c (c.br ts):=⟨rfl,rfl,λ_ _ h=>Cx.ei h,λ_ _ _=>rfl,λ_ _ h=>⟨h,rfl⟩,λt g _=>by
 by_cases ht:t∈ts
 ·have e1:(c.br ts).E t=c.E t+1:=by simp only[Cx.br,if_pos ht]
  exact⟨by omega,λh=>by omega⟩
 ·have e1:(c.br ts).E t=c.E t:=by simp only[Cx.br,if_neg ht]
  have e2:(c.br ts).G t=c.G t:=by simp only[Cx.br,if_neg ht]
  rw[e1];exact⟨AI _,λ_=>⟨e2,λ_ _ _=>rfl⟩⟩⟩
theorem zzj{c:Cx}(gw:GW c){ts us:List Nat}(hs:∀t∈us,t∈ts){b:Nat}(h:c.dw us b):(c.br ts).ok b:=by
 rcases h with h|⟨t,ht,hb⟩
 ·exact Cx.ei h
 ·have Bd:b∈(c.G t).own:=by simp[GI.own,hb]
  refine⟨λhm=> ?_, .inr (gw.allow t b Bd)⟩;obtain⟨u,hu,Iq⟩:=Cx.ig hm;have:t≠u:=λhh=>hu (hh▸hs t ht);exact gw.cm t u this b Bd (by simp[GI.own,Iq])
def LV(e:Af)(g:Nat)(x:E):Prop:=(∃ety sz d,e= .row ety sz g x d)\/ ∃ety sz l ep,e= .deep ety sz l g ep x
theorem LV.ne{e:Af}{g:Nat}{x:E}(h:LV e g x):∀hs f,e≠ .gd hs f:=by rcases h with⟨_,_,_,rfl⟩|⟨_,_,_,_,rfl⟩<;>intros<;>simp
theorem LV.rd{e:Af}{g t:Nat}{x:E}(h:LV e g x)(k:Du c t e):c.K t g/\ ∃f,Rd c.w [c.H t g] [x.den c.ρ] f/\ ∀b∈f,b∈(c.G t).top\/c.ok b:=by
 rcases h with⟨_,_,_,rfl⟩|⟨_,_,_,_,rfl⟩
 ·obtain⟨q1,q2,N,q3,q4,_⟩:=k;obtain⟨f,r1,r2,_⟩:=q3.rd;exact⟨q1,f,r1,λb hb=>(r2 b hb).imp id (q4 b)⟩
 ·obtain⟨q1,q2,_,q3,_⟩:=k;obtain⟨f,r1,r2⟩:=q3.rd;exact⟨q1,f,r1,λb hb=> .inl (r2 b hb)⟩
theorem LV.fun{e:Af}{g g':Nat}{x x':E}(h:LV e g x)(k:LV e g' x'):g=g'/\x=x':=by rcases h with⟨_,_,_,rfl⟩|⟨_,_,_,_,rfl⟩<;>rcases k with⟨_,_,_,hh⟩|⟨_,_,_,_,hh⟩<;>cases hh<;>exact⟨rfl,rfl⟩
theorem Pb{gs:Gd}{ρ:List AV}(k:Bt ρ gs):∀{ts:List Nat} {l:List (Nat × Af)},DV hp0 gs ts=some l->
  (∀t e,(t,e)∈l->t∈ts/\gs=[]/\ ∃g x f,e= .br g x/\CE ρ (hp0 t) f/\LV f g x)/\
  (∀t∈ts,(∃g x,(t,Af.br g x)∈l)\/(∃g x,CE ρ (hp0 t) (.br g x))\/ ∃ty g cs,CE ρ (hp0 t) (.box ty g cs))
 | [],l,h=>by simp[DV]at h;subst h;simp
 |t::ts,l,h=>by
  unfold DV at h;split at h
  ·rename_i ety sz g x d l' hl BL;split at h
   ·rename_i hg;simp at h;subst h;obtain⟨h1,h2⟩:=Pb k BL;refine⟨λu e hu=> ?_,λu hu=> ?_⟩
    ·rcases Ae.1 hu with hu|hu
     ·cases hu;exact⟨by simp,by simpa using hg,g,x,_,rfl,CG hl k, .inl ⟨_,_,_,rfl⟩⟩
     ·obtain⟨p,q,r⟩:=h1 u e hu;exact⟨by simp[p],q,r⟩
    ·rcases Ae.1 hu with rfl|hu
     ·exact .inl ⟨g,x,by simp⟩
     ·rcases h2 u hu with⟨g',x',hh⟩|hh
      ·exact .inl ⟨g',x',by simp[hh]⟩
      ·exact .inr hh
   ·cases h
  ·rename_i ety sz dl g ep x l' hl BL;split at h
   ·rename_i hg;simp at h;subst h;obtain⟨h1,h2⟩:=Pb k BL;refine⟨λu e hu=> ?_,λu hu=> ?_⟩
    ·rcases Ae.1 hu with hu|hu
     ·cases hu;exact⟨by simp,by simpa using hg,g,x,_,rfl,CG hl k, .inr ⟨_,_,_,_,rfl⟩⟩
     ·obtain⟨p,q,r⟩:=h1 u e hu;exact⟨by simp[p],q,r⟩
    ·rcases Ae.1 hu with rfl|hu
     ·exact .inl ⟨g,x,by simp⟩
     ·rcases h2 u hu with⟨g',x',hh⟩|hh
      ·exact .inl ⟨g',x',by simp[hh]⟩
      ·exact .inr hh
   ·cases h
  ·rename_i g x l' hl BL;simp at h;subst h;obtain⟨h1,h2⟩:=Pb k BL;refine⟨λu e hu=> ?_,λu hu=> ?_⟩
   ·obtain⟨p,q,r⟩:=h1 u e hu;exact⟨by simp[p],q,r⟩
   ·rcases Ae.1 hu with rfl|hu
    ·exact .inr (.inl ⟨g,x,CG hl k⟩)
    ·exact h2 u hu
  ·rename_i ty g cs l' hl BL;simp at h;subst h;obtain⟨h1,h2⟩:=Pb k BL;refine⟨λu e hu=> ?_,λu hu=> ?_⟩
   ·obtain⟨p,q,r⟩:=h1 u e hu;exact⟨by simp[p],q,r⟩
   ·rcases Ae.1 hu with rfl|hu
    ·exact .inr (.inr ⟨ty,g,cs,CG hl k⟩)
    ·exact h2 u hu
  ·cases h
theorem LS{hp:Nat->Option Af}:∀{l:List (Nat × Af)} {t:Nat},(∀e,(t,e)∉l)->Bi hp l t=hp t
 | [],_,_=>rfl
 |(u,e)::l,t,h=>by
  have ht:t≠u:=by rintro rfl;exact h e (by simp)
  have:=LS (hp:=λv=>if v=u then some e else hp v) (l:=l) (t:=t) (λe' E6=>h e' (by simp[E6]));simp only[Bi,List.foldl_cons]at this ⊢;rw[this,if_neg ht]
theorem oF{hp:Nat->Option Af}:∀{l:List (Nat × Af)} {t:Nat} {e:Af},(t,e)∈l->(∀e',(t,e')∈l->e'=e)->Bi hp l t=some e
 | [],_,_,h,_=>by simp at h
 |(u,f)::l,t,e,h,hu=>by
  simp only[Bi,List.foldl_cons];by_cases hm:∃e',(t,e')∈l
  ·obtain⟨e',E6⟩:=hm;have:=hu e' (by simp[E6]);subst this;exact oF (hp:=λv=>if v=u then some f else hp v) E6 (λe'' h''=>hu e'' (by simp[h'']))
  ·have hn:∀e',(t,e')∉l:=λe' E6=>hm ⟨e',E6⟩;have:=LS (hp:=λv=>if v=u then some f else hp v) (l:=l) (t:=t) hn;simp only[Bi]at this;rw[this];rcases Ae.1 h with h|h
   ·cases h;simp
   ·exact absurd h (hn e)
theorem L2(hs:∀t e,hp0 t=some e->hp t=some e){ρ:List AV}{t:Nat}{e:Af}(h:CE ρ (hp0 t) e):CE ρ (hp t) e:=by
 cases hh:hp0 t with
 |none=>rw[hh]at h;exact h.elim
 |some e9=>rw[hs t e9 hh];rwa[hh]at h
theorem zEv{ρ:List AV}{o:Option Af}{e f:Af}(h:CE ρ o e)(k:CE ρ o f):e=f:=by
 cases o with
 |none=>exact h.elim
 |some o=>
  cases o with
  |gd gs x=>exact h.2.symm.trans k.2
  |box=>exact h.symm.trans k
  |row=>exact h.symm.trans k
  |br=>exact h.symm.trans k
  |dead=>exact h.symm.trans k
  |deep=>exact h.symm.trans k
  |hol=>exact h.symm.trans k
  |pre=>exact h.symm.trans k
theorem Rel.freeze(h:Rel c n sl hp a)(hs:∀t e,hp0 t=some e->hp t=some e)(k:Bt c.ρ gs){ts:List Nat}{l:List (Nat × Af)}(hf:DV hp0 gs ts=some l):
  Rel (c.br (l.map (·.1))) n sl (Bi hp l) a:=by
 obtain⟨h1,h2⟩:=Pb k hf;have hG:∀u,(c.br (l.map (·.1))).G u=if u∈l.map (·.1)then⟨[],[]⟩else c.G u:=λu=>rfl;have JU:∀t e e',(t,e)∈l->(t,e')∈l->e'=e:=by intro t e e' he E6;obtain⟨_,_,g,x,_,rfl,r,rl⟩:=h1 t e he;obtain⟨_,_,g',x',_,rfl,r',rl'⟩:=h1 t e' E6;have:=zEv r r';subst this;obtain⟨rfl,rfl⟩:=rl.fun rl';rfl
 refine h.change (λu=>u∈l.map (·.1)) (Cx.iz c _) ⟨h.base.os,h.base.tape,h.base.output,h.base.size,h.base.pins,h.base.block,h.base.pk,h.base.lo⟩ (λu hu=>⟨LS (λe he=>hu (List.mem_map.2 ⟨_,he,rfl⟩)),by rw[hG,if_neg hu],by simp only[Cx.br,if_neg hu],λg hg=>hg⟩) (λu hu b hb=>rfl) (λu hu=> ?_) ?_ h.bp (λu e hu=> ?_)
 ·obtain⟨⟨u',e⟩,he,rfl⟩:=List.mem_map.1 hu;have D2:=oF (hp:=hp) he (λe' E6=>JU _ _ _ he E6);obtain⟨_,_,g,x,f0,rfl,r,rl⟩:=h1 u' e he;obtain⟨q1,f,r1,r2⟩:=rl.rd (h.ents u' _ (L2 hs r));have Lf:((c.br (l.map (·.1))).G u').top=[]/\((c.br (l.map (·.1))).G u').O=[]:=by rw[hG,if_pos hu];simp
  rw[D2];refine⟨λe' hr=> ?_,λ_=>Lf⟩;have:e'= .br g x:=hr.symm;subst this;exact⟨q1,⟨f,r1,λb hb=>by
   refine zzj h.gw (ts:=l.map (·.1)) (us:=[u']) (by simpa using hu) ?_;rcases r2 b hb with hb|hb
   ·exact .inr ⟨u',by simp,hb⟩
   ·exact .inl hb⟩,Lf.1,Lf.2⟩
 ·refine⟨λu=> ?_,λu v eB b hb=> ?_,λu b hb=> ?_,λu b hb=> ?_⟩
  ·rw[hG];split
   ·simp[GI.own]
   ·exact h.gw.nodup u
  ·rw[hG]at hb ⊢;split at hb
   ·simp[GI.own]at hb
   ·split
    ·simp[GI.own]
    ·exact h.gw.cm u v eB b hb
  ·rw[hG]at hb;split at hb
   ·simp[GI.own]at hb
   ·exact h.gw.allow u b hb
  ·rw[hG]at hb;split at hb
   ·simp[GI.own]at hb
   ·exact h.gw.inb u b hb
 ·by_cases hm:∃e',(u,e')∈l
  ·obtain⟨e',E6⟩:=hm;obtain⟨_,_,g,x,f0,rfl,r,rl⟩:=h1 u e' E6;have r':=L2 hs r;cases hh:hp u with
   |none=>rw[hh]at r';exact r'.elim
   |some e9=>exact h.cr u e9 hh
  ·rw[LS (λe' E6=>hm ⟨e',E6⟩)]at hu;exact h.cr u e hu
theorem zyR{ts:List Nat}(h:NJ hp0 gs ts=true){t:Nat}(ht:t∈ts){ty:Nat}{g:Bool}{cs:List SV}:Dh hp0 gs t≠some (.box ty g cs):=by intro hl;simp only[NJ,Bf,List.any_eq_false]at h;have:=h t ht;rw[hl]at this;simp at this
theorem zww{ρ:List AV}(k:Bt ρ gs){ts:List Nat}{l:List (Nat × Af)}(hf:DV hp0 gs ts=some l){t:Nat}(ht:t∈ts):(∃g x,(t,Af.br g x)∈l)\/(∃g x,Dh hp0 gs t=some (.br g x))\/ ∃ty g cs,Dh hp0 gs t=some (.box ty g cs):=by
 induction ts generalizing l with
 |nil=>simp at ht
 |cons u ts ih=>
  unfold DV at hf;split at hf
  ·rename_i ety sz g x d l' hl BL;split at hf
   ·simp at hf;subst hf;rcases Ae.1 ht with rfl|ht
    ·exact .inl ⟨g,x,by simp⟩
    ·rcases ih BL ht with⟨g',x',hh⟩|hh
     ·exact .inl ⟨g',x',by simp[hh]⟩
     ·exact .inr hh
   ·cases hf
  ·rename_i ety sz dl g ep x l' hl BL;split at hf
   ·simp at hf;subst hf;rcases Ae.1 ht with rfl|ht
    ·exact .inl ⟨g,x,by simp⟩
    ·rcases ih BL ht with⟨g',x',hh⟩|hh
     ·exact .inl ⟨g',x',by simp[hh]⟩
     ·exact .inr hh
   ·cases hf
  ·rename_i g x l' hl BL;simp at hf;subst hf;rcases Ae.1 ht with rfl|ht
   ·exact .inr (.inl ⟨g,x,hl⟩)
   ·exact ih BL ht
  ·rename_i ty g cs l' hl BL;simp at hf;subst hf;rcases Ae.1 ht with rfl|ht
   ·exact .inr (.inr ⟨ty,g,cs,hl⟩)
   ·exact ih BL ht
  ·cases hf
theorem Vm(h:Rel c n sl hp a)(eh:EH c hp0)(k:Bt c.ρ gs){ts:List Nat}{l:List (Nat × Af)}(hf:DV hp0 gs ts=some l)(hb:NJ hp0 gs ts=true){b:Nat}(hs:c.dw ts b):(c.br (l.map (·.1))).ok b:=by
 rcases hs with hs|⟨t,ht,CI⟩
 ·exact Cx.ei hs
 ·rcases zww k hf ht with⟨g,x,hh⟩|⟨g,x,hh⟩|⟨ty,g,cs,hh⟩
  ·exact zzj h.gw (us:=[t]) (by simpa using⟨_,hh⟩) (.inr ⟨t,by simp,CI⟩)
  ·obtain⟨_,_,Ci,_⟩:=eh t _ (CG hh k);rw[Ci]at CI;simp at CI
  ·exact absurd hh (zyR hb ht)
theorem vV(h:Rel c n sl hp a)(hs:∀t e,hp0 t=some e->hp t=some e)(k:Bt c.ρ gs){t:TypeId}{s:SV}{v:Value}(hr:SR c [s] [v]){x:E}{fz:List (Nat × Af)}{d:Bool}{ck:List Cn}(ht:aM P hp0 gs t s=some (x,fz,d,ck))(hc:∀q∈ck,q.den c.ρ):
  ∃f,Rd c.w [v] [x.den c.ρ] f/\(d=true->f=[])/\(∃ts,DV hp0 gs ts=some fz/\ ∀b∈f,(c.br (fz.map (·.1))).ok b)/\
   (if Ao P t then∃cs,x.den c.ρ= .agg cs/\cs.length=P.cellsOf t else(∀cs,x.den c.ρ≠ .agg cs)/\ ∀cs,x.den c.ρ≠ .tup cs):=by
 have eh:EH c hp0:=λt e hr=>h.ents t e (L2 hs hr);unfold aM at ht;split at ht
 ·cases ht
 ·rename_i y hy;obtain⟨f,q1,q2⟩:=H6 eh k A5 hy hr A5 (AI _);split at ht
  ·simp at ht;obtain⟨rfl,rfl,rfl,rfl⟩:=ht;obtain⟨c1,c2,c3,c4⟩:=Ch hc;have hf:f=[]:=by
    cases hg:Ao P t with
    |true=>obtain⟨cs,Bx⟩:=c3 hg;obtain⟨as_,rfl,_,r⟩:=Kj q1 Bx;exact Hv r (by rw[Bx]at c2;exact c2)
    |false=>exact Hv q1 (by simpa using c4 hg)
   subst hf;refine⟨[],q1,λ_=>rfl,⟨[],rfl,by simp⟩,?_⟩;split
   ·rename_i hg;obtain⟨cs,Bx⟩:=c3 hg;exact⟨cs,Bx,by rw[Bx]at c1;exact c1⟩
   ·rename_i hg;have:=c4 (by simpa using hg);exact⟨λcs Bx=>by rw[Bx]at this;simp[AV.scalar]at this,λcs Bx=>by rw[Bx]at this;simp[AV.scalar]at this⟩
  ·split at ht
   ·rename_i Iz;split at ht
    ·cases ht
    ·rename_i l hl;simp only[Ad,AX]at ht;obtain⟨rfl,rfl,rfl,rfl⟩:=ht;refine⟨f,q1,by simp,⟨_,hl,λb hb=>Vm h eh k hl Iz (q2 b hb)⟩,?_⟩;have hq:=Ch hc;unfold sX at hq;split
     ·rename_i hg;rw[if_pos hg]at hq;obtain⟨cs,Bx,hl⟩:=hq;exact⟨cs,Bx,hl⟩
     ·rename_i hg;rw[if_neg hg]at hq;exact hq
   ·cases ht
end
section
variable {P:Program} {c:Cx} {n nx:Nat} {sl sl0:Nat->SV} {hp hp0:Nat->Option Af} {a:Act} {o:Oper} {gs:Gd} {e:Bb} {sg:BZ} {nv:Nat}
theorem Su(w:World)(t ty el:TypeId)(i:TypeInfo)(z:Value)(ht:P.underlying t=some (.slice el))(hi:P.info? el=some i)(hz:i.zero=some z)(CX:z.cells.size=i.size)(By:0<i.size)
  (Own:Nat->Prop) (v:Value) (k:Nat) (old:List Value) (ho:old.length=k*i.size)
  (AY:(k=0/\ ∃q,v= .slice q 0 0)\/ ∃g cap C,v= .slice (some ⟨g,0,none⟩) k cap/\k<=cap/\cap<=maxLen/\w.heap[g]?=some (.cells C el (0,0))/\C.size=cap*i.size/\old=C.toList.take (k*i.size)/\Own g)
  (q:Option Addr) (m r:Nat) (news:List Value) (hs:Src w i.size q m news) (Ww:k+m<=maxLen) (hb:(k+m)*i.bytes<=140737488355328):
  ∃v' w',(Builtin.append_ #[t,t] ty #[v, .slice q m r]).run P w= .ok v' w'/\
   ((v'=v/\w'=w/\m=0)\/ ∃g cap C,v'= .slice (some ⟨g,0,none⟩) (k+m) cap/\k+m<=cap/\cap<=maxLen/\w'.heap[g]?=some (.cells C el (0,0))/\C.size=cap*i.size/\C.toList.take ((k+m)*i.size)=old++news/\
    w.grownBy w' (some g)/\((g=w.heap.size/\g<w'.heap.size)\/Own g)):=by
 have JN:news.length=m*i.size:=by
  rcases hs with⟨rfl,rfl,rfl⟩|⟨ad,rfl,h1,_⟩
  ·simp
  ·exact h1
 have hlen:(old++news).length=(k+m)*i.size:=by rw[AO,ho,JN,Nat.add_mul]
 have grown:∀(cp:Nat),cp<k+m-> ∀(X:Array Value),X.toList=old++news-> ∃C,C=X++Builtin.zeroCells z.cells (grownCap w (k+m) cp el-(k+m))/\
   k+m<=grownCap w (k+m) cp el/\grownCap w (k+m) cp el<=maxLen/\C.size=grownCap w (k+m) cp el*i.size/\C.toList.take ((k+m)*i.size)=old++news:=by
  intro cp hcp X hX;have P3:=grownCap_ge w (k+m) cp el;have FY:=grownCap_le_maxLen w (k+m) cp el Ww;refine⟨_,rfl,P3,FY,?_,?_⟩
  ·have hXs:X.size=(k+m)*i.size:=by rw[<-BC,hX,hlen]
   rw[Array.size_append,hXs,size_zeroCells,CX,<-Nat.add_mul];congr 1;omega
  ·rw[Array.toList_append,hX,<-hlen];exact List.take_left
 have newb:∀C:Array Value,w.grownBy (w.drew.alloc (.cells C el)) (some w.heap.size)/\w.heap.size<(w.drew.alloc (.cells C el)).heap.size/\(w.drew.alloc (.cells C el)).heap[w.heap.size]?=some (.cells C el (0,0)):=
  λC=>⟨⟨rfl,rfl,rfl,by simp,λj hj _=>Below.heap_alloc w.drew _ _ hj⟩,by simp,heap_alloc_new w.drew _⟩
 rcases AY with⟨rfl,p,rfl⟩|⟨g,cap,C,rfl,Ll,FY,hg,Bx,hold,aY⟩
 ·have hold:old=[]:=List.eq_nil_of_length_eq_zero (by simpa using ho);subst hold;by_cases hm:m=0
  ·subst hm;have hn:news=[]:=List.eq_nil_of_length_eq_zero (by simpa using JN);subst hn;refine⟨_,w,?_, .inl ⟨rfl,rfl,rfl⟩⟩;rcases hs with⟨rfl,_,_⟩|⟨ad,rfl,_⟩<;>cases p<;>
    simp[Builtin.append_,run_underlying ht,sizeOf,typeInfo,hi,Builtin.lenOf,Builtin.firstCells,loadCells,loadCellsFrom,storeCells]
  ·rcases hs with⟨_,rfl,_⟩|⟨ad,rfl,h1,h2,h3⟩
   ·exact absurd rfl hm
   ·obtain⟨C',PX,g1,g2,g3,g4⟩:=grown 0 (by omega) news.toArray (by simp);cases p with
    |none=>have hr:=run_append_nil (P:=P) w t ty el i z ht hi hz ad m r news h1 h2 (by omega) (by simp only[maxLen]at Ww;omega) (by have hb:=hb;simp only[Nat.zero_add]at hb;omega);simp only[Nat.zero_add]at g1 g2 g3 g4 PX ⊢;obtain⟨n1,n2,n3⟩:=newb C';refine⟨_,_,hr, .inr ⟨_,_,C',rfl,g1,g2,?_,g3,g4,?_, .inl ⟨rfl,?_⟩⟩⟩<;>rw[<-PX]<;>first|exact n3|exact n1|exact n2
    |some p=>have hr:=run_append_grow (P:=P) w t ty el i z ht hi hz p 0 0 [] (by simp) (by simp) ad m r news h1 h2 (by omega) (by simp only[maxLen]at Ww;omega) (growslice_fits (by omega) hb);rw[show(([]:List Value).toArray++news.toArray)=news.toArray by simp]at hr;simp only[Nat.zero_add]at g1 g2 g3 g4 PX hr ⊢;obtain⟨n1,n2,n3⟩:=newb C';refine⟨_,_,hr, .inr ⟨_,_,C',rfl,g1,g2,?_,g3,g4,?_, .inl ⟨rfl,?_⟩⟩⟩<;>rw[<-PX]<;>first|exact n3|exact n1|exact n2
 ·rcases hs with⟨rfl,rfl,rfl⟩|⟨ad,rfl,h1,h2,h3⟩
  ·refine⟨_,w,?_, .inl ⟨rfl,rfl,rfl⟩⟩;simp[Builtin.append_,run_underlying ht,sizeOf,typeInfo,hi,Builtin.lenOf,Builtin.firstCells,Ll,storeCells]
  ·by_cases BQ:k+m<=cap
   ·have EI:k*i.size+news.length<=C.size:=by rw[h1,Bx,<-Nat.add_mul];exact Bq _ BQ
    have hr:=run_append_room (P:=P) w t ty el i ht hi g k cap C hg ad m r news h1 h2 h3 BQ EI;refine⟨_,_,hr, .inr ⟨g,cap,_,rfl,BQ,FY,setRow_heap w g C _ el _ hg,?_,?_,⟨rfl,rfl,rfl,by simp,λj _ hj=>setRow_other w g j _ (λhh=>hj (by rw[hh]))⟩, .inr aY⟩⟩
    ·simp only[List.size_toArray,AO,Au,BD,BC];omega
    ·rw[<-hold,<-hlen];exact List.take_left
   ·have holds:∀j u,old[j]?=some u->w.cell? ((⟨g,0,none⟩:Addr).add j)=some u:=λj u hu=>by
     rw[Addr.add_lit,Nat.zero_add,EA hg];rw[hold,List.getElem?_take]at hu;split at hu
     ·simpa using hu
     ·cases hu
    have hr:=run_append_grow (P:=P) w t ty el i z ht hi hz ⟨g,0,none⟩ k cap old ho holds ad m r news h1 h2 (by omega) (by simp only[maxLen]at Ww;omega) (growslice_fits (by omega) hb);obtain⟨C',PX,g1,g2,g3,g4⟩:=grown cap (by omega) (old.toArray++news.toArray) (by simp);obtain⟨n1,n2,n3⟩:=newb C';refine⟨_,_,hr, .inr ⟨_,_,C',rfl,g1,g2,?_,g3,g4,?_, .inl ⟨rfl,?_⟩⟩⟩<;>rw[<-PX]<;>first|exact n3|exact n1|exact n2
def Cx.bd(c:Cx)(t g':Nat)(w':World)(v:Value)(top O:List Nat):Cx:=
 {c with w:=w',G:=λu=>if u=t then⟨top,O⟩else c.G u,K:=λu g=>c.K u g\/(u=t/\g=g'),H:=λu g=>if u=t/\g=g' then v else c.H u g,U:=λu=>c.U u\/u=t,E:=λu=>if u=t then c.E u+1 else c.E u}
theorem Rel.bd(h:Rel c n sl hp a){t g:Nat}(EU:c.A.pin t=none\/g≠0)(A9: ¬c.K t g){w':World}{row:Option Nat}(hg:c.w.grownBy w' row)
  (Fj:∀g0,row=some g0->g0∈(c.G t).top\/(g0=c.w.heap.size/\g0<w'.heap.size)) {top O:List Nat} (Ci:top=[]\/ ∃g0,row=some g0/\top=[g0]) (hO:O=[]\/O=(c.G t).O) {v:Value} (e1:Af) (BF:∀hs f,e1≠ .gd hs f) (k:Bt c.ρ gs)
  (he:DW c (c.bd t g w' v top O)->Du (c.bd t g w' v top O) t e1):Rel (c.bd t g w' v top O) n sl (Bi hp [(t,CS gs e1)]) a:=by
 have hG:∀u,(c.bd t g w' v top O).G u=if u=t then⟨top,O⟩else c.G u:=λu=>rfl;have hM:∀b,(c.bd t g w' v top O).M b->c.M b\/row=some b:=by
  rintro b ⟨u,hu⟩;rw[hG]at hu;split at hu
  ·rcases Ci with rfl|⟨g0,hr,rfl⟩
   ·simp at hu
   ·simp at hu;subst hu;exact .inr hr
  ·exact .inl ⟨u,hu⟩
 have Tw:∀b,b<c.w.heap.size->c.ok b->row≠some b:=by
  intro b hb AZ hr;rcases Fj b hr with hh|⟨hh,_⟩
  ·exact AZ.1 ⟨t,hh⟩
  ·omega
 have Cb:DW c (c.bd t g w' v top O):=by
  refine⟨rfl,rfl,λb hb AZ=>⟨λhm=>(hM b hm).elim AZ.1 (Tw b hb AZ),AZ.2⟩,λb hb AZ=>hg.block b hb (λhh=>Tw b hb AZ hh.symm),λu g1 hu=>⟨.inl hu,?_⟩,λu g1 hu=> ?_⟩
  ·simp only[Cx.bd];rw[if_neg];rintro⟨rfl,rfl⟩;exact A9 hu
  ·by_cases GQ:u=t
   ·have e1:(c.bd t g w' v top O).E u=c.E u+1:=by simp only[Cx.bd,if_pos GQ]
    exact⟨by omega,λh=>by omega⟩
   ·have e1:(c.bd t g w' v top O).E u=c.E u:=by simp only[Cx.bd,if_neg GQ]
    have e2:(c.bd t g w' v top O).G u=c.G u:=by simp only[Cx.bd,if_neg GQ]
    rw[e1];refine⟨AI _,λ_=>⟨e2,λb hb F8=>hg.block b F8 λhh=> ?_⟩⟩;rcases Fj b hh.symm with h1|⟨h1,_⟩
    ·exact h.gw.cm u t GQ b (by simp[GI.own,hb]) (by simp[GI.own,h1])
    ·omega
 have D2:∀u,Bi hp [(t,CS gs e1)] u=if u=t then some (CS gs e1)else hp u:=λu=>rfl;have Ot:∀u,u≠t-> ∀b∈(c.G u).own,row≠some b:=by
  intro u hu b hb hr;rcases Fj b hr with hh|⟨hh,_⟩
  ·exact h.gw.cm u t hu b hb (by simp[GI.own,hh])
  ·have:=h.gw.inb u b hb;omega
 have BX:∀b∈(⟨top,O⟩:GI).own,row=some b\/b∈(c.G t).own:=by
  intro b hb;simp only[GI.own,Ac]at hb ⊢;rcases hb with hb|hb
  ·rcases Ci with rfl|⟨g0,hr,rfl⟩
   ·simp at hb
   ·simp at hb;subst hb;exact .inl hr
  ·rcases hO with rfl|rfl
   ·simp at hb
   ·exact .inr (.inr hb)
 refine h.change (λu=>u=t) Cb ⟨hg.os.trans h.base.os,hg.tape.trans h.base.tape,hg.output.trans h.base.output,Nat.le_trans h.base.size hg.size,λu v' hp=>⟨.inl (h.base.pins u v' hp).1,λhk=> ?_⟩,λb hb Gf=> ?_,h.base.pk,h.base.lo⟩
  (λu hu=>⟨by rw[D2,if_neg hu],by rw[hG,if_neg hu],by simp[Cx.bd,hu],λg1 hh=>hh.resolve_right (λhh=>hu hh.1)⟩) (λu hu b hb=>hg.block b (h.gw.inb u b (by simp[GI.own,hb])) (λhh=>Ot u hu b (by simp[GI.own,hb]) hh.symm)) (λu hu=> ?_) ?_ (λu g1 hh=> ?_) (λu f hf=> ?_)
 ·have GQ: ¬(u=t/\0=g):=by
   rintro⟨rfl,rfl⟩;rcases EU with hh|hh
   ·have hp':c.A.pin u=some v':=hp;rw[hh]at hp';cases hp'
   ·exact hh rfl
  have Cp:=hk.resolve_right GQ;simp only[Cx.bd];rw[if_neg GQ];exact(h.base.pins u v' hp).2 Cp
 ·refine(hg.block b (Nat.lt_of_lt_of_le hb h.base.size) (λhh=> ?_)).trans (h.base.block b hb Gf);rcases Fj b hh.symm with hh|⟨hh,_⟩
  ·rcases h.gw.allow t b (by simp[GI.own,hh])with h1|h1
   ·exact absurd h1 (Nat.not_le.2 hb)
   ·exact Gf h1
  ·have:=h.base.size;have h9:b<c.w0.heap.size:=hb;omega
 ·subst hu;rw[D2,if_pos rfl];exact⟨λe' hr=>by rw[(R9 k BF).1 hr];exact he Cb,λhn=>absurd ((R9 k BF).2 rfl) (hn e1)⟩
 ·have B7:(⟨top,O⟩:GI).own.Nodup:=by
   have h0:=h.gw.nodup t;simp only[GI.own]at h0 ⊢;rw[List.nodup_append]at h0 ⊢;refine⟨by rcases Ci with rfl|⟨g0,hr,rfl⟩<;>simp,by rcases hO with rfl|rfl;simp;exact h0.2.1,λp hp q hq=> ?_⟩;rcases Ci with rfl|⟨g0,hr,rfl⟩
   ·simp at hp
   ·simp at hp;subst hp;rcases hO with rfl|rfl
    ·simp at hq
    ·rcases Fj p hr with hh|⟨hh,_⟩
     ·exact h0.2.2 p hh q hq
     ·have:=h.gw.inb t q (by simp[GI.own,hq]);omega
  refine⟨λu=> ?_,λu u' Lw b hb=> ?_,λu b hb=> ?_,λu b hb=> ?_⟩
  ·rw[hG];split
   ·exact B7
   ·exact h.gw.nodup u
  ·rw[hG]at hb ⊢;by_cases h1:u=t
   ·rw[if_pos h1]at hb;rw[if_neg (λhh=>Lw (h1.trans hh.symm))];rcases BX b hb with hr|hb
    ·exact λhh=>Ot u' (λh2=>Lw (h1.trans h2.symm)) b hh hr
    ·exact h.gw.cm t u' (λhh=>Lw (h1.trans hh)) b hb
   ·rw[if_neg h1]at hb;by_cases h2:u'=t
    ·rw[if_pos h2];intro Cc;rcases BX b Cc with hr|Cc
     ·exact Ot u h1 b hb hr
     ·exact h.gw.cm u t h1 b hb Cc
    ·rw[if_neg h2];exact h.gw.cm u u' Lw b hb
  ·rw[hG]at hb;split at hb
   ·rcases BX b hb with hr|hb
    ·rcases Fj b hr with hh|⟨hh,_⟩
     ·exact h.gw.allow t b (by simp[GI.own,hh])
     ·exact .inl (by rw[hh];exact h.base.size)
    ·exact h.gw.allow t b hb
   ·exact h.gw.allow u b hb
  ·rw[hG]at hb;show b<w'.heap.size;split at hb
   ·rcases BX b hb with hr|hb
    ·rcases Fj b hr with hh|⟨_,hh⟩
     ·exact Nat.lt_of_lt_of_le (h.gw.inb t b (by simp[GI.own,hh])) hg.size
     ·exact hh
    ·exact Nat.lt_of_lt_of_le (h.gw.inb t b hb) hg.size
   ·exact Nat.lt_of_lt_of_le (h.gw.inb u b hb) hg.size
 ·rcases hh with hh|⟨rfl,_⟩
  ·exact .inl (h.bp u g1 hh)
  ·exact .inr rfl
 ·rw[D2]at hf;split at hf
  ·rename_i hu;exact .inr hu
  ·exact .inl (h.cr u f hf)
theorem sC{w:World}{v:Value}{ys:List AV}{f:List Nat}{sz:Nat}(h:Rd w [v] [.sl ys] f)(hs:∀y∈ys,y.cells.length=sz):
  ∃q r news N,v= .slice q ys.length r/\Src w sz q ys.length news/\Rd w news (Aq ys) N/\(∀b∈N,b∈f)/\news.length=ys.length*sz/\(∀u∈news,u.oneCell'=true):=by
 rcases h.kind with hh|hh|hh|hh|hh|hh|hh|hh|hh|hh
 ·obtain⟨_,_,_,hh,_⟩:=hh;cases hh
 ·obtain⟨_,_,hh,_⟩:=hh;cases hh
 ·obtain⟨_,_,hh,_⟩:=hh;cases hh
 ·obtain⟨p,r,rfl,hh,rfl⟩:=hh;cases hh;refine⟨p,r,[],[],rfl,?_, .nil,by simp,by simp,by simp⟩;cases p with
  |none=>exact .inl ⟨rfl,rfl,rfl⟩
  |some p=>exact .inr ⟨p,rfl,by simp,by simp,by simp⟩
 ·obtain⟨b,off,m,r,ys',cs,C,t,fz,sz',f1,rfl,hh,rfl,hb,h1,h2,h3,h4,h5,h6,HH,h7⟩:=hh;cases hh;subst h3;have Gn:sz'=sz:=by
   cases ys with
   |nil=>simp at h1
   |cons y ys=>rw[<-h4 y (by simp),hs y (by simp)]
  subst Gn;have hl:=h7.len;rw[KI ys h4]at hl;exact⟨_,r,cs,f1,rfl, .inr ⟨_,rfl,hl,λj u hu=>by rw[Addr.add_lit,EA hb];exact h6 j u hu,HH⟩,h7,λq hq=>by simp[hq],hl,HH⟩
 ·obtain⟨_,_,_,hh,_⟩:=hh;cases hh
 ·obtain⟨_,_,_,hh,_⟩:=hh;cases hh
 ·obtain⟨_,_,_,_,_,_,_,hh,_⟩:=hh;cases hh
 ·obtain⟨_,_,_,_,hh,_⟩:=hh;cases hh
 ·obtain⟨_,hh,_⟩:=hh;cases hh
end
section
variable {P:Program} {c:Cx} {n nx:Nat} {sl sl0:Nat->SV} {hp hp0:Nat->Option Af} {a:Act} {o:Oper} {gs:Gd} {e:Bb} {sg:BZ} {nv:Nat}
theorem Pp(hp:Nat->Option Af)(l m:List (Nat × Af)):Bi hp (l++m)=Bi (Bi hp l) m:=by simp[Bi,List.foldl_append]
theorem zwg(h:Rel c n sl hp a)(hs:∀t e,hp0 t=some e->hp t=some e)(k:Bt c.ρ gs){el:TypeId}{s:SV}{v:Value}(hr:SR c [s] [v]){y:E}(hy:BB hp0 gs A5 s=some y){fz:List (Nat × Af)}{d:Bool}{ck:Cn}(ht:V3 P hp0 gs el s y=some (fz,d,ck))(hc:ck.den c.ρ):
  ∃ts ys q r news N,DV hp0 gs ts=some fz/\y.den c.ρ= .sl ys/\(∀z∈ys,z.cells.length=P.cellsOf el)/\v= .slice q ys.length r/\Src c.w (P.cellsOf el) q ys.length news/\Rd c.w news (Aq ys) N/\(∀b∈N,(c.br (fz.map (·.1))).ok b)/\(d=true->N=[])/\news.length=ys.length*P.cellsOf el/\ ∀u∈news,u.oneCell'=true:=by
 have eh:EH c hp0:=λt e hr=>h.ents t e (L2 hs hr);obtain⟨f,q1,q2⟩:=H6 eh k A5 hy hr A5 (AI _);unfold V3 at ht;split at ht
 ·simp only[Ad,AX]at ht;obtain⟨rfl,rfl,rfl⟩:=ht;obtain⟨ys,Dn,Aw⟩:=hc;rw[Dn]at q1;obtain⟨q,r,news,N,hv,g1,g2,g3,g4,g5⟩:=sC q1 (λz hz=>(Aw z hz).1);have hN:N=[]:=Hv g2 (λx hx=>by
   obtain⟨z,hz,hx⟩:=List.mem_flatMap.1 hx;exact(Aw z hz).2 x hx)
  exact⟨[],ys,q,r,news,N,rfl,Dn,λz hz=>(Aw z hz).1,hv,g1,g2,by simp[hN],λ_=>hN,g4,g5⟩
 ·split at ht
  ·rename_i Iz;obtain⟨l,hl,ht⟩:=Ar.1 ht;simp only[AX]at ht;obtain⟨rfl,rfl,rfl⟩:=ht;obtain⟨ys,Dn,Aw⟩:=hc;rw[Dn]at q1;obtain⟨q,r,news,N,hv,g1,g2,g3,g4,g5⟩:=sC q1 Aw;exact⟨_,ys,q,r,news,N,hl,Dn,Aw,hv,g1,g2,λb hb=>Vm h eh k hl Iz (q2 b (g3 b hb)),by simp,g4,g5⟩
  ·cases ht
theorem KG{el:TypeId}(h:Hy P el=true):∃i z,P.info? el=some i/\i.zero=some z/\z.cells.size=i.size/\0<i.size/\P.cellsOf el=i.size/\P.bytesOf el=i.bytes:=by
 unfold Hy at h;cases hi:P.info? el with
 |none=>simp[hi]at h
 |some i=>
  cases hz:i.zero with
  |none=>simp[hi,hz]at h
  |some z=>simp only[hi,hz,Ab,AK,bne_iff_ne]at h;exact⟨i,z,rfl,hz,h.1,by omega,by simp[Program.cellsOf,hi],by simp[Program.bytesOf,hi]⟩
theorem Vf(xs ys:List AV):Aq (xs++ys)=Aq xs++Aq ys:=by simp[Aq]
theorem kN(h:Bz P c n nx sl hp a sl0 hp0 o gs){x y:Operand}{tx:TypeId}{cl:Call}(ho:o.op= .call cl)(Aw:cl.callee= .builtin .append)(CV:cl.args.toList=[x,y])(DP:cl.argTypes.toList=[tx,tx])
  {el:TypeId} (Bo:P.underlying tx=some (.slice el)) (hz:Hy P el=true) {s2:SV} {ye:E} (A7:BK sl0 gs y=some s2) (hy:BB hp0 gs A5 s2=some ye) {fz:List (Nat × Af)} {d:Bool} {ck:Cn} (Cu:V3 P hp0 gs el s2 ye=some (fz,d,ck)) (Ir:ck.den c.ρ)
  {t g:Nat} (EU:c.A.pin t=none\/g≠0) {c0:E} {d':Bool} (BQ:Cn.den c.ρ (.room c0 ye (P.bytesOf el))) (Ek:∀f,(t,f)∉fz) (A9: ¬c.K t g)
  {top N0:List Nat} {v:Value} (hv:a.eval x=v) (AY:CZ c.w el (P.cellsOf el) v (c0.den c.ρ) top N0) (Ci:(c.G t).top=top) (NR:∀b∈N0,c.ok b) (WG:d'=true->SY c.w N0/\(c.G t).O=N0) (Lh:∀g',c.K t g'->g'<=g) (hU:∀u,u=t->c.U u\/(nx<=u/\u<nx+BT)) {ckl:List Cn}:
  AB P o c n nx sl hp gs a {ca:=ckl,val:= .own t g,bj:=fz++ [(t,CS gs (.row el (P.cellsOf el) g (.app c0 ye) (d&&d')))]}:=by
 have Ah:cl.args= #[x,y]:=by apply Array.ext';simp[CV]
 have FP:cl.argTypes= #[tx,tx]:=by apply Array.ext';simp[DP]
 have CJ:y∈o.op.operands:=by simp[ho,Op.operands,Call.operands,Aw,Ah]
 obtain⟨i,z,hi,FL,CX,By,Cm,E4⟩:=KG hz;obtain⟨ts,ys,q,r,news,N,HN,Dn,I7,De,Dd,C7,F7,hdN,JN,Oo⟩:=zwg h.rel h.hp h.gs (h.ct A7 CJ) hy Cu Ir;have Dz:=h.rel.freeze h.hp h.gs HN;obtain⟨xs,Ck,GR,_,A1⟩:=AY;obtain⟨mm,kk,GP,DS,MD,WQ⟩:=BQ;rw[Ck]at GP;rw[Dn]at DS;simp only[AV.len,AV.int.injEq,true_and]at GP DS;have Dx:(xs.length+ys.length)*i.bytes<=140737488355328:=by
  rw[<-GP,<-DS,E4]at MD;have h9:(((xs.length+ys.length)*i.bytes:Nat):Int)<=140737488355328:=by rw[Int.natCast_mul,Int.natCast_add];exact MD
  omega
 have F8:xs.length+ys.length<=140737488355328:=by rw[<-GP,<-DS]at WQ;omega
 rw[Cm]at Dd JN GR I7 A1;obtain⟨old,hold,Fw,Da,CK⟩:∃old,old.length=xs.length*i.size/\((xs.length=0/\ ∃q,v= .slice q 0 0)\/ ∃g cap C,v= .slice (some ⟨g,0,none⟩) xs.length cap/\xs.length<=cap/\cap<=maxLen/\c.w.heap[g]?=some (.cells C el (0,0))/\C.size=cap*i.size/\old=C.toList.take (xs.length*i.size)/\g∈(c.G t).top)/\Rd c.w old (Aq xs) N0/\ ∀u∈old,u.oneCell'=true:=by
  rcases A1 with⟨rfl,⟨p,rfl⟩,rfl,rfl⟩|⟨g9,cap,C,rfl,h6,h7,h8,h9,rfl,Fh,EE⟩
  ·exact⟨[],by simp, .inl ⟨rfl,p,rfl⟩, .nil,by simp⟩
  ·refine⟨_,?_, .inr ⟨g9,cap,C,rfl,h6,h7,h8,h9,rfl,by rw[Ci];simp⟩,EE,Fh⟩;have e9:C.toList.length=cap*i.size:=by rw[<-h9];simp
   rw[Au,e9];exact Nat.min_eq_left (Bq _ h6)
 obtain⟨v',w',AQ,AN⟩:=Su (P:=P) c.w tx o.type el i z Bo hi FL CX By (λg9=>g9∈(c.G t).top) v xs.length old hold Fw q ys.length r news Dd (by simp only[maxLen];omega) Dx;have Dc:(execOp a.eval o).run P c.w= .ok (.value v') w':=by simp[execOp,ho,resolve,Aw,Ah,FP,invoke,builtin,hv,De,AQ]
 intro next Q hk
 unfold Oper.wp;rw[Dc,Oper.upon_value];have hc1w:(c.br (fz.map (·.1))).w=c.w:=rfl;have pO:(c.br (fz.map (·.1))).G t=c.G t:=by simp only[Cx.br];rw[if_neg];rintro hh;obtain⟨⟨u,f⟩,hf,rfl⟩:=List.mem_map.1 hh;exact Ek f hf
 obtain⟨row,top',TA,Fj,T1,Bd,Di⟩:∃row top',c.w.grownBy w' row/\(∀g0,row=some g0->g0∈(c.G t).top\/(g0=c.w.heap.size/\g0<w'.heap.size))/\(top'=[]\/ ∃g0,row=some g0/\top'=[g0])/\
   (DW (c.br (fz.map (·.1))) ((c.br (fz.map (·.1))).bd t g w' v' top' (if(d&&d')=true then(c.G t).O else []))-> ∃N',CZ w' el (P.cellsOf el) v' (.sl (xs++ys)) top' N'/\(∀b∈N',b∈N0\/b∈N)/\((d&&d')=true->N'=N0))/\ ∃p m r,v'= .slice p m r:=by
  rcases AN with⟨rfl,rfl,Cj⟩|⟨g9,cap,C,rfl,h1,h2,h3,h4,h5,h6,h7⟩
  ·have HX:ys=[]:=List.eq_nil_of_length_eq_zero Cj;subst HX;refine⟨if top=[]then none else top.head?,top,⟨rfl,rfl,rfl,AI _,λ_ _ _=>rfl⟩,λg0 Fj=> .inl ?_,?_,λ_=>⟨N0,?_,λb hb=> .inl hb,λ_=>rfl⟩,?_⟩
   ·rw[Ci];split at Fj
    ·cases Fj
    ·exact List.mem_of_mem_head? Fj
   ·rcases A1 with⟨_,_,rfl,_⟩|⟨g9,_,_,_,_,_,_,_,rfl,_⟩
    ·exact .inl rfl
    ·exact .inr ⟨g9,by simp,rfl⟩
   ·rw[Cm];exact⟨xs,by simp,GR,By,A1⟩
   ·rcases Fw with⟨_,p,rfl⟩|⟨g9,cap,C,rfl,_⟩
    ·exact⟨_,_,_,rfl⟩
    ·exact⟨_,_,_,rfl⟩
  ·refine⟨some g9,[g9],h6,λg0 Fj=> ?_, .inr ⟨g9,rfl,rfl⟩,λGN=>⟨N0++N,⟨xs++ys,rfl,λz hz=> ?_,by rw[Cm];exact By, .inr ⟨g9,cap,C,by simp,by simpa using h1,h2,h3,by rw[Cm];exact h4,rfl,?_,?_⟩⟩,λb hb=>Ac.1 hb,λE5=> ?_⟩,_,_,_,rfl⟩
   ·cases Fj;exact h7.symm
   ·rcases Ac.1 hz with hz|hz
    ·rw[Cm];exact GR z hz
    ·rw[Cm];exact I7 z hz
   ·rw[Cm];simp only[AO];rw[h5];intro u hu;rcases Ac.1 hu with hu|hu
    ·exact CK u hu
    ·exact Oo u hu
   ·rw[Cm];simp only[AO];rw[h5,Vf];refine Rd.app (Da.frame λb hb=> ?_) (C7.frame λb hb=> ?_)
    ·have Dx:=Da.inb b hb;exact GN.mem b Dx (Cx.ei (NR b hb))
    ·have Dx:=C7.inb b hb;exact GN.mem b Dx (F7 b hb)
   ·simp only[Ab]at E5;rw[hdN E5.1];simp
 obtain⟨p9,m9,r9,hv9⟩:=Di;have DZ:=Dz.bd (gs:=gs) (t:=t) (g:=g) (w':=w') (row:=row) (top:=top') (O:=if(d&&d')=true then(c.G t).O else []) (v:=v') EU A9 TA (by rw[pO];exact Fj) T1 (by split;exact .inr (by rw[pO]);exact .inl rfl)
  (.row el (P.cellsOf el) g (.app c0 ye) (d&&d')) (by intros;simp) h.gs (λGN=>by
   obtain⟨N',o1,o2,o3⟩:=Bd GN;have AZ:∀b∈N',((c.br (fz.map (·.1))).bd t g w' v' top' (if(d&&d')=true then(c.G t).O else [])).ok b:=by
    intro b hb;rcases o2 b hb with hb|hb
    ·exact GN.ok b (Da.inb b hb) (Cx.ei (NR b hb))
    ·exact GN.ok b (C7.inb b hb) (F7 b hb)
   refine⟨.inr ⟨rfl,rfl⟩,λg' Ct=> ?_,N',?_,AZ,λE5=> ?_,λE5=> ?_⟩
   ·rcases Ct with Ct|⟨_,rfl⟩
    ·exact Lh g' Ct
    ·exact AI _
   ·have e1:((c.br (fz.map (·.1))).bd t g w' v' top' (if(d&&d')=true then(c.G t).O else [])).H t g=v':=by simp[Cx.bd]
    have e2:(((c.br (fz.map (·.1))).bd t g w' v' top' (if(d&&d')=true then(c.G t).O else [])).G t).top=top':=by simp[Cx.bd]
    rw[e1,e2];show CZ w' el (P.cellsOf el) v' (AV.app (c0.den c.ρ) (ye.den c.ρ)) top' N';rw[Ck,Dn];exact o1
   ·have aV:=o3 E5;have bS:d'=true:=by simp only[Ab]at E5;exact E5.2
    obtain⟨u1,u2⟩:=WG bS;subst aV;refine⟨u1.frame λb hb=>GN.mem b (Da.inb b hb) (Cx.ei (NR b hb)),?_⟩;simp only[Cx.bd,if_true,E5];exact u2
   ·simp[Cx.bd,E5])
 have bC:SR ((c.br (fz.map (·.1))).bd t g w' v' top' (if(d&&d')=true then(c.G t).O else [])) [.own t g] [v']:=by rw[hv9];exact .own (.inr ⟨rfl,rfl⟩) (by simp[Cx.bd]) .nil
 refine hk _ ((c.br (fz.map (·.1))).bd t g w' v' top' (if(d&&d')=true then(c.G t).O else [])) ⟨rfl,rfl,rfl,rfl,λu hu=> ?_⟩ ?_
 ·rcases hu with hu|rfl
  ·exact .inl hu
  ·exact hU u rfl
 ·have:=DZ.put (bC.mkGd gs h.gs) o.dst;rw[Pp];exact this
end
section
variable {P:Program} {c:Cx} {n nx:Nat} {sl sl0:Nat->SV} {hp hp0:Nat->Option Af} {a:Act} {o:Oper} {gs:Gd} {e:Bb} {sg:BZ} {nv:Nat}
theorem Jc{t el:TypeId}(h:Hx P t=some el):P.underlying t=some (.slice el):=by
 unfold Hx at h;split at h
 ·simp at h;subst h;assumption
 ·cases h
theorem Zx{t el:TypeId}(h:Hx P t=some el):CR P t=some el:=by have hu:=Jc h;simp[CR,hu]
theorem ztC{ts:List Nat}{l:List (Nat × Af)}(k:Bt c.ρ gs)(h:DV hp0 gs ts=some l):∀t f,(t,f)∈l-> ∃g x f',CE c.ρ (hp0 t) f'/\LV f' g x:=by intro t f hf;obtain⟨_,_,g,x,f',_,r⟩:=(Pb k h).1 t f hf;exact⟨g,x,f',r⟩
theorem zuM(h:Bz P c n nx sl hp a sl0 hp0 o gs){x y:Operand}{tx ty:TypeId}{cl:Call}(ho:o.op= .call cl)(Aw:cl.callee= .builtin .append)(CV:cl.args.toList=[x,y])(DP:cl.argTypes.toList=[tx,ty])
  {s1 s2:SV} (BM:BK sl0 gs x=some s1) (A7:BK sl0 gs y=some s2) (he:mN P hp0 gs nx tx ty s1 s2=some e) (hc:∀q∈e.ca,Cn.den c.ρ q):AB P o c n nx sl hp gs a e:=by
 have Ah:cl.args= #[x,y]:=by apply Array.ext';simp[CV]
 have Dy:x∈o.op.operands:=by simp[ho,Op.operands,Call.operands,Aw,Ah]
 unfold mN at he;split at he
 ·cases he
 rename_i JS;have JS:tx=ty:=by simpa using JS
 subst JS;split at he
 ·rename_i el Bo;have Bo:=Jc Bo;split at he
  ·cases he
  rename_i hz;have hz:Hy P el=true:=by simpa using hz
  split at he
  ·cases he
  rename_i ye hy;split at he
  ·cases he
  rename_i fz d ck Cu;obtain⟨ts,HN⟩:∃ts,DV hp0 gs ts=some fz:=by
   unfold V3 at Cu;split at Cu
   ·simp only[Ad,AX]at Cu;obtain⟨rfl,_⟩:=Cu;exact⟨[],rfl⟩
   ·split at Cu
    ·obtain⟨l,hl,Cu⟩:=Ar.1 Cu;simp only[AX]at Cu;obtain⟨rfl,_⟩:=Cu;exact⟨_,hl⟩
    ·cases Cu
  have r1:=h.ct BM Dy;have fresh:∀f,(nx,f)∉fz:=λf hf=>by
   obtain⟨_,_,_,r,_⟩:=ztC (c:=c) h.gs HN nx f hf;have r:=L2 h.hp r;cases hh:hp nx with
   |none=>rw[hh]at r;exact r.elim
   |some e9=>exact Ni h (h.rel.cr nx e9 hh)
  have hK:∀g,¬c.K nx g:=λg hg=>Ni h (h.rel.bp _ _ hg);have Gl:=h.rel.off nx (λe9 hr=>by
   cases hh:hp nx with
   |none=>rw[hh]at hr;exact hr.elim
   |some e8=>exact Ni h (h.rel.cr nx e8 hh))
  have WL:c.A.pin nx=none:=by
   cases hh:c.A.pin nx with
   |none=>rfl
   |some v=>exact absurd (h.rel.base.pins nx v hh).1 (Ni h)
  have PY:∀u,u=nx->c.U u\/(nx<=u/\u<nx+BT):=λu hu=> .inr ⟨by omega,by rw[hu];simp[BT]⟩;have rC:P.cellsOf el≠0:=by obtain⟨i,_,_,_,_,h1,h2,_⟩:=KG hz;omega
  split at he
  ·rename_i t g;split at he
   ·rename_i e' sz' g' c0 d' hl;split at he
    ·rename_i hh;obtain⟨rfl,rfl,rfl,rfl,Ek⟩:=hh;simp only[Ad]at he;subst he;have Fv:=CG hl h.gs;obtain⟨q1,q2,N,q3,q4,q5,q6⟩:=h.eh t _ Fv;generalize hv:a.eval x=v at r1;cases r1 with
     |own k1 k2 _=>
      have:=kN (nx:=nx) h ho Aw CV DP Bo hz A7 hy Cu (hc _ (by simp)) (t:=t) (g:=g+1) (.inr (by omega)) (c0:=c0) (d':=d') (hc _ (by simp)) (λf hf=>by simp only[Bf,List.contains_eq_mem,decide_eq_false_iff_not]at Ek;exact Ek (List.mem_map.2 ⟨_,hf,rfl⟩)) (λhh=>by have:=q2 _ hh;omega) hv (by rw[<-k2];exact q3) rfl q4 q5 (λg' Ct=>by have:=q2 _ Ct;omega) (λu hu=> .inl (by rw[hu];exact h.rel.bp t g q1)) (ckl:=[.room c0 ye (P.bytesOf el),ck])
      exact this
    ·cases he
   ·cases he
  ·simp only[Ad]at he;subst he;generalize hv:a.eval x=v at r1;cases r1 with
   |emp _=>have:=kN (nx:=nx) h ho Aw CV DP Bo hz A7 hy Cu (hc _ (by simp)) (t:=nx) (g:=0) (.inl WL) (c0:= .lst .nil) (d':=true) (top:=[]) (N0:=[]) (hc _ (by simp)) fresh (hK 0) hv ⟨[],rfl,by simp,by omega, .inl ⟨rfl,⟨_,rfl⟩,rfl,rfl⟩⟩ Gl.1 (by simp) (λ_=>⟨rfl,Gl.2⟩) (λg' Ct=>absurd Ct (hK g')) PY (ckl:=[.room (.lst .nil) ye (P.bytesOf el),ck]);rw[Bool.and_true]at this;exact this
  ·simp only[Ad]at he;subst he;generalize hv:a.eval x=v at r1;cases r1 with
   |cc _=>have:=kN (nx:=nx) h ho Aw CV DP Bo hz A7 hy Cu (hc _ (by simp)) (t:=nx) (g:=0) (.inl WL) (c0:= .lst .nil) (d':=true) (top:=[]) (N0:=[]) (hc _ (by simp)) fresh (hK 0) hv ⟨[],rfl,by simp,by omega, .inl ⟨rfl,⟨_,rfl⟩,rfl,rfl⟩⟩ Gl.1 (by simp) (λ_=>⟨rfl,Gl.2⟩) (λg' Ct=>absurd Ct (hK g')) PY (ckl:=[.room (.lst .nil) ye (P.bytesOf el),ck]);rw[Bool.and_true]at this;exact this
  ·cases he
 ·cases he
end
section
variable {P:Program} {c:Cx} {n nx:Nat} {sl sl0:Nat->SV} {hp hp0:Nat->Option Af} {a:Act} {o:Oper} {gs:Gd} {e:Bb} {sg:BZ} {nv:Nat}
theorem UQ:∀{ts us:List Nat} {l m:List (Nat × Af)},DV hp0 gs ts=some l->DV hp0 gs us=some m->DV hp0 gs (ts++us)=some (l++m)
 | [],us,l,m,h,k=>by simp[DV]at h;subst h;simpa using k
 |t::ts,us,l,m,h,k=>by
  unfold DV at h;simp only[List.cons_append];unfold DV;split at h
  ·rename_i ety sz g x d l' hl BL;have ih:=UQ BL k;split at h
   ·rename_i hg;simp at h;subst h;simp[hl,ih,hg]
   ·cases h
  ·rename_i ety sz dl g ep x l' hl BL;have ih:=UQ BL k;split at h
   ·rename_i hg;simp at h;subst h;simp[hl,ih,hg]
   ·cases h
  ·rename_i g x l' hl BL;have ih:=UQ BL k;simp at h;subst h;simp[hl,ih]
  ·rename_i ty g cs l' hl BL;have ih:=UQ BL k;simp at h;subst h;simp[hl,ih]
  ·cases h
theorem wG{ts us:List Nat}(hs:∀t∈ts,t∈us){b:Nat}(h:(c.br ts).ok b):(c.br us).ok b:=by refine⟨λhm=>h.1 ?_,h.2⟩;obtain⟨u,hu,hb⟩:=Cx.ig hm;exact⟨u,by simp only[Cx.br];rw[if_neg (λhh=>hu (hs u hh))];exact hb⟩
theorem mK{w:World}{v:Value}{x:AV}{f:List Nat}{t:TypeId}(h:Rd w [v] [x] f)(hg:Ao P t=true\/P.cellsOf t=1)(hx:if Ao P t then∃cs,x= .agg cs/\cs.length=P.cellsOf t else(∀cs,x≠ .agg cs)/\ ∀cs,x≠ .tup cs):
  Rd w v.cells.toList x.cells f/\(∀u∈v.cells.toList,u.oneCell'=true)/\x.cells.length=P.cellsOf t/\v.cells.size=P.cellsOf t:=by
 split at hx
 ·obtain⟨cs,rfl,hl⟩:=hx;obtain⟨as_,rfl,h1,h2⟩:=Kj h rfl;have:=h2.len;exact⟨by simpa[Value.cells,AV.cells]using h2,by simpa[Value.cells]using h1,hl,by simp[Value.cells];omega⟩
 ·rename_i hna;have h1:P.cellsOf t=1:=by rcases hg with h'|h';exact absurd h' hna;exact h'
  have CK:=lD h hx.1 hx.2;have GR:x.cells=[x]:=by cases x<;>first|rfl|exact absurd rfl (hx.1 _)
  rw[one_cells CK,GR];exact⟨by simpa using h,by simpa using CK,by simp[h1],by simp[h1]⟩
theorem u5(h:Rel c n sl hp a)(hs:∀t e,hp0 t=some e->hp t=some e)(k:Bt c.ρ gs){t:TypeId}(hg:Ao P t=true\/P.cellsOf t=1):∀(ss:List SV) (vs:List Value) {xs:List E} {fz:List (Nat × Af)} {d:Bool} {ck:List Cn},SR c ss vs->VY P hp0 gs t ss=some (xs,fz,d,ck)->(∀q∈ck,q.den c.ρ)->
  ∃N,Rd c.w (vs.flatMap λv=>v.cells.toList) (Aq (xs.map (E.den c.ρ))) N/\(d=true->N=[])/\(∃ts,DV hp0 gs ts=some fz)/\(∀b∈N,(c.br (fz.map (·.1))).ok b)/\(∀v∈vs,v.cells.size=P.cellsOf t/\ ∀u∈v.cells.toList,u.oneCell'=true)/\(∀x∈xs,(x.den c.ρ).cells.length=P.cellsOf t)/\xs.length=vs.length
 | [],vs,xs,fz,d,ck,hr,ht,hc=>by simp[VY]at ht;obtain⟨rfl,rfl,rfl,rfl⟩:=ht;cases hr;exact⟨[],by simpa[Aq]using Rd.nil,λ_=>rfl,⟨[],rfl⟩,by simp,by simp,by simp,rfl⟩
 |s::ss,[],xs,fz,d,ck,hr,ht,hc=>by have:=hr.len;simp at this
 |s::ss,v::vs,xs,fz,d,ck,hr,ht,hc=>by
  obtain⟨r1,r2⟩:=hr.cd;unfold VY at ht;split at ht
  ·rename_i x fz1 d1 ck1 xs2 fz2 d2 ck2 h1 h2;simp only[Ad,AX]at ht;obtain⟨rfl,rfl,rfl,rfl⟩:=ht;obtain⟨f,q1,q2,⟨ts1,q3,q4⟩,q5⟩:=vV h hs k r1 h1 (λq hq=>hc q (by simp[hq]));obtain⟨N,p1,p2,⟨ts2,p3⟩,p4,p5,p6,p7⟩:=u5 h hs k hg ss vs r2 h2 (λq hq=>hc q (by simp[hq]));obtain⟨o1,o2,o3,o4⟩:=mK (P:=P) q1 hg q5;refine⟨f++N,?_,λhd=> ?_,⟨_,UQ q3 p3⟩,λb hb=> ?_,?_,?_,by simp[p7]⟩
   ·simpa[Aq]using o1.app p1
   ·simp only[Ab]at hd;rw[q2 hd.1,p2 hd.2];rfl
   ·rcases Ac.1 hb with hb|hb
    ·exact wG (λt ht=>by simp only[List.map_append,Ac];exact .inl ht) (q4 b hb)
    ·exact wG (λt ht=>by simp only[List.map_append,Ac];exact .inr ht) (p4 b hb)
   ·intro u hu;rcases Ae.1 hu with rfl|hu
    ·exact⟨o4,o2⟩
    ·exact p5 u hu
   ·intro u hu;rcases Ae.1 hu with rfl|hu
    ·exact o3
    ·exact p6 u hu
  ·cases ht
theorem lQ{sz:Nat}(place:Nat->Option (Nat × Nat))(Gm:∀i,place i=some (i*sz,sz)):∀(vs:List Value) (k:Nat) (C:Array Value) (pre suf:List Value),C.toList=pre++suf->pre.length=k*sz->suf.length=vs.length*sz->(∀v∈vs,v.cells.size=sz)->
  ∃C',Instr.fill place C ((vs.zipIdx k).map λp=>(p.2,p.1))=some C'/\C'.toList=pre++vs.flatMap λv=>v.cells.toList
 | [],k,C,pre,suf,h,_,h2,_=>by have:suf=[]:=List.eq_nil_of_length_eq_zero (by simpa using h2);subst this;exact⟨C,rfl,by simpa using h⟩
 |v::vs,k,C,pre,suf,h,h1,h2,h3=>by
  have hv:=h3 v (by simp);simp only[A6,Nat.add_mul,Nat.one_mul]at h2;have hC:C.size=pre.length+suf.length:=by rw[<-BC,h,AO]
  have Mp:(v.cells.zipIdx.foldl (λcs (p:Value × Nat)=>cs.setIfInBounds (k*sz+p.2) p.1) C).toList=setVs C.toList (k*sz) v.cells.toList:=by have:=zG v.cells.toList 0 (k*sz) C (by simp;omega);rw[<-Array.foldl_toList,Array.toList_zipIdx];simpa using this
  have dS:setVs C.toList (k*sz) v.cells.toList=(pre++v.cells.toList)++suf.drop sz:=by unfold setVs;rw[h,<-h1,List.take_left' rfl];congr 1;rw[List.drop_append,List.drop_eq_nil_of_le (by omega)];simp[hv]
  obtain⟨C',g1,g2⟩:=lQ place Gm vs (k+1) (v.cells.zipIdx.foldl (λcs (p:Value × Nat)=>cs.setIfInBounds (k*sz+p.2) p.1) C) (pre++v.cells.toList) (suf.drop sz) (by rw[Mp,dS]) (by simp[h1,hv,Nat.add_mul]) (by simp;omega) (λu hu=>h3 u (by simp[hu]));refine⟨C',?_,by rw[g2];simp⟩;simp only[List.zipIdx_cons,List.map_cons];unfold Instr.fill;simp only[Gm];rw[if_neg (by simp[hv];omega)];exact g1
theorem AB.newRow(h:Bz P c n nx sl hp a sl0 hp0 o gs){ts:List Nat}{fz:List (Nat × Af)}(HN:DV hp0 gs ts=some fz){el:TypeId}{C:Array Value}{cap:Nat}{xs:List AV}{x:E}{d:Bool}{N:List Nat}{ckl:List Cn}{wd:World}(hwd:wd.heap=c.w.heap/\wd.os=c.w.os/\wd.tape=c.w.tape/\wd.output=c.w.output)
  (hr:(execOp a.eval o).run P c.w= .ok (.value (.slice (some ⟨c.w.heap.size,0,none⟩) xs.length cap)) (wd.alloc (.cells C el))) (hx:x.den c.ρ= .sl xs) (By:P.cellsOf el≠0) (Aw:∀y∈xs,y.cells.length=P.cellsOf el) (hle:xs.length<=cap) (Fi:cap<=maxLen) (hC:C.size=cap*P.cellsOf el)
  (h1:∀u∈C.toList.take (xs.length*P.cellsOf el),u.oneCell'=true) (hN:Rd c.w (C.toList.take (xs.length*P.cellsOf el)) (Aq xs) N) (F7:∀b∈N,(c.br (fz.map (·.1))).ok b) (hd:d=true->N=[]):
  AB P o c n nx sl hp gs a {ca:=ckl,val:= .own nx 0,bj:=fz++ [(nx,CS gs (.row el (P.cellsOf el) 0 x d))]}:=by
 intro next Q hk
 unfold Oper.wp;rw[hr,Oper.upon_value];have hU:=Ni h;have Dz:=h.rel.freeze h.hp h.gs HN;have hK:∀g,¬c.K nx g:=λg hg=>hU (h.rel.bp _ _ hg);have WL:c.A.pin nx=none:=by
  cases hh:c.A.pin nx with
  |none=>rfl
  |some v=>exact absurd (h.rel.base.pins nx v hh).1 hU
 have Gl:=h.rel.off nx (λe9 hr=>by
  cases hh:hp nx with
  |none=>rw[hh]at hr;exact hr.elim
  |some e8=>exact hU (h.rel.cr nx e8 hh))
 obtain⟨w1,w2,w3,w4⟩:=hwd;have Od:c.w.grownBy (wd.alloc (.cells C el)) (some c.w.heap.size):=by
  refine⟨w2,w3,w4,?_,λk hk _=> ?_⟩
  ·show c.w.heap.size<=(wd.heap.push _).size;simp[w1]
  ·have:=Below.heap_alloc wd (.cells C el) k (by rw[w1];exact hk);rw[this,w1]
 have My:(wd.alloc (.cells C el)).heap[c.w.heap.size]?=some (.cells C el (0,0)):=by have:=heap_alloc_new wd (.cells C el);rw[w1]at this;exact this
 have AG:c.w.heap.size<(wd.alloc (.cells C el)).heap.size:=Dp My;have hO:(c.br (fz.map (·.1))).G nx=⟨[],[]⟩\/((c.br (fz.map (·.1))).G nx).O=[]:=by
  right;simp only[Cx.br];split
  ·rfl
  ·exact Gl.2
 have DZ:=Dz.bd (gs:=gs) (t:=nx) (g:=0) (w':=wd.alloc (.cells C el)) (row:=some c.w.heap.size) (top:=[c.w.heap.size]) (O:=[]) (v:= .slice (some ⟨c.w.heap.size,0,none⟩) xs.length cap) (.inl WL) (hK 0) Od (λg0 Fj=>by cases Fj;exact .inr ⟨rfl,AG⟩) (.inr ⟨_,rfl,rfl⟩) (.inl rfl)
  (.row el (P.cellsOf el) 0 x d) (by intros;simp) h.gs (λGN=>by
   refine⟨.inr ⟨rfl,rfl⟩,λg' Ct=> ?_,N,?_,λb hb=>GN.ok b (hN.inb b hb) (F7 b hb),λE5=> ?_,λ_=>by simp[Cx.bd]⟩
   ·rcases Ct with Ct|⟨_,rfl⟩
    ·exact absurd Ct (hK g')
    ·exact AI _
   ·have e1:((c.br (fz.map (·.1))).bd nx 0 (wd.alloc (.cells C el)) (.slice (some ⟨c.w.heap.size,0,none⟩) xs.length cap) [c.w.heap.size] []).H nx 0= .slice (some ⟨c.w.heap.size,0,none⟩) xs.length cap:=by simp[Cx.bd]
    have e2:(((c.br (fz.map (·.1))).bd nx 0 (wd.alloc (.cells C el)) (.slice (some ⟨c.w.heap.size,0,none⟩) xs.length cap) [c.w.heap.size] []).G nx).top=[c.w.heap.size]:=by simp[Cx.bd]
    rw[e1,e2];show CZ (wd.alloc (.cells C el)) el (P.cellsOf el) _ (x.den c.ρ) _ N;rw[hx];exact⟨xs,rfl,Aw,by omega, .inr ⟨_,cap,C,rfl,hle,Fi,My,hC,rfl,h1,hN.frame λb hb=>GN.mem b (hN.inb b hb) (F7 b hb)⟩⟩
   ·rw[hd E5];exact⟨rfl,by simp[Cx.bd]⟩)
 have bC:SR ((c.br (fz.map (·.1))).bd nx 0 (wd.alloc (.cells C el)) (.slice (some ⟨c.w.heap.size,0,none⟩) xs.length cap) [c.w.heap.size] []) [.own nx 0] [.slice (some ⟨c.w.heap.size,0,none⟩) xs.length cap]:=
  .own (.inr ⟨rfl,rfl⟩) (by simp[Cx.bd]) .nil
 refine hk _ ((c.br (fz.map (·.1))).bd nx 0 (wd.alloc (.cells C el)) (.slice (some ⟨c.w.heap.size,0,none⟩) xs.length cap) [c.w.heap.size] []) ⟨rfl,rfl,rfl,rfl,λu hu=> ?_⟩ ?_
 ·rcases hu with hu|rfl
  ·exact .inl hu
  ·exact .inr ⟨AI _,by simp[BT]⟩
 ·have:=DZ.put (bC.mkGd gs h.gs) o.dst;rw[Pp];exact this
theorem uM{t el:TypeId}(hu:P.underlying t=some (.slice el))(Bm:Dt P el=true){i:TypeInfo}{z:Value}(hi:P.info? el=some i)(hz:i.zero=some z)(Cm:P.cellsOf el=i.size)(m:Nat)(hle:m*i.size<=2^24)(parts:Array (Nat × Value))(C:Array Value)
  (hf:Instr.fill (λj=>some (j*i.size,i.size)) ((Array.range (m*i.size)).map (λj=>(if m*i.size=0 then #[]else z.cells)[j % (if m*i.size=0 then #[]else z.cells).size]!)) parts.toList=some C) (w:World):
  (Instr.buildSlice t m parts).run P w= .ok (.slice (some ⟨w.heap.size,0,none⟩) m m) (w.alloc (.cells C el)):=by
 have cR: ¬(2^24<m*i.size):=by omega
 have I5:Array.range 0= #[]:=rfl;by_cases h0:m*i.size=0
 ·simp only[h0,if_true,I5]at hf;have To:∀f:Nat->Value,Array.map f #[]= #[]:=λf=>by simp
  rw[To]at hf;simp only[Instr.buildSlice,Sem.run_bind,run_underlying hu,Result.andThen_ok,Pe Bm,Cm];simp[h0,I5,hf,newRow]
 ·simp only[h0,if_false]at hf;simp only[Instr.buildSlice,Sem.run_bind,run_underlying hu,Result.andThen_ok,Pe Bm,Cm];simp[h0,cR,zeroValue,typeInfo,hi,hz,hf,newRow]
theorem zpR(h:Bz P c n nx sl hp a sl0 hp0 o gs){t:TypeId}{m:Nat}{parts:Array (Nat × Operand)}(ho:o.op= .buildSlice t m parts){ps:List (Nat × SV)}(MC:parts.toList.mapM (λ(p:Nat × Operand)=>(BK sl0 gs p.2).map λs=>(p.1,s))=some ps)(he:kK P hp0 gs nx t m ps=some e)(hc:∀q∈e.ca,Cn.den c.ρ q):AB P o c n nx sl hp gs a e:=by
 obtain⟨e1,e2⟩:=Zk (c:=c) (a:=a) (parts.toList.map (·.2)) (λx s hx hm=>h.ct hx (by simpa[ho,Op.operands]using hm)) (λx hx=>List.mem_map.2 ⟨x,hx,rfl⟩) MC;unfold kK at he;split at he
 ·rename_i el Bo;have Bo:=Jc Bo;split at he
  ·cases he
  rename_i AA;simp only[not_or,Bf,Bool.not_eq_false',ne_eq,Bool.not_eq_false,Nat.not_lt,Decidable.not_not]at AA;obtain⟨hz,Bm,AH,hle,EG⟩:=AA;have AH:Ao P el=true\/P.cellsOf el=1:=by simpa using AH
  obtain⟨i,z,hi,FL,CX,By,Cm,E4⟩:=KG hz;split at he
  ·rename_i xs fz d ck MK;split at he
   ·simp only[Ad]at he;subst he;obtain⟨N,p1,p2,⟨ts,p3⟩,p4,p5,p6,p7⟩:=u5 h.rel h.hp h.gs AH (ps.map (·.2)) (parts.toList.map λp=>a.eval p.2) e2 MK hc;have hlen:(parts.toList.map λp=>a.eval p.2).length=m:=by
     have:ps.length=m:=by have:=congrArg List.length EG;simpa using this
     have h9:=congrArg List.length e1;simp at h9 ⊢;omega
    have Hj:(parts.map λ(x:Nat × Operand)=>(x.1,a.eval x.2)).toList=((parts.toList.map λp=>a.eval p.2).zipIdx 0).map λp=>(p.2,p.1):=by
     have Og:parts.toList.map (·.1)=List.range m:=by rw[<-e1,EG]
     apply List.ext_getElem?;intro j;have hj:(parts.toList.map (·.1))[j]?=(List.range m)[j]?:=by rw[Og]
     simp only[Array.toList_map,List.getElem?_map,List.getElem?_zipIdx]at hj ⊢;cases hp:parts.toList[j]? with
     |none=>simp
     |some p=>
      rw[hp]at hj;simp only[Option.map_some,Ad]at hj ⊢;have cM:j<m:=by
       rcases Nat.lt_or_ge j m with hh|hh
       ·exact hh
       ·rw[List.getElem?_eq_none (by simpa using hh)]at hj;cases hj
      rw[List.getElem?_range cM]at hj;simp at hj;simp[hj]
    obtain⟨C',f1,f2⟩:=lQ (sz:=i.size) (λj=>some (j*i.size,i.size)) (λj=>rfl) (parts.toList.map λp=>a.eval p.2) 0 ((Array.range (m*i.size)).map (λj=>(if m*i.size=0 then #[]else z.cells)[j % (if m*i.size=0 then #[]else z.cells).size]!)) [] _ (by simp;rfl) (by simp) (by simp[hlen]) (λv hv=>by rw[<-Cm];exact(p5 v hv).1);have DD:C'.toList.length=m*P.cellsOf el:=by
     rw[f2,Cm];simp only[List.nil_append];have:∀(L:List Value),(∀v∈L,v.cells.size=i.size)->(L.flatMap λv=>v.cells.toList).length=L.length*i.size:=by
      intro L
      induction L with
      |nil=>intro _;simp
      |cons v L ih=>intro hL;simp only[List.flatMap_cons,AO,A6,BC];rw[ih (λu hu=>hL u (by simp[hu])),hL v (by simp),Nat.add_mul];omega
     rw[this _ (λv hv=>by rw[<-Cm];exact(p5 v hv).1),hlen]
    have IC:(xs.map (E.den c.ρ)).length=m:=by rw[List.length_map,p7,hlen]
    have BY:C'.toList.take ((xs.map (E.den c.ρ)).length*P.cellsOf el)=(parts.toList.map λp=>a.eval p.2).flatMap λv=>v.cells.toList:=by rw[IC,<-DD,List.take_length,f2];simp
    refine AB.newRow (xs:=xs.map (E.den c.ρ)) (N:=N) (C:=C') (cap:=m) (wd:=c.w) h p3 ⟨rfl,rfl,rfl,rfl⟩ ?_ (by simp[E.den,EL.db]) (by omega) (λy hy=> ?_) (by omega) (by simp only[maxLen];have:m*1<=m*P.cellsOf el:=Nat.mul_le_mul_left _ (by omega);omega) (by rw[<-BC,DD]) ?_ (by rw[BY];exact p1) p4 p2
    ·rw[IC];have AQ:=uM (P:=P) Bo Bm hi FL Cm m (by rw[<-Cm];omega) (parts.map λ(x:Nat × Operand)=>(x.1,a.eval x.2)) C' (by rw[Hj];exact f1) c.w;simp only[execOp,ho,Sem.run_bind];rw[AQ];rfl
    ·obtain⟨q,hq,rfl⟩:=List.mem_map.1 hy;exact p6 q hq
    ·rw[BY];intro u hu;obtain⟨v,hv,hu⟩:=List.mem_flatMap.1 hu;exact(p5 v hv).2 u hu
   ·cases he
  ·cases he
 ·cases he
end
end
end Go.Proofs.YtalagilebkaegaaGreat

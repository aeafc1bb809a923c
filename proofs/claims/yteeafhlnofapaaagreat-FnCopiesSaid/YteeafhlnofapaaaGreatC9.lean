/- Parts of a proof, joined: NG, NSZ, NJC, NJM. -/
import Derived.Test.YteeafhlnofapaaaGreatC8
set_option linter.unusedVariables false
set_option linter.unusedSimpArgs false
namespace Go.Proofs.YteeafhlnofapaaaGreat
section
open Go.RowKit
set_option maxRecDepth 100000
abbrev K6:Aw->Bt:=λw=>w.ae
def PQ(c:An):Aw:=⟨c.ae,c.ar,c.al⟩
def FA(rows:List Aw)(c:An):List Aw:=if c.al=true then rows.filter (λw=>decide (w.ae≠c.ae))else Em K6 ⟨c.ae,c.ar,false⟩ rows
theorem fF{rows:List Aw}{c:An}(h:Ha rows):Ha (FA rows c):=by
 unfold FA;split
 ·exact DA.filter h _
 ·exact KK h
theorem uV{l:List Aw}{c:An}(h:Ha l):(Em K6 (PQ c) l).filter (λw=> !w.al)=FA (l.filter λw=> !w.al) c:=by rw[rQ h];unfold FA PQ;cases c.al<;>simp
theorem cU:∀(cs:List An) {l:List Aw},Ha l->(cs.foldl (λo c=>Em K6 (PQ c) o) l).filter (λw=> !w.al)=cs.foldl FA (l.filter λw=> !w.al)
 | [],_,_=>rfl
 |c::cs,l,h=>by rw[List.foldl_cons,List.foldl_cons,cU cs (KK h),uV h]
structure Um(n:Nat)(l:List Aw):Prop where
 im:Ha l
 len:l.length<=n
 ki:∀w∈l,w.ae.length<=2000000/\w.ar.length<=2000000
theorem Um.small{n:Nat}{l:List Aw}(h:Um n l)(hn:n<=2000000):KU l:=⟨by have:=h.len;omega,h.ki⟩
def TW(c:Dc)(d:CU):Dc × Bool:=
 if Hs c&&(E2 d&&d.aw==c.ab)then
  (let o:Dc:=⟨d.cz,d.au.foldl FA c.bj⟩
   if Hs o then(o,true)else(⟨0,[]⟩,false))
 else(⟨0,[]⟩,false)
theorem tP{c:Dc}(hw:KU c.bj)(h:Hs c=true):Um 24 c.bj/\c.bj.filter (λw=> !w.al)=c.bj:=by
 unfold Hs QD at h;simp only[Ad]at h;have h1:=h.2.1.1;refine⟨⟨oK h1,?_,hw.2⟩,?_⟩
 ·unfold KI at h1;simp only[Ad,Au]at h1;omega
 ·rw[List.filter_eq_self];exact λw hw=>Bg.1 h.2.1.2 w hw
theorem wM{d:CU}(h:E2 d=true):d.au.length<=60:=by unfold E2 at h;simp only[Ad,Au]at h;omega
theorem sX{c:Dc}{d:CU}(hw:KU c.bj)(hd:Ob d.au):Sy c d=some (TW c d):=by
 unfold Sy TW;rw[Ya hw,Af];cases hc:Hs c with
 |false=>rfl
 |true=>
  rw[if_pos rfl,Yf hd,Af];cases hg:E2 d with
  |false=>rfl
  |true=>
   by_cases he:d.aw=c.ab
   ·have e1:(d.aw !=c.ab)=false:=by simpa using he
    have e2:(d.aw==c.ab)=true:=by simpa using he
    obtain⟨hk,Ei⟩:=tP hw hc;have hl:=wM hg;have Aq:Wc c.bj=some c.bj:=xD (by have:=hk.len;omega) (by have:=hk.len;omega);rw[e1,e2,if_neg (by simp),Aq,Af];have h1:=Nu (xs:=d.au) (body:=λs:Int × List Aw=>Nl d s.1 s.2) (λi (o:List Aw)=>(i,o)) (λo c=>Em K6 (PQ c) o) (λo=>Wy d o) (λi o=>Um (24+i) o)
     (λi hi o hI=>by
      refine⟨?_,⟨KK hI.im,Nat.le_trans (X9 _) (by have:=hI.len;omega),λw hw=> ?_⟩⟩
      ·show Nl d i o=_;unfold Nl;rw[if_pos (by simpa using hi),BQ hi,Af,sB (by have:=hI.len;omega) hI.im,Af,El hi (by omega)];rfl
      ·rcases(KP (key:=K6) hI.im w).1 hw with rfl|h
       ·exact hd.2 _ (Bc hi)
       ·exact hI.ki w h.1)
     (λo hI=>by show Nl d d.au.length o=_;unfold Nl;rw[if_neg (by simp)]) (s:=c.bj) ⟨hk.im,by have:=hk.len;omega,hk.ki⟩
    rw[h1.1];have hK:=h1.2;generalize hR:d.au.foldl (λo c=>Em K6 (PQ c) o) c.bj=R at hK;have hS:R.filter (λw=> !w.al)=d.au.foldl FA c.bj:=by rw[<-hR,cU _ hk.im,Ei]
    unfold Wy SJ;rw[CO (by have:=hK.len;omega),bX (p:=λy0_=>Wn y0_) (λw:Aw=>w.al) (λw _=>rfl),Af,hS];have VS:KU (d.au.foldl FA c.bj):=by rw[<-hS];exact⟨Nat.le_trans (List.length_filter_le _ _) (by have:=hK.len;omega),λw hw=>hK.ki w (List.mem_filter.1 hw).1⟩
    rw[Ya VS,Af];show(if(!Hs ⟨d.cz,d.au.foldl FA c.bj⟩)=true then _ else _)=some (if Hs ⟨d.cz,d.au.foldl FA c.bj⟩=true then _ else _);cases Hs ⟨d.cz,d.au.foldl FA c.bj⟩<;>rfl
   ·have e1:(d.aw !=c.ab)=true:=by simpa using he
    have e2:(d.aw==c.ab)=false:=by simpa using he
    rw[e1,e2];rfl
def ER(t:Int)(c:Ag):Option Aw:=if(E5 t c.af.reverse).2=true then some ⟨c.ae,(E5 t c.af.reverse).1,false⟩else none
def DM(l:List Ag)(t:Int):List Aw:=l.filterMap (ER t)
theorem Xx{α β:Type}(f:α->Option β):∀(l:List α) (o:List β),l.foldl (λo x=>o++(f x).toList) o=o++l.filterMap f
 | [],o=>by simp
 |x::l,o=>by rw[List.foldl_cons,Xx f l,List.filterMap_cons];cases f x<;>simp
theorem tC{l:List Ag}{t:Int}(h:Ef 24 l):SA l t=some (DM l t):=by
 have hl:=h.2.1;unfold SA;refine((Nu (xs:=l) (body:=λz:Int × List Aw=>Nk l t z.1 z.2) (λi z=>(i,z)) (λo c=>o++(ER t c).toList) (λo=>some o) (λi o=>o.length<=i)
  (λi hi o ho=>by
   have hv:=(h.2.2 _ (Bc hi)).2.1;have Ry:Sl l[i] t=some (E5 t l[i].af.reverse):=CO (by omega);unfold ER;constructor
   ·show Nk l t (i:Int) o=_;unfold Nk;rw[if_pos (by simpa using hi),BQ hi,Af,Ry,Af,KT (by omega)];by_cases hb:(E5 t l[i].af.reverse).2=true
    ·rw[if_pos hb,if_pos hb,CO (by simp only[DI];omega)];rfl
    ·rw[if_neg hb,if_neg hb];simp
   ·split
    ·simp;omega
    ·simp;omega)
  (λo _=>by show Nk l t (l.length:Int) o=_;unfold Nk;rw[if_neg (by simp)]) (s:=[]) (by simp)).1).trans ?_
 rw[Xx (ER t) l [],List.nil_append];rfl
theorem QB(t:Int):∀m:List BJ,E5 t m=match m.find? (λv=>decide (v.ab<=t))with|some v=>(v.ar, !v.al)|none=>([],false)
 | []=>rfl
 |v::m=>by
  rw[E5,List.find?_cons];by_cases h:v.ab<=t
  ·rw[if_pos h];simp[h]
  ·rw[if_neg h,QB t m];simp[h]
def Ot(t:Int)(z:Bool × BJ)(v:BJ):Bool × BJ:=if v.ab<=t then(true,v)else z
theorem uW(t:Int)(z:Bool × BJ)(l:List BJ):l.foldl (Ot t) z=match l.reverse.find? (λv=>decide (v.ab<=t))with|some v=>(true,v)|none=>z:=by
 rw[List.foldl_eq_foldr_reverse];generalize l.reverse=m
 induction m with
 |nil=>rfl
 |cons v m ih=>
  rw[List.foldr_cons,ih,List.find?_cons];unfold Ot;by_cases h:v.ab<=t
  ·rw[if_pos h];simp[h]
  ·rw[if_neg h];simp[h]
theorem yX{c:Ag}{t:Int}(h:c.af.length<=1000):SS c t=some ((c.af.foldl (Ot t) (false,⟨0,[],false⟩)).2,(c.af.foldl (Ot t) (false,⟨0,[],false⟩)).1):=by
 unfold SS;exact((Nu (xs:=c.af) (body:=λs:Bool × Int × Int × AT × Bool=>Nd c t s.1 s.2.1 s.2.2.1 s.2.2.2.1 s.2.2.2.2) (λi (z:Bool × BJ)=>(z.1,i,z.2.ab,z.2.ar,z.2.al)) (Ot t) (λz=>some (z.2,z.1)) (λ_ _=>True)
  (λi hi z _=>by
   refine⟨?_,trivial⟩;show Nd c t z.1 (i:Int) z.2.ab z.2.ar z.2.al=_;unfold Nd Ot;rw[if_pos (by simpa using hi),BQ hi,Af,KT (by omega)];by_cases hb:(c.af[i]).ab<=t
   ·rw[if_pos (by simpa using hb),if_pos hb]
   ·rw[if_neg (by simpa using hb),if_neg hb])
  (λz _=>by show Nd c t z.1 (c.af.length:Int) z.2.ab z.2.ar z.2.al=_;unfold Nd;rw[if_neg (by simp)]) (s:=(false,⟨0,[],false⟩)) trivial).1)
theorem zvl{l:List Ag}{t:Int}(h:Ef 24 l):SO l t=some (DM l t):=by
 have hl:=h.2.1;unfold SO;refine((Nu (xs:=l) (body:=λz:List Aw × Int=>Na l t z.1 z.2) (λi z=>(z,i)) (λo c=>o++(ER t c).toList) (λo=>some o) (λi o=>o.length<=i)
  (λi hi o ho=>by
   have hv:=(h.2.2 _ (Bc hi)).2.1;constructor
   ·show Na l t o (i:Int)=_;unfold Na ER;rw[if_pos (by simpa using hi),BQ hi,Af,yX (by omega),Af,KT (by omega),uW,QB];cases hq:l[i].af.reverse.find? (λv=>decide (v.ab<=t))with
    |none=>simp
    |some v=>
     by_cases hg:v.al=true
     ·simp[hg]
     ·have hg:v.al=false:=by simpa using hg
      simp only[hg,Bool.not_false,Bool.and_self,if_true];rw[CO (by simp only[DI];omega)];rfl
   ·unfold ER;split
    ·simp;omega
    ·simp;omega)
  (λo _=>by show Na l t o (l.length:Int)=_;unfold Na;rw[if_neg (by simp)]) (s:=[]) (by simp)).1).trans ?_
 rw[Xx (ER t) l [],List.nil_append];rfl
theorem wK{l:List Ag}{t:Int}(h:Ef 24 l):(DM l t).length<=24/\ ∀w∈DM l t,w.ae.length<=2000000/\w.ar.length<=2000000:=by
 constructor
 ·have:=List.length_filterMap_le (ER t) l;have:=h.2.1;unfold DM;omega
 ·intro w hw;obtain⟨c,hc,e⟩:=List.mem_filterMap.1 hw;obtain⟨_,_,h1,_,h2⟩:=h.2.2 c hc;unfold ER at e;split at e
  ·cases e;refine⟨h1,?_⟩;show(E5 t c.af.reverse).1.length<=_;rw[QB];cases hq:c.af.reverse.find? (λv=>decide (v.ab<=t))with
   |none=>simp
   |some v=>exact h2 v (List.mem_reverse.1 (List.mem_of_find?_eq_some hq))
  ·cases e
end
section
open Go.RowKit Go.Sort
set_option maxRecDepth 100000
theorem vF{rows:List Aw}{c:An}(h:Ha rows)(w:Aw):w∈FA rows c↔(if w.ae=c.ae then c.al=false/\w=⟨c.ae,c.ar,false⟩else w∈rows):=by
 unfold FA;by_cases hg:c.al=true
 ·rw[if_pos hg,List.mem_filter];split
  ·rename_i e;simp[e,hg]
  ·rename_i e;simp[e]
 ·rw[if_neg hg,KP (key:=K6) h];simp only[Bool.not_eq_true]at hg;split
  ·rename_i e;constructor
   ·rintro(h|h)
    ·exact⟨hg,h⟩
    ·exact absurd e h.2
   ·exact λh=> .inl h.2
  ·rename_i e;constructor
   ·rintro(h|h)
    ·exact absurd (by rw[h]) e
    ·exact h.1
   ·exact λh=> .inr ⟨h,e⟩
theorem bY:∀(cs:List An) {R:List Aw},Ha R->Ha (cs.foldl FA R)
 | [],_,h=>h
 |c::cs,_,h=>bY cs (fF h)
theorem dN:∀(cs:List An) {R:List Aw},Ha R-> ∀w,w∈cs.foldl FA R↔match cs.reverse.find? (λc=>c.ae==w.ae)with|some c=>c.al=false/\w=⟨c.ae,c.ar,false⟩|none=>w∈R
 | [],R,_,w=>by simp
 |c::cs,R,h,w=>by
  rw[List.foldl_cons,dN cs (fF h) w,List.reverse_cons,List.find?_append];cases hq:cs.reverse.find? (λc=>c.ae==w.ae)with
  |some d=>simp
  |none=>
   simp only[Option.none_or];rw[vF h w,List.find?_cons];by_cases e:w.ae=c.ae
   ·simp[e]
   ·have e2:(c.ae==w.ae)=false:=by
     rw[beq_eq_false_iff_ne];exact λh=>e h.symm
    simp[e,e2]
theorem dP{α:Type}{p:α->Bool}{r:α->α->Prop}{l:List α}{x:α}(hp:l.Pairwise r)(h:l.reverse.find? p=some x):x∈l/\p x=true/\ ∀y∈l,p y=true->y=x\/r y x:=by
 obtain⟨h1,as_,bs,e,h2⟩:=List.find?_eq_some_iff_append.1 h;have e2:l=bs.reverse++x::as_.reverse:=by have:=congrArg List.reverse e;simpa using this
 rw[e2]at hp ⊢;refine⟨by simp,h1,λy hy lK=> ?_⟩;rcases Ae.1 hy with h3|h3
 ·exact .inr ((List.pairwise_append.1 hp).2.2 y h3 x (by simp))
 ·rcases Ac.1 h3 with h4|h4
  ·exact .inl h4
  ·have:=h2 y (List.mem_reverse.1 h4);simp[lK]at this
theorem fD{a u:Int}:∀{m:List BJ},(∀v∈m,v.ab<=a↔v.ab<=u)->E5 a m=E5 u m
 | [],_=>rfl
 |v::m,h=>by
  rw[E5,E5,fD λx hx=>h x (by simp[hx])];have h1:=h v (by simp);by_cases e:v.ab<=a
  ·rw[if_pos e,if_pos (h1.1 e)]
  ·rw[if_neg e,if_neg λk=>e (h1.2 k)]
theorem xN{l:List Ag}(h:CX l=true){c:Ag}(hc:c∈l):c.af.Pairwise λa b=>a.ab<b.ab:=by unfold CX at h;simp only[Ad,Bg]at h;have:=h.2.1 c hc;unfold E1 F3 at this;simp only[Ad]at this;have hv:=(Me (r:=Hd) (λa b c h k=>by unfold Hd at*;simp only[Au]at*;omega)).1 this.2.2.2;exact hv.imp λh=>by unfold Hd at h;simpa using h
theorem Qr{t:Int}{c:Ag}{w:Aw}(h:ER t c=some w):w.ae=c.ae:=by
 unfold ER at h;split at h
 ·cases h;rfl
 ·cases h
theorem Ti{l:List Ag}{t:Int}(h:K2 l):Ha (DM l t):=by
 show(l.filterMap (ER t)).Pairwise _;rw[List.pairwise_filterMap];exact List.Pairwise.imp (λ{c d} UT w hw x hx=>by show bl w.ae x.ae=true;rw[Qr hw,Qr hx];exact UT) h
theorem Tp{l:List Ag}{t:Int}{w:Aw}:w∈DM l t↔ ∃c∈l,ER t c=some w:=List.mem_filterMap
theorem sS{l:List Ag}{a u:Int}(h:CX l=true)(hau:a<=u):(Ev 0 a u l).foldl FA (DM l a)=DM l u:=by
 have hr:=Xa h;obtain⟨ps,pp⟩:=Xg (XE (g:=0) (a:=a) (u:=u) h);have Cu:∀c∈l,∀v∈c.af,a<v.ab->v.ab<=u->E3 0 c v∈Ev 0 a u l:=λc hc v hv h1 h2=>by refine pp.mem_iff.2 (List.mem_flatMap.2 ⟨c,hc,List.mem_map.2 ⟨v,List.mem_filter.2 ⟨hv,?_⟩,rfl⟩⟩);unfold JR;simp only[Ad,Au];exact⟨h1,h2⟩
 refine DA.ext (key:=K6) (bY _ (Ti hr)) (Ti hr) λw=> ?_;rw[dN _ (Ti hr) w];cases hq:(Ev 0 a u l).reverse.find? (λc=>c.ae==w.ae)with
 |some x=>
  obtain⟨x1,x2,x3⟩:=dP (r:=λa b=>A9 a b=true) ps hq;have x2:x.ae=w.ae:=by simpa using x2
  obtain⟨c0,ID,hx⟩:=List.mem_flatMap.1 (pp.mem_iff.1 x1);obtain⟨v0,Hl,e0⟩:=List.mem_map.1 hx;obtain⟨Hl,hi⟩:=List.mem_filter.1 Hl;unfold JR at hi;simp only[Ad,Au]at hi;have IG:c0.ae=w.ae:=by rw[<-x2,<-e0];rfl
  have lW:=xN h ID;have HX:c0.af.reverse.find? (λv=>decide (v.ab<=u))=some v0:=by
   cases hf:c0.af.reverse.find? (λv=>decide (v.ab<=u))with
   |none=>have:=List.find?_eq_none.1 hf v0 (by simpa using Hl);simp only[Au]at this;omega
   |some v1=>
    obtain⟨y1,y2,y3⟩:=dP (r:=λa b:BJ=>a.ab<b.ab) lW hf;have y2:v1.ab<=u:=by simpa using y2
    have y4:=y3 v0 Hl (by simpa using hi.2);rcases y4 with y4|y4
    ·rw[y4]
    ·have y4:v0.ab<v1.ab:=y4;have hm:=Cu c0 ID v1 y1 (by omega) y2;rcases x3 _ hm (by simpa[E3]using IG)with z|z
     ·rw[<-e0]at z;have:v1.ab=v0.ab:=congrArg An.ab z;omega
     ·have z:A9 (E3 0 c0 v1) x=true:=z;rw[<-e0]at z;unfold A9 at z;have ne:(E3 0 c0 v1).ab≠(E3 0 c0 v0).ab:=by
       show v1.ab≠v0.ab;omega
      rw[if_pos ne]at z;have z:(E3 0 c0 v1).ab<(E3 0 c0 v0).ab:=of_decide_eq_true z;have z:v1.ab<v0.ab:=z;omega
  have Ry:ER u c0=if v0.al=false then some ⟨c0.ae,v0.ar,false⟩else none:=by
   unfold ER;rw[QB,HX];by_cases hg:v0.al=true
   ·simp[hg]
   ·simp only[Bool.not_eq_true]at hg;simp[hg]
  have mE:x.al=v0.al:=by rw[<-e0];rfl
  have mF:x.ar=v0.ar:=by rw[<-e0];rfl
  show(x.al=false/\w=⟨x.ae,x.ar,false⟩)↔w∈DM l u;rw[Tp,mE,mF,x2,<-IG];constructor
  ·rintro⟨h1,h2⟩;exact⟨c0,ID,by rw[Ry,if_pos h1,h2]⟩
  ·rintro⟨c,hc,e⟩;have:c=c0:=DA.ew (key:=ck) hr hc ID (by show c.ae=c0.ae;rw[IG,Qr e]);subst this;rw[Ry]at e;split at e
   ·rename_i h1;cases e;exact⟨h1,rfl⟩
   ·cases e
 |none=>
  have hn:∀y∈Ev 0 a u l,y.ae≠w.ae:=λy hy=>by have:=List.find?_eq_none.1 hq y (by simpa using hy);simpa using this
  have hs:∀c∈l,c.ae=w.ae->ER a c=ER u c:=λc hc hk=>by
   unfold ER;rw[fD (a:=a) (u:=u) λv hv=>⟨λh=>by omega,λh=> ?_⟩];by_cases e:v.ab<=a
   ·exact e
   ·exact absurd hk (hn _ (Cu c hc v (List.mem_reverse.1 hv) (by omega) h))
  show w∈DM l a↔w∈DM l u;rw[Tp,Tp];constructor
  ·rintro⟨c,hc,e⟩;exact⟨c,hc,by rw[<-hs c hc (Qr e).symm];exact e⟩
  ·rintro⟨c,hc,e⟩;exact⟨c,hc,by rw[hs c hc (Qr e).symm];exact e⟩
theorem tB{l:List Aw}(h:l.length<=2000000):SU l l=some true:=by
 unfold SU;rw[if_neg (by simp)];exact hF (n:=l.length) (λi hi=>by
  show Qd l l i=_;unfold Qd;rw[if_pos (by simpa using hi),BQ hi,Af,Af,if_neg (by simp),El hi (by omega)]) (by
  show Qd l l _=_;unfold Qd;rw[if_neg (by simp)])
theorem cL{c:Dc}(h:c.bj.length<=2000000):Qj c c=some true:=by unfold Qj;rw[if_pos (by simp),tB h];rfl
def G6(l:List Ag)(t:Int):Dc × Bool:=if CX l=true then(if BR t 0 100000=true then(⟨t,DM l t⟩,true)else(⟨0,[]⟩,false))else(⟨0,[]⟩,false)
theorem cW{l:List Ag}{t:Int}(h:Gy l):Ql l t=some (G6 l t):=by
 unfold Ql G6;rw[eT h,Af];cases hg:CX l with
 |false=>rfl
 |true=>
  rw[if_pos rfl,if_pos rfl,show KH t=some (BR t 0 100000)from rfl,Af];cases BR t 0 100000 with
  |false=>rfl
  |true=>rw[if_neg (by simp),tC (QE hg)];rfl
theorem tY{l:List Ag}{t:Int}(h:Gy l):S0 l t=some (G6 l t):=by
 unfold S0 WA G6;rw[X2 h,Af];cases hg:CX l with
 |false=>rfl
 |true=>
  rw[if_pos rfl,if_pos rfl,show WH t=some (BR t 0 100000)from rfl,Af];cases BR t 0 100000 with
  |false=>rfl
  |true=>rw[if_neg (by simp),zvl (QE hg)];rfl
theorem XH{l:List Ag}{t:Int}(h:CX l=true)(ht:BR t 0 100000=true):Hs ⟨t,DM l t⟩=true:=by
 have hr:=Ti (t:=t) (Xa h);have hl:(DM l t).length<=24:=Nat.le_trans (List.length_filterMap_le _ _) (QE h).2.1;have hc:=h;unfold CX at hc;simp only[Ad,Au,Bg]at hc;have hw:∀w∈DM l t,∃c∈l,∃v∈c.af,v.ab<=t/\v.al=false/\w=⟨c.ae,v.ar,false⟩:=λw hw=>by
  obtain⟨c,hc,e⟩:=Tp.1 hw;unfold ER at e;rw[QB]at e;cases hf:c.af.reverse.find? (λv=>decide (v.ab<=t))with
  |none=>rw[hf]at e;simp at e
  |some v=>
   rw[hf]at e;have e:(if(!v.al)=true then some (⟨c.ae,v.ar,false⟩:Aw)else none)=some w:=e;have h1:=List.mem_reverse.1 (List.mem_of_find?_eq_some hf);have h2:v.ab<=t:=by simpa using List.find?_some hf
   cases hg:v.al with
   |true=>rw[hg]at e;simp at e
   |false=>rw[hg]at e;simp only[Bool.not_false,if_true,Aa]at e;exact⟨c,hc,v,h1,h2,hg,e.symm⟩
 have hv:∀c∈l,∀v∈c.af,DK c.ae=true/\Io v=true:=λc Aq v hv=>by have h1:=hc.2.1 c Aq;unfold E1 F3 at h1;simp only[Ad,Bg]at h1;exact⟨h1.1,h1.2.2.1 v hv⟩
 unfold Hs QD KI;simp only[Ad,Au,Bg,Bool.or_eq_true];refine⟨ht,⟨⟨by omega,λw h1=> ?_,?_⟩,λw h1=> ?_⟩,?_⟩
 ·obtain⟨c,h2,v,h3,_,hg,rfl⟩:=hw w h1;obtain⟨k1,k2⟩:=hv c h2 v h3;unfold Io at k2;rw[Ad,hg]at k2;unfold Ud;rw[k1];exact k2.2
 ·rw[W9,Xd];exact(Me (r:=λa b:Aw=>bl a.ae b.ae) (λa b c h k=>G5 h k)).2 hr
 ·obtain⟨c,h2,v,h3,_,hg,rfl⟩:=hw w h1;rfl
 ·by_cases h0:t>0
  ·exact .inl h0
  ·right;have:DM l t=[]:=by
    cases hq:DM l t with
    |nil=>rfl
    |cons w ws=>obtain⟨c,h2,v,h3,h4,_⟩:=hw w (by rw[hq];simp);have h5:=(hv c h2 v h3).2;unfold Io at h5;rw[Ad]at h5;have:=IU.1 h5.1;omega
   rw[this];rfl
theorem yA{l:List Ag}{a u:Int}(hc:CX l=true)(ha:BR a 0 100000=true)(hd:E2 ⟨a,u,Ev 0 a u l⟩=true):BR u 0 100000=true/\TW ⟨a,DM l a⟩ ⟨a,u,Ev 0 a u l⟩=(⟨u,DM l u⟩,true):=by have h2:=hd;unfold E2 at h2;simp only[Ad,Au]at h2;have hu:BR u 0 100000=true:=h2.2.1;refine⟨hu,?_⟩;unfold TW;rw[if_pos (by rw[XH hc ha,hd];simp)];dsimp only;rw[sS hc h2.2.2.1,if_pos (XH hc hu)]
theorem r7(a0:List Int)(h0:V9 Om a0):Sd a0=some true:=by
 unfold Sd;rw[show WX a0=some (decide ((a0.length:Int)>65536))from rfl,Af];by_cases hb:(a0.length:Int)>65536
 ·rw[if_pos (by simpa using hb)]
 rw[if_neg (by simpa using hb)];obtain⟨⟨l,fr,u⟩,e1,hl,hf,hu⟩:=vT (code:=a0) (show(default:EO).ff a0 from h0.2);dsimp only at hl hf hu;have hlen:∀t,(G6 l t).1.bj.length<=2000000:=λt=>by
  unfold G6;split
  ·rename_i hg;split
   ·exact Nat.le_trans (List.length_filterMap_le _ _) hl.1
   ·simp
  ·simp
 have dlen:=sE (l:=l) (a:=fr) (u:=u);rw[e1,Af];dsimp only;rw[cW hl,Af,uF hl,Af,tY hl,Af,sP hl (by omega),Af,if_neg (by simp),if_neg (by simp),cL (hlen fr),Af,if_pos rfl,sR (by omega),Af,if_neg (by simp)];by_cases hq:(G6 l fr).2=true/\(Iq l fr u).2=true
 ·obtain⟨q1,q2⟩:=hq;obtain⟨hc,hd⟩:=qT q2;have ha:BR fr 0 100000=true:=by
   unfold G6 at q1;rw[if_pos hc]at q1;split at q1
   ·assumption
   ·cases q1
  obtain⟨ZG,UM⟩:=yA hc ha hd;have c1:G6 l fr=(⟨fr,DM l fr⟩,true):=by unfold G6;rw[if_pos hc,if_pos ha]
  have c2:G6 l u=(⟨u,DM l u⟩,true):=by unfold G6;rw[if_pos hc,if_pos ZG]
  have l1:=hlen fr;have l2:=hlen u;rw[if_neg (by simp[q1,q2]),cW hl,Af,c1,c2,uA hc hd];rw[c1]at l1;rw[c2]at l2;have sw:∀t,KU (DM l t):=λt=>⟨Nat.le_trans (List.length_filterMap_le _ _) hl.1,(wK (QE hc)).2⟩
  rw[sX (c:=⟨fr,DM l fr⟩) (d:=⟨fr,u,Ev 0 fr u l⟩) (sw fr) (S7 hl hc),Af,UM,if_pos rfl,if_pos rfl,cL (by exact l2),Af,if_pos rfl,Ya (c:=⟨u,DM l u⟩) (sw u),Af,XH hc ZG,if_pos rfl,Yf (d:=⟨fr,u,Ev 0 fr u l⟩) (S7 hl hc),Af,hd]
 ·rw[if_pos];simp only[Bool.or_eq_true,Bh];by_cases q1:(G6 l fr).2=true
  ·right;simpa using λq2=>hq ⟨q1,q2⟩
  ·left;simpa using q1
end
end Go.Proofs.YteeafhlnofapaaaGreat

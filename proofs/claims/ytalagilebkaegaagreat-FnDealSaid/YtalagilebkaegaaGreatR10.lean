/- Parts of a proof, joined: NSW, NSX, NFG, NFH, NFK, NVA, NVB, NVC, NVD, NVE, NVH, NVI, NVM, NVL. -/
import Derived.Test.YtalagilebkaegaaGreatR9
set_option linter.unusedVariables false
set_option linter.unusedSimpArgs false
namespace Go.Proofs.YtalagilebkaegaaGreat
open Go.RowKit
section
set_option maxRecDepth 100000
set_option maxHeartbeats 1000000
set_option maxHeartbeats 2000000
structure WS(s:Ai):Prop where
 cells:DG 24 s.ao
 ee:s.ab.length<=12
 di:Cd hk s.ab
 held:∀h∈s.ab,HD h/\NO h.ae
 dh:Cd tk s.au
 told:∀t∈s.au,1<=tk t/\tk t<=60
structure F5(r:AP):Prop where
 reads:r.aq.length<=8
 writes:r.ae.length<=8
 di:Il r.ae
 small:NO r.ae
 time:r.az≠1->r.az≠4->r.bg=true->0<r.af
 mh:r.az≠4->1<=r.ah/\r.ah<=60
theorem WS.ct{s:Ai}(h:WS s):s.au.length<=60:=by have:=Cd.len (lo:=1) (hi:=60) h.dh h.told;omega
def Ll(r:AP):AG:=⟨r.ah,r.af,r.bh,r.aq,r.ae⟩
def FH(l:List AG)(t:Int):List AG:=l.filter λh=>decide (hk h≠t)
def KI(s:Ai)(r:AP):List Bz:=DN tk ⟨r.ah,r.bg,r.af⟩ s.au
def Cm(s:Ai)(r:AP):Option Ai:=
 if r.az=4 then(if s.aw<r.af then some ⟨r.af,s.ao,s.ab,s.au⟩else none)
 else if(BV s r.ah).isSome=true then none
 else if r.az=1 then
  (if(Cq s r.ah).isSome=true then none
  else if r.af<=s.aw then none
  else if Lj s r.aq r.ae=true then some ⟨r.af,s.ao,DN hk (Ll r) s.ab,s.au⟩else none)
 else if r.bg=true then
  (match Cq s r.ah with
  |none=>none
  |some h=>if r.af<h.af then none else match L2 s.ao h.ae r.af with
   |none=>none
   |some o=>some ⟨if s.aw<r.af then r.af else s.aw,o,FH s.ab r.ah,KI s r⟩)
 else some ⟨s.aw,s.ao,FH s.ab r.ah,KI s r⟩
theorem Sl{s:Ai}{t:Int}(h: ¬(BV s t).isSome=true):∀y∈s.au,tk y≠t:=by
 intro y hy e;have h:(BV s t)=none:=by cases hq:BV s t with|none=>rfl|some x=>rw[hq]at h;exact absurd rfl h
 have:=List.find?_eq_none.1 h y hy;simp[e]at this
theorem VX{s:Ai}{t:Int}(h: ¬(Cq s t).isSome=true):∀y∈s.ab,hk y≠t:=by
 intro y hy e;have h:(Cq s t)=none:=by cases hq:Cq s t with|none=>rfl|some x=>rw[hq]at h;exact absurd rfl h
 have:=List.find?_eq_none.1 h y hy;simp[e]at this
theorem DG.jf{n:Nat}{l:List Ak}(h:DG n l)(hg:E6 l=true):DG 24 l:=by unfold E6 at hg;simp only[Ab,AI,A3]at hg;obtain⟨h1,h2,_⟩:=hg;refine⟨h.1,by omega,λc hc=> ?_⟩;obtain⟨a,b,d⟩:=h.2.2 c hc;have:=h2 c hc;unfold GZ Jo at this;simp only[Ab]at this;have h3:=this.2.1;unfold BJ at h3;simp only[Ab,AI]at h3;exact⟨a,by omega,d⟩
theorem zDZ{l o:List Ak}{ws:List Ap}{t:Int}(h:DG 24 l)(hw:NO ws)(e:L2 l ws t=some o):DG 24 o:=by
 unfold L2 at e;cases h1:GF t l ws with
 |none=>rw[h1]at e;cases e
 |some p=>
  rw[h1]at e;have e:(if E6 p=true then some p else none)=some o:=e;by_cases hg:E6 p=true
  ·rw[if_pos hg]at e;cases e;exact DG.jf (nT (by have:=hw.1;omega) hw.2 h h1) hg
  ·rw[if_neg hg]at e;cases e
theorem WS.less{s:Ai}(h:WS s)(t:Int):(FH s.ab t).length<=12/\Cd hk (FH s.ab t)/\ ∀h∈FH s.ab t,HD h/\NO h.ae:=
 ⟨by have:=List.length_filter_le (λh=>decide (hk h≠t)) s.ab;have:=h.ee;unfold FH;omega,h.di.filter _,λy hy=>h.held y (List.mem_filter.1 hy).1⟩
theorem WS.l7{s:Ai}{r:AP}(h:WS s)(hr:F5 r)(h4:r.az≠4)(hn:∀y∈s.au,tk y≠r.ah):Cd tk (KI s r)/\ ∀t∈KI s r,1<=tk t/\tk t<=60:=
 ⟨h.dh.ins hn,λt ht=>by
  rcases Jm.1 ht with rfl|ht
  ·exact hr.mh h4
  ·exact h.told t ht⟩
theorem zxa{s s':Ai}{r:AP}(h:WS s)(hr:F5 r)(e:Cm s r=some s'):WS s':=by
 unfold Cm at e;split at e
 ·split at e
  ·cases e;exact⟨h.cells,h.ee,h.di,h.held,h.dh,h.told⟩
  ·cases e
 ·rename_i h4;split at e
  ·cases e
  ·rename_i C8;have hn:=Sl C8;split at e
   ·split at e
    ·cases e
    ·rename_i FO;split at e
     ·cases e
     ·split at e
      ·rename_i hf;cases e;have FJ:s.ab.length<12:=by
        unfold Lj at hf;simp only[Ab,AI]at hf;exact hf.2.1
       refine⟨h.cells,by rw[nH];omega,h.di.ins (VX FO),λy hy=> ?_,h.dh,h.told⟩;rcases Jm.1 hy with rfl|hy
       ·exact⟨⟨hr.reads,hr.writes,hr.di⟩,hr.small⟩
       ·exact h.held y hy
      ·cases e
   ·obtain⟨l1,l2,l3⟩:=h.less r.ah;obtain⟨t1,t2⟩:=h.l7 hr h4 hn;split at e
    ·split at e
     ·cases e
     ·rename_i x hx;split at e
      ·cases e
      ·split at e
       ·cases e
       ·rename_i o ho;cases e;exact⟨zDZ h.cells (h.held x (List.mem_of_find?_eq_some hx)).2 ho,l1,l2,l3,t1,t2⟩
    ·cases e;exact⟨h.cells,l1,l2,l3,t1,t2⟩
theorem zvS{h:AG}(hh:HD h):Yy h=some h:=by obtain⟨h1,h2,_⟩:=hh;unfold Yy RH R1;have e1:IQ h.aq=some h.aq:=Jn (by omega) (by omega);have e2:L5 h.ae=some h.ae:=Jn (by omega) (by omega);rw[Aa];show((IQ h.aq).bind _).bind _=_;rw[e1,Aa];show((L5 h.ae).bind _).bind _=_;rw[e2];rfl
theorem zzV{r:AP}(hr:F5 r):R1 r=some (Ll r):=by have h1:=hr.reads;have h2:=hr.writes;unfold R1;have e1:IQ r.aq=some r.aq:=Jn (by omega) (by omega);have e2:L5 r.ae=some r.ae:=Jn (by omega) (by omega);rw[e1,Aa,e2,Aa];rfl
theorem Zo{s:Ai}(h:WS s):Pn s=some s:=by
 have hc:=h.cells;have hT:=h.ct;have hf:=h.ee;unfold Pn;have hC:Rm s.ao=some s.ao:=A7 ⟨by have:=hc.2.1;omega,λc F6=>by have:=(hc.2.2 c F6).2.1;omega⟩;have e2:gG s.au=some s.au:=Jn (by omega) (by omega);rw[hC,Aa,e2,Aa];refine((E7 (xs:=s.ab) (body:=λz:Int × List AG=>Q5 s s.ao s.au z.1 z.2) (λi z=>(i,z)) (λo c=>o++ [c]) (λo=>some (⟨s.aw,s.ao,o,s.au⟩:Ai)) (λi o=>o.length=i)
  (λi hi o ho=>by refine⟨?_,by simp[ho]⟩;show Q5 s s.ao s.au (i:Int) o=_;unfold Q5;rw[if_pos (by simpa using hi),AJ hi,Aa,zvS (h.held _ (Ay hi)).1,Aa,A7 (by simp only[AS];omega),Be (by omega)])
  (λo ho=>by show Q5 s s.ao s.au (s.ab.length:Int) o=_;unfold Q5;rw[if_neg (by simp)]) (s:=[]) rfl).1).trans ?_
 have e:=foldl_map (λc:AG=>c) s.ab [];simp only[List.map_id',List.nil_append]at e;rw[e]
theorem sR{α:Type}{key:α->Int}{l:List α}{x:α}(hl:l.length<=1000)(hn:∀y∈l,key y≠key x):Ib l ((AF (A0 key (key x)) l:Nat):Int) [x]=some (DN key x l):=by have:=NM (A0 key (key x)) l;unfold Ib;rw[A7 ⟨by omega,by omega,by simp,by simp only[AS];omega⟩,CV,ZW hn]
theorem zyt{s:Ai}{r:AP}(h:WS s)(hr:F5 r)(h1:r.az≠1)(h4:r.az≠4)(C8: ¬(BV s r.ah).isSome=true):XX s r=some (match Cm s r with|some s'=>(s',true)|none=>((⟨0,[],[],[]⟩:Ai),false)):=by
 have hn:=Sl C8;have hf:=h.ee;have hT:=h.ct;unfold XX Cm;rw[Zo h,Aa,SA (by omega) h.di,Aa,if_neg h4,if_neg C8,if_neg h1];have tail:∀(c:List Ak) (fl:Int),XS r s (((AF (A0 hk r.ah) s.ab:Nat):Int),(Cq s r.ah).isSome) c fl=some ((⟨fl,c,FH s.ab r.ah,KI s r⟩:Ai),true):=by
  intro c fl;unfold XS;have Fo:Ib s.au ((AF (A0 tk r.ah) s.au:Nat):Int) [(⟨r.ah,r.bg,r.af⟩:Bz)]=some (KI s r):=sR (key:=tk) (x:=⟨r.ah,r.bg,r.af⟩) (by omega) hn;have D0:=R9 (t:=r.ah) h.di;cases hq:Cq s r.ah with
  |none=>have GP:s.ab.find? (λy=>hk y==r.ah)=none:=hq;simp only[Option.isSome_none,Ba,if_false];rw[SG (s:=⟨fl,c,s.ab,s.au⟩) (by show s.au.length<=_;omega) h.dh,Aa,Fo,Aa];unfold FH;rw[zpC GP]
  |some x=>
   have GP:s.ab.find? (λy=>hk y==r.ah)=some x:=hq;simp only[Option.isSome_some,if_true];rw[GP]at D0;have hp:AF (A0 hk r.ah) s.ab<s.ab.length:=by
    rcases Nat.lt_or_ge (AF (A0 hk r.ah) s.ab) s.ab.length with hp|hp
    ·exact hp
    ·rw[List.getElem?_eq_none hp]at D0;cases D0
   rw[Br hp]at D0;have hkx:hk s.ab[AF (A0 hk r.ah) s.ab]=r.ah:=by
    by_cases hh:hk s.ab[AF (A0 hk r.ah) s.ab]=r.ah
    ·exact hh
    ·have D0:some x=if hk s.ab[AF (A0 hk r.ah) s.ab]=r.ah then some s.ab[AF (A0 hk r.ah) s.ab]else none:=D0;rw[if_neg hh]at D0;cases D0
   have JF:V3 s.ab ((AF (A0 hk r.ah) s.ab:Nat):Int) (IntKind.i64.wrap (((AF (A0 hk r.ah) s.ab:Nat):Int)+1))=some (FH s.ab r.ah):=by unfold V3 FH;rw[Be (by omega),A7 ⟨by omega,by omega,by omega⟩,CV,CV,xQ h.di hp hkx]
   rw[JF,Aa,SG (s:=⟨fl,c,FH s.ab r.ah,s.au⟩) (by show s.au.length<=_;omega) h.dh,Aa,Fo,Aa]
 by_cases hy:r.bg=true
 ·rw[if_pos hy,if_pos hy];cases hq:Cq s r.ah with
  |none=>rfl
  |some x=>
   have GP:s.ab.find? (λy=>hk y==r.ah)=some x:=hq;have D0:=R9 (t:=r.ah) h.di;rw[GP]at D0;have hp:AF (A0 hk r.ah) s.ab<s.ab.length:=by
    rcases Nat.lt_or_ge (AF (A0 hk r.ah) s.ab) s.ab.length with hp|hp
    ·exact hp
    ·rw[List.getElem?_eq_none hp]at D0;cases D0
   have hx:s.ab[AF (A0 hk r.ah) s.ab]=x:=by
    rw[Br hp]at D0;have D0:some x=if hk s.ab[AF (A0 hk r.ah) s.ab]=r.ah then some s.ab[AF (A0 hk r.ah) s.ab]else none:=D0;split at D0
    ·cases D0;rfl
    ·cases D0
   simp only[Option.isSome_some,if_true];rw[AJ hp,Aa,hx];by_cases FT:r.af<x.af
   ·rw[if_pos (by simpa using FT),if_pos FT]
   ·rw[if_neg (by simpa using FT),if_neg FT,zDl h.cells (h.held x (List.mem_of_find?_eq_some GP)).2,Aa];cases ho:L2 s.ao x.ae r.af with
    |none=>rfl
    |some o=>
     simp only[Bool.not_true,Ba,if_false];have t:=tail o (bif decide (r.af>s.aw)then r.af else s.aw);rw[hq]at t;refine t.trans ?_;by_cases B5:s.aw<r.af
     ·rw[if_pos B5];simp[B5]
     ·rw[if_neg B5];simp[B5]
 ·rw[if_neg hy,if_neg hy];exact tail s.ao s.aw
theorem zCs{s:Ai}{r:AP}(h:WS s)(hr:F5 r):XY s r=some (match Cm s r with|some s'=>(s',true)|none=>((⟨0,[],[],[]⟩:Ai),false)):=by
 have hf:=h.ee;have hT:=h.ct;unfold XY;by_cases h4:r.az=4
 ·rw[if_pos (by simpa using h4)];unfold Cm;rw[if_pos h4];by_cases B5:s.aw<r.af
  ·rw[if_neg (by simpa using B5),if_pos B5,Zo h];rfl
  ·rw[if_pos (by simpa using B5),if_neg B5]
 ·rw[if_neg (by simpa using h4),SG (by omega) h.dh,Aa];by_cases C8:(BV s r.ah).isSome=true
  ·unfold Cm;rw[if_neg h4,if_pos C8,if_pos C8]
  ·rw[if_neg C8];by_cases h1:r.az=1
   ·rw[if_neg (by simpa using h1),SA (by omega) h.di,Aa];unfold Cm;rw[if_neg h4,if_neg C8,if_pos h1];by_cases FO:(Cq s r.ah).isSome=true
    ·rw[if_pos FO,if_pos FO]
    ·rw[if_neg FO,if_neg FO];by_cases FT:r.af<=s.aw
     ·rw[if_pos (by simpa using FT),if_pos FT]
     ·rw[if_neg (by simpa using FT),if_neg FT,zDw h.cells hf (λy hy=>(h.held y hy).1) hr.reads hr.writes hr.di,Aa];cases CA:Lj s r.aq r.ae with
      |false=>rfl
      |true=>rw[if_neg (by simp),Zo h,Aa,zzV hr,Aa];have:=sR (key:=hk) (l:=s.ab) (x:=Ll r) (by omega) (VX FO);rw[show((AF (A0 hk r.ah) s.ab:Nat):Int)=((AF (A0 hk (hk (Ll r))) s.ab:Nat):Int)from rfl,this];rfl
   ·rw[if_pos (by simpa using h1),zyt h hr h1 h4 C8];rfl
theorem zxZ{h:AG}(hh:HD h):Yp h=some h:=by obtain⟨h1,h2,_⟩:=hh;unfold Yp;rw[PZ (by omega),Aa,A7 (by simp only[List.length_nil];omega)]
theorem zwW{s:Ai}(h:WS s):Vo s=some s:=by
 have hT:=h.ct;have hf:=h.ee;unfold Vo;rw[zzo h.cells,Aa,A7 (by simp only[List.length_nil];omega)];refine((E7 (xs:=s.ab) (body:=λz:Int × List AG=>Rr s s.ao z.1 z.2) (λi z=>(i,z)) (λo c=>o++ [c]) (λo=>some (⟨s.aw,s.ao,o,s.au⟩:Ai)) (λi o=>o.length=i)
  (λi hi o ho=>by refine⟨?_,by simp[ho]⟩;show Rr s s.ao (i:Int) o=_;unfold Rr;rw[if_pos (by simpa using hi),AJ hi,Aa,zxZ (h.held _ (Ay hi)).1,Aa,A7 (by simp only[AS];omega),Be (by omega)])
  (λo ho=>by show Rr s s.ao (s.ab.length:Int) o=_;unfold Rr;rw[if_neg (by simp)]) (s:=[]) rfl).1).trans ?_
 have e:=foldl_map (λc:AG=>c) s.ab [];simp only[List.map_id',List.nil_append]at e;rw[e]
theorem zxk{s:Ai}{r:AP}(h:WS s)(hr:F5 r):∃x,Vd s r=some (x,(Cm s r).isSome)/\ ∀s',Cm s r=some s'->x=s':=by
 have hf:=h.ee;have hT:=h.ct;have hrl:=hr.reads;have Us:=hr.writes;unfold Vd;rw[zwW h,Aa,ZH (by omega),Aa,zD (by omega),Aa];by_cases h4:r.az=4
 ·rw[if_pos (by simpa using h4)];unfold Cm;rw[if_pos h4];refine⟨⟨r.af,s.ao,s.ab,s.au⟩,?_,?_⟩
  ·by_cases B5:s.aw<r.af
   ·rw[if_pos B5];simp[B5]
   ·rw[if_neg B5];simp[B5]
  ·intro s' e;split at e
   ·cases e;rfl
   ·cases e
 ·rw[if_neg (by simpa using h4)];by_cases C8:(BV s r.ah).isSome=true
  ·have ea:Cm s r=none:=by unfold Cm;rw[if_neg h4,if_pos C8]
   rw[ea];cases hq:BV s r.ah with
   |none=>rw[hq]at C8;cases C8
   |some x=>exact⟨s,rfl,λs' e=>by cases e⟩
  ·have Qq:BV s r.ah=none:=by cases hq:BV s r.ah with|none=>rfl|some x=>rw[hq]at C8;exact absurd rfl C8
   have hn:=Sl C8;rw[Qq];simp only[Ba,if_false];by_cases h1:r.az=1
   ·rw[if_pos (by simpa using h1),PZ (by omega),Aa,A7 (by simp only[List.length_nil];omega)];obtain⟨l,Ja,MS⟩:=zym (l:=s.ab) (h:=Ll r) (by omega) h.di;rw[show(⟨r.ah,r.af,r.bh,r.aq,r.ae⟩:AG)=Ll r from rfl,Ja,Aa];by_cases FO:(Cq s r.ah).isSome=true
    ·have ea:Cm s r=none:=by unfold Cm;rw[if_neg h4,if_neg C8,if_pos h1,if_pos FO]
     rw[ea];cases hq:Cq s r.ah with
     |none=>rw[hq]at FO;cases FO
     |some x=>exact⟨_,rfl,λs' e=>by cases e⟩
    ·have pP:Cq s r.ah=none:=by cases hq:Cq s r.ah with|none=>rfl|some x=>rw[hq]at FO;exact absurd rfl FO
     have ea:Cm s r=if r.af<=s.aw then none else if Lj s r.aq r.ae=true then some ⟨r.af,s.ao,DN hk (Ll r) s.ab,s.au⟩else none:=by unfold Cm;rw[if_neg h4,if_neg C8,if_pos h1,if_neg FO]
     rw[ea,pP];simp only[Ba,if_false];by_cases FT:r.af<=s.aw
     ·rw[if_neg (by simpa using FT),if_pos FT];exact⟨_,rfl,λs' e=>by cases e⟩
     ·rw[if_pos (by simpa using FT),if_neg FT,zDs h.cells hf (λy hy=>(h.held y hy).1) hr.reads hr.writes,Aa];cases CA:Lj s r.aq r.ae with
      |false=>exact⟨_,rfl,λs' e=>by cases e⟩
      |true=>rw[MS (VX FO)];exact⟨_,rfl,λs' e=>by cases e;rfl⟩
   ·rw[if_neg (by simpa using h1)];obtain⟨tl,Jf,KP⟩:=zxC (l:=s.au) (h:=⟨r.ah,r.bg,r.af⟩) (by omega) h.dh;have KP:=KP hn;by_cases hy:r.bg=true
    ·rw[if_pos hy];cases hq:Cq s r.ah with
     |none=>
      have ea:Cm s r=none:=by unfold Cm;rw[if_neg h4,if_neg C8,if_neg h1,if_pos hy,hq]
      rw[ea];exact⟨_,rfl,λs' e=>by cases e⟩
     |some x=>
      have ea:Cm s r=if r.af<x.af then none else match L2 s.ao x.ae r.af with
       |none=>none
       |some o=>some ⟨if s.aw<r.af then r.af else s.aw,o,FH s.ab r.ah,KI s r⟩:=by unfold Cm;rw[if_neg h4,if_neg C8,if_neg h1,if_pos hy,hq]<;>rfl
      rw[ea];simp only[Bool.not_true,Bool.false_or];by_cases FT:r.af<x.af
      ·rw[if_pos (by simpa using FT),if_pos FT];exact⟨_,rfl,λs' e=>by cases e⟩
      ·rw[if_neg (by simpa using FT),if_neg FT,zDh h.cells (h.held x (List.mem_of_find?_eq_some hq)).2 (hr.time h1 h4 hy),Aa];unfold L2;cases ho:GF r.af s.ao x.ae with
       |none=>exact⟨_,rfl,λs' e=>by cases e⟩
       |some o=>
        cases hg:E6 o with
        |false=>simp only[hg,Bool.not_false,if_true];exact⟨_,rfl,λs' e=>by cases e⟩
        |true=>
         simp only[hg,Bool.not_true,Ba,if_false,if_true];have T5:Ki s.aw r.af=some (if s.aw<r.af then r.af else s.aw):=by
          unfold Ki;by_cases B5:s.aw<r.af
          ·rw[if_pos B5,if_neg (by simp;omega)]
          ·rw[if_neg B5];by_cases OA:s.aw>r.af
           ·rw[if_pos (by simpa using OA)]
           ·rw[if_neg (by simpa using OA)];rw[show r.af=s.aw by omega]
         rw[T5,Aa,zxy (by omega),Aa,Jf,Aa,KP];exact⟨_,rfl,λs' e=>by cases e;rfl⟩
    ·have ea:Cm s r=some ⟨s.aw,s.ao,FH s.ab r.ah,KI s r⟩:=by unfold Cm;rw[if_neg h4,if_neg C8,if_neg h1,if_neg hy]
     rw[if_neg hy,ea,zxy (by omega),Aa,Jf,Aa,KP];exact⟨_,rfl,λs' e=>by cases e;rfl⟩
theorem GY{α β:Type}{xs:List α}{body:Int->Option (Int ⊕ Option β)}(p:α->Bool)(b:β)(fin:Option β)
  (hs:∀(i:Nat) (hi:i<xs.length),body i=some (if p xs[i]=true then .inl ((i+1:Nat):Int)else .inr (some b))) (he:body xs.length=some (.inr fin)):Az body 0=if xs.all p=true then fin else some b:=by
 have h1:=VQ (xs:=xs) (body:=body) (λi (_:Unit)=>i) (λx _=>some (if p x=true then .inl ()else .inr (some b))) (λ_=>fin)
  (λi hi s=>by rw[hs i hi];cases p xs[i]<;>rfl) (λ_=>he) ()
 exact h1.trans (zyM p b (λx _ s=>by cases p x<;>rfl) ())
theorem Ku{α:Type}(l:List α)(i:Nat):A6 l 0 (i:Int)=l.take i:=by simp[A6]
def MH(s:Ai)(i:Nat):Bool:=match s.ab[i]? with
 |some h=>CK (Ef h)&&(decide (h.af<=s.aw)&&(!(s.ab.take i).any (λg=>C4 g h.aq h.ae)&& !h.ae.any (λw=>decide (h.af<=Cj s.ao w.aj))))
 |none=>true
def K8(s:Ai):Bool:=(List.range s.ab.length).all (MH s)&&Ip s.ao (Dt s.ab)
def GH(s:Ai)(c:Ak):Bool:=decide (Cj s.ao c.aj<=s.aw)
def IP(s:Ai)(t:Bz):Bool:=(if t.bg=true then BJ t.af 1 s.aw else t.af==0)&& !(Cq s t.ah).isSome
def N4(s:Ai):Bool:=BJ s.aw 0 100000&&(E6 s.ao&&(K8 s&&(s.ao.all (GH s)&&s.au.all (IP s))))
theorem PW{s:Ai}{i:Nat}(hi:i<s.ab.length):MH s i=(CK (Ef s.ab[i])&&(decide (s.ab[i].af<=s.aw)&&(!(s.ab.take i).any (λg=>C4 g s.ab[i].aq s.ab[i].ae)&& !s.ab[i].ae.any (λw=>decide (s.ab[i].af<=Cj s.ao w.aj))))):=by unfold MH;rw[Br hi]
theorem NP{α:Type}{l:List α}{i:Nat}(hi:i<l.length)(h0:0<i)(hl:l.length<=2000000):getI l (IntKind.i64.wrap ((i:Int)-1))=some l[i-1]:=by rw[CQ (n:=(i:Int)-1) (by omega) (by omega),show(i:Int)-1=((i-1:Nat):Int) by omega,AJ (by omega)]
theorem zAs{s:Ai}(h:WS s)(hs:∀x∈s.ab,F8 (Ef x)):QS s=some (K8 s):=by
 have JL:=h.ee;unfold QS;rw[K3 (n:=s.ab.length) (body:=λi=>Kh s i) (MH s) false (UO s) (λi hi=> ?_) (by show Kh s (s.ab.length:Int)=_;unfold Kh;rw[if_neg (by simp)])]
 ·unfold UO K8;rw[oD h.cells (by omega) λx hx=>(h.held x hx).1,Aa,show decide (s.ab.length<=12)=true by simpa using JL,Bool.true_and];cases(List.range s.ab.length).all (MH s)<;>rfl
 ·have hx:=Ay hi;obtain⟨⟨o1,o2,o3⟩,o4⟩:=h.held _ hx;have e1:D4 (A6 s.ab 0 (i:Int)) (λy0_=>Pg y0_ s.ab[i])=some ((s.ab.take i).any λg=>C4 g s.ab[i].aq s.ab[i].ae):=by
   rw[Ku];refine Kx _ (λg hg=> ?_) (by rw[Ar];omega);have hg:=Bt hg;obtain⟨⟨g1,g2,g3⟩,_⟩:=h.held _ hg;unfold Pg R7 C4;rw[Se (by omega) (by omega) (by omega) g3,Aa,Se (by omega) (by omega) (by omega) o3,Aa];cases B9 s.ab[i].ae g.aq g.ae<;>cases B9 g.ae s.ab[i].aq s.ab[i].ae<;>rfl
  have e2:D4 s.ab[i].ae (λy0_=>Pb y0_ s.ab[i] s)=some (s.ab[i].ae.any λw=>decide (s.ab[i].af<=Cj s.ao w.aj)):=by refine Kx _ (λw _=> ?_) (by omega);unfold Pb;rw[Wq (n:=24) (by omega) h.cells];rfl
  show Kh s (i:Int)=_;unfold Kh;rw[PW hi,if_pos (by simpa using hi),AJ hi,Aa,show RH s.ab[i]=some (Ef s.ab[i])from rfl,Aa,nU (hs _ hx),Aa];have rq:0<=(0:Int)/\(0:Int)<=(i:Int)/\(i:Int)<=(s.ab.length:Int):=by omega
  rw[e1,e2,Be (by omega)];generalize (s.ab.take i).any (λg=>C4 g s.ab[i].aq s.ab[i].ae)=A;generalize s.ab[i].ae.any (λw=>decide (s.ab[i].af<=Cj s.ao w.aj))=B;by_cases hp:0<i
  ·rw[if_pos (by simp;omega),NP hi hp (by omega)];have hr:=h.di.mono hi (show i-1<i by omega);have hr:s.ab[i-1].ah<s.ab[i].ah:=hr;cases CK (Ef s.ab[i])with
   |false=>rfl
   |true=>
    rw[if_pos rfl];by_cases ht:s.ab[i].af<=s.aw
    ·rw[if_neg (by simp;omega),Aa,if_neg (by simp;omega),A7 rq,Aa,Aa];cases A<;>cases B<;>simp[ht]
    ·rw[if_pos (by simp;omega)];simp[ht]
  ·rw[if_neg (by simp;omega)];cases CK (Ef s.ab[i])with
   |false=>rfl
   |true=>
    by_cases ht:s.ab[i].af<=s.aw
    ·rw[if_neg (by simp;omega),A7 rq,Aa,Aa];cases A<;>cases B<;>simp[ht]
    ·rw[if_pos (by simp;omega)];simp[ht]
theorem zy2{s:Ai}(h:WS s)(hs:∀x∈s.ab,F8 (Ef x)):R4 s=some (K8 s):=by
 have JL:=h.ee;unfold R4;rw[K3 (n:=s.ab.length) (body:=λi=>Km s i) (MH s) false (U4 s) (λi hi=> ?_) (by show Km s (s.ab.length:Int)=_;unfold Km;rw[if_neg (by simp)])]
 ·unfold U4 K8;rw[show decide ((s.ab.length:Int)<=12)=true from decide_eq_true (by omega),oH h.cells (by omega) (λx hx=>(h.held x hx).1) (by simp),Aa,List.nil_append];cases(List.range s.ab.length).all (MH s)<;>rfl
 ·have hx:=Ay hi;obtain⟨⟨o1,o2,o3⟩,o4⟩:=h.held _ hx;have t5:K0 s (i:Int) s.ab[i]=some (if(s.ab[i].ae.all λw=> !decide (s.ab[i].af<=Cj s.ao w.aj))=true then .inl ((i+1:Nat):Int)else .inr (some false)):=by
   unfold K0;rw[GY (xs:=s.ab[i].ae) (body:=λj=>Kc s (i:Int) s.ab[i] j) (λw=> !decide (s.ab[i].af<=Cj s.ao w.aj)) (.inr (some false)) (U3 (i:Int)) (λj hj=>by
    show Kc s (i:Int) s.ab[i] (j:Int)=_;unfold Kc;rw[if_pos (by simpa using hj),AJ hj,Aa,SH (n:=24) (by omega) h.cells,Aa,Be (by omega)];by_cases hq:s.ab[i].af<=Cj s.ao (s.ab[i].ae[j]).aj
    ·rw[if_pos (by simpa using hq)];simp[hq]
    ·rw[if_neg (by simpa using hq)];simp[hq]) (by
    show Kc s (i:Int) s.ab[i] (s.ab[i].ae.length:Int)=_;unfold Kc;rw[if_neg (by simp)])]
   unfold U3;rw[Be (by omega)];split<;>rfl
  have t9:Rx s (i:Int) s.ab[i]=some (if(s.ab[i].ae.all λw=> !decide (s.ab[i].af<=Cj s.ao w.aj))=true then .inl ((i+1:Nat):Int)else .inr (some false)):=by
   unfold Rx;rw[GY (xs:=s.ab[i].ae) (body:=λj=>Rw s (i:Int) s.ab[i] j) (λw=> !decide (s.ab[i].af<=Cj s.ao w.aj)) (.inr (some false)) (iK (i:Int)) (λj hj=>by
    show Rw s (i:Int) s.ab[i] (j:Int)=_;unfold Rw;rw[if_pos (by simpa using hj),AJ hj,Aa,SH (n:=24) (by omega) h.cells,Aa,Be (by omega)];by_cases hq:s.ab[i].af<=Cj s.ao (s.ab[i].ae[j]).aj
    ·rw[if_pos (by simpa using hq)];simp[hq]
    ·rw[if_neg (by simpa using hq)];simp[hq]) (by
    show Rw s (i:Int) s.ab[i] (s.ab[i].ae.length:Int)=_;unfold Rw;rw[if_neg (by simp)])]
   unfold iK;rw[Be (by omega)];split<;>rfl
  have t6:Az (λj:Int=>Jj s (i:Int) s.ab[i] j) 0=if((s.ab.take i).all λg=> !C4 g s.ab[i].aq s.ab[i].ae)=true then K0 s (i:Int) s.ab[i]else some (.inr (some false)):=by
   refine GY (xs:=s.ab.take i) (λg=> !C4 g s.ab[i].aq s.ab[i].ae) (.inr (some false)) (K0 s (i:Int) s.ab[i]) (λj hj=> ?_) ?_
   ·have hg:=Bt (Ay hj);rw[Ar]at hj;show Jj s (i:Int) s.ab[i] (j:Int)=_;unfold Jj;rw[Ku,if_pos (by rw[Ar];simp;omega),AJ (by rw[Ar];omega),Aa,Z1 (h.held _ hg).1 (by omega) (by omega),Aa,Be (by omega)];cases C4 (s.ab.take i)[j] s.ab[i].aq s.ab[i].ae<;>rfl
   ·show Jj s (i:Int) s.ab[i] ((s.ab.take i).length:Int)=_;unfold Jj;rw[Ku,if_neg (by simp)]
  have t10:Az (λj:Int=>Pc s (i:Int) s.ab[i] j) 0=if((s.ab.take i).all λg=> !C4 g s.ab[i].aq s.ab[i].ae)=true then Rx s (i:Int) s.ab[i]else some (.inr (some false)):=by
   refine GY (xs:=s.ab.take i) (λg=> !C4 g s.ab[i].aq s.ab[i].ae) (.inr (some false)) (Rx s (i:Int) s.ab[i]) (λj hj=> ?_) ?_
   ·have hg:=Bt (Ay hj);rw[Ar]at hj;show Pc s (i:Int) s.ab[i] (j:Int)=_;unfold Pc;rw[Ku,if_pos (by rw[Ar];simp;omega),AJ (by rw[Ar];omega),Aa,Z1 (h.held _ hg).1 (by omega) (by omega),Aa,Be (by omega)];cases C4 (s.ab.take i)[j] s.ab[i].aq s.ab[i].ae<;>rfl
   ·show Pc s (i:Int) s.ab[i] ((s.ab.take i).length:Int)=_;unfold Pc;rw[Ku,if_neg (by simp)]
  show Km s (i:Int)=_;unfold Km;rw[PW hi,if_pos (by simpa using hi),AJ hi,Aa,show Po s.ab[i]=some (Ef s.ab[i])from rfl,Aa,aC (hs _ hx),Aa];have rq:0<=(0:Int)/\(0:Int)<=(i:Int)/\(i:Int)<=(s.ab.length:Int):=by omega
  rw[t6,t10,t5,t9,List.not_any_eq_all_not,List.not_any_eq_all_not];generalize ((s.ab.take i).all λg=> !C4 g s.ab[i].aq s.ab[i].ae)=A;generalize (s.ab[i].ae.all λw=> !decide (s.ab[i].af<=Cj s.ao w.aj))=B;by_cases hp:0<i
  ·rw[if_pos (by simp;omega),NP hi hp (by omega)];have hr:=h.di.mono hi (show i-1<i by omega);have hr:s.ab[i-1].ah<s.ab[i].ah:=hr;cases CK (Ef s.ab[i])with
   |false=>rfl
   |true=>
    rw[if_pos rfl];by_cases ht:s.ab[i].af<=s.aw
    ·rw[if_neg (by simp;omega),Aa,if_neg (by simp;omega),A7 rq];cases A<;>cases B<;>simp[ht]
    ·rw[if_pos (by simp;omega)];simp[ht]
  ·rw[if_neg (by simp;omega)];cases CK (Ef s.ab[i])with
   |false=>rfl
   |true=>
    by_cases ht:s.ab[i].af<=s.aw
    ·rw[if_neg (by simp;omega),A7 rq];cases A<;>cases B<;>simp[ht]
    ·rw[if_pos (by simp;omega)];simp[ht]
theorem zFg{s:Ai}(h:WS s)(hc:NV s.ao)(hs:∀x∈s.ab,F8 (Ef x)):Ru s=some (N4 s):=by
 have hl:=h.ct;have JL:=h.ee;have Aw:=h.cells.2.1;unfold Ru N4;rw[show RZ s.aw=some (BJ s.aw 0 100000)from rfl,Aa];cases BJ s.aw 0 100000 with
 |false=>rfl
 |true=>
  rw[if_pos rfl,mY hc,Aa];cases E6 s.ao with
  |false=>rfl
  |true=>
   rw[if_pos rfl,zAs h hs,Aa];cases K8 s with
   |false=>rfl
   |true=>
    rw[if_neg (by simp;omega),GY (xs:=s.ao) (body:=λi=>Kf s i) (GH s) false (Q9 s) (λi hi=> ?_) (by show Kf s (s.ao.length:Int)=_;unfold Kf;rw[if_neg (by simp)])]
    ·unfold Q9;rw[GY (xs:=s.au) (body:=λi=>Kg s i) (IP s) false (some true) (λi hi=> ?_) (by
      show Kg s (s.au.length:Int)=_;unfold Kg;rw[if_neg (by simp)])]
     ·cases s.ao.all (GH s)<;>cases s.au.all (IP s)<;>rfl
     ·show Kg s (i:Int)=_;unfold Kg IP;have hb:=h.told _ (Ay hi);have tx:Nx s.au[i].ah=some true:=by
       show some (BJ s.au[i].ah 1 60)=_;rw[E5.2 hb]
      rw[if_pos (by simpa using hi),AJ hi,Aa,tx,SA (s:=s) (t:=s.au[i].ah) (by omega) h.di,PK,Be (by omega)];simp only[Aa];generalize (Cq s s.au[i].ah).isSome=H;generalize BJ s.au[i].af 1 s.aw=V;generalize (s.au[i].af==0)=T;by_cases hp:0<i
      ·have hr:=h.dh.mono hi (show i-1<i by omega);have hr:s.au[i-1].ah<s.au[i].ah:=hr;have e0:decide (s.au[i].ah<=s.au[i-1].ah)=false:=by simp;omega
       have e1:decide ((i:Int)>0)=true:=by simp;omega
       rw[NP hi hp (by omega)];simp only[Aa,e0,e1,if_true,Ba,if_false];cases s.au[i].bg<;>cases V<;>cases T<;>cases H<;>rfl
      ·have e1:decide ((i:Int)>0)=false:=by simp;omega
       simp only[e1,Ba,if_false];cases s.au[i].bg<;>cases V<;>cases T<;>cases H<;>rfl
    ·show Kf s (i:Int)=_;unfold Kf GH;rw[if_pos (by simpa using hi),AJ hi,Aa,Wq (n:=24) (by omega) h.cells,Aa,Be (by omega)];by_cases hq:Cj s.ao (s.ao[i]).aj<=s.aw
     ·rw[if_neg (by simp;omega)];simp[hq]
     ·rw[if_pos (by simp;omega)];simp[hq]
theorem zBa{s:Ai}(h:WS s)(hc:NV s.ao)(hs:∀x∈s.ab,F8 (Ef x)):Ma s=some (N4 s):=by
 have hl:=h.ct;have JL:=h.ee;have Aw:=h.cells.2.1;unfold Ma N4;rw[show Pu s.aw=some (BJ s.aw 0 100000)from rfl,Aa];cases BJ s.aw 0 100000 with
 |false=>rfl
 |true=>
  rw[if_pos rfl,mC hc,Aa];cases E6 s.ao with
  |false=>rfl
  |true=>
   rw[if_pos rfl,zy2 h hs,Aa];cases K8 s with
   |false=>rfl
   |true=>
    rw[if_neg (by simp;omega),GY (xs:=s.ao) (body:=λi=>Kl s i) (GH s) false (RD s) (λi hi=> ?_) (by show Kl s (s.ao.length:Int)=_;unfold Kl;rw[if_neg (by simp)])]
    ·unfold RD;rw[GY (xs:=s.au) (body:=λi=>Kk s i) (IP s) false (some true) (λi hi=> ?_) (by
      show Kk s (s.au.length:Int)=_;unfold Kk;rw[if_neg (by simp)])]
     ·cases s.ao.all (GH s)<;>cases s.au.all (IP s)<;>rfl
     ·show Kk s (i:Int)=_;unfold Kk IP;have hb:=h.told _ (Ay hi);have tx:BJ s.au[i].ah 1 60=true:=E5.2 hb;obtain⟨P,p1,p2⟩:∃P,Kn s s.au[i].ah=some P/\P.2=(Cq s s.au[i].ah).isSome:=by
       rw[ZH (by omega)];cases Cq s s.au[i].ah with
       |none=>exact⟨_,rfl,rfl⟩
       |some x=>exact⟨_,rfl,rfl⟩
      rw[if_pos (by simpa using hi),AJ hi,Aa,p1,Be (by omega)];simp only[NT,Aa,tx,p2,bne];generalize (Cq s s.au[i].ah).isSome=H;generalize BJ s.au[i].af 1 s.aw=V;generalize (s.au[i].af==0)=T;by_cases hp:0<i
      ·have hr:=h.dh.mono hi (show i-1<i by omega);have hr:s.au[i-1].ah<s.au[i].ah:=hr;have e0:decide (s.au[i-1].ah>=s.au[i].ah)=false:=by simp;omega
       have e1:decide ((i:Int)>0)=true:=by simp;omega
       rw[NP hi hp (by omega)];simp only[Aa,e0,e1,if_true,Ba,if_false];cases s.au[i].bg<;>cases V<;>cases T<;>cases H<;>rfl
      ·have e1:decide ((i:Int)>0)=false:=by simp;omega
       simp only[e1,Ba,if_false];cases s.au[i].bg<;>cases V<;>cases T<;>cases H<;>rfl
    ·show Kl s (i:Int)=_;unfold Kl GH;rw[if_pos (by simpa using hi),AJ hi,Aa,SH (n:=24) (by omega) h.cells,Aa,Be (by omega)];by_cases hq:Cj s.ao (s.ao[i]).aj<=s.aw
     ·rw[if_neg (by simp;omega)];simp[hq]
     ·rw[if_pos (by simp;omega)];simp[hq]
theorem yR{l:List Ak}{k k':Aj}{v:Df}(hr:G3 l):Ey (Is l k v) k'=if k'=k then some ⟨k,KD l k++ [v]⟩else Ey l k':=by
 have CJ:G3 (Is l k v):=VT hr;by_cases e:k'=k
 ·rw[if_pos e];exact V6 CJ ((NG (key:=ck) hr _).2 (.inl rfl)) e.symm
 ·rw[if_neg e];cases h:Ey l k' with
  |some c=>obtain⟨h1,h2⟩:=ZU h;exact V6 CJ ((NG (key:=ck) hr c).2 (.inr ⟨h1,by show c.aj≠k;rw[h2];exact e⟩)) h2
  |none=>
   unfold Ey;rw[List.find?_eq_none];intro c hc;rcases(NG (key:=ck) hr c).1 hc with q|⟨q,_⟩
   ·rw[q];simpa using λh=>e h.symm
   ·exact List.find?_eq_none.1 h c q
theorem ZS{l:List Ak}{k:Aj}{v:Df}(hr:G3 l):G3 (Is l k v):=VT hr
theorem zzD{l:List Ak}{k k':Aj}{v:Df}(hr:G3 l):Cj (Is l k v) k'=if k'=k then v.af else Cj l k':=by
 unfold Cj;rw[yR hr];by_cases e:k'=k
 ·rw[if_pos e,if_pos e];show UD ⟨k,KD l k++ [v]⟩=_;unfold UD;simp
 ·rw[if_neg e,if_neg e]
theorem Z9{t:Int}{l o:List Ak}{w:Ap}{ws:List Ap}(h:GF t l (w::ws)=some o):GF t (Is l w.aj ⟨t,w.bw,w.bj⟩) ws=some o:=by
 unfold GF at h;rw[List.foldlM_cons]at h;unfold Hx at h;by_cases ht:t<=Cj l w.aj
 ·rw[if_pos ht]at h;cases h
 ·rw[if_neg ht]at h;exact h
theorem zzb{t:Int}{l o:List Ak}(h:GF t l []=some o):o=l:=by unfold GF at h;rw[List.foldlM_nil]at h;cases h;rfl
theorem ZQ{t:Int}{k:Aj}:∀{ws:List Ap} {l o:List Ak},G3 l->GF t l ws=some o->(∀w∈ws,w.aj≠k)->Ey o k=Ey l k
 | [],l,o,_,h,_=>by rw[zzb h]
 |w::ws,l,o,hr,h,hn=>by rw[ZQ (ZS hr) (Z9 h) λx hx=>hn x (by simp[hx]),yR hr,if_neg λe=>hn w (by simp) e.symm]
theorem zxp{t:Int}{k:Aj}:∀{ws:List Ap} {l o:List Ak},G3 l->GF t l ws=some o->(∃w∈ws,w.aj=k)->Cj o k=t
 | [],l,o,_,_,hk=>by obtain⟨w,hw,_⟩:=hk;simp at hw
 |w::ws,l,o,hr,h,hk=>by
  by_cases hm:∃x∈ws,x.aj=k
  ·exact zxp (ZS hr) (Z9 h) hm
  ·have hn:∀x∈ws,x.aj≠k:=λx hx e=>hm ⟨x,hx,e⟩;obtain⟨x,hx,e⟩:=hk;rcases Ae.1 hx with q|q
   ·have h1:=ZQ (k:=k) (ZS hr) (Z9 h) hn;have h2:=zzD (k:=w.aj) (k':=k) (v:=⟨t,w.bw,w.bj⟩) hr;unfold Cj at h2 ⊢;rw[h1,h2,if_pos (by rw[<-e,q])]
   ·exact absurd e (hn x q)
theorem zwO{t:Int}:∀{ws:List Ap} {l o:List Ak},G3 l->GF t l ws=some o-> ∀c∈o,(∃d∈l,d.aj=c.aj)\/ ∃w∈ws,w.aj=c.aj
 | [],l,o,_,h,c,hc=>by rw[zzb h]at hc;exact .inl ⟨c,hc,rfl⟩
 |w::ws,l,o,hr,h,c,hc=>by
  rcases zwO (ZS hr) (Z9 h) c hc with⟨d,hd,e⟩|⟨x,hx,e⟩
  ·rcases(NG (key:=ck) hr d).1 hd with q|⟨q,_⟩
   ·exact .inr ⟨w,by simp,by rw[<-e,q]⟩
   ·exact .inl ⟨d,q,e⟩
  ·exact .inr ⟨x,by simp[hx],e⟩
theorem zAf{l:List Ak}{k:Aj}(h:∀c∈l,c.aj≠k):Cj l k=0:=by unfold Cj Ey;rw[List.find?_eq_none.2 λc hc=>by simpa using h c hc]
structure Iu(s:Ai):Prop where
 floor:0<=s.aw/\s.aw<=100000
 cells:E6 s.ao=true
 single:∀h∈s.ab,CK (Ef h)=true/\(h.af<=s.aw/\ ∀w∈h.ae,Cj s.ao w.aj<h.af)
 apart:s.ab.Pairwise λg h=>C4 g h.aq h.ae=false
 room:Ip s.ao (Dt s.ab)=true
 last:∀c∈s.ao,Cj s.ao c.aj<=s.aw
 told:∀t∈s.au,(if t.bg=true then 1<=t.af/\t.af<=s.aw else t.af=0)/\ ∀h∈s.ab,hk h≠t.ah
theorem rI{s:Ai}{t:Bz}:IP s t=true↔(if t.bg=true then 1<=t.af/\t.af<=s.aw else t.af=0)/\ ∀h∈s.ab,hk h≠t.ah:=by
 unfold IP;rw[Ab];refine and_congr ?_ ?_
 ·cases t.bg
  ·simp
  ·simp only[if_true];exact E5
 ·unfold Cq;rw[Bc,Option.isSome_eq_false_iff,Option.isNone_iff_eq_none,List.find?_eq_none];simp
theorem ZO{s:Ai}:N4 s=true↔Iu s:=by
 unfold N4 K8;simp only[Ab,A3];constructor
 ·rintro⟨h1,h2,⟨h3,h4⟩,h5,h6⟩;have hs:∀i (hi:i<s.ab.length),CK (Ef s.ab[i])=true/\(s.ab[i].af<=s.aw/\(∀g∈s.ab.take i,C4 g s.ab[i].aq s.ab[i].ae=false)/\ ∀w∈s.ab[i].ae,Cj s.ao w.aj<s.ab[i].af):=λi hi=>by
   have:=h3 i (List.mem_range.2 hi);rw[PW hi]at this;simp only[Ab,AI,Bc,List.any_eq_false]at this;obtain⟨a,b,c,d⟩:=this;exact⟨a,b,λg hg=>by simpa using c g hg,λw hw=>by have:=d w hw;omega⟩
  refine⟨E5.1 h1,h2,λh hh=> ?_,?_,h4,λc hc=>by have:=h5 c hc;unfold GH at this;simpa using this,λt ht=>rI.1 (h6 t ht)⟩
  ·obtain⟨i,hi,rfl⟩:=List.mem_iff_getElem.1 hh;obtain⟨a,b,_,d⟩:=hs i hi;exact⟨a,b,d⟩
  ·rw[List.pairwise_iff_getElem];intro i j hi hj Ei;exact(hs j hj).2.2.1 _ (List.mem_iff_getElem.2 ⟨i,by rw[Ar];omega,by rw[List.getElem_take]⟩)
 ·intro g;refine⟨E5.2 g.floor,g.cells,⟨λi hi=> ?_,g.room⟩,λc hc=>by unfold GH;simpa using g.last c hc,λt ht=>rI.2 (g.told t ht)⟩;have hi:=List.mem_range.1 hi;rw[PW hi];obtain⟨a,b,d⟩:=g.single _ (Ay hi);simp only[Ab,AI,Bc,List.any_eq_false];refine⟨a,b,λx hx=> ?_,λw hw=>by have:=d w hw;omega⟩;obtain⟨j,hj,e⟩:=List.mem_iff_getElem.1 hx;rw[Ar]at hj;rw[List.getElem_take]at e;have:=List.pairwise_iff_getElem.1 g.apart j i (by omega) hi (by omega);rw[e]at this;simpa using this
theorem rB{α:Type}{key:α->Int}{R:α->α->Prop}(hs:∀a b,R a b->R b a){x:α}:∀{l:List α},l.Pairwise R->(∀y∈l,R y x)->(DN key x l).Pairwise R
 | [],_,_=>by simp[DN]
 |y::l,h,hx=>by
  have h':=List.pairwise_cons.1 h;unfold DN;split
  ·exact List.pairwise_cons.2 ⟨λz hz=>hs _ _ (hx z hz),h⟩
  ·refine List.pairwise_cons.2 ⟨λz hz=> ?_,rB hs h'.2 λz hz=>hx z (by simp[hz])⟩;rcases Jm.1 hz with q|q
   ·rw[q];exact hx y (by simp)
   ·exact h'.1 z q
theorem zEs{α:Type}{R:α->α->Prop}(hs:∀a b,R a b->R b a){l:List α}(h:l.Pairwise R){a b:α}(ha:a∈l)(hb:b∈l)(hn:a≠b):R a b:=by
 obtain⟨i,hi,rfl⟩:=List.mem_iff_getElem.1 ha;obtain⟨j,hj,rfl⟩:=List.mem_iff_getElem.1 hb;rcases Nat.lt_trichotomy i j with q|q|q
 ·exact List.pairwise_iff_getElem.1 h i j hi hj q
 ·subst q;exact absurd rfl hn
 ·exact hs _ _ (List.pairwise_iff_getElem.1 h j i hj hi q)
theorem wV(g h:AG):C4 g h.aq h.ae=C4 h g.aq g.ae:=Bool.or_comm _ _
theorem zxG{g h:AG}(hc:C4 g h.aq h.ae=false){w x:Ap}(hw:w∈h.ae)(hx:x∈g.ae):x.aj≠w.aj:=by intro e;unfold C4 at hc;rw[Bool.or_eq_false_iff]at hc;have h2:=hc.2;unfold B9 at h2;have h3:=List.any_eq_false.1 h2 w hw;rw[Bool.not_eq_true,Bool.or_eq_false_iff]at h3;have h4:=h3.1;unfold Im at h4;have h5:=List.any_eq_false.1 h4 x hx;simp[e]at h5
theorem IT{hs:List AG}{w:Ap}:w∈Dt hs↔ ∃h∈hs,w∈h.ae:=List.mem_flatMap
theorem nG{l l':List Ak}{ws ws':List Ap}(h:Ip l ws=true)(hf:∀w∈ws',GB l' w=true-> ∃x∈ws,GB l x=true)(hk:∀y∈FY l' ws',y∈FY l ws):Ip l' ws'=true:=by
 unfold Ip at*;simp only[Ab,Bc,List.any_eq_false,AI]at h ⊢;obtain⟨h1,h2⟩:=h;refine⟨λw hw hq=> ?_,Nat.le_trans ?_ h2⟩
 ·obtain⟨x,hx,e⟩:=hf w hw hq;exact h1 x hx e
 ·obtain⟨g1,g2,_⟩:=NI (FY l ws) [] List.Pairwise.nil;obtain⟨g3,g4,_⟩:=NI (FY l' ws') [] List.Pairwise.nil;have e:(FY l' ws').foldl (λo k=>C6 k o) []=((FY l ws).foldl (λo k=>C6 k o) []).filter λy=>decide (y∈FY l' ws'):=by
   refine DX.ext g3 (DX.filter g1 _) λy=> ?_;rw[List.mem_filter,g2,g4];simp only[List.not_mem_nil,or_false,AI];exact⟨λq=>⟨hk y q,q⟩,λq=>q.2⟩
  rw[e];exact List.length_filter_le _ _
theorem zDR{s:Ai}(g:Iu s)(k:Aj):Cj s.ao k<=s.aw:=by
 by_cases h:∃c∈s.ao,c.aj=k
 ·obtain⟨c,hc,e⟩:=h;rw[<-e];exact g.last c hc
 ·rw[zAf λc hc e=>h ⟨c,hc,e⟩];exact g.floor.1
theorem zz1{r:AP}(hr:CK r=true)(k:r.az=1):(1<=r.af/\r.af<=100000)/\CK (Ef (Ll r))=true:=by unfold CK at hr;rw[if_pos k]at hr;simp only[Ab]at hr;obtain⟨a1,a2,a3,a4,a5,a6,a7,a8,_⟩:=hr;refine⟨E5.1 a2,?_⟩;unfold CK;rw[if_pos (show(Ef (Ll r)).az=1 from rfl)];simp only[Ab];exact⟨a1,a2,a3,a4,a5,a6,a7,a8,rfl⟩
theorem zBr{r:AP}(hr:CK r=true)(k:r.az=4):1<=r.af/\r.af<=100000:=by unfold CK at hr;rw[if_neg (by omega)]at hr;simp only[Ab]at hr;have h:=hr.2.2.2;rw[if_neg (by omega),if_pos k]at h;simp only[Ab]at h;exact E5.1 h.2.1
theorem zDo{r:AP}(hr:CK r=true)(k1:r.az≠1)(k4:r.az≠4):if r.bg=true then 1<=r.af/\r.af<=100000 else r.af=0:=by
 unfold CK at hr;rw[if_neg k1]at hr;simp only[Ab]at hr;have h:=hr.2.2.2;by_cases ME:r.az=2\/r.az=3
 ·rw[if_pos ME]at h;simp only[Ab]at h;have h:=h.2;cases hy:r.bg with
  |true=>rw[hy]at h;simp only[if_true]at h ⊢;exact E5.1 h
  |false=>rw[hy]at h;simpa using h
 ·rw[if_neg ME,if_neg k4]at h;cases h
theorem Kv{l:List AG}{t:Int}{h:AG}(hm:h∈FH l t):h∈l/\hk h≠t:=by obtain⟨a,b⟩:=List.mem_filter.1 hm;exact⟨a,by simpa using b⟩
theorem zCc{s s':Ai}{r:AP}(h:WS s)(g:Iu s)(hr:CK r=true)(e:Cm s r=some s'):Iu s':=by
 have hle:=zDR g;unfold Cm at e;split at e
 ·rename_i k4;have hb:=zBr hr k4;split at e
  ·rename_i hf;cases e;refine⟨by dsimp only;omega,g.cells,λx hx=> ?_,g.apart,g.room,λc hc=>by have:=g.last c hc;dsimp only;omega,λt ht=> ?_⟩
   ·obtain⟨a,b,c⟩:=g.single x hx;exact⟨a,by dsimp only;omega,c⟩
   ·obtain⟨a,b⟩:=g.told t ht;refine⟨?_,b⟩;split
    ·rename_i hy;rw[if_pos hy]at a;dsimp only;omega
    ·rename_i hy;rw[if_neg hy]at a;exact a
  ·cases e
 ·rename_i k4;split at e
  ·cases e
  ·rename_i C8;have Qq:=Sl C8;split at e
   ·rename_i k1;obtain⟨hb,hg⟩:=zz1 hr k1;split at e
    ·cases e
    ·rename_i FO;have pP:=VX FO;split at e
     ·cases e
     ·rename_i hf;split at e
      ·rename_i EP;cases e;unfold Lj at EP;simp only[Ab,Bc,List.any_eq_false]at EP;obtain⟨f1,_,f3⟩:=EP;refine⟨by dsimp only;omega,g.cells,λx hx=> ?_,?_,?_,λc hc=>by have:=g.last c hc;dsimp only;omega,λt ht=> ?_⟩
       ·rcases Jm.1 hx with q|q
        ·rw[q];exact⟨hg,Int.le_refl _,λw _=>by have:=hle w.aj;show Cj s.ao w.aj<r.af;omega⟩
        ·obtain⟨a,b,c⟩:=g.single x q;exact⟨a,by dsimp only;omega,c⟩
       ·exact rB (λa b q=>by rw[wV];exact q) g.apart λy hy=>show C4 y r.aq r.ae=false by simpa using f1 y hy
       ·refine nG f3 (λw hw hq=>⟨w,?_,hq⟩) λy hy=> ?_
        ·obtain⟨x,hx,O2⟩:=IT.1 hw;rcases Jm.1 hx with q|q
         ·rw[q]at O2;exact Ac.2 (.inl O2)
         ·exact Ac.2 (.inr (IT.2 ⟨x,q,O2⟩))
        ·unfold FY at*;rcases Ac.1 hy with q|q
         ·exact Ac.2 (.inl q)
         ·obtain⟨w,hw,rfl⟩:=List.mem_map.1 q;refine Ac.2 (.inr (List.mem_map.2 ⟨w,?_,rfl⟩));obtain⟨x,hx,O2⟩:=IT.1 hw;rcases Jm.1 hx with q|q
          ·rw[q]at O2;exact Ac.2 (.inl O2)
          ·exact Ac.2 (.inr (IT.2 ⟨x,q,O2⟩))
       ·obtain⟨a,b⟩:=g.told t ht;refine⟨?_,λx hx=> ?_⟩
        ·split
         ·rename_i hy;rw[if_pos hy]at a;dsimp only;omega
         ·rename_i hy;rw[if_neg hy]at a;exact a
        ·rcases Jm.1 hx with q|q
         ·rw[q];exact λe=>Qq t ht e.symm
         ·exact b x q
      ·cases e
   ·rename_i k1;have hd:=zDo hr k1 k4;have apart':(FH s.ab r.ah).Pairwise λg h=>C4 g h.aq h.ae=false:=List.Pairwise.filter _ g.apart;have newold:∀{fl:Int} {t:Bz},s.aw<=fl->(r.bg=true->r.af<=fl)->t∈KI s r->(if t.bg=true then 1<=t.af/\t.af<=fl else t.af=0)/\ ∀h∈FH s.ab r.ah,hk h≠t.ah:=λ{fl t} B5 Uw ht=>by
     rcases Jm.1 ht with q|q
     ·rw[q];refine⟨?_,λx hx=>(Kv hx).2⟩;dsimp only;split
      ·rename_i hy;rw[if_pos hy]at hd;exact⟨hd.1,Uw hy⟩
      ·rename_i hy;rw[if_neg hy]at hd;exact hd
     ·obtain⟨a,b⟩:=g.told t q;refine⟨?_,λx hx=>b x (Kv hx).1⟩;split
      ·rename_i hy;rw[if_pos hy]at a;omega
      ·rename_i hy;rw[if_neg hy]at a;exact a
    split at e
    ·rename_i FW;rw[if_pos FW]at hd;split at e
     ·cases e
     ·rename_i x hx;have qJ:=List.mem_of_find?_eq_some hx;have hxk:hk x=r.ah:=by simpa using List.find?_some hx
      split at e
      ·cases e
      ·split at e
       ·cases e
       ·rename_i o ho;cases e;unfold L2 at ho;split at ho
        ·rename_i p hp;split at ho
         ·rename_i TV;cases ho;have OW:=h.cells.1;have gf:=g.floor;have far:∀y∈FH s.ab r.ah,∀w∈y.ae,Ey o w.aj=Ey s.ao w.aj:=λy hy w hw=>by
           obtain⟨m1,m2⟩:=Kv hy;have BB:x≠y:=λe=>m2 (by rw[<-e];exact hxk);exact ZQ OW hp λz hz=>zxG (zEs (λa b q=>by rw[wV];exact q) g.apart qJ m1 BB) hw hz
          refine⟨by dsimp only;split<;>omega,TV,λy hy=> ?_,apart',?_,λc hc=> ?_,λt ht=>newold (by dsimp only;split<;>omega) (λ_=>by dsimp only;split<;>omega) ht⟩
          ·obtain⟨m1,m2⟩:=Kv hy;obtain⟨a,b,c⟩:=g.single y m1;refine⟨a,by dsimp only;split<;>omega,λw hw=> ?_⟩;have:=c w hw;unfold Cj at this ⊢;rw[far y hy w hw];exact this
          ·refine nG g.room (λw hw hq=> ?_) λy hy=> ?_
           ·obtain⟨z,hz,Nb⟩:=IT.1 hw;refine⟨w,IT.2 ⟨z,(Kv hz).1,Nb⟩,?_⟩;unfold GB at hq ⊢;rw[far z hz w Nb]at hq;exact hq
           ·unfold FY at*;rcases Ac.1 hy with q|q
            ·obtain⟨c,hc,rfl⟩:=List.mem_map.1 q;rcases zwO OW hp c hc with⟨d,hd,e⟩|⟨w,hw,e⟩
             ·exact Ac.2 (.inl (List.mem_map.2 ⟨d,hd,e⟩))
             ·exact Ac.2 (.inr (List.mem_map.2 ⟨w,IT.2 ⟨x,qJ,hw⟩,e⟩))
            ·obtain⟨w,hw,rfl⟩:=List.mem_map.1 q;obtain⟨z,hz,Nb⟩:=IT.1 hw;exact Ac.2 (.inr (List.mem_map.2 ⟨w,IT.2 ⟨z,(Kv hz).1,Nb⟩,rfl⟩))
          ·by_cases hw:∃w∈x.ae,w.aj=c.aj
           ·show Cj o c.aj<=_;rw[zxp OW hp hw];dsimp only;split<;>omega
           ·have e2:=ZQ (k:=c.aj) OW hp λw hx e=>hw ⟨w,hx,e⟩;have e3:Cj o c.aj=Cj s.ao c.aj:=by unfold Cj;rw[e2]
            have:=hle c.aj;show Cj o c.aj<=_;rw[e3];dsimp only;split<;>omega
         ·cases ho
        ·cases ho
    ·rename_i FW;cases e;refine⟨g.floor,g.cells,λy hy=>g.single y (Kv hy).1,apart',?_,g.last,λt ht=>newold (Int.le_refl _) (λhy=>absurd hy FW) ht⟩;refine nG g.room (λw hw hq=> ?_) λy hy=> ?_
     ·obtain⟨z,hz,Nb⟩:=IT.1 hw;exact⟨w,IT.2 ⟨z,(Kv hz).1,Nb⟩,hq⟩
     ·unfold FY at*;rcases Ac.1 hy with q|q
      ·exact Ac.2 (.inl q)
      ·obtain⟨w,hw,rfl⟩:=List.mem_map.1 q;obtain⟨z,hz,Nb⟩:=IT.1 hw;exact Ac.2 (.inr (List.mem_map.2 ⟨w,IT.2 ⟨z,(Kv hz).1,Nb⟩,rfl⟩))
theorem zxn{β:Type}{n:Nat}{body:Int->Option (Int ⊕ Option β)}(p:Nat->Bool)(b:β)(fin:Option β)
  (hs:∀i,i<n->(∀j,j<i->p j=true)->body (i:Int)=some (if p i=true then .inl ((i+1:Nat):Int)else .inr (some b)))
  (he:(∀j,j<n->p j=true)->body (n:Int)=some (.inr fin)):Az body 0=if(List.range n).all p=true then fin else some b:=by
 have key:∀(k q:Nat),q+k=n->(∀j,j<q->p j=true)->Az body (q:Int)=if(List.range' q k).all p=true then fin else some b:=by
  intro k
  induction k with
  |zero=>
   intro q hq hp;have:q=n:=by omega
   subst this;rw[EE,he hp];rfl
  |succ k ih=>
   intro q hq hp;rw[EE,hs q (by omega) hp,List.range'_succ,List.all_cons];cases hb:p q with
   |false=>simp
   |true=>
    have:=ih (q+1) (by omega) (λj hj=>by
     rcases Nat.lt_succ_iff_lt_or_eq.1 hj with h|h
     ·exact hp j h
     ·rw[h];exact hb)
    rw[if_pos rfl,Bool.true_and];exact this
 have:=key n 0 (by omega) (λj hj=>by omega);rw[List.range_eq_range'];exact this
def P5{α:Type}(key:α->Int)(l:List α):Nat->Bool
 |0=>true
 |j+1=>match l[j]?,l[j+1]? with
  |some a,some b=>decide (key a<key b)
  |_,_=>true
theorem PG{α:Type}{key:α->Int}{l:List α}{i:Nat}(hi:i<l.length)(h0:0<i):P5 key l i=decide (key l[i-1]<key l[i]):=by
 cases i with
 |zero=>omega
 |succ j=>
  show(match l[j]?,l[j+1]? with
   |some a,some b=>decide (key a<key b)
   |_,_=>true)=_
  rw[Br hi,Br (show j<l.length by omega)];rfl
theorem VK{α:Type}{key:α->Int}{l:List α}{i:Nat}(h0: ¬0<i):P5 key l i=true:=by
 have:i=0:=by omega
 subst this;rfl
theorem yI{α:Type}{key:α->Int}{l:List α}(h:∀i,i<l.length->P5 key l i=true):Cd key l:=by
 have aux:∀(d i:Nat) (hj:i+d+1<l.length),key (l[i]'(by omega))<key l[i+d+1]:=by
  intro d
  induction d with
  |zero=>intro i hj;have:=h (i+1) hj;rw[PG hj (by omega)]at this;simpa using this
  |succ d ih=>intro i hj;have h1:=ih i (by omega);have h2:=h (i+(d+1)+1) hj;rw[PG hj (by omega)]at h2;simp only[AI]at h2;exact Int.lt_trans h1 h2
 refine List.pairwise_iff_getElem.2 λi j hi hj Ei=> ?_;have:=aux (j-i-1) i (by omega);have e:i+(j-i-1)+1=j:=by omega
 simpa only[e]using this
theorem mE{l:List Ak}(hs:NV l)(h:E6 l=true):DG 24 l:=by unfold E6 at h;simp only[Ab,AI,A3]at h;obtain⟨h1,h2,h3⟩:=h;refine⟨(Ks (r:=S3) λa b c p q=>EF p q).1 h3,by omega,λc hc=> ?_⟩;have h:=h2 c hc;unfold GZ Jo at h;simp only[Ab]at h;have h4:=E5.1 h.2.1;refine⟨λe=> ?_,by omega,hs.2 c hc⟩;rw[e]at h4;simp at h4
theorem Z5{r:AP}(hs:F8 r)(h:CK r=true)(h1:r.az=1):F5 r:=by unfold CK at h;rw[if_pos h1]at h;simp only[Ab,AI]at h;obtain⟨a1,a2,a3,a4,a5,a6,a7,a8,a9⟩:=h;have b:=E5.1 a1;exact⟨by omega,by omega,uE a6,⟨by omega,hs.writes.2⟩,λh=>absurd h1 h,λ_=>b⟩
def I3(s:Ai)(i:Nat):Bool:=MH s i&&P5 hk s.ab i
def LZ(s:Ai)(i:Nat):Bool:=P5 tk s.au i&&(match s.au[i]? with|some t=>BJ t.ah 1 60&&IP s t|none=>true)
def Ky(s:Ai):Bool:=(List.range s.ab.length).all (I3 s)&&(decide (s.ab.length<=12)&&Ip s.ao (Dt s.ab))
def HH(s:Ai):Bool:=BJ s.aw 0 100000&&(E6 s.ao&&(Ky s&&(decide (s.au.length<=60)&&(s.ao.all (GH s)&&(List.range s.au.length).all (LZ s)))))
structure IY(s:Ai):Prop where
 cells:NV s.ao
 gl:s.ab.length<=2000000
 held:∀x∈s.ab,F8 (Ef x)
 kt:s.au.length<=2000000
theorem nW{s:Ai}(h:IY s){i:Nat}(hi:i<s.ab.length)(ha:I3 s i=true):F5 (Ef s.ab[i]):=by unfold I3 at ha;rw[PW hi]at ha;simp only[Ab]at ha;exact Z5 (h.held _ (Ay hi)) ha.1.1 rfl
theorem Ww{x:AG}(h:F5 (Ef x)):HD x/\NO x.ae:=⟨⟨h.reads,h.writes,h.di⟩,h.small⟩
theorem V7{s:Ai}(h:IY s)(ha:∀i,i<s.ab.length->I3 s i=true):Cd hk s.ab/\(s.ab.length<=60/\ ∀x∈s.ab,HD x/\NO x.ae):=by
 have hr:Cd hk s.ab:=yI λi hi=>by have:=ha i hi;unfold I3 at this;rw[Ab]at this;exact this.2
 have ho:∀x∈s.ab,F5 (Ef x):=λx hx=>by obtain⟨i,hi,rfl⟩:=List.mem_iff_getElem.1 hx;exact nW h hi (ha i hi)
 have:=Cd.len (lo:=1) (hi:=60) hr λx hx=>(ho x hx).mh (by show(1:Int)≠4;omega);exact⟨hr,by omega,λx hx=>Ww (ho x hx)⟩
abbrev ik(n:Int):Int:=n
theorem yT:∀{a b:List Int},Cd ik a->Cd ik b->(∀y,y∈a↔y∈b)->a=b
 | [],[],_,_,_=>rfl
 | [],y::b,_,_,h=>by have:=(h y).2 (by simp);simp at this
 |x::a,[],_,_,h=>by have:=(h x).1 (by simp);simp at this
 |x::a,y::b,ha,hb,h=>by
  have h1:=List.pairwise_cons.1 ha;have h2:=List.pairwise_cons.1 hb;have e:x=y:=by
   rcases Ae.1 ((h x).1 (by simp))with q|q
   ·exact q
   ·rcases Ae.1 ((h y).2 (by simp))with p|p
    ·exact p.symm
    ·have i1:y<x:=h2.1 x q;have i2:x<y:=h1.1 y p;omega
  subst e;rw[yT h1.2 h2.2 λz=> ?_];have hz:=h z;simp only[Ae]at hz;constructor
  ·intro q;rcases hz.1 (.inr q)with p|p
   ·have:x<z:=h1.1 z q;omega
   ·exact p
  ·intro q;rcases hz.2 (.inr q)with p|p
   ·have:x<z:=h2.1 z q;omega
   ·exact p
theorem zti{zs:List Int}(h:zs.Pairwise λa b=>a<=b):Cd ik (Lib.compact zs)/\ ∀y,y∈Lib.compact zs↔y∈zs:=by
 have get:∀j (hj:j<zs.length),(zs.toArray[j]!)=zs[j]:=λj hj=>by rw[getElem!_pos _ j (by simpa using hj)];simp
 have le:∀i j (hi:i<zs.length) (hj:j<zs.length),i<=j->zs[i]<=zs[j]:=λi j hi hj Ei=>by
  rcases Nat.lt_or_ge i j with k|k
  ·exact(List.pairwise_iff_getElem.1 h) i j hi hj k
  ·have:i=j:=by omega
   subst this;exact Int.le_refl _
 unfold Lib.compact Lib.compactUpTo;constructor
 ·unfold Cd;rw[List.pairwise_map];have hp:(List.range zs.length).Pairwise (· < ·):=List.pairwise_lt_range;have:=List.Pairwise.filter (Lib.keeps zs.toArray) hp;refine List.Pairwise.imp_of_mem ?_ this;intro i j hi hj Ei;have JU:=(List.mem_filter.1 hj).2;have HX:j<zs.length:=by simpa using(List.mem_filter.1 hj).1
  have BB:zs[j]'HX≠zs[j-1]'(by omega):=by
   unfold Lib.keeps at JU;simp only[AI]at JU;rcases JU with k|k
   ·omega
   ·rw[get j HX,get (j-1) (by omega)]at k;exact k
  rw[get i (by omega),get j HX];have h1:=le i (j-1) (by omega) (by omega) (by omega);have h2:=le (j-1) j (by omega) HX (by omega);show(zs[i]'(by omega))<(zs[j]'HX);omega
 ·intro y;constructor
  ·intro hy;obtain⟨j,hj,rfl⟩:=List.mem_map.1 hy;have Ax:j<zs.length:=by simpa using(List.mem_filter.1 hj).1
   rw[get j Ax];exact Ay _
  ·intro hy;obtain⟨i,hi,rfl⟩:=List.getElem_of_mem hy
   induction i using Nat.strongRecOn with
   |_ i ih=>
    by_cases hk:Lib.keeps zs.toArray i=true
    ·exact List.mem_map.2 ⟨i,List.mem_filter.2 ⟨by simpa using hi,hk⟩,get i hi⟩
    ·unfold Lib.keeps at hk;simp only[AI,not_or,Classical.not_not]at hk;have e:zs[i]=zs[i-1]'(by omega):=by
      have:=hk.2;rw[get i hi,get (i-1) (by omega)]at this;exact this
     rw[e];exact ih (i-1) (by omega) (by omega) (Ay _)
def HC(n:Int)(l:List Int):List Int:=if n∈l then l else DN ik n l
theorem zQ{n y:Int}{l:List Int}:y∈HC n l↔y=n\/y∈l:=by
 unfold HC;split
 ·constructor
  ·exact .inr
  ·rintro(rfl|h)
   ·assumption
   ·exact h
 ·exact Jm
theorem mA{n:Int}{l:List Int}(h:Cd ik l):Cd ik (HC n l):=by
 unfold HC;split
 ·exact h
 ·rename_i hn;exact Cd.ins h λy hy e=>hn (by have e:y=n:=e;rw[<-e];exact hy)
theorem lO:∀(ns o:List Int),Cd ik o->Cd ik (ns.foldl (λo n=>HC n o) o)/\ ∀y,y∈ns.foldl (λo n=>HC n o) o↔y∈ns\/y∈o
 | [],o,h=>⟨h,by simp⟩
 |n::ns,o,h=>by obtain⟨h1,h2⟩:=lO ns (HC n o) (mA h);refine⟨h1,λy=> ?_⟩;rw[List.foldl_cons,h2,zQ,Ae,or_assoc,or_left_comm]
def DB(cuts:List Aj)(k:Aj):Nat:=(cuts.filter λc=> !bl k c).length
theorem zAt{a b:Aj}(h:bl a b=true):Ji a b:=NJ h
theorem zyy{cuts:List Aj}{a b:Aj}(h:Ji a b):DB cuts a<=DB cuts b:=by unfold DB;rw[<-List.countP_eq_length_filter,<-List.countP_eq_length_filter];refine List.countP_mono_left λc _ hc=> ?_;simp only[Bc]at hc ⊢;exact zAx hc h
theorem zxe(cuts:List Aj)(k:Aj):DB cuts k<=cuts.length:=List.length_filter_le _ _
theorem yM:∀{cuts:List Aj} {k:Aj},Em cuts->DB cuts k=AF (λc=> !bl k c) cuts
 | [],_,_=>rfl
 |c::cuts,k,h=>by
  have h1:=List.pairwise_cons.1 h;have ih:=yM (k:=k) h1.2;unfold DB AF at ih ⊢;rw[List.filter_cons,List.takeWhile_cons];cases hb:bl k c with
  |false=>simpa using ih
  |true=>
   have:(cuts.filter λc=> !bl k c)=[]:=List.filter_eq_nil_iff.2 λd hd=>by rw[EF hb (h1.1 d hd)];simp
   simp[this]
def DK(rs:List Aj)(ws:List Ap):List Aj:=(rs++ws.map En).foldl (λo k=>C6 k o) []
def IW(cuts rs:List Aj)(ws:List Ap):List Int:=((DK rs ws).map λk=>(DB cuts k:Int)).foldl (λo n=>HC n o) []
theorem VZ(rs:List Aj)(ws:List Ap):Em (DK rs ws)/\(∀y,y∈DK rs ws↔y∈rs\/ ∃w∈ws,w.aj=y)/\(DK rs ws).length<=rs.length+ws.length:=by obtain⟨h1,h2,h3⟩:=NI (rs++ws.map En) [] List.Pairwise.nil;refine⟨h1,λy=> ?_,by unfold DK;simpa using h3⟩;unfold DK;rw[h2];simp[En]
theorem zsT(cuts rs:List Aj)(ws:List Ap):Lib.compact ((DK rs ws).map λk=>(DB cuts k:Int))=IW cuts rs ws:=by
 obtain⟨h1,_,_⟩:=VZ rs ws;have hp:((DK rs ws).map λk=>(DB cuts k:Int)).Pairwise λa b=>a<=b:=by rw[List.pairwise_map];exact h1.imp λ{a b} h=>Int.ofNat_le.2 (zyy (zAt h))
 obtain⟨a1,a2⟩:=zti hp;obtain⟨b1,b2⟩:=lO ((DK rs ws).map λk=>(DB cuts k:Int)) [] List.Pairwise.nil;exact yT a1 b1 λy=>by rw[a2];have:=b2 y;simp only[List.not_mem_nil,or_false]at this;exact this.symm
theorem VS(cuts rs:List Aj)(ws:List Ap):Cd ik (IW cuts rs ws)/\ ∀y,y∈IW cuts rs ws↔(∃k∈rs,(DB cuts k:Int)=y)\/ ∃w∈ws,(DB cuts w.aj:Int)=y:=by
 obtain⟨b1,b2⟩:=lO ((DK rs ws).map λk=>(DB cuts k:Int)) [] List.Pairwise.nil;obtain⟨_,h2,_⟩:=VZ rs ws;refine⟨b1,λy=> ?_⟩;unfold IW;rw[b2];simp only[List.mem_map,List.not_mem_nil,or_false];constructor
 ·rintro⟨k,hk,e⟩;rcases(h2 k).1 hk with q|⟨w,hw,q⟩
  ·exact .inl ⟨k,q,e⟩
  ·exact .inr ⟨w,hw,by rw[q];exact e⟩
 ·rintro(⟨k,hk,e⟩|⟨w,hw,e⟩)
  ·exact⟨k,(h2 k).2 (.inl hk),e⟩
  ·exact⟨w.aj,(h2 _).2 (.inr ⟨w,hw,rfl⟩),e⟩
theorem zyk(cuts rs:List Aj)(ws:List Ap):(IW cuts rs ws).length<=cuts.length+1/\ ∀y∈IW cuts rs ws,0<=y/\y<=cuts.length:=by
 obtain⟨h1,h2⟩:=VS cuts rs ws;have hb:∀y∈IW cuts rs ws,0<=y/\y<=cuts.length:=λy hy=>by
  rcases(h2 y).1 hy with⟨k,_,rfl⟩|⟨w,_,rfl⟩
  ·have:=zxe cuts k;omega
  ·have:=zxe cuts w.aj;omega
 have:=Cd.len (lo:=0) (hi:=cuts.length) h1 hb;exact⟨by omega,hb⟩
theorem NQ{n:Nat}{p:Nat->Bool}(ha:(List.range n).all p=true):∀i,i<n->p i=true:=λi hi=>A3.1 ha i (List.mem_range.2 hi)
theorem zzn{s:Ai}(hc:DG 24 s.ao)(h:IY s):QS s=some (Ky s):=by
 have hl:=h.gl;unfold QS;rw[zxn (n:=s.ab.length) (body:=λi=>Kh s i) (I3 s) false (UO s) (λi hi hp=> ?_) (λ_=>by show Kh s (s.ab.length:Int)=_;unfold Kh;rw[if_neg (by simp)])]
 ·unfold UO Ky;by_cases ha:(List.range s.ab.length).all (I3 s)=true
  ·obtain⟨_,oW,ho⟩:=V7 h (NQ ha);rw[if_pos ha,ha,oD hc oW λx hx=>(ho x hx).1,Aa,Bool.true_and]
  ·rw[if_neg ha,Bool.eq_false_iff.2 ha,Bool.false_and]
 ·have hx:=Ay hi;show Kh s (i:Int)=_;unfold Kh I3;rw[PW hi,if_pos (by simpa using hi),AJ hi,Aa,show RH s.ab[i]=some (Ef s.ab[i])from rfl,Aa,nU (h.held _ hx),Aa];cases hg:CK (Ef s.ab[i])with
  |false=>
   by_cases hp:0<i
   ·rw[if_pos (by simp;omega)];rfl
   ·rw[if_neg (by simp;omega)];rfl
  |true=>
   obtain⟨⟨o1,o2,o3⟩,o4⟩:=Ww (Z5 (h.held _ hx) hg rfl);have e1:D4 (A6 s.ab 0 (i:Int)) (λy0_=>Pg y0_ s.ab[i])=some ((s.ab.take i).any λg=>C4 g s.ab[i].aq s.ab[i].ae):=by rw[Ku];refine Kx _ (λg hgm=> ?_) (by rw[Ar];omega);obtain⟨j,hj,rfl⟩:=List.mem_iff_getElem.1 hgm;rw[Ar]at hj;rw[List.getElem_take];obtain⟨⟨g1,g2,g3⟩,_⟩:=Ww (nW h (show j<s.ab.length by omega) (hp j (by omega)));unfold Pg R7 C4;rw[Se (by omega) (by omega) (by omega) g3,Aa,Se (by omega) (by omega) (by omega) o3,Aa];cases B9 s.ab[i].ae s.ab[j].aq s.ab[j].ae<;>cases B9 s.ab[j].ae s.ab[i].aq s.ab[i].ae<;>rfl
   have e2:D4 s.ab[i].ae (λy0_=>Pb y0_ s.ab[i] s)=some (s.ab[i].ae.any λw=>decide (s.ab[i].af<=Cj s.ao w.aj)):=by refine Kx _ (λw _=> ?_) (by omega);unfold Pb;rw[Wq (n:=24) (by omega) hc];rfl
   have rq:0<=(0:Int)/\(0:Int)<=(i:Int)/\(i:Int)<=(s.ab.length:Int):=by omega
   rw[e1,e2,Be (by omega)];generalize (s.ab.take i).any (λg=>C4 g s.ab[i].aq s.ab[i].ae)=A;generalize s.ab[i].ae.any (λw=>decide (s.ab[i].af<=Cj s.ao w.aj))=B;by_cases hp:0<i
   ·rw[if_pos (by simp;omega),NP hi hp (by omega),if_pos rfl,PG hi hp,Aa,A7 rq,Aa,Aa];by_cases ht:s.ab[i].af<=s.aw
    ·rw[if_neg (by simp;omega)];by_cases hr:hk s.ab[i-1]<hk s.ab[i]
     ·have CJ: ¬s.ab[i].ah<=s.ab[i-1].ah:=Int.not_le.2 hr;rw[if_neg (by simpa using CJ)];cases A<;>cases B<;>simp[ht,hr]
     ·have CJ:s.ab[i].ah<=s.ab[i-1].ah:=Int.not_lt.1 hr;rw[if_pos (by simpa using CJ)];simp[hr]
    ·rw[if_pos (by simp;omega)];simp[ht]
   ·rw[if_neg (by simp;omega),VK hp,A7 rq,Aa,Aa];by_cases ht:s.ab[i].af<=s.aw
    ·rw[if_neg (by simp;omega)];cases A<;>cases B<;>simp[ht]
    ·rw[if_pos (by simp;omega)];simp[ht]
theorem zyT{s:Ai}(hc:DG 24 s.ao)(h:IY s):R4 s=some (Ky s):=by
 have hl:=h.gl;unfold R4;rw[zxn (n:=s.ab.length) (body:=λi=>Km s i) (I3 s) false (U4 s) (λi hi hp=> ?_) (λ_=>by show Km s (s.ab.length:Int)=_;unfold Km;rw[if_neg (by simp)])]
 ·unfold U4 Ky;by_cases ha:(List.range s.ab.length).all (I3 s)=true
  ·obtain⟨_,oW,ho⟩:=V7 h (NQ ha);rw[if_pos ha,ha,Bool.true_and];by_cases FJ:s.ab.length<=12
   ·rw[if_pos (by simp;omega),oH hc FJ (λx hx=>(ho x hx).1) (by simp),Aa,List.nil_append];simp[FJ]
   ·rw[if_neg (by simp;omega)];simp[FJ]
  ·rw[if_neg ha,Bool.eq_false_iff.2 ha,Bool.false_and]
 ·have hx:=Ay hi;show Km s (i:Int)=_;unfold Km I3;rw[PW hi,if_pos (by simpa using hi),AJ hi,Aa,show Po s.ab[i]=some (Ef s.ab[i])from rfl,Aa,aC (h.held _ hx),Aa];cases hg:CK (Ef s.ab[i])with
  |false=>
   by_cases hp:0<i
   ·rw[if_pos (by simp;omega)];rfl
   ·rw[if_neg (by simp;omega)];rfl
  |true=>
   obtain⟨⟨o1,o2,o3⟩,o4⟩:=Ww (Z5 (h.held _ hx) hg rfl);have t5:K0 s (i:Int) s.ab[i]=some (if(s.ab[i].ae.all λw=> !decide (s.ab[i].af<=Cj s.ao w.aj))=true then .inl ((i+1:Nat):Int)else .inr (some false)):=by
    unfold K0;rw[GY (xs:=s.ab[i].ae) (body:=λj=>Kc s (i:Int) s.ab[i] j) (λw=> !decide (s.ab[i].af<=Cj s.ao w.aj)) (.inr (some false)) (U3 (i:Int)) (λj hj=>by
     show Kc s (i:Int) s.ab[i] (j:Int)=_;unfold Kc;rw[if_pos (by simpa using hj),AJ hj,Aa,SH (n:=24) (by omega) hc,Aa,Be (by omega)];by_cases hq:s.ab[i].af<=Cj s.ao (s.ab[i].ae[j]).aj
     ·rw[if_pos (by simpa using hq)];simp[hq]
     ·rw[if_neg (by simpa using hq)];simp[hq]) (by
     show Kc s (i:Int) s.ab[i] (s.ab[i].ae.length:Int)=_;unfold Kc;rw[if_neg (by simp)])]
    unfold U3;rw[Be (by omega)];split<;>rfl
   have t9:Rx s (i:Int) s.ab[i]=K0 s (i:Int) s.ab[i]:=rfl;have t6:Az (λj:Int=>Jj s (i:Int) s.ab[i] j) 0=if((s.ab.take i).all λg=> !C4 g s.ab[i].aq s.ab[i].ae)=true then K0 s (i:Int) s.ab[i]else some (.inr (some false)):=by
    refine GY (xs:=s.ab.take i) (λg=> !C4 g s.ab[i].aq s.ab[i].ae) (.inr (some false)) (K0 s (i:Int) s.ab[i]) (λj hj=> ?_) ?_
    ·rw[Ar]at hj;obtain⟨og,_⟩:=Ww (nW h (show j<s.ab.length by omega) (hp j (by omega)));show Jj s (i:Int) s.ab[i] (j:Int)=_;unfold Jj;rw[Ku,if_pos (by rw[Ar];simp;omega),AJ (by rw[Ar];omega),Aa,List.getElem_take,Z1 og (by omega) (by omega),Aa,Be (by omega)];cases C4 s.ab[j] s.ab[i].aq s.ab[i].ae<;>rfl
    ·show Jj s (i:Int) s.ab[i] ((s.ab.take i).length:Int)=_;unfold Jj;rw[Ku,if_neg (by simp)]
   have t10:Az (λj:Int=>Pc s (i:Int) s.ab[i] j) 0=Az (λj:Int=>Jj s (i:Int) s.ab[i] j) 0:=rfl;have rq:0<=(0:Int)/\(0:Int)<=(i:Int)/\(i:Int)<=(s.ab.length:Int):=by omega
   rw[t10,t6,t5,List.not_any_eq_all_not,List.not_any_eq_all_not];generalize ((s.ab.take i).all λg=> !C4 g s.ab[i].aq s.ab[i].ae)=A;generalize (s.ab[i].ae.all λw=> !decide (s.ab[i].af<=Cj s.ao w.aj))=B;by_cases hp:0<i
   ·rw[if_pos (by simp;omega),NP hi hp (by omega),if_pos rfl,PG hi hp,Aa,A7 rq];by_cases ht:s.ab[i].af<=s.aw
    ·rw[if_neg (by simp;omega)];by_cases hr:hk s.ab[i-1]<hk s.ab[i]
     ·have CJ: ¬s.ab[i-1].ah>=s.ab[i].ah:=Int.not_le.2 hr;rw[if_neg (by simpa using CJ)];cases A<;>cases B<;>simp[ht,hr]
     ·have CJ:s.ab[i-1].ah>=s.ab[i].ah:=Int.not_lt.1 hr;rw[if_pos (by simpa using CJ)];simp[hr]
    ·rw[if_pos (by simp;omega)];simp[ht]
   ·rw[if_neg (by simp;omega),VK hp,A7 rq];by_cases ht:s.ab[i].af<=s.aw
    ·rw[if_neg (by simp;omega)];cases A<;>cases B<;>simp[ht]
    ·rw[if_pos (by simp;omega)];simp[ht]
theorem SJ{s:Ai}{i:Nat}(hi:i<s.au.length):LZ s i=(P5 tk s.au i&&(BJ s.au[i].ah 1 60&&IP s s.au[i])):=by unfold LZ;rw[Br hi]
theorem zBl{s:Ai}(hr:Cd hk s.ab)(hl:s.ab.length<=60)(ht:s.au.length<=60):Q9 s=some ((List.range s.au.length).all (LZ s)):=by
 unfold Q9;rw[K3 (n:=s.au.length) (body:=λi=>Kg s i) (LZ s) false (some true) (λi hi=> ?_) (by show Kg s (s.au.length:Int)=_;unfold Kg;rw[if_neg (by simp)])]
 ·cases(List.range s.au.length).all (LZ s)<;>rfl
 ·show Kg s (i:Int)=_;unfold Kg;rw[SJ hi];unfold IP;rw[if_pos (by simpa using hi),AJ hi,Aa,aJ,SA (s:=s) (t:=s.au[i].ah) (by omega) hr,PK,Be (by omega)];simp only[Aa];generalize (Cq s s.au[i].ah).isSome=H;generalize BJ s.au[i].af 1 s.aw=V;generalize BJ s.au[i].ah 1 60=X;generalize (s.au[i].af==0)=T;by_cases hp:0<i
  ·have e1:decide ((i:Int)>0)=true:=by simp;omega
   have e0:decide (s.au[i].ah<=s.au[i-1].ah)= !decide (tk s.au[i-1]<tk s.au[i]):=by rw[<-decide_not];exact decide_eq_decide.2 Int.not_lt.symm
   rw[NP hi hp (by omega),PG hi hp];simp only[Aa,e0,e1,if_true];generalize decide (tk s.au[i-1]<tk s.au[i])=R;cases s.au[i].bg<;>cases V<;>cases T<;>cases H<;>cases X<;>cases R<;>rfl
  ·have e1:decide ((i:Int)>0)=false:=by simp;omega
   rw[VK hp];simp only[e1,Ba,if_false];cases s.au[i].bg<;>cases V<;>cases T<;>cases H<;>cases X<;>rfl
theorem zCj{s:Ai}(hl:s.ab.length<=60)(ht:s.au.length<=60):RD s=some ((List.range s.au.length).all (LZ s)):=by
 unfold RD;rw[K3 (n:=s.au.length) (body:=λi=>Kk s i) (LZ s) false (some true) (λi hi=> ?_) (by show Kk s (s.au.length:Int)=_;unfold Kk;rw[if_neg (by simp)])]
 ·cases(List.range s.au.length).all (LZ s)<;>rfl
 ·show Kk s (i:Int)=_;unfold Kk;rw[SJ hi];unfold IP;obtain⟨P,p1,p2⟩:∃P,Kn s s.au[i].ah=some P/\P.2=(Cq s s.au[i].ah).isSome:=by
   rw[ZH (by omega)];cases Cq s s.au[i].ah with
   |none=>exact⟨_,rfl,rfl⟩
   |some x=>exact⟨_,rfl,rfl⟩
  rw[if_pos (by simpa using hi),AJ hi,Aa,p1,Be (by omega)];simp only[NT,Aa,p2,bne];generalize (Cq s s.au[i].ah).isSome=H;generalize BJ s.au[i].af 1 s.aw=V;generalize BJ s.au[i].ah 1 60=X;generalize (s.au[i].af==0)=T;by_cases hp:0<i
  ·have e1:decide ((i:Int)>0)=true:=by simp;omega
   have e0:decide (s.au[i-1].ah>=s.au[i].ah)= !decide (tk s.au[i-1]<tk s.au[i]):=by rw[<-decide_not];exact decide_eq_decide.2 Int.not_lt.symm
   rw[NP hi hp (by omega),PG hi hp];simp only[Aa,e0,e1,if_true];generalize decide (tk s.au[i-1]<tk s.au[i])=R;cases s.au[i].bg<;>cases V<;>cases T<;>cases H<;>cases X<;>cases R<;>rfl
  ·have e1:decide ((i:Int)>0)=false:=by simp;omega
   rw[VK hp];simp only[e1,Ba,if_false];cases s.au[i].bg<;>cases V<;>cases T<;>cases H<;>cases X<;>rfl
theorem zB4{s:Ai}(h:IY s):Ru s=some (HH s):=by
 unfold Ru HH;rw[show RZ s.aw=some (BJ s.aw 0 100000)from rfl,Aa];cases BJ s.aw 0 100000 with
 |false=>rfl
 |true=>
  rw[if_pos rfl,mY h.cells,Aa];cases TV:E6 s.ao with
  |false=>rfl
  |true=>
   have hc:=mE h.cells TV;have Aw:=hc.2.1;rw[if_pos rfl,zzn hc h,Aa];cases hh:Ky s with
   |false=>rfl
   |true=>
    unfold Ky at hh;simp only[Ab]at hh;obtain⟨hr,hl,_⟩:=V7 h (NQ hh.1);by_cases ht:s.au.length<=60
    ·rw[if_neg (by simp;omega),GY (xs:=s.ao) (body:=λi=>Kf s i) (GH s) false (Q9 s) (λi hi=> ?_) (by
      show Kf s (s.ao.length:Int)=_;unfold Kf;rw[if_neg (by simp)]),zBl hr hl ht,decide_eq_true ht]
     ·cases s.ao.all (GH s)<;>rfl
     ·show Kf s (i:Int)=_;unfold Kf GH;rw[if_pos (by simpa using hi),AJ hi,Aa,Wq (n:=24) (by omega) hc,Aa,Be (by omega)];by_cases hq:Cj s.ao (s.ao[i]).aj<=s.aw
      ·rw[if_neg (by simp;omega)];simp[hq]
      ·rw[if_pos (by simp;omega)];simp[hq]
    ·rw[if_pos (by simp;omega),decide_eq_false ht];rfl
theorem zBt{s:Ai}(h:IY s):Ma s=some (HH s):=by
 unfold Ma HH;rw[show Pu s.aw=some (BJ s.aw 0 100000)from rfl,Aa];cases BJ s.aw 0 100000 with
 |false=>rfl
 |true=>
  rw[if_pos rfl,mC h.cells,Aa];cases TV:E6 s.ao with
  |false=>rfl
  |true=>
   have hc:=mE h.cells TV;have Aw:=hc.2.1;rw[if_pos rfl,zyT hc h,Aa];cases hh:Ky s with
   |false=>rfl
   |true=>
    unfold Ky at hh;simp only[Ab]at hh;obtain⟨hr,hl,_⟩:=V7 h (NQ hh.1);by_cases ht:s.au.length<=60
    ·rw[if_neg (by simp;omega),GY (xs:=s.ao) (body:=λi=>Kl s i) (GH s) false (RD s) (λi hi=> ?_) (by
      show Kl s (s.ao.length:Int)=_;unfold Kl;rw[if_neg (by simp)]),zCj hl ht,decide_eq_true ht]
     ·cases s.ao.all (GH s)<;>rfl
     ·show Kl s (i:Int)=_;unfold Kl GH;rw[if_pos (by simpa using hi),AJ hi,Aa,SH (n:=24) (by omega) hc,Aa,Be (by omega)];by_cases hq:Cj s.ao (s.ao[i]).aj<=s.aw
      ·rw[if_neg (by simp;omega)];simp[hq]
      ·rw[if_pos (by simp;omega)];simp[hq]
    ·rw[if_pos (by simp;omega),decide_eq_false ht];rfl
theorem zDd{s:Ai}(h:IY s)(g:HH s=true):WS s/\Iu s:=by
 unfold HH Ky at g;simp only[Ab,AI]at g;obtain⟨g1,g2,⟨g3,g4,g5⟩,g6,g7,g8⟩:=g;have BZ:=NQ g3;have tall:=NQ g8;obtain⟨hr,hl,ho⟩:=V7 h BZ;refine⟨⟨mE h.cells g2,g4,hr,ho,yI λi hi=> ?_,λt ht=> ?_⟩,ZO.1 ?_⟩
 ·have:=tall i hi;rw[SJ hi,Ab]at this;exact this.1
 ·obtain⟨i,hi,rfl⟩:=List.mem_iff_getElem.1 ht;have:=tall i hi;rw[SJ hi]at this;simp only[Ab]at this;exact E5.1 this.2.1
 ·unfold N4 K8;simp only[Ab,A3];refine⟨g1,g2,⟨λi hi=> ?_,g5⟩,A3.1 g7,λt ht=> ?_⟩
  ·have:=BZ i (List.mem_range.1 hi);unfold I3 at this;rw[Ab]at this;exact this.1
  ·obtain⟨i,hi,rfl⟩:=List.mem_iff_getElem.1 ht;have:=tall i hi;rw[SJ hi]at this;simp only[Ab]at this;exact this.2.2
theorem rV{xs:List Int}{k:Int}(h:xs.length<=2000000):VE xs k=some (xs.any (· ==k)):=by
 unfold VE;rw[GY (xs:=xs) (body:=λi=>RN xs k i) (λx=> !(x==k)) true (some false) (λi hi=>by
  show RN xs k (i:Int)=_;unfold RN;rw[if_pos (by simpa using hi),AJ hi,Aa,Be (by omega)];cases xs[i]==k<;>rfl) (by
  show RN xs k (xs.length:Int)=_;unfold RN;rw[if_neg (by simp)])]
 rw[<-List.not_any_eq_all_not];cases xs.any (· ==k)<;>rfl
theorem vY{xs:List Int}{k:Int}(h:xs.length<=2000000):UQ xs k=some (xs.any (· ==k)):=by
 unfold UQ gJ;rw[Z8 (xs:=xs) (body:=λi=>QJ xs k i) (λx=>x==k) (λi hi=>by
  show QJ xs k (i:Int)=_;unfold QJ;rw[if_pos (by simpa using hi),AJ hi,Aa,Be (by omega),show(k==xs[i])=(xs[i]==k)from BEq.comm];cases xs[i]==k<;>rfl) (by
  show QJ xs k (xs.length:Int)=_;unfold QJ;rw[if_neg (by simp)]),Aa,mD]
theorem zyG{rs:List Aj}{ws:List Ap}(hr:rs.length<=100)(hw:ws.length<=100):Y7 rs ws=some (DK rs ws):=by
 unfold Y7;have e1:IQ rs=some rs:=Jn (by omega) (by omega);rw[e1,Aa,wT (by omega),Aa,A7 (by simp[RM];omega)];unfold QL QK;rw[A7 (by rw[AH,List.length_map];omega),Aa];obtain⟨g1,g2,_⟩:=NI (rs++ws.map En) [] List.Pairwise.nil;have e:=vE (xs:=rs++ws.map En) g1 λy=>by rw[g2];simp
 show some (Lib.compact (GA (rs++ws.map En)))=_;rw[e];rfl
theorem x6{rs:List Aj}{ws:List Ap}(hr:rs.length<=100)(hw:ws.length<=100):YS rs ws=some (DK rs ws):=by
 have k1:∀o:List Aj,Em o->o.length<=rs.length->iN ws o=some (ws.foldl (λo w=>C6 (En w) o) o):=λo ho hl=>by
  refine(E7 (xs:=ws) (body:=λz:List Aj × Int=>Q2 ws z.1 z.2) (λi z=>(z,i)) (λo w=>C6 (En w) o) (λo=>some o) (λi o=>Em o/\o.length<=rs.length+i)
   (λi hi o ho=>by refine⟨?_,PD ho.1,by have:=Sw (En ws[i]) o;omega⟩;show Q2 ws o (i:Int)=_;unfold Q2;rw[if_pos (by simpa using hi),AJ hi,Aa,SI (by omega) ho.1,Aa,Be (by omega)];rfl)
   (λo ho=>by show Q2 ws o (ws.length:Int)=_;unfold Q2;rw[if_neg (by simp)]) (s:=o) ⟨ho,by omega⟩).1
 obtain⟨a,b⟩:=E7 (xs:=rs) (body:=λz:List Aj × Int=>Q3 rs ws z.1 z.2) (λi z=>(z,i)) (λo k=>C6 k o) (λo=>iN ws o) (λi o=>Em o/\o.length<=i)
  (λi hi o ho=>by refine⟨?_,PD ho.1,by have:=Sw rs[i] o;omega⟩;show Q3 rs ws o (i:Int)=_;unfold Q3;rw[if_pos (by simpa using hi),AJ hi,Aa,SI (by omega) ho.1,Aa,Be (by omega)])
  (λo ho=>by show Q3 rs ws o (rs.length:Int)=_;unfold Q3;rw[if_neg (by simp)]) (s:=[]) ⟨List.Pairwise.nil,by simp⟩
 refine a.trans ?_;rw[k1 _ b.1 b.2];unfold DK;rw[List.foldl_append,List.foldl_map]
theorem fE(c k:Aj):(Op.bytesLess c k||c==k)= !bl k c:=by
 rcases WA c k with h|h|h
 ·rw[show Op.bytesLess c k=true from h,NJ h];rfl
 ·subst h;rw[Kr];simp
 ·have h1:=NJ h;have h2:(c==k)=false:=by simpa using λe=>Ik h e.symm
  rw[show Op.bytesLess c k=false from h1,h2,h];rfl
theorem yK(k:Aj):∀(cuts:List Aj) (n:Int),cuts.foldl (λn c=>if(!bl k c)=true then n+1 else n) n=n+DB cuts k
 | [],n=>by simp[DB]
 |c::cuts,n=>by rw[List.foldl_cons,yK k cuts];unfold DB;rw[List.filter_cons];cases bl k c<;>simp<;>omega
theorem lT{cuts:List Aj}{k:Aj}(hl:cuts.length<=1000):Vq cuts k=some (DB cuts k:Int):=by
 refine((E7 (xs:=cuts) (body:=λz:Int × Int=>Rl cuts k z.1 z.2) (λi z=>(z,i)) (λn c=>if(!bl k c)=true then n+1 else n) (λn=>some n) (λi n=>0<=n/\n<=i)
  (λi hi n hn=>by refine⟨?_,by split<;>omega⟩;show Rl cuts k n (i:Int)=_;unfold Rl;rw[if_pos (by simpa using hi),AJ hi,Aa,fE,Be (by omega),show IntKind.i64.wrap (n+1)=n+1 from CQ (by omega) (by omega)];cases bl k cuts[i]<;>rfl)
  (λn _=>by show Rl cuts k n (cuts.length:Int)=_;unfold Rl;rw[if_neg (by simp)]) (s:=0) ⟨by omega,by omega⟩).1).trans ?_
 rw[yK,Int.zero_add]
theorem oG{cuts:List Aj}{k:Aj}(hl:cuts.length<=1000)(hr:Em cuts):R2 cuts k=some (DB cuts k:Int):=by
 refine(Z0 (xs:=cuts) (body:=λi=>Kj cuts k i) (λc=> !bl k c) (λn=>some n) (λi hi=>by
   show Kj cuts k (i:Int)=_;unfold Kj;rw[if_pos (by simpa using hi),AJ hi,Aa,fE,Be (by omega)];cases bl k cuts[i]<;>rfl) (by
   show Kj cuts k (cuts.length:Int)=_;unfold Kj;rw[if_neg (by simp)])).trans ?_
 rw[yM hr]
theorem rM{l:List Int}{n:Int}(hl:l.length<=1000)(hr:Cd ik l):jT l n=some (HC n l):=by
 refine(Z0 (xs:=l) (body:=λi=>RU l n i) (A0 ik n) (λv=>Yz l n v) (λi hi=>by
   show RU l n (i:Int)=_;unfold RU A0;rw[if_pos (by simpa using hi),AJ hi,Aa,Be (by omega)];by_cases h:ik l[i]<n
   ·rw[if_pos (by simpa using h),if_pos (by simpa using h)]
   ·rw[if_neg (by simpa using h),if_neg (by simpa using h)]) (by
   show RU l n (l.length:Int)=_;unfold RU;rw[if_neg (by simp)])).trans ?_
 have hp:=NM (A0 ik n) l;have hf:=R9 (t:=n) hr;have ins:(∀y∈l,ik y≠n)->(req (0<=(0:Int)/\(0:Int)<=((AF (A0 ik n) l:Nat):Int)/\((AF (A0 ik n) l:Nat):Int)<=(l.length:Int))<|
   req (RM ((([]:List Int).length:Int)+(((A6 l 0 ((AF (A0 ik n) l:Nat):Int))).length:Int)) 8)<|
   req (RM ((((A6 l 0 ((AF (A0 ik n) l:Nat):Int))).length:Int)+(([n]:List Int).length:Int)) 8)<|
   req (0<=((AF (A0 ik n) l:Nat):Int)/\((AF (A0 ik n) l:Nat):Int)<=(l.length:Int)/\(l.length:Int)<=(l.length:Int))<|
   req (RM (((((A6 l 0 ((AF (A0 ik n) l:Nat):Int))++ [n])).length:Int)+(((A6 l ((AF (A0 ik n) l:Nat):Int) (l.length:Int))).length:Int)) 8)<|
   some (((A6 l 0 ((AF (A0 ik n) l:Nat):Int))++ [n])++(A6 l ((AF (A0 ik n) l:Nat):Int) (l.length:Int))))=some (DN ik n l):=λhn=>by
  rw[XH,QA];have h1:(l.take (AF (A0 ik n) l)).length<=1000:=by rw[Ar];omega
  have h2:(l.drop (AF (A0 ik n) l)).length<=1000:=by rw[BC];omega
  rw[A7 (by omega),A7 (by simp only[RM,List.length_nil];omega),A7 (by simp only[RM,AS];omega),A7 (by omega),A7 (by simp only[RM,AH,AS];omega)];rw[ZW (key:=ik) (x:=n) hn]
 have fin:(∀y∈l,ik y≠n)->HC n l=DN ik n l:=λhn=>by unfold HC;rw[if_neg λhm=>hn n hm rfl]
 unfold Yz;by_cases Ax:AF (A0 ik n) l<l.length
 ·rw[if_pos (by simpa using Ax),AJ Ax,Aa];rw[Br Ax]at hf;by_cases he:l[AF (A0 ik n) l]=n
  ·rw[if_pos (by simpa using he)];unfold HC;rw[if_pos (by rw[<-he];exact Ay _)]
  ·rw[if_neg (by simpa using he)];simp only[if_neg he]at hf;have hn:∀y∈l,ik y≠n:=λy hy e=>by
    have:=List.find?_eq_none.1 hf y hy;simp[ik]at this;exact this e
   rw[ins hn,fin hn]
 ·rw[if_neg (by simpa using Ax)];rw[List.getElem?_eq_none (by omega)]at hf;have hn:∀y∈l,ik y≠n:=λy hy e=>by
   have:=List.find?_eq_none.1 hf y hy;simp[ik]at this;exact this e
  rw[ins hn,fin hn]
theorem zwZ(n:Int)(l:List Int):(HC n l).length<=l.length+1:=by
 unfold HC;split
 ·omega
 ·rw[nH];exact AN _
theorem zyo{cuts rs:List Aj}{ws:List Ap}(hl:cuts.length<=1000)(hr:rs.length<=100)(hw:ws.length<=100):YQ cuts rs ws=some (IW cuts rs ws):=by
 have hk:=(VZ rs ws).2.2;unfold YQ;rw[zyG hr hw,Aa];refine((E7 (xs:=DK rs ws) (body:=λz:Int × List Int=>RJ cuts (DK rs ws) z.1 z.2) (λi z=>(i,z)) (λo k=>o++ [(λk=>(DB cuts k:Int)) k]) (λo=>iL o) (λi o=>o.length=i)
  (λi hi o ho=>by refine⟨?_,by simp[ho]⟩;show RJ cuts (DK rs ws) (i:Int) o=_;unfold RJ;rw[if_pos (by simpa using hi),AJ hi,Aa,lT hl,Aa,A7 (by simp only[RM,AS];omega),Be (by omega)])
  (λo ho=>by show RJ cuts (DK rs ws) ((DK rs ws).length:Int) o=_;unfold RJ;rw[if_neg (by simp)]) (s:=[]) rfl).1).trans ?_
 rw[foldl_map,List.nil_append];unfold iL XL;rw[Aa,zsT]
theorem zyc{cuts rs:List Aj}{ws:List Ap}{t:Int}(hc:Em cuts)(hl:cuts.length<=1000)(hr:rs.length<=100)(hw:ws.length<=100):Nw cuts ⟨t,rs,ws⟩=some (IW cuts rs ws):=by
 have hk:=(VZ rs ws).2.2;unfold Nw;rw[show YS (⟨t,rs,ws⟩:AE).aq (⟨t,rs,ws⟩:AE).ae=some (DK rs ws)from x6 hr hw,Aa];have h:Vb cuts (DK rs ws)=some (IW cuts rs ws):=by
  refine((E7 (xs:=DK rs ws) (body:=λz:List Int × Int=>Nr cuts (DK rs ws) z.1 z.2) (λi z=>(z,i)) (λo k=>HC (DB cuts k:Int) o) (λo=>some o) (λi o=>Cd ik o/\o.length<=i)
   (λi hi o ho=>by refine⟨?_,mA ho.1,by have:=zwZ (DB cuts (DK rs ws)[i]:Int) o;omega⟩;show Nr cuts (DK rs ws) o (i:Int)=_;unfold Nr;rw[if_pos (by simpa using hi),AJ hi,Aa,oG hl hc,Aa,rM (by omega) ho.1,Aa,Be (by omega)])
   (λo ho=>by show Nr cuts (DK rs ws) o ((DK rs ws).length:Int)=_;unfold Nr;rw[if_neg (by simp)]) (s:=[]) ⟨List.Pairwise.nil,by simp⟩).1).trans ?_
  unfold IW;rw[List.foldl_map]
 rw[h];rfl
structure Ih(o:AE):Prop where
 reads:Js o.aq
 writes:aP o.ae
def QG(o:AE):AP:=⟨1,o.ah,1,0,o.aq,o.ae,false⟩
def DA(o:AE):Bool:=CK (QG o)
theorem zBA{o:AE}(h:Ih o):YX o=some (DA o):=by unfold YX;show(Mb (QG o)).bind _=_;rw[aC (show F8 (QG o)from⟨h.reads,h.writes⟩)];rfl
theorem zB9{o:AE}(h:Ih o):YO o=some (DA o):=by unfold YO jG;rw[aJ,nU (show F8 ⟨1,1,1,0,o.aq,o.ae,false⟩from⟨h.reads,h.writes⟩)];unfold DA CK QG;rw[if_pos rfl,if_pos rfl,show BJ 1 1 60=true from rfl,Bool.true_and];cases BJ o.ah 1 60<;>rfl
def P9(l:List AE)(i:Nat):Bool:=match l[i]? with
 |some o=>DA o&& !(l.take i).any (λp=>p.ah==o.ah)
 |none=>true
theorem V2{l:List AE}{i:Nat}(hi:i<l.length):P9 l i=(DA l[i]&& !(l.take i).any (λp=>p.ah==l[i].ah)):=by unfold P9;rw[Br hi]
def Jt(l:List AE):Bool:=(List.range l.length).all (P9 l)&&decide (l.length<=8)
def Lk(d:An):Bool:=(Ds d.bc&&decide ((d.bc.length:Int)<4))&&(decide (d.ar.length=d.bc.length+1)&&(d.ar.all HH&&Jt d.ak))
structure Mv(d:An):Prop where
 cuts:Js d.bc
 ek:d.ar.length<=2000000
 bu:∀s∈d.ar,IY s
 cg:d.ak.length<=2000000
 cq:∀o∈d.ak,Ih o
theorem xX{l:List AE}(hl:l.length<=2000000)(h:∀o∈l,Ih o):Vh l=some (Jt l):=by
 unfold Vh;rw[K3 (n:=l.length) (body:=λi=>Q7 l i) (P9 l) false (gV l) (λi hi=> ?_) (by show Q7 l (l.length:Int)=_;unfold Q7;rw[if_neg (by simp)])]
 ·unfold gV Jt;rw[show decide ((l.length:Int)<=8)=decide (l.length<=8)from decide_eq_decide.2 (by omega)];cases(List.range l.length).all (P9 l)<;>rfl
 ·show Q7 l (i:Int)=_;unfold Q7;rw[if_pos (by simpa using hi),AJ hi,Aa,zBA (h _ (Ay hi)),Aa,A7 (by omega),V2 hi];have t:Az (λj:Int=>Rh l (i:Int) l[i] j) 0=if((l.take i).all λp=> !(p.ah==l[i].ah))=true then Yb (i:Int)else some (.inr (some false)):=by
   refine GY (xs:=l.take i) (λp=> !(p.ah==l[i].ah)) (.inr (some false)) (Yb (i:Int)) (λj hj=> ?_) ?_
   ·rw[Ar]at hj;show Rh l (i:Int) l[i] (j:Int)=_;unfold Rh;rw[Ku,if_pos (by rw[Ar];simp;omega),AJ (by rw[Ar];omega),Aa,Be (by omega),show(l[i].ah==(l.take i)[j].ah)=((l.take i)[j].ah==l[i].ah)from BEq.comm];cases(l.take i)[j].ah==l[i].ah<;>rfl
   ·show Rh l (i:Int) l[i] ((l.take i).length:Int)=_;unfold Rh;rw[Ku,if_neg (by simp)]
  rw[t,List.not_any_eq_all_not];unfold Yb;rw[Be (by omega)];cases DA l[i]<;>cases((l.take i).all λp=> !(p.ah==l[i].ah))<;>rfl
theorem zAu{d:An}(hl:d.ak.length<=2000000)(h:∀o∈d.ak,Ih o):Az (λi:Int=>Pd d i) 0=some (Jt d.ak):=by
 rw[K3 (n:=d.ak.length) (body:=λi=>Pd d i) (P9 d.ak) false (iQ d) (λi hi=> ?_) (by show Pd d (d.ak.length:Int)=_;unfold Pd;rw[if_neg (by simp)])]
 ·unfold iQ Jt;rw[show decide ((d.ak.length:Int)<=8)=decide (d.ak.length<=8)from decide_eq_decide.2 (by omega)];cases(List.range d.ak.length).all (P9 d.ak)<;>rfl
 ·show Pd d (i:Int)=_;unfold Pd;have e:D4 (A6 d.ak 0 (i:Int)) (λy0_=>iC y0_ d.ak[i])=some ((d.ak.take i).any λp=>p.ah==d.ak[i].ah):=by
   rw[Ku];exact Kx _ (λp _=>rfl) (by rw[Ar];omega)
  rw[if_pos (by simpa using hi),AJ hi,Aa,zB9 (h _ (Ay hi)),Aa,A7 (by omega),V2 hi,e,Aa,Be (by omega)];cases DA d.ak[i]<;>cases((d.ak.take i).any λp=>p.ah==d.ak[i].ah)<;>rfl
theorem SD{d:An}(h:Mv d):L6 d=some (Lk d):=by
 have hc:=h.cuts.1;have hs:=h.ek;unfold L6 Lk;rw[zBz h.cuts,Aa];have e:D4 d.ar (λy0_=>YK y0_)=some (d.ar.any λs=> !HH s):=Kx _ (λs hm=>by unfold YK;rw[zB4 (h.bu s hm)];rfl) (by omega);rw[e,Aa,zAu h.cg h.cq,Be (by omega)];cases(Ds d.bc&&decide ((d.bc.length:Int)<4))with
 |false=>rfl
 |true=>
  rw[if_pos rfl];by_cases hl:d.ar.length=d.bc.length+1
  ·rw[if_neg (by simp;omega),decide_eq_true hl,List.all_eq_not_any_not];cases d.ar.any λs=> !HH s<;>rfl
  ·rw[if_pos (by simp;omega),decide_eq_false hl];rfl
theorem mI{d:An}(h:Mv d):R6 d=some (Lk d):=by
 have hc:=h.cuts.1;have hs:=h.ek;have k:Yn d=some ((Ds d.bc&&decide ((d.bc.length:Int)<4))&&(decide (d.ar.length=d.bc.length+1)&&Jt d.ak)):=by
  unfold Yn;rw[zxo h.cuts,Aa,xX h.cg h.cq,Be (by omega)];cases(Ds d.bc&&decide ((d.bc.length:Int)<4))with
  |false=>rfl
  |true=>
   rw[if_pos rfl];by_cases hl:d.ar.length=d.bc.length+1
   ·rw[if_pos (by simp;omega),decide_eq_true hl];rfl
   ·rw[if_neg (by simp;omega),decide_eq_false hl];rfl
 unfold R6 Lk;rw[GY (xs:=d.ar) (body:=λi=>RE d i) HH false (Yn d) (λi hi=>by
  show RE d (i:Int)=_;unfold RE;rw[if_pos (by simpa using hi),AJ hi,Aa,zBt (h.bu _ (Ay hi)),Aa,Be (by omega)];cases HH d.ar[i]<;>rfl) (by
  show RE d (d.ar.length:Int)=_;unfold RE;rw[if_neg (by simp)]),k]
 cases d.ar.all HH<;>cases(Ds d.bc&&decide ((d.bc.length:Int)<4))<;>cases decide (d.ar.length=d.bc.length+1)<;>rfl
structure GD(d:An):Prop where
 di:Em d.bc
 keys:∀c∈d.bc,CC c=true
 ee:d.bc.length<=3
 len:d.ar.length=d.bc.length+1
 bu:∀s∈d.ar,WS s/\Iu s
 cg:d.ak.length<=8
 cq:∀o∈d.ak,DA o=true/\Ih o
 os:Jt d.ak=true
theorem zFp{d:An}(h:Mv d)(g:Lk d=true):GD d:=by
 unfold Lk Ds at g;simp only[Ab,AI]at g;obtain⟨⟨⟨g0,g1⟩,g2⟩,g3,g4,os⟩:=g;have g:=os;unfold Jt at g;simp only[Ab,AI]at g;obtain⟨g5,g6⟩:=g;refine⟨?_,A3.1 g0,by omega,g3,λs hs=>zDd (h.bu s hs) (A3.1 g4 s hs),g6,λo ho=>⟨?_,h.cq o ho⟩,os⟩
 ·rw[Mc]at g1;exact(Ks (r:=bl) λa b c p q=>EF p q).1 g1
 ·obtain⟨i,hi,rfl⟩:=List.mem_iff_getElem.1 ho;have:=NQ g5 i hi;rw[V2 hi,Ab]at this;exact this.1
theorem Jr{o:AE}(g:DA o=true):(1<=o.ah/\o.ah<=60)/\(o.aq.length<=8/\o.ae.length<=8/\0<o.aq.length+o.ae.length)/\(Ds o.aq=true/\FD o.ae=true):=by unfold DA CK QG at g;rw[if_pos rfl]at g;simp only[Ab,AI]at g;obtain⟨a1,a2,a3,a4,a5,a6,a7,a8,a9⟩:=g;exact⟨E5.1 a1,⟨by omega,by omega,by omega⟩,a4,a6⟩
theorem zuf{o:AE}(g:DA o=true):YF o=some o:=by obtain⟨_,⟨h1,h2,_⟩,_⟩:=Jr g;unfold YF;have e1:IQ o.aq=some o.aq:=Jn (by omega) (by omega);have e2:L5 o.ae=some o.ae:=Jn (by omega) (by omega);rw[e1,Aa,e2,Aa]
theorem wH{d:An}(g:GD d):Ve d=some d:=by
 have g1:=g.ee;have g2:=g.len;have g3:=g.cg;unfold Ve;have e1:IQ d.bc=some d.bc:=Jn (by omega) (by omega);rw[e1,Aa];refine((E7 (xs:=d.ar) (body:=λz:Int × List Ai=>Q0 d d.bc z.1 z.2) (λi z=>(i,z)) (λo c=>o++ [c]) (λo=>tP d d.bc o) (λi o=>o.length=i)
  (λi hi o ho=>by refine⟨?_,by simp[ho]⟩;show Q0 d d.bc (i:Int) o=_;unfold Q0;rw[if_pos (by simpa using hi),AJ hi,Aa,Zo (g.bu _ (Ay hi)).1,Aa,A7 (by simp only[RM,AS];omega),Be (by omega)])
  (λo ho=>by show Q0 d d.bc (d.ar.length:Int) o=_;unfold Q0;rw[if_neg (by simp)]) (s:=[]) rfl).1).trans ?_
 have e:=foldl_map (λc:Ai=>c) d.ar [];simp only[List.map_id',List.nil_append]at e;rw[e];refine((E7 (xs:=d.ak) (body:=λz:Int × List AE=>Q4 d d.bc d.ar z.1 z.2) (λi z=>(i,z)) (λo c=>o++ [c]) (λo=>some (⟨d.bc,d.ar,o⟩:An)) (λi o=>o.length=i)
  (λi hi o ho=>by refine⟨?_,by simp[ho]⟩;show Q4 d d.bc d.ar (i:Int) o=_;unfold Q4;rw[if_pos (by simpa using hi),AJ hi,Aa,zuf (g.cq _ (Ay hi)).1,Aa,A7 (by simp only[RM,AS];omega),Be (by omega)])
  (λo ho=>by show Q4 d d.bc d.ar (d.ak.length:Int) o=_;unfold Q4;rw[if_neg (by simp)]) (s:=[]) rfl).1).trans ?_
 have e:=foldl_map (λc:AE=>c) d.ak [];simp only[List.map_id',List.nil_append]at e;rw[e]
theorem zzW{l:List AE}(hl:l.length<=8)(g:∀o∈l,DA o=true):Zf l=some l:=by
 refine((E7 (xs:=l) (body:=λz:List AE × Int=>RA l z.1 z.2) (λi z=>(z,i)) (λo c=>o++ [c]) (λo=>some o) (λi o=>o.length=i)
  (λi hi o ho=>by obtain⟨_,⟨h1,h2,_⟩,_⟩:=Jr (g _ (Ay hi));refine⟨?_,by simp[ho]⟩;show RA l o (i:Int)=_;unfold RA;rw[if_pos (by simpa using hi),AJ hi,Aa,PZ (by omega),Aa,A7 (by simp only[RM,List.length_nil];omega),A7 (by simp only[RM,AS];omega),Be (by omega)])
  (λo ho=>by show RA l o (l.length:Int)=_;unfold RA;rw[if_neg (by simp)]) (s:=[]) rfl).1).trans ?_
 have e:=foldl_map (λc:AE=>c) l [];simp only[List.map_id',List.nil_append]at e;rw[e]
theorem wU{d:An}(g:GD d):Vy d=some d:=by
 have g1:=g.ee;have g2:=g.len;unfold Vy;rw[PZ (by omega),Aa,zzW g.cg λo ho=>(g.cq o ho).1,Aa];refine((E7 (xs:=d.ar) (body:=λz:Int × List Ai=>Rq d d.bc d.ak z.1 z.2) (λi z=>(i,z)) (λo c=>o++ [c]) (λo=>some (⟨d.bc,o,d.ak⟩:An)) (λi o=>o.length=i)
  (λi hi o ho=>by refine⟨?_,by simp[ho]⟩;show Rq d d.bc d.ak (i:Int) o=_;unfold Rq;rw[if_pos (by simpa using hi),AJ hi,Aa,zwW (g.bu _ (Ay hi)).1,Aa,A7 (by simp only[RM,AS];omega),Be (by omega)])
  (λo ho=>by show Rq d d.bc d.ak (d.ar.length:Int) o=_;unfold Rq;rw[if_neg (by simp)]) (s:=[]) rfl).1).trans ?_
 have e:=foldl_map (λc:Ai=>c) d.ar [];simp only[List.map_id',List.nil_append]at e;rw[e]
theorem lU{α:Type}{key:α->Int}{l:List α}{t:Int}{x:α}(hr:Cd key l)(h:l.find? (λy=>key y==t)=some x):getI l ((AF (A0 key t) l:Nat):Int)=some x:=by
 have hf:=R9 (t:=t) hr;rw[h]at hf;rcases Nat.lt_or_ge (AF (A0 key t) l) l.length with hp|hp
 ·rw[Br hp]at hf;have hf:some x=if key l[AF (A0 key t) l]=t then some l[AF (A0 key t) l]else none:=hf;split at hf
  ·cases hf;exact AJ hp
  ·cases hf
 ·rw[List.getElem?_eq_none hp]at hf;cases hf
def KS:Ai:=⟨0,[],[],[]⟩
def Bm(d:An)(p:Int):Ai:=(d.ar[p.toNat]?).getD KS
def Ca(d:An)(o:AE):List Int:=IW d.bc o.aq o.ae
def Ct(d:An)(o:AE):Int:=(Ca d o).headD 0
theorem G5{d:An}(g:GD d){p:Int}(h0:0<=p)(h1:p<=d.bc.length):getI d.ar p=some (Bm d p)/\(Bm d p∈d.ar/\p.toNat<d.ar.length):=by
 have hl:=g.len;obtain⟨x,e1,e2,e3⟩:=oE (xs:=d.ar) h0 (by omega);have:Bm d p=x:=by unfold Bm;rw[e3];rfl
 rw[this];exact⟨e1,e2,by omega⟩
theorem Jq{d:An}{o:AE}(go:DA o=true):(∀p∈Ca d o,0<=p/\p<=d.bc.length)/\((Ca d o).length<=d.bc.length+1/\(getI (Ca d o) 0=some (Ct d o)/\Ct d o∈Ca d o)):=by
 obtain⟨a,b⟩:=zyk d.bc o.aq o.ae;refine⟨b,a,?_⟩;obtain⟨_,⟨_,_,BB⟩,_⟩:=Jr go;obtain⟨_,h2⟩:=VS d.bc o.aq o.ae;unfold Ct Ca;cases hp:IW d.bc o.aq o.ae with
 |nil=>
  exfalso;rw[hp]at h2;cases hr:o.aq with
  |cons k ks=>exact absurd ((h2 _).2 (.inl ⟨k,by rw[hr];simp,rfl⟩)) (by simp)
  |nil=>
   cases hw:o.ae with
   |cons w ws=>exact absurd ((h2 _).2 (.inr ⟨w,by rw[hw];simp,rfl⟩)) (by simp)
   |nil=>rw[hr,hw]at BB;simp at BB
 |cons x xs=>exact⟨rfl,by simp⟩
theorem Sy{d:An}{o:AE}(g:GD d)(go:DA o=true):L7 d o=some (Ca d o):=by have:=g.ee;obtain⟨_,⟨h1,h2,_⟩,_⟩:=Jr go;unfold L7;rw[zyo (by omega) (by omega) (by omega)];rfl
theorem zBs{d:An}{o:AE}(g:GD d)(go:DA o=true):Nw d.bc o=some (Ca d o):=by have:=g.ee;obtain⟨_,⟨h1,h2,_⟩,_⟩:=Jr go;exact zyc (t:=o.ah) g.di (by omega) (by omega) (by omega)
def Ld(cuts rs:List Aj)(p:Int):List Aj:=rs.filter λk=>(DB cuts k:Int)==p
def Kz(cuts:List Aj)(ws:List Ap)(p:Int):List Ap:=ws.filter λw=>(DB cuts w.aj:Int)==p
theorem zxK{cuts rs:List Aj}{p:Int}(hl:cuts.length<=1000)(hr:rs.length<=100):Ze cuts rs p=some (Ld cuts rs p):=by unfold Ze Pw;have e1:IQ rs=some rs:=Jn (by omega) (by omega);rw[e1,Aa,A7 (by omega),lA (p:=λy0_=>YE y0_ cuts p) (λk=> !((DB cuts k:Int)==p)) λk _=>by unfold YE;rw[lT hl];rfl,Aa];unfold Ld;simp only[Bool.not_not]
theorem zww{cuts:List Aj}{ws:List Ap}{p:Int}(hl:cuts.length<=1000)(hr:ws.length<=100):YU cuts ws p=some (Kz cuts ws p):=by unfold YU Pw;have e1:L5 ws=some ws:=Jn (by omega) (by omega);rw[e1,Aa,A7 (by omega),lA (p:=λy0_=>Yq y0_ cuts p) (λw=> !((DB cuts w.aj:Int)==p)) λw _=>by unfold Yq;rw[lT hl];rfl,Aa];unfold Kz;simp only[Bool.not_not]
theorem kL{α:Type}(q:α->Bool):∀(xs o:List α),xs.foldl (λo x=>if q x=true then o++ [x]else o) o=o++xs.filter q
 | [],o=>by simp
 |x::xs,o=>by rw[List.foldl_cons,kL q xs,List.filter_cons];cases q x<;>simp
theorem zCg{cuts rs:List Aj}{ws:List Ap}{p:Int}(hc:Em cuts)(hl:cuts.length<=1000)(hr:rs.length<=100)(hw:ws.length<=100):jE cuts rs ws p=some (Ld cuts rs p,Kz cuts ws p):=by
 have k1:∀r:List Aj,hP cuts ws p r=some (r,Kz cuts ws p):=λr=>by
  refine((E7 (xs:=ws) (body:=λz:List Ap × Int=>Q1 cuts ws p r z.1 z.2) (λi z=>(z,i)) (λo w=>if((DB cuts w.aj:Int)==p)=true then o++ [w]else o) (λo=>some (r,o)) (λi o=>o.length<=i)
   (λi hi o ho=>by refine⟨?_,by split<;>(try simp)<;>omega⟩;show Q1 cuts ws p r o (i:Int)=_;unfold Q1;rw[if_pos (by simpa using hi),AJ hi,Aa,oG hl hc,Aa,Be (by omega),A7 (by simp only[RM,AS];omega)];cases(DB cuts (ws[i]).aj:Int)==p<;>rfl)
   (λo ho=>by show Q1 cuts ws p r o (ws.length:Int)=_;unfold Q1;rw[if_neg (by simp)]) (s:=[]) (by simp)).1).trans ?_
  rw[kL (λw:Ap=>(DB cuts w.aj:Int)==p)];rfl
 refine((E7 (xs:=rs) (body:=λz:List Aj × Int=>QW cuts rs ws p z.1 z.2) (λi z=>(z,i)) (λo k=>if((DB cuts k:Int)==p)=true then o++ [k]else o) (λo=>hP cuts ws p o) (λi o=>o.length<=i)
  (λi hi o ho=>by refine⟨?_,by split<;>(try simp)<;>omega⟩;show QW cuts rs ws p o (i:Int)=_;unfold QW;rw[if_pos (by simpa using hi),AJ hi,Aa,oG hl hc,Aa,Be (by omega),A7 (by simp only[RM,AS];omega)];cases(DB cuts rs[i]:Int)==p<;>rfl)
  (λo ho=>by show QW cuts rs ws p o (rs.length:Int)=_;unfold QW;rw[if_neg (by simp)]) (s:=[]) (by simp)).1).trans ?_
 rw[k1,kL (λk:Aj=>(DB cuts k:Int)==p)];rfl
abbrev Te:Type:=Option (AP × Int)
def Kb(d:An)(o:AE)(p:Int):Te:=
 if(Ca d o).any (· ==p)=true then
  (if(BV (Bm d (Ct d o)) o.ah).isSome=true then none
  else if(Bm d p).aw=100000 then none
  else some (⟨1,o.ah,(Bm d p).aw+1,Ct d o,Ld d.bc o.aq p,Kz d.bc o.ae p,false⟩,p))
 else none
def KF(d:An)(t:Int):List Int->Int->Option Int
 | [],n=>some n
 |p::ps,n=>match Cq (Bm d p) t with
  |none=>none
  |some h=>KF d t ps (if h.af>n then h.af else n)
def KZ(d:An)(o:AE)(t:Int):Te:=
 if BJ t 0 100000=true then(match KF d o.ah (Ca d o) t with
  |none=>none
  |some n=>some (⟨2,o.ah,n,0,[],[],true⟩,Ct d o))else none
def fW(d:An)(o:AE):Te:=some (⟨2,o.ah,0,0,[],[],false⟩,Ct d o)
def KV(d:An)(o:AE)(p:Int):Te:=match BV (Bm d (Ct d o)) o.ah with
 |none=>none
 |some t=>if((Ca d o).drop 1).any (· ==p)=true then some (⟨3,o.ah,t.af,0,[],[],t.bg⟩,p)else none
def Ka(d:An)(o:AE)(a:CB):Te:=
 if a.az=1 then(if a.af=0 then Kb d o a.br else none)
 else if a.az=2 then(if a.br=0 then KZ d o a.af else none)
 else if a.az=3 then(if a.br=0/\a.af=0 then fW d o else none)
 else if a.az=4 then(if a.af=0 then KV d o a.br else none)
 else none
theorem zBW{s:Ai}{t:Int}{x:Bz}(h:BV s t=some x):x∈s.au:=List.mem_of_find?_eq_some h
theorem zBN{s:Ai}{t:Int}{x:AG}(h:Cq s t=some x):x∈s.ab:=List.mem_of_find?_eq_some h
theorem qV{d:An}(g:GD d){t:Int}:∀{ps:List Int} {n m:Int},(∀p∈ps,0<=p/\p<=d.bc.length)->0<=n->n<=100000->KF d t ps n=some m->n<=m/\(m<=100000/\(ps≠ []->1<=m))
 | [],n,m,_,h0,h1,e=>by cases e;exact⟨by omega,h1,λh=>absurd rfl h⟩
 |p::ps,n,m,hp,h0,h1,e=>by
  unfold KF at e;split at e
  ·cases e
  ·rename_i h hh;obtain⟨_,hm,_⟩:=G5 g (hp p (by simp)).1 (hp p (by simp)).2;obtain⟨_,gs⟩:=g.bu _ hm;obtain⟨h2,h3,_⟩:=gs.single h (zBN hh);have h4:=(zz1 h2 rfl).1;have h5:1<=h.af/\h.af<=100000:=h4;obtain⟨a,b,_⟩:=qV g (λq hq=>hp q (by simp[hq])) (by split<;>omega) (by split<;>omega) e;have hn:n<=(if h.af>n then h.af else n)/\1<=(if h.af>n then h.af else n):=by split<;>omega
   exact⟨by omega,b,λ_=>by omega⟩
theorem zul{ks:List Aj}(q:Aj->Bool)(h:Ds ks=true):Ds (ks.filter q)=true:=by unfold Ds at h ⊢;rw[Ab,A3,Mc,Ks (r:=bl) λa b c p q=>EF p q]at h ⊢;exact⟨λx hx=>h.1 x (List.mem_filter.1 hx).1,h.2.filter _⟩
theorem zup{ws:List Ap}(q:Ap->Bool)(h:FD ws=true):FD (ws.filter q)=true:=by have hl:=List.length_filter_le q ws;unfold FD at h ⊢;rw[Mc,ZA]at h ⊢;simp only[Ab,AI,A3]at h ⊢;rw[Ks (r:=λa b:Ap=>bl a.aj b.aj) λa b c p q=>EF p q]at h ⊢;exact⟨by omega,λx hx=>h.2.1 x (List.mem_filter.1 hx).1,h.2.2.filter _⟩
theorem zvK{o:AE}(h:Ih o)(q:Aj->Bool)(q':Ap->Bool){k t n l:Int}{y:Bool}:F8 ⟨k,t,n,l,o.aq.filter q,o.ae.filter q',y⟩:=by
 have h1:=h.reads;have h2:=h.writes;refine⟨⟨?_,λx hx=>h1.2 x (List.mem_filter.1 hx).1⟩,⟨?_,λx hx=>h2.2 x (List.mem_filter.1 hx).1⟩⟩
 ·have:=List.length_filter_le q o.aq;have:=h1.1;dsimp only;omega
 ·have:=List.length_filter_le q' o.ae;have:=h2.1;dsimp only;omega
theorem kZ{k t n l:Int}{y:Bool}:F8 ⟨k,t,n,l,[],[],y⟩:=⟨⟨by simp,by simp⟩,⟨by simp,by simp⟩⟩
theorem nC{k t n l:Int}{y:Bool}(hy:y=true->0<n)(ht:1<=t/\t<=60):F5 ⟨k,t,n,l,[],[],y⟩:=⟨by simp,by simp,List.Pairwise.nil,⟨by simp,by simp⟩,λ_ _ h=>hy h,λ_=>ht⟩
structure P4(d:An)(x:AP × Int):Prop where
 jf:CK x.1=true
 ok:F5 x.1
 small:F8 x.1
 lo:0<=x.2
 hi:x.2<=d.bc.length
theorem zzO{d:An}{o:AE}{p:Int}{x:AP × Int}(g:GD d)(go:DA o=true)(so:Ih o)(e:Kb d o p=some x):P4 d x:=by
 obtain⟨b1,b2,b3,b4⟩:=Jq (d:=d) go;obtain⟨o1,⟨o2,o3,_⟩,o4,o5⟩:=Jr go;have hf:=g.ee;unfold Kb at e;split at e
 ·rename_i hm;split at e
  ·cases e
  ·split at e
   ·cases e
   ·rename_i B5;cases e;obtain⟨q,hq,e⟩:=List.any_eq_true.1 hm;have e:q=p:=by simpa using e
    subst e;obtain⟨c1,c2⟩:=b1 q hq;obtain⟨_,Ew,_⟩:=G5 g c1 c2;obtain⟨_,gs⟩:=g.bu _ Ew;have cE:=gs.floor;have Ja:=List.length_filter_le (λk=>(DB d.bc k:Int)==q) o.aq;have MS:=List.length_filter_le (λw:Ap=>(DB d.bc w.aj:Int)==q) o.ae;have BB:0<(Ld d.bc o.aq q).length+(Kz d.bc o.ae q).length:=by
     rcases((VS d.bc o.aq o.ae).2 q).1 hq with⟨k,hk,e⟩|⟨w,hw,e⟩
     ·have:k∈Ld d.bc o.aq q:=List.mem_filter.2 ⟨hk,by simpa using e⟩;have:=List.length_pos_of_mem this;omega
     ·have:w∈Kz d.bc o.ae q:=List.mem_filter.2 ⟨hw,by simpa using e⟩;have:=List.length_pos_of_mem this;omega
    have pR:=b1 _ b4;have gr:CK ⟨1,o.ah,(Bm d q).aw+1,Ct d o,Ld d.bc o.aq q,Kz d.bc o.ae q,false⟩=true:=by unfold CK;rw[if_pos rfl];simp only[Ab,AI];unfold Ld Kz at BB ⊢;exact⟨E5.2 o1,E5.2 ⟨by omega,by omega⟩,E5.2 ⟨by omega,by omega⟩,zul _ o4,by omega,zup _ o5,by omega,by omega,rfl⟩
    have sm:F8 ⟨1,o.ah,(Bm d q).aw+1,Ct d o,Ld d.bc o.aq q,Kz d.bc o.ae q,false⟩:=zvK so _ _;exact⟨gr,Z5 sm gr rfl,sm,c1,c2⟩
 ·cases e
theorem mQ{k t n:Int}{y:Bool}(hk:k=2\/k=3)(ht:1<=t/\t<=60)(hn:if y=true then 1<=n/\n<=100000 else n=0):CK ⟨k,t,n,0,[],[],y⟩=true:=by
 unfold CK;have h1: ¬k=1:=by omega
 simp only[if_neg h1,if_pos hk,E5.2 ht];cases y with
 |true=>simp only[if_true]at hn ⊢;rw[E5.2 hn];rfl
 |false=>simp only[Ba,if_false]at hn ⊢;rw[hn];rfl
theorem zy7{d:An}{o:AE}{t:Int}{x:AP × Int}(g:GD d)(go:DA o=true)(e:KZ d o t=some x):P4 d x:=by
 obtain⟨b1,b2,b3,b4⟩:=Jq (d:=d) go;obtain⟨o1,_,_⟩:=Jr go;unfold KZ at e;split at e
 ·rename_i ht;have ht:=E5.1 ht;split at e
  ·cases e
  ·rename_i n hn;cases e;obtain⟨_,m2,m3⟩:=qV g b1 ht.1 ht.2 hn;have m4:=m3 λh=>by rw[h]at b4;simp at b4
   have:=b1 _ b4;exact⟨mQ (.inl rfl) o1 (by rw[if_pos rfl];exact⟨m4,m2⟩),nC (λ_=>by omega) o1,kZ,this.1,this.2⟩
 ·cases e
theorem zzr{d:An}{o:AE}{x:AP × Int}(go:DA o=true)(e:fW d o=some x):P4 d x:=by obtain⟨b1,b2,b3,b4⟩:=Jq (d:=d) go;obtain⟨o1,_,_⟩:=Jr go;cases e;have:=b1 _ b4;exact⟨mQ (.inl rfl) o1 (by simp),nC (λh=>by cases h) o1,kZ,this.1,this.2⟩
theorem zzp{d:An}{o:AE}{p:Int}{x:AP × Int}(g:GD d)(go:DA o=true)(e:KV d o p=some x):P4 d x:=by
 obtain⟨b1,b2,b3,b4⟩:=Jq (d:=d) go;obtain⟨o1,_,_⟩:=Jr go;unfold KV at e;split at e
 ·cases e
 ·rename_i t ht;split at e
  ·rename_i hm;cases e;obtain⟨q,hq,e⟩:=List.any_eq_true.1 hm;have e:q=p:=by simpa using e
   subst e;have c:=b1 q (BH hq);obtain⟨l1,l2⟩:=b1 _ b4;obtain⟨_,Ew,_⟩:=G5 g l1 l2;obtain⟨_,gs⟩:=g.bu _ Ew;have hf:=gs.floor;have h1:=(gs.told t (zBW ht)).1;refine⟨mQ (.inr rfl) o1 ?_,nC (λh=> ?_) o1,kZ,c.1,c.2⟩
   ·split
    ·rename_i hy;rw[if_pos hy]at h1;omega
    ·rename_i hy;rw[if_neg hy]at h1;exact h1
   ·rw[if_pos h]at h1;omega
  ·cases e
theorem nX{d:An}{o:AE}{a:CB}{x:AP × Int}(g:GD d)(go:DA o=true)(so:Ih o)(e:Ka d o a=some x):P4 d x:=by
 unfold Ka at e;split at e
 ·split at e
  ·exact zzO g go so e
  ·cases e
 ·split at e
  ·split at e
   ·exact zy7 g go e
   ·cases e
  ·split at e
   ·split at e
    ·exact zzr go e
    ·cases e
   ·split at e
    ·split at e
     ·exact zzp g go e
     ·cases e
    ·cases e
def Le(d:An)(x:AP × Int):Option An:=(Cm (Bm d x.2) x.1).map λs=>⟨d.bc,d.ar.set x.2.toNat s,d.ak⟩
def KW(x:Option An):An × Bool:=match x with
 |some d=>(d,true)
 |none=>(⟨[],[],[]⟩,false)
theorem zEH{d d':An}{x:AP × Int}(g:GD d)(hx:P4 d x)(e:Le d x=some d'):GD d':=by
 obtain⟨_,Ew,_⟩:=G5 g hx.lo hx.hi;obtain⟨ws,gs⟩:=g.bu _ Ew;unfold Le at e;cases hq:Cm (Bm d x.2) x.1 with
 |none=>rw[hq]at e;cases e
 |some s=>
  rw[hq]at e;cases e;refine⟨g.di,g.keys,g.ee,by rw[List.length_set];exact g.len,λy hy=> ?_,g.cg,g.cq,g.os⟩;rcases List.mem_or_eq_of_mem_set hy with h|h
  ·exact g.bu y h
  ·rw[h];exact⟨zxa ws hx.ok hq,zCc ws gs hx.jf hq⟩
theorem ZE{d:An}{x:AP × Int}(g:GD d)(hx:P4 d x):Pf d x.2 x.1=some (KW (Le d x)):=by
 obtain⟨e1,Ew,_⟩:=G5 g hx.lo hx.hi;obtain⟨ws,gs⟩:=g.bu _ Ew;unfold Pf Le;rw[e1,Aa,zCs ws hx.ok,Aa];cases hq:Cm (Bm d x.2) x.1 with
 |none=>rfl
 |some s=>rw[if_neg (by simp),wH g,Aa,e1,Aa];rfl
def XA(d:An)(x:Te):An × Bool:=KW (x.bind (Le d))
theorem mG{xs:List Int}{p:Int}:xs.any (· ==p)=true↔p∈xs:=by
 rw[List.any_eq_true];constructor
 ·rintro⟨q,hq,e⟩;have:q=p:=by simpa using e
  rw[<-this];exact hq
 ·intro h;exact⟨p,h,by simp⟩
theorem zx5{d:An}{o:AE}{p:Int}(g:GD d)(go:DA o=true)(so:Ih o):X4 d o p=some (XA d (Kb d o p)):=by
 obtain⟨b1,b2,b3,b4⟩:=Jq (d:=d) go;obtain⟨o1,⟨o2,o3,_⟩,o4,o5⟩:=Jr go;have hf:=g.ee;have l1:=b1 _ b4;obtain⟨s1,s2,_⟩:=G5 g l1.1 l1.2;obtain⟨w1,_⟩:=g.bu _ s2;have Jf:=w1.ct;unfold X4;rw[Sy g go,Aa,vY (by omega),Aa];by_cases hm:(Ca d o).any (· ==p)=true
 ·have c:=b1 p (mG.1 hm);obtain⟨t1,t2,_⟩:=G5 g c.1 c.2;obtain⟨_,gs⟩:=g.bu _ t2;have B5:=gs.floor;rw[hm,if_neg (by simp),b3,Aa,s1,Aa,SG (by omega) w1.dh,Aa];by_cases ht:(BV (Bm d (Ct d o)) o.ah).isSome=true
  ·rw[if_pos ht];unfold Kb;rw[if_pos hm,if_pos ht];rfl
  ·rw[if_neg ht,t1,Aa,show IntKind.i64.wrap ((Bm d p).aw+1)=(Bm d p).aw+1 from CQ (by omega) (by omega)];unfold jL;by_cases hq:(Bm d p).aw=100000
   ·rw[if_pos (by simp;omega),Aa,if_pos (by simp)];unfold Kb;rw[if_pos hm,if_neg ht,if_pos hq];rfl
   ·rw[if_neg (by simp;omega),Aa,if_neg (by simp),zxK (by omega) (by omega),Aa,zww (by omega) (by omega),Aa];have e:Kb d o p=some (⟨1,o.ah,(Bm d p).aw+1,Ct d o,Ld d.bc o.aq p,Kz d.bc o.ae p,false⟩,p):=by
     unfold Kb;rw[if_pos hm,if_neg ht,if_neg hq]
    exact(aB (ZE g (zzO g go so e))).trans (by rw[e];rfl)
 ·rw[Bool.eq_false_iff.2 hm,if_pos (by rfl)];unfold Kb;rw[if_neg hm];rfl
theorem zzL{d:An}{o:AE}(g:GD d)(go:DA o=true):Yl d o=some (XA d (fW d o)):=by obtain⟨b1,b2,b3,b4⟩:=Jq (d:=d) go;unfold Yl;rw[Sy g go,Aa,b3,Aa];exact(aB (ZE g (zzr (d:=d) go rfl))).trans rfl
theorem zx1{d:An}{o:AE}{p:Int}(g:GD d)(go:DA o=true):X2 d o p=some (XA d (KV d o p)):=by
 obtain⟨b1,b2,b3,b4⟩:=Jq (d:=d) go;have hf:=g.ee;have l1:=b1 _ b4;have LM:=List.length_pos_of_mem b4;obtain⟨s1,s2,_⟩:=G5 g l1.1 l1.2;obtain⟨w1,_⟩:=g.bu _ s2;have Jf:=w1.ct;unfold X2;rw[Sy g go,Aa,b3,Aa,s1,Aa,SG (by omega) w1.dh,Aa];cases ht:BV (Bm d (Ct d o)) o.ah with
 |none=>rw[if_pos (by simp)];unfold XT KV;rw[if_pos rfl,ht];rfl
 |some t=>
  rw[if_neg (by simp),A7 (by omega),show A6 (Ca d o) 1 ((Ca d o).length:Int)=(Ca d o).drop 1 from QA _ 1,vY (by rw[BC];omega),Aa];unfold XT;cases hm:((Ca d o).drop 1).any (· ==p)with
  |false=>rw[if_pos (by simp)];unfold KV;rw[ht];simp only[hm];rfl
  |true=>
   have e:KV d o p=some (⟨3,o.ah,t.af,0,[],[],t.bg⟩,p):=by unfold KV;rw[ht];simp only[hm];rfl
   rw[if_neg (by simp)];show(getI (Bm d (Ct d o)).au ((AF (A0 tk o.ah) (Bm d (Ct d o)).au:Nat):Int)).bind _=_;rw[lU w1.dh ht,Aa];exact(aB (ZE g (zzp g go e))).trans (by rw[e];rfl)
def zFY(d:An)(o:AE)(p n:Int):Option (Int ⊕ Option (An × Bool)):=match Cq (Bm d p) o.ah with
 |none=>some (.inr (some (⟨[],[],[]⟩,false)))
 |some h=>some (.inl (if h.af>n then h.af else n))
theorem aW{β:Type}{d:An}{t:Int}{z:Option β}{fin:Int->Option β}{step:Int->Int->Option (Int ⊕ Option β)}
  (hs:∀p n,step p n=match Cq (Bm d p) t with|none=>some (.inr z)|some h=>some (.inl (if h.af>n then h.af else n))):∀(ps:List Int) (n:Int),GJ step fin ps n=match KF d t ps n with|none=>z|some m=>fin m
 | [],n=>rfl
 |p::ps,n=>by
  unfold GJ KF;rw[hs];cases Cq (Bm d p) t with
  |none=>rfl
  |some h=>exact aW hs ps _
theorem zzt{d:An}{o:AE}{n:Int}(g:GD d)(go:DA o=true):Yf d o n=some (XA d (KZ d o n)):=by
 obtain⟨b1,b2,b3,b4⟩:=Jq (d:=d) go;have hf:=g.ee;unfold Yf;rw[zCk,Aa];cases hn:BJ n 0 100000 with
 |false=>rw[if_pos (by rfl)];unfold KZ;rw[hn,if_neg (by simp)];rfl
 |true=>
  rw[if_neg (by simp),Sy g go,Aa];refine(VQ (xs:=Ca d o) (body:=λz:Int × Int=>QQ d o (Ca d o) z.1 z.2) (λi n=>(n,i)) (λp n=>match Cq (Bm d p) o.ah with|none=>some (.inr (some (⟨[],[],[]⟩,false)))|some h=>some (.inl (if h.af>n then h.af else n))) (λn=>XP d o n)
   (λi hi n=>by
    have c:=b1 _ (Ay hi);obtain⟨t1,t2,_⟩:=G5 g c.1 c.2;obtain⟨w1,_⟩:=g.bu _ t2;have hw:=w1.ee;show QQ d o (Ca d o) n (i:Int)=_;unfold QQ;rw[if_pos (by simpa using hi),AJ hi,Aa,t1,Aa,SA (by omega) w1.di,Aa,Be (by omega)];cases hh:Cq (Bm d (Ca d o)[i]) o.ah with
    |none=>rfl
    |some h=>
     rw[if_neg (by simp)];show(getI (Bm d (Ca d o)[i]).ab ((AF (A0 hk o.ah) (Bm d (Ca d o)[i]).ab:Nat):Int)).bind _=_;rw[lU w1.di hh,Aa];by_cases hq:h.af>n
     ·rw[decide_eq_true hq];simp only[if_pos hq];rfl
     ·rw[decide_eq_false hq];simp only[if_neg hq];rfl)
   (λn=>by show QQ d o (Ca d o) n ((Ca d o).length:Int)=_;unfold QQ;rw[if_neg (by simp)]) n).trans ?_
  rw[aW (d:=d) (t:=o.ah) λp n=>rfl];cases hq:KF d o.ah (Ca d o) n with
  |none=>unfold KZ;rw[hn,if_pos rfl,hq];rfl
  |some m=>
   have e:KZ d o n=some (⟨2,o.ah,m,0,[],[],true⟩,Ct d o):=by unfold KZ;rw[hn,if_pos rfl,hq]
   show XP d o m=_;unfold XP;rw[Sy g go,Aa,b3,Aa];exact(aB (ZE g (zy7 g go e))).trans (by rw[e];rfl)
def G4(d:An)(a:CB):Option An:=match getI d.ak (CY (λo=>o.ah==a.ah) d.ak)with
 |none=>none
 |some o=>(Ka d o a).bind (Le d)
theorem zzQ{d:An}{a:CB}(g:GD d):QX d a=some (KW (G4 d a)):=by
 have hl:=g.cg;unfold QX G4;rw[show F7 d.ak (λy0_=>iB y0_ a)=some (CY (λo:AE=>o.ah==a.ah) d.ak)from zvB _ (λo _=>rfl) (by omega),Aa];have MM:=PL (λo:AE=>o.ah==a.ah) d.ak;by_cases hi:CY (λo:AE=>o.ah==a.ah) d.ak<0
 ·have e:getI d.ak (CY (λo:AE=>o.ah==a.ah) d.ak)=none:=by unfold getI;rw[if_neg (by omega)]
  rw[if_pos (by simpa using hi),e];rfl
 ·obtain⟨o,e,_,ho⟩:=Z6 (p:=λo:AE=>o.ah==a.ah) (l:=d.ak) (by omega);obtain⟨go,so⟩:=g.cq o ho;rw[if_neg (by simpa using hi),e,Aa];simp only;unfold Ka;by_cases k1:a.az=1
  ·rw[if_pos k1];by_cases t:a.af=0
   ·rw[if_pos (by simp[k1,t]),if_pos t,zx5 g go so];rfl
   ·rw[if_neg (by simp[t]),if_neg (by simp[k1]),if_neg (by simp[t]),if_neg (by simp[t]),if_neg t];rfl
  ·rw[if_neg k1,if_neg (by simp[k1])];by_cases k2:a.az=2
   ·rw[if_pos k2];by_cases t:a.br=0
    ·rw[if_pos (by simp[k2,t]),if_pos t,zzt g go];rfl
    ·rw[if_neg (by simp[t]),if_neg (by simp[t]),if_neg (by simp[k2]),if_neg t];rfl
   ·rw[if_neg k2,if_neg (by simp[k2])];by_cases k3:a.az=3
    ·rw[if_pos k3];by_cases t:a.br=0/\a.af=0
     ·rw[if_pos (by simp[k3,t.1,t.2]),if_pos t,zzL g go];rfl
     ·rw[if_neg (by simp[k3];omega),if_neg (by simp[k3]),if_neg t];rfl
    ·rw[if_neg k3,if_neg (by simp[k3])];by_cases k4:a.az=4
     ·rw[if_pos k4];by_cases t:a.af=0
      ·rw[if_pos (by simp[k4,t]),if_pos t,zx1 g go];rfl
      ·rw[if_neg (by simp[t]),if_neg t];rfl
     ·rw[if_neg k4,if_neg (by simp[k4])];rfl
theorem nZ{d d':An}{a:CB}(g:GD d)(e:G4 d a=some d'):GD d':=by
 unfold G4 at e;split at e
 ·cases e
 ·rename_i o ho;obtain⟨go,so⟩:=g.cq o (zxs ho);cases hr:Ka d o a with
  |none=>rw[hr]at e;cases e
  |some x=>rw[hr]at e;exact zEH g (nX g go so hr) e
theorem xK{s:Ai}(w:WS s)(gs:Iu s):∀x∈s.ab,F8 (Ef x):=λx hx=>by obtain⟨⟨h1,_,_⟩,h2⟩:=w.held x hx;obtain⟨h3,_⟩:=gs.single x hx;unfold CK at h3;rw[if_pos (show(Ef x).az=1 from rfl)]at h3;simp only[Ab]at h3;have h4:Ds x.aq=true:=h3.2.2.2.1;unfold Ds at h4;rw[Ab,A3]at h4;refine⟨⟨by show x.aq.length<=_;omega,λk hk=> ?_⟩,⟨by have:=h2.1;show x.ae.length<=_;omega,h2.2⟩⟩;have:=h4.1 k hk;unfold CC at this;rw[Ab]at this;have:=E5.1 this.1;omega
theorem zxc{s:Ai}(w:WS s)(gs:Iu s):Ma s=some true:=by rw[zBa w (w.cells.small (by omega)) (xK w gs),ZO.2 gs]
theorem zDr{s:Ai}(w:WS s)(gs:Iu s):Yr s 0=some (if s.aw=100000 then(0,false)else(s.aw+1,true)):=by
 have hf:=gs.floor;have e:Ki s.aw 0=some s.aw:=by
  unfold Ki;by_cases h:s.aw>0
  ·rw[if_pos (by simpa using h)]
  ·rw[if_neg (by simpa using h),show s.aw=0 by omega]
 unfold Yr;rw[zxc w gs,Aa,if_pos rfl,zwP,Aa,if_pos (by rfl),e,Aa];by_cases h:s.aw=100000
 ·rw[if_pos (by simpa using h),if_pos h]
 ·rw[if_neg (by simpa using h),if_neg h,Aa,show IntKind.i64.wrap (s.aw+1)=s.aw+1 from CQ (by omega) (by omega)]
theorem zwi{s:Ai}{r:AP}(w:WS s)(gs:Iu s)(gr:CK r=true)(hr:F5 r)(sr:F8 r):YB s r=some (match Cm s r with|some s'=>(s',true)|none=>(⟨0,[],[],[]⟩,false)):=by
 unfold YB;obtain⟨x,e1,e2⟩:=zxk w hr;rw[zxc w gs,Aa,if_pos rfl,aC sr,gr,Aa,if_neg (by simp),e1,Aa];cases hq:Cm s r with
 |none=>rfl
 |some s'=>rw[e2 s' hq];rfl
theorem zxw{xs:List Int}{x p:Int}(h:Cd ik xs)(h0:getI xs 0=some x):(xs.drop 1).any (· ==p)=(!(p==x)&&xs.any (· ==p)):=by
 cases xs with
 |nil=>cases h0
 |cons y ys=>
  have:y=x:=by simpa[getI]using h0
  subst this;have h1:=(List.pairwise_cons.1 h).1;rw[List.any_cons];by_cases e:p=y
  ·subst e;have:ys.any (· ==p)=false:=by
    rw[Bool.eq_false_iff];intro hm;have:p<p:=h1 p (mG.1 hm);omega
   simp[this]
  ·have e1:(p==y)=false:=by simpa using e
   have e2:(y==p)=false:=by simpa using λq=>e q.symm
   simp[e1,e2]
theorem zEK{d:An}{o:AE}{a:CB}(g:GD d)(go:DA o=true)(so:Ih o):∃r p b,Zc d o a=some (r,p,b)/\((Ka d o a=none/\b=false)\/(Ka d o a=some (r,p)/\b=true)):=by
 obtain⟨b1,b2,b3,b4⟩:=Jq (d:=d) go;obtain⟨o1,⟨o2,o3,_⟩,o4,o5⟩:=Jr go;have hf:=g.ee;have l1:=b1 _ b4;obtain⟨s1,s2,_⟩:=G5 g l1.1 l1.2;obtain⟨w1,_⟩:=g.bu _ s2;have Jf:=w1.ct;unfold Zc;rw[zBs g go,Aa,b3,Aa,s1,Aa,zD (by omega),Aa];unfold Ka;by_cases k1:a.az=1
 ·rw[if_pos (by simpa using k1),if_pos k1];unfold Kb;cases ht:BV (Bm d (Ct d o)) o.ah with
  |some t=>exact⟨_,_,_,rfl, .inl ⟨by split<;>(try split)<;>simp,rfl⟩⟩
  |none=>
   by_cases t:a.af=0
   ·simp only[Ba,if_false,if_pos t,Option.isSome_none];rw[if_neg (by simp[t]),rV (by omega),Aa];cases hm:(Ca d o).any (· ==a.br)with
    |false=>exact⟨_,_,_,rfl, .inl ⟨by simp,rfl⟩⟩
    |true=>
     have c:=b1 _ (mG.1 hm);obtain⟨t1,t2,_⟩:=G5 g c.1 c.2;obtain⟨w2,gs⟩:=g.bu _ t2;rw[if_neg (by simp),t1,Aa,zDr w2 gs,Aa,zCg g.di (by omega) (by omega) (by omega),Aa];by_cases hq:(Bm d a.br).aw=100000
     ·exact⟨_,_,_,rfl, .inl ⟨by simp only[if_true,Ba,if_false,if_pos hq],by rw[if_pos hq]⟩⟩
     ·refine⟨_,_,_,rfl, .inr ⟨?_,by rw[if_neg hq]⟩⟩;simp only[if_true,Ba,if_false,if_neg hq]
   ·simp only[Ba,if_false,if_neg t];rw[if_pos (by simp[t])];exact⟨_,_,_,rfl, .inl ⟨by simp,rfl⟩⟩
 ·rw[if_neg (by simpa using k1),if_neg k1];by_cases k2:a.az=2
  ·rw[if_pos (by simpa using k2),if_pos k2];have e:Az (λz:Int × Int=>Pk d o a (Ca d o) (Ct d o) z.1 z.2) (a.af,0)=match KF d o.ah (Ca d o) a.af with|none=>some (⟨0,0,0,0,[],[],false⟩,0,false)|some m=>Vi o a (Ct d o) m:=by
    refine(VQ (xs:=Ca d o) (body:=λz:Int × Int=>Pk d o a (Ca d o) (Ct d o) z.1 z.2) (λi n=>(n,i)) (λp n=>match Cq (Bm d p) o.ah with|none=>some (.inr (some (⟨0,0,0,0,[],[],false⟩,0,false)))|some h=>some (.inl (if h.af>n then h.af else n))) (λn=>Vi o a (Ct d o) n)
     (λi hi n=>by
      have c:=b1 _ (Ay hi);obtain⟨t1,t2,_⟩:=G5 g c.1 c.2;obtain⟨w1,_⟩:=g.bu _ t2;have hw:=w1.ee;show Pk d o a (Ca d o) (Ct d o) n (i:Int)=_;unfold Pk;rw[if_pos (by simpa using hi),AJ hi,Aa,t1,Aa,ZH (by omega),Aa,Be (by omega)];cases hh:Cq (Bm d (Ca d o)[i]) o.ah with
      |none=>rfl
      |some h=>
       simp only[Bool.not_true,Ba,if_false];have em:Ki n h.af=some (if h.af>n then h.af else n):=by
        unfold Ki;by_cases q1:n>h.af
        ·rw[if_pos (by simpa using q1),if_neg (by omega)]
        ·rw[if_neg (by simpa using q1)];by_cases q2:h.af>n
         ·rw[if_pos q2]
         ·rw[if_neg q2,show h.af=n by omega]
       rw[em,Aa];rfl)
     (λn=>by show Pk d o a (Ca d o) (Ct d o) n ((Ca d o).length:Int)=_;unfold Pk;rw[if_neg (by simp)]) a.af).trans ?_
    rw[aW (d:=d) (t:=o.ah) λp n=>rfl]
   rw[e];unfold KZ;cases hq:KF d o.ah (Ca d o) a.af with
   |none=>exact⟨_,_,_,rfl, .inl ⟨by split<;>(try split)<;>rfl,rfl⟩⟩
   |some m=>
    show∃r p b,Vi o a (Ct d o) m=some (r,p,b)/\_;unfold Vi;by_cases t:a.br=0
    ·rw[if_pos (by simpa using t),if_pos t,zwP,Aa];cases BJ a.af 0 100000 with
     |false=>exact⟨_,_,_,rfl, .inl ⟨by simp,rfl⟩⟩
     |true=>exact⟨_,_,_,rfl, .inr ⟨by simp,rfl⟩⟩
    ·rw[if_neg (by simpa using t),if_neg t];exact⟨_,_,_,rfl, .inl ⟨rfl,rfl⟩⟩
  ·rw[if_neg (by simpa using k2),if_neg k2];by_cases k3:a.az=3
   ·rw[if_pos (by simpa using k3),if_pos k3];by_cases t:a.br=0/\a.af=0
    ·exact⟨_,_,_,rfl, .inr ⟨by rw[if_pos t];rfl,by simp[t.1,t.2]⟩⟩
    ·exact⟨_,_,_,rfl, .inl ⟨by rw[if_neg t],by simp;omega⟩⟩
   ·rw[if_neg (by simpa using k3),if_neg k3];by_cases k4:a.az=4
    ·rw[if_pos (by simpa using k4),if_pos k4];have M7:=zxw (p:=a.br) (VS d.bc o.aq o.ae).1 b3;unfold KV;cases ht:BV (Bm d (Ct d o)) o.ah with
     |none=>exact⟨_,_,_,rfl, .inl ⟨by split<;>rfl,rfl⟩⟩
     |some t=>
      simp only[if_true];by_cases q:a.af=0
      ·rw[if_pos (by simpa using q),if_pos q];by_cases q2:a.br=Ct d o
       ·rw[if_neg (by simp[q2])];refine⟨_,_,_,rfl, .inl ⟨?_,rfl⟩⟩;have:((Ca d o).drop 1).any (· ==a.br)=false:=by
         refine M7.trans ?_;simp[q2]
        rw[this];rfl
       ·rw[if_pos (by simp[q2]),rV (by omega),Aa];have e2:((Ca d o).drop 1).any (· ==a.br)=(Ca d o).any (· ==a.br):=by
         refine M7.trans ?_;have:(a.br==Ct d o)=false:=by simpa using q2
         rw[this];rfl
        rw[e2];cases(Ca d o).any (· ==a.br)with
        |false=>exact⟨_,_,_,rfl, .inl ⟨rfl,rfl⟩⟩
        |true=>exact⟨_,_,_,rfl, .inr ⟨rfl,rfl⟩⟩
      ·rw[if_neg (by simpa using q),if_neg q];exact⟨_,_,_,rfl, .inl ⟨rfl,rfl⟩⟩
    ·rw[if_neg (by simpa using k4),if_neg k4];exact⟨_,_,_,rfl, .inl ⟨rfl,rfl⟩⟩
theorem sG{d:An}{t:Int}(h:d.ak.length<=2000000):VB d t=some (CY (λo=>o.ah==t) d.ak):=by
 unfold VB;rw[Z8 (xs:=d.ak) (body:=λi=>RX d t i) (λo=>o.ah==t) (λi hi=>by
  show RX d t (i:Int)=_;unfold RX;rw[if_pos (by simpa using hi),AJ hi,Aa,Be (by omega)];cases(d.ak[i]).ah==t<;>rfl) (by
  show RX d t (d.ak.length:Int)=_;unfold RX;rw[if_neg (by simp)])]
theorem rC{d:An}{a:CB}(g:GD d):R3 d a=some (KW (G4 d a)):=by
 have hl:=g.cg;unfold R3 G4;rw[sG (by omega),Aa];have MM:=PL (λo:AE=>o.ah==a.ah) d.ak;by_cases hi:CY (λo:AE=>o.ah==a.ah) d.ak<0
 ·have e:getI d.ak (CY (λo:AE=>o.ah==a.ah) d.ak)=none:=by unfold getI;rw[if_neg (by omega)]
  rw[if_pos (by simpa using hi),e];rfl
 ·obtain⟨o,e,_,ho⟩:=Z6 (p:=λo:AE=>o.ah==a.ah) (l:=d.ak) (by omega);obtain⟨go,so⟩:=g.cq o ho;rw[if_neg (by simpa using hi),e,Aa];obtain⟨r,p,b,e1,e2|e2⟩:=zEK (a:=a) g go so
  ·obtain⟨e2,rfl⟩:=e2;rw[e1,Aa,if_pos (by rfl)];simp only[e2];rfl
  ·obtain⟨e2,rfl⟩:=e2;have ok:=nX g go so e2;obtain⟨t1,t2,_⟩:=G5 g ok.lo ok.hi;obtain⟨w2,gs⟩:=g.bu _ t2;have t1:getI d.ar p=some (Bm d p):=t1;rw[e1,Aa,if_neg (by simp)];simp only[e2];rw[t1,Aa,zwi w2 gs ok.jf ok.ok ok.small,Aa];show _=some (KW (Le d (r,p)));unfold Le;show _=some (KW ((Cm (Bm d p) r).map _));cases hq:Cm (Bm d p) r with
   |none=>rfl
   |some s=>rw[if_neg (by simp),wU g,Aa,t1,Aa];rfl
theorem Kq{β:Type}{n:Nat}{body:Int->Option (Int ⊕ Option β)}{fin:Option β}(hs:∀i,i<n->body (i:Int)=some (.inl ((i+1:Nat):Int)))(he:body (n:Int)=some (.inr fin)):Az body 0=fin:=by
 have key:∀k q,q+k=n->Az body (q:Int)=fin:=by
  intro k
  induction k with
  |zero=>
   intro q hq;have:q=n:=by omega
   subst this;rw[EE,he]
  |succ k ih=>intro q hq;rw[EE,hs q (by omega)];exact ih (q+1) (by omega)
 exact key n 0 (by omega)
theorem vC{l:List Aj}(h:l.length<=2000000):Vn l l=some true:=by
 unfold Vn;rw[if_neg (by simp)];refine Kq (n:=l.length) (body:=λi=>Ra l l i) (λi hi=> ?_) ?_
 ·show Ra l l (i:Int)=_;unfold Ra;rw[if_pos (by simpa using hi),AJ hi,Aa,Aa,if_neg (by simp),Be (by omega)]
 ·show Ra l l (l.length:Int)=_;unfold Ra;rw[if_neg (by simp)]
theorem zuS{l:List Bool}(h:l.length<=2000000):YM l l=some true:=by
 unfold YM;rw[if_neg (by simp)];refine Kq (n:=l.length) (body:=λi=>Rb l l i) (λi hi=> ?_) ?_
 ·show Rb l l (i:Int)=_;unfold Rb;rw[if_pos (by simpa using hi),AJ hi,Aa,Aa,if_neg (by simp),Be (by omega)]
 ·show Rb l l (l.length:Int)=_;unfold Rb;rw[if_neg (by simp)]
theorem zzY{l:List Ap}(h:l.length<=2000000):Yx l l=some true:=by
 unfold Yx;rw[if_neg (by simp)];refine Kq (n:=l.length) (body:=λi=>QU l l i) (λi hi=> ?_) ?_
 ·show QU l l (i:Int)=_;unfold QU;rw[if_pos (by simpa using hi),AJ hi,Aa,Aa,if_neg (by simp),Be (by omega)]
 ·show QU l l (l.length:Int)=_;unfold QU;rw[if_neg (by simp)]
theorem zyd{l:List Aj}(h:l.length<=2000000):YN l l=some true:=by
 unfold YN;rw[if_neg (by simp)];refine Kq (n:=l.length) (body:=λi=>Rz l l i) (λi hi=> ?_) ?_
 ·show Rz l l (i:Int)=_;unfold Rz;rw[if_pos (by simpa using hi),AJ hi,Aa,Aa,if_neg (by simp),Be (by omega)]
 ·show Rz l l (l.length:Int)=_;unfold Rz;rw[if_neg (by simp)]
theorem zya{l:List Ap}(h:l.length<=2000000):YP l l=some true:=by
 unfold YP;rw[if_neg (by simp)];refine Kq (n:=l.length) (body:=λi=>RC l l i) (λi hi=> ?_) ?_
 ·show RC l l (i:Int)=_;unfold RC;rw[if_pos (by simpa using hi),AJ hi,Aa,Aa,if_neg (by simp),Be (by omega)]
 ·show RC l l (l.length:Int)=_;unfold RC;rw[if_neg (by simp)]
theorem zvy{l:List Ak}(h:NV l):YJ l l=some true:=by
 have hl:=h.1;unfold YJ;rw[if_neg (by simp)];refine Kq (n:=l.length) (body:=λi=>Ri l l i) (λi hi=> ?_) ?_
 ·have hv:=(h.2 _ (Ay hi)).2.1;show Ri l l (i:Int)=_;unfold Ri;rw[if_pos (by simpa using hi),AJ hi,Aa,Aa,if_neg (by simp)];refine Kq (n:=(l[i]).bb.length) (body:=λj=>Q6 (i:Int) l[i] l[i] j) (λj hj=> ?_) ?_
  ·show Q6 (i:Int) l[i] l[i] (j:Int)=_;unfold Q6;rw[if_pos (by simpa using hj),AJ hj,Aa,Aa,if_neg (by simp),Be (by omega)]
  ·show Q6 (i:Int) l[i] l[i] ((l[i]).bb.length:Int)=_;unfold Q6 tT;rw[if_neg (by simp),Be (by omega)]
 ·show Ri l l (l.length:Int)=_;unfold Ri;rw[if_neg (by simp)]
theorem zxE{r:AP}(h:F8 r):Zi r r=some true:=by unfold Zi;simp only[beq_self_eq_true,if_true];rw[zyd h.reads.1,Aa,if_pos rfl,zya h.writes.1,Aa]
theorem zuT{s:Ai}(h:IY s):YG s s=some true:=by
 have h1:=h.gl;have h2:=h.kt;unfold YG;rw[if_neg (by simp),zvy h.cells,Aa,if_neg (by simp)];refine Kq (n:=s.ab.length) (body:=λi=>Rg s s i) (λi hi=> ?_) ?_
 ·show Rg s s (i:Int)=_;unfold Rg;have e:Po s.ab[i]=some (Ef s.ab[i]):=rfl;rw[if_pos (by simpa using hi),AJ hi,Aa,e,Aa,Aa,e,Aa,zxE (h.held _ (Ay hi)),Aa,if_neg (by simp),Be (by omega)]
 ·show Rg s s (s.ab.length:Int)=_;unfold Rg;rw[if_neg (by simp)];unfold tH;rw[Kq (n:=s.au.length) (body:=λi=>Q8 s s i) (λi hi=>by
   show Q8 s s (i:Int)=_;unfold Q8;rw[if_pos (by simpa using hi),AJ hi,Aa,Aa,if_neg (by simp),Be (by omega)]) (by
   show Q8 s s (s.au.length:Int)=_;unfold Q8;rw[if_neg (by simp)])]
theorem vX{d:An}(h:Mv d):Vl d d=some true:=by
 have h1:=h.ek;have h2:=h.cg;unfold Vl;rw[vC h.cuts.1,Aa,if_neg (by simp)];refine Kq (n:=d.ar.length) (body:=λi=>Rf d d i) (λi hi=> ?_) ?_
 ·show Rf d d (i:Int)=_;unfold Rf;rw[if_pos (by simpa using hi),AJ hi,Aa,Aa,zuT (h.bu _ (Ay hi)),Aa,if_neg (by simp),Be (by omega)]
 ·show Rf d d (d.ar.length:Int)=_;unfold Rf;rw[if_neg (by simp)];unfold tR;rw[Kq (n:=d.ak.length) (body:=λi=>Rc d d i) (λi hi=>by
   have ho:=h.cq _ (Ay hi);show Rc d d (i:Int)=_;unfold Rc;rw[if_pos (by simpa using hi),AJ hi,Aa,Aa,if_neg (by simp),vC ho.reads.1,Aa,if_pos rfl,zzY ho.writes.1,Aa,if_neg (by simp),Be (by omega)]) (by
   show Rc d d (d.ak.length:Int)=_;unfold Rc;rw[if_neg (by simp)])]
theorem wX{α:Type}{key:α->Int}{l:List α}(h:Cd key l){i:Nat}(hi:i<l.length):P5 key l i=true:=by
 by_cases h0:0<i
 ·rw[PG hi h0];exact decide_eq_true (h.mono hi (by omega))
 ·exact VK h0
theorem zEP{s:Ai}(w:WS s)(g:Iu s):HH s=true:=by
 have hg:=ZO.2 g;have hl:=w.ct;unfold N4 K8 at hg;simp only[Ab,A3]at hg;obtain⟨g1,g2,⟨g3,g4⟩,g5,g6⟩:=hg;unfold HH Ky;simp only[Ab,AI,A3];refine⟨g1,g2,⟨λi hi=> ?_,w.ee,g4⟩,hl,g5,λi hi=> ?_⟩
 ·unfold I3;rw[g3 i hi,wX w.di (List.mem_range.1 hi)];rfl
 ·have hi:=List.mem_range.1 hi;rw[SJ hi,wX w.dh hi,E5.2 (w.told _ (Ay hi)),g6 _ (Ay hi)];rfl
theorem Z7{d:An}(g:GD d):Lk d=true:=by have h1:=g.ee;have h2:=g.len;unfold Lk Ds;simp only[Ab,AI,A3];refine⟨⟨⟨g.keys,?_⟩,by omega⟩,h2,λs hs=>zEP (g.bu s hs).1 (g.bu s hs).2,g.os⟩;rw[Mc];exact(Ks (r:=bl) λa b c p q=>EF p q).2 g.di
theorem zyS{s:Ai}(w:WS s)(g:Iu s):IY s:=⟨w.cells.small (by omega),by have:=w.ee;omega,xK w g,by have:=w.ct;omega⟩
theorem Su{d:An}(g:GD d):Mv d:=by have h1:=g.ee;have h2:=g.len;have h3:=g.cg;refine⟨⟨by omega,λk hk=> ?_⟩,by omega,λs hs=>zyS (g.bu s hs).1 (g.bu s hs).2,by omega,λo ho=>(g.cq o ho).2⟩;have:=g.keys k hk;unfold CC at this;rw[Ab]at this;have:=E5.1 this.1;omega
theorem wW:Mv ⟨[],[],[]⟩:=⟨⟨by simp,by simp⟩,by simp,by simp,by simp,by simp⟩
theorem ZJ{α:Type}{key:α->Int}{x:α}{t:Int}:∀{l:List α},(∀y∈l,key y≠key x)->(DN key x l).find? (λy=>key y==t)=if key x=t then some x else l.find? (λy=>key y==t)
 | [],_=>by unfold DN;by_cases e:key x=t<;>simp[e]
 |y::l,h=>by
  have ih:=ZJ (t:=t) (l:=l) λz hz=>h z (by simp[hz]);have hy:=h y (by simp);unfold DN;split
  ·rw[List.find?_cons];by_cases e:key x=t
   ·simp[e]
   ·have e2:(key x==t)=false:=by simpa using e
    rw[e2,if_neg e]
  ·rw[List.find?_cons,List.find?_cons,ih];by_cases e:key x=t
   ·have:(key y==t)=false:=by simpa using λq=>hy (q.trans e.symm)
    rw[this,if_pos e]
   ·rw[if_neg e];simp[e]
theorem zza{l:List AG}{t t':Int}(h:t'≠t):(FH l t).find? (λy=>hk y==t')=l.find? λy=>hk y==t':=by
 unfold FH
 induction l with
 |nil=>rfl
 |cons y l ih=>
  rw[List.filter_cons];by_cases e:hk y=t
  ·have e2:(hk y==t')=false:=by simpa using λq=>h (q.symm.trans e)
   rw[show decide (hk y≠t)=false by simp[e],if_neg (by simp),ih,List.find?_cons,e2]
  ·rw[show decide (hk y≠t)=true by simpa using e,if_pos rfl,List.find?_cons,List.find?_cons,ih]
theorem zwf{s s':Ai}{r:AP}{t:Int}(e:Cm s r=some s')(h4:r.az≠4)(ht:t≠r.ah):BV s' t=BV s t/\Cq s' t=Cq s t:=by
 unfold Cm at e;rw[if_neg h4]at e;split at e
 ·cases e
 ·rename_i C8;have hn:=Sl C8;have T:∀(fl:Int) (c:List Ak) (hs:List AG),BV ⟨fl,c,hs,KI s r⟩ t=BV s t:=λfl c hs=>by
   show(DN tk ⟨r.ah,r.bg,r.af⟩ s.au).find? (λy=>tk y==t)=_;rw[ZJ hn,if_neg (λq=>ht q.symm)];rfl
  have H:∀(fl:Int) (c:List Ak) (ts:List Bz),Cq ⟨fl,c,FH s.ab r.ah,ts⟩ t=Cq s t:=λfl c ts=>zza ht;split at e
  ·split at e
   ·cases e
   ·rename_i FO;have hh:=VX FO;split at e
    ·cases e
    ·split at e
     ·cases e;refine⟨rfl,?_⟩;show(DN hk (Ll r) s.ab).find? (λy=>hk y==t)=_;rw[ZJ hh,if_neg (λq=>ht q.symm)];rfl
     ·cases e
  ·split at e
   ·split at e
    ·cases e
    ·split at e
     ·cases e
     ·split at e
      ·cases e
      ·cases e;exact⟨T _ _ _,H _ _ _⟩
   ·cases e;exact⟨T _ _ _,H _ _ _⟩
theorem xT{s s':Ai}{r:AP}(e:Cm s r=some s')(h4:r.az≠4):BV s r.ah=none:=by
 unfold Cm at e;rw[if_neg h4]at e;split at e
 ·cases e
 ·rename_i h;cases hq:BV s r.ah with
  |none=>rfl
  |some x=>rw[hq]at h;exact absurd rfl h
theorem zyN{s s':Ai}{r:AP}(e:Cm s r=some s')(h1:r.az=1)(t:Int):BV s' t=BV s t:=by
 unfold Cm at e;rw[if_neg (by omega)]at e;split at e
 ·cases e
 ·split at e
  ·cases e
  ·split at e
   ·cases e
   ·split at e
    ·cases e;rfl
    ·cases e
theorem xV{s s':Ai}{r:AP}(e:Cm s r=some s')(h1:r.az≠1)(h4:r.az≠4):BV s' r.ah=some ⟨r.ah,r.bg,r.af⟩:=by
 have DI:=xT e h4;unfold Cm at e;rw[if_neg h4]at e;split at e
 ·cases e
 ·rename_i C8;have hn:=Sl C8;have T:∀(fl:Int) (c:List Ak) (hs:List AG),BV ⟨fl,c,hs,KI s r⟩ r.ah=some ⟨r.ah,r.bg,r.af⟩:=λfl c hs=>by
   show(DN tk ⟨r.ah,r.bg,r.af⟩ s.au).find? (λy=>tk y==r.ah)=_;rw[ZJ hn,if_pos rfl]
  split at e
  ·split at e
   ·cases e
   ·split at e
    ·cases e
    ·split at e
     ·cases e
     ·cases e;exact T _ _ _
  ·cases e;exact T _ _ _
theorem xZ{d:An}{t:Int}:∀{ps:List Int} {n m:Int},KF d t ps n=some m-> ∀p∈ps,(Cq (Bm d p) t).isSome=true
 | [],_,_,_,p,h=>by simp at h
 |q::ps,n,m,e,p,h=>by
  unfold KF at e;split at e
  ·cases e
  ·rename_i x hx;rcases Ae.1 h with rfl|h
   ·rw[hx];rfl
   ·exact xZ e p h
theorem zzi{d:An}{o:AE}{a:CB}{x:AP × Int}(go:DA o=true)(e:Ka d o a=some x):x.1.ah=o.ah/\((x.1.az=1/\BV (Bm d (Ct d o)) o.ah=none)\/
  (x.1.az=2/\x.2=Ct d o/\(x.1.bg=true-> ∀p∈Ca d o,(Cq (Bm d p) o.ah).isSome=true))\/
  (x.1.az=3/\x.2≠Ct d o/\ ∃t,BV (Bm d (Ct d o)) o.ah=some t/\x.1.af=t.af/\x.1.bg=t.bg)):=by
 unfold Ka at e;split at e
 ·split at e
  ·unfold Kb at e;split at e
   ·split at e
    ·cases e
    ·rename_i ht;split at e
     ·cases e
     ·cases e;refine⟨rfl, .inl ⟨rfl,?_⟩⟩;cases hq:BV (Bm d (Ct d o)) o.ah with
      |none=>rfl
      |some y=>rw[hq]at ht;exact absurd rfl ht
   ·cases e
  ·cases e
 ·split at e
  ·split at e
   ·unfold KZ at e;split at e
    ·split at e
     ·cases e
     ·rename_i n hn;cases e;exact⟨rfl, .inr (.inl ⟨rfl,rfl,λ_=>xZ hn⟩)⟩
    ·cases e
   ·cases e
  ·split at e
   ·split at e
    ·cases e;exact⟨rfl, .inr (.inl ⟨rfl,rfl,λh=>by cases h⟩)⟩
    ·cases e
   ·split at e
    ·split at e
     ·unfold KV at e;split at e
      ·cases e
      ·rename_i t ht;split at e
       ·rename_i hm;cases e;refine⟨rfl, .inr (.inr ⟨rfl,λq=> ?_,t,ht,rfl,rfl⟩)⟩;obtain⟨_,_,b3,_⟩:=Jq (d:=d) go;rw[show((Ca d o).drop 1).any (· ==a.br)=_ from zxw (VS d.bc o.aq o.ae).1 b3]at hm;have q:a.br=Ct d o:=q;simp[q]at hm
       ·cases e
     ·cases e
    ·cases e
structure oT(d:An)(o:AE):Prop where
 lead:∀p∈Ca d o,∀x,BV (Bm d p) o.ah=some x->BV (Bm d (Ct d o)) o.ah=some x
 yes:∀x,BV (Bm d (Ct d o)) o.ah=some x->x.bg=true-> ∀p∈Ca d o,(BV (Bm d p) o.ah).isSome=true\/(Cq (Bm d p) o.ah).isSome=true
def Qb(d:An):Prop:= ∀o∈d.ak,oT d o
theorem zBi{l:List AE}(h:Jt l=true){o o':AE}(ho:o∈l)(Jb:o'∈l)(e:o.ah=o'.ah):o=o':=by
 unfold Jt at h;rw[Ab]at h;have ha:=NQ h.1;have key:∀i j (hi:i<l.length) (hj:j<l.length),i<j->l[i].ah≠l[j].ah:=λi j hi hj Ei q=>by have:=ha j hj;rw[V2 hj]at this;simp only[Ab,Bc,List.any_eq_false]at this;have:=this.2 l[i] (List.mem_iff_getElem.2 ⟨i,by rw[Ar];omega,by rw[List.getElem_take]⟩);simp[q]at this
 obtain⟨i,hi,rfl⟩:=List.mem_iff_getElem.1 ho;obtain⟨j,hj,rfl⟩:=List.mem_iff_getElem.1 Jb;rcases Nat.lt_trichotomy i j with k|k|k
 ·exact absurd e (key i j hi hj k)
 ·subst k;rfl
 ·exact absurd e.symm (key j i hj hi k)
theorem zB2{d:An}{p q:Int}{s:Ai}{c:List Aj}{os:List AE}(hp:p.toNat<d.ar.length)(h0:0<=p)(h1:0<=q):Bm ⟨c,d.ar.set p.toNat s,os⟩ q=if q=p then s else Bm d q:=by
 unfold Bm;show((d.ar.set p.toNat s)[q.toNat]?).getD KS=_;by_cases e:q=p
 ·subst e;rw[List.getElem?_set_self hp,if_pos rfl];rfl
 ·rw[List.getElem?_set_ne (by omega),if_neg e]
theorem zDm{d d':An}{a:CB}(g:GD d)(ag:Qb d)(e:G4 d a=some d'):Qb d':=by
 unfold G4 at e;split at e
 ·cases e
 ·rename_i o' Jb;have Jb:=zxs Jb;obtain⟨go',so'⟩:=g.cq o' Jb;cases hr:Ka d o' a with
  |none=>rw[hr]at e;cases e
  |some x=>
   rw[hr]at e;have ok:=nX g go' so' hr;obtain⟨st1,st2,st3⟩:=G5 g ok.lo ok.hi;obtain⟨r1,r2⟩:=zzi go' hr;have e:Le d x=some d':=e;unfold Le at e;cases ha:Cm (Bm d x.2) x.1 with
   |none=>rw[ha]at e;cases e
   |some s'=>
    rw[ha]at e;have e:some (⟨d.bc,d.ar.set x.2.toNat s',d.ak⟩:An)=some d':=e;have e:=Option.some.inj e;subst e;have h4:x.1.az≠4:=by rcases r2 with⟨k,_⟩|⟨k,_⟩|⟨k,_⟩<;>omega
    intro o ho;have ho:o∈d.ak:=ho;obtain⟨go,_⟩:=g.cq o ho;have A:=ag o ho;obtain⟨b1,_,_,b4⟩:=Jq (d:=d) go;have S:∀q,0<=q->Bm ⟨d.bc,d.ar.set x.2.toNat s',d.ak⟩ q=if q=x.2 then s' else Bm d q:=λq hq=>zB2 st3 ok.lo hq;have S0:=S (Ct d o) (b1 _ b4).1;show oT _ o;by_cases BB:o.ah=x.1.ah
    ·have hoo:o=o':=zBi g.os ho Jb (BB.trans r1);subst hoo;rcases r2 with⟨k1,n1⟩|⟨k2,n2,n3⟩|⟨k3,n4,t,n5,n6,n7⟩
     ·have T:∀q,0<=q->BV (Bm ⟨d.bc,d.ar.set x.2.toNat s',d.ak⟩ q) o.ah=BV (Bm d q) o.ah:=λq hq=>by
       rw[S q hq];split
       ·rename_i q';rw[zyN ha k1,q']
       ·rfl
      have n1':BV (Bm ⟨d.bc,d.ar.set x.2.toNat s',d.ak⟩ (Ct d o)) o.ah=none:=by rw[T _ (b1 _ b4).1];exact n1
      refine⟨λp hp y hy=> ?_,λy hy=> ?_⟩
      ·rw[T p (b1 p hp).1]at hy;have:=A.lead p hp y hy;rw[n1]at this;cases this
      ·have hy:BV (Bm ⟨d.bc,d.ar.set x.2.toNat s',d.ak⟩ (Ct d o)) o.ah=some y:=hy;rw[n1']at hy;cases hy
     ·have DI:=xT ha h4;have C8:=xV ha (by omega) h4;rw[<-BB,n2]at DI;rw[<-BB]at C8;rw[if_pos n2.symm]at S0;have L:BV (Bm ⟨d.bc,d.ar.set x.2.toNat s',d.ak⟩ (Ct d o)) o.ah=some ⟨o.ah,x.1.bg,x.1.af⟩:=by rw[S0];exact C8
      refine⟨λp hp y hy=> ?_,λy hy FW p hp=> ?_⟩
      ·by_cases q:p=Ct d o
       ·rw[q]at hy;exact hy
       ·rw[S p (b1 p hp).1,if_neg (by rw[n2];exact q)]at hy;have:=A.lead p hp y hy;rw[DI]at this;cases this
      ·have hy:BV (Bm ⟨d.bc,d.ar.set x.2.toNat s',d.ak⟩ (Ct d o)) o.ah=some y:=hy;rw[L]at hy;cases hy;by_cases q:p=Ct d o
       ·left;rw[q,L];rfl
       ·right;rw[S p (b1 p hp).1,if_neg (by rw[n2];exact q)];exact n3 FW p hp
     ·have C8:=xV ha (by omega) h4;rw[<-BB]at C8;have ht:t.ah=o.ah:=by simpa using List.find?_some n5
      have C8:BV s' o.ah=some t:=by rw[C8,n6,n7,<-ht]
      rw[if_neg (λq=>n4 q.symm)]at S0;have L:BV (Bm ⟨d.bc,d.ar.set x.2.toNat s',d.ak⟩ (Ct d o)) o.ah=some t:=by rw[S0];exact n5
      refine⟨λp hp y hy=> ?_,λy hy FW p hp=> ?_⟩
      ·show BV (Bm ⟨d.bc,d.ar.set x.2.toNat s',d.ak⟩ (Ct d o)) o.ah=_;rw[L];by_cases q:p=x.2
       ·rw[S p (b1 p hp).1,if_pos q,C8]at hy;exact hy
       ·rw[S p (b1 p hp).1,if_neg q]at hy;have:=A.lead p hp y hy;rw[n5]at this;exact this
      ·have hy:BV (Bm ⟨d.bc,d.ar.set x.2.toNat s',d.ak⟩ (Ct d o)) o.ah=some y:=hy;rw[L]at hy;cases hy;by_cases q:p=x.2
       ·left;rw[S p (b1 p hp).1,if_pos q,C8];rfl
       ·rw[S p (b1 p hp).1,if_neg q];exact A.yes _ n5 FW p hp
    ·have T:∀q,0<=q->BV (Bm ⟨d.bc,d.ar.set x.2.toNat s',d.ak⟩ q) o.ah=BV (Bm d q) o.ah/\Cq (Bm ⟨d.bc,d.ar.set x.2.toNat s',d.ak⟩ q) o.ah=Cq (Bm d q) o.ah:=λq hq=>by
      rw[S q hq];split
      ·rename_i q';rw[q'];exact zwf ha h4 BB
      ·exact⟨rfl,rfl⟩
     have TL:=(T _ (b1 _ b4).1).1;refine⟨λp hp y hy=> ?_,λy hy FW p hp=> ?_⟩
     ·rw[(T p (b1 p hp).1).1]at hy;show BV (Bm ⟨d.bc,d.ar.set x.2.toNat s',d.ak⟩ (Ct d o)) o.ah=_;rw[TL];exact A.lead p hp y hy
     ·have hy:BV (Bm ⟨d.bc,d.ar.set x.2.toNat s',d.ak⟩ (Ct d o)) o.ah=some y:=hy;rw[TL]at hy;rw[(T p (b1 p hp).1).1,(T p (b1 p hp).1).2];exact A.yes y hy FW p hp
def Xl(d:An):Prop:= ∀s∈d.ar,s=KS
theorem zB7{d:An}(h:Xl d):Qb d:=λo _=>by
 have S:∀p,Bm d p=KS:=λp=>by
  unfold Bm;cases hq:d.ar[p.toNat]? with
  |none=>rfl
  |some s=>exact h s (List.mem_of_getElem? hq)
 refine⟨λp _ x hx=> ?_,λx hx=> ?_⟩
 ·rw[S]at hx;cases hx
 ·rw[S]at hx;cases hx
def WO(x y:Bz):Bool:=x.ah==y.ah&&(x.bg==y.bg&&(x.af==y.af))
def aU(l:List Bz)(n:Int):Bool:=match l with
 | []=>true
 |y::_=> !(l.any λx=> !(WO x y)||(x.bg&&decide (n>0)))
def Gf(t:Int)(z:Int × List Bz)(s:Ai):Int × List Bz:=match BV s t with
 |some x=>(z.1,z.2++ [x])
 |none=>if(Cq s t).isSome=true then z else(z.1+1,z.2)
theorem zAq{ss:List Ai}{t:Int}(hl:ss.length<=1000)(hw:∀s∈ss,WS s):jQ ss t=some (aU (ss.foldl (Gf t) (0,[])).2 (ss.foldl (Gf t) (0,[])).1):=by
 obtain⟨a,b⟩:=E7 (xs:=ss) (body:=λz:Int × Int × List Bz=>Rp ss t z.1 z.2.1 z.2.2) (λi (z:Int × List Bz)=>(i,z.1,z.2)) (Gf t) (λz=>iX z.1 z.2) (λi z=>(0<=z.1/\z.1<=i)/\z.2.length<=i)
  (λi hi z hz=>by
   have w:=hw _ (Ay hi);have w1:=w.ee;have w2:=w.ct;refine⟨?_,?_⟩
   ·show Rp ss t (i:Int) z.1 z.2=_;unfold Rp Gf;rw[if_pos (by simpa using hi),AJ hi,Aa,SG (by omega) w.dh,Aa,Be (by omega)];cases ht:BV ss[i] t with
    |some x=>rw[if_pos (by rfl)];show(getI (ss[i]).au ((AF (A0 tk t) (ss[i]).au:Nat):Int)).bind _=_;rw[lU w.dh ht,Aa,A7 (by simp only[RM,AS];omega)]
    |none=>rw[if_neg (by simp),SA (by omega) w.di,Aa,show IntKind.i64.wrap (z.1+1)=z.1+1 from CQ (by omega) (by omega)];cases(Cq ss[i] t).isSome<;>rfl
   ·unfold Gf;split
    ·simp only[AH,AS];omega
    ·split<;>(try dsimp only)<;>omega)
  (λz _=>by show Rp ss t (ss.length:Int) z.1 z.2=_;unfold Rp;rw[if_neg (by simp)]) (s:=(0,[])) ⟨⟨by simp,by simp⟩,by simp⟩
 refine a.trans ?_;unfold iX;generalize ss.foldl (Gf t) (0,[])=z at b;obtain⟨n,l⟩:=z;cases l with
 |nil=>rw[show D4 ([]:List Bz) (λy0_=>U7 y0_ [] n)=some false from Kx (λ_=>false) (by simp) (by simp)];rfl
 |cons y l=>have e:D4 (y::l) (λy0_=>U7 y0_ (y::l) n)=some ((y::l).any λx=> !(WO x y)||(x.bg&&decide (n>0))):=Kx _ (λx _=>rfl) (by have hb:=b.2;simp only[Bd]at hb ⊢;omega);show(D4 (y::l) (λy0_=>U7 y0_ (y::l) n)).bind _=_;rw[e];rfl
def S1(d:An)(o:AE):Bool:=aU (((Ca d o).map (Bm d)).foldl (Gf o.ah) (0,[])).2 (((Ca d o).map (Bm d)).foldl (Gf o.ah) (0,[])).1
theorem zyZ{d:An}(g:GD d):YL d=some (d.ak.all (S1 d),true):=by
 have hl:=g.cg;have hf:=g.ee;unfold YL;rw[SD (Su g),Z7 g,Aa,if_neg (by simp)];rw[GY (xs:=d.ak) (body:=λi=>Rj d i) (S1 d) (false,true) (some (true,true)) (λi hi=> ?_) (by show Rj d (d.ak.length:Int)=_;unfold Rj;rw[if_neg (by simp)])]
 ·cases d.ak.all (S1 d)<;>rfl
 ·obtain⟨go,_⟩:=g.cq _ (Ay hi);obtain⟨b1,b2,_,_⟩:=Jq (d:=d) go;show Rj d (i:Int)=_;unfold Rj;rw[if_pos (by simpa using hi),AJ hi,Aa,Sy g go,Aa];refine((E7 (xs:=Ca d d.ak[i]) (body:=λz:Int × List Ai=>Re d (i:Int) d.ak[i] (Ca d d.ak[i]) z.1 z.2) (λj z=>(j,z)) (λo p=>o++ [Bm d p]) (λz=>gZ (i:Int) d.ak[i] z) (λj z=>z.length=j)
   (λj hj z hz=>by have c:=b1 _ (Ay hj);refine⟨?_,by simp[hz]⟩;show Re d (i:Int) d.ak[i] (Ca d d.ak[i]) (j:Int) z=_;unfold Re;rw[if_pos (by simpa using hj),AJ hj,Aa,(G5 g c.1 c.2).1,Aa,A7 (by simp only[RM,AS];omega),Be (by omega)])
   (λz _=>by show Re d (i:Int) d.ak[i] (Ca d d.ak[i]) ((Ca d d.ak[i]).length:Int) z=_;unfold Re;rw[if_neg (by simp)]) (s:=[]) rfl).1).trans ?_
  rw[foldl_map,List.nil_append];unfold gZ;rw[zAq (by rw[List.length_map];omega) λs hs=>by obtain⟨p,hp,rfl⟩:=List.mem_map.1 hs;exact(g.bu _ (G5 g (b1 p hp).1 (b1 p hp).2).2.1).1,Aa,Be (by omega)]
  unfold S1;cases aU (((Ca d d.ak[i]).map (Bm d)).foldl (Gf (d.ak[i]).ah) (0,[])).2 (((Ca d d.ak[i]).map (Bm d)).foldl (Gf (d.ak[i]).ah) (0,[])).1<;>rfl
theorem yJ{t:Int}{x0:Bz}:∀(ss:List Ai) (z:Int × List Bz),(∀s∈ss,∀x,BV s t=some x->x=x0)->(∀x∈z.2,x=x0)-> ∀x∈(ss.foldl (Gf t) z).2,x=x0
 | [],z,_,hz=>hz
 |s::ss,z,hs,hz=>by
  rw[List.foldl_cons];refine yJ ss _ (λy hy=>hs y (by simp[hy])) λx hx=> ?_;unfold Gf at hx;split at hx
  ·rename_i y hy;rcases Ac.1 hx with h|h
   ·exact hz x h
   ·simp only[List.mem_singleton]at h;rw[h];exact hs s (by simp) y hy
  ·split at hx<;>exact hz x hx
theorem zB{t:Int}:∀(ss:List Ai) (z:Int × List Bz),(∀s∈ss,(BV s t).isSome=true\/(Cq s t).isSome=true)->(ss.foldl (Gf t) z).1=z.1
 | [],_,_=>rfl
 |s::ss,z,hs=>by
  rw[List.foldl_cons,zB ss _ λy hy=>hs y (by simp[hy])];unfold Gf;have:=hs s (by simp);cases ht:BV s t with
  |some x=>rfl
  |none=>
   rw[ht]at this;rcases this with h|h
   ·cases h
   ·simp only[h,if_true]
theorem zF{t:Int}:∀(ss:List Ai) (z:Int × List Bz),(∀s∈ss,BV s t=none)->(ss.foldl (Gf t) z).2=z.2
 | [],_,_=>rfl
 |s::ss,z,hs=>by rw[List.foldl_cons,zF ss _ λy hy=>hs y (by simp[hy])];unfold Gf;rw[hs s (by simp)];dsimp only;split<;>rfl
theorem zEu{d:An}(ag:Qb d):d.ak.all (S1 d)=true:=by
 rw[A3];intro o ho;have A:=ag o ho;unfold S1;cases hl:BV (Bm d (Ct d o)) o.ah with
 |none=>
  rw[zF _ _ λs hs=>by
   obtain⟨p,hp,rfl⟩:=List.mem_map.1 hs;cases hq:BV (Bm d p) o.ah with
   |none=>rfl
   |some x=>have:=A.lead p hp x hq;rw[hl]at this;cases this]
  rfl
 |some x0=>
  have h1:=yJ (t:=o.ah) (x0:=x0) ((Ca d o).map (Bm d)) (0,[]) (λs hs x hx=>by obtain⟨p,hp,rfl⟩:=List.mem_map.1 hs;have:=A.lead p hp x hx;rw[hl]at this;exact(Option.some.inj this).symm) (by simp)
  have h2:x0.bg=true->(((Ca d o).map (Bm d)).foldl (Gf o.ah) (0,[])).1=0:=λhy=>zB _ _ λs hs=>by obtain⟨p,hp,rfl⟩:=List.mem_map.1 hs;exact A.yes x0 hl hy p hp
  generalize ((Ca d o).map (Bm d)).foldl (Gf o.ah) (0,[])=z at h1 h2;obtain⟨n,l⟩:=z;cases l with
  |nil=>rfl
  |cons y l=>
   have hy:=h1 y (by simp);unfold aU;rw[Bc,List.any_eq_false];intro x hx;rw[h1 x hx,hy];have e:WO x0 x0=true:=by simp[WO]
   rw[e];cases hq:x0.bg with
   |false=>simp
   |true=>have:n=0:=h2 hq;rw[this];simp
end
end Go.Proofs.YtalagilebkaegaaGreat

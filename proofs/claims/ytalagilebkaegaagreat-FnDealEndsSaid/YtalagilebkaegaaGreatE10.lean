/- Parts of a proof, joined: NSW, NSX, NFG, NFH, NFK, NVA, NVB, NVC, NVD, NVE, NVH, NVI, NVM, NVL, NVP. -/
import Derived.Test.YtalagilebkaegaaGreatE9
set_option linter.unusedVariables false
set_option linter.unusedSimpArgs false
namespace Go.Proofs.YtalagilebkaegaaGreat
open Go.RowKit
section
set_option maxRecDepth 100000
set_option maxHeartbeats 1000000
set_option maxHeartbeats 2000000
structure WS(s:Ai):Prop where
 cells:DL 24 s.aq
 dv:s.ae.length<=12
 dg:Ci hk s.ae
 held:∀h∈s.ae,Ic h/\Oj h.af
 c9:Ci tk s.au
 told:∀t∈s.au,1<=tk t/\tk t<=60
structure Gp(r:AS):Prop where
 reads:r.ar.length<=8
 writes:r.af.length<=8
 dg:H6 r.af
 small:Oj r.af
 time:r.az≠1->r.az≠4->r.bf=true->0<r.ak
 mn:r.az≠4->1<=r.ah/\r.ah<=60
theorem WS.cc{s:Ai}(h:WS s):s.au.length<=60:=by have:=Ci.len (lo:=1) (hi:=60) h.c9 h.told;omega
def K8(r:AS):AL:=⟨r.ah,r.ak,r.bj,r.ar,r.af⟩
def FY(l:List AL)(t:Int):List AL:=l.filter λh=>decide (hk h≠t)
def K9(s:Ai)(r:AS):List A8:=DV tk ⟨r.ah,r.bf,r.ak⟩ s.au
def BS(s:Ai)(r:AS):Option Ai:=
 if r.az=4 then(if s.ax<r.ak then some ⟨r.ak,s.aq,s.ae,s.au⟩else none)
 else if(AU s r.ah).isSome=true then none
 else if r.az=1 then
  (if(Bw s r.ah).isSome=true then none
  else if r.ak<=s.ax then none
  else if LP s r.ar r.af=true then some ⟨r.ak,s.aq,DV hk (K8 r) s.ae,s.au⟩else none)
 else if r.bf=true then
  (match Bw s r.ah with
  |none=>none
  |some h=>if r.ak<h.ak then none else match KE s.aq h.af r.ak with
   |none=>none
   |some o=>some ⟨if s.ax<r.ak then r.ak else s.ax,o,FY s.ae r.ah,K9 s r⟩)
 else some ⟨s.ax,s.aq,FY s.ae r.ah,K9 s r⟩
theorem Tj{s:Ai}{t:Int}(h: ¬(AU s t).isSome=true):∀y∈s.au,tk y≠t:=by
 intro y hy e;have h:(AU s t)=none:=by cases hq:AU s t with|none=>rfl|some x=>rw[hq]at h;exact absurd rfl h
 have:=List.find?_eq_none.1 h y hy;simp[e]at this
theorem WR{s:Ai}{t:Int}(h: ¬(Bw s t).isSome=true):∀y∈s.ae,hk y≠t:=by
 intro y hy e;have h:(Bw s t)=none:=by cases hq:Bw s t with|none=>rfl|some x=>rw[hq]at h;exact absurd rfl h
 have:=List.find?_eq_none.1 h y hy;simp[e]at this
theorem DL.jj{n:Nat}{l:List An}(h:DL n l)(hg:EO l=true):DL 24 l:=by unfold EO at hg;simp only[Ab,AJ,AZ]at hg;obtain⟨h1,h2,_⟩:=hg;refine⟨h.1,by omega,λc hc=> ?_⟩;obtain⟨a,b,d⟩:=h.2.2 c hc;have:=h2 c hc;unfold Ft IB at this;simp only[Ab]at this;have h3:=this.2.1;unfold BP at h3;simp only[Ab,AJ]at h3;exact⟨a,by omega,d⟩
theorem zFs{l o:List An}{ws:List Ar}{t:Int}(h:DL 24 l)(hw:Oj ws)(e:KE l ws t=some o):DL 24 o:=by
 unfold KE at e;cases h1:Gl t l ws with
 |none=>rw[h1]at e;cases e
 |some p=>
  rw[h1]at e;have e:(if EO p=true then some p else none)=some o:=e;by_cases hg:EO p=true
  ·rw[if_pos hg]at e;cases e;exact DL.jj (rE (by have:=hw.1;omega) hw.2 h h1) hg
  ·rw[if_neg hg]at e;cases e
theorem WS.less{s:Ai}(h:WS s)(t:Int):(FY s.ae t).length<=12/\Ci hk (FY s.ae t)/\ ∀h∈FY s.ae t,Ic h/\Oj h.af:=
 ⟨by have:=List.length_filter_le (λh=>decide (hk h≠t)) s.ae;have:=h.dv;unfold FY;omega,h.dg.filter _,λy hy=>h.held y (List.mem_filter.1 hy).1⟩
theorem WS.mc{s:Ai}{r:AS}(h:WS s)(hr:Gp r)(h4:r.az≠4)(hn:∀y∈s.au,tk y≠r.ah):Ci tk (K9 s r)/\ ∀t∈K9 s r,1<=tk t/\tk t<=60:=
 ⟨h.c9.ins hn,λt ht=>by
  rcases Jh.1 ht with rfl|ht
  ·exact hr.mn h4
  ·exact h.told t ht⟩
theorem zys{s s':Ai}{r:AS}(h:WS s)(hr:Gp r)(e:BS s r=some s'):WS s':=by
 unfold BS at e;split at e
 ·split at e
  ·cases e;exact⟨h.cells,h.dv,h.dg,h.held,h.c9,h.told⟩
  ·cases e
 ·rename_i h4;split at e
  ·cases e
  ·rename_i CH;have hn:=Tj CH;split at e
   ·split at e
    ·cases e
    ·rename_i F3;split at e
     ·cases e
     ·split at e
      ·rename_i hf;cases e;have FZ:s.ae.length<12:=by
        unfold LP at hf;simp only[Ab,AJ]at hf;exact hf.2.1
       refine⟨h.cells,by rw[qG];omega,h.dg.ins (WR F3),λy hy=> ?_,h.c9,h.told⟩;rcases Jh.1 hy with rfl|hy
       ·exact⟨⟨hr.reads,hr.writes,hr.dg⟩,hr.small⟩
       ·exact h.held y hy
      ·cases e
   ·obtain⟨l1,l2,l3⟩:=h.less r.ah;obtain⟨t1,t2⟩:=h.mc hr h4 hn;split at e
    ·split at e
     ·cases e
     ·rename_i x hx;split at e
      ·cases e
      ·split at e
       ·cases e
       ·rename_i o ho;cases e;exact⟨zFs h.cells (h.held x (List.mem_of_find?_eq_some hx)).2 ho,l1,l2,l3,t1,t2⟩
    ·cases e;exact⟨h.cells,l1,l2,l3,t1,t2⟩
theorem zxa{h:AL}(hh:Ic h):ZQ h=some h:=by obtain⟨h1,h2,_⟩:=hh;unfold ZQ Sp SZ;have e1:Je h.ar=some h.ar:=JQ (by omega) (by omega);have e2:Ms h.af=some h.af:=JQ (by omega) (by omega);rw[Aa];show((Je h.ar).bind _).bind _=_;rw[e1,Aa];show((Ms h.af).bind _).bind _=_;rw[e2];rfl
theorem zBk{r:AS}(hr:Gp r):SZ r=some (K8 r):=by have h1:=hr.reads;have h2:=hr.writes;unfold SZ;have e1:Je r.ar=some r.ar:=JQ (by omega) (by omega);have e2:Ms r.af=some r.af:=JQ (by omega) (by omega);rw[e1,Aa,e2,Aa];rfl
theorem aK{s:Ai}(h:WS s):PZ s=some s:=by
 have hc:=h.cells;have hT:=h.cc;have hf:=h.dv;unfold PZ;have hC:R9 s.aq=some s.aq:=Ba ⟨by have:=hc.2.1;omega,λc Gq=>by have:=(hc.2.2 c Gq).2.1;omega⟩;have e2:jW s.au=some s.au:=JQ (by omega) (by omega);rw[hC,Aa,e2,Aa];refine((D5 (xs:=s.ae) (body:=λz:Int × List AL=>R5 s s.aq s.au z.1 z.2) (λi z=>(i,z)) (λo c=>o++ [c]) (λo=>some (⟨s.ax,s.aq,o,s.au⟩:Ai)) (λi o=>o.length=i)
  (λi hi o ho=>by refine⟨?_,by simp[ho]⟩;show R5 s s.aq s.au (i:Int) o=_;unfold R5;rw[if_pos (by simpa using hi),AH hi,Aa,zxa (h.held _ (Aw hi)).1,Aa,Ba (by simp only[AP];omega),Bb (by omega)])
  (λo ho=>by show R5 s s.aq s.au (s.ae.length:Int) o=_;unfold R5;rw[if_neg (by simp)]) (s:=[]) rfl).1).trans ?_
 have e:=foldl_map (λc:AL=>c) s.ae [];simp only[List.map_id',List.nil_append]at e;rw[e]
theorem wJ{α:Type}{key:α->Int}{l:List α}{x:α}(hl:l.length<=1000)(hn:∀y∈l,key y≠key x):IA l ((AK (A7 key (key x)) l:Nat):Int) [x]=some (DV key x l):=by have:=Oo (A7 key (key x)) l;unfold IA;rw[Ba ⟨by omega,by omega,by simp,by simp only[AP];omega⟩,CE,bW hn]
theorem zzT{s:Ai}{r:AS}(h:WS s)(hr:Gp r)(h1:r.az≠1)(h4:r.az≠4)(CH: ¬(AU s r.ah).isSome=true):YS s r=some (match BS s r with|some s'=>(s',true)|none=>((⟨0,[],[],[]⟩:Ai),false)):=by
 have hn:=Tj CH;have hf:=h.dv;have hT:=h.cc;unfold YS BS;rw[aK h,Aa,Qk (by omega) h.dg,Aa,if_neg h4,if_neg CH,if_neg h1];have tail:∀(c:List An) (fl:Int),YL r s (((AK (A7 hk r.ah) s.ae:Nat):Int),(Bw s r.ah).isSome) c fl=some ((⟨fl,c,FY s.ae r.ah,K9 s r⟩:Ai),true):=by
  intro c fl;unfold YL;have FD:IA s.au ((AK (A7 tk r.ah) s.au:Nat):Int) [(⟨r.ah,r.bf,r.ak⟩:A8)]=some (K9 s r):=wJ (key:=tk) (x:=⟨r.ah,r.bf,r.ak⟩) (by omega) hn;have Ec:=S2 (t:=r.ah) h.dg;cases hq:Bw s r.ah with
  |none=>have G7:s.ae.find? (λy=>hk y==r.ah)=none:=hq;simp only[Option.isSome_none,Bj,if_false];rw[Oh (s:=⟨fl,c,s.ae,s.au⟩) (by show s.au.length<=_;omega) h.c9,Aa,FD,Aa];unfold FY;rw[zqH G7]
  |some x=>
   have G7:s.ae.find? (λy=>hk y==r.ah)=some x:=hq;simp only[Option.isSome_some,if_true];rw[G7]at Ec;have hp:AK (A7 hk r.ah) s.ae<s.ae.length:=by
    rcases Nat.lt_or_ge (AK (A7 hk r.ah) s.ae) s.ae.length with hp|hp
    ·exact hp
    ·rw[List.getElem?_eq_none hp]at Ec;cases Ec
   rw[Bt hp]at Ec;have hkx:hk s.ae[AK (A7 hk r.ah) s.ae]=r.ah:=by
    by_cases hh:hk s.ae[AK (A7 hk r.ah) s.ae]=r.ah
    ·exact hh
    ·have Ec:some x=if hk s.ae[AK (A7 hk r.ah) s.ae]=r.ah then some s.ae[AK (A7 hk r.ah) s.ae]else none:=Ec;rw[if_neg hh]at Ec;cases Ec
   have J9:W2 s.ae ((AK (A7 hk r.ah) s.ae:Nat):Int) (IntKind.i64.wrap (((AK (A7 hk r.ah) s.ae:Nat):Int)+1))=some (FY s.ae r.ah):=by unfold W2 FY;rw[Bb (by omega),Ba ⟨by omega,by omega,by omega⟩,CE,CE,ztC h.dg hp hkx]
   rw[J9,Aa,Oh (s:=⟨fl,c,FY s.ae r.ah,s.au⟩) (by show s.au.length<=_;omega) h.c9,Aa,FD,Aa]
 by_cases hy:r.bf=true
 ·rw[if_pos hy,if_pos hy];cases hq:Bw s r.ah with
  |none=>rfl
  |some x=>
   have G7:s.ae.find? (λy=>hk y==r.ah)=some x:=hq;have Ec:=S2 (t:=r.ah) h.dg;rw[G7]at Ec;have hp:AK (A7 hk r.ah) s.ae<s.ae.length:=by
    rcases Nat.lt_or_ge (AK (A7 hk r.ah) s.ae) s.ae.length with hp|hp
    ·exact hp
    ·rw[List.getElem?_eq_none hp]at Ec;cases Ec
   have hx:s.ae[AK (A7 hk r.ah) s.ae]=x:=by
    rw[Bt hp]at Ec;have Ec:some x=if hk s.ae[AK (A7 hk r.ah) s.ae]=r.ah then some s.ae[AK (A7 hk r.ah) s.ae]else none:=Ec;split at Ec
    ·cases Ec;rfl
    ·cases Ec
   simp only[Option.isSome_some,if_true];rw[AH hp,Aa,hx];by_cases F7:r.ak<x.ak
   ·rw[if_pos (by simpa using F7),if_pos F7]
   ·rw[if_neg (by simpa using F7),if_neg F7,zEK h.cells (h.held x (List.mem_of_find?_eq_some G7)).2,Aa];cases ho:KE s.aq x.af r.ak with
    |none=>rfl
    |some o=>
     simp only[Bool.not_true,Bj,if_false];have t:=tail o (bif decide (r.ak>s.ax)then r.ak else s.ax);rw[hq]at t;refine t.trans ?_;by_cases Ca:s.ax<r.ak
     ·rw[if_pos Ca];simp[Ca]
     ·rw[if_neg Ca];simp[Ca]
 ·rw[if_neg hy,if_neg hy];exact tail s.aq s.ax
theorem zDP{s:Ai}{r:AS}(h:WS s)(hr:Gp r):YO s r=some (match BS s r with|some s'=>(s',true)|none=>((⟨0,[],[],[]⟩:Ai),false)):=by
 have hf:=h.dv;have hT:=h.cc;unfold YO;by_cases h4:r.az=4
 ·rw[if_pos (by simpa using h4)];unfold BS;rw[if_pos h4];by_cases Ca:s.ax<r.ak
  ·rw[if_neg (by simpa using Ca),if_pos Ca,aK h];rfl
  ·rw[if_pos (by simpa using Ca),if_neg Ca]
 ·rw[if_neg (by simpa using h4),Oh (by omega) h.c9,Aa];by_cases CH:(AU s r.ah).isSome=true
  ·unfold BS;rw[if_neg h4,if_pos CH,if_pos CH]
  ·rw[if_neg CH];by_cases h1:r.az=1
   ·rw[if_neg (by simpa using h1),Qk (by omega) h.dg,Aa];unfold BS;rw[if_neg h4,if_neg CH,if_pos h1];by_cases F3:(Bw s r.ah).isSome=true
    ·rw[if_pos F3,if_pos F3]
    ·rw[if_neg F3,if_neg F3];by_cases F7:r.ak<=s.ax
     ·rw[if_pos (by simpa using F7),if_pos F7]
     ·rw[if_neg (by simpa using F7),if_neg F7,zEW h.cells hf (λy hy=>(h.held y hy).1) hr.reads hr.writes hr.dg,Aa];cases CB:LP s r.ar r.af with
      |false=>rfl
      |true=>rw[if_neg (by simp),aK h,Aa,zBk hr,Aa];have:=wJ (key:=hk) (l:=s.ae) (x:=K8 r) (by omega) (WR F3);rw[show((AK (A7 hk r.ah) s.ae:Nat):Int)=((AK (A7 hk (hk (K8 r))) s.ae:Nat):Int)from rfl,this];rfl
   ·rw[if_pos (by simpa using h1),zzT h hr h1 h4 CH];rfl
theorem zzl{h:AL}(hh:Ic h):Zu h=some h:=by obtain⟨h1,h2,_⟩:=hh;unfold Zu;rw[QE (by omega),Aa,Ba (by simp only[List.length_nil];omega)]
theorem zyb{s:Ai}(h:WS s):Wt s=some s:=by
 have hT:=h.cc;have hf:=h.dv;unfold Wt;rw[tT h.cells,Aa,Ba (by simp only[List.length_nil];omega)];refine((D5 (xs:=s.ae) (body:=λz:Int × List AL=>SL s s.aq z.1 z.2) (λi z=>(i,z)) (λo c=>o++ [c]) (λo=>some (⟨s.ax,s.aq,o,s.au⟩:Ai)) (λi o=>o.length=i)
  (λi hi o ho=>by refine⟨?_,by simp[ho]⟩;show SL s s.aq (i:Int) o=_;unfold SL;rw[if_pos (by simpa using hi),AH hi,Aa,zzl (h.held _ (Aw hi)).1,Aa,Ba (by simp only[AP];omega),Bb (by omega)])
  (λo ho=>by show SL s s.aq (s.ae.length:Int) o=_;unfold SL;rw[if_neg (by simp)]) (s:=[]) rfl).1).trans ?_
 have e:=foldl_map (λc:AL=>c) s.ae [];simp only[List.map_id',List.nil_append]at e;rw[e]
theorem zyE{s:Ai}{r:AS}(h:WS s)(hr:Gp r):∃x,Wr s r=some (x,(BS s r).isSome)/\ ∀s',BS s r=some s'->x=s':=by
 have hf:=h.dv;have hT:=h.cc;have hrl:=hr.reads;have Ve:=hr.writes;unfold Wr;rw[zyb h,Aa,Tf (by omega),Aa,bP (by omega),Aa];by_cases h4:r.az=4
 ·rw[if_pos (by simpa using h4)];unfold BS;rw[if_pos h4];refine⟨⟨r.ak,s.aq,s.ae,s.au⟩,?_,?_⟩
  ·by_cases Ca:s.ax<r.ak
   ·rw[if_pos Ca];simp[Ca]
   ·rw[if_neg Ca];simp[Ca]
  ·intro s' e;split at e
   ·cases e;rfl
   ·cases e
 ·rw[if_neg (by simpa using h4)];by_cases CH:(AU s r.ah).isSome=true
  ·have ea:BS s r=none:=by unfold BS;rw[if_neg h4,if_pos CH]
   rw[ea];cases hq:AU s r.ah with
   |none=>rw[hq]at CH;cases CH
   |some x=>exact⟨s,rfl,λs' e=>by cases e⟩
  ·have Q2:AU s r.ah=none:=by cases hq:AU s r.ah with|none=>rfl|some x=>rw[hq]at CH;exact absurd rfl CH
   have hn:=Tj CH;rw[Q2];simp only[Bj,if_false];by_cases h1:r.az=1
   ·rw[if_pos (by simpa using h1),QE (by omega),Aa,Ba (by simp only[List.length_nil];omega)];obtain⟨l,JA,Ld⟩:=zzM (l:=s.ae) (h:=K8 r) (by omega) h.dg;rw[show(⟨r.ah,r.ak,r.bj,r.ar,r.af⟩:AL)=K8 r from rfl,JA,Aa];by_cases F3:(Bw s r.ah).isSome=true
    ·have ea:BS s r=none:=by unfold BS;rw[if_neg h4,if_neg CH,if_pos h1,if_pos F3]
     rw[ea];cases hq:Bw s r.ah with
     |none=>rw[hq]at F3;cases F3
     |some x=>exact⟨_,rfl,λs' e=>by cases e⟩
    ·have sL:Bw s r.ah=none:=by cases hq:Bw s r.ah with|none=>rfl|some x=>rw[hq]at F3;exact absurd rfl F3
     have ea:BS s r=if r.ak<=s.ax then none else if LP s r.ar r.af=true then some ⟨r.ak,s.aq,DV hk (K8 r) s.ae,s.au⟩else none:=by unfold BS;rw[if_neg h4,if_neg CH,if_pos h1,if_neg F3]
     rw[ea,sL];simp only[Bj,if_false];by_cases F7:r.ak<=s.ax
     ·rw[if_neg (by simpa using F7),if_pos F7];exact⟨_,rfl,λs' e=>by cases e⟩
     ·rw[if_pos (by simpa using F7),if_neg F7,zER h.cells hf (λy hy=>(h.held y hy).1) hr.reads hr.writes,Aa];cases CB:LP s r.ar r.af with
      |false=>exact⟨_,rfl,λs' e=>by cases e⟩
      |true=>rw[Ld (WR F3)];exact⟨_,rfl,λs' e=>by cases e;rfl⟩
   ·rw[if_neg (by simpa using h1)];obtain⟨tl,It,Lf⟩:=zyV (l:=s.au) (h:=⟨r.ah,r.bf,r.ak⟩) (by omega) h.c9;have Lf:=Lf hn;by_cases hy:r.bf=true
    ·rw[if_pos hy];cases hq:Bw s r.ah with
     |none=>
      have ea:BS s r=none:=by unfold BS;rw[if_neg h4,if_neg CH,if_neg h1,if_pos hy,hq]
      rw[ea];exact⟨_,rfl,λs' e=>by cases e⟩
     |some x=>
      have ea:BS s r=if r.ak<x.ak then none else match KE s.aq x.af r.ak with
       |none=>none
       |some o=>some ⟨if s.ax<r.ak then r.ak else s.ax,o,FY s.ae r.ah,K9 s r⟩:=by unfold BS;rw[if_neg h4,if_neg CH,if_neg h1,if_pos hy,hq]<;>rfl
      rw[ea];simp only[Bool.not_true,Bool.false_or];by_cases F7:r.ak<x.ak
      ·rw[if_pos (by simpa using F7),if_pos F7];exact⟨_,rfl,λs' e=>by cases e⟩
      ·rw[if_neg (by simpa using F7),if_neg F7,zEH h.cells (h.held x (List.mem_of_find?_eq_some hq)).2 (hr.time h1 h4 hy),Aa];unfold KE;cases ho:Gl r.ak s.aq x.af with
       |none=>exact⟨_,rfl,λs' e=>by cases e⟩
       |some o=>
        cases hg:EO o with
        |false=>simp only[hg,Bool.not_false,if_true];exact⟨_,rfl,λs' e=>by cases e⟩
        |true=>
         simp only[hg,Bool.not_true,Bj,if_false,if_true];have UP:KR s.ax r.ak=some (if s.ax<r.ak then r.ak else s.ax):=by
          unfold KR;by_cases Ca:s.ax<r.ak
          ·rw[if_pos Ca,if_neg (by simp;omega)]
          ·rw[if_neg Ca];by_cases O5:s.ax>r.ak
           ·rw[if_pos (by simpa using O5)]
           ·rw[if_neg (by simpa using O5)];rw[show r.ak=s.ax by omega]
         rw[UP,Aa,zyS (by omega),Aa,It,Aa,Lf];exact⟨_,rfl,λs' e=>by cases e;rfl⟩
    ·have ea:BS s r=some ⟨s.ax,s.aq,FY s.ae r.ah,K9 s r⟩:=by unfold BS;rw[if_neg h4,if_neg CH,if_neg h1,if_neg hy]
     rw[if_neg hy,ea,zyS (by omega),Aa,It,Aa,Lf];exact⟨_,rfl,λs' e=>by cases e;rfl⟩
theorem Gs{α β:Type}{xs:List α}{body:Int->Option (Int ⊕ Option β)}(p:α->Bool)(b:β)(fin:Option β)
  (hs:∀(i:Nat) (hi:i<xs.length),body i=some (if p xs[i]=true then .inl ((i+1:Nat):Int)else .inr (some b))) (he:body xs.length=some (.inr fin)):Az body 0=if xs.all p=true then fin else some b:=by
 have h1:=WY (xs:=xs) (body:=body) (λi (_:Unit)=>i) (λx _=>some (if p x=true then .inl ()else .inr (some b))) (λ_=>fin)
  (λi hi s=>by rw[hs i hi];cases p xs[i]<;>rfl) (λ_=>he) ()
 exact h1.trans (tY p b (λx _ s=>by cases p x<;>rfl) ())
theorem KV{α:Type}(l:List α)(i:Nat):A6 l 0 (i:Int)=l.take i:=by simp[A6]
def M5(s:Ai)(i:Nat):Bool:=match s.ae[i]? with
 |some h=>CL (Eh h)&&(decide (h.ak<=s.ax)&&(!(s.ae.take i).any (λg=>C8 g h.ar h.af)&& !h.af.any (λw=>decide (h.ak<=Ch s.aq w.ao))))
 |none=>true
def Lw(s:Ai):Bool:=(List.range s.ae.length).all (M5 s)&&GX s.aq (Dy s.ae)
def G0(s:Ai)(c:An):Bool:=decide (Ch s.aq c.ao<=s.ax)
def Jc(s:Ai)(t:A8):Bool:=(if t.bf=true then BP t.ak 1 s.ax else t.ak==0)&& !(Bw s t.ah).isSome
def OI(s:Ai):Bool:=BP s.ax 0 100000&&(EO s.aq&&(Lw s&&(s.aq.all (G0 s)&&s.au.all (Jc s))))
theorem Qz{s:Ai}{i:Nat}(hi:i<s.ae.length):M5 s i=(CL (Eh s.ae[i])&&(decide (s.ae[i].ak<=s.ax)&&(!(s.ae.take i).any (λg=>C8 g s.ae[i].ar s.ae[i].af)&& !s.ae[i].af.any (λw=>decide (s.ae[i].ak<=Ch s.aq w.ao))))):=by unfold M5;rw[Bt hi]
theorem Ol{α:Type}{l:List α}{i:Nat}(hi:i<l.length)(h0:0<i)(hl:l.length<=2000000):getI l (IntKind.i64.wrap ((i:Int)-1))=some l[i-1]:=by rw[CO (n:=(i:Int)-1) (by omega) (by omega),show(i:Int)-1=((i-1:Nat):Int) by omega,AH (by omega)]
theorem zBU{s:Ai}(h:WS s)(hs:∀x∈s.ae,Gt (Eh x)):Rx s=some (Lw s):=by
 have Ke:=h.dv;unfold Rx;rw[Lr (n:=s.ae.length) (body:=λi=>KF s i) (M5 s) false (VI s) (λi hi=> ?_) (by show KF s (s.ae.length:Int)=_;unfold KF;rw[if_neg (by simp)])]
 ·unfold VI Lw;rw[qT h.cells (by omega) λx hx=>(h.held x hx).1,Aa,show decide (s.ae.length<=12)=true by simpa using Ke,Bool.true_and];cases(List.range s.ae.length).all (M5 s)<;>rfl
 ·have hx:=Aw hi;obtain⟨⟨o1,o2,o3⟩,o4⟩:=h.held _ hx;have e1:DR (A6 s.ae 0 (i:Int)) (λy0_=>PN y0_ s.ae[i])=some ((s.ae.take i).any λg=>C8 g s.ae[i].ar s.ae[i].af):=by
   rw[KV];refine JS _ (λg hg=> ?_) (by rw[Au];omega);have hg:=BA hg;obtain⟨⟨g1,g2,g3⟩,_⟩:=h.held _ hg;unfold PN S1 C8;rw[S6 (by omega) (by omega) (by omega) g3,Aa,S6 (by omega) (by omega) (by omega) o3,Aa];cases Ce s.ae[i].af g.ar g.af<;>cases Ce g.af s.ae[i].ar s.ae[i].af<;>rfl
  have e2:DR s.ae[i].af (λy0_=>PL y0_ s.ae[i] s)=some (s.ae[i].af.any λw=>decide (s.ae[i].ak<=Ch s.aq w.ao)):=by refine JS _ (λw _=> ?_) (by omega);unfold PL;rw[Xw (n:=24) (by omega) h.cells];rfl
  show KF s (i:Int)=_;unfold KF;rw[Qz hi,if_pos (by simpa using hi),AH hi,Aa,show Sp s.ae[i]=some (Eh s.ae[i])from rfl,Aa,rF (hs _ hx),Aa];have rq:0<=(0:Int)/\(0:Int)<=(i:Int)/\(i:Int)<=(s.ae.length:Int):=by omega
  rw[e1,e2,Bb (by omega)];generalize (s.ae.take i).any (λg=>C8 g s.ae[i].ar s.ae[i].af)=A;generalize s.ae[i].af.any (λw=>decide (s.ae[i].ak<=Ch s.aq w.ao))=B;by_cases hp:0<i
  ·rw[if_pos (by simp;omega),Ol hi hp (by omega)];have hr:=h.dg.mono hi (show i-1<i by omega);have hr:s.ae[i-1].ah<s.ae[i].ah:=hr;cases CL (Eh s.ae[i])with
   |false=>rfl
   |true=>
    rw[if_pos rfl];by_cases ht:s.ae[i].ak<=s.ax
    ·rw[if_neg (by simp;omega),Aa,if_neg (by simp;omega),Ba rq,Aa,Aa];cases A<;>cases B<;>simp[ht]
    ·rw[if_pos (by simp;omega)];simp[ht]
  ·rw[if_neg (by simp;omega)];cases CL (Eh s.ae[i])with
   |false=>rfl
   |true=>
    by_cases ht:s.ae[i].ak<=s.ax
    ·rw[if_neg (by simp;omega),Ba rq,Aa,Aa];cases A<;>cases B<;>simp[ht]
    ·rw[if_pos (by simp;omega)];simp[ht]
theorem zAq{s:Ai}(h:WS s)(hs:∀x∈s.ae,Gt (Eh x)):SN s=some (Lw s):=by
 have Ke:=h.dv;unfold SN;rw[Lr (n:=s.ae.length) (body:=λi=>KP s i) (M5 s) false (VZ s) (λi hi=> ?_) (by show KP s (s.ae.length:Int)=_;unfold KP;rw[if_neg (by simp)])]
 ·unfold VZ Lw;rw[show decide ((s.ae.length:Int)<=12)=true from decide_eq_true (by omega),qX h.cells (by omega) (λx hx=>(h.held x hx).1) (by simp),Aa,List.nil_append];cases(List.range s.ae.length).all (M5 s)<;>rfl
 ·have hx:=Aw hi;obtain⟨⟨o1,o2,o3⟩,o4⟩:=h.held _ hx;have t5:Lm s (i:Int) s.ae[i]=some (if(s.ae[i].af.all λw=> !decide (s.ae[i].ak<=Ch s.aq w.ao))=true then .inl ((i+1:Nat):Int)else .inr (some false)):=by
   unfold Lm;rw[Gs (xs:=s.ae[i].af) (body:=λj=>KL s (i:Int) s.ae[i] j) (λw=> !decide (s.ae[i].ak<=Ch s.aq w.ao)) (.inr (some false)) (VY (i:Int)) (λj hj=>by
    show KL s (i:Int) s.ae[i] (j:Int)=_;unfold KL;rw[if_pos (by simpa using hj),AH hj,Aa,Tz (n:=24) (by omega) h.cells,Aa,Bb (by omega)];by_cases hq:s.ae[i].ak<=Ch s.aq (s.ae[i].af[j]).ao
    ·rw[if_pos (by simpa using hq)];simp[hq]
    ·rw[if_neg (by simpa using hq)];simp[hq]) (by
    show KL s (i:Int) s.ae[i] (s.ae[i].af.length:Int)=_;unfold KL;rw[if_neg (by simp)])]
   unfold VY;rw[Bb (by omega)];split<;>rfl
  have t9:Sc s (i:Int) s.ae[i]=some (if(s.ae[i].af.all λw=> !decide (s.ae[i].ak<=Ch s.aq w.ao))=true then .inl ((i+1:Nat):Int)else .inr (some false)):=by
   unfold Sc;rw[Gs (xs:=s.ae[i].af) (body:=λj=>Sw s (i:Int) s.ae[i] j) (λw=> !decide (s.ae[i].ak<=Ch s.aq w.ao)) (.inr (some false)) (lT (i:Int)) (λj hj=>by
    show Sw s (i:Int) s.ae[i] (j:Int)=_;unfold Sw;rw[if_pos (by simpa using hj),AH hj,Aa,Tz (n:=24) (by omega) h.cells,Aa,Bb (by omega)];by_cases hq:s.ae[i].ak<=Ch s.aq (s.ae[i].af[j]).ao
    ·rw[if_pos (by simpa using hq)];simp[hq]
    ·rw[if_neg (by simpa using hq)];simp[hq]) (by
    show Sw s (i:Int) s.ae[i] (s.ae[i].af.length:Int)=_;unfold Sw;rw[if_neg (by simp)])]
   unfold lT;rw[Bb (by omega)];split<;>rfl
  have t6:Az (λj:Int=>JI s (i:Int) s.ae[i] j) 0=if((s.ae.take i).all λg=> !C8 g s.ae[i].ar s.ae[i].af)=true then Lm s (i:Int) s.ae[i]else some (.inr (some false)):=by
   refine Gs (xs:=s.ae.take i) (λg=> !C8 g s.ae[i].ar s.ae[i].af) (.inr (some false)) (Lm s (i:Int) s.ae[i]) (λj hj=> ?_) ?_
   ·have hg:=BA (Aw hj);rw[Au]at hj;show JI s (i:Int) s.ae[i] (j:Int)=_;unfold JI;rw[KV,if_pos (by rw[Au];simp;omega),AH (by rw[Au];omega),Aa,cE (h.held _ hg).1 (by omega) (by omega),Aa,Bb (by omega)];cases C8 (s.ae.take i)[j] s.ae[i].ar s.ae[i].af<;>rfl
   ·show JI s (i:Int) s.ae[i] ((s.ae.take i).length:Int)=_;unfold JI;rw[KV,if_neg (by simp)]
  have t10:Az (λj:Int=>PG s (i:Int) s.ae[i] j) 0=if((s.ae.take i).all λg=> !C8 g s.ae[i].ar s.ae[i].af)=true then Sc s (i:Int) s.ae[i]else some (.inr (some false)):=by
   refine Gs (xs:=s.ae.take i) (λg=> !C8 g s.ae[i].ar s.ae[i].af) (.inr (some false)) (Sc s (i:Int) s.ae[i]) (λj hj=> ?_) ?_
   ·have hg:=BA (Aw hj);rw[Au]at hj;show PG s (i:Int) s.ae[i] (j:Int)=_;unfold PG;rw[KV,if_pos (by rw[Au];simp;omega),AH (by rw[Au];omega),Aa,cE (h.held _ hg).1 (by omega) (by omega),Aa,Bb (by omega)];cases C8 (s.ae.take i)[j] s.ae[i].ar s.ae[i].af<;>rfl
   ·show PG s (i:Int) s.ae[i] ((s.ae.take i).length:Int)=_;unfold PG;rw[KV,if_neg (by simp)]
  show KP s (i:Int)=_;unfold KP;rw[Qz hi,if_pos (by simpa using hi),AH hi,Aa,show PR s.ae[i]=some (Eh s.ae[i])from rfl,Aa,cV (hs _ hx),Aa];have rq:0<=(0:Int)/\(0:Int)<=(i:Int)/\(i:Int)<=(s.ae.length:Int):=by omega
  rw[t6,t10,t5,t9,List.not_any_eq_all_not,List.not_any_eq_all_not];generalize ((s.ae.take i).all λg=> !C8 g s.ae[i].ar s.ae[i].af)=A;generalize (s.ae[i].af.all λw=> !decide (s.ae[i].ak<=Ch s.aq w.ao))=B;by_cases hp:0<i
  ·rw[if_pos (by simp;omega),Ol hi hp (by omega)];have hr:=h.dg.mono hi (show i-1<i by omega);have hr:s.ae[i-1].ah<s.ae[i].ah:=hr;cases CL (Eh s.ae[i])with
   |false=>rfl
   |true=>
    rw[if_pos rfl];by_cases ht:s.ae[i].ak<=s.ax
    ·rw[if_neg (by simp;omega),Aa,if_neg (by simp;omega),Ba rq];cases A<;>cases B<;>simp[ht]
    ·rw[if_pos (by simp;omega)];simp[ht]
  ·rw[if_neg (by simp;omega)];cases CL (Eh s.ae[i])with
   |false=>rfl
   |true=>
    by_cases ht:s.ae[i].ak<=s.ax
    ·rw[if_neg (by simp;omega),Ba rq];cases A<;>cases B<;>simp[ht]
    ·rw[if_pos (by simp;omega)];simp[ht]
theorem zGL{s:Ai}(h:WS s)(hc:Oz s.aq)(hs:∀x∈s.ae,Gt (Eh x)):P2 s=some (OI s):=by
 have hl:=h.cc;have Ke:=h.dv;have AB:=h.cells.2.1;unfold P2 OI;rw[show SX s.ax=some (BP s.ax 0 100000)from rfl,Aa];cases BP s.ax 0 100000 with
 |false=>rfl
 |true=>
  rw[if_pos rfl,pW hc,Aa];cases EO s.aq with
  |false=>rfl
  |true=>
   rw[if_pos rfl,zBU h hs,Aa];cases Lw s with
   |false=>rfl
   |true=>
    rw[if_neg (by simp;omega),Gs (xs:=s.aq) (body:=λi=>KI s i) (G0 s) false (RH s) (λi hi=> ?_) (by show KI s (s.aq.length:Int)=_;unfold KI;rw[if_neg (by simp)])]
    ·unfold RH;rw[Gs (xs:=s.au) (body:=λi=>KK s i) (Jc s) false (some true) (λi hi=> ?_) (by
      show KK s (s.au.length:Int)=_;unfold KK;rw[if_neg (by simp)])]
     ·cases s.aq.all (G0 s)<;>cases s.au.all (Jc s)<;>rfl
     ·show KK s (i:Int)=_;unfold KK Jc;have hb:=h.told _ (Aw hi);have tx:N6 s.au[i].ah=some true:=by
       show some (BP s.au[i].ah 1 60)=_;rw[Ey.2 hb]
      rw[if_pos (by simpa using hi),AH hi,Aa,tx,Qk (s:=s) (t:=s.au[i].ah) (by omega) h.dg,Qm,Bb (by omega)];simp only[Aa];generalize (Bw s s.au[i].ah).isSome=H;generalize BP s.au[i].ak 1 s.ax=V;generalize (s.au[i].ak==0)=T;by_cases hp:0<i
      ·have hr:=h.c9.mono hi (show i-1<i by omega);have hr:s.au[i-1].ah<s.au[i].ah:=hr;have e0:decide (s.au[i].ah<=s.au[i-1].ah)=false:=by simp;omega
       have e1:decide ((i:Int)>0)=true:=by simp;omega
       rw[Ol hi hp (by omega)];simp only[Aa,e0,e1,if_true,Bj,if_false];cases s.au[i].bf<;>cases V<;>cases T<;>cases H<;>rfl
      ·have e1:decide ((i:Int)>0)=false:=by simp;omega
       simp only[e1,Bj,if_false];cases s.au[i].bf<;>cases V<;>cases T<;>cases H<;>rfl
    ·show KI s (i:Int)=_;unfold KI G0;rw[if_pos (by simpa using hi),AH hi,Aa,Xw (n:=24) (by omega) h.cells,Aa,Bb (by omega)];by_cases hq:Ch s.aq (s.aq[i]).ao<=s.ax
     ·rw[if_neg (by simp;omega)];simp[hq]
     ·rw[if_pos (by simp;omega)];simp[hq]
theorem zCC{s:Ai}(h:WS s)(hc:Oz s.aq)(hs:∀x∈s.ae,Gt (Eh x)):Mt s=some (OI s):=by
 have hl:=h.cc;have Ke:=h.dv;have AB:=h.cells.2.1;unfold Mt OI;rw[show Qb s.ax=some (BP s.ax 0 100000)from rfl,Aa];cases BP s.ax 0 100000 with
 |false=>rfl
 |true=>
  rw[if_pos rfl,pF hc,Aa];cases EO s.aq with
  |false=>rfl
  |true=>
   rw[if_pos rfl,zAq h hs,Aa];cases Lw s with
   |false=>rfl
   |true=>
    rw[if_neg (by simp;omega),Gs (xs:=s.aq) (body:=λi=>KO s i) (G0 s) false (Sj s) (λi hi=> ?_) (by show KO s (s.aq.length:Int)=_;unfold KO;rw[if_neg (by simp)])]
    ·unfold Sj;rw[Gs (xs:=s.au) (body:=λi=>KN s i) (Jc s) false (some true) (λi hi=> ?_) (by
      show KN s (s.au.length:Int)=_;unfold KN;rw[if_neg (by simp)])]
     ·cases s.aq.all (G0 s)<;>cases s.au.all (Jc s)<;>rfl
     ·show KN s (i:Int)=_;unfold KN Jc;have hb:=h.told _ (Aw hi);have tx:BP s.au[i].ah 1 60=true:=Ey.2 hb;obtain⟨P,p1,p2⟩:∃P,Jd s s.au[i].ah=some P/\P.2=(Bw s s.au[i].ah).isSome:=by
       rw[Tf (by omega)];cases Bw s s.au[i].ah with
       |none=>exact⟨_,rfl,rfl⟩
       |some x=>exact⟨_,rfl,rfl⟩
      rw[if_pos (by simpa using hi),AH hi,Aa,p1,Bb (by omega)];simp only[Ox,Aa,tx,p2,bne];generalize (Bw s s.au[i].ah).isSome=H;generalize BP s.au[i].ak 1 s.ax=V;generalize (s.au[i].ak==0)=T;by_cases hp:0<i
      ·have hr:=h.c9.mono hi (show i-1<i by omega);have hr:s.au[i-1].ah<s.au[i].ah:=hr;have e0:decide (s.au[i-1].ah>=s.au[i].ah)=false:=by simp;omega
       have e1:decide ((i:Int)>0)=true:=by simp;omega
       rw[Ol hi hp (by omega)];simp only[Aa,e0,e1,if_true,Bj,if_false];cases s.au[i].bf<;>cases V<;>cases T<;>cases H<;>rfl
      ·have e1:decide ((i:Int)>0)=false:=by simp;omega
       simp only[e1,Bj,if_false];cases s.au[i].bf<;>cases V<;>cases T<;>cases H<;>rfl
    ·show KO s (i:Int)=_;unfold KO G0;rw[if_pos (by simpa using hi),AH hi,Aa,Tz (n:=24) (by omega) h.cells,Aa,Bb (by omega)];by_cases hq:Ch s.aq (s.aq[i]).ao<=s.ax
     ·rw[if_neg (by simp;omega)];simp[hq]
     ·rw[if_pos (by simp;omega)];simp[hq]
theorem oN{l:List An}{k k':Am}{v:Dc}(hr:Gg l):Et (Hk l k v) k'=if k'=k then some ⟨k,Gv l k++ [v]⟩else Et l k':=by
 have CN:Gg (Hk l k v):=WJ hr;by_cases e:k'=k
 ·rw[if_pos e];exact W7 CN ((MC (key:=ck) hr _).2 (.inl rfl)) e.symm
 ·rw[if_neg e];cases h:Et l k' with
  |some c=>obtain⟨h1,h2⟩:=WL h;exact W7 CN ((MC (key:=ck) hr c).2 (.inr ⟨h1,by show c.ao≠k;rw[h2];exact e⟩)) h2
  |none=>
   unfold Et;rw[List.find?_eq_none];intro c hc;rcases(MC (key:=ck) hr c).1 hc with q|⟨q,_⟩
   ·rw[q];simpa using λh=>e h.symm
   ·exact List.find?_eq_none.1 h c q
theorem WX{l:List An}{k:Am}{v:Dc}(hr:Gg l):Gg (Hk l k v):=WJ hr
theorem zvP{l:List An}{k k':Am}{v:Dc}(hr:Gg l):Ch (Hk l k v) k'=if k'=k then v.ak else Ch l k':=by
 unfold Ch;rw[oN hr];by_cases e:k'=k
 ·rw[if_pos e,if_pos e];show OG ⟨k,Gv l k++ [v]⟩=_;unfold OG;simp
 ·rw[if_neg e,if_neg e]
theorem cK{t:Int}{l o:List An}{w:Ar}{ws:List Ar}(h:Gl t l (w::ws)=some o):Gl t (Hk l w.ao ⟨t,w.bw,w.bk⟩) ws=some o:=by
 unfold Gl at h;rw[List.foldlM_cons]at h;unfold Hg at h;by_cases ht:t<=Ch l w.ao
 ·rw[if_pos ht]at h;cases h
 ·rw[if_neg ht]at h;exact h
theorem tP{t:Int}{l o:List An}(h:Gl t l []=some o):o=l:=by unfold Gl at h;rw[List.foldlM_nil]at h;cases h;rfl
theorem bL{t:Int}{k:Am}:∀{ws:List Ar} {l o:List An},Gg l->Gl t l ws=some o->(∀w∈ws,w.ao≠k)->Et o k=Et l k
 | [],l,o,_,h,_=>by rw[tP h]
 |w::ws,l,o,hr,h,hn=>by rw[bL (WX hr) (cK h) λx hx=>hn x (by simp[hx]),oN hr,if_neg λe=>hn w (by simp) e.symm]
theorem zyK{t:Int}{k:Am}:∀{ws:List Ar} {l o:List An},Gg l->Gl t l ws=some o->(∃w∈ws,w.ao=k)->Ch o k=t
 | [],l,o,_,_,hk=>by obtain⟨w,hw,_⟩:=hk;simp at hw
 |w::ws,l,o,hr,h,hk=>by
  by_cases hm:∃x∈ws,x.ao=k
  ·exact zyK (WX hr) (cK h) hm
  ·have hn:∀x∈ws,x.ao≠k:=λx hx e=>hm ⟨x,hx,e⟩;obtain⟨x,hx,e⟩:=hk;rcases Ae.1 hx with q|q
   ·have h1:=bL (k:=k) (WX hr) (cK h) hn;have h2:=zvP (k:=w.ao) (k':=k) (v:=⟨t,w.bw,w.bk⟩) hr;unfold Ch at h2 ⊢;rw[h1,h2,if_pos (by rw[<-e,q])]
   ·exact absurd e (hn x q)
theorem qC{t:Int}:∀{ws:List Ar} {l o:List An},Gg l->Gl t l ws=some o-> ∀c∈o,(∃d∈l,d.ao=c.ao)\/ ∃w∈ws,w.ao=c.ao
 | [],l,o,_,h,c,hc=>by rw[tP h]at hc;exact .inl ⟨c,hc,rfl⟩
 |w::ws,l,o,hr,h,c,hc=>by
  rcases qC (WX hr) (cK h) c hc with⟨d,hd,e⟩|⟨x,hx,e⟩
  ·rcases(MC (key:=ck) hr d).1 hd with q|⟨q,_⟩
   ·exact .inr ⟨w,by simp,by rw[<-e,q]⟩
   ·exact .inl ⟨d,q,e⟩
  ·exact .inr ⟨x,by simp[hx],e⟩
theorem zBH{l:List An}{k:Am}(h:∀c∈l,c.ao≠k):Ch l k=0:=by unfold Ch Et;rw[List.find?_eq_none.2 λc hc=>by simpa using h c hc]
structure Hl(s:Ai):Prop where
 floor:0<=s.ax/\s.ax<=100000
 cells:EO s.aq=true
 single:∀h∈s.ae,CL (Eh h)=true/\(h.ak<=s.ax/\ ∀w∈h.af,Ch s.aq w.ao<h.ak)
 apart:s.ae.Pairwise λg h=>C8 g h.ar h.af=false
 room:GX s.aq (Dy s.ae)=true
 last:∀c∈s.aq,Ch s.aq c.ao<=s.ax
 told:∀t∈s.au,(if t.bf=true then 1<=t.ak/\t.ak<=s.ax else t.ak=0)/\ ∀h∈s.ae,hk h≠t.ah
theorem uG{s:Ai}{t:A8}:Jc s t=true↔(if t.bf=true then 1<=t.ak/\t.ak<=s.ax else t.ak=0)/\ ∀h∈s.ae,hk h≠t.ah:=by
 unfold Jc;rw[Ab];refine and_congr ?_ ?_
 ·cases t.bf
  ·simp
  ·simp only[if_true];exact Ey
 ·unfold Bw;rw[Be,Option.isSome_eq_false_iff,Option.isNone_iff_eq_none,List.find?_eq_none];simp
theorem bI{s:Ai}:OI s=true↔Hl s:=by
 unfold OI Lw;simp only[Ab,AZ];constructor
 ·rintro⟨h1,h2,⟨h3,h4⟩,h5,h6⟩;have hs:∀i (hi:i<s.ae.length),CL (Eh s.ae[i])=true/\(s.ae[i].ak<=s.ax/\(∀g∈s.ae.take i,C8 g s.ae[i].ar s.ae[i].af=false)/\ ∀w∈s.ae[i].af,Ch s.aq w.ao<s.ae[i].ak):=λi hi=>by
   have:=h3 i (List.mem_range.2 hi);rw[Qz hi]at this;simp only[Ab,AJ,Be,List.any_eq_false]at this;obtain⟨a,b,c,d⟩:=this;exact⟨a,b,λg hg=>by simpa using c g hg,λw hw=>by have:=d w hw;omega⟩
  refine⟨Ey.1 h1,h2,λh hh=> ?_,?_,h4,λc hc=>by have:=h5 c hc;unfold G0 at this;simpa using this,λt ht=>uG.1 (h6 t ht)⟩
  ·obtain⟨i,hi,rfl⟩:=List.mem_iff_getElem.1 hh;obtain⟨a,b,_,d⟩:=hs i hi;exact⟨a,b,d⟩
  ·rw[List.pairwise_iff_getElem];intro i j hi hj Ew;exact(hs j hj).2.2.1 _ (List.mem_iff_getElem.2 ⟨i,by rw[Au];omega,by rw[List.getElem_take]⟩)
 ·intro g;refine⟨Ey.2 g.floor,g.cells,⟨λi hi=> ?_,g.room⟩,λc hc=>by unfold G0;simpa using g.last c hc,λt ht=>uG.2 (g.told t ht)⟩;have hi:=List.mem_range.1 hi;rw[Qz hi];obtain⟨a,b,d⟩:=g.single _ (Aw hi);simp only[Ab,AJ,Be,List.any_eq_false];refine⟨a,b,λx hx=> ?_,λw hw=>by have:=d w hw;omega⟩;obtain⟨j,hj,e⟩:=List.mem_iff_getElem.1 hx;rw[Au]at hj;rw[List.getElem_take]at e;have:=List.pairwise_iff_getElem.1 g.apart j i (by omega) hi (by omega);rw[e]at this;simpa using this
theorem uI{α:Type}{key:α->Int}{R:α->α->Prop}(hs:∀a b,R a b->R b a){x:α}:∀{l:List α},l.Pairwise R->(∀y∈l,R y x)->(DV key x l).Pairwise R
 | [],_,_=>by simp[DV]
 |y::l,h,hx=>by
  have h':=List.pairwise_cons.1 h;unfold DV;split
  ·exact List.pairwise_cons.2 ⟨λz hz=>hs _ _ (hx z hz),h⟩
  ·refine List.pairwise_cons.2 ⟨λz hz=> ?_,uI hs h'.2 λz hz=>hx z (by simp[hz])⟩;rcases Jh.1 hz with q|q
   ·rw[q];exact hx y (by simp)
   ·exact h'.1 z q
theorem zFW{α:Type}{R:α->α->Prop}(hs:∀a b,R a b->R b a){l:List α}(h:l.Pairwise R){a b:α}(ha:a∈l)(hb:b∈l)(hn:a≠b):R a b:=by
 obtain⟨i,hi,rfl⟩:=List.mem_iff_getElem.1 ha;obtain⟨j,hj,rfl⟩:=List.mem_iff_getElem.1 hb;rcases Nat.lt_trichotomy i j with q|q|q
 ·exact List.pairwise_iff_getElem.1 h i j hi hj q
 ·subst q;exact absurd rfl hn
 ·exact hs _ _ (List.pairwise_iff_getElem.1 h j i hj hi q)
theorem ztJ(g h:AL):C8 g h.ar h.af=C8 h g.ar g.af:=Bool.or_comm _ _
theorem zyZ{g h:AL}(hc:C8 g h.ar h.af=false){w x:Ar}(hw:w∈h.af)(hx:x∈g.af):x.ao≠w.ao:=by intro e;unfold C8 at hc;rw[Bool.or_eq_false_iff]at hc;have h2:=hc.2;unfold Ce at h2;have h3:=List.any_eq_false.1 h2 w hw;rw[Bool.not_eq_true,Bool.or_eq_false_iff]at h3;have h4:=h3.1;unfold IK at h4;have h5:=List.any_eq_false.1 h4 x hx;simp[e]at h5
theorem HQ{hs:List AL}{w:Ar}:w∈Dy hs↔ ∃h∈hs,w∈h.af:=List.mem_flatMap
theorem bY{l l':List An}{ws ws':List Ar}(h:GX l ws=true)(hf:∀w∈ws',Gi l' w=true-> ∃x∈ws,Gi l x=true)(hk:∀y∈FF l' ws',y∈FF l ws):GX l' ws'=true:=by
 unfold GX at*;simp only[Ab,Be,List.any_eq_false,AJ]at h ⊢;obtain⟨h1,h2⟩:=h;refine⟨λw hw hq=> ?_,Nat.le_trans ?_ h2⟩
 ·obtain⟨x,hx,e⟩:=hf w hw hq;exact h1 x hx e
 ·obtain⟨g1,g2,_⟩:=MA (FF l ws) [] List.Pairwise.nil;obtain⟨g3,g4,_⟩:=MA (FF l' ws') [] List.Pairwise.nil;have e:(FF l' ws').foldl (λo k=>C5 k o) []=((FF l ws).foldl (λo k=>C5 k o) []).filter λy=>decide (y∈FF l' ws'):=by
   refine DU.ext g3 (DU.filter g1 _) λy=> ?_;rw[List.mem_filter,g2,g4];simp only[List.not_mem_nil,or_false,AJ];exact⟨λq=>⟨hk y q,q⟩,λq=>q.2⟩
  rw[e];exact List.length_filter_le _ _
theorem zFj{s:Ai}(g:Hl s)(k:Am):Ch s.aq k<=s.ax:=by
 by_cases h:∃c∈s.aq,c.ao=k
 ·obtain⟨c,hc,e⟩:=h;rw[<-e];exact g.last c hc
 ·rw[zBH λc hc e=>h ⟨c,hc,e⟩];exact g.floor.1
theorem rG{r:AS}(hr:CL r=true)(k:r.az=1):(1<=r.ak/\r.ak<=100000)/\CL (Eh (K8 r))=true:=by unfold CL at hr;rw[if_pos k]at hr;simp only[Ab]at hr;obtain⟨a1,a2,a3,a4,a5,a6,a7,a8,_⟩:=hr;refine⟨Ey.1 a2,?_⟩;unfold CL;rw[if_pos (show(Eh (K8 r)).az=1 from rfl)];simp only[Ab];exact⟨a1,a2,a3,a4,a5,a6,a7,a8,rfl⟩
theorem zCS{r:AS}(hr:CL r=true)(k:r.az=4):1<=r.ak/\r.ak<=100000:=by unfold CL at hr;rw[if_neg (by omega)]at hr;simp only[Ab]at hr;have h:=hr.2.2.2;rw[if_neg (by omega),if_pos k]at h;simp only[Ab]at h;exact Ey.1 h.2.1
theorem zEN{r:AS}(hr:CL r=true)(k1:r.az≠1)(k4:r.az≠4):if r.bf=true then 1<=r.ak/\r.ak<=100000 else r.ak=0:=by
 unfold CL at hr;rw[if_neg k1]at hr;simp only[Ab]at hr;have h:=hr.2.2.2;by_cases M1:r.az=2\/r.az=3
 ·rw[if_pos M1]at h;simp only[Ab]at h;have h:=h.2;cases hy:r.bf with
  |true=>rw[hy]at h;simp only[if_true]at h ⊢;exact Ey.1 h
  |false=>rw[hy]at h;simpa using h
 ·rw[if_neg M1,if_neg k4]at h;cases h
theorem Ji{l:List AL}{t:Int}{h:AL}(hm:h∈FY l t):h∈l/\hk h≠t:=by obtain⟨a,b⟩:=List.mem_filter.1 hm;exact⟨a,by simpa using b⟩
theorem zDA{s s':Ai}{r:AS}(h:WS s)(g:Hl s)(hr:CL r=true)(e:BS s r=some s'):Hl s':=by
 have hle:=zFj g;unfold BS at e;split at e
 ·rename_i k4;have hb:=zCS hr k4;split at e
  ·rename_i hf;cases e;refine⟨by dsimp only;omega,g.cells,λx hx=> ?_,g.apart,g.room,λc hc=>by have:=g.last c hc;dsimp only;omega,λt ht=> ?_⟩
   ·obtain⟨a,b,c⟩:=g.single x hx;exact⟨a,by dsimp only;omega,c⟩
   ·obtain⟨a,b⟩:=g.told t ht;refine⟨?_,b⟩;split
    ·rename_i hy;rw[if_pos hy]at a;dsimp only;omega
    ·rename_i hy;rw[if_neg hy]at a;exact a
  ·cases e
 ·rename_i k4;split at e
  ·cases e
  ·rename_i CH;have Q2:=Tj CH;split at e
   ·rename_i k1;obtain⟨hb,hg⟩:=rG hr k1;split at e
    ·cases e
    ·rename_i F3;have sL:=WR F3;split at e
     ·cases e
     ·rename_i hf;split at e
      ·rename_i E2;cases e;unfold LP at E2;simp only[Ab,Be,List.any_eq_false]at E2;obtain⟨f1,_,f3⟩:=E2;refine⟨by dsimp only;omega,g.cells,λx hx=> ?_,?_,?_,λc hc=>by have:=g.last c hc;dsimp only;omega,λt ht=> ?_⟩
       ·rcases Jh.1 hx with q|q
        ·rw[q];exact⟨hg,Int.le_refl _,λw _=>by have:=hle w.ao;show Ch s.aq w.ao<r.ak;omega⟩
        ·obtain⟨a,b,c⟩:=g.single x q;exact⟨a,by dsimp only;omega,c⟩
       ·exact uI (λa b q=>by rw[ztJ];exact q) g.apart λy hy=>show C8 y r.ar r.af=false by simpa using f1 y hy
       ·refine bY f3 (λw hw hq=>⟨w,?_,hq⟩) λy hy=> ?_
        ·obtain⟨x,hx,Px⟩:=HQ.1 hw;rcases Jh.1 hx with q|q
         ·rw[q]at Px;exact Ac.2 (.inl Px)
         ·exact Ac.2 (.inr (HQ.2 ⟨x,q,Px⟩))
        ·unfold FF at*;rcases Ac.1 hy with q|q
         ·exact Ac.2 (.inl q)
         ·obtain⟨w,hw,rfl⟩:=List.mem_map.1 q;refine Ac.2 (.inr (List.mem_map.2 ⟨w,?_,rfl⟩));obtain⟨x,hx,Px⟩:=HQ.1 hw;rcases Jh.1 hx with q|q
          ·rw[q]at Px;exact Ac.2 (.inl Px)
          ·exact Ac.2 (.inr (HQ.2 ⟨x,q,Px⟩))
       ·obtain⟨a,b⟩:=g.told t ht;refine⟨?_,λx hx=> ?_⟩
        ·split
         ·rename_i hy;rw[if_pos hy]at a;dsimp only;omega
         ·rename_i hy;rw[if_neg hy]at a;exact a
        ·rcases Jh.1 hx with q|q
         ·rw[q];exact λe=>Q2 t ht e.symm
         ·exact b x q
      ·cases e
   ·rename_i k1;have hd:=zEN hr k1 k4;have apart':(FY s.ae r.ah).Pairwise λg h=>C8 g h.ar h.af=false:=List.Pairwise.filter _ g.apart;have newold:∀{fl:Int} {t:A8},s.ax<=fl->(r.bf=true->r.ak<=fl)->t∈K9 s r->(if t.bf=true then 1<=t.ak/\t.ak<=fl else t.ak=0)/\ ∀h∈FY s.ae r.ah,hk h≠t.ah:=λ{fl t} Ca Vj ht=>by
     rcases Jh.1 ht with q|q
     ·rw[q];refine⟨?_,λx hx=>(Ji hx).2⟩;dsimp only;split
      ·rename_i hy;rw[if_pos hy]at hd;exact⟨hd.1,Vj hy⟩
      ·rename_i hy;rw[if_neg hy]at hd;exact hd
     ·obtain⟨a,b⟩:=g.told t q;refine⟨?_,λx hx=>b x (Ji hx).1⟩;split
      ·rename_i hy;rw[if_pos hy]at a;omega
      ·rename_i hy;rw[if_neg hy]at a;exact a
    split at e
    ·rename_i Er;rw[if_pos Er]at hd;split at e
     ·cases e
     ·rename_i x hx;have tA:=List.mem_of_find?_eq_some hx;have hxk:hk x=r.ah:=by simpa using List.find?_some hx
      split at e
      ·cases e
      ·split at e
       ·cases e
       ·rename_i o ho;cases e;unfold KE at ho;split at ho
        ·rename_i p hp;split at ho
         ·rename_i L6;cases ho;have Pr:=h.cells.1;have gf:=g.floor;have far:∀y∈FY s.ae r.ah,∀w∈y.af,Et o w.ao=Et s.aq w.ao:=λy hy w hw=>by
           obtain⟨m1,m2⟩:=Ji hy;have A9:x≠y:=λe=>m2 (by rw[<-e];exact hxk);exact bL Pr hp λz hz=>zyZ (zFW (λa b q=>by rw[ztJ];exact q) g.apart tA m1 A9) hw hz
          refine⟨by dsimp only;split<;>omega,L6,λy hy=> ?_,apart',?_,λc hc=> ?_,λt ht=>newold (by dsimp only;split<;>omega) (λ_=>by dsimp only;split<;>omega) ht⟩
          ·obtain⟨m1,m2⟩:=Ji hy;obtain⟨a,b,c⟩:=g.single y m1;refine⟨a,by dsimp only;split<;>omega,λw hw=> ?_⟩;have:=c w hw;unfold Ch at this ⊢;rw[far y hy w hw];exact this
          ·refine bY g.room (λw hw hq=> ?_) λy hy=> ?_
           ·obtain⟨z,hz,NF⟩:=HQ.1 hw;refine⟨w,HQ.2 ⟨z,(Ji hz).1,NF⟩,?_⟩;unfold Gi at hq ⊢;rw[far z hz w NF]at hq;exact hq
           ·unfold FF at*;rcases Ac.1 hy with q|q
            ·obtain⟨c,hc,rfl⟩:=List.mem_map.1 q;rcases qC Pr hp c hc with⟨d,hd,e⟩|⟨w,hw,e⟩
             ·exact Ac.2 (.inl (List.mem_map.2 ⟨d,hd,e⟩))
             ·exact Ac.2 (.inr (List.mem_map.2 ⟨w,HQ.2 ⟨x,tA,hw⟩,e⟩))
            ·obtain⟨w,hw,rfl⟩:=List.mem_map.1 q;obtain⟨z,hz,NF⟩:=HQ.1 hw;exact Ac.2 (.inr (List.mem_map.2 ⟨w,HQ.2 ⟨z,(Ji hz).1,NF⟩,rfl⟩))
          ·by_cases hw:∃w∈x.af,w.ao=c.ao
           ·show Ch o c.ao<=_;rw[zyK Pr hp hw];dsimp only;split<;>omega
           ·have e2:=bL (k:=c.ao) Pr hp λw hx e=>hw ⟨w,hx,e⟩;have e3:Ch o c.ao=Ch s.aq c.ao:=by unfold Ch;rw[e2]
            have:=hle c.ao;show Ch o c.ao<=_;rw[e3];dsimp only;split<;>omega
         ·cases ho
        ·cases ho
    ·rename_i Er;cases e;refine⟨g.floor,g.cells,λy hy=>g.single y (Ji hy).1,apart',?_,g.last,λt ht=>newold (Int.le_refl _) (λhy=>absurd hy Er) ht⟩;refine bY g.room (λw hw hq=> ?_) λy hy=> ?_
     ·obtain⟨z,hz,NF⟩:=HQ.1 hw;exact⟨w,HQ.2 ⟨z,(Ji hz).1,NF⟩,hq⟩
     ·unfold FF at*;rcases Ac.1 hy with q|q
      ·exact Ac.2 (.inl q)
      ·obtain⟨w,hw,rfl⟩:=List.mem_map.1 q;obtain⟨z,hz,NF⟩:=HQ.1 hw;exact Ac.2 (.inr (List.mem_map.2 ⟨w,HQ.2 ⟨z,(Ji hz).1,NF⟩,rfl⟩))
theorem zyI{β:Type}{n:Nat}{body:Int->Option (Int ⊕ Option β)}(p:Nat->Bool)(b:β)(fin:Option β)
  (hs:∀i,i<n->(∀j,j<i->p j=true)->body (i:Int)=some (if p i=true then .inl ((i+1:Nat):Int)else .inr (some b)))
  (he:(∀j,j<n->p j=true)->body (n:Int)=some (.inr fin)):Az body 0=if(List.range n).all p=true then fin else some b:=by
 have key:∀(k q:Nat),q+k=n->(∀j,j<q->p j=true)->Az body (q:Int)=if(List.range' q k).all p=true then fin else some b:=by
  intro k
  induction k with
  |zero=>
   intro q hq hp;have:q=n:=by omega
   subst this;rw[EM,he hp];rfl
  |succ k ih=>
   intro q hq hp;rw[EM,hs q (by omega) hp,List.range'_succ,List.all_cons];cases hb:p q with
   |false=>simp
   |true=>
    have:=ih (q+1) (by omega) (λj hj=>by
     rcases Nat.lt_succ_iff_lt_or_eq.1 hj with h|h
     ·exact hp j h
     ·rw[h];exact hb)
    rw[if_pos rfl,Bool.true_and];exact this
 have:=key n 0 (by omega) (λj hj=>by omega);rw[List.range_eq_range'];exact this
def QJ{α:Type}(key:α->Int)(l:List α):Nat->Bool
 |0=>true
 |j+1=>match l[j]?,l[j+1]? with
  |some a,some b=>decide (key a<key b)
  |_,_=>true
theorem Qn{α:Type}{key:α->Int}{l:List α}{i:Nat}(hi:i<l.length)(h0:0<i):QJ key l i=decide (key l[i-1]<key l[i]):=by
 cases i with
 |zero=>omega
 |succ j=>
  show(match l[j]?,l[j+1]? with
   |some a,some b=>decide (key a<key b)
   |_,_=>true)=_
  rw[Bt hi,Bt (show j<l.length by omega)];rfl
theorem WI{α:Type}{key:α->Int}{l:List α}{i:Nat}(h0: ¬0<i):QJ key l i=true:=by
 have:i=0:=by omega
 subst this;rfl
theorem zv9{α:Type}{key:α->Int}{l:List α}(h:∀i,i<l.length->QJ key l i=true):Ci key l:=by
 have aux:∀(d i:Nat) (hj:i+d+1<l.length),key (l[i]'(by omega))<key l[i+d+1]:=by
  intro d
  induction d with
  |zero=>intro i hj;have:=h (i+1) hj;rw[Qn hj (by omega)]at this;simpa using this
  |succ d ih=>intro i hj;have h1:=ih i (by omega);have h2:=h (i+(d+1)+1) hj;rw[Qn hj (by omega)]at h2;simp only[AJ]at h2;exact Int.lt_trans h1 h2
 refine List.pairwise_iff_getElem.2 λi j hi hj Ew=> ?_;have:=aux (j-i-1) i (by omega);have e:i+(j-i-1)+1=j:=by omega
 simpa only[e]using this
theorem pG{l:List An}(hs:Oz l)(h:EO l=true):DL 24 l:=by unfold EO at h;simp only[Ab,AJ,AZ]at h;obtain⟨h1,h2,h3⟩:=h;refine⟨(Ix (r:=QB) λa b c p q=>EN p q).1 h3,by omega,λc hc=> ?_⟩;have h:=h2 c hc;unfold Ft IB at h;simp only[Ab]at h;have h4:=Ey.1 h.2.1;refine⟨λe=> ?_,by omega,hs.2 c hc⟩;rw[e]at h4;simp at h4
theorem cJ{r:AS}(hs:Gt r)(h:CL r=true)(h1:r.az=1):Gp r:=by unfold CL at h;rw[if_pos h1]at h;simp only[Ab,AJ]at h;obtain⟨a1,a2,a3,a4,a5,a6,a7,a8,a9⟩:=h;have b:=Ey.1 a1;exact⟨by omega,by omega,xY a6,⟨by omega,hs.writes.2⟩,λh=>absurd h1 h,λ_=>b⟩
def Jw(s:Ai)(i:Nat):Bool:=M5 s i&&QJ hk s.ae i
def Mq(s:Ai)(i:Nat):Bool:=QJ tk s.au i&&(match s.au[i]? with|some t=>BP t.ah 1 60&&Jc s t|none=>true)
def KZ(s:Ai):Bool:=(List.range s.ae.length).all (Jw s)&&(decide (s.ae.length<=12)&&GX s.aq (Dy s.ae))
def Ig(s:Ai):Bool:=BP s.ax 0 100000&&(EO s.aq&&(KZ s&&(decide (s.au.length<=60)&&(s.aq.all (G0 s)&&(List.range s.au.length).all (Mq s)))))
structure Jl(s:Ai):Prop where
 cells:Oz s.aq
 gq:s.ae.length<=2000000
 held:∀x∈s.ae,Gt (Eh x)
 k8:s.au.length<=2000000
theorem qR{s:Ai}(h:Jl s){i:Nat}(hi:i<s.ae.length)(ha:Jw s i=true):Gp (Eh s.ae[i]):=by unfold Jw at ha;rw[Qz hi]at ha;simp only[Ab]at ha;exact cJ (h.held _ (Aw hi)) ha.1.1 rfl
theorem Xx{x:AL}(h:Gp (Eh x)):Ic x/\Oj x.af:=⟨⟨h.reads,h.writes,h.dg⟩,h.small⟩
theorem WZ{s:Ai}(h:Jl s)(ha:∀i,i<s.ae.length->Jw s i=true):Ci hk s.ae/\(s.ae.length<=60/\ ∀x∈s.ae,Ic x/\Oj x.af):=by
 have hr:Ci hk s.ae:=zv9 λi hi=>by have:=ha i hi;unfold Jw at this;rw[Ab]at this;exact this.2
 have ho:∀x∈s.ae,Gp (Eh x):=λx hx=>by obtain⟨i,hi,rfl⟩:=List.mem_iff_getElem.1 hx;exact qR h hi (ha i hi)
 have:=Ci.len (lo:=1) (hi:=60) hr λx hx=>(ho x hx).mn (by show(1:Int)≠4;omega);exact⟨hr,by omega,λx hx=>Xx (ho x hx)⟩
abbrev ik(n:Int):Int:=n
theorem zwM:∀{a b:List Int},Ci ik a->Ci ik b->(∀y,y∈a↔y∈b)->a=b
 | [],[],_,_,_=>rfl
 | [],y::b,_,_,h=>by have:=(h y).2 (by simp);simp at this
 |x::a,[],_,_,h=>by have:=(h x).1 (by simp);simp at this
 |x::a,y::b,ha,hb,h=>by
  have h1:=List.pairwise_cons.1 ha;have h2:=List.pairwise_cons.1 hb;have e:x=y:=by
   rcases Ae.1 ((h x).1 (by simp))with q|q
   ·exact q
   ·rcases Ae.1 ((h y).2 (by simp))with p|p
    ·exact p.symm
    ·have i1:y<x:=h2.1 x q;have i2:x<y:=h1.1 y p;omega
  subst e;rw[zwM h1.2 h2.2 λz=> ?_];have hz:=h z;simp only[Ae]at hz;constructor
  ·intro q;rcases hz.1 (.inr q)with p|p
   ·have:x<z:=h1.1 z q;omega
   ·exact p
  ·intro q;rcases hz.2 (.inr q)with p|p
   ·have:x<z:=h2.1 z q;omega
   ·exact p
theorem zun{zs:List Int}(h:zs.Pairwise λa b=>a<=b):Ci ik (Lib.compact zs)/\ ∀y,y∈Lib.compact zs↔y∈zs:=by
 have get:∀j (hj:j<zs.length),(zs.toArray[j]!)=zs[j]:=λj hj=>by rw[getElem!_pos _ j (by simpa using hj)];simp
 have le:∀i j (hi:i<zs.length) (hj:j<zs.length),i<=j->zs[i]<=zs[j]:=λi j hi hj Ew=>by
  rcases Nat.lt_or_ge i j with k|k
  ·exact(List.pairwise_iff_getElem.1 h) i j hi hj k
  ·have:i=j:=by omega
   subst this;exact Int.le_refl _
 unfold Lib.compact Lib.compactUpTo;constructor
 ·unfold Ci;rw[List.pairwise_map];have hp:(List.range zs.length).Pairwise (· < ·):=List.pairwise_lt_range;have:=List.Pairwise.filter (Lib.keeps zs.toArray) hp;refine List.Pairwise.imp_of_mem ?_ this;intro i j hi hj Ew;have Kl:=(List.mem_filter.1 hj).2;have Il:j<zs.length:=by simpa using(List.mem_filter.1 hj).1
  have A9:zs[j]'Il≠zs[j-1]'(by omega):=by
   unfold Lib.keeps at Kl;simp only[AJ]at Kl;rcases Kl with k|k
   ·omega
   ·rw[get j Il,get (j-1) (by omega)]at k;exact k
  rw[get i (by omega),get j Il];have h1:=le i (j-1) (by omega) (by omega) (by omega);have h2:=le (j-1) j (by omega) Il (by omega);show(zs[i]'(by omega))<(zs[j]'Il);omega
 ·intro y;constructor
  ·intro hy;obtain⟨j,hj,rfl⟩:=List.mem_map.1 hy;have AD:j<zs.length:=by simpa using(List.mem_filter.1 hj).1
   rw[get j AD];exact Aw _
  ·intro hy;obtain⟨i,hi,rfl⟩:=List.getElem_of_mem hy
   induction i using Nat.strongRecOn with
   |_ i ih=>
    by_cases hk:Lib.keeps zs.toArray i=true
    ·exact List.mem_map.2 ⟨i,List.mem_filter.2 ⟨by simpa using hi,hk⟩,get i hi⟩
    ·unfold Lib.keeps at hk;simp only[AJ,not_or,Classical.not_not]at hk;have e:zs[i]=zs[i-1]'(by omega):=by
      have:=hk.2;rw[get i hi,get (i-1) (by omega)]at this;exact this
     rw[e];exact ih (i-1) (by omega) (by omega) (Aw _)
def H8(n:Int)(l:List Int):List Int:=if n∈l then l else DV ik n l
theorem zxS{n y:Int}{l:List Int}:y∈H8 n l↔y=n\/y∈l:=by
 unfold H8;split
 ·constructor
  ·exact .inr
  ·rintro(rfl|h)
   ·assumption
   ·exact h
 ·exact Jh
theorem oU{n:Int}{l:List Int}(h:Ci ik l):Ci ik (H8 n l):=by
 unfold H8;split
 ·exact h
 ·rename_i hn;exact Ci.ins h λy hy e=>hn (by have e:y=n:=e;rw[<-e];exact hy)
theorem oJ:∀(ns o:List Int),Ci ik o->Ci ik (ns.foldl (λo n=>H8 n o) o)/\ ∀y,y∈ns.foldl (λo n=>H8 n o) o↔y∈ns\/y∈o
 | [],o,h=>⟨h,by simp⟩
 |n::ns,o,h=>by obtain⟨h1,h2⟩:=oJ ns (H8 n o) (oU h);refine⟨h1,λy=> ?_⟩;rw[List.foldl_cons,h2,zxS,Ae,or_assoc,or_left_comm]
def DH(cuts:List Am)(k:Am):Nat:=(cuts.filter λc=> !bl k c).length
theorem zBV{a b:Am}(h:bl a b=true):JH a b:=Oe h
theorem zzY{cuts:List Am}{a b:Am}(h:JH a b):DH cuts a<=DH cuts b:=by unfold DH;rw[<-List.countP_eq_length_filter,<-List.countP_eq_length_filter];refine List.countP_mono_left λc _ hc=> ?_;simp only[Be]at hc ⊢;exact zBZ hc h
theorem zyx(cuts:List Am)(k:Am):DH cuts k<=cuts.length:=List.length_filter_le _ _
theorem zvx:∀{cuts:List Am} {k:Am},Ei cuts->DH cuts k=AK (λc=> !bl k c) cuts
 | [],_,_=>rfl
 |c::cuts,k,h=>by
  have h1:=List.pairwise_cons.1 h;have ih:=zvx (k:=k) h1.2;unfold DH AK at ih ⊢;rw[List.filter_cons,List.takeWhile_cons];cases hb:bl k c with
  |false=>simpa using ih
  |true=>
   have:(cuts.filter λc=> !bl k c)=[]:=List.filter_eq_nil_iff.2 λd hd=>by rw[EN hb (h1.1 d hd)];simp
   simp[this]
def DO(rs:List Am)(ws:List Ar):List Am:=(rs++ws.map EB).foldl (λo k=>C5 k o) []
def Jm(cuts rs:List Am)(ws:List Ar):List Int:=((DO rs ws).map λk=>(DH cuts k:Int)).foldl (λo n=>H8 n o) []
theorem W8(rs:List Am)(ws:List Ar):Ei (DO rs ws)/\(∀y,y∈DO rs ws↔y∈rs\/ ∃w∈ws,w.ao=y)/\(DO rs ws).length<=rs.length+ws.length:=by obtain⟨h1,h2,h3⟩:=MA (rs++ws.map EB) [] List.Pairwise.nil;refine⟨h1,λy=> ?_,by unfold DO;simpa using h3⟩;unfold DO;rw[h2];simp[EB]
theorem ztY(cuts rs:List Am)(ws:List Ar):Lib.compact ((DO rs ws).map λk=>(DH cuts k:Int))=Jm cuts rs ws:=by
 obtain⟨h1,_,_⟩:=W8 rs ws;have hp:((DO rs ws).map λk=>(DH cuts k:Int)).Pairwise λa b=>a<=b:=by rw[List.pairwise_map];exact h1.imp λ{a b} h=>Int.ofNat_le.2 (zzY (zBV h))
 obtain⟨a1,a2⟩:=zun hp;obtain⟨b1,b2⟩:=oJ ((DO rs ws).map λk=>(DH cuts k:Int)) [] List.Pairwise.nil;exact zwM a1 b1 λy=>by rw[a2];have:=b2 y;simp only[List.not_mem_nil,or_false]at this;exact this.symm
theorem Td(cuts rs:List Am)(ws:List Ar):Ci ik (Jm cuts rs ws)/\ ∀y,y∈Jm cuts rs ws↔(∃k∈rs,(DH cuts k:Int)=y)\/ ∃w∈ws,(DH cuts w.ao:Int)=y:=by
 obtain⟨b1,b2⟩:=oJ ((DO rs ws).map λk=>(DH cuts k:Int)) [] List.Pairwise.nil;obtain⟨_,h2,_⟩:=W8 rs ws;refine⟨b1,λy=> ?_⟩;unfold Jm;rw[b2];simp only[List.mem_map,List.not_mem_nil,or_false];constructor
 ·rintro⟨k,hk,e⟩;rcases(h2 k).1 hk with q|⟨w,hw,q⟩
  ·exact .inl ⟨k,q,e⟩
  ·exact .inr ⟨w,hw,by rw[q];exact e⟩
 ·rintro(⟨k,hk,e⟩|⟨w,hw,e⟩)
  ·exact⟨k,(h2 k).2 (.inl hk),e⟩
  ·exact⟨w.ao,(h2 _).2 (.inr ⟨w,hw,rfl⟩),e⟩
theorem zzK(cuts rs:List Am)(ws:List Ar):(Jm cuts rs ws).length<=cuts.length+1/\ ∀y∈Jm cuts rs ws,0<=y/\y<=cuts.length:=by
 obtain⟨h1,h2⟩:=Td cuts rs ws;have hb:∀y∈Jm cuts rs ws,0<=y/\y<=cuts.length:=λy hy=>by
  rcases(h2 y).1 hy with⟨k,_,rfl⟩|⟨w,_,rfl⟩
  ·have:=zyx cuts k;omega
  ·have:=zyx cuts w.ao;omega
 have:=Ci.len (lo:=0) (hi:=cuts.length) h1 hb;exact⟨by omega,hb⟩
theorem Oq{n:Nat}{p:Nat->Bool}(ha:(List.range n).all p=true):∀i,i<n->p i=true:=λi hi=>AZ.1 ha i (List.mem_range.2 hi)
theorem zAN{s:Ai}(hc:DL 24 s.aq)(h:Jl s):Rx s=some (KZ s):=by
 have hl:=h.gq;unfold Rx;rw[zyI (n:=s.ae.length) (body:=λi=>KF s i) (Jw s) false (VI s) (λi hi hp=> ?_) (λ_=>by show KF s (s.ae.length:Int)=_;unfold KF;rw[if_neg (by simp)])]
 ·unfold VI KZ;by_cases ha:(List.range s.ae.length).all (Jw s)=true
  ·obtain⟨_,rP,ho⟩:=WZ h (Oq ha);rw[if_pos ha,ha,qT hc rP λx hx=>(ho x hx).1,Aa,Bool.true_and]
  ·rw[if_neg ha,Bool.eq_false_iff.2 ha,Bool.false_and]
 ·have hx:=Aw hi;show KF s (i:Int)=_;unfold KF Jw;rw[Qz hi,if_pos (by simpa using hi),AH hi,Aa,show Sp s.ae[i]=some (Eh s.ae[i])from rfl,Aa,rF (h.held _ hx),Aa];cases hg:CL (Eh s.ae[i])with
  |false=>
   by_cases hp:0<i
   ·rw[if_pos (by simp;omega)];rfl
   ·rw[if_neg (by simp;omega)];rfl
  |true=>
   obtain⟨⟨o1,o2,o3⟩,o4⟩:=Xx (cJ (h.held _ hx) hg rfl);have e1:DR (A6 s.ae 0 (i:Int)) (λy0_=>PN y0_ s.ae[i])=some ((s.ae.take i).any λg=>C8 g s.ae[i].ar s.ae[i].af):=by rw[KV];refine JS _ (λg hgm=> ?_) (by rw[Au];omega);obtain⟨j,hj,rfl⟩:=List.mem_iff_getElem.1 hgm;rw[Au]at hj;rw[List.getElem_take];obtain⟨⟨g1,g2,g3⟩,_⟩:=Xx (qR h (show j<s.ae.length by omega) (hp j (by omega)));unfold PN S1 C8;rw[S6 (by omega) (by omega) (by omega) g3,Aa,S6 (by omega) (by omega) (by omega) o3,Aa];cases Ce s.ae[i].af s.ae[j].ar s.ae[j].af<;>cases Ce s.ae[j].af s.ae[i].ar s.ae[i].af<;>rfl
   have e2:DR s.ae[i].af (λy0_=>PL y0_ s.ae[i] s)=some (s.ae[i].af.any λw=>decide (s.ae[i].ak<=Ch s.aq w.ao)):=by refine JS _ (λw _=> ?_) (by omega);unfold PL;rw[Xw (n:=24) (by omega) hc];rfl
   have rq:0<=(0:Int)/\(0:Int)<=(i:Int)/\(i:Int)<=(s.ae.length:Int):=by omega
   rw[e1,e2,Bb (by omega)];generalize (s.ae.take i).any (λg=>C8 g s.ae[i].ar s.ae[i].af)=A;generalize s.ae[i].af.any (λw=>decide (s.ae[i].ak<=Ch s.aq w.ao))=B;by_cases hp:0<i
   ·rw[if_pos (by simp;omega),Ol hi hp (by omega),if_pos rfl,Qn hi hp,Aa,Ba rq,Aa,Aa];by_cases ht:s.ae[i].ak<=s.ax
    ·rw[if_neg (by simp;omega)];by_cases hr:hk s.ae[i-1]<hk s.ae[i]
     ·have CN: ¬s.ae[i].ah<=s.ae[i-1].ah:=Int.not_le.2 hr;rw[if_neg (by simpa using CN)];cases A<;>cases B<;>simp[ht,hr]
     ·have CN:s.ae[i].ah<=s.ae[i-1].ah:=Int.not_lt.1 hr;rw[if_pos (by simpa using CN)];simp[hr]
    ·rw[if_pos (by simp;omega)];simp[ht]
   ·rw[if_neg (by simp;omega),WI hp,Ba rq,Aa,Aa];by_cases ht:s.ae[i].ak<=s.ax
    ·rw[if_neg (by simp;omega)];cases A<;>cases B<;>simp[ht]
    ·rw[if_pos (by simp;omega)];simp[ht]
theorem zAi{s:Ai}(hc:DL 24 s.aq)(h:Jl s):SN s=some (KZ s):=by
 have hl:=h.gq;unfold SN;rw[zyI (n:=s.ae.length) (body:=λi=>KP s i) (Jw s) false (VZ s) (λi hi hp=> ?_) (λ_=>by show KP s (s.ae.length:Int)=_;unfold KP;rw[if_neg (by simp)])]
 ·unfold VZ KZ;by_cases ha:(List.range s.ae.length).all (Jw s)=true
  ·obtain⟨_,rP,ho⟩:=WZ h (Oq ha);rw[if_pos ha,ha,Bool.true_and];by_cases FZ:s.ae.length<=12
   ·rw[if_pos (by simp;omega),qX hc FZ (λx hx=>(ho x hx).1) (by simp),Aa,List.nil_append];simp[FZ]
   ·rw[if_neg (by simp;omega)];simp[FZ]
  ·rw[if_neg ha,Bool.eq_false_iff.2 ha,Bool.false_and]
 ·have hx:=Aw hi;show KP s (i:Int)=_;unfold KP Jw;rw[Qz hi,if_pos (by simpa using hi),AH hi,Aa,show PR s.ae[i]=some (Eh s.ae[i])from rfl,Aa,cV (h.held _ hx),Aa];cases hg:CL (Eh s.ae[i])with
  |false=>
   by_cases hp:0<i
   ·rw[if_pos (by simp;omega)];rfl
   ·rw[if_neg (by simp;omega)];rfl
  |true=>
   obtain⟨⟨o1,o2,o3⟩,o4⟩:=Xx (cJ (h.held _ hx) hg rfl);have t5:Lm s (i:Int) s.ae[i]=some (if(s.ae[i].af.all λw=> !decide (s.ae[i].ak<=Ch s.aq w.ao))=true then .inl ((i+1:Nat):Int)else .inr (some false)):=by
    unfold Lm;rw[Gs (xs:=s.ae[i].af) (body:=λj=>KL s (i:Int) s.ae[i] j) (λw=> !decide (s.ae[i].ak<=Ch s.aq w.ao)) (.inr (some false)) (VY (i:Int)) (λj hj=>by
     show KL s (i:Int) s.ae[i] (j:Int)=_;unfold KL;rw[if_pos (by simpa using hj),AH hj,Aa,Tz (n:=24) (by omega) hc,Aa,Bb (by omega)];by_cases hq:s.ae[i].ak<=Ch s.aq (s.ae[i].af[j]).ao
     ·rw[if_pos (by simpa using hq)];simp[hq]
     ·rw[if_neg (by simpa using hq)];simp[hq]) (by
     show KL s (i:Int) s.ae[i] (s.ae[i].af.length:Int)=_;unfold KL;rw[if_neg (by simp)])]
    unfold VY;rw[Bb (by omega)];split<;>rfl
   have t9:Sc s (i:Int) s.ae[i]=Lm s (i:Int) s.ae[i]:=rfl;have t6:Az (λj:Int=>JI s (i:Int) s.ae[i] j) 0=if((s.ae.take i).all λg=> !C8 g s.ae[i].ar s.ae[i].af)=true then Lm s (i:Int) s.ae[i]else some (.inr (some false)):=by
    refine Gs (xs:=s.ae.take i) (λg=> !C8 g s.ae[i].ar s.ae[i].af) (.inr (some false)) (Lm s (i:Int) s.ae[i]) (λj hj=> ?_) ?_
    ·rw[Au]at hj;obtain⟨og,_⟩:=Xx (qR h (show j<s.ae.length by omega) (hp j (by omega)));show JI s (i:Int) s.ae[i] (j:Int)=_;unfold JI;rw[KV,if_pos (by rw[Au];simp;omega),AH (by rw[Au];omega),Aa,List.getElem_take,cE og (by omega) (by omega),Aa,Bb (by omega)];cases C8 s.ae[j] s.ae[i].ar s.ae[i].af<;>rfl
    ·show JI s (i:Int) s.ae[i] ((s.ae.take i).length:Int)=_;unfold JI;rw[KV,if_neg (by simp)]
   have t10:Az (λj:Int=>PG s (i:Int) s.ae[i] j) 0=Az (λj:Int=>JI s (i:Int) s.ae[i] j) 0:=rfl;have rq:0<=(0:Int)/\(0:Int)<=(i:Int)/\(i:Int)<=(s.ae.length:Int):=by omega
   rw[t10,t6,t5,List.not_any_eq_all_not,List.not_any_eq_all_not];generalize ((s.ae.take i).all λg=> !C8 g s.ae[i].ar s.ae[i].af)=A;generalize (s.ae[i].af.all λw=> !decide (s.ae[i].ak<=Ch s.aq w.ao))=B;by_cases hp:0<i
   ·rw[if_pos (by simp;omega),Ol hi hp (by omega),if_pos rfl,Qn hi hp,Aa,Ba rq];by_cases ht:s.ae[i].ak<=s.ax
    ·rw[if_neg (by simp;omega)];by_cases hr:hk s.ae[i-1]<hk s.ae[i]
     ·have CN: ¬s.ae[i-1].ah>=s.ae[i].ah:=Int.not_le.2 hr;rw[if_neg (by simpa using CN)];cases A<;>cases B<;>simp[ht,hr]
     ·have CN:s.ae[i-1].ah>=s.ae[i].ah:=Int.not_lt.1 hr;rw[if_pos (by simpa using CN)];simp[hr]
    ·rw[if_pos (by simp;omega)];simp[ht]
   ·rw[if_neg (by simp;omega),WI hp,Ba rq];by_cases ht:s.ae[i].ak<=s.ax
    ·rw[if_neg (by simp;omega)];cases A<;>cases B<;>simp[ht]
    ·rw[if_pos (by simp;omega)];simp[ht]
theorem TB{s:Ai}{i:Nat}(hi:i<s.au.length):Mq s i=(QJ tk s.au i&&(BP s.au[i].ah 1 60&&Jc s s.au[i])):=by unfold Mq;rw[Bt hi]
theorem zCM{s:Ai}(hr:Ci hk s.ae)(hl:s.ae.length<=60)(ht:s.au.length<=60):RH s=some ((List.range s.au.length).all (Mq s)):=by
 unfold RH;rw[Lr (n:=s.au.length) (body:=λi=>KK s i) (Mq s) false (some true) (λi hi=> ?_) (by show KK s (s.au.length:Int)=_;unfold KK;rw[if_neg (by simp)])]
 ·cases(List.range s.au.length).all (Mq s)<;>rfl
 ·show KK s (i:Int)=_;unfold KK;rw[TB hi];unfold Jc;rw[if_pos (by simpa using hi),AH hi,Aa,cU,Qk (s:=s) (t:=s.au[i].ah) (by omega) hr,Qm,Bb (by omega)];simp only[Aa];generalize (Bw s s.au[i].ah).isSome=H;generalize BP s.au[i].ak 1 s.ax=V;generalize BP s.au[i].ah 1 60=X;generalize (s.au[i].ak==0)=T;by_cases hp:0<i
  ·have e1:decide ((i:Int)>0)=true:=by simp;omega
   have e0:decide (s.au[i].ah<=s.au[i-1].ah)= !decide (tk s.au[i-1]<tk s.au[i]):=by rw[<-decide_not];exact decide_eq_decide.2 Int.not_lt.symm
   rw[Ol hi hp (by omega),Qn hi hp];simp only[Aa,e0,e1,if_true];generalize decide (tk s.au[i-1]<tk s.au[i])=R;cases s.au[i].bf<;>cases V<;>cases T<;>cases H<;>cases X<;>cases R<;>rfl
  ·have e1:decide ((i:Int)>0)=false:=by simp;omega
   rw[WI hp];simp only[e1,Bj,if_false];cases s.au[i].bf<;>cases V<;>cases T<;>cases H<;>cases X<;>rfl
theorem zDG{s:Ai}(hl:s.ae.length<=60)(ht:s.au.length<=60):Sj s=some ((List.range s.au.length).all (Mq s)):=by
 unfold Sj;rw[Lr (n:=s.au.length) (body:=λi=>KN s i) (Mq s) false (some true) (λi hi=> ?_) (by show KN s (s.au.length:Int)=_;unfold KN;rw[if_neg (by simp)])]
 ·cases(List.range s.au.length).all (Mq s)<;>rfl
 ·show KN s (i:Int)=_;unfold KN;rw[TB hi];unfold Jc;obtain⟨P,p1,p2⟩:∃P,Jd s s.au[i].ah=some P/\P.2=(Bw s s.au[i].ah).isSome:=by
   rw[Tf (by omega)];cases Bw s s.au[i].ah with
   |none=>exact⟨_,rfl,rfl⟩
   |some x=>exact⟨_,rfl,rfl⟩
  rw[if_pos (by simpa using hi),AH hi,Aa,p1,Bb (by omega)];simp only[Ox,Aa,p2,bne];generalize (Bw s s.au[i].ah).isSome=H;generalize BP s.au[i].ak 1 s.ax=V;generalize BP s.au[i].ah 1 60=X;generalize (s.au[i].ak==0)=T;by_cases hp:0<i
  ·have e1:decide ((i:Int)>0)=true:=by simp;omega
   have e0:decide (s.au[i-1].ah>=s.au[i].ah)= !decide (tk s.au[i-1]<tk s.au[i]):=by rw[<-decide_not];exact decide_eq_decide.2 Int.not_lt.symm
   rw[Ol hi hp (by omega),Qn hi hp];simp only[Aa,e0,e1,if_true];generalize decide (tk s.au[i-1]<tk s.au[i])=R;cases s.au[i].bf<;>cases V<;>cases T<;>cases H<;>cases X<;>cases R<;>rfl
  ·have e1:decide ((i:Int)>0)=false:=by simp;omega
   rw[WI hp];simp only[e1,Bj,if_false];cases s.au[i].bf<;>cases V<;>cases T<;>cases H<;>cases X<;>rfl
theorem zyB{s:Ai}(h:Jl s):P2 s=some (Ig s):=by
 unfold P2 Ig;rw[show SX s.ax=some (BP s.ax 0 100000)from rfl,Aa];cases BP s.ax 0 100000 with
 |false=>rfl
 |true=>
  rw[if_pos rfl,pW h.cells,Aa];cases L6:EO s.aq with
  |false=>rfl
  |true=>
   have hc:=pG h.cells L6;have AB:=hc.2.1;rw[if_pos rfl,zAN hc h,Aa];cases hh:KZ s with
   |false=>rfl
   |true=>
    unfold KZ at hh;simp only[Ab]at hh;obtain⟨hr,hl,_⟩:=WZ h (Oq hh.1);by_cases ht:s.au.length<=60
    ·rw[if_neg (by simp;omega),Gs (xs:=s.aq) (body:=λi=>KI s i) (G0 s) false (RH s) (λi hi=> ?_) (by
      show KI s (s.aq.length:Int)=_;unfold KI;rw[if_neg (by simp)]),zCM hr hl ht,decide_eq_true ht]
     ·cases s.aq.all (G0 s)<;>rfl
     ·show KI s (i:Int)=_;unfold KI G0;rw[if_pos (by simpa using hi),AH hi,Aa,Xw (n:=24) (by omega) hc,Aa,Bb (by omega)];by_cases hq:Ch s.aq (s.aq[i]).ao<=s.ax
      ·rw[if_neg (by simp;omega)];simp[hq]
      ·rw[if_pos (by simp;omega)];simp[hq]
    ·rw[if_pos (by simp;omega),decide_eq_false ht];rfl
theorem zCT{s:Ai}(h:Jl s):Mt s=some (Ig s):=by
 unfold Mt Ig;rw[show Qb s.ax=some (BP s.ax 0 100000)from rfl,Aa];cases BP s.ax 0 100000 with
 |false=>rfl
 |true=>
  rw[if_pos rfl,pF h.cells,Aa];cases L6:EO s.aq with
  |false=>rfl
  |true=>
   have hc:=pG h.cells L6;have AB:=hc.2.1;rw[if_pos rfl,zAi hc h,Aa];cases hh:KZ s with
   |false=>rfl
   |true=>
    unfold KZ at hh;simp only[Ab]at hh;obtain⟨hr,hl,_⟩:=WZ h (Oq hh.1);by_cases ht:s.au.length<=60
    ·rw[if_neg (by simp;omega),Gs (xs:=s.aq) (body:=λi=>KO s i) (G0 s) false (Sj s) (λi hi=> ?_) (by
      show KO s (s.aq.length:Int)=_;unfold KO;rw[if_neg (by simp)]),zDG hl ht,decide_eq_true ht]
     ·cases s.aq.all (G0 s)<;>rfl
     ·show KO s (i:Int)=_;unfold KO G0;rw[if_pos (by simpa using hi),AH hi,Aa,Tz (n:=24) (by omega) hc,Aa,Bb (by omega)];by_cases hq:Ch s.aq (s.aq[i]).ao<=s.ax
      ·rw[if_neg (by simp;omega)];simp[hq]
      ·rw[if_pos (by simp;omega)];simp[hq]
    ·rw[if_pos (by simp;omega),decide_eq_false ht];rfl
theorem zED{s:Ai}(h:Jl s)(g:Ig s=true):WS s/\Hl s:=by
 unfold Ig KZ at g;simp only[Ab,AJ]at g;obtain⟨g1,g2,⟨g3,g4,g5⟩,g6,g7,g8⟩:=g;have B5:=Oq g3;have tall:=Oq g8;obtain⟨hr,hl,ho⟩:=WZ h B5;refine⟨⟨pG h.cells g2,g4,hr,ho,zv9 λi hi=> ?_,λt ht=> ?_⟩,bI.1 ?_⟩
 ·have:=tall i hi;rw[TB hi,Ab]at this;exact this.1
 ·obtain⟨i,hi,rfl⟩:=List.mem_iff_getElem.1 ht;have:=tall i hi;rw[TB hi]at this;simp only[Ab]at this;exact Ey.1 this.2.1
 ·unfold OI Lw;simp only[Ab,AZ];refine⟨g1,g2,⟨λi hi=> ?_,g5⟩,AZ.1 g7,λt ht=> ?_⟩
  ·have:=B5 i (List.mem_range.1 hi);unfold Jw at this;rw[Ab]at this;exact this.1
  ·obtain⟨i,hi,rfl⟩:=List.mem_iff_getElem.1 ht;have:=tall i hi;rw[TB hi]at this;simp only[Ab]at this;exact this.2.2
theorem u7{xs:List Int}{k:Int}(h:xs.length<=2000000):Wy xs k=some (xs.any (· ==k)):=by
 unfold Wy;rw[Gs (xs:=xs) (body:=λi=>Sy xs k i) (λx=> !(x==k)) true (some false) (λi hi=>by
  show Sy xs k (i:Int)=_;unfold Sy;rw[if_pos (by simpa using hi),AH hi,Aa,Bb (by omega)];cases xs[i]==k<;>rfl) (by
  show Sy xs k (xs.length:Int)=_;unfold Sy;rw[if_neg (by simp)])]
 rw[<-List.not_any_eq_all_not];cases xs.any (· ==k)<;>rfl
theorem zQ{xs:List Int}{k:Int}(h:xs.length<=2000000):VK xs k=some (xs.any (· ==k)):=by
 unfold VK kC;rw[bV (xs:=xs) (body:=λi=>Ry xs k i) (λx=>x==k) (λi hi=>by
  show Ry xs k (i:Int)=_;unfold Ry;rw[if_pos (by simpa using hi),AH hi,Aa,Bb (by omega),show(k==xs[i])=(xs[i]==k)from BEq.comm];cases xs[i]==k<;>rfl) (by
  show Ry xs k (xs.length:Int)=_;unfold Ry;rw[if_neg (by simp)]),Aa,bT]
theorem zz7{rs:List Am}{ws:List Ar}(hr:rs.length<=100)(hw:ws.length<=100):Z8 rs ws=some (DO rs ws):=by
 unfold Z8;have e1:Je rs=some rs:=JQ (by omega) (by omega);rw[e1,Aa,zsu (by omega),Aa,Ba (by simp[RM];omega)];unfold Rk Rl;rw[Ba (by rw[AF,List.length_map];omega),Aa];obtain⟨g1,g2,_⟩:=MA (rs++ws.map EB) [] List.Pairwise.nil;have e:=zI (xs:=rs++ws.map EB) g1 λy=>by rw[g2];simp
 show some (Lib.compact (GY (rs++ws.map EB)))=_;rw[e];rfl
theorem zvM{rs:List Am}{ws:List Ar}(hr:rs.length<=100)(hw:ws.length<=100):ZC rs ws=some (DO rs ws):=by
 have k1:∀o:List Am,Ei o->o.length<=rs.length->kW ws o=some (ws.foldl (λo w=>C5 (EB w) o) o):=λo ho hl=>by
  refine(D5 (xs:=ws) (body:=λz:List Am × Int=>Sr ws z.1 z.2) (λi z=>(z,i)) (λo w=>C5 (EB w) o) (λo=>some o) (λi o=>Ei o/\o.length<=rs.length+i)
   (λi hi o ho=>by refine⟨?_,Qi ho.1,by have:=Tw (EB ws[i]) o;omega⟩;show Sr ws o (i:Int)=_;unfold Sr;rw[if_pos (by simpa using hi),AH hi,Aa,TA (by omega) ho.1,Aa,Bb (by omega)];rfl)
   (λo ho=>by show Sr ws o (ws.length:Int)=_;unfold Sr;rw[if_neg (by simp)]) (s:=o) ⟨ho,by omega⟩).1
 obtain⟨a,b⟩:=D5 (xs:=rs) (body:=λz:List Am × Int=>Ss rs ws z.1 z.2) (λi z=>(z,i)) (λo k=>C5 k o) (λo=>kW ws o) (λi o=>Ei o/\o.length<=i)
  (λi hi o ho=>by refine⟨?_,Qi ho.1,by have:=Tw rs[i] o;omega⟩;show Ss rs ws o (i:Int)=_;unfold Ss;rw[if_pos (by simpa using hi),AH hi,Aa,TA (by omega) ho.1,Aa,Bb (by omega)])
  (λo ho=>by show Ss rs ws o (rs.length:Int)=_;unfold Ss;rw[if_neg (by simp)]) (s:=[]) ⟨List.Pairwise.nil,by simp⟩
 refine a.trans ?_;rw[k1 _ b.1 b.2];unfold DO;rw[List.foldl_append,List.foldl_map]
theorem jB(c k:Am):(Op.bytesLess c k||c==k)= !bl k c:=by
 rcases XJ c k with h|h|h
 ·rw[show Op.bytesLess c k=true from h,Oe h];rfl
 ·subst h;rw[KT];simp
 ·have h1:=Oe h;have h2:(c==k)=false:=by simpa using λe=>H4 h e.symm
  rw[show Op.bytesLess c k=false from h1,h2,h];rfl
theorem zvt(k:Am):∀(cuts:List Am) (n:Int),cuts.foldl (λn c=>if(!bl k c)=true then n+1 else n) n=n+DH cuts k
 | [],n=>by simp[DH]
 |c::cuts,n=>by rw[List.foldl_cons,zvt k cuts];unfold DH;rw[List.filter_cons];cases bl k c<;>simp<;>omega
theorem oX{cuts:List Am}{k:Am}(hl:cuts.length<=1000):Ws cuts k=some (DH cuts k:Int):=by
 refine((D5 (xs:=cuts) (body:=λz:Int × Int=>R8 cuts k z.1 z.2) (λi z=>(z,i)) (λn c=>if(!bl k c)=true then n+1 else n) (λn=>some n) (λi n=>0<=n/\n<=i)
  (λi hi n hn=>by refine⟨?_,by split<;>omega⟩;show R8 cuts k n (i:Int)=_;unfold R8;rw[if_pos (by simpa using hi),AH hi,Aa,jB,Bb (by omega),show IntKind.i64.wrap (n+1)=n+1 from CO (by omega) (by omega)];cases bl k cuts[i]<;>rfl)
  (λn _=>by show R8 cuts k n (cuts.length:Int)=_;unfold R8;rw[if_neg (by simp)]) (s:=0) ⟨by omega,by omega⟩).1).trans ?_
 rw[zvt,Int.zero_add]
theorem qW{cuts:List Am}{k:Am}(hl:cuts.length<=1000)(hr:Ei cuts):SM cuts k=some (DH cuts k:Int):=by
 refine(cD (xs:=cuts) (body:=λi=>KM cuts k i) (λc=> !bl k c) (λn=>some n) (λi hi=>by
   show KM cuts k (i:Int)=_;unfold KM;rw[if_pos (by simpa using hi),AH hi,Aa,jB,Bb (by omega)];cases bl k cuts[i]<;>rfl) (by
   show KM cuts k (cuts.length:Int)=_;unfold KM;rw[if_neg (by simp)])).trans ?_
 rw[zvx hr]
theorem vX{l:List Int}{n:Int}(hl:l.length<=1000)(hr:Ci ik l):mZ l n=some (H8 n l):=by
 refine(cD (xs:=l) (body:=λi=>SD l n i) (A7 ik n) (λv=>ZD l n v) (λi hi=>by
   show SD l n (i:Int)=_;unfold SD A7;rw[if_pos (by simpa using hi),AH hi,Aa,Bb (by omega)];by_cases h:ik l[i]<n
   ·rw[if_pos (by simpa using h),if_pos (by simpa using h)]
   ·rw[if_neg (by simpa using h),if_neg (by simpa using h)]) (by
   show SD l n (l.length:Int)=_;unfold SD;rw[if_neg (by simp)])).trans ?_
 have hp:=Oo (A7 ik n) l;have hf:=S2 (t:=n) hr;have ins:(∀y∈l,ik y≠n)->(req (0<=(0:Int)/\(0:Int)<=((AK (A7 ik n) l:Nat):Int)/\((AK (A7 ik n) l:Nat):Int)<=(l.length:Int))<|
   req (RM ((([]:List Int).length:Int)+(((A6 l 0 ((AK (A7 ik n) l:Nat):Int))).length:Int)) 8)<|
   req (RM ((((A6 l 0 ((AK (A7 ik n) l:Nat):Int))).length:Int)+(([n]:List Int).length:Int)) 8)<|
   req (0<=((AK (A7 ik n) l:Nat):Int)/\((AK (A7 ik n) l:Nat):Int)<=(l.length:Int)/\(l.length:Int)<=(l.length:Int))<|
   req (RM (((((A6 l 0 ((AK (A7 ik n) l:Nat):Int))++ [n])).length:Int)+(((A6 l ((AK (A7 ik n) l:Nat):Int) (l.length:Int))).length:Int)) 8)<|
   some (((A6 l 0 ((AK (A7 ik n) l:Nat):Int))++ [n])++(A6 l ((AK (A7 ik n) l:Nat):Int) (l.length:Int))))=some (DV ik n l):=λhn=>by
  rw[YB,NM];have h1:(l.take (AK (A7 ik n) l)).length<=1000:=by rw[Au];omega
  have h2:(l.drop (AK (A7 ik n) l)).length<=1000:=by rw[Bx];omega
  rw[Ba (by omega),Ba (by simp only[RM,List.length_nil];omega),Ba (by simp only[RM,AP];omega),Ba (by omega),Ba (by simp only[RM,AF,AP];omega)];rw[bW (key:=ik) (x:=n) hn]
 have fin:(∀y∈l,ik y≠n)->H8 n l=DV ik n l:=λhn=>by unfold H8;rw[if_neg λhm=>hn n hm rfl]
 unfold ZD;by_cases AD:AK (A7 ik n) l<l.length
 ·rw[if_pos (by simpa using AD),AH AD,Aa];rw[Bt AD]at hf;by_cases he:l[AK (A7 ik n) l]=n
  ·rw[if_pos (by simpa using he)];unfold H8;rw[if_pos (by rw[<-he];exact Aw _)]
  ·rw[if_neg (by simpa using he)];simp only[if_neg he]at hf;have hn:∀y∈l,ik y≠n:=λy hy e=>by
    have:=List.find?_eq_none.1 hf y hy;simp[ik]at this;exact this e
   rw[ins hn,fin hn]
 ·rw[if_neg (by simpa using AD)];rw[List.getElem?_eq_none (by omega)]at hf;have hn:∀y∈l,ik y≠n:=λy hy e=>by
   have:=List.find?_eq_none.1 hf y hy;simp[ik]at this;exact this e
  rw[ins hn,fin hn]
theorem zyg(n:Int)(l:List Int):(H8 n l).length<=l.length+1:=by
 unfold H8;split
 ·omega
 ·rw[qG];exact AQ _
theorem zzO{cuts rs:List Am}{ws:List Ar}(hl:cuts.length<=1000)(hr:rs.length<=100)(hw:ws.length<=100):ZT cuts rs ws=some (Jm cuts rs ws):=by
 have hk:=(W8 rs ws).2.2;unfold ZT;rw[zz7 hr hw,Aa];refine((D5 (xs:=DO rs ws) (body:=λz:Int × List Int=>Sq cuts (DO rs ws) z.1 z.2) (λi z=>(i,z)) (λo k=>o++ [(λk=>(DH cuts k:Int)) k]) (λo=>lU o) (λi o=>o.length=i)
  (λi hi o ho=>by refine⟨?_,by simp[ho]⟩;show Sq cuts (DO rs ws) (i:Int) o=_;unfold Sq;rw[if_pos (by simpa using hi),AH hi,Aa,oX hl,Aa,Ba (by simp only[RM,AP];omega),Bb (by omega)])
  (λo ho=>by show Sq cuts (DO rs ws) ((DO rs ws).length:Int) o=_;unfold Sq;rw[if_neg (by simp)]) (s:=[]) rfl).1).trans ?_
 rw[foldl_map,List.nil_append];unfold lU YM;rw[Aa,ztY]
theorem zzy{cuts rs:List Am}{ws:List Ar}{t:Int}(hc:Ei cuts)(hl:cuts.length<=1000)(hr:rs.length<=100)(hw:ws.length<=100):Ln cuts ⟨t,rs,ws⟩=some (Jm cuts rs ws):=by
 have hk:=(W8 rs ws).2.2;unfold Ln;rw[show ZC (⟨t,rs,ws⟩:Ak).ar (⟨t,rs,ws⟩:Ak).af=some (DO rs ws)from zvM hr hw,Aa];have h:Wp cuts (DO rs ws)=some (Jm cuts rs ws):=by
  refine((D5 (xs:=DO rs ws) (body:=λz:List Int × Int=>NW cuts (DO rs ws) z.1 z.2) (λi z=>(z,i)) (λo k=>H8 (DH cuts k:Int) o) (λo=>some o) (λi o=>Ci ik o/\o.length<=i)
   (λi hi o ho=>by refine⟨?_,oU ho.1,by have:=zyg (DH cuts (DO rs ws)[i]:Int) o;omega⟩;show NW cuts (DO rs ws) o (i:Int)=_;unfold NW;rw[if_pos (by simpa using hi),AH hi,Aa,qW hl hc,Aa,vX (by omega) ho.1,Aa,Bb (by omega)])
   (λo ho=>by show NW cuts (DO rs ws) o ((DO rs ws).length:Int)=_;unfold NW;rw[if_neg (by simp)]) (s:=[]) ⟨List.Pairwise.nil,by simp⟩).1).trans ?_
  unfold Jm;rw[List.foldl_map]
 rw[h];rfl
structure IG(o:Ak):Prop where
 reads:JV o.ar
 writes:cX o.af
def Rf(o:Ak):AS:=⟨1,o.ah,1,0,o.ar,o.af,false⟩
def Di(o:Ak):Bool:=CL (Rf o)
theorem zC1{o:Ak}(h:IG o):ZK o=some (Di o):=by unfold ZK;show(Mx (Rf o)).bind _=_;rw[cV (show Gt (Rf o)from⟨h.reads,h.writes⟩)];rfl
theorem zDx{o:Ak}(h:IG o):ZR o=some (Di o):=by unfold ZR mD;rw[cU,rF (show Gt ⟨1,1,1,0,o.ar,o.af,false⟩from⟨h.reads,h.writes⟩)];unfold Di CL Rf;rw[if_pos rfl,if_pos rfl,show BP 1 1 60=true from rfl,Bool.true_and];cases BP o.ah 1 60<;>rfl
def QH(l:List Ak)(i:Nat):Bool:=match l[i]? with
 |some o=>Di o&& !(l.take i).any (λp=>p.ah==o.ah)
 |none=>true
theorem W0{l:List Ak}{i:Nat}(hi:i<l.length):QH l i=(Di l[i]&& !(l.take i).any (λp=>p.ah==l[i].ah)):=by unfold QH;rw[Bt hi]
def JU(l:List Ak):Bool:=(List.range l.length).all (QH l)&&decide (l.length<=8)
def LN(d:Ag):Bool:=(Dx d.aw&&decide ((d.aw.length:Int)<4))&&(decide (d.aj.length=d.aw.length+1)&&(d.aj.all Ig&&JU d.ab))
structure LI(d:Ag):Prop where
 cuts:JV d.aw
 en:d.aj.length<=2000000
 bh:∀s∈d.aj,Jl s
 b8:d.ab.length<=2000000
 bm:∀o∈d.ab,IG o
theorem zwg{l:List Ak}(hl:l.length<=2000000)(h:∀o∈l,IG o):V6 l=some (JU l):=by
 unfold V6;rw[Lr (n:=l.length) (body:=λi=>RF l i) (QH l) false (lB l) (λi hi=> ?_) (by show RF l (l.length:Int)=_;unfold RF;rw[if_neg (by simp)])]
 ·unfold lB JU;rw[show decide ((l.length:Int)<=8)=decide (l.length<=8)from decide_eq_decide.2 (by omega)];cases(List.range l.length).all (QH l)<;>rfl
 ·show RF l (i:Int)=_;unfold RF;rw[if_pos (by simpa using hi),AH hi,Aa,zC1 (h _ (Aw hi)),Aa,Ba (by omega),W0 hi];have t:Az (λj:Int=>RU l (i:Int) l[i] j) 0=if((l.take i).all λp=> !(p.ah==l[i].ah))=true then Zf (i:Int)else some (.inr (some false)):=by
   refine Gs (xs:=l.take i) (λp=> !(p.ah==l[i].ah)) (.inr (some false)) (Zf (i:Int)) (λj hj=> ?_) ?_
   ·rw[Au]at hj;show RU l (i:Int) l[i] (j:Int)=_;unfold RU;rw[KV,if_pos (by rw[Au];simp;omega),AH (by rw[Au];omega),Aa,Bb (by omega),show(l[i].ah==(l.take i)[j].ah)=((l.take i)[j].ah==l[i].ah)from BEq.comm];cases(l.take i)[j].ah==l[i].ah<;>rfl
   ·show RU l (i:Int) l[i] ((l.take i).length:Int)=_;unfold RU;rw[KV,if_neg (by simp)]
  rw[t,List.not_any_eq_all_not];unfold Zf;rw[Bb (by omega)];cases Di l[i]<;>cases((l.take i).all λp=> !(p.ah==l[i].ah))<;>rfl
theorem zBW{d:Ag}(hl:d.ab.length<=2000000)(h:∀o∈d.ab,IG o):Az (λi:Int=>PU d i) 0=some (JU d.ab):=by
 rw[Lr (n:=d.ab.length) (body:=λi=>PU d i) (QH d.ab) false (kZ d) (λi hi=> ?_) (by show PU d (d.ab.length:Int)=_;unfold PU;rw[if_neg (by simp)])]
 ·unfold kZ JU;rw[show decide ((d.ab.length:Int)<=8)=decide (d.ab.length<=8)from decide_eq_decide.2 (by omega)];cases(List.range d.ab.length).all (QH d.ab)<;>rfl
 ·show PU d (i:Int)=_;unfold PU;have e:DR (A6 d.ab 0 (i:Int)) (λy0_=>lW y0_ d.ab[i])=some ((d.ab.take i).any λp=>p.ah==d.ab[i].ah):=by
   rw[KV];exact JS _ (λp _=>rfl) (by rw[Au];omega)
  rw[if_pos (by simpa using hi),AH hi,Aa,zDx (h _ (Aw hi)),Aa,Ba (by omega),W0 hi,e,Aa,Bb (by omega)];cases Di d.ab[i]<;>cases((d.ab.take i).any λp=>p.ah==d.ab[i].ah)<;>rfl
theorem W3{d:Ag}(h:LI d):SB d=some (LN d):=by
 have hc:=h.cuts.1;have hs:=h.en;unfold SB LN;rw[zC0 h.cuts,Aa];have e:DR d.aj (λy0_=>Zw y0_)=some (d.aj.any λs=> !Ig s):=JS _ (λs hm=>by unfold Zw;rw[zyB (h.bh s hm)];rfl) (by omega);rw[e,Aa,zBW h.b8 h.bm,Bb (by omega)];cases(Dx d.aw&&decide ((d.aw.length:Int)<4))with
 |false=>rfl
 |true=>
  rw[if_pos rfl];by_cases hl:d.aj.length=d.aw.length+1
  ·rw[if_neg (by simp;omega),decide_eq_true hl,List.all_eq_not_any_not];cases d.aj.any λs=> !Ig s<;>rfl
  ·rw[if_pos (by simp;omega),decide_eq_false hl];rfl
theorem Xd{d:Ag}(h:LI d):SP d=some (LN d):=by
 have hc:=h.cuts.1;have hs:=h.en;have k:ZB d=some ((Dx d.aw&&decide ((d.aw.length:Int)<4))&&(decide (d.aj.length=d.aw.length+1)&&JU d.ab)):=by
  unfold ZB;rw[zyJ h.cuts,Aa,zwg h.b8 h.bm,Bb (by omega)];cases(Dx d.aw&&decide ((d.aw.length:Int)<4))with
  |false=>rfl
  |true=>
   rw[if_pos rfl];by_cases hl:d.aj.length=d.aw.length+1
   ·rw[if_pos (by simp;omega),decide_eq_true hl];rfl
   ·rw[if_neg (by simp;omega),decide_eq_false hl];rfl
 unfold SP LN;rw[Gs (xs:=d.aj) (body:=λi=>Sk d i) Ig false (ZB d) (λi hi=>by
  show Sk d (i:Int)=_;unfold Sk;rw[if_pos (by simpa using hi),AH hi,Aa,zCT (h.bh _ (Aw hi)),Aa,Bb (by omega)];cases Ig d.aj[i]<;>rfl) (by
  show Sk d (d.aj.length:Int)=_;unfold Sk;rw[if_neg (by simp)]),k]
 cases d.aj.all Ig<;>cases(Dx d.aw&&decide ((d.aw.length:Int)<4))<;>cases decide (d.aj.length=d.aw.length+1)<;>rfl
structure GD(d:Ag):Prop where
 dg:Ei d.aw
 keys:∀c∈d.aw,CC c=true
 dv:d.aw.length<=3
 len:d.aj.length=d.aw.length+1
 bh:∀s∈d.aj,WS s/\Hl s
 b8:d.ab.length<=8
 bm:∀o∈d.ab,Di o=true/\IG o
 os:JU d.ab=true
theorem wI{d:Ag}(h:LI d)(g:LN d=true):GD d:=by
 unfold LN Dx at g;simp only[Ab,AJ]at g;obtain⟨⟨⟨g0,g1⟩,g2⟩,g3,g4,os⟩:=g;have g:=os;unfold JU at g;simp only[Ab,AJ]at g;obtain⟨g5,g6⟩:=g;refine⟨?_,AZ.1 g0,by omega,g3,λs hs=>zED (h.bh s hs) (AZ.1 g4 s hs),g6,λo ho=>⟨?_,h.bm o ho⟩,os⟩
 ·rw[My]at g1;exact(Ix (r:=bl) λa b c p q=>EN p q).1 g1
 ·obtain⟨i,hi,rfl⟩:=List.mem_iff_getElem.1 ho;have:=Oq g5 i hi;rw[W0 hi,Ab]at this;exact this.1
theorem JR{o:Ak}(g:Di o=true):(1<=o.ah/\o.ah<=60)/\(o.ar.length<=8/\o.af.length<=8/\0<o.ar.length+o.af.length)/\(Dx o.ar=true/\Fs o.af=true):=by unfold Di CL Rf at g;rw[if_pos rfl]at g;simp only[Ab,AJ]at g;obtain⟨a1,a2,a3,a4,a5,a6,a7,a8,a9⟩:=g;exact⟨Ey.1 a1,⟨by omega,by omega,by omega⟩,a4,a6⟩
theorem zvo{o:Ak}(g:Di o=true):Zq o=some o:=by obtain⟨_,⟨h1,h2,_⟩,_⟩:=JR g;unfold Zq;have e1:Je o.ar=some o.ar:=JQ (by omega) (by omega);have e2:Ms o.af=some o.af:=JQ (by omega) (by omega);rw[e1,Aa,e2,Aa]
theorem nF{d:Ag}(g:GD d):SQ d=some d:=by
 have g1:=g.dv;have g2:=g.len;have g3:=g.b8;unfold SQ;have e1:Je d.aw=some d.aw:=JQ (by omega) (by omega);rw[e1,Aa];refine((D5 (xs:=d.aj) (body:=λz:Int × List Ai=>RD d d.aw z.1 z.2) (λi z=>(i,z)) (λo c=>o++ [c]) (λo=>xV d d.aw o) (λi o=>o.length=i)
  (λi hi o ho=>by refine⟨?_,by simp[ho]⟩;show RD d d.aw (i:Int) o=_;unfold RD;rw[if_pos (by simpa using hi),AH hi,Aa,aK (g.bh _ (Aw hi)).1,Aa,Ba (by simp only[RM,AP];omega),Bb (by omega)])
  (λo ho=>by show RD d d.aw (d.aj.length:Int) o=_;unfold RD;rw[if_neg (by simp)]) (s:=[]) rfl).1).trans ?_
 have e:=foldl_map (λc:Ai=>c) d.aj [];simp only[List.map_id',List.nil_append]at e;rw[e];refine((D5 (xs:=d.ab) (body:=λz:Int × List Ak=>Su d d.aw d.aj z.1 z.2) (λi z=>(i,z)) (λo c=>o++ [c]) (λo=>some (⟨d.aw,d.aj,o⟩:Ag)) (λi o=>o.length=i)
  (λi hi o ho=>by refine⟨?_,by simp[ho]⟩;show Su d d.aw d.aj (i:Int) o=_;unfold Su;rw[if_pos (by simpa using hi),AH hi,Aa,zvo (g.bm _ (Aw hi)).1,Aa,Ba (by simp only[RM,AP];omega),Bb (by omega)])
  (λo ho=>by show Su d d.aw d.aj (d.ab.length:Int) o=_;unfold Su;rw[if_neg (by simp)]) (s:=[]) rfl).1).trans ?_
 have e:=foldl_map (λc:Ak=>c) d.ab [];simp only[List.map_id',List.nil_append]at e;rw[e]
theorem uT{l:List Ak}(hl:l.length<=8)(g:∀o∈l,Di o=true):ZX l=some l:=by
 refine((D5 (xs:=l) (body:=λz:List Ak × Int=>Sg l z.1 z.2) (λi z=>(z,i)) (λo c=>o++ [c]) (λo=>some o) (λi o=>o.length=i)
  (λi hi o ho=>by obtain⟨_,⟨h1,h2,_⟩,_⟩:=JR (g _ (Aw hi));refine⟨?_,by simp[ho]⟩;show Sg l o (i:Int)=_;unfold Sg;rw[if_pos (by simpa using hi),AH hi,Aa,QE (by omega),Aa,Ba (by simp only[RM,List.length_nil];omega),Ba (by simp only[RM,AP];omega),Bb (by omega)])
  (λo ho=>by show Sg l o (l.length:Int)=_;unfold Sg;rw[if_neg (by simp)]) (s:=[]) rfl).1).trans ?_
 have e:=foldl_map (λc:Ak=>c) l [];simp only[List.map_id',List.nil_append]at e;rw[e]
theorem nS{d:Ag}(g:GD d):SW d=some d:=by
 have g1:=g.dv;have g2:=g.len;unfold SW;rw[QE (by omega),Aa,uT g.b8 λo ho=>(g.bm o ho).1,Aa];refine((D5 (xs:=d.aj) (body:=λz:Int × List Ai=>SJ d d.aw d.ab z.1 z.2) (λi z=>(i,z)) (λo c=>o++ [c]) (λo=>some (⟨d.aw,o,d.ab⟩:Ag)) (λi o=>o.length=i)
  (λi hi o ho=>by refine⟨?_,by simp[ho]⟩;show SJ d d.aw d.ab (i:Int) o=_;unfold SJ;rw[if_pos (by simpa using hi),AH hi,Aa,zyb (g.bh _ (Aw hi)).1,Aa,Ba (by simp only[RM,AP];omega),Bb (by omega)])
  (λo ho=>by show SJ d d.aw d.ab (d.aj.length:Int) o=_;unfold SJ;rw[if_neg (by simp)]) (s:=[]) rfl).1).trans ?_
 have e:=foldl_map (λc:Ai=>c) d.aj [];simp only[List.map_id',List.nil_append]at e;rw[e]
theorem aZ{α:Type}{key:α->Int}{l:List α}{t:Int}{x:α}(hr:Ci key l)(h:l.find? (λy=>key y==t)=some x):getI l ((AK (A7 key t) l:Nat):Int)=some x:=by
 have hf:=S2 (t:=t) hr;rw[h]at hf;rcases Nat.lt_or_ge (AK (A7 key t) l) l.length with hp|hp
 ·rw[Bt hp]at hf;have hf:some x=if key l[AK (A7 key t) l]=t then some l[AK (A7 key t) l]else none:=hf;split at hf
  ·cases hf;exact AH hp
  ·cases hf
 ·rw[List.getElem?_eq_none hp]at hf;cases hf
def KB:Ai:=⟨0,[],[],[]⟩
def Ao(d:Ag)(p:Int):Ai:=(d.aj[p.toNat]?).getD KB
def Ay(d:Ag)(o:Ak):List Int:=Jm d.aw o.ar o.af
def Bf(d:Ag)(o:Ak):Int:=(Ay d o).headD 0
theorem D0{d:Ag}(g:GD d){p:Int}(h0:0<=p)(h1:p<=d.aw.length):getI d.aj p=some (Ao d p)/\(Ao d p∈d.aj/\p.toNat<d.aj.length):=by
 have hl:=g.len;obtain⟨x,e1,e2,e3⟩:=qU (xs:=d.aj) h0 (by omega);have:Ao d p=x:=by unfold Ao;rw[e3];rfl
 rw[this];exact⟨e1,e2,by omega⟩
theorem Fu{d:Ag}{o:Ak}(go:Di o=true):(∀p∈Ay d o,0<=p/\p<=d.aw.length)/\((Ay d o).length<=d.aw.length+1/\(getI (Ay d o) 0=some (Bf d o)/\Bf d o∈Ay d o)):=by
 obtain⟨a,b⟩:=zzK d.aw o.ar o.af;refine⟨b,a,?_⟩;obtain⟨_,⟨_,_,A9⟩,_⟩:=JR go;obtain⟨_,h2⟩:=Td d.aw o.ar o.af;unfold Bf Ay;cases hp:Jm d.aw o.ar o.af with
 |nil=>
  exfalso;rw[hp]at h2;cases hr:o.ar with
  |cons k ks=>exact absurd ((h2 _).2 (.inl ⟨k,by rw[hr];simp,rfl⟩)) (by simp)
  |nil=>
   cases hw:o.af with
   |cons w ws=>exact absurd ((h2 _).2 (.inr ⟨w,by rw[hw];simp,rfl⟩)) (by simp)
   |nil=>rw[hr,hw]at A9;simp at A9
 |cons x xs=>exact⟨rfl,by simp⟩
theorem Qo{d:Ag}{o:Ak}(g:GD d)(go:Di o=true):KJ d o=some (Ay d o):=by have:=g.dv;obtain⟨_,⟨h1,h2,_⟩,_⟩:=JR go;unfold KJ;rw[zzO (by omega) (by omega) (by omega)];rfl
theorem qB{d:Ag}{o:Ak}(g:GD d)(go:Di o=true):Ln d.aw o=some (Ay d o):=by have:=g.dv;obtain⟨_,⟨h1,h2,_⟩,_⟩:=JR go;exact zzy (t:=o.ah) g.dg (by omega) (by omega) (by omega)
def LJ(cuts rs:List Am)(p:Int):List Am:=rs.filter λk=>(DH cuts k:Int)==p
def K0(cuts:List Am)(ws:List Ar)(p:Int):List Ar:=ws.filter λw=>(DH cuts w.ao:Int)==p
theorem zy6{cuts rs:List Am}{p:Int}(hl:cuts.length<=1000)(hr:rs.length<=100):ZW cuts rs p=some (LJ cuts rs p):=by unfold ZW P7;have e1:Je rs=some rs:=JQ (by omega) (by omega);rw[e1,Aa,Ba (by omega),nZ (p:=λy0_=>Zp y0_ cuts p) (λk=> !((DH cuts k:Int)==p)) λk _=>by unfold Zp;rw[oX hl];rfl,Aa];unfold LJ;simp only[Bool.not_not]
theorem zxM{cuts:List Am}{ws:List Ar}{p:Int}(hl:cuts.length<=1000)(hr:ws.length<=100):ZI cuts ws p=some (K0 cuts ws p):=by unfold ZI P7;have e1:Ms ws=some ws:=JQ (by omega) (by omega);rw[e1,Aa,Ba (by omega),nZ (p:=λy0_=>Zv y0_ cuts p) (λw=> !((DH cuts w.ao:Int)==p)) λw _=>by unfold Zv;rw[oX hl];rfl,Aa];unfold K0;simp only[Bool.not_not]
theorem nD{α:Type}(q:α->Bool):∀(xs o:List α),xs.foldl (λo x=>if q x=true then o++ [x]else o) o=o++xs.filter q
 | [],o=>by simp
 |x::xs,o=>by rw[List.foldl_cons,nD q xs,List.filter_cons];cases q x<;>simp
theorem zDD{cuts rs:List Am}{ws:List Ar}{p:Int}(hc:Ei cuts)(hl:cuts.length<=1000)(hr:rs.length<=100)(hw:ws.length<=100):mB cuts rs ws p=some (LJ cuts rs p,K0 cuts ws p):=by
 have k1:∀r:List Am,lH cuts ws p r=some (r,K0 cuts ws p):=λr=>by
  refine((D5 (xs:=ws) (body:=λz:List Ar × Int=>RE cuts ws p r z.1 z.2) (λi z=>(z,i)) (λo w=>if((DH cuts w.ao:Int)==p)=true then o++ [w]else o) (λo=>some (r,o)) (λi o=>o.length<=i)
   (λi hi o ho=>by refine⟨?_,by split<;>(try simp)<;>omega⟩;show RE cuts ws p r o (i:Int)=_;unfold RE;rw[if_pos (by simpa using hi),AH hi,Aa,qW hl hc,Aa,Bb (by omega),Ba (by simp only[RM,AP];omega)];cases(DH cuts (ws[i]).ao:Int)==p<;>rfl)
   (λo ho=>by show RE cuts ws p r o (ws.length:Int)=_;unfold RE;rw[if_neg (by simp)]) (s:=[]) (by simp)).1).trans ?_
  rw[nD (λw:Ar=>(DH cuts w.ao:Int)==p)];rfl
 refine((D5 (xs:=rs) (body:=λz:List Am × Int=>RA cuts rs ws p z.1 z.2) (λi z=>(z,i)) (λo k=>if((DH cuts k:Int)==p)=true then o++ [k]else o) (λo=>lH cuts ws p o) (λi o=>o.length<=i)
  (λi hi o ho=>by refine⟨?_,by split<;>(try simp)<;>omega⟩;show RA cuts rs ws p o (i:Int)=_;unfold RA;rw[if_pos (by simpa using hi),AH hi,Aa,qW hl hc,Aa,Bb (by omega),Ba (by simp only[RM,AP];omega)];cases(DH cuts rs[i]:Int)==p<;>rfl)
  (λo ho=>by show RA cuts rs ws p o (rs.length:Int)=_;unfold RA;rw[if_neg (by simp)]) (s:=[]) (by simp)).1).trans ?_
 rw[k1,nD (λk:Am=>(DH cuts k:Int)==p)];rfl
abbrev T5:Type:=Option (AS × Int)
def J1(d:Ag)(o:Ak)(p:Int):T5:=
 if(Ay d o).any (· ==p)=true then
  (if(AU (Ao d (Bf d o)) o.ah).isSome=true then none
  else if(Ao d p).ax=100000 then none
  else some (⟨1,o.ah,(Ao d p).ax+1,Bf d o,LJ d.aw o.ar p,K0 d.aw o.af p,false⟩,p))
 else none
def Jp(d:Ag)(t:Int):List Int->Int->Option Int
 | [],n=>some n
 |p::ps,n=>match Bw (Ao d p) t with
  |none=>none
  |some h=>Jp d t ps (if h.ak>n then h.ak else n)
def KD(d:Ag)(o:Ak)(t:Int):T5:=
 if BP t 0 100000=true then(match Jp d o.ah (Ay d o) t with
  |none=>none
  |some n=>some (⟨2,o.ah,n,0,[],[],true⟩,Bf d o))else none
def Yr(d:Ag)(o:Ak):T5:=some (⟨2,o.ah,0,0,[],[],false⟩,Bf d o)
def H9(d:Ag)(o:Ak)(p:Int):T5:=match AU (Ao d (Bf d o)) o.ah with
 |none=>none
 |some t=>if((Ay d o).drop 1).any (· ==p)=true then some (⟨3,o.ah,t.ak,0,[],[],t.bf⟩,p)else none
def Fk(d:Ag)(o:Ak)(a:BG):T5:=
 if a.az=1 then(if a.ak=0 then J1 d o a.bz else none)
 else if a.az=2 then(if a.bz=0 then KD d o a.ak else none)
 else if a.az=3 then(if a.bz=0/\a.ak=0 then Yr d o else none)
 else if a.az=4 then(if a.ak=0 then H9 d o a.bz else none)
 else none
theorem pP{s:Ai}{t:Int}{x:A8}(h:AU s t=some x):x∈s.au:=List.mem_of_find?_eq_some h
theorem zyj{s:Ai}{t:Int}{x:AL}(h:Bw s t=some x):x∈s.ae:=List.mem_of_find?_eq_some h
theorem uW{d:Ag}(g:GD d){t:Int}:∀{ps:List Int} {n m:Int},(∀p∈ps,0<=p/\p<=d.aw.length)->0<=n->n<=100000->Jp d t ps n=some m->n<=m/\(m<=100000/\(ps≠ []->1<=m))
 | [],n,m,_,h0,h1,e=>by cases e;exact⟨by omega,h1,λh=>absurd rfl h⟩
 |p::ps,n,m,hp,h0,h1,e=>by
  unfold Jp at e;split at e
  ·cases e
  ·rename_i h hh;obtain⟨_,hm,_⟩:=D0 g (hp p (by simp)).1 (hp p (by simp)).2;obtain⟨_,gs⟩:=g.bh _ hm;obtain⟨h2,h3,_⟩:=gs.single h (zyj hh);have h4:=(rG h2 rfl).1;have h5:1<=h.ak/\h.ak<=100000:=h4;obtain⟨a,b,_⟩:=uW g (λq hq=>hp q (by simp[hq])) (by split<;>omega) (by split<;>omega) e;have hn:n<=(if h.ak>n then h.ak else n)/\1<=(if h.ak>n then h.ak else n):=by split<;>omega
   exact⟨by omega,b,λ_=>by omega⟩
theorem zvw{ks:List Am}(q:Am->Bool)(h:Dx ks=true):Dx (ks.filter q)=true:=by unfold Dx at h ⊢;rw[Ab,AZ,My,Ix (r:=bl) λa b c p q=>EN p q]at h ⊢;exact⟨λx hx=>h.1 x (List.mem_filter.1 hx).1,h.2.filter _⟩
theorem zvA{ws:List Ar}(q:Ar->Bool)(h:Fs ws=true):Fs (ws.filter q)=true:=by have hl:=List.length_filter_le q ws;unfold Fs at h ⊢;rw[My,aR]at h ⊢;simp only[Ab,AJ,AZ]at h ⊢;rw[Ix (r:=λa b:Ar=>bl a.ao b.ao) λa b c p q=>EN p q]at h ⊢;exact⟨by omega,λx hx=>h.2.1 x (List.mem_filter.1 hx).1,h.2.2.filter _⟩
theorem zwW{o:Ak}(h:IG o)(q:Am->Bool)(q':Ar->Bool){k t n l:Int}{y:Bool}:Gt ⟨k,t,n,l,o.ar.filter q,o.af.filter q',y⟩:=by
 have h1:=h.reads;have h2:=h.writes;refine⟨⟨?_,λx hx=>h1.2 x (List.mem_filter.1 hx).1⟩,⟨?_,λx hx=>h2.2 x (List.mem_filter.1 hx).1⟩⟩
 ·have:=List.length_filter_le q o.ar;have:=h1.1;dsimp only;omega
 ·have:=List.length_filter_le q' o.af;have:=h2.1;dsimp only;omega
theorem nX{k t n l:Int}{y:Bool}:Gt ⟨k,t,n,l,[],[],y⟩:=⟨⟨by simp,by simp⟩,⟨by simp,by simp⟩⟩
theorem qA{k t n l:Int}{y:Bool}(hy:y=true->0<n)(ht:1<=t/\t<=60):Gp ⟨k,t,n,l,[],[],y⟩:=⟨by simp,by simp,List.Pairwise.nil,⟨by simp,by simp⟩,λ_ _ h=>hy h,λ_=>ht⟩
structure MY(d:Ag)(x:AS × Int):Prop where
 jj:CL x.1=true
 ok:Gp x.1
 small:Gt x.1
 lo:0<=x.2
 hi:x.2<=d.aw.length
theorem uR{d:Ag}{o:Ak}{p:Int}{x:AS × Int}(g:GD d)(go:Di o=true)(so:IG o)(e:J1 d o p=some x):MY d x:=by
 obtain⟨b1,b2,b3,b4⟩:=Fu (d:=d) go;obtain⟨o1,⟨o2,o3,_⟩,o4,o5⟩:=JR go;have hf:=g.dv;unfold J1 at e;split at e
 ·rename_i hm;split at e
  ·cases e
  ·split at e
   ·cases e
   ·rename_i Ca;cases e;obtain⟨q,hq,e⟩:=List.any_eq_true.1 hm;have e:q=p:=by simpa using e
    subst e;obtain⟨c1,c2⟩:=b1 q hq;obtain⟨_,DD,_⟩:=D0 g c1 c2;obtain⟨_,gs⟩:=g.bh _ DD;have eS:=gs.floor;have JA:=List.length_filter_le (λk=>(DH d.aw k:Int)==q) o.ar;have Ld:=List.length_filter_le (λw:Ar=>(DH d.aw w.ao:Int)==q) o.af;have A9:0<(LJ d.aw o.ar q).length+(K0 d.aw o.af q).length:=by
     rcases((Td d.aw o.ar o.af).2 q).1 hq with⟨k,hk,e⟩|⟨w,hw,e⟩
     ·have:k∈LJ d.aw o.ar q:=List.mem_filter.2 ⟨hk,by simpa using e⟩;have:=List.length_pos_of_mem this;omega
     ·have:w∈K0 d.aw o.af q:=List.mem_filter.2 ⟨hw,by simpa using e⟩;have:=List.length_pos_of_mem this;omega
    have sN:=b1 _ b4;have gr:CL ⟨1,o.ah,(Ao d q).ax+1,Bf d o,LJ d.aw o.ar q,K0 d.aw o.af q,false⟩=true:=by unfold CL;rw[if_pos rfl];simp only[Ab,AJ];unfold LJ K0 at A9 ⊢;exact⟨Ey.2 o1,Ey.2 ⟨by omega,by omega⟩,Ey.2 ⟨by omega,by omega⟩,zvw _ o4,by omega,zvA _ o5,by omega,by omega,rfl⟩
    have sm:Gt ⟨1,o.ah,(Ao d q).ax+1,Bf d o,LJ d.aw o.ar q,K0 d.aw o.af q,false⟩:=zwW so _ _;exact⟨gr,cJ sm gr rfl,sm,c1,c2⟩
 ·cases e
theorem qK{k t n:Int}{y:Bool}(hk:k=2\/k=3)(ht:1<=t/\t<=60)(hn:if y=true then 1<=n/\n<=100000 else n=0):CL ⟨k,t,n,0,[],[],y⟩=true:=by
 unfold CL;have h1: ¬k=1:=by omega
 simp only[if_neg h1,if_pos hk,Ey.2 ht];cases y with
 |true=>simp only[if_true]at hn ⊢;rw[Ey.2 hn];rfl
 |false=>simp only[Bj,if_false]at hn ⊢;rw[hn];rfl
theorem uD{d:Ag}{o:Ak}{t:Int}{x:AS × Int}(g:GD d)(go:Di o=true)(e:KD d o t=some x):MY d x:=by
 obtain⟨b1,b2,b3,b4⟩:=Fu (d:=d) go;obtain⟨o1,_,_⟩:=JR go;unfold KD at e;split at e
 ·rename_i ht;have ht:=Ey.1 ht;split at e
  ·cases e
  ·rename_i n hn;cases e;obtain⟨_,m2,m3⟩:=uW g b1 ht.1 ht.2 hn;have m4:=m3 λh=>by rw[h]at b4;simp at b4
   have:=b1 _ b4;exact⟨qK (.inl rfl) o1 (by rw[if_pos rfl];exact⟨m4,m2⟩),qA (λ_=>by omega) o1,nX,this.1,this.2⟩
 ·cases e
theorem tV{d:Ag}{o:Ak}{x:AS × Int}(go:Di o=true)(e:Yr d o=some x):MY d x:=by obtain⟨b1,b2,b3,b4⟩:=Fu (d:=d) go;obtain⟨o1,_,_⟩:=JR go;cases e;have:=b1 _ b4;exact⟨qK (.inl rfl) o1 (by simp),qA (λh=>by cases h) o1,nX,this.1,this.2⟩
theorem tU{d:Ag}{o:Ak}{p:Int}{x:AS × Int}(g:GD d)(go:Di o=true)(e:H9 d o p=some x):MY d x:=by
 obtain⟨b1,b2,b3,b4⟩:=Fu (d:=d) go;obtain⟨o1,_,_⟩:=JR go;unfold H9 at e;split at e
 ·cases e
 ·rename_i t ht;split at e
  ·rename_i hm;cases e;obtain⟨q,hq,e⟩:=List.any_eq_true.1 hm;have e:q=p:=by simpa using e
   subst e;have c:=b1 q (BM hq);obtain⟨l1,l2⟩:=b1 _ b4;obtain⟨_,DD,_⟩:=D0 g l1 l2;obtain⟨_,gs⟩:=g.bh _ DD;have hf:=gs.floor;have h1:=(gs.told t (pP ht)).1;refine⟨qK (.inr rfl) o1 ?_,qA (λh=> ?_) o1,nX,c.1,c.2⟩
   ·split
    ·rename_i hy;rw[if_pos hy]at h1;omega
    ·rename_i hy;rw[if_neg hy]at h1;exact h1
   ·rw[if_pos h]at h1;omega
  ·cases e
theorem Xi{d:Ag}{o:Ak}{a:BG}{x:AS × Int}(g:GD d)(go:Di o=true)(so:IG o)(e:Fk d o a=some x):MY d x:=by
 unfold Fk at e;split at e
 ·split at e
  ·exact uR g go so e
  ·cases e
 ·split at e
  ·split at e
   ·exact uD g go e
   ·cases e
  ·split at e
   ·split at e
    ·exact tV go e
    ·cases e
   ·split at e
    ·split at e
     ·exact tU g go e
     ·cases e
    ·cases e
def Gc(d:Ag)(x:AS × Int):Option Ag:=(BS (Ao d x.2) x.1).map λs=>⟨d.aw,d.aj.set x.2.toNat s,d.ab⟩
def Hj(x:Option Ag):Ag × Bool:=match x with
 |some d=>(d,true)
 |none=>(⟨[],[],[]⟩,false)
theorem zGb{d d':Ag}{x:AS × Int}(g:GD d)(hx:MY d x)(e:Gc d x=some d'):GD d':=by
 obtain⟨_,DD,_⟩:=D0 g hx.lo hx.hi;obtain⟨ws,gs⟩:=g.bh _ DD;unfold Gc at e;cases hq:BS (Ao d x.2) x.1 with
 |none=>rw[hq]at e;cases e
 |some s=>
  rw[hq]at e;cases e;refine⟨g.dg,g.keys,g.dv,by rw[List.length_set];exact g.len,λy hy=> ?_,g.b8,g.bm,g.os⟩;rcases List.mem_or_eq_of_mem_set hy with h|h
  ·exact g.bh y h
  ·rw[h];exact⟨zys ws hx.ok hq,zDA ws gs hx.jj hq⟩
theorem aQ{d:Ag}{x:AS × Int}(g:GD d)(hx:MY d x):PI d x.2 x.1=some (Hj (Gc d x)):=by
 obtain⟨e1,DD,_⟩:=D0 g hx.lo hx.hi;obtain⟨ws,gs⟩:=g.bh _ DD;unfold PI Gc;rw[e1,Aa,zDP ws hx.ok,Aa];cases hq:BS (Ao d x.2) x.1 with
 |none=>rfl
 |some s=>rw[if_neg (by simp),nF g,Aa,e1,Aa];rfl
def Yu(d:Ag)(x:T5):Ag × Bool:=Hj (x.bind (Gc d))
theorem Od{xs:List Int}{p:Int}:xs.any (· ==p)=true↔p∈xs:=by
 rw[List.any_eq_true];constructor
 ·rintro⟨q,hq,e⟩;have:q=p:=by simpa using e
  rw[<-this];exact hq
 ·intro h;exact⟨p,h,by simp⟩
theorem zzs{d:Ag}{o:Ak}{p:Int}(g:GD d)(go:Di o=true)(so:IG o):Y6 d o p=some (Yu d (J1 d o p)):=by
 obtain⟨b1,b2,b3,b4⟩:=Fu (d:=d) go;obtain⟨o1,⟨o2,o3,_⟩,o4,o5⟩:=JR go;have hf:=g.dv;have l1:=b1 _ b4;obtain⟨s1,s2,_⟩:=D0 g l1.1 l1.2;obtain⟨w1,_⟩:=g.bh _ s2;have It:=w1.cc;unfold Y6;rw[Qo g go,Aa,zQ (by omega),Aa];by_cases hm:(Ay d o).any (· ==p)=true
 ·have c:=b1 p (Od.1 hm);obtain⟨t1,t2,_⟩:=D0 g c.1 c.2;obtain⟨_,gs⟩:=g.bh _ t2;have Ca:=gs.floor;rw[hm,if_neg (by simp),b3,Aa,s1,Aa,Oh (by omega) w1.c9,Aa];by_cases ht:(AU (Ao d (Bf d o)) o.ah).isSome=true
  ·rw[if_pos ht];unfold J1;rw[if_pos hm,if_pos ht];rfl
  ·rw[if_neg ht,t1,Aa,show IntKind.i64.wrap ((Ao d p).ax+1)=(Ao d p).ax+1 from CO (by omega) (by omega)];unfold mL;by_cases hq:(Ao d p).ax=100000
   ·rw[if_pos (by simp;omega),Aa,if_pos (by simp)];unfold J1;rw[if_pos hm,if_neg ht,if_pos hq];rfl
   ·rw[if_neg (by simp;omega),Aa,if_neg (by simp),zy6 (by omega) (by omega),Aa,zxM (by omega) (by omega),Aa];have e:J1 d o p=some (⟨1,o.ah,(Ao d p).ax+1,Bf d o,LJ d.aw o.ar p,K0 d.aw o.af p,false⟩,p):=by
     unfold J1;rw[if_pos hm,if_neg ht,if_neg hq]
    exact(cM (aQ g (uR g go so e))).trans (by rw[e];rfl)
 ·rw[Bool.eq_false_iff.2 hm,if_pos (by rfl)];unfold J1;rw[if_neg hm];rfl
theorem zvU{d:Ag}{o:Ak}(g:GD d)(go:Di o=true):PJ d o=some (Yu d (Yr d o)):=by obtain⟨b1,b2,b3,b4⟩:=Fu (d:=d) go;unfold PJ;rw[Qo g go,Aa,b3,Aa];exact(cM (aQ g (tV (d:=d) go rfl))).trans rfl
theorem ztB{d:Ag}{o:Ak}{p:Int}(g:GD d)(go:Di o=true):PH d o p=some (Yu d (H9 d o p)):=by
 obtain⟨b1,b2,b3,b4⟩:=Fu (d:=d) go;have hf:=g.dv;have l1:=b1 _ b4;have I7:=List.length_pos_of_mem b4;obtain⟨s1,s2,_⟩:=D0 g l1.1 l1.2;obtain⟨w1,_⟩:=g.bh _ s2;have It:=w1.cc;unfold PH;rw[Qo g go,Aa,b3,Aa,s1,Aa,Oh (by omega) w1.c9,Aa];cases ht:AU (Ao d (Bf d o)) o.ah with
 |none=>rw[if_pos (by simp)];unfold YI H9;rw[if_pos rfl,ht];rfl
 |some t=>
  rw[if_neg (by simp),Ba (by omega),show A6 (Ay d o) 1 ((Ay d o).length:Int)=(Ay d o).drop 1 from NM _ 1,zQ (by rw[Bx];omega),Aa];unfold YI;cases hm:((Ay d o).drop 1).any (· ==p)with
  |false=>rw[if_pos (by simp)];unfold H9;rw[ht];simp only[hm];rfl
  |true=>
   have e:H9 d o p=some (⟨3,o.ah,t.ak,0,[],[],t.bf⟩,p):=by unfold H9;rw[ht];simp only[hm];rfl
   rw[if_neg (by simp)];show(getI (Ao d (Bf d o)).au ((AK (A7 tk o.ah) (Ao d (Bf d o)).au:Nat):Int)).bind _=_;rw[aZ w1.c9 ht,Aa];exact(cM (aQ g (tU g go e))).trans (by rw[e];rfl)
def zHr(d:Ag)(o:Ak)(p n:Int):Option (Int ⊕ Option (Ag × Bool)):=match Bw (Ao d p) o.ah with
 |none=>some (.inr (some (⟨[],[],[]⟩,false)))
 |some h=>some (.inl (if h.ak>n then h.ak else n))
theorem dG{β:Type}{d:Ag}{t:Int}{z:Option β}{fin:Int->Option β}{step:Int->Int->Option (Int ⊕ Option β)}
  (hs:∀p n,step p n=match Bw (Ao d p) t with|none=>some (.inr z)|some h=>some (.inl (if h.ak>n then h.ak else n))):∀(ps:List Int) (n:Int),G1 step fin ps n=match Jp d t ps n with|none=>z|some m=>fin m
 | [],n=>rfl
 |p::ps,n=>by
  unfold G1 Jp;rw[hs];cases Bw (Ao d p) t with
  |none=>rfl
  |some h=>exact dG hs ps _
theorem zAU{d:Ag}{o:Ak}{n:Int}(g:GD d)(go:Di o=true):YV d o n=some (Yu d (KD d o n)):=by
 obtain⟨b1,b2,b3,b4⟩:=Fu (d:=d) go;have hf:=g.dv;unfold YV;rw[zDH,Aa];cases hn:BP n 0 100000 with
 |false=>rw[if_pos (by rfl)];unfold KD;rw[hn,if_neg (by simp)];rfl
 |true=>
  rw[if_neg (by simp),Qo g go,Aa];refine(WY (xs:=Ay d o) (body:=λz:Int × Int=>Ru d o (Ay d o) z.1 z.2) (λi n=>(n,i)) (λp n=>match Bw (Ao d p) o.ah with|none=>some (.inr (some (⟨[],[],[]⟩,false)))|some h=>some (.inl (if h.ak>n then h.ak else n))) (λn=>YT d o n)
   (λi hi n=>by
    have c:=b1 _ (Aw hi);obtain⟨t1,t2,_⟩:=D0 g c.1 c.2;obtain⟨w1,_⟩:=g.bh _ t2;have hw:=w1.dv;show Ru d o (Ay d o) n (i:Int)=_;unfold Ru;rw[if_pos (by simpa using hi),AH hi,Aa,t1,Aa,Qk (by omega) w1.dg,Aa,Bb (by omega)];cases hh:Bw (Ao d (Ay d o)[i]) o.ah with
    |none=>rfl
    |some h=>
     rw[if_neg (by simp)];show(getI (Ao d (Ay d o)[i]).ae ((AK (A7 hk o.ah) (Ao d (Ay d o)[i]).ae:Nat):Int)).bind _=_;rw[aZ w1.dg hh,Aa];by_cases hq:h.ak>n
     ·rw[decide_eq_true hq];simp only[if_pos hq];rfl
     ·rw[decide_eq_false hq];simp only[if_neg hq];rfl)
   (λn=>by show Ru d o (Ay d o) n ((Ay d o).length:Int)=_;unfold Ru;rw[if_neg (by simp)]) n).trans ?_
  rw[dG (d:=d) (t:=o.ah) λp n=>rfl];cases hq:Jp d o.ah (Ay d o) n with
  |none=>unfold KD;rw[hn,if_pos rfl,hq];rfl
  |some m=>
   have e:KD d o n=some (⟨2,o.ah,m,0,[],[],true⟩,Bf d o):=by unfold KD;rw[hn,if_pos rfl,hq]
   show YT d o m=_;unfold YT;rw[Qo g go,Aa,b3,Aa];exact(cM (aQ g (uD g go e))).trans (by rw[e];rfl)
def Du(d:Ag)(a:BG):Option Ag:=match getI d.ab (CV (λo=>o.ah==a.ah) d.ab)with
 |none=>none
 |some o=>(Fk d o a).bind (Gc d)
theorem zET{d:Ag}{a:BG}(g:GD d):V2 d a=some (Hj (Du d a)):=by
 have hl:=g.b8;unfold V2 Du;rw[show Gb d.ab (λy0_=>kP y0_ a)=some (CV (λo:Ak=>o.ah==a.ah) d.ab)from zwL _ (λo _=>rfl) (by omega),Aa];have Nb:=Qv (λo:Ak=>o.ah==a.ah) d.ab;by_cases hi:CV (λo:Ak=>o.ah==a.ah) d.ab<0
 ·have e:getI d.ab (CV (λo:Ak=>o.ah==a.ah) d.ab)=none:=by unfold getI;rw[if_neg (by omega)]
  rw[if_pos (by simpa using hi),e];rfl
 ·obtain⟨o,e,_,ho⟩:=Xb (p:=λo:Ak=>o.ah==a.ah) (l:=d.ab) (by omega);obtain⟨go,so⟩:=g.bm o ho;rw[if_neg (by simpa using hi),e,Aa];simp only;unfold Fk;by_cases k1:a.az=1
  ·rw[if_pos k1];by_cases t:a.ak=0
   ·rw[if_pos (by simp[k1,t]),if_pos t,zzs g go so];rfl
   ·rw[if_neg (by simp[t]),if_neg (by simp[k1]),if_neg (by simp[t]),if_neg (by simp[t]),if_neg t];rfl
  ·rw[if_neg k1,if_neg (by simp[k1])];by_cases k2:a.az=2
   ·rw[if_pos k2];by_cases t:a.bz=0
    ·rw[if_pos (by simp[k2,t]),if_pos t,zAU g go];rfl
    ·rw[if_neg (by simp[t]),if_neg (by simp[t]),if_neg (by simp[k2]),if_neg t];rfl
   ·rw[if_neg k2,if_neg (by simp[k2])];by_cases k3:a.az=3
    ·rw[if_pos k3];by_cases t:a.bz=0/\a.ak=0
     ·rw[if_pos (by simp[k3,t.1,t.2]),if_pos t,zvU g go];rfl
     ·rw[if_neg (by simp[k3];omega),if_neg (by simp[k3]),if_neg t];rfl
    ·rw[if_neg k3,if_neg (by simp[k3])];by_cases k4:a.az=4
     ·rw[if_pos k4];by_cases t:a.ak=0
      ·rw[if_pos (by simp[k4,t]),if_pos t,ztB g go];rfl
      ·rw[if_neg (by simp[t]),if_neg t];rfl
     ·rw[if_neg k4,if_neg (by simp[k4])];rfl
theorem cT{d d':Ag}{a:BG}(g:GD d)(e:Du d a=some d'):GD d':=by
 unfold Du at e;split at e
 ·cases e
 ·rename_i o ho;obtain⟨go,so⟩:=g.bm o (pL ho);cases hr:Fk d o a with
  |none=>rw[hr]at e;cases e
  |some x=>rw[hr]at e;exact zGb g (Xi g go so hr) e
theorem zts{s:Ai}(w:WS s)(gs:Hl s):∀x∈s.ae,Gt (Eh x):=λx hx=>by obtain⟨⟨h1,_,_⟩,h2⟩:=w.held x hx;obtain⟨h3,_⟩:=gs.single x hx;unfold CL at h3;rw[if_pos (show(Eh x).az=1 from rfl)]at h3;simp only[Ab]at h3;have h4:Dx x.ar=true:=h3.2.2.2.1;unfold Dx at h4;rw[Ab,AZ]at h4;refine⟨⟨by show x.ar.length<=_;omega,λk hk=> ?_⟩,⟨by have:=h2.1;show x.af.length<=_;omega,h2.2⟩⟩;have:=h4.1 k hk;unfold CC at this;rw[Ab]at this;have:=Ey.1 this.1;omega
theorem zyv{s:Ai}(w:WS s)(gs:Hl s):Mt s=some true:=by rw[zCC w (w.cells.small (by omega)) (zts w gs),bI.2 gs]
theorem zEQ{s:Ai}(w:WS s)(gs:Hl s):Y9 s 0=some (if s.ax=100000 then(0,false)else(s.ax+1,true)):=by
 have hf:=gs.floor;have e:KR s.ax 0=some s.ax:=by
  unfold KR;by_cases h:s.ax>0
  ·rw[if_pos (by simpa using h)]
  ·rw[if_neg (by simpa using h),show s.ax=0 by omega]
 unfold Y9;rw[zyv w gs,Aa,if_pos rfl,zx5,Aa,if_pos (by rfl),e,Aa];by_cases h:s.ax=100000
 ·rw[if_pos (by simpa using h),if_pos h]
 ·rw[if_neg (by simpa using h),if_neg h,Aa,show IntKind.i64.wrap (s.ax+1)=s.ax+1 from CO (by omega) (by omega)]
theorem zxy{s:Ai}{r:AS}(w:WS s)(gs:Hl s)(gr:CL r=true)(hr:Gp r)(sr:Gt r):ZF s r=some (match BS s r with|some s'=>(s',true)|none=>(⟨0,[],[],[]⟩,false)):=by
 unfold ZF;obtain⟨x,e1,e2⟩:=zyE w hr;rw[zyv w gs,Aa,if_pos rfl,cV sr,gr,Aa,if_neg (by simp),e1,Aa];cases hq:BS s r with
 |none=>rfl
 |some s'=>rw[e2 s' hq];rfl
theorem qM{xs:List Int}{x p:Int}(h:Ci ik xs)(h0:getI xs 0=some x):(xs.drop 1).any (· ==p)=(!(p==x)&&xs.any (· ==p)):=by
 cases xs with
 |nil=>cases h0
 |cons y ys=>
  have:y=x:=by simpa[getI]using h0
  subst this;have h1:=(List.pairwise_cons.1 h).1;rw[List.any_cons];by_cases e:p=y
  ·subst e;have:ys.any (· ==p)=false:=by
    rw[Bool.eq_false_iff];intro hm;have:p<p:=h1 p (Od.1 hm);omega
   simp[this]
  ·have e1:(p==y)=false:=by simpa using e
   have e2:(y==p)=false:=by simpa using λq=>e q.symm
   simp[e1,e2]
theorem zGf{d:Ag}{o:Ak}{a:BG}(g:GD d)(go:Di o=true)(so:IG o):∃r p b,aD d o a=some (r,p,b)/\((Fk d o a=none/\b=false)\/(Fk d o a=some (r,p)/\b=true)):=by
 obtain⟨b1,b2,b3,b4⟩:=Fu (d:=d) go;obtain⟨o1,⟨o2,o3,_⟩,o4,o5⟩:=JR go;have hf:=g.dv;have l1:=b1 _ b4;obtain⟨s1,s2,_⟩:=D0 g l1.1 l1.2;obtain⟨w1,_⟩:=g.bh _ s2;have It:=w1.cc;unfold aD;rw[qB g go,Aa,b3,Aa,s1,Aa,bP (by omega),Aa];unfold Fk;by_cases k1:a.az=1
 ·rw[if_pos (by simpa using k1),if_pos k1];unfold J1;cases ht:AU (Ao d (Bf d o)) o.ah with
  |some t=>exact⟨_,_,_,rfl, .inl ⟨by split<;>(try split)<;>simp,rfl⟩⟩
  |none=>
   by_cases t:a.ak=0
   ·simp only[Bj,if_false,if_pos t,Option.isSome_none];rw[if_neg (by simp[t]),u7 (by omega),Aa];cases hm:(Ay d o).any (· ==a.bz)with
    |false=>exact⟨_,_,_,rfl, .inl ⟨by simp,rfl⟩⟩
    |true=>
     have c:=b1 _ (Od.1 hm);obtain⟨t1,t2,_⟩:=D0 g c.1 c.2;obtain⟨w2,gs⟩:=g.bh _ t2;rw[if_neg (by simp),t1,Aa,zEQ w2 gs,Aa,zDD g.dg (by omega) (by omega) (by omega),Aa];by_cases hq:(Ao d a.bz).ax=100000
     ·exact⟨_,_,_,rfl, .inl ⟨by simp only[if_true,Bj,if_false,if_pos hq],by rw[if_pos hq]⟩⟩
     ·refine⟨_,_,_,rfl, .inr ⟨?_,by rw[if_neg hq]⟩⟩;simp only[if_true,Bj,if_false,if_neg hq]
   ·simp only[Bj,if_false,if_neg t];rw[if_pos (by simp[t])];exact⟨_,_,_,rfl, .inl ⟨by simp,rfl⟩⟩
 ·rw[if_neg (by simpa using k1),if_neg k1];by_cases k2:a.az=2
  ·rw[if_pos (by simpa using k2),if_pos k2];have e:Az (λz:Int × Int=>P3 d o a (Ay d o) (Bf d o) z.1 z.2) (a.ak,0)=match Jp d o.ah (Ay d o) a.ak with|none=>some (⟨0,0,0,0,[],[],false⟩,0,false)|some m=>V7 o a (Bf d o) m:=by
    refine(WY (xs:=Ay d o) (body:=λz:Int × Int=>P3 d o a (Ay d o) (Bf d o) z.1 z.2) (λi n=>(n,i)) (λp n=>match Bw (Ao d p) o.ah with|none=>some (.inr (some (⟨0,0,0,0,[],[],false⟩,0,false)))|some h=>some (.inl (if h.ak>n then h.ak else n))) (λn=>V7 o a (Bf d o) n)
     (λi hi n=>by
      have c:=b1 _ (Aw hi);obtain⟨t1,t2,_⟩:=D0 g c.1 c.2;obtain⟨w1,_⟩:=g.bh _ t2;have hw:=w1.dv;show P3 d o a (Ay d o) (Bf d o) n (i:Int)=_;unfold P3;rw[if_pos (by simpa using hi),AH hi,Aa,t1,Aa,Tf (by omega),Aa,Bb (by omega)];cases hh:Bw (Ao d (Ay d o)[i]) o.ah with
      |none=>rfl
      |some h=>
       simp only[Bool.not_true,Bj,if_false];have em:KR n h.ak=some (if h.ak>n then h.ak else n):=by
        unfold KR;by_cases q1:n>h.ak
        ·rw[if_pos (by simpa using q1),if_neg (by omega)]
        ·rw[if_neg (by simpa using q1)];by_cases q2:h.ak>n
         ·rw[if_pos q2]
         ·rw[if_neg q2,show h.ak=n by omega]
       rw[em,Aa];rfl)
     (λn=>by show P3 d o a (Ay d o) (Bf d o) n ((Ay d o).length:Int)=_;unfold P3;rw[if_neg (by simp)]) a.ak).trans ?_
    rw[dG (d:=d) (t:=o.ah) λp n=>rfl]
   rw[e];unfold KD;cases hq:Jp d o.ah (Ay d o) a.ak with
   |none=>exact⟨_,_,_,rfl, .inl ⟨by split<;>(try split)<;>rfl,rfl⟩⟩
   |some m=>
    show∃r p b,V7 o a (Bf d o) m=some (r,p,b)/\_;unfold V7;by_cases t:a.bz=0
    ·rw[if_pos (by simpa using t),if_pos t,zx5,Aa];cases BP a.ak 0 100000 with
     |false=>exact⟨_,_,_,rfl, .inl ⟨by simp,rfl⟩⟩
     |true=>exact⟨_,_,_,rfl, .inr ⟨by simp,rfl⟩⟩
    ·rw[if_neg (by simpa using t),if_neg t];exact⟨_,_,_,rfl, .inl ⟨rfl,rfl⟩⟩
  ·rw[if_neg (by simpa using k2),if_neg k2];by_cases k3:a.az=3
   ·rw[if_pos (by simpa using k3),if_pos k3];by_cases t:a.bz=0/\a.ak=0
    ·exact⟨_,_,_,rfl, .inr ⟨by rw[if_pos t];rfl,by simp[t.1,t.2]⟩⟩
    ·exact⟨_,_,_,rfl, .inl ⟨by rw[if_neg t],by simp;omega⟩⟩
   ·rw[if_neg (by simpa using k3),if_neg k3];by_cases k4:a.az=4
    ·rw[if_pos (by simpa using k4),if_pos k4];have Nw:=qM (p:=a.bz) (Td d.aw o.ar o.af).1 b3;unfold H9;cases ht:AU (Ao d (Bf d o)) o.ah with
     |none=>exact⟨_,_,_,rfl, .inl ⟨by split<;>rfl,rfl⟩⟩
     |some t=>
      simp only[if_true];by_cases q:a.ak=0
      ·rw[if_pos (by simpa using q),if_pos q];by_cases q2:a.bz=Bf d o
       ·rw[if_neg (by simp[q2])];refine⟨_,_,_,rfl, .inl ⟨?_,rfl⟩⟩;have:((Ay d o).drop 1).any (· ==a.bz)=false:=by
         refine Nw.trans ?_;simp[q2]
        rw[this];rfl
       ·rw[if_pos (by simp[q2]),u7 (by omega),Aa];have e2:((Ay d o).drop 1).any (· ==a.bz)=(Ay d o).any (· ==a.bz):=by
         refine Nw.trans ?_;have:(a.bz==Bf d o)=false:=by simpa using q2
         rw[this];rfl
        rw[e2];cases(Ay d o).any (· ==a.bz)with
        |false=>exact⟨_,_,_,rfl, .inl ⟨rfl,rfl⟩⟩
        |true=>exact⟨_,_,_,rfl, .inr ⟨rfl,rfl⟩⟩
      ·rw[if_neg (by simpa using q),if_neg q];exact⟨_,_,_,rfl, .inl ⟨rfl,rfl⟩⟩
    ·rw[if_neg (by simpa using k4),if_neg k4];exact⟨_,_,_,rfl, .inl ⟨rfl,rfl⟩⟩
theorem vO{d:Ag}{t:Int}(h:d.ab.length<=2000000):Ww d t=some (CV (λo=>o.ah==t) d.ab):=by
 unfold Ww;rw[bV (xs:=d.ab) (body:=λi=>SG d t i) (λo=>o.ah==t) (λi hi=>by
  show SG d t (i:Int)=_;unfold SG;rw[if_pos (by simpa using hi),AH hi,Aa,Bb (by omega)];cases(d.ab[i]).ah==t<;>rfl) (by
  show SG d t (d.ab.length:Int)=_;unfold SG;rw[if_neg (by simp)])]
theorem zE9{d:Ag}{a:BG}(g:GD d):Wi d a=some (Hj (Du d a)):=by
 have hl:=g.b8;unfold Wi Du;rw[vO (by omega),Aa];have Nb:=Qv (λo:Ak=>o.ah==a.ah) d.ab;by_cases hi:CV (λo:Ak=>o.ah==a.ah) d.ab<0
 ·have e:getI d.ab (CV (λo:Ak=>o.ah==a.ah) d.ab)=none:=by unfold getI;rw[if_neg (by omega)]
  rw[if_pos (by simpa using hi),e];rfl
 ·obtain⟨o,e,_,ho⟩:=Xb (p:=λo:Ak=>o.ah==a.ah) (l:=d.ab) (by omega);obtain⟨go,so⟩:=g.bm o ho;rw[if_neg (by simpa using hi),e,Aa];obtain⟨r,p,b,e1,e2|e2⟩:=zGf (a:=a) g go so
  ·obtain⟨e2,rfl⟩:=e2;rw[e1,Aa,if_pos (by rfl)];simp only[e2];rfl
  ·obtain⟨e2,rfl⟩:=e2;have ok:=Xi g go so e2;obtain⟨t1,t2,_⟩:=D0 g ok.lo ok.hi;obtain⟨w2,gs⟩:=g.bh _ t2;have t1:getI d.aj p=some (Ao d p):=t1;rw[e1,Aa,if_neg (by simp)];simp only[e2];rw[t1,Aa,zxy w2 gs ok.jj ok.ok ok.small,Aa];show _=some (Hj (Gc d (r,p)));unfold Gc;show _=some (Hj ((BS (Ao d p) r).map _));cases hq:BS (Ao d p) r with
   |none=>rfl
   |some s=>rw[if_neg (by simp),nS g,Aa,t1,Aa];rfl
theorem JN{β:Type}{n:Nat}{body:Int->Option (Int ⊕ Option β)}{fin:Option β}(hs:∀i,i<n->body (i:Int)=some (.inl ((i+1:Nat):Int)))(he:body (n:Int)=some (.inr fin)):Az body 0=fin:=by
 have key:∀k q,q+k=n->Az body (q:Int)=fin:=by
  intro k
  induction k with
  |zero=>
   intro q hq;have:q=n:=by omega
   subst this;rw[EM,he]
  |succ k ih=>intro q hq;rw[EM,hs q (by omega)];exact ih (q+1) (by omega)
 exact key n 0 (by omega)
theorem zG{l:List Am}(h:l.length<=2000000):Wc l l=some true:=by
 unfold Wc;rw[if_neg (by simp)];refine JN (n:=l.length) (body:=λi=>RJ l l i) (λi hi=> ?_) ?_
 ·show RJ l l (i:Int)=_;unfold RJ;rw[if_pos (by simpa using hi),AH hi,Aa,Aa,if_neg (by simp),Bb (by omega)]
 ·show RJ l l (l.length:Int)=_;unfold RJ;rw[if_neg (by simp)]
theorem zBn{l:List Ar}(h:l.length<=2000000):Zc l l=some true:=by
 unfold Zc;rw[if_neg (by simp)];refine JN (n:=l.length) (body:=λi=>Rr l l i) (λi hi=> ?_) ?_
 ·show Rr l l (i:Int)=_;unfold Rr;rw[if_pos (by simpa using hi),AH hi,Aa,Aa,if_neg (by simp),Bb (by omega)]
 ·show Rr l l (l.length:Int)=_;unfold Rr;rw[if_neg (by simp)]
theorem zzz{l:List Am}(h:l.length<=2000000):Z3 l l=some true:=by
 unfold Z3;rw[if_neg (by simp)];refine JN (n:=l.length) (body:=λi=>Sf l l i) (λi hi=> ?_) ?_
 ·show Sf l l (i:Int)=_;unfold Sf;rw[if_pos (by simpa using hi),AH hi,Aa,Aa,if_neg (by simp),Bb (by omega)]
 ·show Sf l l (l.length:Int)=_;unfold Sf;rw[if_neg (by simp)]
theorem zzw{l:List Ar}(h:l.length<=2000000):ZS l l=some true:=by
 unfold ZS;rw[if_neg (by simp)];refine JN (n:=l.length) (body:=λi=>Si l l i) (λi hi=> ?_) ?_
 ·show Si l l (i:Int)=_;unfold Si;rw[if_pos (by simpa using hi),AH hi,Aa,Aa,if_neg (by simp),Bb (by omega)]
 ·show Si l l (l.length:Int)=_;unfold Si;rw[if_neg (by simp)]
theorem zwH{l:List An}(h:Oz l):ZP l l=some true:=by
 have hl:=h.1;unfold ZP;rw[if_neg (by simp)];refine JN (n:=l.length) (body:=λi=>RV l l i) (λi hi=> ?_) ?_
 ·have hv:=(h.2 _ (Aw hi)).2.1;show RV l l (i:Int)=_;unfold RV;rw[if_pos (by simpa using hi),AH hi,Aa,Aa,if_neg (by simp)];refine JN (n:=(l[i]).bc.length) (body:=λj=>R6 (i:Int) l[i] l[i] j) (λj hj=> ?_) ?_
  ·show R6 (i:Int) l[i] l[i] (j:Int)=_;unfold R6;rw[if_pos (by simpa using hj),AH hj,Aa,Aa,if_neg (by simp),Bb (by omega)]
  ·show R6 (i:Int) l[i] l[i] ((l[i]).bc.length:Int)=_;unfold R6 xM;rw[if_neg (by simp),Bb (by omega)]
 ·show RV l l (l.length:Int)=_;unfold RV;rw[if_neg (by simp)]
theorem zyX{r:AS}(h:Gt r):Z0 r r=some true:=by unfold Z0;simp only[beq_self_eq_true,if_true];rw[zzz h.reads.1,Aa,if_pos rfl,zzw h.writes.1,Aa]
theorem zv5{s:Ai}(h:Jl s):Zr s s=some true:=by
 have h1:=h.gq;have h2:=h.k8;unfold Zr;rw[if_neg (by simp),zwH h.cells,Aa,if_neg (by simp)];refine JN (n:=s.ae.length) (body:=λi=>RS s s i) (λi hi=> ?_) ?_
 ·show RS s s (i:Int)=_;unfold RS;have e:PR s.ae[i]=some (Eh s.ae[i]):=rfl;rw[if_pos (by simpa using hi),AH hi,Aa,e,Aa,Aa,e,Aa,zyX (h.held _ (Aw hi)),Aa,if_neg (by simp),Bb (by omega)]
 ·show RS s s (s.ae.length:Int)=_;unfold RS;rw[if_neg (by simp)];unfold xG;rw[JN (n:=s.au.length) (body:=λi=>RG s s i) (λi hi=>by
   show RG s s (i:Int)=_;unfold RG;rw[if_pos (by simpa using hi),AH hi,Aa,Aa,if_neg (by simp),Bb (by omega)]) (by
   show RG s s (s.au.length:Int)=_;unfold RG;rw[if_neg (by simp)])]
theorem zP{d:Ag}(h:LI d):Wa d d=some true:=by
 have h1:=h.en;have h2:=h.b8;unfold Wa;rw[zG h.cuts.1,Aa,if_neg (by simp)];refine JN (n:=d.aj.length) (body:=λi=>RQ d d i) (λi hi=> ?_) ?_
 ·show RQ d d (i:Int)=_;unfold RQ;rw[if_pos (by simpa using hi),AH hi,Aa,Aa,zv5 (h.bh _ (Aw hi)),Aa,if_neg (by simp),Bb (by omega)]
 ·show RQ d d (d.aj.length:Int)=_;unfold RQ;rw[if_neg (by simp)];unfold xJ;rw[JN (n:=d.ab.length) (body:=λi=>RN d d i) (λi hi=>by
   have ho:=h.bm _ (Aw hi);show RN d d (i:Int)=_;unfold RN;rw[if_pos (by simpa using hi),AH hi,Aa,Aa,if_neg (by simp),zG ho.reads.1,Aa,if_pos rfl,zBn ho.writes.1,Aa,if_neg (by simp),Bb (by omega)]) (by
   show RN d d (d.ab.length:Int)=_;unfold RN;rw[if_neg (by simp)])]
theorem ztK{α:Type}{key:α->Int}{l:List α}(h:Ci key l){i:Nat}(hi:i<l.length):QJ key l i=true:=by
 by_cases h0:0<i
 ·rw[Qn hi h0];exact decide_eq_true (h.mono hi (by omega))
 ·exact WI h0
theorem vQ{s:Ai}(w:WS s)(g:Hl s):Ig s=true:=by
 have hg:=bI.2 g;have hl:=w.cc;unfold OI Lw at hg;simp only[Ab,AZ]at hg;obtain⟨g1,g2,⟨g3,g4⟩,g5,g6⟩:=hg;unfold Ig KZ;simp only[Ab,AJ,AZ];refine⟨g1,g2,⟨λi hi=> ?_,w.dv,g4⟩,hl,g5,λi hi=> ?_⟩
 ·unfold Jw;rw[g3 i hi,ztK w.dg (List.mem_range.1 hi)];rfl
 ·have hi:=List.mem_range.1 hi;rw[TB hi,ztK w.c9 hi,Ey.2 (w.told _ (Aw hi)),g6 _ (Aw hi)];rfl
theorem Xc{d:Ag}(g:GD d):LN d=true:=by have h1:=g.dv;have h2:=g.len;unfold LN Dx;simp only[Ab,AJ,AZ];refine⟨⟨⟨g.keys,?_⟩,by omega⟩,h2,λs hs=>vQ (g.bh s hs).1 (g.bh s hs).2,g.os⟩;rw[My];exact(Ix (r:=bl) λa b c p q=>EN p q).2 g.dg
theorem zvq{s:Ai}(w:WS s)(g:Hl s):Jl s:=⟨w.cells.small (by omega),by have:=w.dv;omega,zts w g,by have:=w.cc;omega⟩
theorem Ob{d:Ag}(g:GD d):LI d:=by have h1:=g.dv;have h2:=g.len;have h3:=g.b8;refine⟨⟨by omega,λk hk=> ?_⟩,by omega,λs hs=>zvq (g.bh s hs).1 (g.bh s hs).2,by omega,λo ho=>(g.bm o ho).2⟩;have:=g.keys k hk;unfold CC at this;rw[Ab]at this;have:=Ey.1 this.1;omega
theorem zzI:LI ⟨[],[],[]⟩:=⟨⟨by simp,by simp⟩,by simp,by simp,by simp,by simp⟩
theorem bO{α:Type}{key:α->Int}{x:α}{t:Int}:∀{l:List α},(∀y∈l,key y≠key x)->(DV key x l).find? (λy=>key y==t)=if key x=t then some x else l.find? (λy=>key y==t)
 | [],_=>by unfold DV;by_cases e:key x=t<;>simp[e]
 |y::l,h=>by
  have ih:=bO (t:=t) (l:=l) λz hz=>h z (by simp[hz]);have hy:=h y (by simp);unfold DV;split
  ·rw[List.find?_cons];by_cases e:key x=t
   ·simp[e]
   ·have e2:(key x==t)=false:=by simpa using e
    rw[e2,if_neg e]
  ·rw[List.find?_cons,List.find?_cons,ih];by_cases e:key x=t
   ·have:(key y==t)=false:=by simpa using λq=>hy (q.trans e.symm)
    rw[this,if_pos e]
   ·rw[if_neg e];simp[e]
theorem zAz{l:List AL}{t t':Int}(h:t'≠t):(FY l t).find? (λy=>hk y==t')=l.find? λy=>hk y==t':=by
 unfold FY
 induction l with
 |nil=>rfl
 |cons y l ih=>
  rw[List.filter_cons];by_cases e:hk y=t
  ·have e2:(hk y==t')=false:=by simpa using λq=>h (q.symm.trans e)
   rw[show decide (hk y≠t)=false by simp[e],if_neg (by simp),ih,List.find?_cons,e2]
  ·rw[show decide (hk y≠t)=true by simpa using e,if_pos rfl,List.find?_cons,List.find?_cons,ih]
theorem WC{s s':Ai}{r:AS}{t:Int}(e:BS s r=some s')(h4:r.az≠4)(ht:t≠r.ah):AU s' t=AU s t/\Bw s' t=Bw s t:=by
 unfold BS at e;rw[if_neg h4]at e;split at e
 ·cases e
 ·rename_i CH;have hn:=Tj CH;have T:∀(fl:Int) (c:List An) (hs:List AL),AU ⟨fl,c,hs,K9 s r⟩ t=AU s t:=λfl c hs=>by
   show(DV tk ⟨r.ah,r.bf,r.ak⟩ s.au).find? (λy=>tk y==t)=_;rw[bO hn,if_neg (λq=>ht q.symm)];rfl
  have H:∀(fl:Int) (c:List An) (ts:List A8),Bw ⟨fl,c,FY s.ae r.ah,ts⟩ t=Bw s t:=λfl c ts=>zAz ht;split at e
  ·split at e
   ·cases e
   ·rename_i F3;have hh:=WR F3;split at e
    ·cases e
    ·split at e
     ·cases e;refine⟨rfl,?_⟩;show(DV hk (K8 r) s.ae).find? (λy=>hk y==t)=_;rw[bO hh,if_neg (λq=>ht q.symm)];rfl
     ·cases e
  ·split at e
   ·split at e
    ·cases e
    ·split at e
     ·cases e
     ·split at e
      ·cases e
      ·cases e;exact⟨T _ _ _,H _ _ _⟩
   ·cases e;exact⟨T _ _ _,H _ _ _⟩
theorem aP{s s':Ai}{r:AS}(e:BS s r=some s')(h4:r.az≠4):AU s r.ah=none:=by
 unfold BS at e;rw[if_neg h4]at e;split at e
 ·cases e
 ·rename_i h;cases hq:AU s r.ah with
  |none=>rfl
  |some x=>rw[hq]at h;exact absurd rfl h
theorem zvm{s s':Ai}{r:AS}(e:BS s r=some s')(h1:r.az=1)(t:Int):AU s' t=AU s t:=by
 unfold BS at e;rw[if_neg (by omega)]at e;split at e
 ·cases e
 ·split at e
  ·cases e
  ·split at e
   ·cases e
   ·split at e
    ·cases e;rfl
    ·cases e
theorem Tk{s s':Ai}{r:AS}(e:BS s r=some s')(h1:r.az≠1)(h4:r.az≠4):AU s' r.ah=some ⟨r.ah,r.bf,r.ak⟩:=by
 have Dl:=aP e h4;unfold BS at e;rw[if_neg h4]at e;split at e
 ·cases e
 ·rename_i CH;have hn:=Tj CH;have T:∀(fl:Int) (c:List An) (hs:List AL),AU ⟨fl,c,hs,K9 s r⟩ r.ah=some ⟨r.ah,r.bf,r.ak⟩:=λfl c hs=>by
   show(DV tk ⟨r.ah,r.bf,r.ak⟩ s.au).find? (λy=>tk y==r.ah)=_;rw[bO hn,if_pos rfl]
  split at e
  ·split at e
   ·cases e
   ·split at e
    ·cases e
    ·split at e
     ·cases e
     ·cases e;exact T _ _ _
  ·cases e;exact T _ _ _
theorem zwj{d:Ag}{t:Int}:∀{ps:List Int} {n m:Int},Jp d t ps n=some m-> ∀p∈ps,(Bw (Ao d p) t).isSome=true
 | [],_,_,_,p,h=>by simp at h
 |q::ps,n,m,e,p,h=>by
  unfold Jp at e;split at e
  ·cases e
  ·rename_i x hx;rcases Ae.1 h with rfl|h
   ·rw[hx];rfl
   ·exact zwj e p h
theorem bM{d:Ag}{o:Ak}{a:BG}{x:AS × Int}(go:Di o=true)(e:Fk d o a=some x):x.1.ah=o.ah/\((x.1.az=1/\AU (Ao d (Bf d o)) o.ah=none)\/
  (x.1.az=2/\x.2=Bf d o/\(x.1.bf=true-> ∀p∈Ay d o,(Bw (Ao d p) o.ah).isSome=true))\/
  (x.1.az=3/\x.2≠Bf d o/\ ∃t,AU (Ao d (Bf d o)) o.ah=some t/\x.1.ak=t.ak/\x.1.bf=t.bf)):=by
 unfold Fk at e;split at e
 ·split at e
  ·unfold J1 at e;split at e
   ·split at e
    ·cases e
    ·rename_i ht;split at e
     ·cases e
     ·cases e;refine⟨rfl, .inl ⟨rfl,?_⟩⟩;cases hq:AU (Ao d (Bf d o)) o.ah with
      |none=>rfl
      |some y=>rw[hq]at ht;exact absurd rfl ht
   ·cases e
  ·cases e
 ·split at e
  ·split at e
   ·unfold KD at e;split at e
    ·split at e
     ·cases e
     ·rename_i n hn;cases e;exact⟨rfl, .inr (.inl ⟨rfl,rfl,λ_=>zwj hn⟩)⟩
    ·cases e
   ·cases e
  ·split at e
   ·split at e
    ·cases e;exact⟨rfl, .inr (.inl ⟨rfl,rfl,λh=>by cases h⟩)⟩
    ·cases e
   ·split at e
    ·split at e
     ·unfold H9 at e;split at e
      ·cases e
      ·rename_i t ht;split at e
       ·rename_i hm;cases e;refine⟨rfl, .inr (.inr ⟨rfl,λq=> ?_,t,ht,rfl,rfl⟩)⟩;obtain⟨_,_,b3,_⟩:=Fu (d:=d) go;rw[show((Ay d o).drop 1).any (· ==a.bz)=_ from qM (Td d.aw o.ar o.af).1 b3]at hm;have q:a.bz=Bf d o:=q;simp[q]at hm
       ·cases e
     ·cases e
    ·cases e
structure rM(d:Ag)(o:Ak):Prop where
 lead:∀p∈Ay d o,∀x,AU (Ao d p) o.ah=some x->AU (Ao d (Bf d o)) o.ah=some x
 yes:∀x,AU (Ao d (Bf d o)) o.ah=some x->x.bf=true-> ∀p∈Ay d o,(AU (Ao d p) o.ah).isSome=true\/(Bw (Ao d p) o.ah).isSome=true
def T6(d:Ag):Prop:= ∀o∈d.ab,rM d o
theorem bU{l:List Ak}(h:JU l=true){o o':Ak}(ho:o∈l)(JB:o'∈l)(e:o.ah=o'.ah):o=o':=by
 unfold JU at h;rw[Ab]at h;have ha:=Oq h.1;have key:∀i j (hi:i<l.length) (hj:j<l.length),i<j->l[i].ah≠l[j].ah:=λi j hi hj Ew q=>by have:=ha j hj;rw[W0 hj]at this;simp only[Ab,Be,List.any_eq_false]at this;have:=this.2 l[i] (List.mem_iff_getElem.2 ⟨i,by rw[Au];omega,by rw[List.getElem_take]⟩);simp[q]at this
 obtain⟨i,hi,rfl⟩:=List.mem_iff_getElem.1 ho;obtain⟨j,hj,rfl⟩:=List.mem_iff_getElem.1 JB;rcases Nat.lt_trichotomy i j with k|k|k
 ·exact absurd e (key i j hi hj k)
 ·subst k;rfl
 ·exact absurd e.symm (key j i hj hi k)
theorem W6{d:Ag}{p q:Int}{s:Ai}{c:List Am}{os:List Ak}(hp:p.toNat<d.aj.length)(h0:0<=p)(h1:0<=q):Ao ⟨c,d.aj.set p.toNat s,os⟩ q=if q=p then s else Ao d q:=by
 unfold Ao;show((d.aj.set p.toNat s)[q.toNat]?).getD KB=_;by_cases e:q=p
 ·subst e;rw[List.getElem?_set_self hp,if_pos rfl];rfl
 ·rw[List.getElem?_set_ne (by omega),if_neg e]
theorem zEL{d d':Ag}{a:BG}(g:GD d)(ag:T6 d)(e:Du d a=some d'):T6 d':=by
 unfold Du at e;split at e
 ·cases e
 ·rename_i o' JB;have JB:=pL JB;obtain⟨go',so'⟩:=g.bm o' JB;cases hr:Fk d o' a with
  |none=>rw[hr]at e;cases e
  |some x=>
   rw[hr]at e;have ok:=Xi g go' so' hr;obtain⟨st1,st2,st3⟩:=D0 g ok.lo ok.hi;obtain⟨r1,r2⟩:=bM go' hr;have e:Gc d x=some d':=e;unfold Gc at e;cases ha:BS (Ao d x.2) x.1 with
   |none=>rw[ha]at e;cases e
   |some s'=>
    rw[ha]at e;have e:some (⟨d.aw,d.aj.set x.2.toNat s',d.ab⟩:Ag)=some d':=e;have e:=Option.some.inj e;subst e;have h4:x.1.az≠4:=by rcases r2 with⟨k,_⟩|⟨k,_⟩|⟨k,_⟩<;>omega
    intro o ho;have ho:o∈d.ab:=ho;obtain⟨go,_⟩:=g.bm o ho;have A:=ag o ho;obtain⟨b1,_,_,b4⟩:=Fu (d:=d) go;have S:∀q,0<=q->Ao ⟨d.aw,d.aj.set x.2.toNat s',d.ab⟩ q=if q=x.2 then s' else Ao d q:=λq hq=>W6 st3 ok.lo hq;have S0:=S (Bf d o) (b1 _ b4).1;show rM _ o;by_cases A9:o.ah=x.1.ah
    ·have gC:o=o':=bU g.os ho JB (A9.trans r1);subst gC;rcases r2 with⟨k1,n1⟩|⟨k2,n2,n3⟩|⟨k3,n4,t,n5,n6,n7⟩
     ·have T:∀q,0<=q->AU (Ao ⟨d.aw,d.aj.set x.2.toNat s',d.ab⟩ q) o.ah=AU (Ao d q) o.ah:=λq hq=>by
       rw[S q hq];split
       ·rename_i q';rw[zvm ha k1,q']
       ·rfl
      have n1':AU (Ao ⟨d.aw,d.aj.set x.2.toNat s',d.ab⟩ (Bf d o)) o.ah=none:=by rw[T _ (b1 _ b4).1];exact n1
      refine⟨λp hp y hy=> ?_,λy hy=> ?_⟩
      ·rw[T p (b1 p hp).1]at hy;have:=A.lead p hp y hy;rw[n1]at this;cases this
      ·have hy:AU (Ao ⟨d.aw,d.aj.set x.2.toNat s',d.ab⟩ (Bf d o)) o.ah=some y:=hy;rw[n1']at hy;cases hy
     ·have Dl:=aP ha h4;have CH:=Tk ha (by omega) h4;rw[<-A9,n2]at Dl;rw[<-A9]at CH;rw[if_pos n2.symm]at S0;have L:AU (Ao ⟨d.aw,d.aj.set x.2.toNat s',d.ab⟩ (Bf d o)) o.ah=some ⟨o.ah,x.1.bf,x.1.ak⟩:=by rw[S0];exact CH
      refine⟨λp hp y hy=> ?_,λy hy Er p hp=> ?_⟩
      ·by_cases q:p=Bf d o
       ·rw[q]at hy;exact hy
       ·rw[S p (b1 p hp).1,if_neg (by rw[n2];exact q)]at hy;have:=A.lead p hp y hy;rw[Dl]at this;cases this
      ·have hy:AU (Ao ⟨d.aw,d.aj.set x.2.toNat s',d.ab⟩ (Bf d o)) o.ah=some y:=hy;rw[L]at hy;cases hy;by_cases q:p=Bf d o
       ·left;rw[q,L];rfl
       ·right;rw[S p (b1 p hp).1,if_neg (by rw[n2];exact q)];exact n3 Er p hp
     ·have CH:=Tk ha (by omega) h4;rw[<-A9]at CH;have ht:t.ah=o.ah:=by simpa using List.find?_some n5
      have CH:AU s' o.ah=some t:=by rw[CH,n6,n7,<-ht]
      rw[if_neg (λq=>n4 q.symm)]at S0;have L:AU (Ao ⟨d.aw,d.aj.set x.2.toNat s',d.ab⟩ (Bf d o)) o.ah=some t:=by rw[S0];exact n5
      refine⟨λp hp y hy=> ?_,λy hy Er p hp=> ?_⟩
      ·show AU (Ao ⟨d.aw,d.aj.set x.2.toNat s',d.ab⟩ (Bf d o)) o.ah=_;rw[L];by_cases q:p=x.2
       ·rw[S p (b1 p hp).1,if_pos q,CH]at hy;exact hy
       ·rw[S p (b1 p hp).1,if_neg q]at hy;have:=A.lead p hp y hy;rw[n5]at this;exact this
      ·have hy:AU (Ao ⟨d.aw,d.aj.set x.2.toNat s',d.ab⟩ (Bf d o)) o.ah=some y:=hy;rw[L]at hy;cases hy;by_cases q:p=x.2
       ·left;rw[S p (b1 p hp).1,if_pos q,CH];rfl
       ·rw[S p (b1 p hp).1,if_neg q];exact A.yes _ n5 Er p hp
    ·have T:∀q,0<=q->AU (Ao ⟨d.aw,d.aj.set x.2.toNat s',d.ab⟩ q) o.ah=AU (Ao d q) o.ah/\Bw (Ao ⟨d.aw,d.aj.set x.2.toNat s',d.ab⟩ q) o.ah=Bw (Ao d q) o.ah:=λq hq=>by
      rw[S q hq];split
      ·rename_i q';rw[q'];exact WC ha h4 A9
      ·exact⟨rfl,rfl⟩
     have TL:=(T _ (b1 _ b4).1).1;refine⟨λp hp y hy=> ?_,λy hy Er p hp=> ?_⟩
     ·rw[(T p (b1 p hp).1).1]at hy;show AU (Ao ⟨d.aw,d.aj.set x.2.toNat s',d.ab⟩ (Bf d o)) o.ah=_;rw[TL];exact A.lead p hp y hy
     ·have hy:AU (Ao ⟨d.aw,d.aj.set x.2.toNat s',d.ab⟩ (Bf d o)) o.ah=some y:=hy;rw[TL]at hy;rw[(T p (b1 p hp).1).1,(T p (b1 p hp).1).2];exact A.yes y hy Er p hp
def Vv(d:Ag):Prop:= ∀s∈d.aj,s=KB
theorem zDv{d:Ag}(h:Vv d):T6 d:=λo _=>by
 have S:∀p,Ao d p=KB:=λp=>by
  unfold Ao;cases hq:d.aj[p.toNat]? with
  |none=>rfl
  |some s=>exact h s (List.mem_of_getElem? hq)
 refine⟨λp _ x hx=> ?_,λx hx=> ?_⟩
 ·rw[S]at hx;cases hx
 ·rw[S]at hx;cases hx
def LQ(x y:A8):Bool:=x.ah==y.ah&&(x.bf==y.bf&&(x.ak==y.ak))
def XF(l:List A8)(n:Int):Bool:=match l with
 | []=>true
 |y::_=> !(l.any λx=> !(LQ x y)||(x.bf&&decide (n>0)))
def Eu(t:Int)(z:Int × List A8)(s:Ai):Int × List A8:=match AU s t with
 |some x=>(z.1,z.2++ [x])
 |none=>if(Bw s t).isSome=true then z else(z.1+1,z.2)
theorem zBS{ss:List Ai}{t:Int}(hl:ss.length<=1000)(hw:∀s∈ss,WS s):mO ss t=some (XF (ss.foldl (Eu t) (0,[])).2 (ss.foldl (Eu t) (0,[])).1):=by
 obtain⟨a,b⟩:=D5 (xs:=ss) (body:=λz:Int × Int × List A8=>SI ss t z.1 z.2.1 z.2.2) (λi (z:Int × List A8)=>(i,z.1,z.2)) (Eu t) (λz=>lJ z.1 z.2) (λi z=>(0<=z.1/\z.1<=i)/\z.2.length<=i)
  (λi hi z hz=>by
   have w:=hw _ (Aw hi);have w1:=w.dv;have w2:=w.cc;refine⟨?_,?_⟩
   ·show SI ss t (i:Int) z.1 z.2=_;unfold SI Eu;rw[if_pos (by simpa using hi),AH hi,Aa,Oh (by omega) w.c9,Aa,Bb (by omega)];cases ht:AU ss[i] t with
    |some x=>rw[if_pos (by rfl)];show(getI (ss[i]).au ((AK (A7 tk t) (ss[i]).au:Nat):Int)).bind _=_;rw[aZ w.c9 ht,Aa,Ba (by simp only[RM,AP];omega)]
    |none=>rw[if_neg (by simp),Qk (by omega) w.dg,Aa,show IntKind.i64.wrap (z.1+1)=z.1+1 from CO (by omega) (by omega)];cases(Bw ss[i] t).isSome<;>rfl
   ·unfold Eu;split
    ·simp only[AF,AP];omega
    ·split<;>(try dsimp only)<;>omega)
  (λz _=>by show SI ss t (ss.length:Int) z.1 z.2=_;unfold SI;rw[if_neg (by simp)]) (s:=(0,[])) ⟨⟨by simp,by simp⟩,by simp⟩
 refine a.trans ?_;unfold lJ;generalize ss.foldl (Eu t) (0,[])=z at b;obtain⟨n,l⟩:=z;cases l with
 |nil=>rw[show DR ([]:List A8) (λy0_=>Wl y0_ [] n)=some false from JS (λ_=>false) (by simp) (by simp)];rfl
 |cons y l=>have e:DR (y::l) (λy0_=>Wl y0_ (y::l) n)=some ((y::l).any λx=> !(LQ x y)||(x.bf&&decide (n>0))):=JS _ (λx _=>rfl) (by have hb:=b.2;simp only[Bk]at hb ⊢;omega);show(DR (y::l) (λy0_=>Wl y0_ (y::l) n)).bind _=_;rw[e];rfl
def JW(d:Ag)(o:Ak):Bool:=XF (((Ay d o).map (Ao d)).foldl (Eu o.ah) (0,[])).2 (((Ay d o).map (Ao d)).foldl (Eu o.ah) (0,[])).1
theorem zvu{d:Ag}(g:GD d):PX d=some (d.ab.all (JW d),true):=by
 have hl:=g.b8;have hf:=g.dv;unfold PX;rw[W3 (Ob g),Xc g,Aa,if_neg (by simp)];rw[Gs (xs:=d.ab) (body:=λi=>RW d i) (JW d) (false,true) (some (true,true)) (λi hi=> ?_) (by show RW d (d.ab.length:Int)=_;unfold RW;rw[if_neg (by simp)])]
 ·cases d.ab.all (JW d)<;>rfl
 ·obtain⟨go,_⟩:=g.bm _ (Aw hi);obtain⟨b1,b2,_,_⟩:=Fu (d:=d) go;show RW d (i:Int)=_;unfold RW;rw[if_pos (by simpa using hi),AH hi,Aa,Qo g go,Aa];refine((D5 (xs:=Ay d d.ab[i]) (body:=λz:Int × List Ai=>RP d (i:Int) d.ab[i] (Ay d d.ab[i]) z.1 z.2) (λj z=>(j,z)) (λo p=>o++ [Ao d p]) (λz=>lF (i:Int) d.ab[i] z) (λj z=>z.length=j)
   (λj hj z hz=>by have c:=b1 _ (Aw hj);refine⟨?_,by simp[hz]⟩;show RP d (i:Int) d.ab[i] (Ay d d.ab[i]) (j:Int) z=_;unfold RP;rw[if_pos (by simpa using hj),AH hj,Aa,(D0 g c.1 c.2).1,Aa,Ba (by simp only[RM,AP];omega),Bb (by omega)])
   (λz _=>by show RP d (i:Int) d.ab[i] (Ay d d.ab[i]) ((Ay d d.ab[i]).length:Int) z=_;unfold RP;rw[if_neg (by simp)]) (s:=[]) rfl).1).trans ?_
  rw[foldl_map,List.nil_append];unfold lF;rw[zBS (by rw[List.length_map];omega) λs hs=>by obtain⟨p,hp,rfl⟩:=List.mem_map.1 hs;exact(g.bh _ (D0 g (b1 p hp).1 (b1 p hp).2).2.1).1,Aa,Bb (by omega)]
  unfold JW;cases XF (((Ay d d.ab[i]).map (Ao d)).foldl (Eu (d.ab[i]).ah) (0,[])).2 (((Ay d d.ab[i]).map (Ao d)).foldl (Eu (d.ab[i]).ah) (0,[])).1<;>rfl
theorem zwb{t:Int}{x0:A8}:∀(ss:List Ai) (z:Int × List A8),(∀s∈ss,∀x,AU s t=some x->x=x0)->(∀x∈z.2,x=x0)-> ∀x∈(ss.foldl (Eu t) z).2,x=x0
 | [],z,_,hz=>hz
 |s::ss,z,hs,hz=>by
  rw[List.foldl_cons];refine zwb ss _ (λy hy=>hs y (by simp[hy])) λx hx=> ?_;unfold Eu at hx;split at hx
  ·rename_i y hy;rcases Ac.1 hx with h|h
   ·exact hz x h
   ·simp only[List.mem_singleton]at h;rw[h];exact hs s (by simp) y hy
  ·split at hx<;>exact hz x hx
theorem zwA{t:Int}:∀(ss:List Ai) (z:Int × List A8),(∀s∈ss,(AU s t).isSome=true\/(Bw s t).isSome=true)->(ss.foldl (Eu t) z).1=z.1
 | [],_,_=>rfl
 |s::ss,z,hs=>by
  rw[List.foldl_cons,zwA ss _ λy hy=>hs y (by simp[hy])];unfold Eu;have:=hs s (by simp);cases ht:AU s t with
  |some x=>rfl
  |none=>
   rw[ht]at this;rcases this with h|h
   ·cases h
   ·simp only[h,if_true]
theorem zwF{t:Int}:∀(ss:List Ai) (z:Int × List A8),(∀s∈ss,AU s t=none)->(ss.foldl (Eu t) z).2=z.2
 | [],_,_=>rfl
 |s::ss,z,hs=>by rw[List.foldl_cons,zwF ss _ λy hy=>hs y (by simp[hy])];unfold Eu;rw[hs s (by simp)];dsimp only;split<;>rfl
theorem zFY{d:Ag}(ag:T6 d):d.ab.all (JW d)=true:=by
 rw[AZ];intro o ho;have A:=ag o ho;unfold JW;cases hl:AU (Ao d (Bf d o)) o.ah with
 |none=>
  rw[zwF _ _ λs hs=>by
   obtain⟨p,hp,rfl⟩:=List.mem_map.1 hs;cases hq:AU (Ao d p) o.ah with
   |none=>rfl
   |some x=>have:=A.lead p hp x hq;rw[hl]at this;cases this]
  rfl
 |some x0=>
  have h1:=zwb (t:=o.ah) (x0:=x0) ((Ay d o).map (Ao d)) (0,[]) (λs hs x hx=>by obtain⟨p,hp,rfl⟩:=List.mem_map.1 hs;have:=A.lead p hp x hx;rw[hl]at this;exact(Option.some.inj this).symm) (by simp)
  have h2:x0.bf=true->(((Ay d o).map (Ao d)).foldl (Eu o.ah) (0,[])).1=0:=λhy=>zwA _ _ λs hs=>by obtain⟨p,hp,rfl⟩:=List.mem_map.1 hs;exact A.yes x0 hl hy p hp
  generalize ((Ay d o).map (Ao d)).foldl (Eu o.ah) (0,[])=z at h1 h2;obtain⟨n,l⟩:=z;cases l with
  |nil=>rfl
  |cons y l=>
   have hy:=h1 y (by simp);unfold XF;rw[Be,List.any_eq_false];intro x hx;rw[h1 x hx,hy];have e:LQ x0 x0=true:=by simp[LQ]
   rw[e];cases hq:x0.bf with
   |false=>simp
   |true=>have:n=0:=h2 hq;rw[this];simp
theorem rD{s:Am}(h:CC s=true):s.length<=12:=by unfold CC at h;rw[Ab]at h;have:=Ey.1 h.1;omega
theorem zye{ks:List Am}(h:Dx ks=true):∀k∈ks,k.length<=12:=λk hk=>by unfold Dx at h;rw[Ab,AZ]at h;exact rD (h.1 k hk)
theorem zyW{v:Am}{g:Bool}(h:Ge v g=true):v.length<=24:=by unfold Ge MG at h;simp only[Ab,AJ]at h;omega
def Fw(z:Ag × List Bool)(a:BG):Ag × List Bool:=match Du z.1 a with
 |some d=>(d,z.2++ [true])
 |none=>(z.1,z.2++ [false])
theorem rI{z:Ag × List Bool}{a:BG}(g:GD z.1):GD (Fw z a).1/\(Fw z a).2.length=z.2.length+1:=by
 unfold Fw;cases hs:Du z.1 a with
 |none=>exact⟨g,by simp⟩
 |some d=>exact⟨cT g hs,by simp⟩
theorem zFw{d:Ag}{al:List BG}(g:GD d)(hl:al.length<=80):Az (λs:Int × List (Af) × List Ai × List Ak × List Bool=>PV al s.1 s.2.1 s.2.2.1 s.2.2.2.1 s.2.2.2.2) (0,d.aw,d.aj,d.ab,[])=some ((al.foldl Fw (d,[])).1,(al.foldl Fw (d,[])).2,true):=by
 refine(D5 (xs:=al) (body:=λs:Int × List (Af) × List Ai × List Ak × List Bool=>PV al s.1 s.2.1 s.2.2.1 s.2.2.2.1 s.2.2.2.2) (λi (z:Ag × List Bool)=>(i,z.1.aw,z.1.aj,z.1.ab,z.2)) Fw (λz=>some (z.1,z.2,true)) (λi z=>GD z.1/\z.2.length=i)
  (λi hi z hz=>by
   obtain⟨g1,g2⟩:=rI (a:=al[i]) hz.1;refine⟨?_,g1,by rw[g2,hz.2]⟩;show PV al (i:Int) z.1.aw z.1.aj z.1.ab z.2=_;unfold PV;have e:V2 ⟨z.1.aw,z.1.aj,z.1.ab⟩ al[i]=some (Hj (Du z.1 al[i])):=zET hz.1;have NG:=hz.2;rw[if_pos (by simpa using hi),AH hi,Aa,e,Aa,Bb (by omega)];unfold Fw;cases Du z.1 al[i]with
   |none=>rw[if_neg (by simp[Hj]),Ba (by simp only[RM,AP];omega)];rfl
   |some x=>rw[if_pos (by rfl),Ba (by simp only[RM,AP];omega)];rfl)
  (λz _=>by show PV al (al.length:Int) z.1.aw z.1.aj z.1.ab z.2=_;unfold PV;rw[if_neg (by simp)]) (s:=(d,[])) ⟨g,rfl⟩).1
theorem qP{d:Ag}{al:List BG}(g:GD d)(hl:al.length<=80):P5 d al=some (al.foldl Fw (d,[])):=by
 unfold P5;rw[nS g,Aa];refine(D5 (xs:=al) (body:=λs:List Bool × Int × List (Af) × List Ai × List Ak=>Sn al s.1 s.2.1 s.2.2.1 s.2.2.2.1 s.2.2.2.2) (λi (z:Ag × List Bool)=>(z.2,i,z.1.aw,z.1.aj,z.1.ab)) Fw (λz=>some z) (λi z=>GD z.1/\z.2.length=i)
  (λi hi z hz=>by
   obtain⟨g1,g2⟩:=rI (a:=al[i]) hz.1;refine⟨?_,g1,by rw[g2,hz.2]⟩;show Sn al z.2 (i:Int) z.1.aw z.1.aj z.1.ab=_;unfold Sn;have e:Wi ⟨z.1.aw,z.1.aj,z.1.ab⟩ al[i]=some (Hj (Du z.1 al[i])):=zE9 hz.1;have NG:=hz.2;rw[if_pos (by simpa using hi),AH hi,Aa,e,Aa,Bb (by omega)];unfold Fw;cases Du z.1 al[i]with
   |none=>rw[if_neg (by simp[Hj]),Ba (by simp only[RM,AP];omega)];rfl
   |some x=>rw[if_pos (by rfl),Ba (by simp only[RM,AP];omega)];rfl)
  (λz _=>by show Sn al z.2 (al.length:Int) z.1.aw z.1.aj z.1.ab=_;unfold Sn;rw[if_neg (by simp)]) (s:=(d,[])) ⟨g,rfl⟩).1
theorem uP:∀(al:List BG) (z:Ag × List Bool),GD z.1->GD (al.foldl Fw z).1/\(al.foldl Fw z).2.length=z.2.length+al.length
 | [],z,g=>⟨g,by simp⟩
 |a::al,z,g=>by obtain⟨g1,g2⟩:=rI (a:=a) g;obtain⟨h1,h2⟩:=uP al _ g1;refine⟨h1,?_⟩;rw[List.foldl_cons,h2,g2,Bk];omega
end
end Go.Proofs.YtalagilebkaegaaGreat

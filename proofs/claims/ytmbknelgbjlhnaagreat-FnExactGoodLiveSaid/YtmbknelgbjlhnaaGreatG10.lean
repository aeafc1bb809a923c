/- Parts of a proof, joined: NGH, QE, NGI. -/
import Derived.Test.YtmbknelgbjlhnaaGreatG9
set_option linter.unusedVariables false
set_option linter.unusedSimpArgs false
section
namespace Go.Proofs.YtmbknelgbjlhnaaGreat
open Go.RowKit
set_option maxRecDepth 100000
set_option maxHeartbeats 1000000
theorem xC {a:Cz} (h:Mt a) (hg:JW a.ch a.ab) (ht:a.aq.bj.length=a.bw.length) (i:Nat) (hi:i<a.bw.length): ∃b:Bool,JP a (i:Int)=some (if b=true then .inl ((i+1:Nat):Int)else .inr (some false))∧Hq a (i:Int)=some (if b=true then .inl ((i+1:Nat):Int)else .inr (some false)):=by
 have hj:=h.nh _ (List.getElem_mem hi);have Ga:i<a.aq.bj.length:=by omega
 have hn:=h.nf;obtain⟨ops,b,e1,e2,e3,e4⟩:=wC hg h.ways h.name hj.act hj.row;unfold JP Hq;rw [if_pos (by simpa using hi),if_pos (by simpa using hi),At hi,Aa,Aa,e1,e2,Aa,Aa,At Ga,AH hi (by omega)];cases b with
 |false=>exact⟨false,rfl,rfl⟩
 |true=>have ho:=(h.world.na _ (List.getElem_mem Ga)).ops.1;obtain⟨r1,s1,f1⟩:=zwc (xs:=ops) (ys:=a.aq.bj[i].dq) (by omega);obtain⟨r2,s2,f2⟩:=zvx (xs:=a.aq.bj[i].dq) (ys:=ops) ho;have hr:r2=r1:=jE (f2.trans eq_comm) f1;subst hr;rw [if_pos rfl,if_pos rfl,Aa,Aa,s1,Aa,e3 rfl,Aa,s2,Aa];exact⟨r2,by cases r2<;>rfl,by cases r2<;>rfl⟩
noncomputable def JG (a:Cz) (i:Nat):Bool:=match Hq a (i:Int)with|some (.inl _)=>true|_=>false
theorem zyv {a:Cz} (h:Mt a) (hg:JW a.ch a.ab) (ht:a.aq.bj.length=a.bw.length): ∃r,Aq (fun s:Int=>JP a s) 0=some r∧Aq (fun s:Int=>Hq a s) 0=some r:=by
 have key: ∀i,i<a.bw.length→JP a (i:Int)=some (if JG a i=true then .inl ((i+1:Nat):Int)else .inr (some false))∧Hq a (i:Int)=some (if JG a i=true then .inl ((i+1:Nat):Int)else .inr (some false)):=by
  intro i hi;obtain⟨b,e1,e2⟩:=xC h hg ht i hi;have:JG a i=b:=by unfold JG;rw [e2];cases b<;>rfl
  rw [this];exact⟨e1,e2⟩
 refine⟨(List.range a.bw.length).all (JG a), ?_, ?_⟩
 ·rw [Eu (n:=a.bw.length) (body:=fun s:Int=>JP a s) (JG a) false (some true) (fun i hi=>(key i hi).1) (by
   show JP a a.bw.length=_;unfold JP;rw [if_neg (by simp)])]
  cases(List.range a.bw.length).all (JG a)<;>rfl
 ·rw [Eu (n:=a.bw.length) (body:=fun s:Int=>Hq a s) (JG a) false (some true) (fun i hi=>(key i hi).2) (by
   show Hq a a.bw.length=_;unfold Hq;rw [if_neg (by simp)])]
  cases(List.range a.bw.length).all (JG a)<;>rfl
theorem zyI {xs ys:List Av} (h:xs.length≤2000000): ∃r,JO xs ys=some r∧(r=true↔xs=ys):=by
 unfold JO;by_cases hl:xs.length=ys.length
 ·rw [if_neg (by simp [hl])];exact OG (fun x y:Av=>x==y) (fun x y=>by simp) hl (body:=fun s:Int=>IK xs ys s) (fun i hi hj=>by
   show IK xs ys i=_;unfold IK;rw [if_pos (by simpa using hi),At hi,Aa,At hj,Aa,AH hi (by omega)];cases hq:(xs[i]==ys[i])<;>simp [bne,hq]) (by
   show IK xs ys xs.length=_;unfold IK;rw [if_neg (by simp)])
 ·rw [if_pos (by simp;omega)];exact⟨_,rfl,by simp,fun e=>absurd (congrArg List.length e) hl⟩
theorem zye {w:By} (h:Lb w=true):(w.bj.length:Int)≤6:=by unfold Lb at h;simp only [Ac,decide_eq_true_eq]at h;exact h.2.2.2.2.2.2.2.2.2.2.2.2.2.1
def S9 (a:Cz):Prop:=a.aq.a7= [(w0 a.ch).ab++ [47]]∧a.aq.bj.length=a.bw.length∧a.aq.bh.length=0
theorem yV {α:Type} {l:List α} (h:(l.length:Int)=1): ∃k,l= [k]:=by
 match l,h with
 | [k],_=>exact⟨k,rfl⟩
 | [],h=>simp at h
 |_::_::_,h=>simp at h;omega
theorem yU {a:Cz} (h:Mt a) (hg:JW a.ch a.ab) (hw:Lb a.aq=true):(S9 a→JQ a=Aq (fun s:Int=>JP a s) 0)∧(¬S9 a→JQ a=some false):=by
 obtain⟨g0,m0⟩:=XY hg.1;have sU:=(h.ways _ m0).name;have hq:((w0 a.ch).ab).length+(([47]:Af)).length≤9223372036854775807:=by rw [Ct];omega
 unfold JQ;rw [oM h.world,Aa,hw,if_pos rfl,g0];by_cases h1:(a.aq.a7.length:Int)=1
 ·obtain⟨k,hk⟩:=yV h1;have gc:Aj a.aq.a7 0=some k:=by rw [hk];rfl
  rw [if_neg (by simp [h1]),gc,Aa,Aa,Bf hq];refine⟨fun hp=> ?_,fun hp=> ?_⟩
  ·obtain⟨p1,p2,p3⟩:=hp;rw [hk]at p1;have p1:k=(w0 a.ch).ab++ [47]:=(List.cons.inj p1).1;rw [if_neg (by simp [p1,p2,p3])]
  ·rw [if_pos];by_cases q1:k=(w0 a.ch).ab++ [47]
   ·by_cases q2:a.aq.bj.length=a.bw.length
    ·have q3: ¬a.aq.bh.length=0:=fun q3=>hp ⟨by rw [hk,q1],q2,q3⟩;have q4:decide ((a.aq.bh.length:Int)>0)=true:=by simp;omega
     rw [q4,Bool.or_true]
    ·have q4:((a.aq.bj.length:Int) !=(a.bw.length:Int))=true:=by simp;omega
     rw [q4,Bool.or_true,Bool.true_or]
   ·have q4:(k !=(w0 a.ch).ab++ [47])=true:=by simpa using q1
    rw [q4,Bool.true_or,Bool.true_or]
 ·rw [if_pos (by simpa using h1)];exact⟨fun hp=>absurd (by rw [hp.1];rfl) h1,fun _=>rfl⟩
theorem uW {a:Cz} (h:Mt a) (hg:JW a.ch a.ab): ∃o,((Aj a.ch 0).bind fun y5=>
      A0 ((y5.ab).length+(([47]:Af)).length≤9223372036854775807)<|
      (JO a.aq.a7 ([(y5.ab++([47]:Af))]:List (Af))).bind fun v6=>
      if(((!v6)||(decide ((a.aq.bh.length:Int)>0)))||((a.aq.bj.length:Int) !=(a.bw.length:Int)))then
       some false
      else
       Aq (fun s:Int=>Hq a s) 0)=o∧(S9 a→o=Aq (fun s:Int=>Hq a s) 0)∧(¬S9 a→o=some false):=by
 obtain⟨g0,m0⟩:=XY hg.1;have sU:=(h.ways _ m0).name;have hq:((w0 a.ch).ab).length+(([47]:Af)).length≤9223372036854775807:=by rw [Ct];omega
 obtain⟨rc,c1,c2⟩:=zyI (xs:=a.aq.a7) (ys:= [(w0 a.ch).ab++ [47]]) h.world.ko.1;rw [g0,Aa,Bf hq,c1,Aa];refine⟨_,rfl,fun hp=> ?_,fun hp=> ?_⟩
 ·obtain⟨p1,p2,p3⟩:=hp;have:rc=true:=c2.2 p1;rw [if_neg (by simp [this,p2,p3])]
 ·rw [if_pos];cases rc with
  |false=>rfl
  |true=>
   by_cases q2:a.aq.bj.length=a.bw.length
   ·have q3: ¬a.aq.bh.length=0:=fun q3=>hp ⟨c2.1 rfl,q2,q3⟩;have q4:decide ((a.aq.bh.length:Int)>0)=true:=by simp;omega
    rw [q4,Bool.or_true,Bool.true_or]
   ·have q4:((a.aq.bj.length:Int) !=(a.bw.length:Int))=true:=by simp;omega
    rw [q4,Bool.or_true]
theorem zxJ {a:Cz} (h:Mt a) (hg:JW a.ch a.ab): ∃r,JQ a=some r∧(if((!true)||decide ((a.bw.length:Int)>6))=true then some false else(Rr a.aq).bind fun v4=>if v4=true then((Aj a.ch 0).bind fun y5=>
      A0 ((y5.ab).length+(([47]:Af)).length≤9223372036854775807)<|
      (JO a.aq.a7 ([(y5.ab++([47]:Af))]:List (Af))).bind fun v6=>
      if(((!v6)||(decide ((a.aq.bh.length:Int)>0)))||((a.aq.bj.length:Int) !=(a.bw.length:Int)))then
       some false
      else
       Aq (fun s:Int=>Hq a s) 0)else some false)=some r:=by
 obtain⟨o,eo,o1,o2⟩:=uW h hg;rw [eo,zzW h.world,Aa];cases hw:Lb a.aq with
 |false=>
  refine⟨false, ?_, ?_⟩
  ·unfold JQ;rw [oM h.world,Aa,hw];rfl
  ·split<;>rfl
 |true=>
  obtain⟨k1,k2⟩:=yU h hg hw;have ht6:=zye hw;by_cases hp:S9 a
  ·obtain⟨r,j1,j2⟩:=zyv h hg hp.2.1;have hj:=hp.2.1;refine⟨r,(k1 hp).trans j1, ?_⟩;have q4:decide ((a.bw.length:Int)>6)=false:=by simp;omega
   rw [q4,if_neg (by simp),if_pos rfl,o1 hp,j2]
  ·refine⟨false,k2 hp, ?_⟩;rw [if_pos rfl,o2 hp];split<;>rfl
theorem zyG {a:Cz} (h:Mt a): ∃r,Vx a=some r∧Vz a=some r:=by
 obtain⟨x,e1,f1⟩:=xP (n:=a.ab) h.ways;obtain⟨y,e2,f2⟩:=wK (n:=a.ab) h.ways;have Fc:y=x:=jE f2 f1;subst Fc;unfold Vx bI Vz;rw [e1,e2,Aa,Aa];cases y with
 |false=>exact⟨_,rfl,rfl⟩
 |true=>
  have hg:=f1.1 rfl;rw [if_pos rfl,if_pos rfl,Ev,EF,Aa,Aa];cases YO:Ap a.ga 0 2 with
  |false=>exact⟨_,rfl,rfl⟩
  |true=>
   have PZ:=DW.1 YO;have w:IntKind.i64.wrap (a.ga+1)=a.ga+1:=DE (by omega) (by omega);rw [if_pos rfl,if_pos rfl,w];by_cases hs:(a.a6.length:Int)=a.ga+1
   ·have hn:0<a.a6.length:=by omega
    have hG:OF a.a6=((a.a6[0]==0)&&((a.a6.all fun x=>Ap x 0 100000)&&(List.range a.a6.length).all (EM a.a6))):=by unfold OF;rw [List.getElem?_eq_getElem hn,Option.getD_some]
    rw [if_neg (by simp [hs]),if_neg (by simp [hs]),show Aj a.a6 0=some a.a6[0]from At hn,Aa,zzQ h.since hn,Aa,fO h.since,yE h.since hn,hG];cases hz:(a.a6[0]==0)with
    |false=>rw [if_pos (by simp [bne,hz]),if_pos (by simp)];exact⟨_,rfl,rfl⟩
    |true=>
     rw [if_neg (by simp [bne,hz]),Aa];cases(a.a6.all fun x=>Ap x 0 100000)with
     |false=>rw [if_pos (by simp),if_pos (by simp)];exact⟨_,rfl,rfl⟩
     |true=>
      rw [if_neg (by simp)];cases(List.range a.a6.length).all (EM a.a6)with
      |false=>rw [if_neg (by simp),if_pos (by simp)];exact⟨_,rfl,rfl⟩
      |true=>obtain⟨r,t1,t2⟩:=zxJ h hg;rw [if_pos rfl,t1];exact⟨r,rfl,t2⟩
   ·rw [if_pos (by simpa using hs),if_pos (by simpa using hs)];exact⟨_,rfl,rfl⟩
theorem Gn {α:Type} {xs:List α} {i:Nat} {x:α} (h:xs[i]?=some x):Aj xs (i:Int)=some x:=by simp [Aj,h]
def Fu (l:List (Af)):Nat:=l.length+(l.map (fun x:Af=>x.length)).sum
theorem R7 {xs:List (Af)} (h:Fu xs≤2000000):K2 xs=some xs:=by
 have hl:xs.length≤2000000:=by unfold Fu at h;omega
 have hx: ∀x∈xs,x.length≤2000000:=fun x hx=>by have:=BX (tot:=(fun x:Af=>x.length)) hx;unfold Fu at h;omega
 unfold K2;rw [Bf (by omega)];exact Fz (fun i hi v hv=>by
  show QV xs i v=_;unfold QV;rw [if_pos (by simpa using hi),At hi,Aa,At (by omega),Aa,AH hi (by omega)];rfl) (fun v=>by
  show QV xs _ v=_;unfold QV;rw [if_neg (by simp)])
theorem R2 {xs:List (Af)} (h:Fu xs≤2000000):K1 xs xs=some true:=by
 have hl:xs.length≤2000000:=by unfold Fu at h;omega
 have hx: ∀x∈xs,x.length≤2000000:=fun x hx=>by have:=BX (tot:=(fun x:Af=>x.length)) hx;unfold Fu at h;omega
 unfold K1;rw [if_neg (by simp)];exact FA (n:=xs.length) (fun i hi=>by
  show QT xs xs i=_;unfold QT;rw [if_pos (by simpa using hi),At hi,Aa,Aa,if_neg (by simp),AH hi (by omega)]) (by
  show QT xs xs _=_;unfold QT;rw [if_neg (by simp)])
theorem R8 {xs:List (Af)} {a:Int} (h0:0≤a) (h1:a≤1048576) (h:(Bi EJ) xs): ∃v,K0 xs a=some v∧v≤a∧(0≤v→(Fu xs:Int)=a-v):=by
 have hl:xs.length≤9223372036854775807:=h.1;unfold K0 Fu;rw [De h0 h1 hl];by_cases h2:a-(xs.length:Int)<0
 ·rw [if_pos (by simpa using h2)];exact⟨-1,rfl,by omega,by omega⟩
 ·rw [if_neg (by simpa using h2)];obtain⟨v,e1,e2,e3⟩:=Gk (xs:=xs) (body:=fun s:Int × Int=>Ny xs s.1 s.2) (fun x:Af=>x.length) (a:=a-xs.length) (by omega) (by omega) (fun x hx b Cg B8=>by
   refine⟨b-(x.length:Int),by omega,fun _=>by show(x.length:Int)=_;omega,fun i hi=> ?_⟩;have Bq:=(List.getElem?_eq_some_iff.1 hi).1;show Ny xs b i=_;unfold Ny;rw [if_pos (by simpa using Bq),Gn hi,Aa,De Cg B8 (h.2 _ hx),AH Bq (by omega)];by_cases h3:b-(x.length:Int)<0
   ·rw [if_pos (by simpa using h3),if_pos h3]
   ·rw [if_neg (by simpa using h3),if_neg h3]) (fun b=>by
   show Ny xs b _=_;unfold Ny;rw [if_neg (by simp)])
  exact⟨v,e1,by omega,fun hv=>by have:=e3 hv;omega⟩
def Gx (x:AI):Nat:=x.ab.length
theorem zEk {x:AI} (h:Gx x≤2000000):cQ x=some x:=rfl
theorem zD {x:AI} (h:Gx x≤2000000):WD x x=some true:=by unfold WD;simp []
theorem zEl {x:AI} {a:Int} (h0:0≤a) (h1:a≤1048576) (h:Th x): ∃v,WG x a=some v∧v≤a∧(0≤v→(Gx x:Int)=a-v):=by
 unfold WG Gx;rw [De (a:=a) (by omega) (by omega) h.1];by_cases q0:a-(x.ab.length:Int)<0
 ·rw [if_pos (by simpa using q0)];exact⟨-1,rfl,by omega,by omega⟩
 rw [if_neg (by simpa using q0)];exact⟨(a-(x.ab.length:Int)),rfl,by omega,fun _=>by omega⟩
def I1 (l:List AI):Nat:=l.length+(l.map Gx).sum
theorem yJ {xs:List AI} (h:I1 xs≤2000000):Wa xs=some xs:=by
 have hl:xs.length≤2000000:=by unfold I1 at h;omega
 have hx: ∀x∈xs,Gx x≤2000000:=fun x hx=>by have:=BX (tot:=Gx) hx;unfold I1 at h;omega
 unfold Wa;rw [Bf (by omega)];exact Fz (fun i hi v hv=>by
  show RA xs i v=_;unfold RA;rw [if_pos (by simpa using hi),At hi,Aa,zEk (hx _ (List.getElem_mem hi)),Aa,At (by omega),Aa,AH hi (by omega)];rfl) (fun v=>by
  show RA xs _ v=_;unfold RA;rw [if_neg (by simp)])
theorem zY {xs:List AI} (h:I1 xs≤2000000):Wi xs xs=some true:=by
 have hl:xs.length≤2000000:=by unfold I1 at h;omega
 have hx: ∀x∈xs,Gx x≤2000000:=fun x hx=>by have:=BX (tot:=Gx) hx;unfold I1 at h;omega
 unfold Wi;rw [if_neg (by simp)];exact FA (n:=xs.length) (fun i hi=>by
  show Rp xs xs i=_;unfold Rp;rw [if_pos (by simpa using hi),At hi,Aa,Aa,zD (hx _ (List.getElem_mem hi)),Aa,if_neg (by simp),AH hi (by omega)]) (by
  show Rp xs xs _=_;unfold Rp;rw [if_neg (by simp)])
theorem xZ {xs:List AI} {a:Int} (h0:0≤a) (h1:a≤1048576) (h:(Bi Th) xs): ∃v,V8 xs a=some v∧v≤a∧(0≤v→(I1 xs:Int)=a-v):=by
 have hl:xs.length≤9223372036854775807:=h.1;unfold V8 I1;rw [De h0 h1 hl];by_cases h2:a-(xs.length:Int)<0
 ·rw [if_pos (by simpa using h2)];exact⟨-1,rfl,by omega,by omega⟩
 ·rw [if_neg (by simpa using h2)];obtain⟨v,e1,e2,e3⟩:=Gk (xs:=xs) (body:=fun s:Int × Int=>NJ xs s.1 s.2) Gx (a:=a-xs.length) (by omega) (by omega) (fun x hx b Cg B8=>by
   obtain⟨r,e1,e2,e3⟩:=zEl (x:=x) Cg B8 (h.2 _ hx);refine⟨r,e2,e3,fun i hi=> ?_⟩;have Bq:=(List.getElem?_eq_some_iff.1 hi).1;show NJ xs b i=_;unfold NJ;rw [if_pos (by simpa using Bq),Gn hi,Aa,e1,Aa,AH Bq (by omega)];by_cases h3:r<0
   ·rw [if_pos (by simpa using h3),if_pos h3]
   ·rw [if_neg (by simpa using h3),if_neg h3]) (fun b=>by
   show NJ xs b _=_;unfold NJ;rw [if_neg (by simp)])
  exact⟨v,e1,by omega,fun hv=>by have:=e3 hv;omega⟩
def Fi (x:Ai):Nat:=x.ab.length+Fu x.ak+I1 x.ae
theorem xL {x:Ai} (h:Fi x≤2000000):VQ x=some x:=by unfold VQ;simp only [R7 (xs:=x.ak) (by unfold Fi at h;omega),yJ (xs:=x.ae) (by unfold Fi at h;omega),Aa]
theorem vT {x:Ai} (h:Fi x≤2000000):Wq x x=some true:=by unfold Wq;simp [R2 (xs:=x.ak) (by unfold Fi at h;omega),zY (xs:=x.ae) (by unfold Fi at h;omega)]
theorem wJ {x:Ai} {a:Int} (h0:0≤a) (h1:a≤1048576) (h:SO x): ∃v,Ww x a=some v∧v≤a∧(0≤v→(Fi x:Int)=a-v):=by
 unfold Ww Fi;rw [De (a:=a) (by omega) (by omega) h.1];by_cases q0:a-(x.ab.length:Int)<0
 ·rw [if_pos (by simpa using q0)];exact⟨-1,rfl,by omega,by omega⟩
 rw [if_neg (by simpa using q0)];obtain⟨b1,e1,g1,r1⟩:=R8 (xs:=x.ak) (a:=(a-(x.ab.length:Int))) (by omega) (by omega) h.2.1;rw [e1,Aa];by_cases q1:b1<0
 ·rw [if_pos (by simpa using q1)];exact⟨-1,rfl,by omega,by omega⟩
 rw [if_neg (by simpa using q1)];have s1:=r1 (by omega);obtain⟨b2,e2,g2,r2⟩:=xZ (xs:=x.ae) (a:=b1) (by omega) (by omega) h.2.2;rw [e2,Aa];by_cases q2:b2<0
 ·rw [if_pos (by simpa using q2)];exact⟨-1,rfl,by omega,by omega⟩
 rw [if_neg (by simpa using q2)];have s2:=r2 (by omega);exact⟨b2,rfl,by omega,fun _=>by omega⟩
def IY (l:List Ai):Nat:=l.length+(l.map Fi).sum
theorem zzV {xs:List Ai} (h:IY xs≤2000000):Vm xs=some xs:=by
 have hl:xs.length≤2000000:=by unfold IY at h;omega
 have hx: ∀x∈xs,Fi x≤2000000:=fun x hx=>by have:=BX (tot:=Fi) hx;unfold IY at h;omega
 unfold Vm;rw [Bf (by omega)];exact Fz (fun i hi v hv=>by
  show Re xs i v=_;unfold Re;rw [if_pos (by simpa using hi),At hi,Aa,xL (hx _ (List.getElem_mem hi)),Aa,At (by omega),Aa,AH hi (by omega)];rfl) (fun v=>by
  show Re xs _ v=_;unfold Re;rw [if_neg (by simp)])
theorem vC {xs:List Ai} (h:IY xs≤2000000):Vq xs xs=some true:=by
 have hl:xs.length≤2000000:=by unfold IY at h;omega
 have hx: ∀x∈xs,Fi x≤2000000:=fun x hx=>by have:=BX (tot:=Fi) hx;unfold IY at h;omega
 unfold Vq;rw [if_neg (by simp)];exact FA (n:=xs.length) (fun i hi=>by
  show Ri xs xs i=_;unfold Ri;rw [if_pos (by simpa using hi),At hi,Aa,Aa,vT (hx _ (List.getElem_mem hi)),Aa,if_neg (by simp),AH hi (by omega)]) (by
  show Ri xs xs _=_;unfold Ri;rw [if_neg (by simp)])
theorem zz2 {xs:List Ai} {a:Int} (h0:0≤a) (h1:a≤1048576) (h:(Bi SO) xs): ∃v,Vu xs a=some v∧v≤a∧(0≤v→(IY xs:Int)=a-v):=by
 have hl:xs.length≤9223372036854775807:=h.1;unfold Vu IY;rw [De h0 h1 hl];by_cases h2:a-(xs.length:Int)<0
 ·rw [if_pos (by simpa using h2)];exact⟨-1,rfl,by omega,by omega⟩
 ·rw [if_neg (by simpa using h2)];obtain⟨v,e1,e2,e3⟩:=Gk (xs:=xs) (body:=fun s:Int × Int=>N5 xs s.1 s.2) Fi (a:=a-xs.length) (by omega) (by omega) (fun x hx b Cg B8=>by
   obtain⟨r,e1,e2,e3⟩:=wJ (x:=x) Cg B8 (h.2 _ hx);refine⟨r,e2,e3,fun i hi=> ?_⟩;have Bq:=(List.getElem?_eq_some_iff.1 hi).1;show N5 xs b i=_;unfold N5;rw [if_pos (by simpa using Bq),Gn hi,Aa,e1,Aa,AH Bq (by omega)];by_cases h3:r<0
   ·rw [if_pos (by simpa using h3),if_pos h3]
   ·rw [if_neg (by simpa using h3),if_neg h3]) (fun b=>by
   show N5 xs b _=_;unfold N5;rw [if_neg (by simp)])
  exact⟨v,e1,by omega,fun hv=>by have:=e3 hv;omega⟩
def Hu (l:List Int):Nat:=l.length
theorem fU {xs:List Int} (h:Hu xs≤2000000):Om xs=some xs:=by
 have hl:xs.length≤2000000:=by unfold Hu at h;omega
 unfold Om;rw [Bf (by omega)];exact Fz (fun i hi v hv=>by
  show Rq xs i v=_;unfold Rq;rw [if_pos (by simpa using hi),At hi,Aa,At (by omega),Aa,AH hi (by omega)];rfl) (fun v=>by
  show Rq xs _ v=_;unfold Rq;rw [if_neg (by simp)])
theorem fP {xs:List Int} (h:Hu xs≤2000000):Oj xs xs=some true:=by
 have hl:xs.length≤2000000:=by unfold Hu at h;omega
 unfold Oj;rw [if_neg (by simp)];exact FA (n:=xs.length) (fun i hi=>by
  show RC xs xs i=_;unfold RC;rw [if_pos (by simpa using hi),At hi,Aa,Aa,if_neg (by simp),AH hi (by omega)]) (by
  show RC xs xs _=_;unfold RC;rw [if_neg (by simp)])
theorem gG {xs:List Int} {a:Int} (h0:0≤a) (h1:a≤1048576) (h:(Bi Cw) xs): ∃v,Ol xs a=some v∧v≤a∧(0≤v→(Hu xs:Int)=a-v):=by
 have hl:xs.length≤9223372036854775807:=h.1;unfold Ol Hu;rw [De h0 h1 hl];by_cases h2:a-(xs.length:Int)<0
 ·rw [if_pos (by simpa using h2)];exact⟨-1,rfl,by omega,by omega⟩
 ·rw [if_neg (by simpa using h2)];exact⟨_,rfl,by omega,fun _=>by omega⟩
def I5 (x:BI):Nat:=Fu x.al
theorem gP {x:BI} (h:I5 x≤2000000):Oq x=some x:=by unfold Oq;simp only [R7 (xs:=x.al) (by unfold I5 at h;omega),Aa]
theorem gQ {x:BI} (h:I5 x≤2000000):Ov x x=some true:=by unfold Ov;simp [R2 (xs:=x.al) (by unfold I5 at h;omega)]
theorem ZB {x:BI} {a:Int} (h0:0≤a) (h1:a≤1048576) (h:S8 x): ∃v,Ot x a=some v∧v≤a∧(0≤v→(I5 x:Int)=a-v):=by
 unfold Ot I5;obtain⟨b0,e0,g0,r0⟩:=R8 (xs:=x.al) (a:=a) (by omega) (by omega) h;rw [e0,Aa];by_cases q0:b0<0
 ·rw [if_pos (by simpa using q0)];exact⟨-1,rfl,by omega,by omega⟩
 rw [if_neg (by simpa using q0)];have s0:=r0 (by omega);exact⟨b0,rfl,by omega,fun _=>by omega⟩
def IW (x:BC):Nat:=I5 x.ca+I5 x.cm
theorem zys {x:BC} (h:IW x≤2000000):Vt x=some x:=by unfold Vt;simp only [gP (x:=x.ca) (by unfold IW at h;omega),gP (x:=x.cm) (by unfold IW at h;omega),Aa]
theorem zzj {x:BC} (h:IW x≤2000000):Vp x x=some true:=by unfold Vp;simp [gQ (x:=x.ca) (by unfold IW at h;omega),gQ (x:=x.cm) (by unfold IW at h;omega)]
theorem zyM {x:BC} {a:Int} (h0:0≤a) (h1:a≤1048576) (h:eW x): ∃v,Vj x a=some v∧v≤a∧(0≤v→(IW x:Int)=a-v):=by
 unfold Vj IW;obtain⟨b1,e1,g1,r1⟩:=ZB (x:=x.ca) (a:=a) (by omega) (by omega) h.2.1;rw [e1,Aa];by_cases q1:b1<0
 ·rw [if_pos (by simpa using q1)];exact⟨-1,rfl,by omega,by omega⟩
 rw [if_neg (by simpa using q1)];have s1:=r1 (by omega);obtain⟨b2,e2,g2,r2⟩:=ZB (x:=x.cm) (a:=b1) (by omega) (by omega) h.2.2;rw [e2,Aa];by_cases q2:b2<0
 ·rw [if_pos (by simpa using q2)];exact⟨-1,rfl,by omega,by omega⟩
 rw [if_neg (by simpa using q2)];have s2:=r2 (by omega);exact⟨b2,rfl,by omega,fun _=>by omega⟩
def Fj (x:Cj):Nat:=IW x.c9+I5 x.ee
theorem zxq {x:Cj} (h:Fj x≤2000000):UR x=some x:=by unfold UR;simp only [zys (x:=x.c9) (by unfold Fj at h;omega),gP (x:=x.ee) (by unfold Fj at h;omega),Aa]
theorem zxU {x:Cj} (h:Fj x≤2000000):US x x=some true:=by unfold US;simp [zzj (x:=x.c9) (by unfold Fj at h;omega),gQ (x:=x.ee) (by unfold Fj at h;omega)]
theorem zxS {x:Cj} {a:Int} (h0:0≤a) (h1:a≤1048576) (h:Sg x): ∃v,UN x a=some v∧v≤a∧(0≤v→(Fj x:Int)=a-v):=by
 unfold UN Fj;obtain⟨b2,e2,g2,r2⟩:=zyM (x:=x.c9) (a:=a) (by omega) (by omega) h.2.2.1;rw [e2,Aa];by_cases q2:b2<0
 ·rw [if_pos (by simpa using q2)];exact⟨-1,rfl,by omega,by omega⟩
 rw [if_neg (by simpa using q2)];have s2:=r2 (by omega);obtain⟨b3,e3,g3,r3⟩:=ZB (x:=x.ee) (a:=b2) (by omega) (by omega) h.2.2.2;rw [e3,Aa];by_cases q3:b3<0
 ·rw [if_pos (by simpa using q3)];exact⟨-1,rfl,by omega,by omega⟩
 rw [if_neg (by simpa using q3)];have s3:=r3 (by omega);exact⟨b3,rfl,by omega,fun _=>by omega⟩
def IQ (l:List Cj):Nat:=l.length+(l.map Fj).sum
theorem zwa {xs:List Cj} (h:IQ xs≤2000000):U3 xs=some xs:=by
 have hl:xs.length≤2000000:=by unfold IQ at h;omega
 have hx: ∀x∈xs,Fj x≤2000000:=fun x hx=>by have:=BX (tot:=Fj) hx;unfold IQ at h;omega
 unfold U3;rw [Bf (by omega)];exact Fz (fun i hi v hv=>by
  show QY xs i v=_;unfold QY;rw [if_pos (by simpa using hi),At hi,Aa,zxq (hx _ (List.getElem_mem hi)),Aa,At (by omega),Aa,AH hi (by omega)];rfl) (fun v=>by
  show QY xs _ v=_;unfold QY;rw [if_neg (by simp)])
theorem zv5 {xs:List Cj} (h:IQ xs≤2000000):U0 xs xs=some true:=by
 have hl:xs.length≤2000000:=by unfold IQ at h;omega
 have hx: ∀x∈xs,Fj x≤2000000:=fun x hx=>by have:=BX (tot:=Fj) hx;unfold IQ at h;omega
 unfold U0;rw [if_neg (by simp)];exact FA (n:=xs.length) (fun i hi=>by
  show QX xs xs i=_;unfold QX;rw [if_pos (by simpa using hi),At hi,Aa,Aa,zxU (hx _ (List.getElem_mem hi)),Aa,if_neg (by simp),AH hi (by omega)]) (by
  show QX xs xs _=_;unfold QX;rw [if_neg (by simp)])
theorem zwk {xs:List Cj} {a:Int} (h0:0≤a) (h1:a≤1048576) (h:(Bi Sg) xs): ∃v,Uu xs a=some v∧v≤a∧(0≤v→(IQ xs:Int)=a-v):=by
 have hl:xs.length≤9223372036854775807:=h.1;unfold Uu IQ;rw [De h0 h1 hl];by_cases h2:a-(xs.length:Int)<0
 ·rw [if_pos (by simpa using h2)];exact⟨-1,rfl,by omega,by omega⟩
 ·rw [if_neg (by simpa using h2)];obtain⟨v,e1,e2,e3⟩:=Gk (xs:=xs) (body:=fun s:Int × Int=>Nu xs s.1 s.2) Fj (a:=a-xs.length) (by omega) (by omega) (fun x hx b Cg B8=>by
   obtain⟨r,e1,e2,e3⟩:=zxS (x:=x) Cg B8 (h.2 _ hx);refine⟨r,e2,e3,fun i hi=> ?_⟩;have Bq:=(List.getElem?_eq_some_iff.1 hi).1;show Nu xs b i=_;unfold Nu;rw [if_pos (by simpa using Bq),Gn hi,Aa,e1,Aa,AH Bq (by omega)];by_cases h3:r<0
   ·rw [if_pos (by simpa using h3),if_pos h3]
   ·rw [if_neg (by simpa using h3),if_neg h3]) (fun b=>by
   show Nu xs b _=_;unfold Nu;rw [if_neg (by simp)])
  exact⟨v,e1,by omega,fun hv=>by have:=e3 hv;omega⟩
theorem uR {x:CL}:bP x=some x:=rfl
theorem vW {x:CL}:Ws x x=some true:=by unfold Ws;simp []
def K6 (l:List CL):Nat:=l.length
theorem zzp {xs:List CL} (h:K6 xs≤2000000):VZ xs=some xs:=by
 have hl:xs.length≤2000000:=by unfold K6 at h;omega
 unfold VZ;rw [Bf (by omega)];exact Fz (fun i hi v hv=>by
  show Q9 xs i v=_;unfold Q9;rw [if_pos (by simpa using hi),At hi,Aa,uR,Aa,At (by omega),Aa,AH hi (by omega)];rfl) (fun v=>by
  show Q9 xs _ v=_;unfold Q9;rw [if_neg (by simp)])
theorem zz9 {xs:List CL} (h:K6 xs≤2000000):Vw xs xs=some true:=by
 have hl:xs.length≤2000000:=by unfold K6 at h;omega
 unfold Vw;rw [if_neg (by simp)];exact FA (n:=xs.length) (fun i hi=>by
  show Rf xs xs i=_;unfold Rf;rw [if_pos (by simpa using hi),At hi,Aa,Aa,vW,Aa,if_neg (by simp),AH hi (by omega)]) (by
  show Rf xs xs _=_;unfold Rf;rw [if_neg (by simp)])
theorem zzi {xs:List CL} {a:Int} (h0:0≤a) (h1:a≤1048576) (h:(Bi XD) xs): ∃v,Vy xs a=some v∧v≤a∧(0≤v→(K6 xs:Int)=a-v):=by
 have hl:xs.length≤9223372036854775807:=h.1;unfold Vy K6;rw [De h0 h1 hl];by_cases h2:a-(xs.length:Int)<0
 ·rw [if_pos (by simpa using h2)];exact⟨-1,rfl,by omega,by omega⟩
 ·rw [if_neg (by simpa using h2)];exact⟨_,rfl,by omega,fun _=>by omega⟩
def GX (x:A7):Nat:=x.aj.length+x.bd.length
theorem xN {x:A7} (h:GX x≤2000000):bL x=some x:=rfl
theorem wH {x:A7} (h:GX x≤2000000):VW x x=some true:=by unfold VW;simp []
theorem wY {x:A7} {a:Int} (h0:0≤a) (h1:a≤1048576) (h:SC x): ∃v,VB x a=some v∧v≤a∧(0≤v→(GX x:Int)=a-v):=by
 unfold VB GX;rw [De (a:=a) (by omega) (by omega) h.1];by_cases q0:a-(x.aj.length:Int)<0
 ·rw [if_pos (by simpa using q0)];exact⟨-1,rfl,by omega,by omega⟩
 rw [if_neg (by simpa using q0)];rw [De (a:=(a-(x.aj.length:Int))) (by omega) (by omega) h.2.1];by_cases q1:(a-(x.aj.length:Int))-(x.bd.length:Int)<0
 ·rw [if_pos (by simpa using q1)];exact⟨-1,rfl,by omega,by omega⟩
 rw [if_neg (by simpa using q1)];exact⟨((a-(x.aj.length:Int))-(x.bd.length:Int)),rfl,by omega,fun _=>by omega⟩
def Ig (l:List A7):Nat:=l.length+(l.map GX).sum
theorem zyN {xs:List A7} (h:Ig xs≤2000000):Vi xs=some xs:=by
 have hl:xs.length≤2000000:=by unfold Ig at h;omega
 have hx: ∀x∈xs,GX x≤2000000:=fun x hx=>by have:=BX (tot:=GX) hx;unfold Ig at h;omega
 unfold Vi;rw [Bf (by omega)];exact Fz (fun i hi v hv=>by
  show Q6 xs i v=_;unfold Q6;rw [if_pos (by simpa using hi),At hi,Aa,xN (hx _ (List.getElem_mem hi)),Aa,At (by omega),Aa,AH hi (by omega)];rfl) (fun v=>by
  show Q6 xs _ v=_;unfold Q6;rw [if_neg (by simp)])
theorem zyV {xs:List A7} (h:Ig xs≤2000000):VY xs xs=some true:=by
 have hl:xs.length≤2000000:=by unfold Ig at h;omega
 have hx: ∀x∈xs,GX x≤2000000:=fun x hx=>by have:=BX (tot:=GX) hx;unfold Ig at h;omega
 unfold VY;rw [if_neg (by simp)];exact FA (n:=xs.length) (fun i hi=>by
  show Rg xs xs i=_;unfold Rg;rw [if_pos (by simpa using hi),At hi,Aa,Aa,wH (hx _ (List.getElem_mem hi)),Aa,if_neg (by simp),AH hi (by omega)]) (by
  show Rg xs xs _=_;unfold Rg;rw [if_neg (by simp)])
theorem zzU {xs:List A7} {a:Int} (h0:0≤a) (h1:a≤1048576) (h:(Bi SC) xs): ∃v,Vg xs a=some v∧v≤a∧(0≤v→(Ig xs:Int)=a-v):=by
 have hl:xs.length≤9223372036854775807:=h.1;unfold Vg Ig;rw [De h0 h1 hl];by_cases h2:a-(xs.length:Int)<0
 ·rw [if_pos (by simpa using h2)];exact⟨-1,rfl,by omega,by omega⟩
 ·rw [if_neg (by simpa using h2)];obtain⟨v,e1,e2,e3⟩:=Gk (xs:=xs) (body:=fun s:Int × Int=>N6 xs s.1 s.2) GX (a:=a-xs.length) (by omega) (by omega) (fun x hx b Cg B8=>by
   obtain⟨r,e1,e2,e3⟩:=wY (x:=x) Cg B8 (h.2 _ hx);refine⟨r,e2,e3,fun i hi=> ?_⟩;have Bq:=(List.getElem?_eq_some_iff.1 hi).1;show N6 xs b i=_;unfold N6;rw [if_pos (by simpa using Bq),Gn hi,Aa,e1,Aa,AH Bq (by omega)];by_cases h3:r<0
   ·rw [if_pos (by simpa using h3),if_pos h3]
   ·rw [if_neg (by simpa using h3),if_neg h3]) (fun b=>by
   show N6 xs b _=_;unfold N6;rw [if_neg (by simp)])
  exact⟨v,e1,by omega,fun hv=>by have:=e3 hv;omega⟩
def Io (x:Dz):Nat:=Fu x.bg+Ig x.ay
theorem yY {x:Dz} (h:Io x≤2000000):WM x=some x:=by unfold WM;simp only [R7 (xs:=x.bg) (by unfold Io at h;omega),zyN (xs:=x.ay) (by unfold Io at h;omega),Aa]
theorem zEm {x:Dz} (h:Io x≤2000000):WJ x x=some true:=by unfold WJ;simp [R2 (xs:=x.bg) (by unfold Io at h;omega),zyV (xs:=x.ay) (by unfold Io at h;omega)]
theorem zEa {x:Dz} {a:Int} (h0:0≤a) (h1:a≤1048576) (h:ZF x): ∃v,WB x a=some v∧v≤a∧(0≤v→(Io x:Int)=a-v):=by
 unfold WB Io;obtain⟨b4,e4,g4,r4⟩:=R8 (xs:=x.bg) (a:=a) (by omega) (by omega) h.2.2.2.2.1;rw [e4,Aa];by_cases q4:b4<0
 ·rw [if_pos (by simpa using q4)];exact⟨-1,rfl,by omega,by omega⟩
 rw [if_neg (by simpa using q4)];have s4:=r4 (by omega);obtain⟨b5,e5,g5,r5⟩:=zzU (xs:=x.ay) (a:=b4) (by omega) (by omega) h.2.2.2.2.2.1;rw [e5,Aa];by_cases q5:b5<0
 ·rw [if_pos (by simpa using q5)];exact⟨-1,rfl,by omega,by omega⟩
 rw [if_neg (by simpa using q5)];have s5:=r5 (by omega);exact⟨b5,rfl,by omega,fun _=>by omega⟩
def Gp (x:BT):Nat:=Io x.db
theorem xD {x:BT} (h:Gp x≤2000000):Wo x=some x:=by unfold Wo;simp only [yY (x:=x.db) (by unfold Gp at h;omega),Aa]
theorem u9 {x:BT} (h:Gp x≤2000000):Wp x x=some true:=by unfold Wp;simp [zEm (x:=x.db) (by unfold Gp at h;omega)]
theorem yP {x:BT} {a:Int} (h0:0≤a) (h1:a≤1048576) (h:SI x): ∃v,Wv x a=some v∧v≤a∧(0≤v→(Gp x:Int)=a-v):=by
 unfold Wv Gp;obtain⟨b1,e1,g1,r1⟩:=zEa (x:=x.db) (a:=a) (by omega) (by omega) h.2;rw [e1,Aa];by_cases q1:b1<0
 ·rw [if_pos (by simpa using q1)];exact⟨-1,rfl,by omega,by omega⟩
 rw [if_neg (by simpa using q1)];have s1:=r1 (by omega);exact⟨b1,rfl,by omega,fun _=>by omega⟩
def Ih (l:List BT):Nat:=l.length+(l.map Gp).sum
theorem zyL {xs:List BT} (h:Ih xs≤2000000):Vs xs=some xs:=by
 have hl:xs.length≤2000000:=by unfold Ih at h;omega
 have hx: ∀x∈xs,Gp x≤2000000:=fun x hx=>by have:=BX (tot:=Gp) hx;unfold Ih at h;omega
 unfold Vs;rw [Bf (by omega)];exact Fz (fun i hi v hv=>by
  show Rh xs i v=_;unfold Rh;rw [if_pos (by simpa using hi),At hi,Aa,xD (hx _ (List.getElem_mem hi)),Aa,At (by omega),Aa,AH hi (by omega)];rfl) (fun v=>by
  show Rh xs _ v=_;unfold Rh;rw [if_neg (by simp)])
theorem zyH {xs:List BT} (h:Ih xs≤2000000):Ve xs xs=some true:=by
 have hl:xs.length≤2000000:=by unfold Ih at h;omega
 have hx: ∀x∈xs,Gp x≤2000000:=fun x hx=>by have:=BX (tot:=Gp) hx;unfold Ih at h;omega
 unfold Ve;rw [if_neg (by simp)];exact FA (n:=xs.length) (fun i hi=>by
  show Q8 xs xs i=_;unfold Q8;rw [if_pos (by simpa using hi),At hi,Aa,Aa,u9 (hx _ (List.getElem_mem hi)),Aa,if_neg (by simp),AH hi (by omega)]) (by
  show Q8 xs xs _=_;unfold Q8;rw [if_neg (by simp)])
theorem zzq {xs:List BT} {a:Int} (h0:0≤a) (h1:a≤1048576) (h:(Bi SI) xs): ∃v,Vn xs a=some v∧v≤a∧(0≤v→(Ih xs:Int)=a-v):=by
 have hl:xs.length≤9223372036854775807:=h.1;unfold Vn Ih;rw [De h0 h1 hl];by_cases h2:a-(xs.length:Int)<0
 ·rw [if_pos (by simpa using h2)];exact⟨-1,rfl,by omega,by omega⟩
 ·rw [if_neg (by simpa using h2)];obtain⟨v,e1,e2,e3⟩:=Gk (xs:=xs) (body:=fun s:Int × Int=>Ns xs s.1 s.2) Gp (a:=a-xs.length) (by omega) (by omega) (fun x hx b Cg B8=>by
   obtain⟨r,e1,e2,e3⟩:=yP (x:=x) Cg B8 (h.2 _ hx);refine⟨r,e2,e3,fun i hi=> ?_⟩;have Bq:=(List.getElem?_eq_some_iff.1 hi).1;show Ns xs b i=_;unfold Ns;rw [if_pos (by simpa using Bq),Gn hi,Aa,e1,Aa,AH Bq (by omega)];by_cases h3:r<0
   ·rw [if_pos (by simpa using h3),if_pos h3]
   ·rw [if_neg (by simpa using h3),if_neg h3]) (fun b=>by
   show Ns xs b _=_;unfold Ns;rw [if_neg (by simp)])
  exact⟨v,e1,by omega,fun hv=>by have:=e3 hv;omega⟩
def Gm (x:Ci):Nat:=Ih x.cj
theorem zxW {x:Ci} (h:Gm x≤2000000):UL x=some x:=by unfold UL;simp only [zyL (xs:=x.cj) (by unfold Gm at h;omega),Aa]
theorem zxL {x:Ci} (h:Gm x≤2000000):UJ x x=some true:=by unfold UJ;simp [zyH (xs:=x.cj) (by unfold Gm at h;omega)]
theorem zx7 {x:Ci} {a:Int} (h0:0≤a) (h1:a≤1048576) (h:Si x): ∃v,UT x a=some v∧v≤a∧(0≤v→(Gm x:Int)=a-v):=by
 unfold UT Gm;obtain⟨b1,e1,g1,r1⟩:=zzq (xs:=x.cj) (a:=a) (by omega) (by omega) h.2.1;rw [e1,Aa];by_cases q1:b1<0
 ·rw [if_pos (by simpa using q1)];exact⟨-1,rfl,by omega,by omega⟩
 rw [if_neg (by simpa using q1)];have s1:=r1 (by omega);exact⟨b1,rfl,by omega,fun _=>by omega⟩
def IP (l:List Ci):Nat:=l.length+(l.map Gm).sum
theorem zvH {xs:List Ci} (h:IP xs≤2000000):U4 xs=some xs:=by
 have hl:xs.length≤2000000:=by unfold IP at h;omega
 have hx: ∀x∈xs,Gm x≤2000000:=fun x hx=>by have:=BX (tot:=Gm) hx;unfold IP at h;omega
 unfold U4;rw [Bf (by omega)];exact Fz (fun i hi v hv=>by
  show QW xs i v=_;unfold QW;rw [if_pos (by simpa using hi),At hi,Aa,zxW (hx _ (List.getElem_mem hi)),Aa,At (by omega),Aa,AH hi (by omega)];rfl) (fun v=>by
  show QW xs _ v=_;unfold QW;rw [if_neg (by simp)])
theorem zwq {xs:List Ci} (h:IP xs≤2000000):U1 xs xs=some true:=by
 have hl:xs.length≤2000000:=by unfold IP at h;omega
 have hx: ∀x∈xs,Gm x≤2000000:=fun x hx=>by have:=BX (tot:=Gm) hx;unfold IP at h;omega
 unfold U1;rw [if_neg (by simp)];exact FA (n:=xs.length) (fun i hi=>by
  show QZ xs xs i=_;unfold QZ;rw [if_pos (by simpa using hi),At hi,Aa,Aa,zxL (hx _ (List.getElem_mem hi)),Aa,if_neg (by simp),AH hi (by omega)]) (by
  show QZ xs xs _=_;unfold QZ;rw [if_neg (by simp)])
theorem zvT {xs:List Ci} {a:Int} (h0:0≤a) (h1:a≤1048576) (h:(Bi Si) xs): ∃v,U6 xs a=some v∧v≤a∧(0≤v→(IP xs:Int)=a-v):=by
 have hl:xs.length≤9223372036854775807:=h.1;unfold U6 IP;rw [De h0 h1 hl];by_cases h2:a-(xs.length:Int)<0
 ·rw [if_pos (by simpa using h2)];exact⟨-1,rfl,by omega,by omega⟩
 ·rw [if_neg (by simpa using h2)];obtain⟨v,e1,e2,e3⟩:=Gk (xs:=xs) (body:=fun s:Int × Int=>Nt xs s.1 s.2) Gm (a:=a-xs.length) (by omega) (by omega) (fun x hx b Cg B8=>by
   obtain⟨r,e1,e2,e3⟩:=zx7 (x:=x) Cg B8 (h.2 _ hx);refine⟨r,e2,e3,fun i hi=> ?_⟩;have Bq:=(List.getElem?_eq_some_iff.1 hi).1;show Nt xs b i=_;unfold Nt;rw [if_pos (by simpa using Bq),Gn hi,Aa,e1,Aa,AH Bq (by omega)];by_cases h3:r<0
   ·rw [if_pos (by simpa using h3),if_pos h3]
   ·rw [if_neg (by simpa using h3),if_neg h3]) (fun b=>by
   show Nt xs b _=_;unfold Nt;rw [if_neg (by simp)])
  exact⟨v,e1,by omega,fun hv=>by have:=e3 hv;omega⟩
def FZ (x:BH):Nat:=IP x.au
theorem uZ {x:BH} (h:FZ x≤2000000):Wx x=some x:=by unfold Wx;simp only [zvH (xs:=x.au) (by unfold FZ at h;omega),Aa]
theorem wX {x:BH} (h:FZ x≤2000000):VG x x=some true:=by unfold VG;simp [zwq (xs:=x.au) (by unfold FZ at h;omega)]
theorem uY {x:BH} {a:Int} (h0:0≤a) (h1:a≤1048576) (h:SB x): ∃v,VF x a=some v∧v≤a∧(0≤v→(FZ x:Int)=a-v):=by
 unfold VF FZ;obtain⟨b0,e0,g0,r0⟩:=zvT (xs:=x.au) (a:=a) (by omega) (by omega) h.1;rw [e0,Aa];by_cases q0:b0<0
 ·rw [if_pos (by simpa using q0)];exact⟨-1,rfl,by omega,by omega⟩
 rw [if_neg (by simpa using q0)];have s0:=r0 (by omega);exact⟨b0,rfl,by omega,fun _=>by omega⟩
def IT (l:List BH):Nat:=l.length+(l.map FZ).sum
theorem zzu {xs:List BH} (h:IT xs≤2000000):Vo xs=some xs:=by
 have hl:xs.length≤2000000:=by unfold IT at h;omega
 have hx: ∀x∈xs,FZ x≤2000000:=fun x hx=>by have:=BX (tot:=FZ) hx;unfold IT at h;omega
 unfold Vo;rw [Bf (by omega)];exact Fz (fun i hi v hv=>by
  show Q5 xs i v=_;unfold Q5;rw [if_pos (by simpa using hi),At hi,Aa,uZ (hx _ (List.getElem_mem hi)),Aa,At (by omega),Aa,AH hi (by omega)];rfl) (fun v=>by
  show Q5 xs _ v=_;unfold Q5;rw [if_neg (by simp)])
theorem vF {xs:List BH} (h:IT xs≤2000000):Vr xs xs=some true:=by
 have hl:xs.length≤2000000:=by unfold IT at h;omega
 have hx: ∀x∈xs,FZ x≤2000000:=fun x hx=>by have:=BX (tot:=FZ) hx;unfold IT at h;omega
 unfold Vr;rw [if_neg (by simp)];exact FA (n:=xs.length) (fun i hi=>by
  show Ra xs xs i=_;unfold Ra;rw [if_pos (by simpa using hi),At hi,Aa,Aa,wX (hx _ (List.getElem_mem hi)),Aa,if_neg (by simp),AH hi (by omega)]) (by
  show Ra xs xs _=_;unfold Ra;rw [if_neg (by simp)])
theorem vN {xs:List BH} {a:Int} (h0:0≤a) (h1:a≤1048576) (h:(Bi SB) xs): ∃v,Vh xs a=some v∧v≤a∧(0≤v→(IT xs:Int)=a-v):=by
 have hl:xs.length≤9223372036854775807:=h.1;unfold Vh IT;rw [De h0 h1 hl];by_cases h2:a-(xs.length:Int)<0
 ·rw [if_pos (by simpa using h2)];exact⟨-1,rfl,by omega,by omega⟩
 ·rw [if_neg (by simpa using h2)];obtain⟨v,e1,e2,e3⟩:=Gk (xs:=xs) (body:=fun s:Int × Int=>N4 xs s.1 s.2) FZ (a:=a-xs.length) (by omega) (by omega) (fun x hx b Cg B8=>by
   obtain⟨r,e1,e2,e3⟩:=uY (x:=x) Cg B8 (h.2 _ hx);refine⟨r,e2,e3,fun i hi=> ?_⟩;have Bq:=(List.getElem?_eq_some_iff.1 hi).1;show N4 xs b i=_;unfold N4;rw [if_pos (by simpa using Bq),Gn hi,Aa,e1,Aa,AH Bq (by omega)];by_cases h3:r<0
   ·rw [if_pos (by simpa using h3),if_pos h3]
   ·rw [if_neg (by simpa using h3),if_neg h3]) (fun b=>by
   show N4 xs b _=_;unfold N4;rw [if_neg (by simp)])
  exact⟨v,e1,by omega,fun hv=>by have:=e3 hv;omega⟩
def Ht (x:AU):Nat:=x.aj.length
theorem zI {x:AU} (h:Ht x≤2000000):cB x=some x:=rfl
theorem zW {x:AU} (h:Ht x≤2000000):Wf x x=some true:=by unfold Wf;simp []
theorem yB {x:AU} {a:Int} (h0:0≤a) (h1:a≤1048576) (h:MM x): ∃v,V6 x a=some v∧v≤a∧(0≤v→(Ht x:Int)=a-v):=by
 unfold V6 Ht;rw [De (a:=a) (by omega) (by omega) h.1];by_cases q0:a-(x.aj.length:Int)<0
 ·rw [if_pos (by simpa using q0)];exact⟨-1,rfl,by omega,by omega⟩
 rw [if_neg (by simpa using q0)];exact⟨(a-(x.aj.length:Int)),rfl,by omega,fun _=>by omega⟩
def Fh (l:List AU):Nat:=l.length+(l.map Ht).sum
theorem uQ {xs:List AU} (h:Fh xs≤2000000):VJ xs=some xs:=by
 have hl:xs.length≤2000000:=by unfold Fh at h;omega
 have hx: ∀x∈xs,Ht x≤2000000:=fun x hx=>by have:=BX (tot:=Ht) hx;unfold Fh at h;omega
 unfold VJ;rw [Bf (by omega)];exact Fz (fun i hi v hv=>by
  show Q1 xs i v=_;unfold Q1;rw [if_pos (by simpa using hi),At hi,Aa,zI (hx _ (List.getElem_mem hi)),Aa,At (by omega),Aa,AH hi (by omega)];rfl) (fun v=>by
  show Q1 xs _ v=_;unfold Q1;rw [if_neg (by simp)])
theorem wA {xs:List AU} (h:Fh xs≤2000000):VC xs xs=some true:=by
 have hl:xs.length≤2000000:=by unfold Fh at h;omega
 have hx: ∀x∈xs,Ht x≤2000000:=fun x hx=>by have:=BX (tot:=Ht) hx;unfold Fh at h;omega
 unfold VC;rw [if_neg (by simp)];exact FA (n:=xs.length) (fun i hi=>by
  show Q3 xs xs i=_;unfold Q3;rw [if_pos (by simpa using hi),At hi,Aa,Aa,zW (hx _ (List.getElem_mem hi)),Aa,if_neg (by simp),AH hi (by omega)]) (by
  show Q3 xs xs _=_;unfold Q3;rw [if_neg (by simp)])
theorem w5 {xs:List AU} {a:Int} (h0:0≤a) (h1:a≤1048576) (h:(Bi MM) xs): ∃v,Wm xs a=some v∧v≤a∧(0≤v→(Fh xs:Int)=a-v):=by
 have hl:xs.length≤9223372036854775807:=h.1;unfold Wm Fh;rw [De h0 h1 hl];by_cases h2:a-(xs.length:Int)<0
 ·rw [if_pos (by simpa using h2)];exact⟨-1,rfl,by omega,by omega⟩
 ·rw [if_neg (by simpa using h2)];obtain⟨v,e1,e2,e3⟩:=Gk (xs:=xs) (body:=fun s:Int × Int=>NX xs s.1 s.2) Ht (a:=a-xs.length) (by omega) (by omega) (fun x hx b Cg B8=>by
   obtain⟨r,e1,e2,e3⟩:=yB (x:=x) Cg B8 (h.2 _ hx);refine⟨r,e2,e3,fun i hi=> ?_⟩;have Bq:=(List.getElem?_eq_some_iff.1 hi).1;show NX xs b i=_;unfold NX;rw [if_pos (by simpa using Bq),Gn hi,Aa,e1,Aa,AH Bq (by omega)];by_cases h3:r<0
   ·rw [if_pos (by simpa using h3),if_pos h3]
   ·rw [if_neg (by simpa using h3),if_neg h3]) (fun b=>by
   show NX xs b _=_;unfold NX;rw [if_neg (by simp)])
  exact⟨v,e1,by omega,fun hv=>by have:=e3 hv;omega⟩
def IX (l:List (List AU)):Nat:=l.length+(l.map Fh).sum
theorem vM {xs:List (List AU)} (h:IX xs≤2000000):Vc xs=some xs:=by
 have hl:xs.length≤2000000:=by unfold IX at h;omega
 have hx: ∀x∈xs,Fh x≤2000000:=fun x hx=>by have:=BX (tot:=Fh) hx;unfold IX at h;omega
 unfold Vc;rw [Bf (by omega)];exact Fz (fun i hi v hv=>by
  show Rb xs i v=_;unfold Rb;rw [if_pos (by simpa using hi),At hi,Aa,uQ (hx _ (List.getElem_mem hi)),Aa,At (by omega),Aa,AH hi (by omega)];rfl) (fun v=>by
  show Rb xs _ v=_;unfold Rb;rw [if_neg (by simp)])
theorem zy0 {xs:List (List AU)} (h:IX xs≤2000000):V1 xs xs=some true:=by
 have hl:xs.length≤2000000:=by unfold IX at h;omega
 have hx: ∀x∈xs,Fh x≤2000000:=fun x hx=>by have:=BX (tot:=Fh) hx;unfold IX at h;omega
 unfold V1;rw [if_neg (by simp)];exact FA (n:=xs.length) (fun i hi=>by
  show Rc xs xs i=_;unfold Rc;rw [if_pos (by simpa using hi),At hi,Aa,Aa,wA (hx _ (List.getElem_mem hi)),Aa,if_neg (by simp),AH hi (by omega)]) (by
  show Rc xs xs _=_;unfold Rc;rw [if_neg (by simp)])
theorem zyZ {xs:List (List AU)} {a:Int} (h0:0≤a) (h1:a≤1048576) (h:(Bi (Bi MM)) xs): ∃v,Vl xs a=some v∧v≤a∧(0≤v→(IX xs:Int)=a-v):=by
 have hl:xs.length≤9223372036854775807:=h.1;unfold Vl IX;rw [De h0 h1 hl];by_cases h2:a-(xs.length:Int)<0
 ·rw [if_pos (by simpa using h2)];exact⟨-1,rfl,by omega,by omega⟩
 ·rw [if_neg (by simpa using h2)];obtain⟨v,e1,e2,e3⟩:=Gk (xs:=xs) (body:=fun s:Int × Int=>NZ xs s.1 s.2) Fh (a:=a-xs.length) (by omega) (by omega) (fun x hx b Cg B8=>by
   obtain⟨r,e1,e2,e3⟩:=w5 (xs:=x) Cg B8 (h.2 _ hx);refine⟨r,e2,e3,fun i hi=> ?_⟩;have Bq:=(List.getElem?_eq_some_iff.1 hi).1;show NZ xs b i=_;unfold NZ;rw [if_pos (by simpa using Bq),Gn hi,Aa,e1,Aa,AH Bq (by omega)];by_cases h3:r<0
   ·rw [if_pos (by simpa using h3),if_pos h3]
   ·rw [if_neg (by simpa using h3),if_neg h3]) (fun b=>by
   show NZ xs b _=_;unfold NZ;rw [if_neg (by simp)])
  exact⟨v,e1,by omega,fun hv=>by have:=e3 hv;omega⟩
def G5 (x:Ar):Nat:=x.aj.length+x.bd.length
theorem zEQ {x:Ar} (h:G5 x≤2000000):dH x=some x:=rfl
theorem zEW {x:Ar} (h:G5 x≤2000000):WS x x=some true:=by unfold WS;simp []
theorem zEM {x:Ar} {a:Int} (h0:0≤a) (h1:a≤1048576) (h:QE x): ∃v,W6 x a=some v∧v≤a∧(0≤v→(G5 x:Int)=a-v):=by
 unfold W6 G5;rw [De (a:=a) (by omega) (by omega) h.2.1];by_cases q1:a-(x.aj.length:Int)<0
 ·rw [if_pos (by simpa using q1)];exact⟨-1,rfl,by omega,by omega⟩
 rw [if_neg (by simpa using q1)];rw [De (a:=(a-(x.aj.length:Int))) (by omega) (by omega) h.2.2.1];by_cases q2:(a-(x.aj.length:Int))-(x.bd.length:Int)<0
 ·rw [if_pos (by simpa using q2)];exact⟨-1,rfl,by omega,by omega⟩
 rw [if_neg (by simpa using q2)];exact⟨((a-(x.aj.length:Int))-(x.bd.length:Int)),rfl,by omega,fun _=>by omega⟩
def Il (l:List Ar):Nat:=l.length+(l.map G5).sum
theorem yW {xs:List Ar} (h:Il xs≤2000000):WI xs=some xs:=by
 have hl:xs.length≤2000000:=by unfold Il at h;omega
 have hx: ∀x∈xs,G5 x≤2000000:=fun x hx=>by have:=BX (tot:=G5) hx;unfold Il at h;omega
 unfold WI;rw [Bf (by omega)];exact Fz (fun i hi v hv=>by
  show Rl xs i v=_;unfold Rl;rw [if_pos (by simpa using hi),At hi,Aa,zEQ (hx _ (List.getElem_mem hi)),Aa,At (by omega),Aa,AH hi (by omega)];rfl) (fun v=>by
  show Rl xs _ v=_;unfold Rl;rw [if_neg (by simp)])
theorem zEi {xs:List Ar} (h:Il xs≤2000000):WC xs xs=some true:=by
 have hl:xs.length≤2000000:=by unfold Il at h;omega
 have hx: ∀x∈xs,G5 x≤2000000:=fun x hx=>by have:=BX (tot:=G5) hx;unfold Il at h;omega
 unfold WC;rw [if_neg (by simp)];exact FA (n:=xs.length) (fun i hi=>by
  show Rj xs xs i=_;unfold Rj;rw [if_pos (by simpa using hi),At hi,Aa,Aa,zEW (hx _ (List.getElem_mem hi)),Aa,if_neg (by simp),AH hi (by omega)]) (by
  show Rj xs xs _=_;unfold Rj;rw [if_neg (by simp)])
theorem yX {xs:List Ar} {a:Int} (h0:0≤a) (h1:a≤1048576) (h:(Bi QE) xs): ∃v,WL xs a=some v∧v≤a∧(0≤v→(Il xs:Int)=a-v):=by
 have hl:xs.length≤9223372036854775807:=h.1;unfold WL Il;rw [De h0 h1 hl];by_cases h2:a-(xs.length:Int)<0
 ·rw [if_pos (by simpa using h2)];exact⟨-1,rfl,by omega,by omega⟩
 ·rw [if_neg (by simpa using h2)];obtain⟨v,e1,e2,e3⟩:=Gk (xs:=xs) (body:=fun s:Int × Int=>Oc xs s.1 s.2) G5 (a:=a-xs.length) (by omega) (by omega) (fun x hx b Cg B8=>by
   obtain⟨r,e1,e2,e3⟩:=zEM (x:=x) Cg B8 (h.2 _ hx);refine⟨r,e2,e3,fun i hi=> ?_⟩;have Bq:=(List.getElem?_eq_some_iff.1 hi).1;show Oc xs b i=_;unfold Oc;rw [if_pos (by simpa using Bq),Gn hi,Aa,e1,Aa,AH Bq (by omega)];by_cases h3:r<0
   ·rw [if_pos (by simpa using h3),if_pos h3]
   ·rw [if_neg (by simpa using h3),if_neg h3]) (fun b=>by
   show Oc xs b _=_;unfold Oc;rw [if_neg (by simp)])
  exact⟨v,e1,by omega,fun hv=>by have:=e3 hv;omega⟩
def G1 (x:BA):Nat:=x.aj.length+x.bd.length
theorem zEb {x:BA} (h:G1 x≤2000000):cP x=some x:=rfl
theorem zEc {x:BA} (h:G1 x≤2000000):WK x x=some true:=by unfold WK;simp []
theorem zEe {x:BA} {a:Int} (h0:0≤a) (h1:a≤1048576) (h:Pj x): ∃v,WA x a=some v∧v≤a∧(0≤v→(G1 x:Int)=a-v):=by
 unfold WA G1;rw [De (a:=a) (by omega) (by omega) h.1];by_cases q0:a-(x.aj.length:Int)<0
 ·rw [if_pos (by simpa using q0)];exact⟨-1,rfl,by omega,by omega⟩
 rw [if_neg (by simpa using q0)];rw [De (a:=(a-(x.aj.length:Int))) (by omega) (by omega) h.2.1];by_cases q1:(a-(x.aj.length:Int))-(x.bd.length:Int)<0
 ·rw [if_pos (by simpa using q1)];exact⟨-1,rfl,by omega,by omega⟩
 rw [if_neg (by simpa using q1)];exact⟨((a-(x.aj.length:Int))-(x.bd.length:Int)),rfl,by omega,fun _=>by omega⟩
def Hv (l:List BA):Nat:=l.length+(l.map G1).sum
theorem qN {xs:List BA} (h:Hv xs≤2000000):RU xs=some xs:=by
 have hl:xs.length≤2000000:=by unfold Hv at h;omega
 have hx: ∀x∈xs,G1 x≤2000000:=fun x hx=>by have:=BX (tot:=G1) hx;unfold Hv at h;omega
 unfold RU;rw [Bf (by omega)];exact Fz (fun i hi v hv=>by
  show Rm xs i v=_;unfold Rm;rw [if_pos (by simpa using hi),At hi,Aa,zEb (hx _ (List.getElem_mem hi)),Aa,At (by omega),Aa,AH hi (by omega)];rfl) (fun v=>by
  show Rm xs _ v=_;unfold Rm;rw [if_neg (by simp)])
theorem qW {xs:List BA} (h:Hv xs≤2000000):RJ xs xs=some true:=by
 have hl:xs.length≤2000000:=by unfold Hv at h;omega
 have hx: ∀x∈xs,G1 x≤2000000:=fun x hx=>by have:=BX (tot:=G1) hx;unfold Hv at h;omega
 unfold RJ;rw [if_neg (by simp)];exact FA (n:=xs.length) (fun i hi=>by
  show Ry xs xs i=_;unfold Ry;rw [if_pos (by simpa using hi),At hi,Aa,Aa,zEc (hx _ (List.getElem_mem hi)),Aa,if_neg (by simp),AH hi (by omega)]) (by
  show Ry xs xs _=_;unfold Ry;rw [if_neg (by simp)])
theorem qO {xs:List BA} {a:Int} (h0:0≤a) (h1:a≤1048576) (h:(Bi Pj) xs): ∃v,RH xs a=some v∧v≤a∧(0≤v→(Hv xs:Int)=a-v):=by
 have hl:xs.length≤9223372036854775807:=h.1;unfold RH Hv;rw [De h0 h1 hl];by_cases h2:a-(xs.length:Int)<0
 ·rw [if_pos (by simpa using h2)];exact⟨-1,rfl,by omega,by omega⟩
 ·rw [if_neg (by simpa using h2)];obtain⟨v,e1,e2,e3⟩:=Gk (xs:=xs) (body:=fun s:Int × Int=>NN xs s.1 s.2) G1 (a:=a-xs.length) (by omega) (by omega) (fun x hx b Cg B8=>by
   obtain⟨r,e1,e2,e3⟩:=zEe (x:=x) Cg B8 (h.2 _ hx);refine⟨r,e2,e3,fun i hi=> ?_⟩;have Bq:=(List.getElem?_eq_some_iff.1 hi).1;show NN xs b i=_;unfold NN;rw [if_pos (by simpa using Bq),Gn hi,Aa,e1,Aa,AH Bq (by omega)];by_cases h3:r<0
   ·rw [if_pos (by simpa using h3),if_pos h3]
   ·rw [if_neg (by simpa using h3),if_neg h3]) (fun b=>by
   show NN xs b _=_;unfold NN;rw [if_neg (by simp)])
  exact⟨v,e1,by omega,fun hv=>by have:=e3 hv;omega⟩
def EE (x:B7):Nat:=Il x.dq+Hv x.bp+Hu x.cb
theorem zvC {x:B7} (h:EE x≤2000000):U9 x=some x:=by unfold U9;simp only [yW (xs:=x.dq) (by unfold EE at h;omega),qN (xs:=x.bp) (by unfold EE at h;omega),fU (xs:=x.cb) (by unfold EE at h;omega),Aa]
theorem zvt {x:B7} (h:EE x≤2000000):U5 x x=some true:=by unfold U5;simp [zEi (xs:=x.dq) (by unfold EE at h;omega),qW (xs:=x.bp) (by unfold EE at h;omega),fP (xs:=x.cb) (by unfold EE at h;omega)]
theorem zv6 {x:B7} {a:Int} (h0:0≤a) (h1:a≤1048576) (h:R4 x): ∃v,U8 x a=some v∧v≤a∧(0≤v→(EE x:Int)=a-v):=by
 unfold U8 EE;obtain⟨b0,e0,g0,r0⟩:=yX (xs:=x.dq) (a:=a) (by omega) (by omega) h.1;rw [e0,Aa];by_cases q0:b0<0
 ·rw [if_pos (by simpa using q0)];exact⟨-1,rfl,by omega,by omega⟩
 rw [if_neg (by simpa using q0)];have s0:=r0 (by omega);obtain⟨b1,e1,g1,r1⟩:=qO (xs:=x.bp) (a:=b0) (by omega) (by omega) h.2.1;rw [e1,Aa];by_cases q1:b1<0
 ·rw [if_pos (by simpa using q1)];exact⟨-1,rfl,by omega,by omega⟩
 rw [if_neg (by simpa using q1)];have s1:=r1 (by omega);obtain⟨b2,e2,g2,r2⟩:=gG (xs:=x.cb) (a:=b1) (by omega) (by omega) h.2.2.1;rw [e2,Aa];by_cases q2:b2<0
 ·rw [if_pos (by simpa using q2)];exact⟨-1,rfl,by omega,by omega⟩
 rw [if_neg (by simpa using q2)];have s2:=r2 (by omega);exact⟨b2,rfl,by omega,fun _=>by omega⟩
def IM (l:List B7):Nat:=l.length+(l.map EE).sum
theorem zur {xs:List B7} (h:IM xs≤2000000):UA xs=some xs:=by
 have hl:xs.length≤2000000:=by unfold IM at h;omega
 have hx: ∀x∈xs,EE x≤2000000:=fun x hx=>by have:=BX (tot:=EE) hx;unfold IM at h;omega
 unfold UA;rw [Bf (by omega)];exact Fz (fun i hi v hv=>by
  show QK xs i v=_;unfold QK;rw [if_pos (by simpa using hi),At hi,Aa,zvC (hx _ (List.getElem_mem hi)),Aa,At (by omega),Aa,AH hi (by omega)];rfl) (fun v=>by
  show QK xs _ v=_;unfold QK;rw [if_neg (by simp)])
theorem zvh {xs:List B7} (h:IM xs≤2000000):UD xs xs=some true:=by
 have hl:xs.length≤2000000:=by unfold IM at h;omega
 have hx: ∀x∈xs,EE x≤2000000:=fun x hx=>by have:=BX (tot:=EE) hx;unfold IM at h;omega
 unfold UD;rw [if_neg (by simp)];exact FA (n:=xs.length) (fun i hi=>by
  show QL xs xs i=_;unfold QL;rw [if_pos (by simpa using hi),At hi,Aa,Aa,zvt (hx _ (List.getElem_mem hi)),Aa,if_neg (by simp),AH hi (by omega)]) (by
  show QL xs xs _=_;unfold QL;rw [if_neg (by simp)])
theorem zu0 {xs:List B7} {a:Int} (h0:0≤a) (h1:a≤1048576) (h:(Bi R4) xs): ∃v,Ux xs a=some v∧v≤a∧(0≤v→(IM xs:Int)=a-v):=by
 have hl:xs.length≤9223372036854775807:=h.1;unfold Ux IM;rw [De h0 h1 hl];by_cases h2:a-(xs.length:Int)<0
 ·rw [if_pos (by simpa using h2)];exact⟨-1,rfl,by omega,by omega⟩
 ·rw [if_neg (by simpa using h2)];obtain⟨v,e1,e2,e3⟩:=Gk (xs:=xs) (body:=fun s:Int × Int=>NG xs s.1 s.2) EE (a:=a-xs.length) (by omega) (by omega) (fun x hx b Cg B8=>by
   obtain⟨r,e1,e2,e3⟩:=zv6 (x:=x) Cg B8 (h.2 _ hx);refine⟨r,e2,e3,fun i hi=> ?_⟩;have Bq:=(List.getElem?_eq_some_iff.1 hi).1;show NG xs b i=_;unfold NG;rw [if_pos (by simpa using Bq),Gn hi,Aa,e1,Aa,AH Bq (by omega)];by_cases h3:r<0
   ·rw [if_pos (by simpa using h3),if_pos h3]
   ·rw [if_neg (by simpa using h3),if_neg h3]) (fun b=>by
   show NG xs b _=_;unfold NG;rw [if_neg (by simp)])
  exact⟨v,e1,by omega,fun hv=>by have:=e3 hv;omega⟩
def Fg (x:BK):Nat:=Fu x.bm+Hv x.bp
theorem zuD {x:BK} (h:Fg x≤2000000):Uy x=some x:=by unfold Uy;simp only [R7 (xs:=x.bm) (by unfold Fg at h;omega),qN (xs:=x.bp) (by unfold Fg at h;omega),Aa]
theorem zuU {x:BK} (h:Fg x≤2000000):UC x x=some true:=by unfold UC;simp [R2 (xs:=x.bm) (by unfold Fg at h;omega),qW (xs:=x.bp) (by unfold Fg at h;omega)]
theorem zvq {x:BK} {a:Int} (h0:0≤a) (h1:a≤1048576) (h:R1 x): ∃v,UB x a=some v∧v≤a∧(0≤v→(Fg x:Int)=a-v):=by
 unfold UB Fg;obtain⟨b1,e1,g1,r1⟩:=R8 (xs:=x.bm) (a:=a) (by omega) (by omega) h.2.1;rw [e1,Aa];by_cases q1:b1<0
 ·rw [if_pos (by simpa using q1)];exact⟨-1,rfl,by omega,by omega⟩
 rw [if_neg (by simpa using q1)];have s1:=r1 (by omega);obtain⟨b2,e2,g2,r2⟩:=qO (xs:=x.bp) (a:=b1) (by omega) (by omega) h.2.2.1;rw [e2,Aa];by_cases q2:b2<0
 ·rw [if_pos (by simpa using q2)];exact⟨-1,rfl,by omega,by omega⟩
 rw [if_neg (by simpa using q2)];have s2:=r2 (by omega);exact⟨b2,rfl,by omega,fun _=>by omega⟩
def IN (l:List BK):Nat:=l.length+(l.map Fg).sum
theorem ztM {xs:List BK} (h:IN xs≤2000000):Up xs=some xs:=by
 have hl:xs.length≤2000000:=by unfold IN at h;omega
 have hx: ∀x∈xs,Fg x≤2000000:=fun x hx=>by have:=BX (tot:=Fg) hx;unfold IN at h;omega
 unfold Up;rw [Bf (by omega)];exact Fz (fun i hi v hv=>by
  show QO xs i v=_;unfold QO;rw [if_pos (by simpa using hi),At hi,Aa,zuD (hx _ (List.getElem_mem hi)),Aa,At (by omega),Aa,AH hi (by omega)];rfl) (fun v=>by
  show QO xs _ v=_;unfold QO;rw [if_neg (by simp)])
theorem ztY {xs:List BK} (h:IN xs≤2000000):UG xs xs=some true:=by
 have hl:xs.length≤2000000:=by unfold IN at h;omega
 have hx: ∀x∈xs,Fg x≤2000000:=fun x hx=>by have:=BX (tot:=Fg) hx;unfold IN at h;omega
 unfold UG;rw [if_neg (by simp)];exact FA (n:=xs.length) (fun i hi=>by
  show QN xs xs i=_;unfold QN;rw [if_pos (by simpa using hi),At hi,Aa,Aa,zuU (hx _ (List.getElem_mem hi)),Aa,if_neg (by simp),AH hi (by omega)]) (by
  show QN xs xs _=_;unfold QN;rw [if_neg (by simp)])
theorem zsM {xs:List BK} {a:Int} (h0:0≤a) (h1:a≤1048576) (h:(Bi R1) xs): ∃v,UE xs a=some v∧v≤a∧(0≤v→(IN xs:Int)=a-v):=by
 have hl:xs.length≤9223372036854775807:=h.1;unfold UE IN;rw [De h0 h1 hl];by_cases h2:a-(xs.length:Int)<0
 ·rw [if_pos (by simpa using h2)];exact⟨-1,rfl,by omega,by omega⟩
 ·rw [if_neg (by simpa using h2)];obtain⟨v,e1,e2,e3⟩:=Gk (xs:=xs) (body:=fun s:Int × Int=>ND xs s.1 s.2) Fg (a:=a-xs.length) (by omega) (by omega) (fun x hx b Cg B8=>by
   obtain⟨r,e1,e2,e3⟩:=zvq (x:=x) Cg B8 (h.2 _ hx);refine⟨r,e2,e3,fun i hi=> ?_⟩;have Bq:=(List.getElem?_eq_some_iff.1 hi).1;show ND xs b i=_;unfold ND;rw [if_pos (by simpa using Bq),Gn hi,Aa,e1,Aa,AH Bq (by omega)];by_cases h3:r<0
   ·rw [if_pos (by simpa using h3),if_pos h3]
   ·rw [if_neg (by simpa using h3),if_neg h3]) (fun b=>by
   show ND xs b _=_;unfold ND;rw [if_neg (by simp)])
  exact⟨v,e1,by omega,fun hv=>by have:=e3 hv;omega⟩
def Ee (x:By):Nat:=K6 x.ax+Fu x.a7+IT x.aw+IX x.bu+Hu x.a8+IM x.bj+IN x.bh
theorem u3 {x:By} (h:Ee x≤2000000):Wy x=some x:=by unfold Wy;simp only [zzp (xs:=x.ax) (by unfold Ee at h;omega),R7 (xs:=x.a7) (by unfold Ee at h;omega),zzu (xs:=x.aw) (by unfold Ee at h;omega),vM (xs:=x.bu) (by unfold Ee at h;omega),fU (xs:=x.a8) (by unfold Ee at h;omega),zur (xs:=x.bj) (by unfold Ee at h;omega),ztM (xs:=x.bh) (by unfold Ee at h;omega),Aa]
theorem vZ {x:By} (h:Ee x≤2000000):Wn x x=some true:=by unfold Wn;simp [zz9 (xs:=x.ax) (by unfold Ee at h;omega),R2 (xs:=x.a7) (by unfold Ee at h;omega),vF (xs:=x.aw) (by unfold Ee at h;omega),zy0 (xs:=x.bu) (by unfold Ee at h;omega),fP (xs:=x.a8) (by unfold Ee at h;omega),zvh (xs:=x.bj) (by unfold Ee at h;omega),ztY (xs:=x.bh) (by unfold Ee at h;omega)]
theorem w6 {x:By} {a:Int} (h0:0≤a) (h1:a≤1048576) (h:gC x): ∃v,Wu x a=some v∧v≤a∧(0≤v→(Ee x:Int)=a-v):=by
 unfold Wu Ee;obtain⟨b2,e2,g2,r2⟩:=zzi (xs:=x.ax) (a:=a) (by omega) (by omega) h.2.2.1;rw [e2,Aa];by_cases q2:b2<0
 ·rw [if_pos (by simpa using q2)];exact⟨-1,rfl,by omega,by omega⟩
 rw [if_neg (by simpa using q2)];have s2:=r2 (by omega);obtain⟨b3,e3,g3,r3⟩:=R8 (xs:=x.a7) (a:=b2) (by omega) (by omega) h.2.2.2.1;rw [e3,Aa];by_cases q3:b3<0
 ·rw [if_pos (by simpa using q3)];exact⟨-1,rfl,by omega,by omega⟩
 rw [if_neg (by simpa using q3)];have s3:=r3 (by omega);obtain⟨b4,e4,g4,r4⟩:=vN (xs:=x.aw) (a:=b3) (by omega) (by omega) h.2.2.2.2.1;rw [e4,Aa];by_cases q4:b4<0
 ·rw [if_pos (by simpa using q4)];exact⟨-1,rfl,by omega,by omega⟩
 rw [if_neg (by simpa using q4)];have s4:=r4 (by omega);obtain⟨b5,e5,g5,r5⟩:=zyZ (xs:=x.bu) (a:=b4) (by omega) (by omega) h.2.2.2.2.2.1;rw [e5,Aa];by_cases q5:b5<0
 ·rw [if_pos (by simpa using q5)];exact⟨-1,rfl,by omega,by omega⟩
 rw [if_neg (by simpa using q5)];have s5:=r5 (by omega);obtain⟨b6,e6,g6,r6⟩:=gG (xs:=x.a8) (a:=b5) (by omega) (by omega) h.2.2.2.2.2.2.1;rw [e6,Aa];by_cases q6:b6<0
 ·rw [if_pos (by simpa using q6)];exact⟨-1,rfl,by omega,by omega⟩
 rw [if_neg (by simpa using q6)];have s6:=r6 (by omega);obtain⟨b7,e7,g7,r7⟩:=zu0 (xs:=x.bj) (a:=b6) (by omega) (by omega) h.2.2.2.2.2.2.2.1;rw [e7,Aa];by_cases q7:b7<0
 ·rw [if_pos (by simpa using q7)];exact⟨-1,rfl,by omega,by omega⟩
 rw [if_neg (by simpa using q7)];have s7:=r7 (by omega);obtain⟨b8,e8,g8,r8⟩:=zsM (xs:=x.bh) (a:=b7) (by omega) (by omega) h.2.2.2.2.2.2.2.2;rw [e8,Aa];by_cases q8:b8<0
 ·rw [if_pos (by simpa using q8)];exact⟨-1,rfl,by omega,by omega⟩
 rw [if_neg (by simpa using q8)];have s8:=r8 (by omega);exact⟨b8,rfl,by omega,fun _=>by omega⟩
def F0 (x:Cz):Nat:=x.ab.length+IY x.ch+Hu x.a6+IQ x.bw+Ee x.aq
theorem xU {x:Cz} (h:F0 x≤2000000):Ok x=some x:=by unfold Ok;simp only [zzV (xs:=x.ch) (by unfold F0 at h;omega),fU (xs:=x.a6) (by unfold F0 at h;omega),zwa (xs:=x.bw) (by unfold F0 at h;omega),u3 (x:=x.aq) (by unfold F0 at h;omega),Aa]
theorem yL {x:Cz} (h:F0 x≤2000000):Wb x x=some true:=by unfold Wb;simp [vC (xs:=x.ch) (by unfold F0 at h;omega),fP (xs:=x.a6) (by unfold F0 at h;omega),zv5 (xs:=x.bw) (by unfold F0 at h;omega),vZ (x:=x.aq) (by unfold F0 at h;omega)]
theorem yI {x:Cz} {a:Int} (h0:0≤a) (h1:a≤1048576) (h:gN x): ∃v,Wj x a=some v∧v≤a∧(0≤v→(F0 x:Int)=a-v):=by
 unfold Wj F0;rw [De (a:=a) (by omega) (by omega) h.1];by_cases q0:a-(x.ab.length:Int)<0
 ·rw [if_pos (by simpa using q0)];exact⟨-1,rfl,by omega,by omega⟩
 rw [if_neg (by simpa using q0)];obtain⟨b1,e1,g1,r1⟩:=zz2 (xs:=x.ch) (a:=(a-(x.ab.length:Int))) (by omega) (by omega) h.2.1;rw [e1,Aa];by_cases q1:b1<0
 ·rw [if_pos (by simpa using q1)];exact⟨-1,rfl,by omega,by omega⟩
 rw [if_neg (by simpa using q1)];have s1:=r1 (by omega);obtain⟨b3,e3,g3,r3⟩:=gG (xs:=x.a6) (a:=b1) (by omega) (by omega) h.2.2.2.1;rw [e3,Aa];by_cases q3:b3<0
 ·rw [if_pos (by simpa using q3)];exact⟨-1,rfl,by omega,by omega⟩
 rw [if_neg (by simpa using q3)];have s3:=r3 (by omega);obtain⟨b4,e4,g4,r4⟩:=zwk (xs:=x.bw) (a:=b3) (by omega) (by omega) h.2.2.2.2.1;rw [e4,Aa];by_cases q4:b4<0
 ·rw [if_pos (by simpa using q4)];exact⟨-1,rfl,by omega,by omega⟩
 rw [if_neg (by simpa using q4)];have s4:=r4 (by omega);obtain⟨b5,e5,g5,r5⟩:=w6 (x:=x.aq) (a:=b4) (by omega) (by omega) h.2.2.2.2.2;rw [e5,Aa];by_cases q5:b5<0
 ·rw [if_pos (by simpa using q5)];exact⟨-1,rfl,by omega,by omega⟩
 rw [if_neg (by simpa using q5)];have s5:=r5 (by omega);exact⟨b5,rfl,by omega,fun _=>by omega⟩
theorem OB {l:List Av} (h:Fu l≤2000000):Small l:=by
 unfold Fu at h;have:EO l=(l.map (fun x:Af=>x.length)).sum:=by
  clear h
  induction l with
  |nil=>rfl
  |cons x l ih=>rw [EO,List.map_cons,List.sum_cons,ih]
 exact⟨by omega,by omega⟩
theorem dK {l:List Av} (h:Fu l≤2000000):Jc l:=⟨(OB h).1,(OB h).each⟩
theorem zyi {t:Ai} (h:Fi t≤2000000):Df t:=by
 unfold Fi I1 at h;have hs:Small t.ak:=OB (by omega);exact⟨by omega,hs.1,hs.each,by omega,fun x hx=>by
  have:=BX (tot:=Gx) hx;unfold Gx at this;have h2:(t.ae.map Gx).sum≤2000000:=by omega
  unfold Gx at h2;omega⟩
theorem zxu {l:List A7} (h:Ig l≤2000000):XP l:=by
 unfold Ig at h;exact⟨by omega,fun w hw=>by
  have:=BX (tot:=GX) hw;have h2:GX w≤2000000:=by omega
  unfold GX at h2;omega⟩
theorem zvX {r:Dz} (h:Io r≤2000000):Xl r:=by unfold Io at h;exact⟨dK (by omega),zxu (by omega)⟩
theorem zvF {l:List BT} (h:Ih l≤2000000):So l:=by
 unfold Ih at h;exact⟨by omega,fun e he=>zvX (by
  have:=BX (tot:=Gp) he;have h2:Gp e≤2000000:=by omega
  exact h2)⟩
theorem zyg {g:BH} (h:FZ g≤2000000):Xy g:=by
 unfold FZ IP at h;exact⟨by omega,fun r hr=>zvF (by
  have:=BX (tot:=Gm) hr;have h2:Gm r≤2000000:=by omega
  exact h2)⟩
theorem zxt {l:List AU} (h:Fh l≤2000000):XB l:=by
 unfold Fh at h;exact⟨by omega,fun x hx=>by
  have:=BX (tot:=Ht) hx;have h2:Ht x≤2000000:=by omega
  exact h2⟩
theorem zvW {l:List Ar} (h:Il l≤2000000):Xm l:=by
 unfold Il at h;exact⟨by omega,fun x hx=>by
  have:=BX (tot:=G5) hx;have h2:G5 x≤2000000:=by omega
  unfold G5 at h2;exact⟨by omega,by omega⟩⟩
theorem mS {l:List BA} (h:Hv l≤2000000):S7 l:=by
 unfold Hv at h;exact⟨by omega,fun x hx=>by
  have:=BX (tot:=G1) hx;have h2:G1 x≤2000000:=by omega
  unfold G1 at h2;exact⟨by omega,by omega⟩⟩
theorem zxE {t:B7} (h:EE t≤2000000):Xz t:=by unfold EE Hu at h;exact⟨zvW (by omega),mS (by omega),by omega⟩
theorem zuq {l:BK} (h:Fg l≤2000000):Xd l:=by unfold Fg at h;exact⟨dK (by omega),mS (by omega)⟩
theorem zxV {w:By} (h:Ee w≤2000000):XI w:=by
 unfold Ee K6 IT IX Hu IM IN at h;exact{
  ko:=dK (by omega)
  l0:=by omega
  group:=fun g hg=>zyg (by have:=BX (tot:=FZ) hg;omega)
  mf:=fun l hl=>zxt (by have:=BX (tot:=Fh) hl;omega)
  mc:=by omega
  lp:=by omega
  m6:=by omega
  na:=fun t ht=>zxE (by have:=BX (tot:=EE) ht;omega)
  looks:=by omega
  look:=fun l hl=>zuq (by have:=BX (tot:=Fg) hl;omega)}
theorem zwu {j:Cj} (h:Fj j≤2000000):pV j:=by unfold Fj IW I5 at h;exact⟨⟨OB (by omega),OB (by omega)⟩,OB (by omega)⟩
theorem zvp {a:Cz} (h:F0 a≤2000000):Mt a:=by
 unfold F0 IY Hu IQ at h;exact{
  name:=by omega
  ways:=fun t ht=>zyi (by have:=BX (tot:=Fi) ht;omega)
  since:=by omega
  nf:=by omega
  nh:=fun j hj=>zwu (by have:=BX (tot:=Fj) hj;omega)
  world:=zxV (by omega)}
theorem zo9 (a0:Cz) (h0:gN a0):Uk a0=some true:=by
 unfold Uk;obtain⟨b0,e0,g0,r0⟩:=yI (x:=a0) (a:=1048576) (by omega) (by omega) h0;rw [e0,Aa];by_cases q0:b0<0
 ·rw [if_pos (by simpa using q0)]
 rw [if_neg (by simpa using q0)];have s0:=r0 (by omega);have t0:F0 a0≤2000000:=by omega
 obtain⟨r,v1,v2⟩:=zyG (zvp t0);simp only [xU t0,v1,v2,yL t0,bne_self_eq_false,Aa,Bool.not_true,Bu,if_false]
end Go.Proofs.YtmbknelgbjlhnaaGreat
end

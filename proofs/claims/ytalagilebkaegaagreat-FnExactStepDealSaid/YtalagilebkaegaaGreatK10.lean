/- Parts of a proof, joined: NSX, NFG, NFH, NFK, NVA, NVB, NVC, NVD, NVE, NVH, NVI, QLL, QLM, QE. -/
import Derived.Test.YtalagilebkaegaaGreatK9
set_option linter.unusedVariables false
set_option linter.unusedSimpArgs false
namespace Go.Proofs.YtalagilebkaegaaGreat
open Go.RowKit
section
set_option maxRecDepth 100000
set_option maxHeartbeats 1000000
set_option maxHeartbeats 2000000
theorem zyl{h:Ax}(hh:HG h):X2 h=some h:=by obtain⟨h1,h2,_⟩:=hh;unfold X2;rw[SG (by omega),Aa,Ba (by simp only[List.length_nil];omega)]
theorem zY{s:Aj}(h:WS s):U9 s=some s:=by
 have hT:=h.cw;have hf:=h.ek;unfold U9;rw[zzB h.cells,Aa,Ba (by simp only[List.length_nil];omega)];refine((FC (xs:=s.ae) (body:=λz:Int × List Ax=>Ri s s.aj z.1 z.2) (λi z=>(i,z)) (λo c=>o++ [c]) (λo=>some (⟨s.aq,s.aj,o,s.ao⟩:Aj)) (λi o=>o.length=i)
  (λi hi o ho=>by refine⟨?_,by simp[ho]⟩;show Ri s s.aj (i:Int) o=_;unfold Ri;rw[if_pos (by simpa using hi),AP hi,Aa,zyl (h.held _ (AF hi)).1,Aa,Ba (by simp only[Bk];omega),BA (by omega)])
  (λo ho=>by show Ri s s.aj (s.ae.length:Int) o=_;unfold Ri;rw[if_neg (by simp)]) (s:=[]) rfl).1).trans ?_
 have e:=foldl_map (λc:Ax=>c) s.ae [];simp only[List.map_id',List.nil_append]at e;rw[e]
theorem zCB{s:Aj}{r:Bu}(h:WS s)(hr:Ik r):∃x,Yc s r=some (x,(DA s r).isSome)/\ ∀s',DA s r=some s'->x=s':=by
 have hf:=h.ek;have hT:=h.cw;have hrl:=hr.reads;have qZ:=hr.writes;unfold Yc;rw[zY h,Aa,ZG (by omega),Aa,xR (by omega),Aa];by_cases h4:r.bb=4
 ·rw[if_pos (by simpa using h4)];unfold DA;rw[if_pos h4];refine⟨⟨r.af,s.aj,s.ae,s.ao⟩,?_,?_⟩
  ·by_cases B5:s.aq<r.af
   ·rw[if_pos B5];simp[B5]
   ·rw[if_neg B5];simp[B5]
  ·intro s' e;split at e
   ·cases e;rfl
   ·cases e
 ·rw[if_neg (by simpa using h4)];by_cases Ex:(Fp s r.al).isSome=true
  ·have ea:DA s r=none:=by unfold DA;rw[if_neg h4,if_pos Ex]
   rw[ea];cases hq:Fp s r.al with
   |none=>rw[hq]at Ex;cases Ex
   |some x=>exact⟨s,rfl,λs' e=>by cases e⟩
  ·have P9:Fp s r.al=none:=by cases hq:Fp s r.al with|none=>rfl|some x=>rw[hq]at Ex;exact absurd rfl Ex
   have hn:=Zw Ex;rw[P9];simp only[AW,if_false];by_cases h1:r.bb=1
   ·rw[if_pos (by simpa using h1),SG (by omega),Aa,Ba (by simp only[List.length_nil];omega)];obtain⟨l,I2,JG⟩:=zyH (l:=s.ae) (h:=Mg r) (by omega) h.dh;rw[show(⟨r.al,r.af,r.bq,r.ak,r.ab⟩:Ax)=Mg r from rfl,I2,Aa];by_cases Gb:(CY s r.al).isSome=true
    ·have ea:DA s r=none:=by unfold DA;rw[if_neg h4,if_neg Ex,if_pos h1,if_pos Gb]
     rw[ea];cases hq:CY s r.al with
     |none=>rw[hq]at Gb;cases Gb
     |some x=>exact⟨_,rfl,λs' e=>by cases e⟩
    ·have qF:CY s r.al=none:=by cases hq:CY s r.al with|none=>rfl|some x=>rw[hq]at Gb;exact absurd rfl Gb
     have ea:DA s r=if r.af<=s.aq then none else if KZ s r.ak r.ab=true then some ⟨r.af,s.aj,Eu hk (Mg r) s.ae,s.ao⟩else none:=by unfold DA;rw[if_neg h4,if_neg Ex,if_pos h1,if_neg Gb]
     rw[ea,qF];simp only[AW,if_false];by_cases FO:r.af<=s.aq
     ·rw[if_neg (by simpa using FO),if_pos FO];exact⟨_,rfl,λs' e=>by cases e⟩
     ·rw[if_pos (by simpa using FO),if_neg FO,zD0 h.cells hf (λy hy=>(h.held y hy).1) hr.reads hr.writes,Aa];cases Cz:KZ s r.ak r.ab with
      |false=>exact⟨_,rfl,λs' e=>by cases e⟩
      |true=>rw[JG (ZL Gb)];exact⟨_,rfl,λs' e=>by cases e;rfl⟩
   ·rw[if_neg (by simpa using h1)];obtain⟨tl,JR,Kw⟩:=zx0 (l:=s.ao) (h:=⟨r.al,r.bk,r.af⟩) (by omega) h.dn;have Kw:=Kw hn;by_cases hy:r.bk=true
    ·rw[if_pos hy];cases hq:CY s r.al with
     |none=>
      have ea:DA s r=none:=by unfold DA;rw[if_neg h4,if_neg Ex,if_neg h1,if_pos hy,hq]
      rw[ea];exact⟨_,rfl,λs' e=>by cases e⟩
     |some x=>
      have ea:DA s r=if r.af<x.af then none else match LA s.aj x.ab r.af with
       |none=>none
       |some o=>some ⟨if s.aq<r.af then r.af else s.aq,o,GB s.ae r.al,Mh s r⟩:=by unfold DA;rw[if_neg h4,if_neg Ex,if_neg h1,if_pos hy,hq]<;>rfl
      rw[ea];simp only[Bool.not_true,Bool.false_or];by_cases FO:r.af<x.af
      ·rw[if_pos (by simpa using FO),if_pos FO];exact⟨_,rfl,λs' e=>by cases e⟩
      ·rw[if_neg (by simpa using FO),if_neg FO,zDN h.cells (h.held x (List.mem_of_find?_eq_some hq)).2 (hr.time h1 h4 hy),Aa];unfold LA;cases ho:GF r.af s.aj x.ab with
       |none=>exact⟨_,rfl,λs' e=>by cases e⟩
       |some o=>
        cases hg:Eo o with
        |false=>simp only[hg,Bool.not_false,if_true];exact⟨_,rfl,λs' e=>by cases e⟩
        |true=>
         simp only[hg,Bool.not_true,AW,if_false,if_true];have TI:J7 s.aq r.af=some (if s.aq<r.af then r.af else s.aq):=by
          unfold J7;by_cases B5:s.aq<r.af
          ·rw[if_pos B5,if_neg (by simp;omega)]
          ·rw[if_neg B5];by_cases Ob:s.aq>r.af
           ·rw[if_pos (by simpa using Ob)]
           ·rw[if_neg (by simpa using Ob)];rw[show r.af=s.aq by omega]
         rw[TI,Aa,zM (by omega),Aa,JR,Aa,Kw];exact⟨_,rfl,λs' e=>by cases e;rfl⟩
    ·have ea:DA s r=some ⟨s.aq,s.aj,GB s.ae r.al,Mh s r⟩:=by unfold DA;rw[if_neg h4,if_neg Ex,if_neg h1,if_neg hy]
     rw[if_neg hy,ea,zM (by omega),Aa,JR,Aa,Kw];exact⟨_,rfl,λs' e=>by cases e;rfl⟩
theorem Hr{α β:Type}{xs:List α}{body:Int->Option (Int ⊕ Option β)}(p:α->Bool)(b:β)(fin:Option β)
  (hs:∀(i:Nat) (hi:i<xs.length),body i=some (if p xs[i]=true then .inl ((i+1:Nat):Int)else .inr (some b))) (he:body xs.length=some (.inr fin)):Av body 0=if xs.all p=true then fin else some b:=by
 have h1:=Vv (xs:=xs) (body:=body) (λi (_:Unit)=>i) (λx _=>some (if p x=true then .inl ()else .inr (some b))) (λ_=>fin)
  (λi hi s=>by rw[hs i hi];cases p xs[i]<;>rfl) (λ_=>he) ()
 exact h1.trans (zy5 p b (λx _ s=>by cases p x<;>rfl) ())
theorem Kf{α:Type}(l:List α)(i:Nat):A3 l 0 (i:Int)=l.take i:=by simp[A3]
def Mm(s:Aj)(i:Nat):Bool:=match s.ae[i]? with
 |some h=>CB (D4 h)&&(decide (h.af<=s.aq)&&(!(s.ae.take i).any (λg=>CQ g h.ak h.ab)&& !h.ab.any (λw=>decide (h.af<=Cg s.aj w.ah))))
 |none=>true
def LW(s:Aj):Bool:=(List.range s.ae.length).all (Mm s)&&Ie s.aj (Dj s.ae)
def GG(s:Aj)(c:Ai):Bool:=decide (Cg s.aj c.ah<=s.aq)
def ID(s:Aj)(t:Bh):Bool:=(if t.bk=true then BH t.af 1 s.aq else t.af==0)&& !(CY s t.al).isSome
def PI(s:Aj):Bool:=BH s.aq 0 100000&&(Eo s.aj&&(LW s&&(s.aj.all (GG s)&&s.ao.all (ID s))))
theorem Py{s:Aj}{i:Nat}(hi:i<s.ae.length):Mm s i=(CB (D4 s.ae[i])&&(decide (s.ae[i].af<=s.aq)&&(!(s.ae.take i).any (λg=>CQ g s.ae[i].ak s.ae[i].ab)&& !s.ae[i].ab.any (λw=>decide (s.ae[i].af<=Cg s.aj w.ah))))):=by unfold Mm;rw[Bg hi]
theorem Nu{α:Type}{l:List α}{i:Nat}(hi:i<l.length)(h0:0<i)(hl:l.length<=2000000):An l (IntKind.i64.wrap ((i:Int)-1))=some l[i-1]:=by rw[CM (n:=(i:Int)-1) (by omega) (by omega),show(i:Int)-1=((i-1:Nat):Int) by omega,AP (by omega)]
theorem zAC{s:Aj}(h:WS s)(hs:∀x∈s.ae,Gy (D4 x)):QG s=some (LW s):=by
 have Lg:=h.ek;unfold QG;rw[Kd (n:=s.ae.length) (body:=λi=>J6 s i) (Mm s) false (Uz s) (λi hi=> ?_) (by show J6 s (s.ae.length:Int)=_;unfold J6;rw[if_neg (by simp)])]
 ·unfold Uz LW;rw[oP h.cells (by omega) λx hx=>(h.held x hx).1,Aa,show decide (s.ae.length<=12)=true by simpa using Lg,Bool.true_and];cases(List.range s.ae.length).all (Mm s)<;>rfl
 ·have hx:=AF hi;obtain⟨⟨o1,o2,o3⟩,o4⟩:=h.held _ hx;have e1:E0 (A3 s.ae 0 (i:Int)) (λy0_=>OQ y0_ s.ae[i])=some ((s.ae.take i).any λg=>CQ g s.ae[i].ak s.ae[i].ab):=by
   rw[Kf];refine LY _ (λg hg=> ?_) (by rw[Au];omega);have hg:=Br hg;obtain⟨⟨g1,g2,g3⟩,_⟩:=h.held _ hg;unfold OQ RP CQ;rw[RX (by omega) (by omega) (by omega) g3,Aa,RX (by omega) (by omega) (by omega) o3,Aa];cases B4 s.ae[i].ab g.ak g.ab<;>cases B4 g.ab s.ae[i].ak s.ae[i].ab<;>rfl
  have e2:E0 s.ae[i].ab (λy0_=>OP y0_ s.ae[i] s)=some (s.ae[i].ab.any λw=>decide (s.ae[i].af<=Cg s.aj w.ah)):=by refine LY _ (λw _=> ?_) (by omega);unfold OP;rw[V4 (n:=24) (by omega) h.cells];rfl
  show J6 s (i:Int)=_;unfold J6;rw[Py hi,if_pos (by simpa using hi),AP hi,Aa,show Rw s.ae[i]=some (D4 s.ae[i])from rfl,Aa,oK (hs _ hx),Aa];have rq:0<=(0:Int)/\(0:Int)<=(i:Int)/\(i:Int)<=(s.ae.length:Int):=by omega
  rw[e1,e2,BA (by omega)];generalize (s.ae.take i).any (λg=>CQ g s.ae[i].ak s.ae[i].ab)=A;generalize s.ae[i].ab.any (λw=>decide (s.ae[i].af<=Cg s.aj w.ah))=B;by_cases hp:0<i
  ·rw[if_pos (by simp;omega),Nu hi hp (by omega)];have hr:=h.dh.mono hi (show i-1<i by omega);have hr:s.ae[i-1].al<s.ae[i].al:=hr;cases CB (D4 s.ae[i])with
   |false=>rfl
   |true=>
    rw[if_pos rfl];by_cases ht:s.ae[i].af<=s.aq
    ·rw[if_neg (by simp;omega),Aa,if_neg (by simp;omega),Ba rq,Aa,Aa];cases A<;>cases B<;>simp[ht]
    ·rw[if_pos (by simp;omega)];simp[ht]
  ·rw[if_neg (by simp;omega)];cases CB (D4 s.ae[i])with
   |false=>rfl
   |true=>
    by_cases ht:s.ae[i].af<=s.aq
    ·rw[if_neg (by simp;omega),Ba rq,Aa,Aa];cases A<;>cases B<;>simp[ht]
    ·rw[if_pos (by simp;omega)];simp[ht]
theorem zzi{s:Aj}(h:WS s)(hs:∀x∈s.ae,Gy (D4 x)):Ry s=some (LW s):=by
 have Lg:=h.ek;unfold Ry;rw[Kd (n:=s.ae.length) (body:=λi=>J8 s i) (Mm s) false (US s) (λi hi=> ?_) (by show J8 s (s.ae.length:Int)=_;unfold J8;rw[if_neg (by simp)])]
 ·unfold US LW;rw[show decide ((s.ae.length:Int)<=12)=true from decide_eq_true (by omega),oS h.cells (by omega) (λx hx=>(h.held x hx).1) (by simp),Aa,List.nil_append];cases(List.range s.ae.length).all (Mm s)<;>rfl
 ·have hx:=AF hi;obtain⟨⟨o1,o2,o3⟩,o4⟩:=h.held _ hx;have t5:KF s (i:Int) s.ae[i]=some (if(s.ae[i].ab.all λw=> !decide (s.ae[i].af<=Cg s.aj w.ah))=true then .inl ((i+1:Nat):Int)else .inr (some false)):=by
   unfold KF;rw[Hr (xs:=s.ae[i].ab) (body:=λj=>J1 s (i:Int) s.ae[i] j) (λw=> !decide (s.ae[i].af<=Cg s.aj w.ah)) (.inr (some false)) (UP (i:Int)) (λj hj=>by
    show J1 s (i:Int) s.ae[i] (j:Int)=_;unfold J1;rw[if_pos (by simpa using hj),AP hj,Aa,Sn (n:=24) (by omega) h.cells,Aa,BA (by omega)];by_cases hq:s.ae[i].af<=Cg s.aj (s.ae[i].ab[j]).ah
    ·rw[if_pos (by simpa using hq)];simp[hq]
    ·rw[if_neg (by simpa using hq)];simp[hq]) (by
    show J1 s (i:Int) s.ae[i] (s.ae[i].ab.length:Int)=_;unfold J1;rw[if_neg (by simp)])]
   unfold UP;rw[BA (by omega)];split<;>rfl
  have t9:Rl s (i:Int) s.ae[i]=some (if(s.ae[i].ab.all λw=> !decide (s.ae[i].af<=Cg s.aj w.ah))=true then .inl ((i+1:Nat):Int)else .inr (some false)):=by
   unfold Rl;rw[Hr (xs:=s.ae[i].ab) (body:=λj=>Rk s (i:Int) s.ae[i] j) (λw=> !decide (s.ae[i].af<=Cg s.aj w.ah)) (.inr (some false)) (iI (i:Int)) (λj hj=>by
    show Rk s (i:Int) s.ae[i] (j:Int)=_;unfold Rk;rw[if_pos (by simpa using hj),AP hj,Aa,Sn (n:=24) (by omega) h.cells,Aa,BA (by omega)];by_cases hq:s.ae[i].af<=Cg s.aj (s.ae[i].ab[j]).ah
    ·rw[if_pos (by simpa using hq)];simp[hq]
    ·rw[if_neg (by simpa using hq)];simp[hq]) (by
    show Rk s (i:Int) s.ae[i] (s.ae[i].ab.length:Int)=_;unfold Rk;rw[if_neg (by simp)])]
   unfold iI;rw[BA (by omega)];split<;>rfl
  have t6:Av (λj:Int=>Jb s (i:Int) s.ae[i] j) 0=if((s.ae.take i).all λg=> !CQ g s.ae[i].ak s.ae[i].ab)=true then KF s (i:Int) s.ae[i]else some (.inr (some false)):=by
   refine Hr (xs:=s.ae.take i) (λg=> !CQ g s.ae[i].ak s.ae[i].ab) (.inr (some false)) (KF s (i:Int) s.ae[i]) (λj hj=> ?_) ?_
   ·have hg:=Br (AF hj);rw[Au]at hj;show Jb s (i:Int) s.ae[i] (j:Int)=_;unfold Jb;rw[Kf,if_pos (by rw[Au];simp;omega),AP (by rw[Au];omega),Aa,ZM (h.held _ hg).1 (by omega) (by omega),Aa,BA (by omega)];cases CQ (s.ae.take i)[j] s.ae[i].ak s.ae[i].ab<;>rfl
   ·show Jb s (i:Int) s.ae[i] ((s.ae.take i).length:Int)=_;unfold Jb;rw[Kf,if_neg (by simp)]
  have t10:Av (λj:Int=>OT s (i:Int) s.ae[i] j) 0=if((s.ae.take i).all λg=> !CQ g s.ae[i].ak s.ae[i].ab)=true then Rl s (i:Int) s.ae[i]else some (.inr (some false)):=by
   refine Hr (xs:=s.ae.take i) (λg=> !CQ g s.ae[i].ak s.ae[i].ab) (.inr (some false)) (Rl s (i:Int) s.ae[i]) (λj hj=> ?_) ?_
   ·have hg:=Br (AF hj);rw[Au]at hj;show OT s (i:Int) s.ae[i] (j:Int)=_;unfold OT;rw[Kf,if_pos (by rw[Au];simp;omega),AP (by rw[Au];omega),Aa,ZM (h.held _ hg).1 (by omega) (by omega),Aa,BA (by omega)];cases CQ (s.ae.take i)[j] s.ae[i].ak s.ae[i].ab<;>rfl
   ·show OT s (i:Int) s.ae[i] ((s.ae.take i).length:Int)=_;unfold OT;rw[Kf,if_neg (by simp)]
  show J8 s (i:Int)=_;unfold J8;rw[Py hi,if_pos (by simpa using hi),AP hi,Aa,show XY s.ae[i]=some (D4 s.ae[i])from rfl,Aa,aA (hs _ hx),Aa];have rq:0<=(0:Int)/\(0:Int)<=(i:Int)/\(i:Int)<=(s.ae.length:Int):=by omega
  rw[t6,t10,t5,t9,List.not_any_eq_all_not,List.not_any_eq_all_not];generalize ((s.ae.take i).all λg=> !CQ g s.ae[i].ak s.ae[i].ab)=A;generalize (s.ae[i].ab.all λw=> !decide (s.ae[i].af<=Cg s.aj w.ah))=B;by_cases hp:0<i
  ·rw[if_pos (by simp;omega),Nu hi hp (by omega)];have hr:=h.dh.mono hi (show i-1<i by omega);have hr:s.ae[i-1].al<s.ae[i].al:=hr;cases CB (D4 s.ae[i])with
   |false=>rfl
   |true=>
    rw[if_pos rfl];by_cases ht:s.ae[i].af<=s.aq
    ·rw[if_neg (by simp;omega),Aa,if_neg (by simp;omega),Ba rq];cases A<;>cases B<;>simp[ht]
    ·rw[if_pos (by simp;omega)];simp[ht]
  ·rw[if_neg (by simp;omega)];cases CB (D4 s.ae[i])with
   |false=>rfl
   |true=>
    by_cases ht:s.ae[i].af<=s.aq
    ·rw[if_neg (by simp;omega),Ba rq];cases A<;>cases B<;>simp[ht]
    ·rw[if_pos (by simp;omega)];simp[ht]
theorem zFV{s:Aj}(h:WS s)(hc:Pz s.aj)(hs:∀x∈s.ae,Gy (D4 x)):Rj s=some (PI s):=by
 have hl:=h.cw;have Lg:=h.ek;have Aw:=h.cells.2.1;unfold Rj PI;rw[show RN s.aq=some (BH s.aq 0 100000)from rfl,Aa];cases BH s.aq 0 100000 with
 |false=>rfl
 |true=>
  rw[if_pos rfl,oE hc,Aa];cases Eo s.aj with
  |false=>rfl
  |true=>
   rw[if_pos rfl,zAC h hs,Aa];cases LW s with
   |false=>rfl
   |true=>
    rw[if_neg (by simp;omega),Hr (xs:=s.aj) (body:=λi=>J4 s i) (GG s) false (QZ s) (λi hi=> ?_) (by show J4 s (s.aj.length:Int)=_;unfold J4;rw[if_neg (by simp)])]
    ·unfold QZ;rw[Hr (xs:=s.ao) (body:=λi=>J5 s i) (ID s) false (some true) (λi hi=> ?_) (by
      show J5 s (s.ao.length:Int)=_;unfold J5;rw[if_neg (by simp)])]
     ·cases s.aj.all (GG s)<;>cases s.ao.all (ID s)<;>rfl
     ·show J5 s (i:Int)=_;unfold J5 ID;have hb:=h.told _ (AF hi);have tx:Na s.ao[i].al=some true:=by
       show some (BH s.ao[i].al 1 60)=_;rw[Fm.2 hb]
      rw[if_pos (by simpa using hi),AP hi,Aa,tx,VK (s:=s) (t:=s.ao[i].al) (by omega) h.dh,Pn,BA (by omega)];simp only[Aa];generalize (CY s s.ao[i].al).isSome=H;generalize BH s.ao[i].af 1 s.aq=V;generalize (s.ao[i].af==0)=T;by_cases hp:0<i
      ·have hr:=h.dn.mono hi (show i-1<i by omega);have hr:s.ao[i-1].al<s.ao[i].al:=hr;have e0:decide (s.ao[i].al<=s.ao[i-1].al)=false:=by simp;omega
       have e1:decide ((i:Int)>0)=true:=by simp;omega
       rw[Nu hi hp (by omega)];simp only[Aa,e0,e1,if_true,AW,if_false];cases s.ao[i].bk<;>cases V<;>cases T<;>cases H<;>rfl
      ·have e1:decide ((i:Int)>0)=false:=by simp;omega
       simp only[e1,AW,if_false];cases s.ao[i].bk<;>cases V<;>cases T<;>cases H<;>rfl
    ·show J4 s (i:Int)=_;unfold J4 GG;rw[if_pos (by simpa using hi),AP hi,Aa,V4 (n:=24) (by omega) h.cells,Aa,BA (by omega)];by_cases hq:Cg s.aj (s.aj[i]).ah<=s.aq
     ·rw[if_neg (by simp;omega)];simp[hq]
     ·rw[if_pos (by simp;omega)];simp[hq]
theorem zBi{s:Aj}(h:WS s)(hc:Pz s.aj)(hs:∀x∈s.ae,Gy (D4 x)):LJ s=some (PI s):=by
 have hl:=h.cw;have Lg:=h.ek;have Aw:=h.cells.2.1;unfold LJ PI;rw[show Pa s.aq=some (BH s.aq 0 100000)from rfl,Aa];cases BH s.aq 0 100000 with
 |false=>rfl
 |true=>
  rw[if_pos rfl,nQ hc,Aa];cases Eo s.aj with
  |false=>rfl
  |true=>
   rw[if_pos rfl,zzi h hs,Aa];cases LW s with
   |false=>rfl
   |true=>
    rw[if_neg (by simp;omega),Hr (xs:=s.aj) (body:=λi=>J3 s i) (GG s) false (Rr s) (λi hi=> ?_) (by show J3 s (s.aj.length:Int)=_;unfold J3;rw[if_neg (by simp)])]
    ·unfold Rr;rw[Hr (xs:=s.ao) (body:=λi=>J2 s i) (ID s) false (some true) (λi hi=> ?_) (by
      show J2 s (s.ao.length:Int)=_;unfold J2;rw[if_neg (by simp)])]
     ·cases s.aj.all (GG s)<;>cases s.ao.all (ID s)<;>rfl
     ·show J2 s (i:Int)=_;unfold J2 ID;have hb:=h.told _ (AF hi);have tx:BH s.ao[i].al 1 60=true:=Fm.2 hb;obtain⟨P,p1,p2⟩:∃P,J9 s s.ao[i].al=some P/\P.2=(CY s s.ao[i].al).isSome:=by
       rw[ZG (by omega)];cases CY s s.ao[i].al with
       |none=>exact⟨_,rfl,rfl⟩
       |some x=>exact⟨_,rfl,rfl⟩
      rw[if_pos (by simpa using hi),AP hi,Aa,p1,BA (by omega)];simp only[Nw,Aa,tx,p2,bne];generalize (CY s s.ao[i].al).isSome=H;generalize BH s.ao[i].af 1 s.aq=V;generalize (s.ao[i].af==0)=T;by_cases hp:0<i
      ·have hr:=h.dn.mono hi (show i-1<i by omega);have hr:s.ao[i-1].al<s.ao[i].al:=hr;have e0:decide (s.ao[i-1].al>=s.ao[i].al)=false:=by simp;omega
       have e1:decide ((i:Int)>0)=true:=by simp;omega
       rw[Nu hi hp (by omega)];simp only[Aa,e0,e1,if_true,AW,if_false];cases s.ao[i].bk<;>cases V<;>cases T<;>cases H<;>rfl
      ·have e1:decide ((i:Int)>0)=false:=by simp;omega
       simp only[e1,AW,if_false];cases s.ao[i].bk<;>cases V<;>cases T<;>cases H<;>rfl
    ·show J3 s (i:Int)=_;unfold J3 GG;rw[if_pos (by simpa using hi),AP hi,Aa,Sn (n:=24) (by omega) h.cells,Aa,BA (by omega)];by_cases hq:Cg s.aj (s.aj[i]).ah<=s.aq
     ·rw[if_neg (by simp;omega)];simp[hq]
     ·rw[if_pos (by simp;omega)];simp[hq]
theorem yB{l:List Ai}{k k':Ap}{v:BE}(hr:G3 l):Es (Ii l k v) k'=if k'=k then some ⟨k,Kl l k++ [v]⟩else Es l k':=by
 have CA:G3 (Ii l k v):=Vw hr;by_cases e:k'=k
 ·rw[if_pos e];exact VH CA ((Nk (key:=ck) hr _).2 (.inl rfl)) e.symm
 ·rw[if_neg e];cases h:Es l k' with
  |some c=>obtain⟨h1,h2⟩:=Zu h;exact VH CA ((Nk (key:=ck) hr c).2 (.inr ⟨h1,by show c.ah≠k;rw[h2];exact e⟩)) h2
  |none=>
   unfold Es;rw[List.find?_eq_none];intro c hc;rcases(Nk (key:=ck) hr c).1 hc with q|⟨q,_⟩
   ·rw[q];simpa using λh=>e h.symm
   ·exact List.find?_eq_none.1 h c q
theorem ZC{l:List Ai}{k:Ap}{v:BE}(hr:G3 l):G3 (Ii l k v):=Vw hr
theorem zzS{l:List Ai}{k k':Ap}{v:BE}(hr:G3 l):Cg (Ii l k v) k'=if k'=k then v.af else Cg l k':=by
 unfold Cg;rw[yB hr];by_cases e:k'=k
 ·rw[if_pos e,if_pos e];show Ul ⟨k,Kl l k++ [v]⟩=_;unfold Ul;simp
 ·rw[if_neg e,if_neg e]
theorem ZS{t:Int}{l o:List Ai}{w:Am}{ws:List Am}(h:GF t l (w::ws)=some o):GF t (Ii l w.ah ⟨t,w.bg,w.bf⟩) ws=some o:=by
 unfold GF at h;rw[List.foldlM_cons]at h;unfold HB at h;by_cases ht:t<=Cg l w.ah
 ·rw[if_pos ht]at h;cases h
 ·rw[if_neg ht]at h;exact h
theorem zzq{t:Int}{l o:List Ai}(h:GF t l []=some o):o=l:=by unfold GF at h;rw[List.foldlM_nil]at h;cases h;rfl
theorem ZF{t:Int}{k:Ap}:∀{ws:List Am} {l o:List Ai},G3 l->GF t l ws=some o->(∀w∈ws,w.ah≠k)->Es o k=Es l k
 | [],l,o,_,h,_=>by rw[zzq h]
 |w::ws,l,o,hr,h,hn=>by rw[ZF (ZC hr) (ZS h) λx hx=>hn x (by simp[hx]),yB hr,if_neg λe=>hn w (by simp) e.symm]
theorem zF{t:Int}{k:Ap}:∀{ws:List Am} {l o:List Ai},G3 l->GF t l ws=some o->(∃w∈ws,w.ah=k)->Cg o k=t
 | [],l,o,_,_,hk=>by obtain⟨w,hw,_⟩:=hk;simp at hw
 |w::ws,l,o,hr,h,hk=>by
  by_cases hm:∃x∈ws,x.ah=k
  ·exact zF (ZC hr) (ZS h) hm
  ·have hn:∀x∈ws,x.ah≠k:=λx hx e=>hm ⟨x,hx,e⟩;obtain⟨x,hx,e⟩:=hk;rcases Ae.1 hx with q|q
   ·have h1:=ZF (k:=k) (ZC hr) (ZS h) hn;have h2:=zzS (k:=w.ah) (k':=k) (v:=⟨t,w.bg,w.bf⟩) hr;unfold Cg at h2 ⊢;rw[h1,h2,if_pos (by rw[<-e,q])]
   ·exact absurd e (hn x q)
theorem zU{t:Int}:∀{ws:List Am} {l o:List Ai},G3 l->GF t l ws=some o-> ∀c∈o,(∃d∈l,d.ah=c.ah)\/ ∃w∈ws,w.ah=c.ah
 | [],l,o,_,h,c,hc=>by rw[zzq h]at hc;exact .inl ⟨c,hc,rfl⟩
 |w::ws,l,o,hr,h,c,hc=>by
  rcases zU (ZC hr) (ZS h) c hc with⟨d,hd,e⟩|⟨x,hx,e⟩
  ·rcases(Nk (key:=ck) hr d).1 hd with q|⟨q,_⟩
   ·exact .inr ⟨w,by simp,by rw[<-e,q]⟩
   ·exact .inl ⟨d,q,e⟩
  ·exact .inr ⟨x,by simp[hx],e⟩
theorem zAp{l:List Ai}{k:Ap}(h:∀c∈l,c.ah≠k):Cg l k=0:=by unfold Cg Es;rw[List.find?_eq_none.2 λc hc=>by simpa using h c hc]
structure Jn(s:Aj):Prop where
 floor:0<=s.aq/\s.aq<=100000
 cells:Eo s.aj=true
 single:∀h∈s.ae,CB (D4 h)=true/\(h.af<=s.aq/\ ∀w∈h.ab,Cg s.aj w.ah<h.af)
 apart:s.ae.Pairwise λg h=>CQ g h.ak h.ab=false
 room:Ie s.aj (Dj s.ae)=true
 last:∀c∈s.aj,Cg s.aj c.ah<=s.aq
 told:∀t∈s.ao,(if t.bk=true then 1<=t.af/\t.af<=s.aq else t.af=0)/\ ∀h∈s.ae,hk h≠t.al
theorem rO{s:Aj}{t:Bh}:ID s t=true↔(if t.bk=true then 1<=t.af/\t.af<=s.aq else t.af=0)/\ ∀h∈s.ae,hk h≠t.al:=by
 unfold ID;rw[Ab];refine and_congr ?_ ?_
 ·cases t.bk
  ·simp
  ·simp only[if_true];exact Fm
 ·unfold CY;rw[Bf,Option.isSome_eq_false_iff,Option.isNone_iff_eq_none,List.find?_eq_none];simp
theorem xM{s:Aj}:PI s=true↔Jn s:=by
 unfold PI LW;simp only[Ab,Bj];constructor
 ·rintro⟨h1,h2,⟨h3,h4⟩,h5,h6⟩;have hs:∀i (hi:i<s.ae.length),CB (D4 s.ae[i])=true/\(s.ae[i].af<=s.aq/\(∀g∈s.ae.take i,CQ g s.ae[i].ak s.ae[i].ab=false)/\ ∀w∈s.ae[i].ab,Cg s.aj w.ah<s.ae[i].af):=λi hi=>by
   have:=h3 i (List.mem_range.2 hi);rw[Py hi]at this;simp only[Ab,AR,Bf,List.any_eq_false]at this;obtain⟨a,b,c,d⟩:=this;exact⟨a,b,λg hg=>by simpa using c g hg,λw hw=>by have:=d w hw;omega⟩
  refine⟨Fm.1 h1,h2,λh hh=> ?_,?_,h4,λc hc=>by have:=h5 c hc;unfold GG at this;simpa using this,λt ht=>rO.1 (h6 t ht)⟩
  ·obtain⟨i,hi,rfl⟩:=List.mem_iff_getElem.1 hh;obtain⟨a,b,_,d⟩:=hs i hi;exact⟨a,b,d⟩
  ·rw[List.pairwise_iff_getElem];intro i j hi hj Ew;exact(hs j hj).2.2.1 _ (List.mem_iff_getElem.2 ⟨i,by rw[Au];omega,by rw[List.getElem_take]⟩)
 ·intro g;refine⟨Fm.2 g.floor,g.cells,⟨λi hi=> ?_,g.room⟩,λc hc=>by unfold GG;simpa using g.last c hc,λt ht=>rO.2 (g.told t ht)⟩;have hi:=List.mem_range.1 hi;rw[Py hi];obtain⟨a,b,d⟩:=g.single _ (AF hi);simp only[Ab,AR,Bf,List.any_eq_false];refine⟨a,b,λx hx=> ?_,λw hw=>by have:=d w hw;omega⟩;obtain⟨j,hj,e⟩:=List.mem_iff_getElem.1 hx;rw[Au]at hj;rw[List.getElem_take]at e;have:=List.pairwise_iff_getElem.1 g.apart j i (by omega) hi (by omega);rw[e]at this;simpa using this
theorem rT{α:Type}{key:α->Int}{R:α->α->Prop}(hs:∀a b,R a b->R b a){x:α}:∀{l:List α},l.Pairwise R->(∀y∈l,R y x)->(Eu key x l).Pairwise R
 | [],_,_=>by simp[Eu]
 |y::l,h,hx=>by
  have h':=List.pairwise_cons.1 h;unfold Eu;split
  ·exact List.pairwise_cons.2 ⟨λz hz=>hs _ _ (hx z hz),h⟩
  ·refine List.pairwise_cons.2 ⟨λz hz=> ?_,rT hs h'.2 λz hz=>hx z (by simp[hz])⟩;rcases Kg.1 hz with q|q
   ·rw[q];exact hx y (by simp)
   ·exact h'.1 z q
theorem zE5{α:Type}{R:α->α->Prop}(hs:∀a b,R a b->R b a){l:List α}(h:l.Pairwise R){a b:α}(ha:a∈l)(hb:b∈l)(hn:a≠b):R a b:=by
 obtain⟨i,hi,rfl⟩:=List.mem_iff_getElem.1 ha;obtain⟨j,hj,rfl⟩:=List.mem_iff_getElem.1 hb;rcases Nat.lt_trichotomy i j with q|q|q
 ·exact List.pairwise_iff_getElem.1 h i j hi hj q
 ·subst q;exact absurd rfl hn
 ·exact hs _ _ (List.pairwise_iff_getElem.1 h j i hj hi q)
theorem w6(g h:Ax):CQ g h.ak h.ab=CQ h g.ak g.ab:=Bool.or_comm _ _
theorem zx2{g h:Ax}(hc:CQ g h.ak h.ab=false){w x:Am}(hw:w∈h.ab)(hx:x∈g.ab):x.ah≠w.ah:=by intro e;unfold CQ at hc;rw[Bool.or_eq_false_iff]at hc;have h2:=hc.2;unfold B4 at h2;have h3:=List.any_eq_false.1 h2 w hw;rw[Bool.not_eq_true,Bool.or_eq_false_iff]at h3;have h4:=h3.1;unfold H8 at h4;have h5:=List.any_eq_false.1 h4 x hx;simp[e]at h5
theorem IH{hs:List Ax}{w:Am}:w∈Dj hs↔ ∃h∈hs,w∈h.ab:=List.mem_flatMap
theorem nE{l l':List Ai}{ws ws':List Am}(h:Ie l ws=true)(hf:∀w∈ws',Gz l' w=true-> ∃x∈ws,Gz l x=true)(hk:∀y∈FU l' ws',y∈FU l ws):Ie l' ws'=true:=by
 unfold Ie at*;simp only[Ab,Bf,List.any_eq_false,AR]at h ⊢;obtain⟨h1,h2⟩:=h;refine⟨λw hw hq=> ?_,Nat.le_trans ?_ h2⟩
 ·obtain⟨x,hx,e⟩:=hf w hw hq;exact h1 x hx e
 ·obtain⟨g1,g2,_⟩:=Ng (FU l ws) [] List.Pairwise.nil;obtain⟨g3,g4,_⟩:=Ng (FU l' ws') [] List.Pairwise.nil;have e:(FU l' ws').foldl (λo k=>CU k o) []=((FU l ws).foldl (λo k=>CU k o) []).filter λy=>decide (y∈FU l' ws'):=by
   refine DO.ext g3 (DO.filter g1 _) λy=> ?_;rw[List.mem_filter,g2,g4];simp only[List.not_mem_nil,or_false,AR];exact⟨λq=>⟨hk y q,q⟩,λq=>q.2⟩
  rw[e];exact List.length_filter_le _ _
theorem zEq{s:Aj}(g:Jn s)(k:Ap):Cg s.aj k<=s.aq:=by
 by_cases h:∃c∈s.aj,c.ah=k
 ·obtain⟨c,hc,e⟩:=h;rw[<-e];exact g.last c hc
 ·rw[zAp λc hc e=>h ⟨c,hc,e⟩];exact g.floor.1
theorem rR{r:Bu}(hr:CB r=true)(k:r.bb=1):(1<=r.af/\r.af<=100000)/\CB (D4 (Mg r))=true:=by unfold CB at hr;rw[if_pos k]at hr;simp only[Ab]at hr;obtain⟨a1,a2,a3,a4,a5,a6,a7,a8,_⟩:=hr;refine⟨Fm.1 a2,?_⟩;unfold CB;rw[if_pos (show(D4 (Mg r)).bb=1 from rfl)];simp only[Ab];exact⟨a1,a2,a3,a4,a5,a6,a7,a8,rfl⟩
theorem zBI{r:Bu}(hr:CB r=true)(k:r.bb=4):1<=r.af/\r.af<=100000:=by unfold CB at hr;rw[if_neg (by omega)]at hr;simp only[Ab]at hr;have h:=hr.2.2.2;rw[if_neg (by omega),if_pos k]at h;simp only[Ab]at h;exact Fm.1 h.2.1
theorem zDT{r:Bu}(hr:CB r=true)(k1:r.bb≠1)(k4:r.bb≠4):if r.bk=true then 1<=r.af/\r.af<=100000 else r.af=0:=by
 unfold CB at hr;rw[if_neg k1]at hr;simp only[Ab]at hr;have h:=hr.2.2.2;by_cases Mj:r.bb=2\/r.bb=3
 ·rw[if_pos Mj]at h;simp only[Ab]at h;have h:=h.2;cases hy:r.bk with
  |true=>rw[hy]at h;simp only[if_true]at h ⊢;exact Fm.1 h
  |false=>rw[hy]at h;simpa using h
 ·rw[if_neg Mj,if_neg k4]at h;cases h
theorem LQ{l:List Ax}{t:Int}{h:Ax}(hm:h∈GB l t):h∈l/\hk h≠t:=by obtain⟨a,b⟩:=List.mem_filter.1 hm;exact⟨a,by simpa using b⟩
theorem zCA{s s':Aj}{r:Bu}(h:WS s)(g:Jn s)(hr:CB r=true)(e:DA s r=some s'):Jn s':=by
 have hle:=zEq g;unfold DA at e;split at e
 ·rename_i k4;have hb:=zBI hr k4;split at e
  ·rename_i hf;cases e;refine⟨by dsimp only;omega,g.cells,λx hx=> ?_,g.apart,g.room,λc hc=>by have:=g.last c hc;dsimp only;omega,λt ht=> ?_⟩
   ·obtain⟨a,b,c⟩:=g.single x hx;exact⟨a,by dsimp only;omega,c⟩
   ·obtain⟨a,b⟩:=g.told t ht;refine⟨?_,b⟩;split
    ·rename_i hy;rw[if_pos hy]at a;dsimp only;omega
    ·rename_i hy;rw[if_neg hy]at a;exact a
  ·cases e
 ·rename_i k4;split at e
  ·cases e
  ·rename_i Ex;have P9:=Zw Ex;split at e
   ·rename_i k1;obtain⟨hb,hg⟩:=rR hr k1;split at e
    ·cases e
    ·rename_i Gb;have qF:=ZL Gb;split at e
     ·cases e
     ·rename_i hf;split at e
      ·rename_i EI;cases e;unfold KZ at EI;simp only[Ab,Bf,List.any_eq_false]at EI;obtain⟨f1,_,f3⟩:=EI;refine⟨by dsimp only;omega,g.cells,λx hx=> ?_,?_,?_,λc hc=>by have:=g.last c hc;dsimp only;omega,λt ht=> ?_⟩
       ·rcases Kg.1 hx with q|q
        ·rw[q];exact⟨hg,Int.le_refl _,λw _=>by have:=hle w.ah;show Cg s.aj w.ah<r.af;omega⟩
        ·obtain⟨a,b,c⟩:=g.single x q;exact⟨a,by dsimp only;omega,c⟩
       ·exact rT (λa b q=>by rw[w6];exact q) g.apart λy hy=>show CQ y r.ak r.ab=false by simpa using f1 y hy
       ·refine nE f3 (λw hw hq=>⟨w,?_,hq⟩) λy hy=> ?_
        ·obtain⟨x,hx,OE⟩:=IH.1 hw;rcases Kg.1 hx with q|q
         ·rw[q]at OE;exact Ac.2 (.inl OE)
         ·exact Ac.2 (.inr (IH.2 ⟨x,q,OE⟩))
        ·unfold FU at*;rcases Ac.1 hy with q|q
         ·exact Ac.2 (.inl q)
         ·obtain⟨w,hw,rfl⟩:=List.mem_map.1 q;refine Ac.2 (.inr (List.mem_map.2 ⟨w,?_,rfl⟩));obtain⟨x,hx,OE⟩:=IH.1 hw;rcases Kg.1 hx with q|q
          ·rw[q]at OE;exact Ac.2 (.inl OE)
          ·exact Ac.2 (.inr (IH.2 ⟨x,q,OE⟩))
       ·obtain⟨a,b⟩:=g.told t ht;refine⟨?_,λx hx=> ?_⟩
        ·split
         ·rename_i hy;rw[if_pos hy]at a;dsimp only;omega
         ·rename_i hy;rw[if_neg hy]at a;exact a
        ·rcases Kg.1 hx with q|q
         ·rw[q];exact λe=>P9 t ht e.symm
         ·exact b x q
      ·cases e
   ·rename_i k1;have hd:=zDT hr k1 k4;have apart':(GB s.ae r.al).Pairwise λg h=>CQ g h.ak h.ab=false:=List.Pairwise.filter _ g.apart;have newold:∀{fl:Int} {t:Bh},s.aq<=fl->(r.bk=true->r.af<=fl)->t∈Mh s r->(if t.bk=true then 1<=t.af/\t.af<=fl else t.af=0)/\ ∀h∈GB s.ae r.al,hk h≠t.al:=λ{fl t} B5 Ua ht=>by
     rcases Kg.1 ht with q|q
     ·rw[q];refine⟨?_,λx hx=>(LQ hx).2⟩;dsimp only;split
      ·rename_i hy;rw[if_pos hy]at hd;exact⟨hd.1,Ua hy⟩
      ·rename_i hy;rw[if_neg hy]at hd;exact hd
     ·obtain⟨a,b⟩:=g.told t q;refine⟨?_,λx hx=>b x (LQ hx).1⟩;split
      ·rename_i hy;rw[if_pos hy]at a;omega
      ·rename_i hy;rw[if_neg hy]at a;exact a
    split at e
    ·rename_i OF;rw[if_pos OF]at hd;split at e
     ·cases e
     ·rename_i x hx;have WX:=List.mem_of_find?_eq_some hx;have hxk:hk x=r.al:=by simpa using List.find?_some hx
      split at e
      ·cases e
      ·split at e
       ·cases e
       ·rename_i o ho;cases e;unfold LA at ho;split at ho
        ·rename_i p hp;split at ho
         ·rename_i Tx;cases ho;have WR:=h.cells.1;have gf:=g.floor;have far:∀y∈GB s.ae r.al,∀w∈y.ab,Es o w.ah=Es s.aj w.ah:=λy hy w hw=>by
           obtain⟨m1,m2⟩:=LQ hy;have BF:x≠y:=λe=>m2 (by rw[<-e];exact hxk);exact ZF WR hp λz hz=>zx2 (zE5 (λa b q=>by rw[w6];exact q) g.apart WX m1 BF) hw hz
          refine⟨by dsimp only;split<;>omega,Tx,λy hy=> ?_,apart',?_,λc hc=> ?_,λt ht=>newold (by dsimp only;split<;>omega) (λ_=>by dsimp only;split<;>omega) ht⟩
          ·obtain⟨m1,m2⟩:=LQ hy;obtain⟨a,b,c⟩:=g.single y m1;refine⟨a,by dsimp only;split<;>omega,λw hw=> ?_⟩;have:=c w hw;unfold Cg at this ⊢;rw[far y hy w hw];exact this
          ·refine nE g.room (λw hw hq=> ?_) λy hy=> ?_
           ·obtain⟨z,hz,MO⟩:=IH.1 hw;refine⟨w,IH.2 ⟨z,(LQ hz).1,MO⟩,?_⟩;unfold Gz at hq ⊢;rw[far z hz w MO]at hq;exact hq
           ·unfold FU at*;rcases Ac.1 hy with q|q
            ·obtain⟨c,hc,rfl⟩:=List.mem_map.1 q;rcases zU WR hp c hc with⟨d,hd,e⟩|⟨w,hw,e⟩
             ·exact Ac.2 (.inl (List.mem_map.2 ⟨d,hd,e⟩))
             ·exact Ac.2 (.inr (List.mem_map.2 ⟨w,IH.2 ⟨x,WX,hw⟩,e⟩))
            ·obtain⟨w,hw,rfl⟩:=List.mem_map.1 q;obtain⟨z,hz,MO⟩:=IH.1 hw;exact Ac.2 (.inr (List.mem_map.2 ⟨w,IH.2 ⟨z,(LQ hz).1,MO⟩,rfl⟩))
          ·by_cases hw:∃w∈x.ab,w.ah=c.ah
           ·show Cg o c.ah<=_;rw[zF WR hp hw];dsimp only;split<;>omega
           ·have e2:=ZF (k:=c.ah) WR hp λw hx e=>hw ⟨w,hx,e⟩;have e3:Cg o c.ah=Cg s.aj c.ah:=by unfold Cg;rw[e2]
            have:=hle c.ah;show Cg o c.ah<=_;rw[e3];dsimp only;split<;>omega
         ·cases ho
        ·cases ho
    ·rename_i OF;cases e;refine⟨g.floor,g.cells,λy hy=>g.single y (LQ hy).1,apart',?_,g.last,λt ht=>newold (Int.le_refl _) (λhy=>absurd hy OF) ht⟩;refine nE g.room (λw hw hq=> ?_) λy hy=> ?_
     ·obtain⟨z,hz,MO⟩:=IH.1 hw;exact⟨w,IH.2 ⟨z,(LQ hz).1,MO⟩,hq⟩
     ·unfold FU at*;rcases Ac.1 hy with q|q
      ·exact Ac.2 (.inl q)
      ·obtain⟨w,hw,rfl⟩:=List.mem_map.1 q;obtain⟨z,hz,MO⟩:=IH.1 hw;exact Ac.2 (.inr (List.mem_map.2 ⟨w,IH.2 ⟨z,(LQ hz).1,MO⟩,rfl⟩))
theorem zD{β:Type}{n:Nat}{body:Int->Option (Int ⊕ Option β)}(p:Nat->Bool)(b:β)(fin:Option β)
  (hs:∀i,i<n->(∀j,j<i->p j=true)->body (i:Int)=some (if p i=true then .inl ((i+1:Nat):Int)else .inr (some b)))
  (he:(∀j,j<n->p j=true)->body (n:Int)=some (.inr fin)):Av body 0=if(List.range n).all p=true then fin else some b:=by
 have key:∀(k q:Nat),q+k=n->(∀j,j<q->p j=true)->Av body (q:Int)=if(List.range' q k).all p=true then fin else some b:=by
  intro k
  induction k with
  |zero=>
   intro q hq hp;have:q=n:=by omega
   subst this;rw[D3,he hp];rfl
  |succ k ih=>
   intro q hq hp;rw[D3,hs q (by omega) hp,List.range'_succ,List.all_cons];cases hb:p q with
   |false=>simp
   |true=>
    have:=ih (q+1) (by omega) (λj hj=>by
     rcases Nat.lt_succ_iff_lt_or_eq.1 hj with h|h
     ·exact hp j h
     ·rw[h];exact hb)
    rw[if_pos rfl,Bool.true_and];exact this
 have:=key n 0 (by omega) (λj hj=>by omega);rw[List.range_eq_range'];exact this
def SM{α:Type}(key:α->Int)(l:List α):Nat->Bool
 |0=>true
 |j+1=>match l[j]?,l[j+1]? with
  |some a,some b=>decide (key a<key b)
  |_,_=>true
theorem Se{α:Type}{key:α->Int}{l:List α}{i:Nat}(hi:i<l.length)(h0:0<i):SM key l i=decide (key l[i-1]<key l[i]):=by
 cases i with
 |zero=>omega
 |succ j=>
  show(match l[j]?,l[j+1]? with
   |some a,some b=>decide (key a<key b)
   |_,_=>true)=_
  rw[Bg hi,Bg (show j<l.length by omega)];rfl
theorem Zr{α:Type}{key:α->Int}{l:List α}{i:Nat}(h0: ¬0<i):SM key l i=true:=by
 have:i=0:=by omega
 subst this;rfl
theorem yM{α:Type}{key:α->Int}{l:List α}(h:∀i,i<l.length->SM key l i=true):Ce key l:=by
 have aux:∀(d i:Nat) (hj:i+d+1<l.length),key (l[i]'(by omega))<key l[i+d+1]:=by
  intro d
  induction d with
  |zero=>intro i hj;have:=h (i+1) hj;rw[Se hj (by omega)]at this;simpa using this
  |succ d ih=>intro i hj;have h1:=ih i (by omega);have h2:=h (i+(d+1)+1) hj;rw[Se hj (by omega)]at h2;simp only[AR]at h2;exact Int.lt_trans h1 h2
 refine List.pairwise_iff_getElem.2 λi j hi hj Ew=> ?_;have:=aux (j-i-1) i (by omega);have e:i+(j-i-1)+1=j:=by omega
 simpa only[e]using this
theorem nS{l:List Ai}(hs:Pz l)(h:Eo l=true):Dw 24 l:=by unfold Eo at h;simp only[Ab,AR,Bj]at h;obtain⟨h1,h2,h3⟩:=h;refine⟨(R7 (r:=SI) λa b c p q=>FT p q).1 h3,by omega,λc hc=> ?_⟩;have h:=h2 c hc;unfold Gx IJ at h;simp only[Ab]at h;have h4:=Fm.1 h.2.1;refine⟨λe=> ?_,by omega,hs.2 c hc⟩;rw[e]at h4;simp at h4
theorem ZR{r:Bu}(hs:Gy r)(h:CB r=true)(h1:r.bb=1):Ik r:=by unfold CB at h;rw[if_pos h1]at h;simp only[Ab,AR]at h;obtain⟨a1,a2,a3,a4,a5,a6,a7,a8,a9⟩:=h;have b:=Fm.1 a1;exact⟨by omega,by omega,zqt a6,⟨by omega,hs.writes.2⟩,λh=>absurd h1 h,λ_=>b⟩
def Jm(s:Aj)(i:Nat):Bool:=Mm s i&&SM hk s.ae i
def LD(s:Aj)(i:Nat):Bool:=SM tk s.ao i&&(match s.ao[i]? with|some t=>BH t.al 1 60&&ID s t|none=>true)
def KN(s:Aj):Bool:=(List.range s.ae.length).all (Jm s)&&(decide (s.ae.length<=12)&&Ie s.aj (Dj s.ae))
def IX(s:Aj):Bool:=BH s.aq 0 100000&&(Eo s.aj&&(KN s&&(decide (s.ao.length<=60)&&(s.aj.all (GG s)&&(List.range s.ao.length).all (LD s)))))
structure L7(s:Aj):Prop where
 cells:Pz s.aj
 lr:s.ae.length<=2000000
 held:∀x∈s.ae,Gy (D4 x)
 mi:s.ao.length<=2000000
theorem oV{s:Aj}(h:L7 s){i:Nat}(hi:i<s.ae.length)(ha:Jm s i=true):Ik (D4 s.ae[i]):=by unfold Jm at ha;rw[Py hi]at ha;simp only[Ab]at ha;exact ZR (h.held _ (AF hi)) ha.1.1 rfl
theorem V7{x:Ax}(h:Ik (D4 x)):HG x/\Nt x.ab:=⟨⟨h.reads,h.writes,h.dh⟩,h.small⟩
theorem VB{s:Aj}(h:L7 s)(ha:∀i,i<s.ae.length->Jm s i=true):Ce hk s.ae/\(s.ae.length<=60/\ ∀x∈s.ae,HG x/\Nt x.ab):=by
 have hr:Ce hk s.ae:=yM λi hi=>by have:=ha i hi;unfold Jm at this;rw[Ab]at this;exact this.2
 have ho:∀x∈s.ae,Ik (D4 x):=λx hx=>by obtain⟨i,hi,rfl⟩:=List.mem_iff_getElem.1 hx;exact oV h hi (ha i hi)
 have:=Ce.len (lo:=1) (hi:=60) hr λx hx=>(ho x hx).mg (by show(1:Int)≠4;omega);exact⟨hr,by omega,λx hx=>V7 (ho x hx)⟩
abbrev ik(n:Int):Int:=n
theorem xU:∀{a b:List Int},Ce ik a->Ce ik b->(∀y,y∈a↔y∈b)->a=b
 | [],[],_,_,_=>rfl
 | [],y::b,_,_,h=>by have:=(h y).2 (by simp);simp at this
 |x::a,[],_,_,h=>by have:=(h x).1 (by simp);simp at this
 |x::a,y::b,ha,hb,h=>by
  have h1:=List.pairwise_cons.1 ha;have h2:=List.pairwise_cons.1 hb;have e:x=y:=by
   rcases Ae.1 ((h x).1 (by simp))with q|q
   ·exact q
   ·rcases Ae.1 ((h y).2 (by simp))with p|p
    ·exact p.symm
    ·have i1:y<x:=h2.1 x q;have i2:x<y:=h1.1 y p;omega
  subst e;rw[xU h1.2 h2.2 λz=> ?_];have hz:=h z;simp only[Ae]at hz;constructor
  ·intro q;rcases hz.1 (.inr q)with p|p
   ·have:x<z:=h1.1 z q;omega
   ·exact p
  ·intro q;rcases hz.2 (.inr q)with p|p
   ·have:x<z:=h2.1 z q;omega
   ·exact p
theorem ztE{zs:List Int}(h:zs.Pairwise λa b=>a<=b):Ce ik (Lib.compact zs)/\ ∀y,y∈Lib.compact zs↔y∈zs:=by
 have get:∀j (hj:j<zs.length),(zs.toArray[j]!)=zs[j]:=λj hj=>by rw[getElem!_pos _ j (by simpa using hj)];simp
 have le:∀i j (hi:i<zs.length) (hj:j<zs.length),i<=j->zs[i]<=zs[j]:=λi j hi hj Ew=>by
  rcases Nat.lt_or_ge i j with k|k
  ·exact(List.pairwise_iff_getElem.1 h) i j hi hj k
  ·have:i=j:=by omega
   subst this;exact Int.le_refl _
 unfold Lib.compact Lib.compactUpTo;constructor
 ·unfold Ce;rw[List.pairwise_map];have hp:(List.range zs.length).Pairwise (· < ·):=List.pairwise_lt_range;have:=List.Pairwise.filter (Lib.keeps zs.toArray) hp;refine List.Pairwise.imp_of_mem ?_ this;intro i j hi hj Ew;have JF:=(List.mem_filter.1 hj).2;have HO:j<zs.length:=by simpa using(List.mem_filter.1 hj).1
  have BF:zs[j]'HO≠zs[j-1]'(by omega):=by
   unfold Lib.keeps at JF;simp only[AR]at JF;rcases JF with k|k
   ·omega
   ·rw[get j HO,get (j-1) (by omega)]at k;exact k
  rw[get i (by omega),get j HO];have h1:=le i (j-1) (by omega) (by omega) (by omega);have h2:=le (j-1) j (by omega) HO (by omega);show(zs[i]'(by omega))<(zs[j]'HO);omega
 ·intro y;constructor
  ·intro hy;obtain⟨j,hj,rfl⟩:=List.mem_map.1 hy;have AG:j<zs.length:=by simpa using(List.mem_filter.1 hj).1
   rw[get j AG];exact AF _
  ·intro hy;obtain⟨i,hi,rfl⟩:=List.getElem_of_mem hy
   induction i using Nat.strongRecOn with
   |_ i ih=>
    by_cases hk:Lib.keeps zs.toArray i=true
    ·exact List.mem_map.2 ⟨i,List.mem_filter.2 ⟨by simpa using hi,hk⟩,get i hi⟩
    ·unfold Lib.keeps at hk;simp only[AR,not_or,Classical.not_not]at hk;have e:zs[i]=zs[i-1]'(by omega):=by
      have:=hk.2;rw[get i hi,get (i-1) (by omega)]at this;exact this
     rw[e];exact ih (i-1) (by omega) (by omega) (AF _)
def HF(n:Int)(l:List Int):List Int:=if n∈l then l else Eu ik n l
theorem zBp{n y:Int}{l:List Int}:y∈HF n l↔y=n\/y∈l:=by
 unfold HF;split
 ·constructor
  ·exact .inr
  ·rintro(rfl|h)
   ·assumption
   ·exact h
 ·exact Kg
theorem yT{n:Int}{l:List Int}(h:Ce ik l):Ce ik (HF n l):=by
 unfold HF;split
 ·exact h
 ·rename_i hn;exact Ce.ins h λy hy e=>hn (by have e:y=n:=e;rw[<-e];exact hy)
theorem mM:∀(ns o:List Int),Ce ik o->Ce ik (ns.foldl (λo n=>HF n o) o)/\ ∀y,y∈ns.foldl (λo n=>HF n o) o↔y∈ns\/y∈o
 | [],o,h=>⟨h,by simp⟩
 |n::ns,o,h=>by obtain⟨h1,h2⟩:=mM ns (HF n o) (yT h);refine⟨h1,λy=> ?_⟩;rw[List.foldl_cons,h2,zBp,Ae,or_assoc,or_left_comm]
def Ds(cuts:List Ap)(k:Ap):Nat:=(cuts.filter λc=> !bl k c).length
theorem zAE{a b:Ap}(h:bl a b=true):I9 a b:=Nh h
theorem zyQ{cuts:List Ap}{a b:Ap}(h:I9 a b):Ds cuts a<=Ds cuts b:=by unfold Ds;rw[<-List.countP_eq_length_filter,<-List.countP_eq_length_filter];refine List.countP_mono_left λc _ hc=> ?_;simp only[Bf]at hc ⊢;exact zAJ hc h
theorem yX(cuts:List Ap)(k:Ap):Ds cuts k<=cuts.length:=List.length_filter_le _ _
theorem xO:∀{cuts:List Ap} {k:Ap},Fc cuts->Ds cuts k=AD (λc=> !bl k c) cuts
 | [],_,_=>rfl
 |c::cuts,k,h=>by
  have h1:=List.pairwise_cons.1 h;have ih:=xO (k:=k) h1.2;unfold Ds AD at ih ⊢;rw[List.filter_cons,List.takeWhile_cons];cases hb:bl k c with
  |false=>simpa using ih
  |true=>
   have:(cuts.filter λc=> !bl k c)=[]:=List.filter_eq_nil_iff.2 λd hd=>by rw[FT hb (h1.1 d hd)];simp
   simp[this]
def Ed(rs:List Ap)(ws:List Am):List Ap:=(rs++ws.map Ee).foldl (λo k=>CU k o) []
def IN(cuts rs:List Ap)(ws:List Am):List Int:=((Ed rs ws).map λk=>(Ds cuts k:Int)).foldl (λo n=>HF n o) []
theorem ZN(rs:List Ap)(ws:List Am):Fc (Ed rs ws)/\(∀y,y∈Ed rs ws↔y∈rs\/ ∃w∈ws,w.ah=y)/\(Ed rs ws).length<=rs.length+ws.length:=by obtain⟨h1,h2,h3⟩:=Ng (rs++ws.map Ee) [] List.Pairwise.nil;refine⟨h1,λy=> ?_,by unfold Ed;simpa using h3⟩;unfold Ed;rw[h2];simp[Ee]
theorem zs8(cuts rs:List Ap)(ws:List Am):Lib.compact ((Ed rs ws).map λk=>(Ds cuts k:Int))=IN cuts rs ws:=by
 obtain⟨h1,_,_⟩:=ZN rs ws;have hp:((Ed rs ws).map λk=>(Ds cuts k:Int)).Pairwise λa b=>a<=b:=by rw[List.pairwise_map];exact h1.imp λ{a b} h=>Int.ofNat_le.2 (zyQ (zAE h))
 obtain⟨a1,a2⟩:=ztE hp;obtain⟨b1,b2⟩:=mM ((Ed rs ws).map λk=>(Ds cuts k:Int)) [] List.Pairwise.nil;exact xU a1 b1 λy=>by rw[a2];have:=b2 y;simp only[List.not_mem_nil,or_false]at this;exact this.symm
theorem ZE(cuts rs:List Ap)(ws:List Am):Ce ik (IN cuts rs ws)/\ ∀y,y∈IN cuts rs ws↔(∃k∈rs,(Ds cuts k:Int)=y)\/ ∃w∈ws,(Ds cuts w.ah:Int)=y:=by
 obtain⟨b1,b2⟩:=mM ((Ed rs ws).map λk=>(Ds cuts k:Int)) [] List.Pairwise.nil;obtain⟨_,h2,_⟩:=ZN rs ws;refine⟨b1,λy=> ?_⟩;unfold IN;rw[b2];simp only[List.mem_map,List.not_mem_nil,or_false];constructor
 ·rintro⟨k,hk,e⟩;rcases(h2 k).1 hk with q|⟨w,hw,q⟩
  ·exact .inl ⟨k,q,e⟩
  ·exact .inr ⟨w,hw,by rw[q];exact e⟩
 ·rintro(⟨k,hk,e⟩|⟨w,hw,e⟩)
  ·exact⟨k,(h2 k).2 (.inl hk),e⟩
  ·exact⟨w.ah,(h2 _).2 (.inr ⟨w,hw,rfl⟩),e⟩
theorem zyF(cuts rs:List Ap)(ws:List Am):(IN cuts rs ws).length<=cuts.length+1/\ ∀y∈IN cuts rs ws,0<=y/\y<=cuts.length:=by
 obtain⟨h1,h2⟩:=ZE cuts rs ws;have hb:∀y∈IN cuts rs ws,0<=y/\y<=cuts.length:=λy hy=>by
  rcases(h2 y).1 hy with⟨k,_,rfl⟩|⟨w,_,rfl⟩
  ·have:=yX cuts k;omega
  ·have:=yX cuts w.ah;omega
 have:=Ce.len (lo:=0) (hi:=cuts.length) h1 hb;exact⟨by omega,hb⟩
theorem Pw{n:Nat}{p:Nat->Bool}(ha:(List.range n).all p=true):∀i,i<n->p i=true:=λi hi=>Bj.1 ha i (List.mem_range.2 hi)
theorem zzA{s:Aj}(hc:Dw 24 s.aj)(h:L7 s):QG s=some (KN s):=by
 have hl:=h.lr;unfold QG;rw[zD (n:=s.ae.length) (body:=λi=>J6 s i) (Jm s) false (Uz s) (λi hi hp=> ?_) (λ_=>by show J6 s (s.ae.length:Int)=_;unfold J6;rw[if_neg (by simp)])]
 ·unfold Uz KN;by_cases ha:(List.range s.ae.length).all (Jm s)=true
  ·obtain⟨_,pI,ho⟩:=VB h (Pw ha);rw[if_pos ha,ha,oP hc pI λx hx=>(ho x hx).1,Aa,Bool.true_and]
  ·rw[if_neg ha,Bool.eq_false_iff.2 ha,Bool.false_and]
 ·have hx:=AF hi;show J6 s (i:Int)=_;unfold J6 Jm;rw[Py hi,if_pos (by simpa using hi),AP hi,Aa,show Rw s.ae[i]=some (D4 s.ae[i])from rfl,Aa,oK (h.held _ hx),Aa];cases hg:CB (D4 s.ae[i])with
  |false=>
   by_cases hp:0<i
   ·rw[if_pos (by simp;omega)];rfl
   ·rw[if_neg (by simp;omega)];rfl
  |true=>
   obtain⟨⟨o1,o2,o3⟩,o4⟩:=V7 (ZR (h.held _ hx) hg rfl);have e1:E0 (A3 s.ae 0 (i:Int)) (λy0_=>OQ y0_ s.ae[i])=some ((s.ae.take i).any λg=>CQ g s.ae[i].ak s.ae[i].ab):=by rw[Kf];refine LY _ (λg hgm=> ?_) (by rw[Au];omega);obtain⟨j,hj,rfl⟩:=List.mem_iff_getElem.1 hgm;rw[Au]at hj;rw[List.getElem_take];obtain⟨⟨g1,g2,g3⟩,_⟩:=V7 (oV h (show j<s.ae.length by omega) (hp j (by omega)));unfold OQ RP CQ;rw[RX (by omega) (by omega) (by omega) g3,Aa,RX (by omega) (by omega) (by omega) o3,Aa];cases B4 s.ae[i].ab s.ae[j].ak s.ae[j].ab<;>cases B4 s.ae[j].ab s.ae[i].ak s.ae[i].ab<;>rfl
   have e2:E0 s.ae[i].ab (λy0_=>OP y0_ s.ae[i] s)=some (s.ae[i].ab.any λw=>decide (s.ae[i].af<=Cg s.aj w.ah)):=by refine LY _ (λw _=> ?_) (by omega);unfold OP;rw[V4 (n:=24) (by omega) hc];rfl
   have rq:0<=(0:Int)/\(0:Int)<=(i:Int)/\(i:Int)<=(s.ae.length:Int):=by omega
   rw[e1,e2,BA (by omega)];generalize (s.ae.take i).any (λg=>CQ g s.ae[i].ak s.ae[i].ab)=A;generalize s.ae[i].ab.any (λw=>decide (s.ae[i].af<=Cg s.aj w.ah))=B;by_cases hp:0<i
   ·rw[if_pos (by simp;omega),Nu hi hp (by omega),if_pos rfl,Se hi hp,Aa,Ba rq,Aa,Aa];by_cases ht:s.ae[i].af<=s.aq
    ·rw[if_neg (by simp;omega)];by_cases hr:hk s.ae[i-1]<hk s.ae[i]
     ·have CA: ¬s.ae[i].al<=s.ae[i-1].al:=Int.not_le.2 hr;rw[if_neg (by simpa using CA)];cases A<;>cases B<;>simp[ht,hr]
     ·have CA:s.ae[i].al<=s.ae[i-1].al:=Int.not_lt.1 hr;rw[if_pos (by simpa using CA)];simp[hr]
    ·rw[if_pos (by simp;omega)];simp[ht]
   ·rw[if_neg (by simp;omega),Zr hp,Ba rq,Aa,Aa];by_cases ht:s.ae[i].af<=s.aq
    ·rw[if_neg (by simp;omega)];cases A<;>cases B<;>simp[ht]
    ·rw[if_pos (by simp;omega)];simp[ht]
theorem zzc{s:Aj}(hc:Dw 24 s.aj)(h:L7 s):Ry s=some (KN s):=by
 have hl:=h.lr;unfold Ry;rw[zD (n:=s.ae.length) (body:=λi=>J8 s i) (Jm s) false (US s) (λi hi hp=> ?_) (λ_=>by show J8 s (s.ae.length:Int)=_;unfold J8;rw[if_neg (by simp)])]
 ·unfold US KN;by_cases ha:(List.range s.ae.length).all (Jm s)=true
  ·obtain⟨_,pI,ho⟩:=VB h (Pw ha);rw[if_pos ha,ha,Bool.true_and];by_cases FH:s.ae.length<=12
   ·rw[if_pos (by simp;omega),oS hc FH (λx hx=>(ho x hx).1) (by simp),Aa,List.nil_append];simp[FH]
   ·rw[if_neg (by simp;omega)];simp[FH]
  ·rw[if_neg ha,Bool.eq_false_iff.2 ha,Bool.false_and]
 ·have hx:=AF hi;show J8 s (i:Int)=_;unfold J8 Jm;rw[Py hi,if_pos (by simpa using hi),AP hi,Aa,show XY s.ae[i]=some (D4 s.ae[i])from rfl,Aa,aA (h.held _ hx),Aa];cases hg:CB (D4 s.ae[i])with
  |false=>
   by_cases hp:0<i
   ·rw[if_pos (by simp;omega)];rfl
   ·rw[if_neg (by simp;omega)];rfl
  |true=>
   obtain⟨⟨o1,o2,o3⟩,o4⟩:=V7 (ZR (h.held _ hx) hg rfl);have t5:KF s (i:Int) s.ae[i]=some (if(s.ae[i].ab.all λw=> !decide (s.ae[i].af<=Cg s.aj w.ah))=true then .inl ((i+1:Nat):Int)else .inr (some false)):=by
    unfold KF;rw[Hr (xs:=s.ae[i].ab) (body:=λj=>J1 s (i:Int) s.ae[i] j) (λw=> !decide (s.ae[i].af<=Cg s.aj w.ah)) (.inr (some false)) (UP (i:Int)) (λj hj=>by
     show J1 s (i:Int) s.ae[i] (j:Int)=_;unfold J1;rw[if_pos (by simpa using hj),AP hj,Aa,Sn (n:=24) (by omega) hc,Aa,BA (by omega)];by_cases hq:s.ae[i].af<=Cg s.aj (s.ae[i].ab[j]).ah
     ·rw[if_pos (by simpa using hq)];simp[hq]
     ·rw[if_neg (by simpa using hq)];simp[hq]) (by
     show J1 s (i:Int) s.ae[i] (s.ae[i].ab.length:Int)=_;unfold J1;rw[if_neg (by simp)])]
    unfold UP;rw[BA (by omega)];split<;>rfl
   have t9:Rl s (i:Int) s.ae[i]=KF s (i:Int) s.ae[i]:=rfl;have t6:Av (λj:Int=>Jb s (i:Int) s.ae[i] j) 0=if((s.ae.take i).all λg=> !CQ g s.ae[i].ak s.ae[i].ab)=true then KF s (i:Int) s.ae[i]else some (.inr (some false)):=by
    refine Hr (xs:=s.ae.take i) (λg=> !CQ g s.ae[i].ak s.ae[i].ab) (.inr (some false)) (KF s (i:Int) s.ae[i]) (λj hj=> ?_) ?_
    ·rw[Au]at hj;obtain⟨og,_⟩:=V7 (oV h (show j<s.ae.length by omega) (hp j (by omega)));show Jb s (i:Int) s.ae[i] (j:Int)=_;unfold Jb;rw[Kf,if_pos (by rw[Au];simp;omega),AP (by rw[Au];omega),Aa,List.getElem_take,ZM og (by omega) (by omega),Aa,BA (by omega)];cases CQ s.ae[j] s.ae[i].ak s.ae[i].ab<;>rfl
    ·show Jb s (i:Int) s.ae[i] ((s.ae.take i).length:Int)=_;unfold Jb;rw[Kf,if_neg (by simp)]
   have t10:Av (λj:Int=>OT s (i:Int) s.ae[i] j) 0=Av (λj:Int=>Jb s (i:Int) s.ae[i] j) 0:=rfl;have rq:0<=(0:Int)/\(0:Int)<=(i:Int)/\(i:Int)<=(s.ae.length:Int):=by omega
   rw[t10,t6,t5,List.not_any_eq_all_not,List.not_any_eq_all_not];generalize ((s.ae.take i).all λg=> !CQ g s.ae[i].ak s.ae[i].ab)=A;generalize (s.ae[i].ab.all λw=> !decide (s.ae[i].af<=Cg s.aj w.ah))=B;by_cases hp:0<i
   ·rw[if_pos (by simp;omega),Nu hi hp (by omega),if_pos rfl,Se hi hp,Aa,Ba rq];by_cases ht:s.ae[i].af<=s.aq
    ·rw[if_neg (by simp;omega)];by_cases hr:hk s.ae[i-1]<hk s.ae[i]
     ·have CA: ¬s.ae[i-1].al>=s.ae[i].al:=Int.not_le.2 hr;rw[if_neg (by simpa using CA)];cases A<;>cases B<;>simp[ht,hr]
     ·have CA:s.ae[i-1].al>=s.ae[i].al:=Int.not_lt.1 hr;rw[if_pos (by simpa using CA)];simp[hr]
    ·rw[if_pos (by simp;omega)];simp[ht]
   ·rw[if_neg (by simp;omega),Zr hp,Ba rq];by_cases ht:s.ae[i].af<=s.aq
    ·rw[if_neg (by simp;omega)];cases A<;>cases B<;>simp[ht]
    ·rw[if_pos (by simp;omega)];simp[ht]
theorem V5{s:Aj}{i:Nat}(hi:i<s.ao.length):LD s i=(SM tk s.ao i&&(BH s.ao[i].al 1 60&&ID s s.ao[i])):=by unfold LD;rw[Bg hi]
theorem zBx{s:Aj}(hr:Ce hk s.ae)(hl:s.ae.length<=60)(ht:s.ao.length<=60):QZ s=some ((List.range s.ao.length).all (LD s)):=by
 unfold QZ;rw[Kd (n:=s.ao.length) (body:=λi=>J5 s i) (LD s) false (some true) (λi hi=> ?_) (by show J5 s (s.ao.length:Int)=_;unfold J5;rw[if_neg (by simp)])]
 ·cases(List.range s.ao.length).all (LD s)<;>rfl
 ·show J5 s (i:Int)=_;unfold J5;rw[V5 hi];unfold ID;rw[if_pos (by simpa using hi),AP hi,Aa,Z3,VK (s:=s) (t:=s.ao[i].al) (by omega) hr,Pn,BA (by omega)];simp only[Aa];generalize (CY s s.ao[i].al).isSome=H;generalize BH s.ao[i].af 1 s.aq=V;generalize BH s.ao[i].al 1 60=X;generalize (s.ao[i].af==0)=T;by_cases hp:0<i
  ·have e1:decide ((i:Int)>0)=true:=by simp;omega
   have e0:decide (s.ao[i].al<=s.ao[i-1].al)= !decide (tk s.ao[i-1]<tk s.ao[i]):=by rw[<-decide_not];exact decide_eq_decide.2 Int.not_lt.symm
   rw[Nu hi hp (by omega),Se hi hp];simp only[Aa,e0,e1,if_true];generalize decide (tk s.ao[i-1]<tk s.ao[i])=R;cases s.ao[i].bk<;>cases V<;>cases T<;>cases H<;>cases X<;>cases R<;>rfl
  ·have e1:decide ((i:Int)>0)=false:=by simp;omega
   rw[Zr hp];simp only[e1,AW,if_false];cases s.ao[i].bk<;>cases V<;>cases T<;>cases H<;>cases X<;>rfl
theorem zCK{s:Aj}(hl:s.ae.length<=60)(ht:s.ao.length<=60):Rr s=some ((List.range s.ao.length).all (LD s)):=by
 unfold Rr;rw[Kd (n:=s.ao.length) (body:=λi=>J2 s i) (LD s) false (some true) (λi hi=> ?_) (by show J2 s (s.ao.length:Int)=_;unfold J2;rw[if_neg (by simp)])]
 ·cases(List.range s.ao.length).all (LD s)<;>rfl
 ·show J2 s (i:Int)=_;unfold J2;rw[V5 hi];unfold ID;obtain⟨P,p1,p2⟩:∃P,J9 s s.ao[i].al=some P/\P.2=(CY s s.ao[i].al).isSome:=by
   rw[ZG (by omega)];cases CY s s.ao[i].al with
   |none=>exact⟨_,rfl,rfl⟩
   |some x=>exact⟨_,rfl,rfl⟩
  rw[if_pos (by simpa using hi),AP hi,Aa,p1,BA (by omega)];simp only[Nw,Aa,p2,bne];generalize (CY s s.ao[i].al).isSome=H;generalize BH s.ao[i].af 1 s.aq=V;generalize BH s.ao[i].al 1 60=X;generalize (s.ao[i].af==0)=T;by_cases hp:0<i
  ·have e1:decide ((i:Int)>0)=true:=by simp;omega
   have e0:decide (s.ao[i-1].al>=s.ao[i].al)= !decide (tk s.ao[i-1]<tk s.ao[i]):=by rw[<-decide_not];exact decide_eq_decide.2 Int.not_lt.symm
   rw[Nu hi hp (by omega),Se hi hp];simp only[Aa,e0,e1,if_true];generalize decide (tk s.ao[i-1]<tk s.ao[i])=R;cases s.ao[i].bk<;>cases V<;>cases T<;>cases H<;>cases X<;>cases R<;>rfl
  ·have e1:decide ((i:Int)>0)=false:=by simp;omega
   rw[Zr hp];simp only[e1,AW,if_false];cases s.ao[i].bk<;>cases V<;>cases T<;>cases H<;>cases X<;>rfl
theorem zCs{s:Aj}(h:L7 s):Rj s=some (IX s):=by
 unfold Rj IX;rw[show RN s.aq=some (BH s.aq 0 100000)from rfl,Aa];cases BH s.aq 0 100000 with
 |false=>rfl
 |true=>
  rw[if_pos rfl,oE h.cells,Aa];cases Tx:Eo s.aj with
  |false=>rfl
  |true=>
   have hc:=nS h.cells Tx;have Aw:=hc.2.1;rw[if_pos rfl,zzA hc h,Aa];cases hh:KN s with
   |false=>rfl
   |true=>
    unfold KN at hh;simp only[Ab]at hh;obtain⟨hr,hl,_⟩:=VB h (Pw hh.1);by_cases ht:s.ao.length<=60
    ·rw[if_neg (by simp;omega),Hr (xs:=s.aj) (body:=λi=>J4 s i) (GG s) false (QZ s) (λi hi=> ?_) (by
      show J4 s (s.aj.length:Int)=_;unfold J4;rw[if_neg (by simp)]),zBx hr hl ht,decide_eq_true ht]
     ·cases s.aj.all (GG s)<;>rfl
     ·show J4 s (i:Int)=_;unfold J4 GG;rw[if_pos (by simpa using hi),AP hi,Aa,V4 (n:=24) (by omega) hc,Aa,BA (by omega)];by_cases hq:Cg s.aj (s.aj[i]).ah<=s.aq
      ·rw[if_neg (by simp;omega)];simp[hq]
      ·rw[if_pos (by simp;omega)];simp[hq]
    ·rw[if_pos (by simp;omega),decide_eq_false ht];rfl
theorem zBK{s:Aj}(h:L7 s):LJ s=some (IX s):=by
 unfold LJ IX;rw[show Pa s.aq=some (BH s.aq 0 100000)from rfl,Aa];cases BH s.aq 0 100000 with
 |false=>rfl
 |true=>
  rw[if_pos rfl,nQ h.cells,Aa];cases Tx:Eo s.aj with
  |false=>rfl
  |true=>
   have hc:=nS h.cells Tx;have Aw:=hc.2.1;rw[if_pos rfl,zzc hc h,Aa];cases hh:KN s with
   |false=>rfl
   |true=>
    unfold KN at hh;simp only[Ab]at hh;obtain⟨hr,hl,_⟩:=VB h (Pw hh.1);by_cases ht:s.ao.length<=60
    ·rw[if_neg (by simp;omega),Hr (xs:=s.aj) (body:=λi=>J3 s i) (GG s) false (Rr s) (λi hi=> ?_) (by
      show J3 s (s.aj.length:Int)=_;unfold J3;rw[if_neg (by simp)]),zCK hl ht,decide_eq_true ht]
     ·cases s.aj.all (GG s)<;>rfl
     ·show J3 s (i:Int)=_;unfold J3 GG;rw[if_pos (by simpa using hi),AP hi,Aa,Sn (n:=24) (by omega) hc,Aa,BA (by omega)];by_cases hq:Cg s.aj (s.aj[i]).ah<=s.aq
      ·rw[if_neg (by simp;omega)];simp[hq]
      ·rw[if_pos (by simp;omega)];simp[hq]
    ·rw[if_pos (by simp;omega),decide_eq_false ht];rfl
theorem zDJ{s:Aj}(h:L7 s)(g:IX s=true):WS s/\Jn s:=by
 unfold IX KN at g;simp only[Ab,AR]at g;obtain⟨g1,g2,⟨g3,g4,g5⟩,g6,g7,g8⟩:=g;have BV:=Pw g3;have tall:=Pw g8;obtain⟨hr,hl,ho⟩:=VB h BV;refine⟨⟨nS h.cells g2,g4,hr,ho,yM λi hi=> ?_,λt ht=> ?_⟩,xM.1 ?_⟩
 ·have:=tall i hi;rw[V5 hi,Ab]at this;exact this.1
 ·obtain⟨i,hi,rfl⟩:=List.mem_iff_getElem.1 ht;have:=tall i hi;rw[V5 hi]at this;simp only[Ab]at this;exact Fm.1 this.2.1
 ·unfold PI LW;simp only[Ab,Bj];refine⟨g1,g2,⟨λi hi=> ?_,g5⟩,Bj.1 g7,λt ht=> ?_⟩
  ·have:=BV i (List.mem_range.1 hi);unfold Jm at this;rw[Ab]at this;exact this.1
  ·obtain⟨i,hi,rfl⟩:=List.mem_iff_getElem.1 ht;have:=tall i hi;rw[V5 hi]at this;simp only[Ab]at this;exact this.2.2
theorem r7{xs:List Int}{k:Int}(h:xs.length<=2000000):Vi xs k=some (xs.any (· ==k)):=by
 unfold Vi;rw[Hr (xs:=xs) (body:=λi=>RG xs k i) (λx=> !(x==k)) true (some false) (λi hi=>by
  show RG xs k (i:Int)=_;unfold RG;rw[if_pos (by simpa using hi),AP hi,Aa,BA (by omega)];cases xs[i]==k<;>rfl) (by
  show RG xs k (xs.length:Int)=_;unfold RG;rw[if_neg (by simp)])]
 rw[<-List.not_any_eq_all_not];cases xs.any (· ==k)<;>rfl
theorem vM{xs:List Int}{k:Int}(h:xs.length<=2000000):UA xs k=some (xs.any (· ==k)):=by
 unfold UA gD;rw[ZV (xs:=xs) (body:=λi=>Qu xs k i) (λx=>x==k) (λi hi=>by
  show Qu xs k (i:Int)=_;unfold Qu;rw[if_pos (by simpa using hi),AP hi,Aa,BA (by omega),show(k==xs[i])=(xs[i]==k)from BEq.comm];cases xs[i]==k<;>rfl) (by
  show Qu xs k (xs.length:Int)=_;unfold Qu;rw[if_neg (by simp)]),Aa,nR]
theorem zy0{rs:List Ap}{ws:List Am}(hr:rs.length<=100)(hw:ws.length<=100):YX rs ws=some (Ed rs ws):=by
 unfold YX;have e1:IE rs=some rs:=Jf (by omega) (by omega);rw[e1,Aa,wJ (by omega),Aa,Ba (by simp[RM];omega)];unfold Qt Qr;rw[Ba (by rw[AO,List.length_map];omega),Aa];obtain⟨g1,g2,_⟩:=Ng (rs++ws.map Ee) [] List.Pairwise.nil;have e:=u9 (xs:=rs++ws.map Ee) g1 λy=>by rw[g2];simp
 show some (Lib.compact (GA (rs++ws.map Ee)))=_;rw[e];rfl
theorem zzN{rs:List Ap}{ws:List Am}(hr:rs.length<=100)(hw:ws.length<=100):YQ rs ws=some (Ed rs ws):=by
 have k1:∀o:List Ap,Fc o->o.length<=rs.length->gL ws o=some (ws.foldl (λo w=>CU (Ee w) o) o):=λo ho hl=>by
  refine(FC (xs:=ws) (body:=λz:List Ap × Int=>QT ws z.1 z.2) (λi z=>(z,i)) (λo w=>CU (Ee w) o) (λo=>some o) (λi o=>Fc o/\o.length<=rs.length+i)
   (λi hi o ho=>by refine⟨?_,Vy ho.1,by have:=ZU (Ee ws[i]) o;omega⟩;show QT ws o (i:Int)=_;unfold QT;rw[if_pos (by simpa using hi),AP hi,Aa,Z9 (by omega) ho.1,Aa,BA (by omega)];rfl)
   (λo ho=>by show QT ws o (ws.length:Int)=_;unfold QT;rw[if_neg (by simp)]) (s:=o) ⟨ho,by omega⟩).1
 obtain⟨a,b⟩:=FC (xs:=rs) (body:=λz:List Ap × Int=>QU rs ws z.1 z.2) (λi z=>(z,i)) (λo k=>CU k o) (λo=>gL ws o) (λi o=>Fc o/\o.length<=i)
  (λi hi o ho=>by refine⟨?_,Vy ho.1,by have:=ZU rs[i] o;omega⟩;show QU rs ws o (i:Int)=_;unfold QU;rw[if_pos (by simpa using hi),AP hi,Aa,Z9 (by omega) ho.1,Aa,BA (by omega)])
  (λo ho=>by show QU rs ws o (rs.length:Int)=_;unfold QU;rw[if_neg (by simp)]) (s:=[]) ⟨List.Pairwise.nil,by simp⟩
 refine a.trans ?_;rw[k1 _ b.1 b.2];unfold Ed;rw[List.foldl_append,List.foldl_map]
theorem s8(c k:Ap):(Op.bytesLess c k||c==k)= !bl k c:=by
 rcases Wk c k with h|h|h
 ·rw[show Op.bytesLess c k=true from h,Nh h];rfl
 ·subst h;rw[Kc];simp
 ·have h1:=Nh h;have h2:(c==k)=false:=by simpa using λe=>Ic h e.symm
  rw[show Op.bytesLess c k=false from h1,h2,h];rfl
theorem xN(k:Ap):∀(cuts:List Ap) (n:Int),cuts.foldl (λn c=>if(!bl k c)=true then n+1 else n) n=n+Ds cuts k
 | [],n=>by simp[Ds]
 |c::cuts,n=>by rw[List.foldl_cons,xN k cuts];unfold Ds;rw[List.filter_cons];cases bl k c<;>simp<;>omega
theorem mQ{cuts:List Ap}{k:Ap}(hl:cuts.length<=1000):Vb cuts k=some (Ds cuts k:Int):=by
 refine((FC (xs:=cuts) (body:=λz:Int × Int=>Ra cuts k z.1 z.2) (λi z=>(z,i)) (λn c=>if(!bl k c)=true then n+1 else n) (λn=>some n) (λi n=>0<=n/\n<=i)
  (λi hi n hn=>by refine⟨?_,by split<;>omega⟩;show Ra cuts k n (i:Int)=_;unfold Ra;rw[if_pos (by simpa using hi),AP hi,Aa,s8,BA (by omega),show IntKind.i64.wrap (n+1)=n+1 from CM (by omega) (by omega)];cases bl k cuts[i]<;>rfl)
  (λn _=>by show Ra cuts k n (cuts.length:Int)=_;unfold Ra;rw[if_neg (by simp)]) (s:=0) ⟨by omega,by omega⟩).1).trans ?_
 rw[xN,Int.zero_add]
theorem oR{cuts:List Ap}{k:Ap}(hl:cuts.length<=1000)(hr:Fc cuts):UY cuts k=some (Ds cuts k:Int):=by
 refine(oA (xs:=cuts) (body:=λi=>Rn cuts k i) (λc=> !bl k c) (λn=>some n) (λi hi=>by
   show Rn cuts k (i:Int)=_;unfold Rn;rw[if_pos (by simpa using hi),AP hi,Aa,s8,BA (by omega)];cases bl k cuts[i]<;>rfl) (by
   show Rn cuts k (cuts.length:Int)=_;unfold Rn;rw[if_neg (by simp)])).trans ?_
 rw[xO hr]
theorem zFI{l:List Int}{n:Int}(hl:l.length<=1000)(hr:Ce ik l):kS l n=some (HF n l):=by
 refine(oA (xs:=l) (body:=λi=>RB l n i) (A0 ik n) (λv=>Yg l n v) (λi hi=>by
   show RB l n (i:Int)=_;unfold RB A0;rw[if_pos (by simpa using hi),AP hi,Aa,BA (by omega)];by_cases h:ik l[i]<n
   ·rw[if_pos (by simpa using h),if_pos (by simpa using h)]
   ·rw[if_neg (by simpa using h),if_neg (by simpa using h)]) (by
   show RB l n (l.length:Int)=_;unfold RB;rw[if_neg (by simp)])).trans ?_
 have hp:=Nq (A0 ik n) l;have hf:=RR (t:=n) hr;have ins:(∀y∈l,ik y≠n)->(AL (0<=(0:Int)/\(0:Int)<=((AD (A0 ik n) l:Nat):Int)/\((AD (A0 ik n) l:Nat):Int)<=(l.length:Int))<|
   AL (RM ((([]:List Int).length:Int)+(((A3 l 0 ((AD (A0 ik n) l:Nat):Int))).length:Int)) 8)<|
   AL (RM ((((A3 l 0 ((AD (A0 ik n) l:Nat):Int))).length:Int)+(([n]:List Int).length:Int)) 8)<|
   AL (0<=((AD (A0 ik n) l:Nat):Int)/\((AD (A0 ik n) l:Nat):Int)<=(l.length:Int)/\(l.length:Int)<=(l.length:Int))<|
   AL (RM (((((A3 l 0 ((AD (A0 ik n) l:Nat):Int))++ [n])).length:Int)+(((A3 l ((AD (A0 ik n) l:Nat):Int) (l.length:Int))).length:Int)) 8)<|
   some (((A3 l 0 ((AD (A0 ik n) l:Nat):Int))++ [n])++(A3 l ((AD (A0 ik n) l:Nat):Int) (l.length:Int))))=some (Eu ik n l):=λhn=>by
  rw[Xd,Ur];have h1:(l.take (AD (A0 ik n) l)).length<=1000:=by rw[Au];omega
  have h2:(l.drop (AD (A0 ik n) l)).length<=1000:=by rw[BD];omega
  rw[Ba (by omega),Ba (by simp only[RM,List.length_nil];omega),Ba (by simp only[RM,Bk];omega),Ba (by omega),Ba (by simp only[RM,AO,Bk];omega)];rw[ZX (key:=ik) (x:=n) hn]
 have fin:(∀y∈l,ik y≠n)->HF n l=Eu ik n l:=λhn=>by unfold HF;rw[if_neg λhm=>hn n hm rfl]
 unfold Yg;by_cases AG:AD (A0 ik n) l<l.length
 ·rw[if_pos (by simpa using AG),AP AG,Aa];rw[Bg AG]at hf;by_cases he:l[AD (A0 ik n) l]=n
  ·rw[if_pos (by simpa using he)];unfold HF;rw[if_pos (by rw[<-he];exact AF _)]
  ·rw[if_neg (by simpa using he)];simp only[if_neg he]at hf;have hn:∀y∈l,ik y≠n:=λy hy e=>by
    have:=List.find?_eq_none.1 hf y hy;simp[ik]at this;exact this e
   rw[ins hn,fin hn]
 ·rw[if_neg (by simpa using AG)];rw[List.getElem?_eq_none (by omega)]at hf;have hn:∀y∈l,ik y≠n:=λy hy e=>by
   have:=List.find?_eq_none.1 hf y hy;simp[ik]at this;exact this e
  rw[ins hn,fin hn]
theorem zBR(n:Int)(l:List Int):(HF n l).length<=l.length+1:=by
 unfold HF;split
 ·omega
 ·rw[nF];exact AI _
theorem zyJ{cuts rs:List Ap}{ws:List Am}(hl:cuts.length<=1000)(hr:rs.length<=100)(hw:ws.length<=100):YE cuts rs ws=some (IN cuts rs ws):=by
 have hk:=(ZN rs ws).2.2;unfold YE;rw[zy0 hr hw,Aa];refine((FC (xs:=Ed rs ws) (body:=λz:Int × List Int=>Rx cuts (Ed rs ws) z.1 z.2) (λi z=>(i,z)) (λo k=>o++ [(λk=>(Ds cuts k:Int)) k]) (λo=>iJ o) (λi o=>o.length=i)
  (λi hi o ho=>by refine⟨?_,by simp[ho]⟩;show Rx cuts (Ed rs ws) (i:Int) o=_;unfold Rx;rw[if_pos (by simpa using hi),AP hi,Aa,mQ hl,Aa,Ba (by simp only[RM,Bk];omega),BA (by omega)])
  (λo ho=>by show Rx cuts (Ed rs ws) ((Ed rs ws).length:Int) o=_;unfold Rx;rw[if_neg (by simp)]) (s:=[]) rfl).1).trans ?_
 rw[foldl_map,List.nil_append];unfold iJ Xu;rw[Aa,zs8]
theorem zyx{cuts rs:List Ap}{ws:List Am}{t:Int}(hc:Fc cuts)(hl:cuts.length<=1000)(hr:rs.length<=100)(hw:ws.length<=100):Ve cuts ⟨t,rs,ws⟩=some (IN cuts rs ws):=by
 have hk:=(ZN rs ws).2.2;unfold Ve;rw[show YQ (⟨t,rs,ws⟩:AM).ak (⟨t,rs,ws⟩:AM).ab=some (Ed rs ws)from zzN hr hw,Aa];have h:jU cuts (Ed rs ws)=some (IN cuts rs ws):=by
  refine((FC (xs:=Ed rs ws) (body:=λz:List Int × Int=>QR cuts (Ed rs ws) z.1 z.2) (λi z=>(z,i)) (λo k=>HF (Ds cuts k:Int) o) (λo=>some o) (λi o=>Ce ik o/\o.length<=i)
   (λi hi o ho=>by refine⟨?_,yT ho.1,by have:=zBR (Ds cuts (Ed rs ws)[i]:Int) o;omega⟩;show QR cuts (Ed rs ws) o (i:Int)=_;unfold QR;rw[if_pos (by simpa using hi),AP hi,Aa,oR hl hc,Aa,zFI (by omega) ho.1,Aa,BA (by omega)])
   (λo ho=>by show QR cuts (Ed rs ws) o ((Ed rs ws).length:Int)=_;unfold QR;rw[if_neg (by simp)]) (s:=[]) ⟨List.Pairwise.nil,by simp⟩).1).trans ?_
  unfold IN;rw[List.foldl_map]
 rw[h];rfl
structure Km(o:AM):Prop where
 reads:L4 o.ak
 writes:V6 o.ab
def Uu(o:AM):Bu:=⟨1,o.al,1,0,o.ak,o.ab,false⟩
def Er(o:AM):Bool:=CB (Uu o)
theorem zBS{o:AM}(h:Km o):Yp o=some (Er o):=by unfold Yp;show(LI (Uu o)).bind _=_;rw[aA (show Gy (Uu o)from⟨h.reads,h.writes⟩)];rfl
theorem zCx{o:AM}(h:Km o):YD o=some (Er o):=by unfold YD jW;rw[Z3,oK (show Gy ⟨1,1,1,0,o.ak,o.ab,false⟩from⟨h.reads,h.writes⟩)];unfold Er CB Uu;rw[if_pos rfl,if_pos rfl,show BH 1 1 60=true from rfl,Bool.true_and];cases BH o.al 1 60<;>rfl
def PO(l:List AM)(i:Nat):Bool:=match l[i]? with
 |some o=>Er o&& !(l.take i).any (λp=>p.al==o.al)
 |none=>true
theorem nC{l:List AM}{i:Nat}(hi:i<l.length):PO l i=(Er l[i]&& !(l.take i).any (λp=>p.al==l[i].al)):=by unfold PO;rw[Bg hi]
def PB(l:List AM):Bool:=(List.range l.length).all (PO l)&&decide (l.length<=8)
def PQ(d:Az):Bool:=(Ep d.az&&decide ((d.az.length:Int)<4))&&(decide (d.ax.length=d.az.length+1)&&(d.ax.all IX&&PB d.ar))
structure Wg(d:Az):Prop where
 cuts:L4 d.az
 jq:d.ax.length<=2000000
 cf:∀s∈d.ax,L7 s
 di:d.ar.length<=2000000
 dk:∀o∈d.ar,Km o
theorem zAa{l:List AM}(hl:l.length<=2000000)(h:∀o∈l,Km o):Yr l=some (PB l):=by
 unfold Yr;rw[Kd (n:=l.length) (body:=λi=>QX l i) (PO l) false (gQ l) (λi hi=> ?_) (by show QX l (l.length:Int)=_;unfold QX;rw[if_neg (by simp)])]
 ·unfold gQ PB;rw[show decide ((l.length:Int)<=8)=decide (l.length<=8)from decide_eq_decide.2 (by omega)];cases(List.range l.length).all (PO l)<;>rfl
 ·show QX l (i:Int)=_;unfold QX;rw[if_pos (by simpa using hi),AP hi,Aa,zBS (h _ (AF hi)),Aa,Ba (by omega),nC hi];have t:Av (λj:Int=>Q2 l (i:Int) l[i] j) 0=if((l.take i).all λp=> !(p.al==l[i].al))=true then XN (i:Int)else some (.inr (some false)):=by
   refine Hr (xs:=l.take i) (λp=> !(p.al==l[i].al)) (.inr (some false)) (XN (i:Int)) (λj hj=> ?_) ?_
   ·rw[Au]at hj;show Q2 l (i:Int) l[i] (j:Int)=_;unfold Q2;rw[Kf,if_pos (by rw[Au];simp;omega),AP (by rw[Au];omega),Aa,BA (by omega),show(l[i].al==(l.take i)[j].al)=((l.take i)[j].al==l[i].al)from BEq.comm];cases(l.take i)[j].al==l[i].al<;>rfl
   ·show Q2 l (i:Int) l[i] ((l.take i).length:Int)=_;unfold Q2;rw[Kf,if_neg (by simp)]
  rw[t,List.not_any_eq_all_not];unfold XN;rw[BA (by omega)];cases Er l[i]<;>cases((l.take i).all λp=> !(p.al==l[i].al))<;>rfl
theorem zAG{d:Az}(hl:d.ar.length<=2000000)(h:∀o∈d.ar,Km o):Av (λi:Int=>OU d i) 0=some (PB d.ar):=by
 rw[Kd (n:=d.ar.length) (body:=λi=>OU d i) (PO d.ar) false (gP d) (λi hi=> ?_) (by show OU d (d.ar.length:Int)=_;unfold OU;rw[if_neg (by simp)])]
 ·unfold gP PB;rw[show decide ((d.ar.length:Int)<=8)=decide (d.ar.length<=8)from decide_eq_decide.2 (by omega)];cases(List.range d.ar.length).all (PO d.ar)<;>rfl
 ·show OU d (i:Int)=_;unfold OU;have e:E0 (A3 d.ar 0 (i:Int)) (λy0_=>gZ y0_ d.ar[i])=some ((d.ar.take i).any λp=>p.al==d.ar[i].al):=by
   rw[Kf];exact LY _ (λp _=>rfl) (by rw[Au];omega)
  rw[if_pos (by simpa using hi),AP hi,Aa,zCx (h _ (AF hi)),Aa,Ba (by omega),nC hi,e,Aa,BA (by omega)];cases Er d.ar[i]<;>cases((d.ar.take i).any λp=>p.al==d.ar[i].al)<;>rfl
theorem zCg{d:Az}(h:Wg d):Yb d=some (PQ d):=by
 have hc:=h.cuts.1;have hs:=h.jq;unfold Yb PQ;rw[zBQ h.cuts,Aa];have e:E0 d.ax (λy0_=>X4 y0_)=some (d.ax.any λs=> !IX s):=LY _ (λs hm=>by unfold X4;rw[zCs (h.cf s hm)];rfl) (by omega);rw[e,Aa,zAG h.di h.dk,BA (by omega)];cases(Ep d.az&&decide ((d.az.length:Int)<4))with
 |false=>rfl
 |true=>
  rw[if_pos rfl];by_cases hl:d.ax.length=d.az.length+1
  ·rw[if_neg (by simp;omega),decide_eq_true hl,List.all_eq_not_any_not];cases d.ax.any λs=> !IX s<;>rfl
  ·rw[if_pos (by simp;omega),decide_eq_false hl];rfl
theorem zBC{d:Az}(h:Wg d):Yy d=some (PQ d):=by
 have hc:=h.cuts.1;have hs:=h.jq;have k:X0 d=some ((Ep d.az&&decide ((d.az.length:Int)<4))&&(decide (d.ax.length=d.az.length+1)&&PB d.ar)):=by
  unfold X0;rw[zCJ h.cuts,Aa,zAa h.di h.dk,BA (by omega)];cases(Ep d.az&&decide ((d.az.length:Int)<4))with
  |false=>rfl
  |true=>
   rw[if_pos rfl];by_cases hl:d.ax.length=d.az.length+1
   ·rw[if_pos (by simp;omega),decide_eq_true hl];rfl
   ·rw[if_neg (by simp;omega),decide_eq_false hl];rfl
 unfold Yy PQ;rw[Hr (xs:=d.ax) (body:=λi=>Ru d i) IX false (X0 d) (λi hi=>by
  show Ru d (i:Int)=_;unfold Ru;rw[if_pos (by simpa using hi),AP hi,Aa,zBK (h.cf _ (AF hi)),Aa,BA (by omega)];cases IX d.ax[i]<;>rfl) (by
  show Ru d (d.ax.length:Int)=_;unfold Ru;rw[if_neg (by simp)]),k]
 cases d.ax.all IX<;>cases(Ep d.az&&decide ((d.az.length:Int)<4))<;>cases decide (d.ax.length=d.az.length+1)<;>rfl
structure GD(d:Az):Prop where
 dh:Fc d.az
 keys:∀c∈d.az,Dg c=true
 ek:d.az.length<=3
 len:d.ax.length=d.az.length+1
 cf:∀s∈d.ax,WS s/\Jn s
 di:d.ar.length<=8
 dk:∀o∈d.ar,Er o=true/\Km o
theorem zF3{d:Az}(h:Wg d)(g:PQ d=true):GD d:=by
 unfold PQ PB Ep at g;simp only[Ab,AR]at g;obtain⟨⟨⟨g0,g1⟩,g2⟩,g3,g4,g5,g6⟩:=g;refine⟨?_,Bj.1 g0,by omega,g3,λs hs=>zDJ (h.cf s hs) (Bj.1 g4 s hs),g6,λo ho=>⟨?_,h.dk o ho⟩⟩
 ·rw[Vl]at g1;exact(R7 (r:=bl) λa b c p q=>FT p q).1 g1
 ·obtain⟨i,hi,rfl⟩:=List.mem_iff_getElem.1 ho;have:=Pw g5 i hi;rw[nC hi,Ab]at this;exact this.1
theorem Jg{o:AM}(g:Er o=true):(1<=o.al/\o.al<=60)/\(o.ak.length<=8/\o.ab.length<=8/\0<o.ak.length+o.ab.length)/\(Ep o.ak=true/\Hp o.ab=true):=by unfold Er CB Uu at g;rw[if_pos rfl]at g;simp only[Ab,AR]at g;obtain⟨a1,a2,a3,a4,a5,a6,a7,a8,a9⟩:=g;exact⟨Fm.1 a1,⟨by omega,by omega,by omega⟩,a4,a6⟩
theorem zuO{o:AM}(g:Er o=true):Yu o=some o:=by obtain⟨_,⟨h1,h2,_⟩,_⟩:=Jg g;unfold Yu;have e1:IE o.ak=some o.ak:=Jf (by omega) (by omega);have e2:LG o.ab=some o.ab:=Jf (by omega) (by omega);rw[e1,Aa,e2,Aa]
theorem zwq{d:Az}(g:GD d):Ye d=some d:=by
 have g1:=g.ek;have g2:=g.len;have g3:=g.di;unfold Ye;have e1:IE d.az=some d.az:=Jf (by omega) (by omega);rw[e1,Aa];refine((FC (xs:=d.ax) (body:=λz:Int × List Aj=>QP d d.az z.1 z.2) (λi z=>(i,z)) (λo c=>o++ [c]) (λo=>tQ d d.az o) (λi o=>o.length=i)
  (λi hi o ho=>by refine⟨?_,by simp[ho]⟩;show QP d d.az (i:Int) o=_;unfold QP;rw[if_pos (by simpa using hi),AP hi,Aa,Zc (g.cf _ (AF hi)).1,Aa,Ba (by simp only[RM,Bk];omega),BA (by omega)])
  (λo ho=>by show QP d d.az (d.ax.length:Int) o=_;unfold QP;rw[if_neg (by simp)]) (s:=[]) rfl).1).trans ?_
 have e:=foldl_map (λc:Aj=>c) d.ax [];simp only[List.map_id',List.nil_append]at e;rw[e];refine((FC (xs:=d.ar) (body:=λz:Int × List AM=>QV d d.az d.ax z.1 z.2) (λi z=>(i,z)) (λo c=>o++ [c]) (λo=>some (⟨d.az,d.ax,o⟩:Az)) (λi o=>o.length=i)
  (λi hi o ho=>by refine⟨?_,by simp[ho]⟩;show QV d d.az d.ax (i:Int) o=_;unfold QV;rw[if_pos (by simpa using hi),AP hi,Aa,zuO (g.dk _ (AF hi)).1,Aa,Ba (by simp only[RM,Bk];omega),BA (by omega)])
  (λo ho=>by show QV d d.az d.ax (d.ar.length:Int) o=_;unfold QV;rw[if_neg (by simp)]) (s:=[]) rfl).1).trans ?_
 have e:=foldl_map (λc:AM=>c) d.ar [];simp only[List.map_id',List.nil_append]at e;rw[e]
theorem zD7{l:List AM}(hl:l.length<=8)(g:∀o∈l,Er o=true):jO l=some l:=by
 refine((FC (xs:=l) (body:=λz:List AM × Int=>Ro l z.1 z.2) (λi z=>(z,i)) (λo c=>o++ [c]) (λo=>some o) (λi o=>o.length=i)
  (λi hi o ho=>by obtain⟨_,⟨h1,h2,_⟩,_⟩:=Jg (g _ (AF hi));refine⟨?_,by simp[ho]⟩;show Ro l o (i:Int)=_;unfold Ro;rw[if_pos (by simpa using hi),AP hi,Aa,SG (by omega),Aa,Ba (by simp only[RM,List.length_nil];omega),Ba (by simp only[RM,Bk];omega),BA (by omega)])
  (λo ho=>by show Ro l o (l.length:Int)=_;unfold Ro;rw[if_neg (by simp)]) (s:=[]) rfl).1).trans ?_
 have e:=foldl_map (λc:AM=>c) l [];simp only[List.map_id',List.nil_append]at e;rw[e]
theorem zyD{d:Az}(g:GD d):Y3 d=some d:=by
 have g1:=g.ek;have g2:=g.len;unfold Y3;rw[SG (by omega),Aa,zD7 g.di λo ho=>(g.dk o ho).1,Aa];refine((FC (xs:=d.ax) (body:=λz:Int × List Aj=>Rh d d.az d.ar z.1 z.2) (λi z=>(i,z)) (λo c=>o++ [c]) (λo=>some (⟨d.az,o,d.ar⟩:Az)) (λi o=>o.length=i)
  (λi hi o ho=>by refine⟨?_,by simp[ho]⟩;show Rh d d.az d.ar (i:Int) o=_;unfold Rh;rw[if_pos (by simpa using hi),AP hi,Aa,zY (g.cf _ (AF hi)).1,Aa,Ba (by simp only[RM,Bk];omega),BA (by omega)])
  (λo ho=>by show Rh d d.az d.ar (d.ax.length:Int) o=_;unfold Rh;rw[if_neg (by simp)]) (s:=[]) rfl).1).trans ?_
 have e:=foldl_map (λc:Aj=>c) d.ax [];simp only[List.map_id',List.nil_append]at e;rw[e]
theorem x7{α:Type}{key:α->Int}{l:List α}{t:Int}{x:α}(hr:Ce key l)(h:l.find? (λy=>key y==t)=some x):An l ((AD (A0 key t) l:Nat):Int)=some x:=by
 have hf:=RR (t:=t) hr;rw[h]at hf;rcases Nat.lt_or_ge (AD (A0 key t) l) l.length with hp|hp
 ·rw[Bg hp]at hf;have hf:some x=if key l[AD (A0 key t) l]=t then some l[AD (A0 key t) l]else none:=hf;split at hf
  ·cases hf;exact AP hp
  ·cases hf
 ·rw[List.getElem?_eq_none hp]at hf;cases hf
def st0:Aj:=⟨0,[],[],[]⟩
def C3(d:Az)(p:Int):Aj:=(d.ax[p.toNat]?).getD st0
def CN(d:Az)(o:AM):List Int:=IN d.az o.ak o.ab
def D5(d:Az)(o:AM):Int:=(CN d o).headD 0
theorem IP{d:Az}(g:GD d){p:Int}(h0:0<=p)(h1:p<=d.az.length):An d.ax p=some (C3 d p)/\(C3 d p∈d.ax/\p.toNat<d.ax.length):=by
 have hl:=g.len;obtain⟨x,e1,e2,e3⟩:=zEu (xs:=d.ax) h0 (by omega);have:C3 d p=x:=by unfold C3;rw[e3];rfl
 rw[this];exact⟨e1,e2,by omega⟩
theorem LN{d:Az}{o:AM}(go:Er o=true):(∀p∈CN d o,0<=p/\p<=d.az.length)/\((CN d o).length<=d.az.length+1/\(An (CN d o) 0=some (D5 d o)/\D5 d o∈CN d o)):=by
 obtain⟨a,b⟩:=zyF d.az o.ak o.ab;refine⟨b,a,?_⟩;obtain⟨_,⟨_,_,BF⟩,_⟩:=Jg go;obtain⟨_,h2⟩:=ZE d.az o.ak o.ab;unfold D5 CN;cases hp:IN d.az o.ak o.ab with
 |nil=>
  exfalso;rw[hp]at h2;cases hr:o.ak with
  |cons k ks=>exact absurd ((h2 _).2 (.inl ⟨k,by rw[hr];simp,rfl⟩)) (by simp)
  |nil=>
   cases hw:o.ab with
   |cons w ws=>exact absurd ((h2 _).2 (.inr ⟨w,by rw[hw];simp,rfl⟩)) (by simp)
   |nil=>rw[hr,hw]at BF;simp at BF
 |cons x xs=>exact⟨rfl,by simp⟩
theorem VE{d:Az}{o:AM}(g:GD d)(go:Er o=true):M6 d o=some (CN d o):=by have:=g.ek;obtain⟨_,⟨h1,h2,_⟩,_⟩:=Jg go;unfold M6;rw[zyJ (by omega) (by omega) (by omega)];rfl
theorem zBJ{d:Az}{o:AM}(g:GD d)(go:Er o=true):Ve d.az o=some (CN d o):=by have:=g.ek;obtain⟨_,⟨h1,h2,_⟩,_⟩:=Jg go;exact zyx (t:=o.al) g.dh (by omega) (by omega) (by omega)
def KP(cuts rs:List Ap)(p:Int):List Ap:=rs.filter λk=>(Ds cuts k:Int)==p
def Ki(cuts:List Ap)(ws:List Am)(p:Int):List Am:=ws.filter λw=>(Ds cuts w.ah:Int)==p
theorem zx7{cuts rs:List Ap}{p:Int}(hl:cuts.length<=1000)(hr:rs.length<=100):YJ cuts rs p=some (KP cuts rs p):=by unfold YJ Pc;have e1:IE rs=some rs:=Jf (by omega) (by omega);rw[e1,Aa,Ba (by omega),lS (p:=λy0_=>Yt y0_ cuts p) (λk=> !((Ds cuts k:Int)==p)) λk _=>by unfold Yt;rw[mQ hl];rfl,Aa];unfold KP;simp only[Bool.not_not]
theorem zw1{cuts:List Ap}{ws:List Am}{p:Int}(hl:cuts.length<=1000)(hr:ws.length<=100):Yn cuts ws p=some (Ki cuts ws p):=by unfold Yn Pc;have e1:LG ws=some ws:=Jf (by omega) (by omega);rw[e1,Aa,Ba (by omega),lS (p:=λy0_=>X3 y0_ cuts p) (λw=> !((Ds cuts w.ah:Int)==p)) λw _=>by unfold X3;rw[mQ hl];rfl,Aa];unfold Ki;simp only[Bool.not_not]
theorem kZ{α:Type}(q:α->Bool):∀(xs o:List α),xs.foldl (λo x=>if q x=true then o++ [x]else o) o=o++xs.filter q
 | [],o=>by simp
 |x::xs,o=>by rw[List.foldl_cons,kZ q xs,List.filter_cons];cases q x<;>simp
theorem zCF{cuts rs:List Ap}{ws:List Am}{p:Int}(hc:Fc cuts)(hl:cuts.length<=1000)(hr:rs.length<=100)(hw:ws.length<=100):jS cuts rs ws p=some (KP cuts rs p,Ki cuts ws p):=by
 have k1:∀r:List Ap,gV cuts ws p r=some (r,Ki cuts ws p):=λr=>by
  refine((FC (xs:=ws) (body:=λz:List Am × Int=>QQ cuts ws p r z.1 z.2) (λi z=>(z,i)) (λo w=>if((Ds cuts w.ah:Int)==p)=true then o++ [w]else o) (λo=>some (r,o)) (λi o=>o.length<=i)
   (λi hi o ho=>by refine⟨?_,by split<;>(try simp)<;>omega⟩;show QQ cuts ws p r o (i:Int)=_;unfold QQ;rw[if_pos (by simpa using hi),AP hi,Aa,oR hl hc,Aa,BA (by omega),Ba (by simp only[RM,Bk];omega)];cases(Ds cuts (ws[i]).ah:Int)==p<;>rfl)
   (λo ho=>by show QQ cuts ws p r o (ws.length:Int)=_;unfold QQ;rw[if_neg (by simp)]) (s:=[]) (by simp)).1).trans ?_
  rw[kZ (λw:Am=>(Ds cuts w.ah:Int)==p)];rfl
 refine((FC (xs:=rs) (body:=λz:List Ap × Int=>QL cuts rs ws p z.1 z.2) (λi z=>(z,i)) (λo k=>if((Ds cuts k:Int)==p)=true then o++ [k]else o) (λo=>gV cuts ws p o) (λi o=>o.length<=i)
  (λi hi o ho=>by refine⟨?_,by split<;>(try simp)<;>omega⟩;show QL cuts rs ws p o (i:Int)=_;unfold QL;rw[if_pos (by simpa using hi),AP hi,Aa,oR hl hc,Aa,BA (by omega),Ba (by simp only[RM,Bk];omega)];cases(Ds cuts rs[i]:Int)==p<;>rfl)
  (λo ho=>by show QL cuts rs ws p o (rs.length:Int)=_;unfold QL;rw[if_neg (by simp)]) (s:=[]) (by simp)).1).trans ?_
 rw[k1,kZ (λk:Ap=>(Ds cuts k:Int)==p)];rfl
abbrev SW:Type:=Option (Bu × Int)
def KD(d:Az)(o:AM)(p:Int):SW:=
 if(CN d o).any (· ==p)=true then
  (if(Fp (C3 d (D5 d o)) o.al).isSome=true then none
  else if(C3 d p).aq=100000 then none
  else some (⟨1,o.al,(C3 d p).aq+1,D5 d o,KP d.az o.ak p,Ki d.az o.ab p,false⟩,p))
 else none
def Me(d:Az)(t:Int):List Int->Int->Option Int
 | [],n=>some n
 |p::ps,n=>match CY (C3 d p) t with
  |none=>none
  |some h=>Me d t ps (if h.af>n then h.af else n)
def LC(d:Az)(o:AM)(t:Int):SW:=
 if BH t 0 100000=true then(match Me d o.al (CN d o) t with
  |none=>none
  |some n=>some (⟨2,o.al,n,0,[],[],true⟩,D5 d o))else none
def fJ(d:Az)(o:AM):SW:=some (⟨2,o.al,0,0,[],[],false⟩,D5 d o)
def Ly(d:Az)(o:AM)(p:Int):SW:=match Fp (C3 d (D5 d o)) o.al with
 |none=>none
 |some t=>if((CN d o).drop 1).any (· ==p)=true then some (⟨3,o.al,t.af,0,[],[],t.bk⟩,p)else none
def MU(d:Az)(o:AM)(a:Ea):SW:=
 if a.bb=1 then(if a.af=0 then KD d o a.bm else none)
 else if a.bb=2 then(if a.bm=0 then LC d o a.af else none)
 else if a.bb=3 then(if a.bm=0/\a.af=0 then fJ d o else none)
 else if a.bb=4 then(if a.af=0 then Ly d o a.bm else none)
 else none
theorem zCf{s:Aj}{t:Int}{x:Bh}(h:Fp s t=some x):x∈s.ao:=List.mem_of_find?_eq_some h
theorem zB5{s:Aj}{t:Int}{x:Ax}(h:CY s t=some x):x∈s.ae:=List.mem_of_find?_eq_some h
theorem rQ{d:Az}(g:GD d){t:Int}:∀{ps:List Int} {n m:Int},(∀p∈ps,0<=p/\p<=d.az.length)->0<=n->n<=100000->Me d t ps n=some m->n<=m/\(m<=100000/\(ps≠ []->1<=m))
 | [],n,m,_,h0,h1,e=>by cases e;exact⟨by omega,h1,λh=>absurd rfl h⟩
 |p::ps,n,m,hp,h0,h1,e=>by
  unfold Me at e;split at e
  ·cases e
  ·rename_i h hh;obtain⟨_,hm,_⟩:=IP g (hp p (by simp)).1 (hp p (by simp)).2;obtain⟨_,gs⟩:=g.cf _ hm;obtain⟨h2,h3,_⟩:=gs.single h (zB5 hh);have h4:=(rR h2 rfl).1;have h5:1<=h.af/\h.af<=100000:=h4;obtain⟨a,b,_⟩:=rQ g (λq hq=>hp q (by simp[hq])) (by split<;>omega) (by split<;>omega) e;have hn:n<=(if h.af>n then h.af else n)/\1<=(if h.af>n then h.af else n):=by split<;>omega
   exact⟨by omega,b,λ_=>by omega⟩
theorem zuU{ks:List Ap}(q:Ap->Bool)(h:Ep ks=true):Ep (ks.filter q)=true:=by unfold Ep at h ⊢;rw[Ab,Bj,Vl,R7 (r:=bl) λa b c p q=>FT p q]at h ⊢;exact⟨λx hx=>h.1 x (List.mem_filter.1 hx).1,h.2.filter _⟩
theorem zuX{ws:List Am}(q:Am->Bool)(h:Hp ws=true):Hp (ws.filter q)=true:=by have hl:=List.length_filter_le q ws;unfold Hp at h ⊢;rw[Vl,mA]at h ⊢;simp only[Ab,AR,Bj]at h ⊢;rw[R7 (r:=λa b:Am=>bl a.ah b.ah) λa b c p q=>FT p q]at h ⊢;exact⟨by omega,λx hx=>h.2.1 x (List.mem_filter.1 hx).1,h.2.2.filter _⟩
theorem zwh{o:AM}(h:Km o)(q:Ap->Bool)(q':Am->Bool){k t n l:Int}{y:Bool}:Gy ⟨k,t,n,l,o.ak.filter q,o.ab.filter q',y⟩:=by
 have h1:=h.reads;have h2:=h.writes;refine⟨⟨?_,λx hx=>h1.2 x (List.mem_filter.1 hx).1⟩,⟨?_,λx hx=>h2.2 x (List.mem_filter.1 hx).1⟩⟩
 ·have:=List.length_filter_le q o.ak;have:=h1.1;dsimp only;omega
 ·have:=List.length_filter_le q' o.ab;have:=h2.1;dsimp only;omega
theorem mD{k t n l:Int}{y:Bool}:Gy ⟨k,t,n,l,[],[],y⟩:=⟨⟨by simp,by simp⟩,⟨by simp,by simp⟩⟩
theorem nW{k t n l:Int}{y:Bool}(hy:y=true->0<n)(ht:1<=t/\t<=60):Ik ⟨k,t,n,l,[],[],y⟩:=⟨by simp,by simp,List.Pairwise.nil,⟨by simp,by simp⟩,λ_ _ h=>hy h,λ_=>ht⟩
structure PR(d:Az)(x:Bu × Int):Prop where
 kz:CB x.1=true
 ok:Ik x.1
 small:Gy x.1
 lo:0<=x.2
 hi:x.2<=d.az.length
theorem zz3{d:Az}{o:AM}{p:Int}{x:Bu × Int}(g:GD d)(go:Er o=true)(so:Km o)(e:KD d o p=some x):PR d x:=by
 obtain⟨b1,b2,b3,b4⟩:=LN (d:=d) go;obtain⟨o1,⟨o2,o3,_⟩,o4,o5⟩:=Jg go;have hf:=g.ek;unfold KD at e;split at e
 ·rename_i hm;split at e
  ·cases e
  ·split at e
   ·cases e
   ·rename_i B5;cases e;obtain⟨q,hq,e⟩:=List.any_eq_true.1 hm;have e:q=p:=by simpa using e
    subst e;obtain⟨c1,c2⟩:=b1 q hq;obtain⟨_,Em,_⟩:=IP g c1 c2;obtain⟨_,gs⟩:=g.cf _ Em;have bY:=gs.floor;have I2:=List.length_filter_le (λk=>(Ds d.az k:Int)==q) o.ak;have JG:=List.length_filter_le (λw:Am=>(Ds d.az w.ah:Int)==q) o.ab;have BF:0<(KP d.az o.ak q).length+(Ki d.az o.ab q).length:=by
     rcases((ZE d.az o.ak o.ab).2 q).1 hq with⟨k,hk,e⟩|⟨w,hw,e⟩
     ·have:k∈KP d.az o.ak q:=List.mem_filter.2 ⟨hk,by simpa using e⟩;have:=List.length_pos_of_mem this;omega
     ·have:w∈Ki d.az o.ab q:=List.mem_filter.2 ⟨hw,by simpa using e⟩;have:=List.length_pos_of_mem this;omega
    have qH:=b1 _ b4;have gr:CB ⟨1,o.al,(C3 d q).aq+1,D5 d o,KP d.az o.ak q,Ki d.az o.ab q,false⟩=true:=by unfold CB;rw[if_pos rfl];simp only[Ab,AR];unfold KP Ki at BF ⊢;exact⟨Fm.2 o1,Fm.2 ⟨by omega,by omega⟩,Fm.2 ⟨by omega,by omega⟩,zuU _ o4,by omega,zuX _ o5,by omega,by omega,rfl⟩
    have sm:Gy ⟨1,o.al,(C3 d q).aq+1,D5 d o,KP d.az o.ak q,Ki d.az o.ab q,false⟩:=zwh so _ _;exact⟨gr,ZR sm gr rfl,sm,c1,c2⟩
 ·cases e
theorem nY{k t n:Int}{y:Bool}(hk:k=2\/k=3)(ht:1<=t/\t<=60)(hn:if y=true then 1<=n/\n<=100000 else n=0):CB ⟨k,t,n,0,[],[],y⟩=true:=by
 unfold CB;have h1: ¬k=1:=by omega
 simp only[if_neg h1,if_pos hk,Fm.2 ht];cases y with
 |true=>simp only[if_true]at hn ⊢;rw[Fm.2 hn];rfl
 |false=>simp only[AW,if_false]at hn ⊢;rw[hn];rfl
theorem zzn{d:Az}{o:AM}{t:Int}{x:Bu × Int}(g:GD d)(go:Er o=true)(e:LC d o t=some x):PR d x:=by
 obtain⟨b1,b2,b3,b4⟩:=LN (d:=d) go;obtain⟨o1,_,_⟩:=Jg go;unfold LC at e;split at e
 ·rename_i ht;have ht:=Fm.1 ht;split at e
  ·cases e
  ·rename_i n hn;cases e;obtain⟨_,m2,m3⟩:=rQ g b1 ht.1 ht.2 hn;have m4:=m3 λh=>by rw[h]at b4;simp at b4
   have:=b1 _ b4;exact⟨nY (.inl rfl) o1 (by rw[if_pos rfl];exact⟨m4,m2⟩),nW (λ_=>by omega) o1,mD,this.1,this.2⟩
 ·cases e
theorem zzE{d:Az}{o:AM}{x:Bu × Int}(go:Er o=true)(e:fJ d o=some x):PR d x:=by obtain⟨b1,b2,b3,b4⟩:=LN (d:=d) go;obtain⟨o1,_,_⟩:=Jg go;cases e;have:=b1 _ b4;exact⟨nY (.inl rfl) o1 (by simp),nW (λh=>by cases h) o1,mD,this.1,this.2⟩
theorem zzC{d:Az}{o:AM}{p:Int}{x:Bu × Int}(g:GD d)(go:Er o=true)(e:Ly d o p=some x):PR d x:=by
 obtain⟨b1,b2,b3,b4⟩:=LN (d:=d) go;obtain⟨o1,_,_⟩:=Jg go;unfold Ly at e;split at e
 ·cases e
 ·rename_i t ht;split at e
  ·rename_i hm;cases e;obtain⟨q,hq,e⟩:=List.any_eq_true.1 hm;have e:q=p:=by simpa using e
   subst e;have c:=b1 q (BO hq);obtain⟨l1,l2⟩:=b1 _ b4;obtain⟨_,Em,_⟩:=IP g l1 l2;obtain⟨_,gs⟩:=g.cf _ Em;have hf:=gs.floor;have h1:=(gs.told t (zCf ht)).1;refine⟨nY (.inr rfl) o1 ?_,nW (λh=> ?_) o1,mD,c.1,c.2⟩
   ·split
    ·rename_i hy;rw[if_pos hy]at h1;omega
    ·rename_i hy;rw[if_neg hy]at h1;exact h1
   ·rw[if_pos h]at h1;omega
  ·cases e
theorem zzM{d:Az}{o:AM}{a:Ea}{x:Bu × Int}(g:GD d)(go:Er o=true)(so:Km o)(e:MU d o a=some x):PR d x:=by
 unfold MU at e;split at e
 ·split at e
  ·exact zz3 g go so e
  ·cases e
 ·split at e
  ·split at e
   ·exact zzn g go e
   ·cases e
  ·split at e
   ·split at e
    ·exact zzE go e
    ·cases e
   ·split at e
    ·split at e
     ·exact zzC g go e
     ·cases e
    ·cases e
def Nx(d:Az)(x:Bu × Int):Option Az:=(DA (C3 d x.2) x.1).map λs=>⟨d.az,d.ax.set x.2.toNat s,d.ar⟩
def Qj(x:Option Az):Az × Bool:=match x with
 |some d=>(d,true)
 |none=>(⟨[],[],[]⟩,false)
theorem zFj{d d':Az}{x:Bu × Int}(g:GD d)(hx:PR d x)(e:Nx d x=some d'):GD d':=by
 obtain⟨_,Em,_⟩:=IP g hx.lo hx.hi;obtain⟨ws,gs⟩:=g.cf _ Em;unfold Nx at e;cases hq:DA (C3 d x.2) x.1 with
 |none=>rw[hq]at e;cases e
 |some s=>
  rw[hq]at e;cases e;refine⟨g.dh,g.keys,g.ek,by rw[List.length_set];exact g.len,λy hy=> ?_,g.di,g.dk⟩;rcases List.mem_or_eq_of_mem_set hy with h|h
  ·exact g.cf y h
  ·rw[h];exact⟨zCn ws hx.ok hq,zCA ws gs hx.kz hq⟩
theorem Zs{d:Az}{x:Bu × Int}(g:GD d)(hx:PR d x):OW d x.2 x.1=some (Qj (Nx d x)):=by
 obtain⟨e1,Em,_⟩:=IP g hx.lo hx.hi;obtain⟨ws,gs⟩:=g.cf _ Em;unfold OW Nx;rw[e1,Aa,zCY ws hx.ok,Aa];cases hq:DA (C3 d x.2) x.1 with
 |none=>rfl
 |some s=>rw[if_neg (by simp),zwq g,Aa,e1,Aa];rfl
def Xj(d:Az)(x:SW):Az × Bool:=Qj (x.bind (Nx d))
theorem nU{xs:List Int}{p:Int}:xs.any (· ==p)=true↔p∈xs:=by
 rw[List.any_eq_true];constructor
 ·rintro⟨q,hq,e⟩;have:q=p:=by simpa using e
  rw[<-this];exact hq
 ·intro h;exact⟨p,h,by simp⟩
theorem zyr{d:Az}{o:AM}{p:Int}(g:GD d)(go:Er o=true)(so:Km o):XI d o p=some (Xj d (KD d o p)):=by
 obtain⟨b1,b2,b3,b4⟩:=LN (d:=d) go;obtain⟨o1,⟨o2,o3,_⟩,o4,o5⟩:=Jg go;have hf:=g.ek;have l1:=b1 _ b4;obtain⟨s1,s2,_⟩:=IP g l1.1 l1.2;obtain⟨w1,_⟩:=g.cf _ s2;have JR:=w1.cw;unfold XI;rw[VE g go,Aa,vM (by omega),Aa];by_cases hm:(CN d o).any (· ==p)=true
 ·have c:=b1 p (nU.1 hm);obtain⟨t1,t2,_⟩:=IP g c.1 c.2;obtain⟨_,gs⟩:=g.cf _ t2;have B5:=gs.floor;rw[hm,if_neg (by simp),b3,Aa,s1,Aa,VN (by omega) w1.dn,Aa];by_cases ht:(Fp (C3 d (D5 d o)) o.al).isSome=true
  ·rw[if_pos ht];unfold KD;rw[if_pos hm,if_pos ht];rfl
  ·rw[if_neg ht,t1,Aa,show IntKind.i64.wrap ((C3 d p).aq+1)=(C3 d p).aq+1 from CM (by omega) (by omega)];unfold jZ;by_cases hq:(C3 d p).aq=100000
   ·rw[if_pos (by simp;omega),Aa,if_pos (by simp)];unfold KD;rw[if_pos hm,if_neg ht,if_pos hq];rfl
   ·rw[if_neg (by simp;omega),Aa,if_neg (by simp),zx7 (by omega) (by omega),Aa,zw1 (by omega) (by omega),Aa];have e:KD d o p=some (⟨1,o.al,(C3 d p).aq+1,D5 d o,KP d.az o.ak p,Ki d.az o.ab p,false⟩,p):=by
     unfold KD;rw[if_pos hm,if_neg ht,if_neg hq]
    exact(Z6 (Zs g (zz3 g go so e))).trans (by rw[e];rfl)
 ·rw[Bool.eq_false_iff.2 hm,if_pos (by rfl)];unfold KD;rw[if_neg hm];rfl
theorem zzX{d:Az}{o:AM}(g:GD d)(go:Er o=true):XU d o=some (Xj d (fJ d o)):=by obtain⟨b1,b2,b3,b4⟩:=LN (d:=d) go;unfold XU;rw[VE g go,Aa,b3,Aa];exact(Z6 (Zs g (zzE (d:=d) go rfl))).trans rfl
theorem zyn{d:Az}{o:AM}{p:Int}(g:GD d)(go:Er o=true):XH d o p=some (Xj d (Ly d o p)):=by
 obtain⟨b1,b2,b3,b4⟩:=LN (d:=d) go;have hf:=g.ek;have l1:=b1 _ b4;have hpos:=List.length_pos_of_mem b4;obtain⟨s1,s2,_⟩:=IP g l1.1 l1.2;obtain⟨w1,_⟩:=g.cf _ s2;have JR:=w1.cw;unfold XH;rw[VE g go,Aa,b3,Aa,s1,Aa,VN (by omega) w1.dn,Aa];cases ht:Fp (C3 d (D5 d o)) o.al with
 |none=>rw[if_pos (by simp)];unfold XB Ly;rw[if_pos rfl,ht];rfl
 |some t=>
  rw[if_neg (by simp),Ba (by omega),show A3 (CN d o) 1 ((CN d o).length:Int)=(CN d o).drop 1 from Ur _ 1,vM (by rw[BD];omega),Aa];unfold XB;cases hm:((CN d o).drop 1).any (· ==p)with
  |false=>rw[if_pos (by simp)];unfold Ly;rw[ht];simp only[hm];rfl
  |true=>
   have e:Ly d o p=some (⟨3,o.al,t.af,0,[],[],t.bk⟩,p):=by unfold Ly;rw[ht];simp only[hm];rfl
   rw[if_neg (by simp)];show(An (C3 d (D5 d o)).ao ((AD (A0 tk o.al) (C3 d (D5 d o)).ao:Nat):Int)).bind _=_;rw[x7 w1.dn ht,Aa];exact(Z6 (Zs g (zzC g go e))).trans (by rw[e];rfl)
def zGH(d:Az)(o:AM)(p n:Int):Option (Int ⊕ Option (Az × Bool)):=match CY (C3 d p) o.al with
 |none=>some (.inr (some (⟨[],[],[]⟩,false)))
 |some h=>some (.inl (if h.af>n then h.af else n))
theorem aR{β:Type}{d:Az}{t:Int}{z:Option β}{fin:Int->Option β}{step:Int->Int->Option (Int ⊕ Option β)}
  (hs:∀p n,step p n=match CY (C3 d p) t with|none=>some (.inr z)|some h=>some (.inl (if h.af>n then h.af else n))):∀(ps:List Int) (n:Int),GH step fin ps n=match Me d t ps n with|none=>z|some m=>fin m
 | [],n=>rfl
 |p::ps,n=>by
  unfold GH Me;rw[hs];cases CY (C3 d p) t with
  |none=>rfl
  |some h=>exact aR hs ps _
theorem zzG{d:Az}{o:AM}{n:Int}(g:GD d)(go:Er o=true):XR d o n=some (Xj d (LC d o n)):=by
 obtain⟨b1,b2,b3,b4⟩:=LN (d:=d) go;have hf:=g.ek;unfold XR;rw[zCL,Aa];cases hn:BH n 0 100000 with
 |false=>rw[if_pos (by rfl)];unfold LC;rw[hn,if_neg (by simp)];rfl
 |true=>
  rw[if_neg (by simp),VE g go,Aa];refine(Vv (xs:=CN d o) (body:=λz:Int × Int=>QJ d o (CN d o) z.1 z.2) (λi n=>(n,i)) (λp n=>match CY (C3 d p) o.al with|none=>some (.inr (some (⟨[],[],[]⟩,false)))|some h=>some (.inl (if h.af>n then h.af else n))) (λn=>Xz d o n)
   (λi hi n=>by
    have c:=b1 _ (AF hi);obtain⟨t1,t2,_⟩:=IP g c.1 c.2;obtain⟨w1,_⟩:=g.cf _ t2;have hw:=w1.ek;show QJ d o (CN d o) n (i:Int)=_;unfold QJ;rw[if_pos (by simpa using hi),AP hi,Aa,t1,Aa,VK (by omega) w1.dh,Aa,BA (by omega)];cases hh:CY (C3 d (CN d o)[i]) o.al with
    |none=>rfl
    |some h=>
     rw[if_neg (by simp)];show(An (C3 d (CN d o)[i]).ae ((AD (A0 hk o.al) (C3 d (CN d o)[i]).ae:Nat):Int)).bind _=_;rw[x7 w1.dh hh,Aa];by_cases hq:h.af>n
     ·rw[decide_eq_true hq];simp only[if_pos hq];rfl
     ·rw[decide_eq_false hq];simp only[if_neg hq];rfl)
   (λn=>by show QJ d o (CN d o) n ((CN d o).length:Int)=_;unfold QJ;rw[if_neg (by simp)]) n).trans ?_
  rw[aR (d:=d) (t:=o.al) λp n=>rfl];cases hq:Me d o.al (CN d o) n with
  |none=>unfold LC;rw[hn,if_pos rfl,hq];rfl
  |some m=>
   have e:LC d o n=some (⟨2,o.al,m,0,[],[],true⟩,D5 d o):=by unfold LC;rw[hn,if_pos rfl,hq]
   show Xz d o m=_;unfold Xz;rw[VE g go,Aa,b3,Aa];exact(Z6 (Zs g (zzn g go e))).trans (by rw[e];rfl)
def PN(d:Az)(a:Ea):Option Az:=match An d.ar (CT (λo=>o.al==a.al) d.ar)with
 |none=>none
 |some o=>(MU d o a).bind (Nx d)
theorem zED{d:Az}{a:Ea}(g:GD d):X6 d a=some (Qj (PN d a)):=by
 have hl:=g.di;unfold X6 PN;rw[show Gu d.ar (λy0_=>gE y0_ a)=some (CT (λo:AM=>o.al==a.al) d.ar)from zv5 _ (λo _=>rfl) (by omega),Aa];have P3:=Pv (λo:AM=>o.al==a.al) d.ar;by_cases hi:CT (λo:AM=>o.al==a.al) d.ar<0
 ·have e:An d.ar (CT (λo:AM=>o.al==a.al) d.ar)=none:=by unfold An;rw[if_neg (by omega)]
  rw[if_pos (by simpa using hi),e];rfl
 ·obtain⟨o,e,_,ho⟩:=nM (p:=λo:AM=>o.al==a.al) (l:=d.ar) (by omega);obtain⟨go,so⟩:=g.dk o ho;rw[if_neg (by simpa using hi),e,Aa];simp only;unfold MU;by_cases k1:a.bb=1
  ·rw[if_pos k1];by_cases t:a.af=0
   ·rw[if_pos (by simp[k1,t]),if_pos t,zyr g go so];rfl
   ·rw[if_neg (by simp[t]),if_neg (by simp[k1]),if_neg (by simp[t]),if_neg (by simp[t]),if_neg t];rfl
  ·rw[if_neg k1,if_neg (by simp[k1])];by_cases k2:a.bb=2
   ·rw[if_pos k2];by_cases t:a.bm=0
    ·rw[if_pos (by simp[k2,t]),if_pos t,zzG g go];rfl
    ·rw[if_neg (by simp[t]),if_neg (by simp[t]),if_neg (by simp[k2]),if_neg t];rfl
   ·rw[if_neg k2,if_neg (by simp[k2])];by_cases k3:a.bb=3
    ·rw[if_pos k3];by_cases t:a.bm=0/\a.af=0
     ·rw[if_pos (by simp[k3,t.1,t.2]),if_pos t,zzX g go];rfl
     ·rw[if_neg (by simp[k3];omega),if_neg (by simp[k3]),if_neg t];rfl
    ·rw[if_neg k3,if_neg (by simp[k3])];by_cases k4:a.bb=4
     ·rw[if_pos k4];by_cases t:a.af=0
      ·rw[if_pos (by simp[k4,t]),if_pos t,zyn g go];rfl
      ·rw[if_neg (by simp[t]),if_neg t];rfl
     ·rw[if_neg k4,if_neg (by simp[k4])];rfl
theorem zDV{d d':Az}{a:Ea}(g:GD d)(e:PN d a=some d'):GD d':=by
 unfold PN at e;split at e
 ·cases e
 ·rename_i o ho;obtain⟨go,so⟩:=g.dk o (zCN ho);cases hr:MU d o a with
  |none=>rw[hr]at e;cases e
  |some x=>rw[hr]at e;exact zFj g (zzM g go so hr) e
theorem zye{s:Aj}(w:WS s)(gs:Jn s):∀x∈s.ae,Gy (D4 x):=λx hx=>by obtain⟨⟨h1,_,_⟩,h2⟩:=w.held x hx;obtain⟨h3,_⟩:=gs.single x hx;unfold CB at h3;rw[if_pos (show(D4 x).bb=1 from rfl)]at h3;simp only[Ab]at h3;have h4:Ep x.ak=true:=h3.2.2.2.1;unfold Ep at h4;rw[Ab,Bj]at h4;refine⟨⟨by show x.ak.length<=_;omega,λk hk=> ?_⟩,⟨by have:=h2.1;show x.ab.length<=_;omega,h2.2⟩⟩;have:=h4.1 k hk;unfold Dg at this;rw[Ab]at this;have:=Fm.1 this.1;omega
theorem yW{s:Aj}(w:WS s)(gs:Jn s):LJ s=some true:=by rw[zBi w (w.cells.small (by omega)) (zye w gs),xM.2 gs]
theorem zDZ{s:Aj}(w:WS s)(gs:Jn s):X7 s 0=some (if s.aq=100000 then(0,false)else(s.aq+1,true)):=by
 have hf:=gs.floor;have e:J7 s.aq 0=some s.aq:=by
  unfold J7;by_cases h:s.aq>0
  ·rw[if_pos (by simpa using h)]
  ·rw[if_neg (by simpa using h),show s.aq=0 by omega]
 unfold X7;rw[yW w gs,Aa,if_pos rfl,zV,Aa,if_pos (by rfl),e,Aa];by_cases h:s.aq=100000
 ·rw[if_pos (by simpa using h),if_pos h]
 ·rw[if_neg (by simpa using h),if_neg h,Aa,show IntKind.i64.wrap (s.aq+1)=s.aq+1 from CM (by omega) (by omega)]
theorem zwN{s:Aj}{r:Bu}(w:WS s)(gs:Jn s)(gr:CB r=true)(hr:Ik r)(sr:Gy r):Yi s r=some (match DA s r with|some s'=>(s',true)|none=>(⟨0,[],[],[]⟩,false)):=by
 unfold Yi;obtain⟨x,e1,e2⟩:=zCB w hr;rw[yW w gs,Aa,if_pos rfl,aA sr,gr,Aa,if_neg (by simp),e1,Aa];cases hq:DA s r with
 |none=>rfl
 |some s'=>rw[e2 s' hq];rfl
theorem zC0{xs:List Int}{x p:Int}(h:Ce ik xs)(h0:An xs 0=some x):(xs.drop 1).any (· ==p)=(!(p==x)&&xs.any (· ==p)):=by
 cases xs with
 |nil=>cases h0
 |cons y ys=>
  have:y=x:=by simpa[An]using h0
  subst this;have h1:=(List.pairwise_cons.1 h).1;rw[List.any_cons];by_cases e:p=y
  ·subst e;have:ys.any (· ==p)=false:=by
    rw[Bool.eq_false_iff];intro hm;have:p<p:=h1 p (nU.1 hm);omega
   simp[this]
  ·have e1:(p==y)=false:=by simpa using e
   have e2:(y==p)=false:=by simpa using λq=>e q.symm
   simp[e1,e2]
theorem zFm{d:Az}{o:AM}{a:Ea}(g:GD d)(go:Er o=true)(so:Km o):∃r p b,Y6 d o a=some (r,p,b)/\((MU d o a=none/\b=false)\/(MU d o a=some (r,p)/\b=true)):=by
 obtain⟨b1,b2,b3,b4⟩:=LN (d:=d) go;obtain⟨o1,⟨o2,o3,_⟩,o4,o5⟩:=Jg go;have hf:=g.ek;have l1:=b1 _ b4;obtain⟨s1,s2,_⟩:=IP g l1.1 l1.2;obtain⟨w1,_⟩:=g.cf _ s2;have JR:=w1.cw;unfold Y6;rw[zBJ g go,Aa,b3,Aa,s1,Aa,xR (by omega),Aa];unfold MU;by_cases k1:a.bb=1
 ·rw[if_pos (by simpa using k1),if_pos k1];unfold KD;cases ht:Fp (C3 d (D5 d o)) o.al with
  |some t=>exact⟨_,_,_,rfl, .inl ⟨by split<;>(try split)<;>simp,rfl⟩⟩
  |none=>
   by_cases t:a.af=0
   ·simp only[AW,if_false,if_pos t,Option.isSome_none];rw[if_neg (by simp[t]),r7 (by omega),Aa];cases hm:(CN d o).any (· ==a.bm)with
    |false=>exact⟨_,_,_,rfl, .inl ⟨by simp,rfl⟩⟩
    |true=>
     have c:=b1 _ (nU.1 hm);obtain⟨t1,t2,_⟩:=IP g c.1 c.2;obtain⟨w2,gs⟩:=g.cf _ t2;rw[if_neg (by simp),t1,Aa,zDZ w2 gs,Aa,zCF g.dh (by omega) (by omega) (by omega),Aa];by_cases hq:(C3 d a.bm).aq=100000
     ·exact⟨_,_,_,rfl, .inl ⟨by simp only[if_true,AW,if_false,if_pos hq],by rw[if_pos hq]⟩⟩
     ·refine⟨_,_,_,rfl, .inr ⟨?_,by rw[if_neg hq]⟩⟩;simp only[if_true,AW,if_false,if_neg hq]
   ·simp only[AW,if_false,if_neg t];rw[if_pos (by simp[t])];exact⟨_,_,_,rfl, .inl ⟨by simp,rfl⟩⟩
 ·rw[if_neg (by simpa using k1),if_neg k1];by_cases k2:a.bb=2
  ·rw[if_pos (by simpa using k2),if_pos k2];have e:Av (λz:Int × Int=>O0 d o a (CN d o) (D5 d o) z.1 z.2) (a.af,0)=match Me d o.al (CN d o) a.af with|none=>some (⟨0,0,0,0,[],[],false⟩,0,false)|some m=>UK o a (D5 d o) m:=by
    refine(Vv (xs:=CN d o) (body:=λz:Int × Int=>O0 d o a (CN d o) (D5 d o) z.1 z.2) (λi n=>(n,i)) (λp n=>match CY (C3 d p) o.al with|none=>some (.inr (some (⟨0,0,0,0,[],[],false⟩,0,false)))|some h=>some (.inl (if h.af>n then h.af else n))) (λn=>UK o a (D5 d o) n)
     (λi hi n=>by
      have c:=b1 _ (AF hi);obtain⟨t1,t2,_⟩:=IP g c.1 c.2;obtain⟨w1,_⟩:=g.cf _ t2;have hw:=w1.ek;show O0 d o a (CN d o) (D5 d o) n (i:Int)=_;unfold O0;rw[if_pos (by simpa using hi),AP hi,Aa,t1,Aa,ZG (by omega),Aa,BA (by omega)];cases hh:CY (C3 d (CN d o)[i]) o.al with
      |none=>rfl
      |some h=>
       simp only[Bool.not_true,AW,if_false];have em:J7 n h.af=some (if h.af>n then h.af else n):=by
        unfold J7;by_cases q1:n>h.af
        ·rw[if_pos (by simpa using q1),if_neg (by omega)]
        ·rw[if_neg (by simpa using q1)];by_cases q2:h.af>n
         ·rw[if_pos q2]
         ·rw[if_neg q2,show h.af=n by omega]
       rw[em,Aa];rfl)
     (λn=>by show O0 d o a (CN d o) (D5 d o) n ((CN d o).length:Int)=_;unfold O0;rw[if_neg (by simp)]) a.af).trans ?_
    rw[aR (d:=d) (t:=o.al) λp n=>rfl]
   rw[e];unfold LC;cases hq:Me d o.al (CN d o) a.af with
   |none=>exact⟨_,_,_,rfl, .inl ⟨by split<;>(try split)<;>rfl,rfl⟩⟩
   |some m=>
    show∃r p b,UK o a (D5 d o) m=some (r,p,b)/\_;unfold UK;by_cases t:a.bm=0
    ·rw[if_pos (by simpa using t),if_pos t,zV,Aa];cases BH a.af 0 100000 with
     |false=>exact⟨_,_,_,rfl, .inl ⟨by simp,rfl⟩⟩
     |true=>exact⟨_,_,_,rfl, .inr ⟨by simp,rfl⟩⟩
    ·rw[if_neg (by simpa using t),if_neg t];exact⟨_,_,_,rfl, .inl ⟨rfl,rfl⟩⟩
  ·rw[if_neg (by simpa using k2),if_neg k2];by_cases k3:a.bb=3
   ·rw[if_pos (by simpa using k3),if_pos k3];by_cases t:a.bm=0/\a.af=0
    ·exact⟨_,_,_,rfl, .inr ⟨by rw[if_pos t];rfl,by simp[t.1,t.2]⟩⟩
    ·exact⟨_,_,_,rfl, .inl ⟨by rw[if_neg t],by simp;omega⟩⟩
   ·rw[if_neg (by simpa using k3),if_neg k3];by_cases k4:a.bb=4
    ·rw[if_pos (by simpa using k4),if_pos k4];have MK:=zC0 (p:=a.bm) (ZE d.az o.ak o.ab).1 b3;unfold Ly;cases ht:Fp (C3 d (D5 d o)) o.al with
     |none=>exact⟨_,_,_,rfl, .inl ⟨by split<;>rfl,rfl⟩⟩
     |some t=>
      simp only[if_true];by_cases q:a.af=0
      ·rw[if_pos (by simpa using q),if_pos q];by_cases q2:a.bm=D5 d o
       ·rw[if_neg (by simp[q2])];refine⟨_,_,_,rfl, .inl ⟨?_,rfl⟩⟩;have:((CN d o).drop 1).any (· ==a.bm)=false:=by
         refine MK.trans ?_;simp[q2]
        rw[this];rfl
       ·rw[if_pos (by simp[q2]),r7 (by omega),Aa];have e2:((CN d o).drop 1).any (· ==a.bm)=(CN d o).any (· ==a.bm):=by
         refine MK.trans ?_;have:(a.bm==D5 d o)=false:=by simpa using q2
         rw[this];rfl
        rw[e2];cases(CN d o).any (· ==a.bm)with
        |false=>exact⟨_,_,_,rfl, .inl ⟨rfl,rfl⟩⟩
        |true=>exact⟨_,_,_,rfl, .inr ⟨rfl,rfl⟩⟩
      ·rw[if_neg (by simpa using q),if_neg q];exact⟨_,_,_,rfl, .inl ⟨rfl,rfl⟩⟩
    ·rw[if_neg (by simpa using k4),if_neg k4];exact⟨_,_,_,rfl, .inl ⟨rfl,rfl⟩⟩
theorem zFn{d:Az}{t:Int}(h:d.ar.length<=2000000):Y9 d t=some (CT (λo=>o.al==t) d.ar):=by
 unfold Y9;rw[ZV (xs:=d.ar) (body:=λi=>RE d t i) (λo=>o.al==t) (λi hi=>by
  show RE d t (i:Int)=_;unfold RE;rw[if_pos (by simpa using hi),AP hi,Aa,BA (by omega)];cases(d.ar[i]).al==t<;>rfl) (by
  show RE d t (d.ar.length:Int)=_;unfold RE;rw[if_neg (by simp)])]
theorem zEh{d:Az}{a:Ea}(g:GD d):YG d a=some (Qj (PN d a)):=by
 have hl:=g.di;unfold YG PN;rw[zFn (by omega),Aa];have P3:=Pv (λo:AM=>o.al==a.al) d.ar;by_cases hi:CT (λo:AM=>o.al==a.al) d.ar<0
 ·have e:An d.ar (CT (λo:AM=>o.al==a.al) d.ar)=none:=by unfold An;rw[if_neg (by omega)]
  rw[if_pos (by simpa using hi),e];rfl
 ·obtain⟨o,e,_,ho⟩:=nM (p:=λo:AM=>o.al==a.al) (l:=d.ar) (by omega);obtain⟨go,so⟩:=g.dk o ho;rw[if_neg (by simpa using hi),e,Aa];obtain⟨r,p,b,e1,e2|e2⟩:=zFm (a:=a) g go so
  ·obtain⟨e2,rfl⟩:=e2;rw[e1,Aa,if_pos (by rfl)];simp only[e2];rfl
  ·obtain⟨e2,rfl⟩:=e2;have ok:=zzM g go so e2;obtain⟨t1,t2,_⟩:=IP g ok.lo ok.hi;obtain⟨w2,gs⟩:=g.cf _ t2;have t1:An d.ax p=some (C3 d p):=t1;rw[e1,Aa,if_neg (by simp)];simp only[e2];rw[t1,Aa,zwN w2 gs ok.kz ok.ok ok.small,Aa];show _=some (Qj (Nx d (r,p)));unfold Nx;show _=some (Qj ((DA (C3 d p) r).map _));cases hq:DA (C3 d p) r with
   |none=>rfl
   |some s=>rw[if_neg (by simp),zyD g,Aa,t1,Aa];rfl
theorem OM{α:Type}{f:α->Option α}{d:α}{b:Int}{xs:List α}(hl:xs.length<=2000000)(h0:0<=b)(hb:b<=1000)(hx:∀x∈xs,f x=some x):toL f d b xs=some xs:=by
 unfold toL;have hq:(xs.length:Int)*b<=2000000*1000:=Int.mul_le_mul (by omega) hb h0 (by omega);rw[Ba (by omega)];exact sL (λi hi v hv=>by
  show Uq f xs i v=_;unfold Uq;rw[if_pos (by simpa using hi),AP hi,Aa,hx _ (AF hi),Aa,AP (by omega),Aa,FV hi (by omega)];rfl) (λv=>by
  show Uq f xs _ v=_;unfold Uq;rw[if_neg (by simp)])
theorem ON{α:Type}{f:α->α->Option Bool}{xs:List α}(hl:xs.length<=2000000)(hx:∀x∈xs,f x x=some true):K0 f xs xs=some true:=by
 unfold K0;rw[if_neg (by simp)];exact sQ (n:=xs.length) (λi hi=>by
  show Uv f xs xs i=_;unfold Uv;rw[if_pos (by simpa using hi),AP hi,Aa,Aa,hx _ (AF hi),Aa,if_neg (by simp),FV hi (by omega)]) (by
  show Uv f xs xs _=_;unfold Uv;rw[if_neg (by simp)])
theorem Qn{α:Type}{f:α->Int->Option Int}{tot:α->Nat}{xs:List α}{a:Int}(h0:0<=a)(h1:a<=1048576)(hl:xs.length<=9223372036854775807)(hx:∀x∈xs,∀b:Int,0<=b->b<=1048576-> ∃r,f x b=some r/\r<=b/\(0<=r->(tot x:Int)=b-r)):∃v,M0 f xs a=some v/\v<=a/\(0<=v->((xs.length+(xs.map tot).sum:Nat):Int)=a-v):=by
 unfold M0;rw[Nn h0 h1 hl];by_cases h2:a-(xs.length:Int)<0
 ·rw[if_pos (by simpa using h2)];exact⟨-1,rfl,by omega,by omega⟩
 ·rw[if_neg (by simpa using h2)];obtain⟨v,e1,e2,e3⟩:=rH (xs:=xs) (body:=λs:Int × Int=>Qo f xs s.1 s.2) tot (a:=a-xs.length) (by omega) (by omega) (λx WX b G9 Dx=>by
   obtain⟨r,e1,e2,e3⟩:=hx x WX b G9 Dx;refine⟨r,e2,e3,λi hi=> ?_⟩;have B6:=(List.getElem?_eq_some_iff.1 hi).1;show Qo f xs b i=_;unfold Qo;rw[if_pos (by simpa using B6),show An xs (i:Int)=some x by simpa[An]using hi,Aa,e1,Aa,FV B6 (by omega)];by_cases h3:r<0
   ·rw[if_pos (by simpa using h3),if_pos h3]
   ·rw[if_neg (by simpa using h3),if_neg h3]) (λb=>by
   show Qo f xs b _=_;unfold Qo;rw[if_neg (by simp)])
  exact⟨v,e1,by omega,λhv=>by have:=e3 hv;omega⟩
theorem Kt{k:Int}(h:0<=k):decide (k<0)=false:=by simp;omega
theorem Nd{α:Type}(tot:α->Nat){mb:Int × Int × List α->Option ((Int × Int × List α) ⊕ Option (Int × List α))}{hb:List α->Int × Int->Option ((Int × Int) ⊕ Option Int)}{B:Int}{xs:List α}{k:Int}{T:Nat}(h0:0<=k)(hT:xs.length+(xs.map tot).sum<=T)(hB:k+64*(T:Int)<=B)
  (hs:∀x∈xs,∀k:Int,0<=k->k+64*(1+(tot x:Int))<=B-> ∃(y:α) (k':Int),k<=k'/\k'<=k+64*(1+(tot x:Int))/\(∀(i:Nat) (v:List α),v[i]?=some x->i<xs.length->mb (k,(i:Int),v)=some (.inl (k',(i:Int)+1,v.set i y)))/\ ∀(i:Nat) (ys:List α),ys[i]?=some y->i<xs.length->hb ys (k,(i:Int))=some (.inl (k',(i:Int)+1)))
  (he:∀k v,v.length=xs.length->mb (k,(xs.length:Int),v)=some (.inr (some (k,v)))) (hh:∀k ys,ys.length=xs.length->hb ys (k,(xs.length:Int))=some (.inr (some k))):
  ∃(ys:List α) (k':Int),k<=k'/\k'<=k+64*(T:Int)/\ys.length=xs.length/\Av mb (k,0,xs)=some (k',ys)/\Av (hb ys) (k,0)=some k':=by
 have key:∀(suf pre:List α) (k:Int),pre.length+suf.length=xs.length->(∀x∈suf,x∈xs)->0<=k->k+64*((suf.length+(suf.map tot).sum:Nat):Int)<=B->
   ∃(suf':List α) (k':Int),k<=k'/\k'<=k+64*((suf.length+(suf.map tot).sum:Nat):Int)/\suf'.length=suf.length/\Av mb (k,(pre.length:Int),pre++suf)=some (k',pre++suf')/\Av (hb (pre++suf')) (k,(pre.length:Int))=some k':=by
  intro suf
  induction suf with
  |nil=>
   intro pre k hl _ _ _;have BL:(pre.length:Int)=(xs.length:Int):=by simp at hl;omega
   have JG:pre.length=xs.length:=by omega
   refine⟨[],k,by omega,by omega,rfl,?_,?_⟩
   ·rw[D3,BL,he _ _ (by simpa using JG)]
   ·rw[D3,BL,hh _ _ (by simpa using JG)]
  |cons x t ih=>
   intro pre k hl hm h0 Cc;rw[List.map_cons,List.sum_cons,A6]at Cc ⊢;obtain⟨y,k1,a1,b1,e1,e2⟩:=hs x (hm x (by simp)) k h0 (by omega);rw[A6]at hl;obtain⟨t',k2,a2,b2,f1,f2,f3⟩:=ih (pre++ [y]) k1 (by simp;omega) (λz hz=>hm z (by simp[hz])) (by omega) (by omega);have ea:pre++y::t'=pre++ [y]++t':=by simp
   have eb:(pre++x::t).set pre.length y=pre++ [y]++t:=by simp
   have ec:(((pre++ [y]).length:Nat):Int)=(pre.length:Int)+1:=by simp
   refine⟨y::t',k2,by omega,by omega,by simp[f1],?_,?_⟩
   ·rw[D3,e1 pre.length _ (by simp) (by omega),eb];show Av mb (k1,(pre.length:Int)+1,pre++ [y]++t)=_;rw[<-ec,f2,ea]
   ·rw[D3,e2 pre.length _ (by simp) (by omega),ea];show Av (hb (pre++ [y]++t')) (k1,(pre.length:Int)+1)=_;rw[<-ec,f3]
 obtain⟨ys,k',a,b,c,d,e⟩:=key xs [] k (by simp) (λ_ h=>h) h0 (by omega);exact⟨ys,k',a,by omega,c,by simpa using d,by simpa using e⟩
theorem Gw{α:Type}{xs:List α}{i:Nat}{x:α}(h:xs[i]?=some x):An xs (i:Int)=some x:=by simp[An,h]
noncomputable def mt(n:Int):Ag:=(Ho n).getD []
theorem Nc{n:Int}(h:n<=4611686018427387904):Ho n=some (mt n):=by
 have key:∃t,Ho n=some t:=by
  unfold Ho;by_cases h0:n<=0
  ·rw[if_pos (by simpa using h0)];exact⟨_,rfl⟩
  ·rw[if_neg (by simpa using h0)];have go:∀(f:Nat) (n:Int) (s:Ag),n.toNat<=f->0<=n->n+s.length<=4611686018427387905-> ∃t,Av (λs:Int × Ag=>M5 s.1 s.2) (n,s)=some t:=by
    intro f;have stop:∀(n:Int) (s:Ag),¬n>0->s.length<=4611686018427387905->Av (λs:Int × Ag=>M5 s.1 s.2) (n,s)=some ([109]++s):=λn s hz hs=>by refine Pk (?_:M5 n s=_);unfold M5;rw[if_neg (by simpa using hz)];unfold tR;rw[Ba (by rw[Bk];omega)]
    induction f with
    |zero=>intro n s hf hn hs;exact⟨_,stop n s (by omega) (by omega)⟩
    |succ f ih=>
     intro n s hf hn hs;by_cases hz:n>0
     ·have hd:Int.tdiv n 10<n/\0<=Int.tdiv n 10:=by
       rw[Int.tdiv_eq_ediv_of_nonneg hn];omega
      obtain⟨t,ht⟩:=ih (Int.tdiv n 10) ([(IntKind.u8.wrap (IntKind.i64.wrap ((48:Int)+(Int.tmod n 10))))].map (λn=>UInt8.ofNat n.toNat)++s) (by omega) (by omega) (by simp only[AO,List.length_map,Bk];omega);have e:M5 n s=some (.inl (Int.tdiv n 10,[(IntKind.u8.wrap (IntKind.i64.wrap ((48:Int)+(Int.tmod n 10))))].map (λn=>UInt8.ofNat n.toNat)++s)):=by unfold M5;rw[if_pos (by simpa using hz),Ba (by simp),Ba (by rw[List.length_map,Bk];omega),CM (n:=Int.tdiv n 10) (by omega) (by omega)]
      exact⟨t,(ZI (body:=λs:Int × Ag=>M5 s.1 s.2) e).trans ht⟩
     ·exact⟨_,stop n s hz (by omega)⟩
   exact go n.toNat n [] (AI _) (by omega) (by simp;omega)
 obtain⟨t,ht⟩:=key;rw[mt,ht];rfl
def D9(l:List (Ag)):Nat:=l.length+(l.map (λx:Ag=>x.length)).sum
theorem lR{xs:List (Ag)}(h:D9 xs<=2000000):Rf xs=some xs:=by
 have hl:xs.length<=2000000:=by unfold D9 at h;omega
 have hx:∀x∈xs,x.length<=2000000:=λx hx=>by have:=Fb (tot:=(λx:Ag=>x.length)) hx;unfold D9 at h;omega
 unfold Rf;rw[Ba (by omega)];exact sL (λi hi v hv=>by
  show UG xs i v=_;unfold UG;rw[if_pos (by simpa using hi),AP hi,Aa,AP (by omega),Aa,FV hi (by omega)];rfl) (λv=>by
  show UG xs _ v=_;unfold UG;rw[if_neg (by simp)])
theorem lZ{xs:List (Ag)}(h:D9 xs<=2000000):Re xs xs=some true:=by
 have hl:xs.length<=2000000:=by unfold D9 at h;omega
 have hx:∀x∈xs,x.length<=2000000:=λx hx=>by have:=Fb (tot:=(λx:Ag=>x.length)) hx;unfold D9 at h;omega
 unfold Re;rw[if_neg (by simp)];exact sQ (n:=xs.length) (λi hi=>by
  show UF xs xs i=_;unfold UF;rw[if_pos (by simpa using hi),AP hi,Aa,Aa,if_neg (by simp),FV hi (by omega)]) (by
  show UF xs xs _=_;unfold UF;rw[if_neg (by simp)])
theorem lX{xs:List (Ag)}{a:Int}(h0:0<=a)(h1:a<=1048576)(h:(DI Kr) xs):∃v,Q8 xs a=some v/\v<=a/\(0<=v->(D9 xs:Int)=a-v):=by
 have hl:xs.length<=9223372036854775807:=h.1;unfold Q8 D9;rw[Nn h0 h1 hl];by_cases h2:a-(xs.length:Int)<0
 ·rw[if_pos (by simpa using h2)];exact⟨-1,rfl,by omega,by omega⟩
 ·rw[if_neg (by simpa using h2)];obtain⟨v,e1,e2,e3⟩:=rH (xs:=xs) (body:=λs:Int × Int=>Q5 xs s.1 s.2) (λx:Ag=>x.length) (a:=a-xs.length) (by omega) (by omega) (λx hx b G9 Dx=>by
   refine⟨b-(x.length:Int),by omega,λ_=>by show(x.length:Int)=_;omega,λi hi=> ?_⟩;have B6:=(List.getElem?_eq_some_iff.1 hi).1;show Q5 xs b i=_;unfold Q5;rw[if_pos (by simpa using B6),Gw hi,Aa,Nn G9 Dx (h.2 _ hx),FV B6 (by omega)];by_cases h3:b-(x.length:Int)<0
   ·rw[if_pos (by simpa using h3),if_pos h3]
   ·rw[if_neg (by simpa using h3),if_neg h3]) (λb=>by
   show Q5 xs b _=_;unfold Q5;rw[if_neg (by simp)])
  exact⟨v,e1,by omega,λhv=>by have:=e3 hv;omega⟩
theorem kT{xs:List (Ag)}{k:Int}(h0:0<=k)(hk:k+64*(D9 xs:Int)<=4611686018427387904):∃(ys:List (Ag)) (k':Int),k<=k'/\k'<=k+64*(D9 xs:Int)/\ys.length=xs.length/\UD xs k=some (k',ys)/\UC ys k=some k':=by
 have hl:xs.length<=D9 xs:=by unfold D9;omega
 refine Nd (λx:Ag=>x.length) (mb:=λs:Int × Int × List (Ag)=>QH s.1 s.2.1 s.2.2) (hb:=λys s=>QI ys s.1 s.2) h0 (by simp[D9]) hk (λx hx k h0 hB=> ?_) (λk v hv=> ?_) (λk ys hy=> ?_)
 ·have hB:k+64*(1+(x.length:Int))<=4611686018427387904:=hB;refine⟨?y,k+1,by omega,by omega,λi v hv hi=> ?_,λi ys hy hi=> ?_⟩
  rotate_left
  ·have B6:=(List.getElem?_eq_some_iff.1 hv).1;show QH k i v=_;unfold QH;rw[if_pos (by simpa using B6)];simp(disch:=omega) only[Gw hv,CM,Bw,List.set_set,Aa,Nc]<;>rfl
  ·have B6:=(List.getElem?_eq_some_iff.1 hy).1;show QI ys k i=_;unfold QI;rw[if_pos (by simpa using B6)];simp(disch:=omega) only[Gw hy,bne_self_eq_false,AW,if_false,Kt,CM,Bw,List.set_set,Aa,Nc]<;>rfl
 ·show QH k _ v=_;unfold QH;rw[if_neg (by simp[hv])]
 ·show QI ys k _=_;unfold QI;rw[if_neg (by simp[hy])]
def GZ(x:BE):Nat:=x.bg.length
theorem zFb{x:BE}(h:GZ x<=2000000):kW x=some x:=rfl
theorem zFJ{x:BE}(h:GZ x<=2000000):Zd x x=some true:=by unfold Zd;simp[]
theorem zE7{x:BE}{a:Int}(h0:0<=a)(h1:a<=1048576)(h:Uk x):∃v,Ze x a=some v/\v<=a/\(0<=v->(GZ x:Int)=a-v):=by
 unfold Ze GZ;rw[Nn (a:=a) (by omega) (by omega) h.2.1];by_cases q1:a-(x.bg.length:Int)<0
 ·rw[if_pos (by simpa using q1)];exact⟨-1,rfl,by omega,by omega⟩
 rw[if_neg (by simpa using q1)];exact⟨(a-(x.bg.length:Int)),rfl,by omega,λ_=>by omega⟩
def Hu(l:List BE):Nat:=l.length+(l.map GZ).sum
theorem zEA{xs:List BE}(h:Hu xs<=2000000):kO xs=some xs:=by
 have hl:xs.length<=2000000:=by unfold Hu at h;omega
 have hx:∀x∈xs,GZ x<=2000000:=λx hx=>by have:=Fb (tot:=GZ) hx;unfold Hu at h;omega
 exact OM hl (by omega) (by omega) λx hm=>zFb (hx x hm)
theorem zDG{xs:List BE}(h:Hu xs<=2000000):kD xs xs=some true:=by
 have hl:xs.length<=2000000:=by unfold Hu at h;omega
 have hx:∀x∈xs,GZ x<=2000000:=λx hx=>by have:=Fb (tot:=GZ) hx;unfold Hu at h;omega
 exact ON hl λx hm=>zFJ (hx x hm)
theorem zDE{xs:List BE}{a:Int}(h0:0<=a)(h1:a<=1048576)(h:(DI Uk) xs):∃v,kA xs a=some v/\v<=a/\(0<=v->(Hu xs:Int)=a-v):=by have hl:xs.length<=9223372036854775807:=h.1;exact Qn (tot:=GZ) h0 h1 hl λx hx b G9 Dx=>zE7 (x:=x) G9 Dx (h.2 _ hx)
theorem zz0{xs:List BE}{k:Int}(h0:0<=k)(hk:k+64*(Hu xs:Int)<=4611686018427387904):∃(ys:List BE) (k':Int),k<=k'/\k'<=k+64*(Hu xs:Int)/\ys.length=xs.length/\iL xs k=some (k',ys)/\iK ys k=some k':=by
 have hl:xs.length<=Hu xs:=by unfold Hu;omega
 refine Nd GZ (mb:=λs:Int × Int × List BE=>QS s.1 s.2.1 s.2.2) (hb:=λys s=>QN ys s.1 s.2) h0 (by simp[Hu]) hk (λx hx k h0 hB=> ?_) (λk v hv=> ?_) (λk ys hy=> ?_)
 ·have hT:GZ x=x.bg.length:=rfl;refine⟨?y,k+1+1+1,by omega,by omega,λi v hv hi=> ?_,λi ys hy hi=> ?_⟩
  rotate_left
  ·have B6:=(List.getElem?_eq_some_iff.1 hv).1;show QS k i v=_;unfold QS;rw[if_pos (by simpa using B6)];simp(disch:=omega) only[Gw hv,CM,Bw,List.set_set,Aa,Nc]<;>rfl
  ·have B6:=(List.getElem?_eq_some_iff.1 hy).1;show QN ys k i=_;unfold QN;rw[if_pos (by simpa using B6)];simp(disch:=omega) only[Gw hy,bne_self_eq_false,AW,if_false,Kt,CM,Bw,List.set_set,Aa,Nc]<;>rfl
 ·show QS k _ v=_;unfold QS;rw[if_neg (by simp[hv])]
 ·show QN ys k _=_;unfold QN;rw[if_neg (by simp[hy])]
def FZ(x:Ai):Nat:=x.ah.length+Hu x.aw
theorem zD2{x:Ai}(h:FZ x<=2000000):Y7 x=some x:=by unfold Y7;simp only[zEA (xs:=x.aw) (by unfold FZ at h;omega),Aa]
theorem zEr{x:Ai}(h:FZ x<=2000000):Y4 x x=some true:=by unfold Y4;simp[zDG (xs:=x.aw) (by unfold FZ at h;omega)]
theorem zEw{x:Ai}{a:Int}(h0:0<=a)(h1:a<=1048576)(h:Wm x):∃v,YY x a=some v/\v<=a/\(0<=v->(FZ x:Int)=a-v):=by
 unfold YY FZ;rw[Nn (a:=a) (by omega) (by omega) h.1];by_cases q0:a-(x.ah.length:Int)<0
 ·rw[if_pos (by simpa using q0)];exact⟨-1,rfl,by omega,by omega⟩
 rw[if_neg (by simpa using q0)];obtain⟨b1,e1,g1,r1⟩:=zDE (xs:=x.aw) (a:=(a-(x.ah.length:Int))) (by omega) (by omega) h.2;rw[e1,Aa];by_cases q1:b1<0
 ·rw[if_pos (by simpa using q1)];exact⟨-1,rfl,by omega,by omega⟩
 rw[if_neg (by simpa using q1)];have s1:=r1 (by omega);exact⟨b1,rfl,by omega,λ_=>by omega⟩
def Gv(l:List Ai):Nat:=l.length+(l.map FZ).sum
theorem zCe{xs:List Ai}(h:Gv xs<=2000000):jH xs=some xs:=by
 have hl:xs.length<=2000000:=by unfold Gv at h;omega
 have hx:∀x∈xs,FZ x<=2000000:=λx hx=>by have:=Fb (tot:=FZ) hx;unfold Gv at h;omega
 exact OM hl (by omega) (by omega) λx hm=>zD2 (hx x hm)
theorem zCI{xs:List Ai}(h:Gv xs<=2000000):jI xs xs=some true:=by
 have hl:xs.length<=2000000:=by unfold Gv at h;omega
 have hx:∀x∈xs,FZ x<=2000000:=λx hx=>by have:=Fb (tot:=FZ) hx;unfold Gv at h;omega
 exact ON hl λx hm=>zEr (hx x hm)
theorem zBs{xs:List Ai}{a:Int}(h0:0<=a)(h1:a<=1048576)(h:(DI Wm) xs):∃v,jF xs a=some v/\v<=a/\(0<=v->(Gv xs:Int)=a-v):=by have hl:xs.length<=9223372036854775807:=h.1;exact Qn (tot:=FZ) h0 h1 hl λx hx b G9 Dx=>zEw (x:=x) G9 Dx (h.2 _ hx)
theorem zyC{xs:List Ai}{k:Int}(h0:0<=k)(hk:k+64*(Gv xs:Int)<=4611686018427387904):∃(ys:List Ai) (k':Int),k<=k'/\k'<=k+64*(Gv xs:Int)/\ys.length=xs.length/\iS xs k=some (k',ys)/\iY ys k=some k':=by
 have hl:xs.length<=Gv xs:=by unfold Gv;omega
 refine Nd FZ (mb:=λs:Int × Int × List Ai=>Q3 s.1 s.2.1 s.2.2) (hb:=λys s=>Q6 ys s.1 s.2) h0 (by simp[Gv]) hk (λx hx k h0 hB=> ?_) (λk v hv=> ?_) (λk ys hy=> ?_)
 ·have hT:FZ x=x.ah.length+Hu x.aw:=rfl;obtain⟨r0,k0,a0,b0, -,m0,g0⟩:=zz0 (xs:=x.aw) (k:=k+1) (by omega) (by omega);refine⟨?y,k0,by omega,by omega,λi v hv hi=> ?_,λi ys hy hi=> ?_⟩
  rotate_left
  ·have B6:=(List.getElem?_eq_some_iff.1 hv).1;show Q3 k i v=_;unfold Q3;rw[if_pos (by simpa using B6)];simp(disch:=omega) only[Gw hv,CM,Bw,List.set_set,Aa,Nc,m0]<;>rfl
  ·have B6:=(List.getElem?_eq_some_iff.1 hy).1;show Q6 ys k i=_;unfold Q6;rw[if_pos (by simpa using B6)];simp(disch:=omega) only[Gw hy,bne_self_eq_false,AW,if_false,Kt,CM,Bw,List.set_set,Aa,Nc,g0]<;>rfl
 ·show Q3 k _ v=_;unfold Q3;rw[if_neg (by simp[hv])]
 ·show Q6 ys k _=_;unfold Q6;rw[if_neg (by simp[hy])]
def GX(x:Am):Nat:=x.ah.length+x.bg.length
theorem zCl{x:Am}(h:GX x<=2000000):jJ x=some x:=rfl
theorem zBY{x:Am}(h:GX x<=2000000):YK x x=some true:=by unfold YK;simp[]
theorem zBE{x:Am}{a:Int}(h0:0<=a)(h1:a<=1048576)(h:Sv x):∃v,YM x a=some v/\v<=a/\(0<=v->(GX x:Int)=a-v):=by
 unfold YM GX;rw[Nn (a:=a) (by omega) (by omega) h.1];by_cases q0:a-(x.ah.length:Int)<0
 ·rw[if_pos (by simpa using q0)];exact⟨-1,rfl,by omega,by omega⟩
 rw[if_neg (by simpa using q0)];rw[Nn (a:=(a-(x.ah.length:Int))) (by omega) (by omega) h.2.1];by_cases q1:(a-(x.ah.length:Int))-(x.bg.length:Int)<0
 ·rw[if_pos (by simpa using q1)];exact⟨-1,rfl,by omega,by omega⟩
 rw[if_neg (by simpa using q1)];exact⟨((a-(x.ah.length:Int))-(x.bg.length:Int)),rfl,by omega,λ_=>by omega⟩
def E8(l:List Am):Nat:=l.length+(l.map GX).sum
theorem xI{xs:List Am}(h:E8 xs<=2000000):Ym xs=some xs:=by
 have hl:xs.length<=2000000:=by unfold E8 at h;omega
 have hx:∀x∈xs,GX x<=2000000:=λx hx=>by have:=Fb (tot:=GX) hx;unfold E8 at h;omega
 exact OM hl (by omega) (by omega) λx hm=>zCl (hx x hm)
theorem xK{xs:List Am}(h:E8 xs<=2000000):Yd xs xs=some true:=by
 have hl:xs.length<=2000000:=by unfold E8 at h;omega
 have hx:∀x∈xs,GX x<=2000000:=λx hx=>by have:=Fb (tot:=GX) hx;unfold E8 at h;omega
 exact ON hl λx hm=>zBY (hx x hm)
theorem x8{xs:List Am}{a:Int}(h0:0<=a)(h1:a<=1048576)(h:(DI Sv) xs):∃v,Yl xs a=some v/\v<=a/\(0<=v->(E8 xs:Int)=a-v):=by have hl:xs.length<=9223372036854775807:=h.1;exact Qn (tot:=GX) h0 h1 hl λx hx b G9 Dx=>zBE (x:=x) G9 Dx (h.2 _ hx)
theorem wF{xs:List Am}{k:Int}(h0:0<=k)(hk:k+64*(E8 xs:Int)<=4611686018427387904):∃(ys:List Am) (k':Int),k<=k'/\k'<=k+64*(E8 xs:Int)/\ys.length=xs.length/\XZ xs k=some (k',ys)/\X5 ys k=some k':=by
 have hl:xs.length<=E8 xs:=by unfold E8;omega
 refine Nd GX (mb:=λs:Int × Int × List Am=>Qz s.1 s.2.1 s.2.2) (hb:=λys s=>QA ys s.1 s.2) h0 (by simp[E8]) hk (λx hx k h0 hB=> ?_) (λk v hv=> ?_) (λk ys hy=> ?_)
 ·have hT:GX x=x.ah.length+x.bg.length:=rfl;refine⟨?y,k+1+1+1,by omega,by omega,λi v hv hi=> ?_,λi ys hy hi=> ?_⟩
  rotate_left
  ·have B6:=(List.getElem?_eq_some_iff.1 hv).1;show Qz k i v=_;unfold Qz;rw[if_pos (by simpa using B6)];simp(disch:=omega) only[Gw hv,CM,Bw,List.set_set,Aa,Nc]<;>rfl
  ·have B6:=(List.getElem?_eq_some_iff.1 hy).1;show QA ys k i=_;unfold QA;rw[if_pos (by simpa using B6)];simp(disch:=omega) only[Gw hy,bne_self_eq_false,AW,if_false,Kt,CM,Bw,List.set_set,Aa,Nc]<;>rfl
 ·show Qz k _ v=_;unfold Qz;rw[if_neg (by simp[hv])]
 ·show QA ys k _=_;unfold QA;rw[if_neg (by simp[hy])]
def FF(x:Ax):Nat:=D9 x.ak+E8 x.ab
theorem zEb{x:Ax}(h:FF x<=2000000):YR x=some x:=by unfold YR;simp only[lR (xs:=x.ak) (by unfold FF at h;omega),xI (xs:=x.ab) (by unfold FF at h;omega),Aa]
theorem zEc{x:Ax}(h:FF x<=2000000):Y2 x x=some true:=by unfold Y2;simp[lZ (xs:=x.ak) (by unfold FF at h;omega),xK (xs:=x.ab) (by unfold FF at h;omega)]
theorem zDY{x:Ax}{a:Int}(h0:0<=a)(h1:a<=1048576)(h:We x):∃v,Y0 x a=some v/\v<=a/\(0<=v->(FF x:Int)=a-v):=by
 unfold Y0 FF;obtain⟨b3,e3,g3,r3⟩:=lX (xs:=x.ak) (a:=a) (by omega) (by omega) h.2.2.2.1;rw[e3,Aa];by_cases q3:b3<0
 ·rw[if_pos (by simpa using q3)];exact⟨-1,rfl,by omega,by omega⟩
 rw[if_neg (by simpa using q3)];have s3:=r3 (by omega);obtain⟨b4,e4,g4,r4⟩:=x8 (xs:=x.ab) (a:=b3) (by omega) (by omega) h.2.2.2.2;rw[e4,Aa];by_cases q4:b4<0
 ·rw[if_pos (by simpa using q4)];exact⟨-1,rfl,by omega,by omega⟩
 rw[if_neg (by simpa using q4)];have s4:=r4 (by omega);exact⟨b4,rfl,by omega,λ_=>by omega⟩
def GV(l:List Ax):Nat:=l.length+(l.map FF).sum
theorem zCq{xs:List Ax}(h:GV xs<=2000000):jQ xs=some xs:=by
 have hl:xs.length<=2000000:=by unfold GV at h;omega
 have hx:∀x∈xs,FF x<=2000000:=λx hx=>by have:=Fb (tot:=FF) hx;unfold GV at h;omega
 exact OM hl (by omega) (by omega) λx hm=>zEb (hx x hm)
theorem zCh{xs:List Ax}(h:GV xs<=2000000):jN xs xs=some true:=by
 have hl:xs.length<=2000000:=by unfold GV at h;omega
 have hx:∀x∈xs,FF x<=2000000:=λx hx=>by have:=Fb (tot:=FF) hx;unfold GV at h;omega
 exact ON hl λx hm=>zEc (hx x hm)
theorem zBH{xs:List Ax}{a:Int}(h0:0<=a)(h1:a<=1048576)(h:(DI We) xs):∃v,jG xs a=some v/\v<=a/\(0<=v->(GV xs:Int)=a-v):=by have hl:xs.length<=9223372036854775807:=h.1;exact Qn (tot:=FF) h0 h1 hl λx hx b G9 Dx=>zDY (x:=x) G9 Dx (h.2 _ hx)
theorem zyq{xs:List Ax}{k:Int}(h0:0<=k)(hk:k+64*(GV xs:Int)<=4611686018427387904):∃(ys:List Ax) (k':Int),k<=k'/\k'<=k+64*(GV xs:Int)/\ys.length=xs.length/\iV xs k=some (k',ys)/\iU ys k=some k':=by
 have hl:xs.length<=GV xs:=by unfold GV;omega
 refine Nd FF (mb:=λs:Int × Int × List Ax=>Q4 s.1 s.2.1 s.2.2) (hb:=λys s=>Q0 ys s.1 s.2) h0 (by simp[GV]) hk (λx hx k h0 hB=> ?_) (λk v hv=> ?_) (λk ys hy=> ?_)
 ·have hT:FF x=D9 x.ak+E8 x.ab:=rfl;obtain⟨r0,k0,a0,b0, -,m0,g0⟩:=kT (xs:=x.ak) (k:=k+1+1+1) (by omega) (by omega);obtain⟨r1,k1,a1,b1, -,m1,g1⟩:=wF (xs:=x.ab) (k:=k0) (by omega) (by omega);refine⟨?y,k1,by omega,by omega,λi v hv hi=> ?_,λi ys hy hi=> ?_⟩
  rotate_left
  ·have B6:=(List.getElem?_eq_some_iff.1 hv).1;show Q4 k i v=_;unfold Q4;rw[if_pos (by simpa using B6)];simp(disch:=omega) only[Gw hv,CM,Bw,List.set_set,Aa,m0,m1]<;>rfl
  ·have B6:=(List.getElem?_eq_some_iff.1 hy).1;show Q0 ys k i=_;unfold Q0;rw[if_pos (by simpa using B6)];simp(disch:=omega) only[Gw hy,bne_self_eq_false,AW,if_false,Kt,CM,Bw,List.set_set,Aa,g0,g1]<;>rfl
 ·show Q4 k _ v=_;unfold Q4;rw[if_neg (by simp[hv])]
 ·show Q0 ys k _=_;unfold Q0;rw[if_neg (by simp[hy])]
theorem zDH{x:Bh}:kL x=some x:=rfl
theorem zEa{x:Bh}:YW x x=some true:=by unfold YW;simp[]
def Hs(l:List Bh):Nat:=l.length
theorem zBk{xs:List Bh}(h:Hs xs<=2000000):jL xs=some xs:=by
 have hl:xs.length<=2000000:=by unfold Hs at h;omega
 exact OM hl (by omega) (by omega) λx hm=>zDH
theorem zBw{xs:List Bh}(h:Hs xs<=2000000):jP xs xs=some true:=by
 have hl:xs.length<=2000000:=by unfold Hs at h;omega
 exact ON hl λx hm=>zEa
theorem zCi{xs:List Bh}{a:Int}(h0:0<=a)(h1:a<=1048576)(h:(DI aO) xs):∃v,YI xs a=some v/\v<=a/\(0<=v->(Hs xs:Int)=a-v):=by
 have hl:xs.length<=9223372036854775807:=h.1;unfold YI Hs;rw[Nn h0 h1 hl];by_cases h2:a-(xs.length:Int)<0
 ·rw[if_pos (by simpa using h2)];exact⟨-1,rfl,by omega,by omega⟩
 ·rw[if_neg (by simpa using h2)];exact⟨_,rfl,by omega,λ_=>by omega⟩
theorem zx1{xs:List Bh}{k:Int}(h0:0<=k)(hk:k+64*(Hs xs:Int)<=4611686018427387904):∃(ys:List Bh) (k':Int),k<=k'/\k'<=k+64*(Hs xs:Int)/\ys.length=xs.length/\jC xs k=some (k',ys)/\iZ ys k=some k':=by
 have hl:xs.length<=Hs xs:=by unfold Hs;omega
 refine Nd (λ_=>0) (mb:=λs:Int × Int × List Bh=>Q1 s.1 s.2.1 s.2.2) (hb:=λys s=>QY ys s.1 s.2) h0 (by rw[zza];unfold Hs;omega) hk (λx hx k h0 hB=> ?_) (λk v hv=> ?_) (λk ys hy=> ?_)
 ·refine⟨?y,k+1+1+1,by omega,by omega,λi v hv hi=> ?_,λi ys hy hi=> ?_⟩
  rotate_left
  ·have B6:=(List.getElem?_eq_some_iff.1 hv).1;show Q1 k i v=_;unfold Q1;rw[if_pos (by simpa using B6)];simp(disch:=omega) only[Gw hv,CM,Bw,List.set_set,Aa]<;>rfl
  ·have B6:=(List.getElem?_eq_some_iff.1 hy).1;show QY ys k i=_;unfold QY;rw[if_pos (by simpa using B6)];simp(disch:=omega) only[Gw hy,bne_self_eq_false,AW,if_false,Kt,CM,Bw,List.set_set,Aa]<;>rfl
 ·show Q1 k _ v=_;unfold Q1;rw[if_neg (by simp[hv])]
 ·show QY ys k _=_;unfold QY;rw[if_neg (by simp[hy])]
def EB(x:Aj):Nat:=Gv x.aj+GV x.ae+Hs x.ao
theorem zCw{x:Aj}(h:EB x<=2000000):Yw x=some x:=by unfold Yw;simp only[zCe (xs:=x.aj) (by unfold EB at h;omega),zCq (xs:=x.ae) (by unfold EB at h;omega),zBk (xs:=x.ao) (by unfold EB at h;omega),Aa]
theorem zBj{x:Aj}(h:EB x<=2000000):Yx x x=some true:=by unfold Yx;simp[zCI (xs:=x.aj) (by unfold EB at h;omega),zCh (xs:=x.ae) (by unfold EB at h;omega),zBw (xs:=x.ao) (by unfold EB at h;omega)]
theorem zBn{x:Aj}{a:Int}(h0:0<=a)(h1:a<=1048576)(h:VZ x):∃v,YB x a=some v/\v<=a/\(0<=v->(EB x:Int)=a-v):=by
 unfold YB EB;obtain⟨b1,e1,g1,r1⟩:=zBs (xs:=x.aj) (a:=a) (by omega) (by omega) h.2.1;rw[e1,Aa];by_cases q1:b1<0
 ·rw[if_pos (by simpa using q1)];exact⟨-1,rfl,by omega,by omega⟩
 rw[if_neg (by simpa using q1)];have s1:=r1 (by omega);obtain⟨b2,e2,g2,r2⟩:=zBH (xs:=x.ae) (a:=b1) (by omega) (by omega) h.2.2.1;rw[e2,Aa];by_cases q2:b2<0
 ·rw[if_pos (by simpa using q2)];exact⟨-1,rfl,by omega,by omega⟩
 rw[if_neg (by simpa using q2)];have s2:=r2 (by omega);obtain⟨b3,e3,g3,r3⟩:=zCi (xs:=x.ao) (a:=b2) (by omega) (by omega) h.2.2.2;rw[e3,Aa];by_cases q3:b3<0
 ·rw[if_pos (by simpa using q3)];exact⟨-1,rfl,by omega,by omega⟩
 rw[if_neg (by simpa using q3)];have s3:=r3 (by omega);exact⟨b3,rfl,by omega,λ_=>by omega⟩
def Gs(l:List Aj):Nat:=l.length+(l.map EB).sum
theorem zze{xs:List Aj}(h:Gs xs<=2000000):jY xs=some xs:=by
 have hl:xs.length<=2000000:=by unfold Gs at h;omega
 have hx:∀x∈xs,EB x<=2000000:=λx hx=>by have:=Fb (tot:=EB) hx;unfold Gs at h;omega
 exact OM hl (by omega) (by omega) λx hm=>zCw (hx x hm)
theorem zAT{xs:List Aj}(h:Gs xs<=2000000):iN xs xs=some true:=by
 have hl:xs.length<=2000000:=by unfold Gs at h;omega
 have hx:∀x∈xs,EB x<=2000000:=λx hx=>by have:=Fb (tot:=EB) hx;unfold Gs at h;omega
 exact ON hl λx hm=>zBj (hx x hm)
theorem zy6{xs:List Aj}{a:Int}(h0:0<=a)(h1:a<=1048576)(h:(DI VZ) xs):∃v,iM xs a=some v/\v<=a/\(0<=v->(Gs xs:Int)=a-v):=by have hl:xs.length<=9223372036854775807:=h.1;exact Qn (tot:=EB) h0 h1 hl λx hx b G9 Dx=>zBn (x:=x) G9 Dx (h.2 _ hx)
theorem zwm{xs:List Aj}{k:Int}(h0:0<=k)(hk:k+64*(Gs xs:Int)<=4611686018427387904):∃(ys:List Aj) (k':Int),k<=k'/\k'<=k+64*(Gs xs:Int)/\ys.length=xs.length/\gY xs k=some (k',ys)/\hY ys k=some k':=by
 have hl:xs.length<=Gs xs:=by unfold Gs;omega
 refine Nd EB (mb:=λs:Int × Int × List Aj=>QB s.1 s.2.1 s.2.2) (hb:=λys s=>QC ys s.1 s.2) h0 (by simp[Gs]) hk (λx hx k h0 hB=> ?_) (λk v hv=> ?_) (λk ys hy=> ?_)
 ·have hT:EB x=Gv x.aj+GV x.ae+Hs x.ao:=rfl;obtain⟨r0,k0,a0,b0, -,m0,g0⟩:=zyC (xs:=x.aj) (k:=k+1) (by omega) (by omega);obtain⟨r1,k1,a1,b1, -,m1,g1⟩:=zyq (xs:=x.ae) (k:=k0) (by omega) (by omega);obtain⟨r2,k2,a2,b2, -,m2,g2⟩:=zx1 (xs:=x.ao) (k:=k1) (by omega) (by omega);refine⟨?y,k2,by omega,by omega,λi v hv hi=> ?_,λi ys hy hi=> ?_⟩
  rotate_left
  ·have B6:=(List.getElem?_eq_some_iff.1 hv).1;show QB k i v=_;unfold QB;rw[if_pos (by simpa using B6)];simp(disch:=omega) only[Gw hv,CM,Bw,List.set_set,Aa,m0,m1,m2]<;>rfl
  ·have B6:=(List.getElem?_eq_some_iff.1 hy).1;show QC ys k i=_;unfold QC;rw[if_pos (by simpa using B6)];simp(disch:=omega) only[Gw hy,bne_self_eq_false,AW,if_false,Kt,CM,Bw,List.set_set,Aa,g0,g1,g2]<;>rfl
 ·show QB k _ v=_;unfold QB;rw[if_neg (by simp[hv])]
 ·show QC ys k _=_;unfold QC;rw[if_neg (by simp[hy])]
def FD(x:AM):Nat:=D9 x.ak+E8 x.ab
theorem zCO{x:AM}(h:FD x<=2000000):YL x=some x:=by unfold YL;simp only[lR (xs:=x.ak) (by unfold FD at h;omega),xI (xs:=x.ab) (by unfold FD at h;omega),Aa]
theorem zCr{x:AM}(h:FD x<=2000000):Yz x x=some true:=by unfold Yz;simp[lZ (xs:=x.ak) (by unfold FD at h;omega),xK (xs:=x.ab) (by unfold FD at h;omega)]
theorem zCZ{x:AM}{a:Int}(h0:0<=a)(h1:a<=1048576)(h:VW x):∃v,YA x a=some v/\v<=a/\(0<=v->(FD x:Int)=a-v):=by
 unfold YA FD;obtain⟨b1,e1,g1,r1⟩:=lX (xs:=x.ak) (a:=a) (by omega) (by omega) h.2.1;rw[e1,Aa];by_cases q1:b1<0
 ·rw[if_pos (by simpa using q1)];exact⟨-1,rfl,by omega,by omega⟩
 rw[if_neg (by simpa using q1)];have s1:=r1 (by omega);obtain⟨b2,e2,g2,r2⟩:=x8 (xs:=x.ab) (a:=b1) (by omega) (by omega) h.2.2;rw[e2,Aa];by_cases q2:b2<0
 ·rw[if_pos (by simpa using q2)];exact⟨-1,rfl,by omega,by omega⟩
 rw[if_neg (by simpa using q2)];have s2:=r2 (by omega);exact⟨b2,rfl,by omega,λ_=>by omega⟩
def Gt(l:List AM):Nat:=l.length+(l.map FD).sum
theorem zAs{xs:List AM}(h:Gt xs<=2000000):iO xs=some xs:=by
 have hl:xs.length<=2000000:=by unfold Gt at h;omega
 have hx:∀x∈xs,FD x<=2000000:=λx hx=>by have:=Fb (tot:=FD) hx;unfold Gt at h;omega
 exact OM hl (by omega) (by omega) λx hm=>zCO (hx x hm)
theorem zzZ{xs:List AM}(h:Gt xs<=2000000):jV xs xs=some true:=by
 have hl:xs.length<=2000000:=by unfold Gt at h;omega
 have hx:∀x∈xs,FD x<=2000000:=λx hx=>by have:=Fb (tot:=FD) hx;unfold Gt at h;omega
 exact ON hl λx hm=>zCr (hx x hm)
theorem zAn{xs:List AM}{a:Int}(h0:0<=a)(h1:a<=1048576)(h:(DI VW) xs):∃v,jX xs a=some v/\v<=a/\(0<=v->(Gt xs:Int)=a-v):=by have hl:xs.length<=9223372036854775807:=h.1;exact Qn (tot:=FD) h0 h1 hl λx hx b G9 Dx=>zCZ (x:=x) G9 Dx (h.2 _ hx)
theorem zwE{xs:List AM}{k:Int}(h0:0<=k)(hk:k+64*(Gt xs:Int)<=4611686018427387904):∃(ys:List AM) (k':Int),k<=k'/\k'<=k+64*(Gt xs:Int)/\ys.length=xs.length/\iE xs k=some (k',ys)/\iC ys k=some k':=by
 have hl:xs.length<=Gt xs:=by unfold Gt;omega
 refine Nd FD (mb:=λs:Int × Int × List AM=>QD s.1 s.2.1 s.2.2) (hb:=λys s=>QE ys s.1 s.2) h0 (by simp[Gt]) hk (λx hx k h0 hB=> ?_) (λk v hv=> ?_) (λk ys hy=> ?_)
 ·have hT:FD x=D9 x.ak+E8 x.ab:=rfl;obtain⟨r0,k0,a0,b0, -,m0,g0⟩:=kT (xs:=x.ak) (k:=k+1) (by omega) (by omega);obtain⟨r1,k1,a1,b1, -,m1,g1⟩:=wF (xs:=x.ab) (k:=k0) (by omega) (by omega);refine⟨?y,k1,by omega,by omega,λi v hv hi=> ?_,λi ys hy hi=> ?_⟩
  rotate_left
  ·have B6:=(List.getElem?_eq_some_iff.1 hv).1;show QD k i v=_;unfold QD;rw[if_pos (by simpa using B6)];simp(disch:=omega) only[Gw hv,CM,Bw,List.set_set,Aa,m0,m1]<;>rfl
  ·have B6:=(List.getElem?_eq_some_iff.1 hy).1;show QE ys k i=_;unfold QE;rw[if_pos (by simpa using B6)];simp(disch:=omega) only[Gw hy,bne_self_eq_false,AW,if_false,Kt,CM,Bw,List.set_set,Aa,g0,g1]<;>rfl
 ·show QD k _ v=_;unfold QD;rw[if_neg (by simp[hv])]
 ·show QE ys k _=_;unfold QE;rw[if_neg (by simp[hy])]
def Fo(x:Az):Nat:=D9 x.az+Gs x.ax+Gt x.ar
theorem zEt{x:Az}(h:Fo x<=2000000):O6 x=some x:=by unfold O6;simp only[lR (xs:=x.az) (by unfold Fo at h;omega),zze (xs:=x.ax) (by unfold Fo at h;omega),zAs (xs:=x.ar) (by unfold Fo at h;omega),Aa]
theorem rK{x:Az}(h:Fo x<=2000000):O5 x x=some true:=by unfold O5;simp[lZ (xs:=x.az) (by unfold Fo at h;omega),zAT (xs:=x.ax) (by unfold Fo at h;omega),zzZ (xs:=x.ar) (by unfold Fo at h;omega)]
theorem zDU{x:Az}{a:Int}(h0:0<=a)(h1:a<=1048576)(h:pC x):∃v,YT x a=some v/\v<=a/\(0<=v->(Fo x:Int)=a-v):=by
 unfold YT Fo;obtain⟨b0,e0,g0,r0⟩:=lX (xs:=x.az) (a:=a) (by omega) (by omega) h.1;rw[e0,Aa];by_cases q0:b0<0
 ·rw[if_pos (by simpa using q0)];exact⟨-1,rfl,by omega,by omega⟩
 rw[if_neg (by simpa using q0)];have s0:=r0 (by omega);obtain⟨b1,e1,g1,r1⟩:=zy6 (xs:=x.ax) (a:=b0) (by omega) (by omega) h.2.1;rw[e1,Aa];by_cases q1:b1<0
 ·rw[if_pos (by simpa using q1)];exact⟨-1,rfl,by omega,by omega⟩
 rw[if_neg (by simpa using q1)];have s1:=r1 (by omega);obtain⟨b2,e2,g2,r2⟩:=zAn (xs:=x.ar) (a:=b1) (by omega) (by omega) h.2.2;rw[e2,Aa];by_cases q2:b2<0
 ·rw[if_pos (by simpa using q2)];exact⟨-1,rfl,by omega,by omega⟩
 rw[if_neg (by simpa using q2)];have s2:=r2 (by omega);exact⟨b2,rfl,by omega,λ_=>by omega⟩
theorem yA{x:Az}{k:Int}(h0:0<=k)(hk:k+64*(Fo x:Int)<=4611686018427387904):∃(y:Az) (k':Int),k<=k'/\k'<=k+64*(Fo x:Int)/\U6 x k=some (k',y)/\U7 y k=some k':=by
 have hT:Fo x=D9 x.az+Gs x.ax+Gt x.ar:=rfl;obtain⟨r0,k0,a0,b0, -,m0,g0⟩:=kT (xs:=x.az) (k:=k) (by omega) (by omega);obtain⟨r1,k1,a1,b1, -,m1,g1⟩:=zwm (xs:=x.ax) (k:=k0) (by omega) (by omega);obtain⟨r2,k2,a2,b2, -,m2,g2⟩:=zwE (xs:=x.ar) (k:=k1) (by omega) (by omega);refine⟨?y,k2,by omega,by omega,?_,?_⟩
 rotate_left
 ·unfold U6;simp only[m0,m1,m2,Aa]<;>rfl
 ·unfold U7;simp(disch:=omega) only[g0,g1,g2,Aa,Kt,AW,if_false]<;>rfl
theorem zyo{x:Ea}:UL x=some x:=rfl
end
end Go.Proofs.YtalagilebkaegaaGreat

/- Parts of a proof, joined: NFE, NFG, NTA, NFD. -/
import Derived.Test.YtndikjghnmhdmaaGreatD9
set_option linter.unusedVariables false
set_option linter.unusedSimpArgs false
namespace Go.Proofs.YtndikjghnmhdmaaGreat
section
open Go.RowKit
set_option maxRecDepth 100000
set_option maxHeartbeats 1000000
theorem Qb{code:List Int}(h:∀b∈code,0<=b/\b<=255)(hl:(code.length:Int)<=65536){i:Int}(h0:0<=i)(h1:i<=100):∃x,KJ code i=some x/\(0<=x/\x<=255):=by
 unfold KJ;by_cases hi:i<(code.length:Int)
 ·rw[if_pos (by simpa using hi)];obtain⟨x,e1,e2,_⟩:=rO h0 hi;have hx:=h x e2;rw[e1,Aa,CS (n:=x) (by omega) (by omega)];exact⟨x,rfl,hx⟩
 ·rw[if_neg (by simpa using hi),CS (n:=i*7) (by omega) (by omega),CS (n:=i*7+(code.length:Int)) (by omega) (by omega)];refine⟨_,rfl,?_⟩;rw[Int.tmod_eq_emod_of_nonneg (by omega)];omega
structure Rk(r:Bj):Prop where
 reads:r.ao=[]
 keys:KW r.af
 small:r.af.length<=1/\ ∀w∈r.af,w.ae.length<=1/\w.a7.length<=1
 dw:EE r.af
theorem Rk.sm{r:Bj}(h:Rk r):KP r:=⟨by rw[h.reads];exact⟨by simp,λx hx=>by simp at hx⟩,⟨by have:=h.small.1;omega,λw hw=>by have:=h.small.2 w hw;omega⟩⟩
theorem zyf{t u:Int}{k:Az}(hk:k∈K3):Rk ⟨1,t,u,0,[],[(⟨k,[49],false⟩:Ak)],false⟩:=by
 have hl:k.length<=1:=by unfold K3 at hk;simp only[Ad,List.not_mem_nil,or_false]at hk;rcases hk with e|e|e<;>rw[e]<;>decide
 refine⟨rfl,λw hw=> ?_,⟨by simp,λw hw=> ?_⟩,List.pairwise_singleton ..⟩
 ·simp only[List.mem_singleton]at hw;rw[hw];exact hk
 ·simp only[List.mem_singleton]at hw;rw[hw];exact⟨hl,by simp⟩
theorem sD{t u:Int}{b:Bool}:Rk ⟨2,t,u,0,[],[],b⟩:=⟨rfl,λw hw=>by simp at hw,⟨by simp,λw hw=>by simp at hw⟩,List.Pairwise.nil⟩
def Iv(s:Am):Prop:=WS s/\JS s
theorem jH:Iv ⟨0,[],[],[]⟩:=⟨Uu,iU⟩
theorem ztM{rs:List Bj}(hl:rs.length<=1000)(hr:∀r∈rs,Rk r):∃p,Vv rs=some p/\Iv p.1:=by
 unfold Vv;have h1:=Wn (xs:=rs) (body:=λs:Int=>NH rs s) (λi (_:Unit)=>i) (λr _=>some (if Eg r=true then .inl ()else .inr (some ((⟨0,[],[],[]⟩:Am),[],false)))) (λ_=>U0 rs)
  (λi hi s=>by
   show NH rs (i:Int)=_;unfold NH;rw[if_pos (by simpa using hi),AW hi,Aa,rG (hr _ (AO hi)).sm,Aa,Ct (by omega)];cases Eg rs[i]<;>rfl) (λ_=>by
   show NH rs (rs.length:Int)=_;unfold NH;rw[if_neg (by simp)]) ()
 have h2:=eL (fin:=λ_=>U0 rs) Eg ((⟨0,[],[],[]⟩:Am),([]:List Bool),false) (step:=λr _=>some (if Eg r=true then .inl ()else .inr (some ((⟨0,[],[],[]⟩:Am),[],false)))) (xs:=rs) (λx _ s=>by cases Eg x<;>rfl) ();rw[show AG (λs:Int=>NH rs s) 0=_ from h1.trans h2];by_cases hg:rs.all Eg=true
 ·rw[if_pos hg];unfold U0;by_cases fZ:(rs.length:Int)>60
  ·rw[if_pos (by simpa using fZ)];exact⟨_,rfl,jH⟩
  ·rw[if_neg (by simpa using fZ)];have hk:∀r∈rs,Jt r/\(KW r.af/\r.ao=[]):=λr h=>by
    have q:=hr r h;have g:=A7.1 hg r h;refine⟨⟨by rw[q.reads];simp,by have:=q.small.1;omega,q.dw,⟨by have:=q.small.1;omega,λw hw=>by have:=q.small.2 w hw;omega⟩,λk1 k4 hy=> ?_,λk4=> ?_⟩,q.keys,q.reads⟩
    ·unfold Eg at g;rw[if_neg k1]at g;simp only[Ab]at g;have g:=g.2.2.2;by_cases Iy:r.a8=2\/r.a8=3
     ·rw[if_pos Iy,hy]at g;simp only[Ab,if_true]at g;have:=Ij.1 g.2;omega
     ·rw[if_neg Iy,if_neg k4]at g;cases g
    ·unfold Eg at g;by_cases k1:r.a8=1
     ·rw[if_pos k1]at g;simp only[Ab]at g;exact Ij.1 g.1
     ·rw[if_neg k1]at g;simp only[Ab]at g;have g:=g.2.2.2;by_cases Iy:r.a8=2\/r.a8=3
      ·rw[if_pos Iy]at g;simp only[Ab]at g;exact Ij.1 g.1
      ·rw[if_neg Iy,if_neg k4]at g;cases g
   obtain⟨b,e⟩:=xV (rs:=rs) (by omega) λr h=>(hk r h).1;rw[e,Aa];exact⟨_,rfl,zu1 λr h=>(hk r h).1,pX rs _ Uu iU hk⟩
 ·rw[if_neg hg];exact⟨_,rfl,jH⟩
theorem Zi{x n:Int}(hx:0<=x)(hn:0<n):0<=Int.tmod x n/\Int.tmod x n<n:=by rw[Int.tmod_eq_emod_of_nonneg hx];exact⟨Int.emod_nonneg _ (by omega),Int.emod_lt_of_pos _ hn⟩
theorem sE{a0:List Int}(h:∀b∈a0,0<=b/\b<=255)(hl:(a0.length:Int)<=65536){v1 v5 v6 v8:Int}{L:List Bj}(h1:0<=v1/\v1<=1)(h6:0<=v6/\v6<8)(h5:1<=v5/\v5<=1+7*v6)(h8:0<=v8)(hL:(L.length:Int)<=3*v6+2)(hr:∀r∈L,Rk r):
  D8 (U1 a0 v1 v5 v6 v8 L) λo=> ∃t L',o= .inl (t,v6+1,L')/\(1<=t/\t<=1+7*(v6+1))/\((L'.length:Int)<=3*(v6+1)/\ ∀r∈L',Rk r):=by
 unfold U1;have m4:=Zi (x:=v8) (n:=4) h8 (by omega);generalize Int.tmod v8 4=m at m4 ⊢;rw[CS (n:=(5:Int)*v6) (by omega) (by omega),CS (n:=(5:Int)*v6+v1) (by omega) (by omega),CS (n:=(5:Int)*v6+v1+2) (by omega) (by omega),CS (n:=v5+1) (by omega) (by omega),CS (n:=v5+1+m) (by omega) (by omega),CS (n:=v5+1+m+3) (by omega) (by omega),CS (n:=v6+1) (by omega) (by omega)];obtain⟨x,e,hx⟩:=Qb h hl (i:=(5:Int)*v6+v1+2) (by omega) (by omega);rw[e,Aa];refine .ite (λ_=> .req (by simp only[Bt];omega) (.ret ⟨_,_,rfl,by omega,?_,?_⟩)) λ_=> .ret ⟨_,_,rfl,by omega,by omega,hr⟩
 ·rw[AE,Bt];omega
 ·intro r CW;rcases Af.1 CW with q|q
  ·exact hr r q
  ·simp only[List.mem_singleton]at q;rw[q];exact sD
theorem oN{a0:List Int}(h:∀b∈a0,0<=b/\b<=255)(hl:(a0.length:Int)<=65536){v1:Int}{v2:List Am}(h1:0<=v1/\v1<=1)(h2:v2.length<=2):
  D8 (AG (λs:Int × Int × List Bj=>U3 a0 8 v1 v2 s.1 s.2.1 s.2.2) (1,0,[])) λo=> ∃s,Iv s/\o= .inl (v1+1,v2++ [s]):=by
 refine ztJ (λ(n:Nat) (s:Int × Int × List Bj)=>s.2.1+(n:Int)=8/\0<=s.2.1/\(1<=s.1/\s.1<=1+7*s.2.1)/\((s.2.2.length:Int)<=3*s.2.1/\ ∀r∈s.2.2,Rk r)) (λn s hI=> ?_) (n:=8) ⟨by simp,by simp,by simp,by simp,λr hr=>by simp at hr⟩;obtain⟨i1,i2,i3,i4,i5⟩:=hI;show D8 (U3 a0 8 v1 v2 s.1 s.2.1 s.2.2) _;unfold U3;refine .ite (λAL=> ?_) λ_=> .ret ?_
 ·have AL:s.2.1<8:=by simpa using AL
  rw[CS (n:=(5:Int)*s.2.1) (by omega) (by omega),CS (n:=(5:Int)*s.2.1+v1) (by omega) (by omega),CS (n:=(5:Int)*s.2.1+v1+1) (by omega) (by omega),CS (n:=(5:Int)*s.2.1+v1+2) (by omega) (by omega),CS (n:=(5:Int)*s.2.1+v1+3) (by omega) (by omega)];obtain⟨x8,e8,g8⟩:=Qb h hl (i:=(5:Int)*s.2.1+v1) (by omega) (by omega);obtain⟨x9,e9,g9⟩:=Qb h hl (i:=(5:Int)*s.2.1+v1+1) (by omega) (by omega);obtain⟨x13,e13,g13⟩:=Qb h hl (i:=(5:Int)*s.2.1+v1+2) (by omega) (by omega);obtain⟨x14,e14,g14⟩:=Qb h hl (i:=(5:Int)*s.2.1+v1+3) (by omega) (by omega);rw[e8,Aa,e9,Aa];have m3:=Zi (x:=x9) (n:=3) g9.1 (by omega);refine D8.bind (P:=λy=>y∈K3) (.getI m3.1 (by simpa using m3.2) λy hy=>hy) λy hy=> ?_;refine .req (by simp only[Bt];omega) ?_;rw[e13,Aa];have r1:∀t u:Int,∀r∈s.2.2++ [(⟨1,t,u,0,[],[(⟨y,[49],false⟩:Ak)],false⟩:Bj)],Rk r:=λt u r hr=>by
   rcases Af.1 hr with q|q
   ·exact i5 r q
   ·simp only[List.mem_singleton]at q;rw[q];exact zyf hy
  refine .ite (λ_=> ?_) λ_=> ?_
  ·rw[e14,Aa];refine .req (by simp only[AE,Bt];omega) ?_;refine(sE h hl h1 ⟨i2,AL⟩ i3 g8.1 (by rw[AE,AE,Bt,Bt];omega) λr hr=> ?_).mono λo ho=> ?_
   ·rcases Af.1 hr with q|q
    ·exact r1 _ _ r q
    ·simp only[List.mem_singleton]at q;rw[q];exact sD
   ·obtain⟨t,L',rfl,q1,q2,q3⟩:=ho;exact⟨n-1,by omega,by dsimp only;omega,by dsimp only;omega,q1,q2,q3⟩
  ·refine(sE h hl h1 ⟨i2,AL⟩ i3 g8.1 (by rw[AE,Bt];omega) (r1 _ _)).mono λo ho=> ?_;obtain⟨t,L',rfl,q1,q2,q3⟩:=ho;exact⟨n-1,by omega,by dsimp only;omega,by dsimp only;omega,q1,q2,q3⟩
 ·unfold jR;obtain⟨p,e,hp⟩:=ztM (rs:=s.2.2) (by omega) i5;rw[e,Aa,CS (n:=v1+1) (by omega) (by omega)];exact .req (by simp only[Bt];omega) (.ret ⟨_,hp,rfl⟩)
theorem zv3{a0:List Int}(h:∀b∈a0,0<=b/\b<=255)(hl:(a0.length:Int)<=65536):∃s0 s1,Vx a0 8=some [s0,s1]/\Iv s0:=by
 obtain⟨o0,e0,s0,d0,rfl⟩:=oN h hl (v1:=0) (v2:=[]) (by omega) (by simp);obtain⟨o1,e1,s1,d1,rfl⟩:=oN h hl (v1:=1) (v2:=[s0]) (by omega) (by simp);refine⟨s0,s1,?_,d0⟩;unfold Vx;have b0:JD a0 8 0 []=some (.inl (1,[s0])):=by unfold JD;rw[if_pos (by simp),e0];rfl
 have b1:JD a0 8 1 [s0]=some (.inl (2,[s0,s1])):=by unfold JD;rw[if_pos (by simp),e1];rfl
 have b2:JD a0 8 2 [s0,s1]=some (.inr (some [s0,s1])):=by unfold JD;rw[if_neg (by simp)]
 exact(L4 (body:=λs:Int × List Am=>JD a0 8 s.1 s.2) b0).trans ((L4 (body:=λs:Int × List Am=>JD a0 8 s.1 s.2) b1).trans (Jd (body:=λs:Int × List Am=>JD a0 8 s.1 s.2) b2))
theorem L5{α β:Type}{xs:List α}{body:Int->Option (Int ⊕ Option β)}(p:α->Bool)(b:β)(fin:Option β)
  (hs:∀(i:Nat) (hi:i<xs.length),body i=some (if p xs[i]=true then .inl ((i+1:Nat):Int)else .inr (some b))) (he:body xs.length=some (.inr fin)):AG body 0=if xs.all p=true then fin else some b:=by
 have h1:=Wn (xs:=xs) (body:=body) (λi (_:Unit)=>i) (λx _=>some (if p x=true then .inl ()else .inr (some b))) (λ_=>fin)
  (λi hi s=>by rw[hs i hi];cases p xs[i]<;>rfl) (λ_=>he) ()
 exact h1.trans (eL p b (λx _ s=>by cases p x<;>rfl) ())
theorem Ta{α:Type}(l:List α)(i:Nat):AF l 0 (i:Int)=l.take i:=by simp[AF]
def MF(s:Am)(i:Nat):Bool:=match s.ah[i]? with
 |some h=>Eg (HR h)&&(decide (h.ab<=s.aw)&&(!(s.ah.take i).any (λg=>Fq g h.ao h.af)&& !h.af.any (λw=>decide (h.ab<=D7 s.aj w.ae))))
 |none=>true
def NZ(s:Am):Bool:=(List.range s.ah.length).all (MF s)&&Qq s.aj (DD s.ah)
def Mz(s:Am)(c:Ag):Bool:=decide (D7 s.aj c.ae<=s.aw)
def Nr(s:Am)(t:CH):Bool:=(if t.cq=true then Bq t.ab 1 s.aw else t.ab==0)&& !(Fp s t.ay).isSome
def HO(s:Am):Bool:=Bq s.aw 0 100000&&(Ck s.aj&&(NZ s&&(s.aj.all (Mz s)&&s.az.all (Nr s))))
theorem sJ{s:Am}{i:Nat}(hi:i<s.ah.length):MF s i=(Eg (HR s.ah[i])&&(decide (s.ah[i].ab<=s.aw)&&(!(s.ah.take i).any (λg=>Fq g s.ah[i].ao s.ah[i].af)&& !s.ah[i].af.any (λw=>decide (s.ah[i].ab<=D7 s.aj w.ae))))):=by unfold MF;rw[BH hi]
theorem WM{α:Type}{l:List α}{i:Nat}(hi:i<l.length)(h0:0<i)(hl:l.length<=2000000):getI l (IntKind.i64.wrap ((i:Int)-1))=some l[i-1]:=by rw[CS (n:=(i:Int)-1) (by omega) (by omega),show(i:Int)-1=((i-1:Nat):Int) by omega,AW (by omega)]
theorem zvF{s:Am}(h:WS s)(hs:∀x∈s.ah,KP (HR x)):UQ s=some (NZ s):=by
 have II:=h.jj;unfold UQ;rw[NR (n:=s.ah.length) (body:=λi=>OR s i) (MF s) false (Zu s) (λi hi=> ?_) (by show OR s (s.ah.length:Int)=_;unfold OR;rw[if_neg (by simp)])]
 ·unfold Zu NZ;rw[zy3 h.cells (by omega) λx hx=>(h.held x hx).1,Aa,show decide (s.ah.length<=12)=true by simpa using II,Bool.true_and];cases(List.range s.ah.length).all (MF s)<;>rfl
 ·have hx:=AO hi;obtain⟨⟨o1,o2,o3⟩,o4⟩:=h.held _ hx;have e1:EJ (AF s.ah 0 (i:Int)) (λy0_=>Sb y0_ s.ah[i])=some ((s.ah.take i).any λg=>Fq g s.ah[i].ao s.ah[i].af):=by
   rw[Ta];refine Mb _ (λg hg=> ?_) (by rw[Ax];omega);have hg:=Bw hg;obtain⟨⟨g1,g2,g3⟩,_⟩:=h.held _ hg;unfold Sb aS Fq;rw[mO (by omega) (by omega) (by omega) g3,Aa,mO (by omega) (by omega) (by omega) o3,Aa];cases CK s.ah[i].af g.ao g.af<;>cases CK g.af s.ah[i].ao s.ah[i].af<;>rfl
  have e2:EJ s.ah[i].af (λy0_=>Sa y0_ s.ah[i] s)=some (s.ah[i].af.any λw=>decide (s.ah[i].ab<=D7 s.aj w.ae)):=by refine Mb _ (λw _=> ?_) (by omega);unfold Sa;rw[rM (n:=24) (by omega) h.cells];rfl
  show OR s (i:Int)=_;unfold OR;rw[sJ hi,if_pos (by simpa using hi),AW hi,Aa,show ZS s.ah[i]=some (HR s.ah[i])from rfl,Aa,zyJ (hs _ hx),Aa];have rq:0<=(0:Int)/\(0:Int)<=(i:Int)/\(i:Int)<=(s.ah.length:Int):=by omega
  rw[e1,e2,Ct (by omega)];generalize (s.ah.take i).any (λg=>Fq g s.ah[i].ao s.ah[i].af)=A;generalize s.ah[i].af.any (λw=>decide (s.ah[i].ab<=D7 s.aj w.ae))=B;by_cases hp:0<i
  ·rw[if_pos (by simp;omega),WM hi hp (by omega)];have hr:=h.dw.mono hi (show i-1<i by omega);have hr:s.ah[i-1].ay<s.ah[i].ay:=hr;cases Eg (HR s.ah[i])with
   |false=>rfl
   |true=>
    rw[if_pos rfl];by_cases ht:s.ah[i].ab<=s.aw
    ·rw[if_neg (by simp;omega),Aa,if_neg (by simp;omega),A8 rq,Aa,Aa];cases A<;>cases B<;>simp[ht]
    ·rw[if_pos (by simp;omega)];simp[ht]
  ·rw[if_neg (by simp;omega)];cases Eg (HR s.ah[i])with
   |false=>rfl
   |true=>
    by_cases ht:s.ah[i].ab<=s.aw
    ·rw[if_neg (by simp;omega),A8 rq,Aa,Aa];cases A<;>cases B<;>simp[ht]
    ·rw[if_pos (by simp;omega)];simp[ht]
theorem zuv{s:Am}(h:WS s)(hs:∀x∈s.ah,KP (HR x)):VD s=some (NZ s):=by
 have II:=h.jj;unfold VD;rw[NR (n:=s.ah.length) (body:=λi=>Pq s i) (MF s) false (ZY s) (λi hi=> ?_) (by show Pq s (s.ah.length:Int)=_;unfold Pq;rw[if_neg (by simp)])]
 ·unfold ZY NZ;rw[show decide ((s.ah.length:Int)<=12)=true from decide_eq_true (by omega),rQ h.cells (by omega) (λx hx=>(h.held x hx).1) (by simp),Aa,List.nil_append];cases(List.range s.ah.length).all (MF s)<;>rfl
 ·have hx:=AO hi;obtain⟨⟨o1,o2,o3⟩,o4⟩:=h.held _ hx;have t5:Sd s (i:Int) s.ah[i]=some (if(s.ah[i].af.all λw=> !decide (s.ah[i].ab<=D7 s.aj w.ae))=true then .inl ((i+1:Nat):Int)else .inr (some false)):=by
   unfold Sd;rw[L5 (xs:=s.ah[i].af) (body:=λj=>OY s (i:Int) s.ah[i] j) (λw=> !decide (s.ah[i].ab<=D7 s.aj w.ae)) (.inr (some false)) (ZR (i:Int)) (λj hj=>by
    show OY s (i:Int) s.ah[i] (j:Int)=_;unfold OY;rw[if_pos (by simpa using hj),AW hj,Aa,WR (n:=24) (by omega) h.cells,Aa,Ct (by omega)];by_cases hq:s.ah[i].ab<=D7 s.aj (s.ah[i].af[j]).ae
    ·rw[if_pos (by simpa using hq)];simp[hq]
    ·rw[if_neg (by simpa using hq)];simp[hq]) (by
    show OY s (i:Int) s.ah[i] (s.ah[i].af.length:Int)=_;unfold OY;rw[if_neg (by simp)])]
   unfold ZR;rw[Ct (by omega)];split<;>rfl
  have t9:Sf s (i:Int) s.ah[i]=some (if(s.ah[i].af.all λw=> !decide (s.ah[i].ab<=D7 s.aj w.ae))=true then .inl ((i+1:Nat):Int)else .inr (some false)):=by
   unfold Sf;rw[L5 (xs:=s.ah[i].af) (body:=λj=>OX s (i:Int) s.ah[i] j) (λw=> !decide (s.ah[i].ab<=D7 s.aj w.ae)) (.inr (some false)) (ZO (i:Int)) (λj hj=>by
    show OX s (i:Int) s.ah[i] (j:Int)=_;unfold OX;rw[if_pos (by simpa using hj),AW hj,Aa,WR (n:=24) (by omega) h.cells,Aa,Ct (by omega)];by_cases hq:s.ah[i].ab<=D7 s.aj (s.ah[i].af[j]).ae
    ·rw[if_pos (by simpa using hq)];simp[hq]
    ·rw[if_neg (by simpa using hq)];simp[hq]) (by
    show OX s (i:Int) s.ah[i] (s.ah[i].af.length:Int)=_;unfold OX;rw[if_neg (by simp)])]
   unfold ZO;rw[Ct (by omega)];split<;>rfl
  have t6:AG (λj:Int=>O2 s (i:Int) s.ah[i] j) 0=if((s.ah.take i).all λg=> !Fq g s.ah[i].ao s.ah[i].af)=true then Sd s (i:Int) s.ah[i]else some (.inr (some false)):=by
   refine L5 (xs:=s.ah.take i) (λg=> !Fq g s.ah[i].ao s.ah[i].af) (.inr (some false)) (Sd s (i:Int) s.ah[i]) (λj hj=> ?_) ?_
   ·have hg:=Bw (AO hj);rw[Ax]at hj;show O2 s (i:Int) s.ah[i] (j:Int)=_;unfold O2;rw[Ta,if_pos (by rw[Ax];simp;omega),AW (by rw[Ax];omega),Aa,dV (h.held _ hg).1 (by omega) (by omega),Aa,Ct (by omega)];cases Fq (s.ah.take i)[j] s.ah[i].ao s.ah[i].af<;>rfl
   ·show O2 s (i:Int) s.ah[i] ((s.ah.take i).length:Int)=_;unfold O2;rw[Ta,if_neg (by simp)]
  have t10:AG (λj:Int=>O7 s (i:Int) s.ah[i] j) 0=if((s.ah.take i).all λg=> !Fq g s.ah[i].ao s.ah[i].af)=true then Sf s (i:Int) s.ah[i]else some (.inr (some false)):=by
   refine L5 (xs:=s.ah.take i) (λg=> !Fq g s.ah[i].ao s.ah[i].af) (.inr (some false)) (Sf s (i:Int) s.ah[i]) (λj hj=> ?_) ?_
   ·have hg:=Bw (AO hj);rw[Ax]at hj;show O7 s (i:Int) s.ah[i] (j:Int)=_;unfold O7;rw[Ta,if_pos (by rw[Ax];simp;omega),AW (by rw[Ax];omega),Aa,dV (h.held _ hg).1 (by omega) (by omega),Aa,Ct (by omega)];cases Fq (s.ah.take i)[j] s.ah[i].ao s.ah[i].af<;>rfl
   ·show O7 s (i:Int) s.ah[i] ((s.ah.take i).length:Int)=_;unfold O7;rw[Ta,if_neg (by simp)]
  show Pq s (i:Int)=_;unfold Pq;rw[sJ hi,if_pos (by simpa using hi),AW hi,Aa,show Z3 s.ah[i]=some (HR s.ah[i])from rfl,Aa,rG (hs _ hx),Aa];have rq:0<=(0:Int)/\(0:Int)<=(i:Int)/\(i:Int)<=(s.ah.length:Int):=by omega
  rw[t6,t10,t5,t9,List.not_any_eq_all_not,List.not_any_eq_all_not];generalize ((s.ah.take i).all λg=> !Fq g s.ah[i].ao s.ah[i].af)=A;generalize (s.ah[i].af.all λw=> !decide (s.ah[i].ab<=D7 s.aj w.ae))=B;by_cases hp:0<i
  ·rw[if_pos (by simp;omega),WM hi hp (by omega)];have hr:=h.dw.mono hi (show i-1<i by omega);have hr:s.ah[i-1].ay<s.ah[i].ay:=hr;cases Eg (HR s.ah[i])with
   |false=>rfl
   |true=>
    rw[if_pos rfl];by_cases ht:s.ah[i].ab<=s.aw
    ·rw[if_neg (by simp;omega),Aa,if_neg (by simp;omega),A8 rq];cases A<;>cases B<;>simp[ht]
    ·rw[if_pos (by simp;omega)];simp[ht]
  ·rw[if_neg (by simp;omega)];cases Eg (HR s.ah[i])with
   |false=>rfl
   |true=>
    by_cases ht:s.ah[i].ab<=s.aw
    ·rw[if_neg (by simp;omega),A8 rq];cases A<;>cases B<;>simp[ht]
    ·rw[if_pos (by simp;omega)];simp[ht]
theorem zwY{s:Am}(h:WS s)(hc:Me s.aj)(hs:∀x∈s.ah,KP (HR x)):Vr s=some (HO s):=by
 have hl:=h.ed;have II:=h.jj;have Ar:=h.cells.2.1;unfold Vr HO;rw[show Ic s.aw=some (Bq s.aw 0 100000)from rfl,Aa];cases Bq s.aw 0 100000 with
 |false=>rfl
 |true=>
  rw[if_pos rfl,oV hc,Aa];cases Ck s.aj with
  |false=>rfl
  |true=>
   rw[if_pos rfl,zvF h hs,Aa];cases NZ s with
   |false=>rfl
   |true=>
    rw[if_neg (by simp;omega),L5 (xs:=s.aj) (body:=λi=>Pd s i) (Mz s) false (ZK s) (λi hi=> ?_) (by show Pd s (s.aj.length:Int)=_;unfold Pd;rw[if_neg (by simp)])]
    ·unfold ZK;rw[L5 (xs:=s.az) (body:=λi=>Pe s i) (Nr s) false (some true) (λi hi=> ?_) (by
      show Pe s (s.az.length:Int)=_;unfold Pe;rw[if_neg (by simp)])]
     ·cases s.aj.all (Mz s)<;>cases s.az.all (Nr s)<;>rfl
     ·show Pe s (i:Int)=_;unfold Pe Nr;have hb:=h.told _ (AO hi);have tx:NK s.az[i].ay=some true:=by
       show some (Bq s.az[i].ay 1 60)=_;rw[Ij.2 hb]
      rw[if_pos (by simpa using hi),AW hi,Aa,tx,zwl (s:=s) (t:=s.az[i].ay) (by omega) h.dw,KQ,Ct (by omega)];simp only[Aa];generalize (Fp s s.az[i].ay).isSome=H;generalize Bq s.az[i].ab 1 s.aw=V;generalize (s.az[i].ab==0)=T;by_cases hp:0<i
      ·have hr:=h.er.mono hi (show i-1<i by omega);have hr:s.az[i-1].ay<s.az[i].ay:=hr;have e0:decide (s.az[i].ay<=s.az[i-1].ay)=false:=by simp;omega
       have e1:decide ((i:Int)>0)=true:=by simp;omega
       rw[WM hi hp (by omega)];simp only[Aa,e0,e1,if_true,Bv,if_false];cases s.az[i].cq<;>cases V<;>cases T<;>cases H<;>rfl
      ·have e1:decide ((i:Int)>0)=false:=by simp;omega
       simp only[e1,Bv,if_false];cases s.az[i].cq<;>cases V<;>cases T<;>cases H<;>rfl
    ·show Pd s (i:Int)=_;unfold Pd Mz;rw[if_pos (by simpa using hi),AW hi,Aa,rM (n:=24) (by omega) h.cells,Aa,Ct (by omega)];by_cases hq:D7 s.aj (s.aj[i]).ae<=s.aw
     ·rw[if_neg (by simp;omega)];simp[hq]
     ·rw[if_pos (by simp;omega)];simp[hq]
theorem zwi{s:Am}(h:WS s)(hc:Me s.aj)(hs:∀x∈s.ah,KP (HR x)):Vy s=some (HO s):=by
 have hl:=h.ed;have II:=h.jj;have Ar:=h.cells.2.1;unfold Vy HO;rw[show aG s.aw=some (Bq s.aw 0 100000)from rfl,Aa];cases Bq s.aw 0 100000 with
 |false=>rfl
 |true=>
  rw[if_pos rfl,qA hc,Aa];cases Ck s.aj with
  |false=>rfl
  |true=>
   rw[if_pos rfl,zuv h hs,Aa];cases NZ s with
   |false=>rfl
   |true=>
    rw[if_neg (by simp;omega),L5 (xs:=s.aj) (body:=λi=>O1 s i) (Mz s) false (ZQ s) (λi hi=> ?_) (by show O1 s (s.aj.length:Int)=_;unfold O1;rw[if_neg (by simp)])]
    ·unfold ZQ;rw[L5 (xs:=s.az) (body:=λi=>O0 s i) (Nr s) false (some true) (λi hi=> ?_) (by
      show O0 s (s.az.length:Int)=_;unfold O0;rw[if_neg (by simp)])]
     ·cases s.aj.all (Mz s)<;>cases s.az.all (Nr s)<;>rfl
     ·show O0 s (i:Int)=_;unfold O0 Nr;have hb:=h.told _ (AO hi);have tx:Bq s.az[i].ay 1 60=true:=Ij.2 hb;obtain⟨P,p1,p2⟩:∃P,KH s s.az[i].ay=some P/\P.2=(Fp s s.az[i].ay).isSome:=by
       rw[oD (by omega)];cases Fp s s.az[i].ay with
       |none=>exact⟨_,rfl,rfl⟩
       |some x=>exact⟨_,rfl,rfl⟩
      rw[if_pos (by simpa using hi),AW hi,Aa,p1,Ct (by omega)];simp only[Md,Aa,tx,p2,bne];generalize (Fp s s.az[i].ay).isSome=H;generalize Bq s.az[i].ab 1 s.aw=V;generalize (s.az[i].ab==0)=T;by_cases hp:0<i
      ·have hr:=h.er.mono hi (show i-1<i by omega);have hr:s.az[i-1].ay<s.az[i].ay:=hr;have e0:decide (s.az[i-1].ay>=s.az[i].ay)=false:=by simp;omega
       have e1:decide ((i:Int)>0)=true:=by simp;omega
       rw[WM hi hp (by omega)];simp only[Aa,e0,e1,if_true,Bv,if_false];cases s.az[i].cq<;>cases V<;>cases T<;>cases H<;>rfl
      ·have e1:decide ((i:Int)>0)=false:=by simp;omega
       simp only[e1,Bv,if_false];cases s.az[i].cq<;>cases V<;>cases T<;>cases H<;>rfl
    ·show O1 s (i:Int)=_;unfold O1 Mz;rw[if_pos (by simpa using hi),AW hi,Aa,WR (n:=24) (by omega) h.cells,Aa,Ct (by omega)];by_cases hq:D7 s.aj (s.aj[i]).ae<=s.aw
     ·rw[if_neg (by simp;omega)];simp[hq]
     ·rw[if_pos (by simp;omega)];simp[hq]
def zzg(o ws:List Ak):List Ak:=ws.foldl (λo w=>Dv wk w o) o
def Od(n:Nat)(o:List Ak):Prop:=EE o/\(o.length<=n/\ ∀w∈o,w.ae.length<=2000000/\w.a7.length<=2000000)
theorem Od.ins{n:Nat}{o:List Ak}{w:Ak}(h:Od n o)(hw:w.ae.length<=2000000/\w.a7.length<=2000000):Od (n+1) (Dv wk w o):=by
 refine⟨Jc h.1,?_,λx hx=> ?_⟩
 ·have:=PW (key:=wk) (x:=w) o;have:=h.2.1;omega
 ·rcases(Je (key:=wk) h.1 x).1 hx with rfl|⟨hx,_⟩
  ·exact hw
  ·exact h.2.2 x hx
theorem Od.put{ws:List Ak}:∀{n:Nat} {o:List Ak},Od n o->(∀w∈ws,w.ae.length<=2000000/\w.a7.length<=2000000)->Od (n+ws.length) (zzg o ws):=by
 induction ws with
 |nil=>intro n o h _;exact h
 |cons w ws ih=>intro n o h hw;have:=ih (Od.ins h (hw w (by simp))) λx hx=>hw x (by simp[hx]);rw[AR,show n+(ws.length+1)=n+1+ws.length by omega];exact this
theorem zxr{l:List Ag}{t:Int}(h:DF 24 l):(EF l t).length<=24/\ ∀w∈EF l t,w.ae.length<=2000000/\w.a7.length<=2000000:=by
 constructor
 ·have:=List.length_filterMap_le (Gf t) l;have:=h.2.1;unfold EF;omega
 ·intro w hw;obtain⟨c,hc,e⟩:=List.mem_filterMap.1 hw;obtain⟨_,_,h1,_,h2⟩:=h.2.2 c hc;unfold Gf at e;split at e
  ·cases e;refine⟨h1,?_⟩;show(Ft t c.al.reverse).1.length<=_;rw[WA];cases hq:c.al.reverse.find? (λv=>decide (v.ab<=t))with
   |none=>simp
   |some v=>exact h2 v (List.mem_reverse.1 (List.mem_of_find?_eq_some hq))
  ·cases e
end
section
open Go.RowKit Go.Sort
set_option maxRecDepth 100000
set_option maxHeartbeats 1000000
theorem Wl{s:Am}(h:Iv s):Me s.aj:=⟨by have:=h.1.cells.2.1;omega,λc hc=>(h.1.cells.2.2 c hc).2.2⟩
theorem qH{s:Am}(h:Iv s):∀x∈s.ah,KP (HR x):=λx hx=>by obtain⟨h1,h2⟩:=h.1.held x hx;have h3:=(h.2.held x hx).2;exact⟨by show TF x.ao;rw[h3];exact⟨by simp,λy hy=>by simp at hy⟩,⟨by have:=h2.1;show x.af.length<=2000000;omega,h2.2⟩⟩
def dB(s:Am):Int:=bif decide (toB [s]>0)then toB [s]else 0
theorem zzd(s:Am):toB [s]=Jo 100000 (PU s):=rfl
theorem tA(s:Am):0<=dB s/\dB s<=100000:=by
 have h:toB [s]<=100000:=by rw[zzd];unfold Jo;split<;>omega
 unfold dB;by_cases q:toB [s]>0
 ·rw[decide_eq_true q];dsimp only[cond];omega
 ·rw[decide_eq_false q];dsimp only[cond];omega
def Qu(s:Am):C8 × List Ai × Bool:=if HO s=true then(⟨dB s⟩,CF 0 0 (dB s) s.aj,true)else(⟨0⟩,[],false)
theorem zzS{s:Am}(h:Iv s):Vk [s]=some (HO s):=by
 unfold Vk;rw[show Ie (([s]:List Am).length:Int) 1 4=some true from rfl,Aa,if_pos rfl,Mb (λs=> !HO s) (λx hx=>by simp only[List.mem_singleton]at hx;subst hx;unfold ZH;rw[zwY h.1 (Wl h) (qH h)];rfl) (by simp),Aa]
 simp
theorem dC{s:Am}(h:Iv s){a u:Int}:(CF 0 a u s.aj).length<=48:=by have h1:=cY (g:=0) (a:=a) (u:=u) h.2.di;have h2:=sN h.1 h.2;omega
theorem zyF{s:Am}(h:Iv s):Vc ⟨0⟩ [s]=some (Qu s):=by
 have hl:=dC h (a:=0) (u:=dB s);unfold Vc Qu;rw[show Ic (⟨0⟩:C8).cg=some true from rfl,Aa,if_pos rfl,zzS h,Aa];cases HO s with
 |false=>rfl
 |true=>
  rw[if_neg (by simp),if_pos rfl,zvS (by simp) (λx hx=>by simp only[List.mem_singleton]at hx;rw[hx];exact h.1),Aa];have s1:NF ⟨0⟩ [s] (toB [s]) 0 []=some (.inl (1,CF 0 0 (dB s) s.aj)):=by unfold NF;rw[if_pos (by simp),show getI [s] 0=some s from rfl,Aa];show((SI s 0 0 (dB s)).bind _)=_;rw[zvi (Tz h.2.di),Aa];have Jy:(Ej (EM 0 0 (dB s) s.aj).toArray).toList.length<=48:=hl;rw[A8 (by simp only[List.length_nil];omega),List.nil_append];rfl
  have s2:NF ⟨0⟩ [s] (toB [s]) 1 (CF 0 0 (dB s) s.aj)=some (.inr (ZA ⟨0⟩ (toB [s]) (CF 0 0 (dB s) s.aj))):=by unfold NF;rw[if_neg (by simp)]
  refine(L4 (body:=λz:Int × List Ai=>NF ⟨0⟩ [s] (toB [s]) z.1 z.2) s1).trans ((Jd (body:=λz:Int × List Ai=>NF ⟨0⟩ [s] (toB [s]) z.1 z.2) s2).trans ?_);unfold ZA PC;rw[A8 ⟨rfl,rfl,by show(CF 0 0 (dB s) s.aj).length<_;omega⟩,Aa];show((Pw (Ej (CF 0 0 (dB s) s.aj).toArray).toList).bind λv6=>if(!v6)=true then some (((⟨0⟩:C8),([]:List Ai),false))else some (((⟨dB s⟩:C8),(Ej (CF 0 0 (dB s) s.aj).toArray).toList,true)))=_;have hf:=dF (a:=0) (u:=dB s) h.2.di;unfold Jg at hf;simp only[Ab]at hf;rw[zrM (cR h.2.di),o6 (by omega),Aa,hf.1,hf.2.2];rfl
theorem zys{b:List Ai}(hp:b.Pairwise λx y=>ahead x y=true)(hg:Jg b=true)(hs:Qj b):Sy [] b=some (b,true):=by
 have hl:(b.length:Int)<=400:=by unfold Jg at hg;simp only[Ab,Aq]at hg;exact hg.1
 unfold Sy;rw[rD (l:=[]) ⟨by simp,λc hc=>by simp at hc⟩,Aa,if_pos (by rfl),rD hs,Aa,hg,if_neg (by simp),A8 (by simp)];have h1:=(GD (xs:=b) (body:=λz:List Ai × Int=>Pb b z.1 z.2) (λi o=>(o,i)) (λo x=>o++ [x]) (λo=>ZJ o) (λi o=>o=b.take i)
  (λi hi o ho=>by
   subst ho;have Nh:=hp;rw[<-BC i b,Be hi]at Nh;have ha:=(List.pairwise_append.1 Nh).2.2;constructor
   ·show Pb b (b.take i) (i:Int)=_;unfold Pb;rw[if_pos (by simpa using hi),AW hi,Aa,zu3 (by rw[Ax];omega) (λy hy=>ha y hy _ (List.mem_cons_self ..)),Aa,if_neg (by simp),Ct (by omega)]
   ·rw[List.take_succ_eq_append_getElem hi])
  (λo _=>by show Pb b o (b.length:Int)=_;unfold Pb;rw[if_neg (by simp)]) (s:=[]) (by simp))
 refine h1.1.trans ?_;rw[h1.2,List.take_length];unfold ZJ;rw[if_neg (by simp;omega)]
theorem zwz{s:Am}(h:Iv s):VQ [s]=some (if HO s=true then(toB [s],true)else(0,false)):=by
 have II:=h.1.jj;unfold VQ;have e:Vp s=some (if HO s=true then(PU s,true)else(0,false)):=by
  unfold Vp;rw[zwi h.1 (Wl h) (qH h),Aa];cases HO s with
  |false=>rfl
  |true=>rw[if_neg (by simp),ztt (by omega)];rfl
 cases hg:HO s with
 |false=>rw[hg]at e;refine Jd (?_:KI [s] 100000 0=_);unfold KI;rw[if_pos (by simp),show getI [s] 0=some s from rfl,Aa,e];rfl
 |true=>
  rw[hg]at e;have s1:KI [s] 100000 0=some (.inl (toB [s],1)):=by unfold KI;rw[if_pos (by simp),show getI [s] 0=some s from rfl,Aa,e,Aa,if_pos rfl,if_neg (by simp),oT];rfl
  have s2:KI [s] (toB [s]) 1=some (.inr (jZ [s] (toB [s]))):=by unfold KI;rw[if_neg (by simp)]
  refine(L4 (body:=λz:Int × Int=>KI [s] z.1 z.2) s1).trans ((Jd (body:=λz:Int × Int=>KI [s] z.1 z.2) s2).trans ?_);rfl
theorem zyg{s:Am}(h:Iv s):Vh ⟨0⟩ [s]=some (Qu s):=by
 have hl:=dC h (a:=0) (u:=dB s);unfold Vh Qu;rw[zwz h,Aa];cases HO s with
 |false=>rfl
 |true=>
  rw[if_pos rfl,if_pos rfl,if_pos rfl,show Fy (⟨0⟩:C8).cg 0 100000=some true from rfl,Aa,if_neg (by simp)];have em:L1 (toB [s]) (⟨0⟩:C8).cg=some (dB s):=by
   unfold L1 dB;by_cases q:toB [s]>0
   ·simp[q]
   ·simp[q];try omega
  show((L1 (toB [s]) (⟨0⟩:C8).cg).bind _)=_;rw[em,Aa];have s1:NG ⟨0⟩ [s] (dB s) [] 0=some (.inl (CF 0 0 (dB s) s.aj,1)):=by unfold NG;rw[if_pos (by simp),show getI [s] 0=some s from rfl,Aa];show((SL s.aj 0 0 (dB s)).bind _)=_;rw[zyt (Tz h.2.di),Aa,zuo h.2.di];show((Sy [] (CF 0 0 (dB s) s.aj)).bind _)=_;rw[zys (cR h.2.di) (dF h.2.di) (lR (Wl h) h.2.di),Aa];rfl
  have s2:NG ⟨0⟩ [s] (dB s) (CF 0 0 (dB s) s.aj) 1=some (.inr (jM (dB s) (CF 0 0 (dB s) s.aj))):=by unfold NG;rw[if_neg (by simp)]
  exact(L4 (body:=λz:List Ai × Int=>NG ⟨0⟩ [s] (dB s) z.1 z.2) s1).trans (Jd (body:=λz:List Ai × Int=>NG ⟨0⟩ [s] (dB s) z.1 z.2) s2)
theorem zt5{l:List Ag}(h:Ck l=true):CF 0 0 0 l=[]:=by rw[List.eq_nil_iff_forall_not_mem];intro x hx;have:=PN ((G5 (HE (g:=0) (a:=0) (u:=0) h)).2.mem_iff.1 hx);omega
theorem ztn(a0:List Int)(h0:Zb QF a0):Vq a0=some true:=by
 unfold Vq;rw[show bP a0=some (decide ((a0.length:Int)>65536))from rfl,Aa];by_cases hb:(a0.length:Int)>65536
 ·rw[if_pos (by simpa using hb)]
 rw[if_neg (by simpa using hb)];obtain⟨s,s1,e,hd⟩:=zv3 (a0:=a0) h0.2 (by omega);rw[e,Aa,A8 (by simp),show AF [s,s1] 0 1=[s]from rfl,zyF hd,Aa,A8 (by simp),zyg hd,Aa,if_neg (by simp),if_pos (by simp)];obtain⟨d,items,b,hn,d0,d1,ML⟩:∃(d:Int) (items:List Ai) (b:Bool),Qu s=(⟨d⟩,items,b)/\0<=d/\d<=100000/\(items.length<=48/\ ∀m,0<=m->m<=d->items.filter (λx=>decide (x.ab>m))=CF 0 m d s.aj):=by
  unfold Qu;split
  ·exact⟨_,_,_,rfl,(tA s).1,(tA s).2,dC hd,λm h1 h2=>zuw hd.2.di h1 h2⟩
  ·refine⟨_,_,_,rfl,by omega,by omega,by simp,λm h1 h2=> ?_⟩;have:m=0:=by omega
   subst this;rw[zt5 hd.2.di];rfl
 obtain⟨hlen,ML⟩:=ML;obtain⟨x,e6,hx⟩:=Qb (code:=a0) h0.2 (by omega) (i:=60) (by omega) (by omega);rw[hn];dsimp only;rw[zr6 (by omega),Aa,if_neg (by simp),e6,Aa,CS (n:=d+1) (by omega) (by omega),A8 (by omega)];have hm:=Zi (x:=x) (n:=d+1) hx.1 (by omega);obtain⟨m,em⟩:∃m,m=Int.tmod x (d+1):=⟨_,rfl⟩
 rw[<-em]at hm;have hw:IntKind.i64.wrap (d+1)=d+1:=CS (by omega) (by omega);have h1:=(GD (xs:=items) (body:=λz:Int × List Ai=>Pc [s,s1] (⟨d⟩,items,b) x z.1 z.2) (λi o=>(i,o)) (λo c=>if decide (c.ab>m)=true then o++ [c]else o) (λo=>ZM [s,s1] (⟨d⟩,items,b) x o) (λi o=>o.length<=i)
  (λi hi o ho=>by
   constructor
   ·show Pc [s,s1] (⟨d⟩,items,b) x (i:Int) o=_;unfold Pc;dsimp only;rw[if_pos (by simpa using hi),AW hi,Aa,hw,<-em,Ct (by omega)];by_cases hq:(items[i]).ab>m
    ·rw[if_pos (by simpa using hq),if_pos (by simpa using hq),A8 (by simp only[Bt];omega)]
    ·rw[if_neg (by simpa using hq),if_neg (by simpa using hq)]
   ·split
    ·rw[AE,Bt];omega
    ·omega)
  (λo _=>by show Pc [s,s1] (⟨d⟩,items,b) x (items.length:Int) o=_;unfold Pc;rw[if_neg (by simp)]) (s:=[]) (by simp)).1
 refine h1.trans ?_;rw[cN (λc:Ai=>decide (c.ab>m)) (λc=>c) items [],List.nil_append,List.map_id',ML m hm.1 (by omega)];unfold ZM;have hc:=hd.2.di;have hs:=Wl hd;have ha:Bq m 0 100000=true:=Ij.2 (by omega);have uK:=zv0 (a:=m) (u:=d) hc (sN hd.1 hd.2) hm.1 (by omega) d1;obtain⟨wA,XP⟩:=zyV hc ha uK;have c1:P8 s.aj m=(⟨m,EF s.aj m⟩,true):=by unfold P8;rw[if_pos hc,if_pos ha]
 have c2:P8 s.aj d=(⟨d,EF s.aj d⟩,true):=by unfold P8;rw[if_pos hc,if_pos wA]
 have sw:∀t,JV (EF s.aj t):=λt=>⟨Nat.le_trans (List.length_filterMap_le _ _) hs.1,(zxr (dS hc)).2⟩
 rw[show getI [s,s1] 0=some s from rfl,Aa];dsimp only;rw[hw,<-em,oE hs,Aa,c1];dsimp only;rw[zts (c:=⟨m,EF s.aj m⟩) (d:=⟨m,d,CF 0 m d s.aj⟩) (sw m) (lR hs hc),Aa,oE hs,Aa,c2,XP,if_pos rfl,if_pos rfl,if_pos rfl,zua (sw d).1];rfl
end
end Go.Proofs.YtndikjghnmhdmaaGreat

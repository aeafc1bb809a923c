/- Parts of a proof, joined: QE, NVF. -/
import Derived.Test.YtalagilebkaegaaGreatJ10
set_option linter.unusedVariables false
set_option linter.unusedSimpArgs false
namespace Go.Proofs.YtalagilebkaegaaGreat
open Go.RowKit
section
set_option maxRecDepth 100000
set_option maxHeartbeats 2000000
theorem FD{α:Type}{xs:List α}{i:Nat}{x:α}(h:xs[i]?=some x):Am xs (i:Int)=some x:=by simp[Am,h]
noncomputable def mt(n:Int):Ag:=(Hp n).getD []
theorem Np{n:Int}(h:n<=4611686018427387904):Hp n=some (mt n):=by
 have key:∃t,Hp n=some t:=by
  unfold Hp;by_cases h0:n<=0
  ·rw[if_pos (by simpa using h0)];exact⟨_,rfl⟩
  ·rw[if_neg (by simpa using h0)];have go:∀(f:Nat) (n:Int) (s:Ag),n.toNat<=f->0<=n->n+s.length<=4611686018427387905-> ∃t,Au (λs:Int × Ag=>Ng s.1 s.2) (n,s)=some t:=by
    intro f;have stop:∀(n:Int) (s:Ag),¬n>0->s.length<=4611686018427387905->Au (λs:Int × Ag=>Ng s.1 s.2) (n,s)=some ([109]++s):=λn s hz hs=>by refine Pu (?_:Ng n s=_);unfold Ng;rw[if_neg (by simpa using hz)];unfold vH;rw[A7 (by rw[Bd];omega)]
    induction f with
    |zero=>intro n s hf hn hs;exact⟨_,stop n s (by omega) (by omega)⟩
    |succ f ih=>
     intro n s hf hn hs;by_cases hz:n>0
     ·have hd:Int.tdiv n 10<n/\0<=Int.tdiv n 10:=by
       rw[Int.tdiv_eq_ediv_of_nonneg hn];omega
      obtain⟨t,ht⟩:=ih (Int.tdiv n 10) ([(IntKind.u8.wrap (IntKind.i64.wrap ((48:Int)+(Int.tmod n 10))))].map (λn=>UInt8.ofNat n.toNat)++s) (by omega) (by omega) (by simp only[AP,List.length_map,Bd];omega);have e:Ng n s=some (.inl (Int.tdiv n 10,[(IntKind.u8.wrap (IntKind.i64.wrap ((48:Int)+(Int.tmod n 10))))].map (λn=>UInt8.ofNat n.toNat)++s)):=by unfold Ng;rw[if_pos (by simpa using hz),A7 (by simp),A7 (by rw[List.length_map,Bd];omega),CD (n:=Int.tdiv n 10) (by omega) (by omega)]
      exact⟨t,(ZQ (body:=λs:Int × Ag=>Ng s.1 s.2) e).trans ht⟩
     ·exact⟨_,stop n s hz (by omega)⟩
   exact go n.toNat n [] (AJ _) (by omega) (by simp;omega)
 obtain⟨t,ht⟩:=key;rw[mt,ht];rfl
def Ea(l:List (Ag)):Nat:=l.length+(l.map (λx:Ag=>x.length)).sum
theorem mR{xs:List (Ag)}(h:Ea xs<=2000000):Rw xs=some xs:=by
 have hl:xs.length<=2000000:=by unfold Ea at h;omega
 have hx:∀x∈xs,x.length<=2000000:=λx hx=>by have:=Fe (tot:=(λx:Ag=>x.length)) hx;unfold Ea at h;omega
 unfold Rw;rw[A7 (by omega)];exact uC (λi hi v hv=>by
  show U0 xs i v=_;unfold U0;rw[if_pos (by simpa using hi),AN hi,Aa,AN (by omega),Aa,FI hi (by omega)];rfl) (λv=>by
  show U0 xs _ v=_;unfold U0;rw[if_neg (by simp)])
theorem nE{xs:List (Ag)}(h:Ea xs<=2000000):Rv xs xs=some true:=by
 have hl:xs.length<=2000000:=by unfold Ea at h;omega
 have hx:∀x∈xs,x.length<=2000000:=λx hx=>by have:=Fe (tot:=(λx:Ag=>x.length)) hx;unfold Ea at h;omega
 unfold Rv;rw[if_neg (by simp)];exact fT (n:=xs.length) (λi hi=>by
  show U4 xs xs i=_;unfold U4;rw[if_pos (by simpa using hi),AN hi,Aa,Aa,if_neg (by simp),FI hi (by omega)]) (by
  show U4 xs xs _=_;unfold U4;rw[if_neg (by simp)])
theorem nC{xs:List (Ag)}{a:Int}(h0:0<=a)(h1:a<=1048576)(h:(DB Kz) xs):∃v,Rn xs a=some v/\v<=a/\(0<=v->(Ea xs:Int)=a-v):=by
 have hl:xs.length<=9223372036854775807:=h.1;unfold Rn Ea;rw[L0 h0 h1 hl];by_cases h2:a-(xs.length:Int)<0
 ·rw[if_pos (by simpa using h2)];exact⟨-1,rfl,by omega,by omega⟩
 ·rw[if_neg (by simpa using h2)];obtain⟨v,e1,e2,e3⟩:=sH (xs:=xs) (body:=λs:Int × Int=>Rh xs s.1 s.2) (λx:Ag=>x.length) (a:=a-xs.length) (by omega) (by omega) (λx hx b Ha Dy=>by
   refine⟨b-(x.length:Int),by omega,λ_=>by show(x.length:Int)=_;omega,λi hi=> ?_⟩;have BR:=(List.getElem?_eq_some_iff.1 hi).1;show Rh xs b i=_;unfold Rh;rw[if_pos (by simpa using BR),FD hi,Aa,L0 Ha Dy (h.2 _ hx),FI BR (by omega)];by_cases h3:b-(x.length:Int)<0
   ·rw[if_pos (by simpa using h3),if_pos h3]
   ·rw[if_neg (by simpa using h3),if_neg h3]) (λb=>by
   show Rh xs b _=_;unfold Rh;rw[if_neg (by simp)])
  exact⟨v,e1,by omega,λhv=>by have:=e3 hv;omega⟩
theorem mA{xs:List (Ag)}{k:Int}(h0:0<=k)(hk:k+64*(Ea xs:Int)<=4611686018427387904):∃(ys:List (Ag)) (k':Int),k<=k'/\k'<=k+64*(Ea xs:Int)/\ys.length=xs.length/\UY xs k=some (k',ys)/\Va ys k=some k':=by
 have hl:xs.length<=Ea xs:=by unfold Ea;omega
 refine LV (λx:Ag=>x.length) (mb:=λs:Int × Int × List (Ag)=>QL s.1 s.2.1 s.2.2) (hb:=λys s=>QM ys s.1 s.2) h0 (by simp[Ea]) hk (λx hx k h0 hB=> ?_) (λk v hv=> ?_) (λk ys hy=> ?_)
 ·have hB:k+64*(1+(x.length:Int))<=4611686018427387904:=hB;refine⟨?y,k+1,by omega,by omega,λi v hv hi=> ?_,λi ys hy hi=> ?_⟩
  rotate_left
  ·have BR:=(List.getElem?_eq_some_iff.1 hv).1;show QL k i v=_;unfold QL;rw[if_pos (by simpa using BR)];simp(disch:=omega) only[FD hv,CD,Bi,List.set_set,Aa,Np]<;>rfl
  ·have BR:=(List.getElem?_eq_some_iff.1 hy).1;show QM ys k i=_;unfold QM;rw[if_pos (by simpa using BR)];simp(disch:=omega) only[FD hy,bne_self_eq_false,AS,if_false,G4,CD,Bi,List.set_set,Aa,Np]<;>rfl
 ·show QL k _ v=_;unfold QL;rw[if_neg (by simp[hv])]
 ·show QM ys k _=_;unfold QM;rw[if_neg (by simp[hy])]
def GZ(x:BE):Nat:=x.bh.length
theorem zFW{x:BE}(h:GZ x<=2000000):lP x=some x:=rfl
theorem zGu{x:BE}(h:GZ x<=2000000):Zl x x=some true:=by unfold Zl;simp[]
theorem zFS{x:BE}{a:Int}(h0:0<=a)(h1:a<=1048576)(h:UE x):∃v,Zm x a=some v/\v<=a/\(0<=v->(GZ x:Int)=a-v):=by
 unfold Zm GZ;rw[L0 (a:=a) (by omega) (by omega) h.2.1];by_cases q1:a-(x.bh.length:Int)<0
 ·rw[if_pos (by simpa using q1)];exact⟨-1,rfl,by omega,by omega⟩
 rw[if_neg (by simpa using q1)];exact⟨(a-(x.bh.length:Int)),rfl,by omega,λ_=>by omega⟩
def Hu(l:List BE):Nat:=l.length+(l.map GZ).sum
theorem zFl{xs:List BE}(h:Hu xs<=2000000):kW xs=some xs:=by
 have hl:xs.length<=2000000:=by unfold Hu at h;omega
 have hx:∀x∈xs,GZ x<=2000000:=λx hx=>by have:=Fe (tot:=GZ) hx;unfold Hu at h;omega
 exact M8 hl (by omega) (by omega) λx hm=>zFW (hx x hm)
theorem zEw{xs:List BE}(h:Hu xs<=2000000):kZ xs xs=some true:=by
 have hl:xs.length<=2000000:=by unfold Hu at h;omega
 have hx:∀x∈xs,GZ x<=2000000:=λx hx=>by have:=Fe (tot:=GZ) hx;unfold Hu at h;omega
 exact M9 hl λx hm=>zGu (hx x hm)
theorem zEt{xs:List BE}{a:Int}(h0:0<=a)(h1:a<=1048576)(h:(DB UE) xs):∃v,lY xs a=some v/\v<=a/\(0<=v->(Hu xs:Int)=a-v):=by have hl:xs.length<=9223372036854775807:=h.1;exact Qw (tot:=GZ) h0 h1 hl λx hx b Ha Dy=>zFS (x:=x) Ha Dy (h.2 _ hx)
theorem zAJ{xs:List BE}{k:Int}(h0:0<=k)(hk:k+64*(Hu xs:Int)<=4611686018427387904):∃(ys:List BE) (k':Int),k<=k'/\k'<=k+64*(Hu xs:Int)/\ys.length=xs.length/\kM xs k=some (k',ys)/\kL ys k=some k':=by
 have hl:xs.length<=Hu xs:=by unfold Hu;omega
 refine LV GZ (mb:=λs:Int × Int × List BE=>QY s.1 s.2.1 s.2.2) (hb:=λys s=>QT ys s.1 s.2) h0 (by simp[Hu]) hk (λx hx k h0 hB=> ?_) (λk v hv=> ?_) (λk ys hy=> ?_)
 ·have hT:GZ x=x.bh.length:=rfl;refine⟨?y,k+1+1+1,by omega,by omega,λi v hv hi=> ?_,λi ys hy hi=> ?_⟩
  rotate_left
  ·have BR:=(List.getElem?_eq_some_iff.1 hv).1;show QY k i v=_;unfold QY;rw[if_pos (by simpa using BR)];simp(disch:=omega) only[FD hv,CD,Bi,List.set_set,Aa,Np]<;>rfl
  ·have BR:=(List.getElem?_eq_some_iff.1 hy).1;show QT ys k i=_;unfold QT;rw[if_pos (by simpa using BR)];simp(disch:=omega) only[FD hy,bne_self_eq_false,AS,if_false,G4,CD,Bi,List.set_set,Aa,Np]<;>rfl
 ·show QY k _ v=_;unfold QY;rw[if_neg (by simp[hv])]
 ·show QT ys k _=_;unfold QT;rw[if_neg (by simp[hy])]
def F0(x:Aj):Nat:=x.ah.length+Hu x.ay
theorem zEQ{x:Aj}(h:F0 x<=2000000):Zw x=some x:=by unfold Zw;simp only[zFl (xs:=x.ay) (by unfold F0 at h;omega),Aa]
theorem zFd{x:Aj}(h:F0 x<=2000000):Zt x x=some true:=by unfold Zt;simp[zEw (xs:=x.ay) (by unfold F0 at h;omega)]
theorem zFh{x:Aj}{a:Int}(h0:0<=a)(h1:a<=1048576)(h:Wz x):∃v,YY x a=some v/\v<=a/\(0<=v->(F0 x:Int)=a-v):=by
 unfold YY F0;rw[L0 (a:=a) (by omega) (by omega) h.1];by_cases q0:a-(x.ah.length:Int)<0
 ·rw[if_pos (by simpa using q0)];exact⟨-1,rfl,by omega,by omega⟩
 rw[if_neg (by simpa using q0)];obtain⟨b1,e1,g1,r1⟩:=zEt (xs:=x.ay) (a:=(a-(x.ah.length:Int))) (by omega) (by omega) h.2;rw[e1,Aa];by_cases q1:b1<0
 ·rw[if_pos (by simpa using q1)];exact⟨-1,rfl,by omega,by omega⟩
 rw[if_neg (by simpa using q1)];have s1:=r1 (by omega);exact⟨b1,rfl,by omega,λ_=>by omega⟩
def Gw(l:List Aj):Nat:=l.length+(l.map F0).sum
theorem zC4{xs:List Aj}(h:Gw xs<=2000000):lJ xs=some xs:=by
 have hl:xs.length<=2000000:=by unfold Gw at h;omega
 have hx:∀x∈xs,F0 x<=2000000:=λx hx=>by have:=Fe (tot:=F0) hx;unfold Gw at h;omega
 exact M8 hl (by omega) (by omega) λx hm=>zEQ (hx x hm)
theorem zDx{xs:List Aj}(h:Gw xs<=2000000):lK xs xs=some true:=by
 have hl:xs.length<=2000000:=by unfold Gw at h;omega
 have hx:∀x∈xs,F0 x<=2000000:=λx hx=>by have:=Fe (tot:=F0) hx;unfold Gw at h;omega
 exact M9 hl λx hm=>zFd (hx x hm)
theorem zCi{xs:List Aj}{a:Int}(h0:0<=a)(h1:a<=1048576)(h:(DB Wz) xs):∃v,lH xs a=some v/\v<=a/\(0<=v->(Gw xs:Int)=a-v):=by have hl:xs.length<=9223372036854775807:=h.1;exact Qw (tot:=F0) h0 h1 hl λx hx b Ha Dy=>zFh (x:=x) Ha Dy (h.2 _ hx)
theorem zzm{xs:List Aj}{k:Int}(h0:0<=k)(hk:k+64*(Gw xs:Int)<=4611686018427387904):∃(ys:List Aj) (k':Int),k<=k'/\k'<=k+64*(Gw xs:Int)/\ys.length=xs.length/\jN xs k=some (k',ys)/\jV ys k=some k':=by
 have hl:xs.length<=Gw xs:=by unfold Gw;omega
 refine LV F0 (mb:=λs:Int × Int × List Aj=>Re s.1 s.2.1 s.2.2) (hb:=λys s=>Ri ys s.1 s.2) h0 (by simp[Gw]) hk (λx hx k h0 hB=> ?_) (λk v hv=> ?_) (λk ys hy=> ?_)
 ·have hT:F0 x=x.ah.length+Hu x.ay:=rfl;obtain⟨r0,k0,a0,b0, -,m0,g0⟩:=zAJ (xs:=x.ay) (k:=k+1) (by omega) (by omega);refine⟨?y,k0,by omega,by omega,λi v hv hi=> ?_,λi ys hy hi=> ?_⟩
  rotate_left
  ·have BR:=(List.getElem?_eq_some_iff.1 hv).1;show Re k i v=_;unfold Re;rw[if_pos (by simpa using BR)];simp(disch:=omega) only[FD hv,CD,Bi,List.set_set,Aa,Np,m0]<;>rfl
  ·have BR:=(List.getElem?_eq_some_iff.1 hy).1;show Ri ys k i=_;unfold Ri;rw[if_pos (by simpa using BR)];simp(disch:=omega) only[FD hy,bne_self_eq_false,AS,if_false,G4,CD,Bi,List.set_set,Aa,Np,g0]<;>rfl
 ·show Re k _ v=_;unfold Re;rw[if_neg (by simp[hv])]
 ·show Ri ys k _=_;unfold Ri;rw[if_neg (by simp[hy])]
def GV(x:An):Nat:=x.ah.length+x.bh.length
theorem zDa{x:An}(h:GV x<=2000000):lL x=some x:=rfl
theorem zCO{x:An}(h:GV x<=2000000):Za x x=some true:=by unfold Za;simp[]
theorem zCu{x:An}{a:Int}(h0:0<=a)(h1:a<=1048576)(h:SI x):∃v,Zc x a=some v/\v<=a/\(0<=v->(GV x:Int)=a-v):=by
 unfold Zc GV;rw[L0 (a:=a) (by omega) (by omega) h.1];by_cases q0:a-(x.ah.length:Int)<0
 ·rw[if_pos (by simpa using q0)];exact⟨-1,rfl,by omega,by omega⟩
 rw[if_neg (by simpa using q0)];rw[L0 (a:=(a-(x.ah.length:Int))) (by omega) (by omega) h.2.1];by_cases q1:(a-(x.ah.length:Int))-(x.bh.length:Int)<0
 ·rw[if_pos (by simpa using q1)];exact⟨-1,rfl,by omega,by omega⟩
 rw[if_neg (by simpa using q1)];exact⟨((a-(x.ah.length:Int))-(x.bh.length:Int)),rfl,by omega,λ_=>by omega⟩
def Fb(l:List An):Nat:=l.length+(l.map GV).sum
theorem zN{xs:List An}(h:Fb xs<=2000000):Yw xs=some xs:=by
 have hl:xs.length<=2000000:=by unfold Fb at h;omega
 have hx:∀x∈xs,GV x<=2000000:=λx hx=>by have:=Fe (tot:=GV) hx;unfold Fb at h;omega
 exact M8 hl (by omega) (by omega) λx hm=>zDa (hx x hm)
theorem zP{xs:List An}(h:Fb xs<=2000000):YT xs xs=some true:=by
 have hl:xs.length<=2000000:=by unfold Fb at h;omega
 have hx:∀x∈xs,GV x<=2000000:=λx hx=>by have:=Fe (tot:=GV) hx;unfold Fb at h;omega
 exact M9 hl λx hm=>zCO (hx x hm)
theorem zY{xs:List An}{a:Int}(h0:0<=a)(h1:a<=1048576)(h:(DB SI) xs):∃v,Yv xs a=some v/\v<=a/\(0<=v->(Fb xs:Int)=a-v):=by have hl:xs.length<=9223372036854775807:=h.1;exact Qw (tot:=GV) h0 h1 hl λx hx b Ha Dy=>zCu (x:=x) Ha Dy (h.2 _ hx)
theorem xT{xs:List An}{k:Int}(h0:0<=k)(hk:k+64*(Fb xs:Int)<=4611686018427387904):∃(ys:List An) (k':Int),k<=k'/\k'<=k+64*(Fb xs:Int)/\ys.length=xs.length/\Ym xs k=some (k',ys)/\Yg ys k=some k':=by
 have hl:xs.length<=Fb xs:=by unfold Fb;omega
 refine LV GV (mb:=λs:Int × Int × List An=>QG s.1 s.2.1 s.2.2) (hb:=λys s=>QH ys s.1 s.2) h0 (by simp[Fb]) hk (λx hx k h0 hB=> ?_) (λk v hv=> ?_) (λk ys hy=> ?_)
 ·have hT:GV x=x.ah.length+x.bh.length:=rfl;refine⟨?y,k+1+1+1,by omega,by omega,λi v hv hi=> ?_,λi ys hy hi=> ?_⟩
  rotate_left
  ·have BR:=(List.getElem?_eq_some_iff.1 hv).1;show QG k i v=_;unfold QG;rw[if_pos (by simpa using BR)];simp(disch:=omega) only[FD hv,CD,Bi,List.set_set,Aa,Np]<;>rfl
  ·have BR:=(List.getElem?_eq_some_iff.1 hy).1;show QH ys k i=_;unfold QH;rw[if_pos (by simpa using BR)];simp(disch:=omega) only[FD hy,bne_self_eq_false,AS,if_false,G4,CD,Bi,List.set_set,Aa,Np]<;>rfl
 ·show QG k _ v=_;unfold QG;rw[if_neg (by simp[hv])]
 ·show QH ys k _=_;unfold QH;rw[if_neg (by simp[hy])]
def FG(x:Ay):Nat:=Ea x.ak+Fb x.ab
theorem zE0{x:Ay}(h:FG x<=2000000):Y2 x=some x:=by unfold Y2;simp only[mR (xs:=x.ak) (by unfold FG at h;omega),zN (xs:=x.ab) (by unfold FG at h;omega),Aa]
theorem zE1{x:Ay}(h:FG x<=2000000):Zs x x=some true:=by unfold Zs;simp[nE (xs:=x.ak) (by unfold FG at h;omega),zP (xs:=x.ab) (by unfold FG at h;omega)]
theorem zEM{x:Ay}{a:Int}(h0:0<=a)(h1:a<=1048576)(h:WG x):∃v,Y0 x a=some v/\v<=a/\(0<=v->(FG x:Int)=a-v):=by
 unfold Y0 FG;obtain⟨b3,e3,g3,r3⟩:=nC (xs:=x.ak) (a:=a) (by omega) (by omega) h.2.2.2.1;rw[e3,Aa];by_cases q3:b3<0
 ·rw[if_pos (by simpa using q3)];exact⟨-1,rfl,by omega,by omega⟩
 rw[if_neg (by simpa using q3)];have s3:=r3 (by omega);obtain⟨b4,e4,g4,r4⟩:=zY (xs:=x.ab) (a:=b3) (by omega) (by omega) h.2.2.2.2;rw[e4,Aa];by_cases q4:b4<0
 ·rw[if_pos (by simpa using q4)];exact⟨-1,rfl,by omega,by omega⟩
 rw[if_neg (by simpa using q4)];have s4:=r4 (by omega);exact⟨b4,rfl,by omega,λ_=>by omega⟩
def GX(l:List Ay):Nat:=l.length+(l.map FG).sum
theorem zDf{xs:List Ay}(h:GX xs<=2000000):lG xs=some xs:=by
 have hl:xs.length<=2000000:=by unfold GX at h;omega
 have hx:∀x∈xs,FG x<=2000000:=λx hx=>by have:=Fe (tot:=FG) hx;unfold GX at h;omega
 exact M8 hl (by omega) (by omega) λx hm=>zE0 (hx x hm)
theorem zC6{xs:List Ay}(h:GX xs<=2000000):lD xs xs=some true:=by
 have hl:xs.length<=2000000:=by unfold GX at h;omega
 have hx:∀x∈xs,FG x<=2000000:=λx hx=>by have:=Fe (tot:=FG) hx;unfold GX at h;omega
 exact M9 hl λx hm=>zE1 (hx x hm)
theorem zCx{xs:List Ay}{a:Int}(h0:0<=a)(h1:a<=1048576)(h:(DB WG) xs):∃v,lI xs a=some v/\v<=a/\(0<=v->(GX xs:Int)=a-v):=by have hl:xs.length<=9223372036854775807:=h.1;exact Qw (tot:=FG) h0 h1 hl λx hx b Ha Dy=>zEM (x:=x) Ha Dy (h.2 _ hx)
theorem zy9{xs:List Ay}{k:Int}(h0:0<=k)(hk:k+64*(GX xs:Int)<=4611686018427387904):∃(ys:List Ay) (k':Int),k<=k'/\k'<=k+64*(GX xs:Int)/\ys.length=xs.length/\jS xs k=some (k',ys)/\jQ ys k=some k':=by
 have hl:xs.length<=GX xs:=by unfold GX;omega
 refine LV FG (mb:=λs:Int × Int × List Ay=>Rg s.1 s.2.1 s.2.2) (hb:=λys s=>Ra ys s.1 s.2) h0 (by simp[GX]) hk (λx hx k h0 hB=> ?_) (λk v hv=> ?_) (λk ys hy=> ?_)
 ·have hT:FG x=Ea x.ak+Fb x.ab:=rfl;obtain⟨r0,k0,a0,b0, -,m0,g0⟩:=mA (xs:=x.ak) (k:=k+1+1+1) (by omega) (by omega);obtain⟨r1,k1,a1,b1, -,m1,g1⟩:=xT (xs:=x.ab) (k:=k0) (by omega) (by omega);refine⟨?y,k1,by omega,by omega,λi v hv hi=> ?_,λi ys hy hi=> ?_⟩
  rotate_left
  ·have BR:=(List.getElem?_eq_some_iff.1 hv).1;show Rg k i v=_;unfold Rg;rw[if_pos (by simpa using BR)];simp(disch:=omega) only[FD hv,CD,Bi,List.set_set,Aa,m0,m1]<;>rfl
  ·have BR:=(List.getElem?_eq_some_iff.1 hy).1;show Ra ys k i=_;unfold Ra;rw[if_pos (by simpa using BR)];simp(disch:=omega) only[FD hy,bne_self_eq_false,AS,if_false,G4,CD,Bi,List.set_set,Aa,g0,g1]<;>rfl
 ·show Rg k _ v=_;unfold Rg;rw[if_neg (by simp[hv])]
 ·show Ra ys k _=_;unfold Ra;rw[if_neg (by simp[hy])]
theorem zEx{x:Bj}:lW x=some x:=rfl
theorem zEZ{x:Bj}:YW x x=some true:=by unfold YW;simp[]
def Hs(l:List Bj):Nat:=l.length
theorem zCa{xs:List Bj}(h:Hs xs<=2000000):lB xs=some xs:=by
 have hl:xs.length<=2000000:=by unfold Hs at h;omega
 exact M8 hl (by omega) (by omega) λx hm=>zEx
theorem zCm{xs:List Bj}(h:Hs xs<=2000000):lF xs xs=some true:=by
 have hl:xs.length<=2000000:=by unfold Hs at h;omega
 exact M9 hl λx hm=>zEZ
theorem zC7{xs:List Bj}{a:Int}(h0:0<=a)(h1:a<=1048576)(h:(DB bC) xs):∃v,Y8 xs a=some v/\v<=a/\(0<=v->(Hs xs:Int)=a-v):=by
 have hl:xs.length<=9223372036854775807:=h.1;unfold Y8 Hs;rw[L0 h0 h1 hl];by_cases h2:a-(xs.length:Int)<0
 ·rw[if_pos (by simpa using h2)];exact⟨-1,rfl,by omega,by omega⟩
 ·rw[if_neg (by simpa using h2)];exact⟨_,rfl,by omega,λ_=>by omega⟩
theorem zyJ{xs:List Bj}{k:Int}(h0:0<=k)(hk:k+64*(Hs xs:Int)<=4611686018427387904):∃(ys:List Bj) (k':Int),k<=k'/\k'<=k+64*(Hs xs:Int)/\ys.length=xs.length/\jZ xs k=some (k',ys)/\jW ys k=some k':=by
 have hl:xs.length<=Hs xs:=by unfold Hs;omega
 refine LV (λ_=>0) (mb:=λs:Int × Int × List Bj=>Rb s.1 s.2.1 s.2.2) (hb:=λys s=>Q7 ys s.1 s.2) h0 (by rw[nN];unfold Hs;omega) hk (λx hx k h0 hB=> ?_) (λk v hv=> ?_) (λk ys hy=> ?_)
 ·refine⟨?y,k+1+1+1,by omega,by omega,λi v hv hi=> ?_,λi ys hy hi=> ?_⟩
  rotate_left
  ·have BR:=(List.getElem?_eq_some_iff.1 hv).1;show Rb k i v=_;unfold Rb;rw[if_pos (by simpa using BR)];simp(disch:=omega) only[FD hv,CD,Bi,List.set_set,Aa]<;>rfl
  ·have BR:=(List.getElem?_eq_some_iff.1 hy).1;show Q7 ys k i=_;unfold Q7;rw[if_pos (by simpa using BR)];simp(disch:=omega) only[FD hy,bne_self_eq_false,AS,if_false,G4,CD,Bi,List.set_set,Aa]<;>rfl
 ·show Rb k _ v=_;unfold Rb;rw[if_neg (by simp[hv])]
 ·show Q7 ys k _=_;unfold Q7;rw[if_neg (by simp[hy])]
def EB(x:Ai):Nat:=Gw x.aj+GX x.ae+Hs x.aq
theorem zDl{x:Ai}(h:EB x<=2000000):Zh x=some x:=by unfold Zh;simp only[zC4 (xs:=x.aj) (by unfold EB at h;omega),zDf (xs:=x.ae) (by unfold EB at h;omega),zCa (xs:=x.aq) (by unfold EB at h;omega),Aa]
theorem zB8{x:Ai}(h:EB x<=2000000):Zi x x=some true:=by unfold Zi;simp[zDx (xs:=x.aj) (by unfold EB at h;omega),zC6 (xs:=x.ae) (by unfold EB at h;omega),zCm (xs:=x.aq) (by unfold EB at h;omega)]
theorem zCd{x:Ai}{a:Int}(h0:0<=a)(h1:a<=1048576)(h:Ws x):∃v,YJ x a=some v/\v<=a/\(0<=v->(EB x:Int)=a-v):=by
 unfold YJ EB;obtain⟨b1,e1,g1,r1⟩:=zCi (xs:=x.aj) (a:=a) (by omega) (by omega) h.2.1;rw[e1,Aa];by_cases q1:b1<0
 ·rw[if_pos (by simpa using q1)];exact⟨-1,rfl,by omega,by omega⟩
 rw[if_neg (by simpa using q1)];have s1:=r1 (by omega);obtain⟨b2,e2,g2,r2⟩:=zCx (xs:=x.ae) (a:=b1) (by omega) (by omega) h.2.2.1;rw[e2,Aa];by_cases q2:b2<0
 ·rw[if_pos (by simpa using q2)];exact⟨-1,rfl,by omega,by omega⟩
 rw[if_neg (by simpa using q2)];have s2:=r2 (by omega);obtain⟨b3,e3,g3,r3⟩:=zC7 (xs:=x.aq) (a:=b2) (by omega) (by omega) h.2.2.2;rw[e3,Aa];by_cases q3:b3<0
 ·rw[if_pos (by simpa using q3)];exact⟨-1,rfl,by omega,by omega⟩
 rw[if_neg (by simpa using q3)];have s3:=r3 (by omega);exact⟨b3,rfl,by omega,λ_=>by omega⟩
def Gt(l:List Ai):Nat:=l.length+(l.map EB).sum
theorem zzW{xs:List Ai}(h:Gt xs<=2000000):kK xs=some xs:=by
 have hl:xs.length<=2000000:=by unfold Gt at h;omega
 have hx:∀x∈xs,EB x<=2000000:=λx hx=>by have:=Fe (tot:=EB) hx;unfold Gt at h;omega
 exact M8 hl (by omega) (by omega) λx hm=>zDl (hx x hm)
theorem zBG{xs:List Ai}(h:Gt xs<=2000000):kO xs xs=some true:=by
 have hl:xs.length<=2000000:=by unfold Gt at h;omega
 have hx:∀x∈xs,EB x<=2000000:=λx hx=>by have:=Fe (tot:=EB) hx;unfold Gt at h;omega
 exact M9 hl λx hm=>zB8 (hx x hm)
theorem zzP{xs:List Ai}{a:Int}(h0:0<=a)(h1:a<=1048576)(h:(DB Ws) xs):∃v,kN xs a=some v/\v<=a/\(0<=v->(Gt xs:Int)=a-v):=by have hl:xs.length<=9223372036854775807:=h.1;exact Qw (tot:=EB) h0 h1 hl λx hx b Ha Dy=>zCd (x:=x) Ha Dy (h.2 _ hx)
theorem zw0{xs:List Ai}{k:Int}(h0:0<=k)(hk:k+64*(Gt xs:Int)<=4611686018427387904):∃(ys:List Ai) (k':Int),k<=k'/\k'<=k+64*(Gt xs:Int)/\ys.length=xs.length/\jE xs k=some (k',ys)/\iT ys k=some k':=by
 have hl:xs.length<=Gt xs:=by unfold Gt;omega
 refine LV EB (mb:=λs:Int × Int × List Ai=>Q1 s.1 s.2.1 s.2.2) (hb:=λys s=>Q2 ys s.1 s.2) h0 (by simp[Gt]) hk (λx hx k h0 hB=> ?_) (λk v hv=> ?_) (λk ys hy=> ?_)
 ·have hT:EB x=Gw x.aj+GX x.ae+Hs x.aq:=rfl;obtain⟨r0,k0,a0,b0, -,m0,g0⟩:=zzm (xs:=x.aj) (k:=k+1) (by omega) (by omega);obtain⟨r1,k1,a1,b1, -,m1,g1⟩:=zy9 (xs:=x.ae) (k:=k0) (by omega) (by omega);obtain⟨r2,k2,a2,b2, -,m2,g2⟩:=zyJ (xs:=x.aq) (k:=k1) (by omega) (by omega);refine⟨?y,k2,by omega,by omega,λi v hv hi=> ?_,λi ys hy hi=> ?_⟩
  rotate_left
  ·have BR:=(List.getElem?_eq_some_iff.1 hv).1;show Q1 k i v=_;unfold Q1;rw[if_pos (by simpa using BR)];simp(disch:=omega) only[FD hv,CD,Bi,List.set_set,Aa,m0,m1,m2]<;>rfl
  ·have BR:=(List.getElem?_eq_some_iff.1 hy).1;show Q2 ys k i=_;unfold Q2;rw[if_pos (by simpa using BR)];simp(disch:=omega) only[FD hy,bne_self_eq_false,AS,if_false,G4,CD,Bi,List.set_set,Aa,g0,g1,g2]<;>rfl
 ·show Q1 k _ v=_;unfold Q1;rw[if_neg (by simp[hv])]
 ·show Q2 ys k _=_;unfold Q2;rw[if_neg (by simp[hy])]
def FE(x:AG):Nat:=Ea x.ak+Fb x.ab
theorem zDC{x:AG}(h:FE x<=2000000):Zb x=some x:=by unfold Zb;simp only[mR (xs:=x.ak) (by unfold FE at h;omega),zN (xs:=x.ab) (by unfold FE at h;omega),Aa]
theorem zDg{x:AG}(h:FE x<=2000000):YH x x=some true:=by unfold YH;simp[nE (xs:=x.ak) (by unfold FE at h;omega),zP (xs:=x.ab) (by unfold FE at h;omega)]
theorem zDN{x:AG}{a:Int}(h0:0<=a)(h1:a<=1048576)(h:Wr x):∃v,YI x a=some v/\v<=a/\(0<=v->(FE x:Int)=a-v):=by
 unfold YI FE;obtain⟨b1,e1,g1,r1⟩:=nC (xs:=x.ak) (a:=a) (by omega) (by omega) h.2.1;rw[e1,Aa];by_cases q1:b1<0
 ·rw[if_pos (by simpa using q1)];exact⟨-1,rfl,by omega,by omega⟩
 rw[if_neg (by simpa using q1)];have s1:=r1 (by omega);obtain⟨b2,e2,g2,r2⟩:=zY (xs:=x.ab) (a:=b1) (by omega) (by omega) h.2.2;rw[e2,Aa];by_cases q2:b2<0
 ·rw[if_pos (by simpa using q2)];exact⟨-1,rfl,by omega,by omega⟩
 rw[if_neg (by simpa using q2)];have s2:=r2 (by omega);exact⟨b2,rfl,by omega,λ_=>by omega⟩
def Gu(l:List AG):Nat:=l.length+(l.map FE).sum
theorem zBe{xs:List AG}(h:Gu xs<=2000000):kP xs=some xs:=by
 have hl:xs.length<=2000000:=by unfold Gu at h;omega
 have hx:∀x∈xs,FE x<=2000000:=λx hx=>by have:=Fe (tot:=FE) hx;unfold Gu at h;omega
 exact M8 hl (by omega) (by omega) λx hm=>zDC (hx x hm)
theorem zAI{xs:List AG}(h:Gu xs<=2000000):kG xs xs=some true:=by
 have hl:xs.length<=2000000:=by unfold Gu at h;omega
 have hx:∀x∈xs,FE x<=2000000:=λx hx=>by have:=Fe (tot:=FE) hx;unfold Gu at h;omega
 exact M9 hl λx hm=>zDg (hx x hm)
theorem zA7{xs:List AG}{a:Int}(h0:0<=a)(h1:a<=1048576)(h:(DB Wr) xs):∃v,kJ xs a=some v/\v<=a/\(0<=v->(Gu xs:Int)=a-v):=by have hl:xs.length<=9223372036854775807:=h.1;exact Qw (tot:=FE) h0 h1 hl λx hx b Ha Dy=>zDN (x:=x) Ha Dy (h.2 _ hx)
theorem zxi{xs:List AG}{k:Int}(h0:0<=k)(hk:k+64*(Gu xs:Int)<=4611686018427387904):∃(ys:List AG) (k':Int),k<=k'/\k'<=k+64*(Gu xs:Int)/\ys.length=xs.length/\iX xs k=some (k',ys)/\iU ys k=some k':=by
 have hl:xs.length<=Gu xs:=by unfold Gu;omega
 refine LV FE (mb:=λs:Int × Int × List AG=>Q3 s.1 s.2.1 s.2.2) (hb:=λys s=>Q4 ys s.1 s.2) h0 (by simp[Gu]) hk (λx hx k h0 hB=> ?_) (λk v hv=> ?_) (λk ys hy=> ?_)
 ·have hT:FE x=Ea x.ak+Fb x.ab:=rfl;obtain⟨r0,k0,a0,b0, -,m0,g0⟩:=mA (xs:=x.ak) (k:=k+1) (by omega) (by omega);obtain⟨r1,k1,a1,b1, -,m1,g1⟩:=xT (xs:=x.ab) (k:=k0) (by omega) (by omega);refine⟨?y,k1,by omega,by omega,λi v hv hi=> ?_,λi ys hy hi=> ?_⟩
  rotate_left
  ·have BR:=(List.getElem?_eq_some_iff.1 hv).1;show Q3 k i v=_;unfold Q3;rw[if_pos (by simpa using BR)];simp(disch:=omega) only[FD hv,CD,Bi,List.set_set,Aa,m0,m1]<;>rfl
  ·have BR:=(List.getElem?_eq_some_iff.1 hy).1;show Q4 ys k i=_;unfold Q4;rw[if_pos (by simpa using BR)];simp(disch:=omega) only[FD hy,bne_self_eq_false,AS,if_false,G4,CD,Bi,List.set_set,Aa,g0,g1]<;>rfl
 ·show Q3 k _ v=_;unfold Q3;rw[if_neg (by simp[hv])]
 ·show Q4 ys k _=_;unfold Q4;rw[if_neg (by simp[hy])]
def E2(x:Ar):Nat:=Ea x.bb+Gt x.aw+Gu x.ar
theorem tK{x:Ar}(h:E2 x<=2000000):Kc x=some x:=by unfold Kc;simp only[mR (xs:=x.bb) (by unfold E2 at h;omega),zzW (xs:=x.aw) (by unfold E2 at h;omega),zBe (xs:=x.ar) (by unfold E2 at h;omega),Aa]
theorem aZ{x:Ar}(h:E2 x<=2000000):Kb x x=some true:=by unfold Kb;simp[nE (xs:=x.bb) (by unfold E2 at h;omega),zBG (xs:=x.aw) (by unfold E2 at h;omega),zAI (xs:=x.ar) (by unfold E2 at h;omega)]
theorem s8{x:Ar}{a:Int}(h0:0<=a)(h1:a<=1048576)(h:bD x):∃v,Vr x a=some v/\v<=a/\(0<=v->(E2 x:Int)=a-v):=by
 unfold Vr E2;obtain⟨b0,e0,g0,r0⟩:=nC (xs:=x.bb) (a:=a) (by omega) (by omega) h.1;rw[e0,Aa];by_cases q0:b0<0
 ·rw[if_pos (by simpa using q0)];exact⟨-1,rfl,by omega,by omega⟩
 rw[if_neg (by simpa using q0)];have s0:=r0 (by omega);obtain⟨b1,e1,g1,r1⟩:=zzP (xs:=x.aw) (a:=b0) (by omega) (by omega) h.2.1;rw[e1,Aa];by_cases q1:b1<0
 ·rw[if_pos (by simpa using q1)];exact⟨-1,rfl,by omega,by omega⟩
 rw[if_neg (by simpa using q1)];have s1:=r1 (by omega);obtain⟨b2,e2,g2,r2⟩:=zA7 (xs:=x.ar) (a:=b1) (by omega) (by omega) h.2.2;rw[e2,Aa];by_cases q2:b2<0
 ·rw[if_pos (by simpa using q2)];exact⟨-1,rfl,by omega,by omega⟩
 rw[if_neg (by simpa using q2)];have s2:=r2 (by omega);exact⟨b2,rfl,by omega,λ_=>by omega⟩
theorem ZZ{x:Ar}{k:Int}(h0:0<=k)(hk:k+64*(E2 x:Int)<=4611686018427387904):∃(y:Ar) (k':Int),k<=k'/\k'<=k+64*(E2 x:Int)/\Pe x k=some (k',y)/\Pf y k=some k':=by
 have hT:E2 x=Ea x.bb+Gt x.aw+Gu x.ar:=rfl;obtain⟨r0,k0,a0,b0, -,m0,g0⟩:=mA (xs:=x.bb) (k:=k) (by omega) (by omega);obtain⟨r1,k1,a1,b1, -,m1,g1⟩:=zw0 (xs:=x.aw) (k:=k0) (by omega) (by omega);obtain⟨r2,k2,a2,b2, -,m2,g2⟩:=zxi (xs:=x.ar) (k:=k1) (by omega) (by omega);refine⟨?y,k2,by omega,by omega,?_,?_⟩
 rotate_left
 ·unfold Pe;simp only[m0,m1,m2,Aa]<;>rfl
 ·unfold Pf;simp(disch:=omega) only[g0,g1,g2,Aa,G4,AS,if_false]<;>rfl
theorem yY{x:BU}:Rp x=some x:=rfl
theorem zy5{x:BU}:YC x x=some true:=by unfold YC;simp[]
def Jf(l:List BU):Nat:=l.length
theorem zxb{xs:List BU}(h:Jf xs<=2000000):RC xs=some xs:=by
 have hl:xs.length<=2000000:=by unfold Jf at h;omega
 exact M8 hl (by omega) (by omega) λx hm=>yY
theorem zxH{xs:List BU}(h:Jf xs<=2000000):iV xs xs=some true:=by
 have hl:xs.length<=2000000:=by unfold Jf at h;omega
 exact M9 hl λx hm=>zy5
theorem zxp{xs:List BU}{a:Int}(h0:0<=a)(h1:a<=1048576)(h:(DB VP) xs):∃v,Yd xs a=some v/\v<=a/\(0<=v->(Jf xs:Int)=a-v):=by
 have hl:xs.length<=9223372036854775807:=h.1;unfold Yd Jf;rw[L0 h0 h1 hl];by_cases h2:a-(xs.length:Int)<0
 ·rw[if_pos (by simpa using h2)];exact⟨-1,rfl,by omega,by omega⟩
 ·rw[if_neg (by simpa using h2)];exact⟨_,rfl,by omega,λ_=>by omega⟩
theorem zuE{xs:List BU}{k:Int}(h0:0<=k)(hk:k+64*(Jf xs:Int)<=4611686018427387904):∃(ys:List BU) (k':Int),k<=k'/\k'<=k+64*(Jf xs:Int)/\ys.length=xs.length/\iH xs k=some (k',ys):=by
 have hl:xs.length<=Jf xs:=by unfold Jf;omega
 refine zB9 (λ_=>0) (mb:=λs:Int × Int × List BU=>QJ s.1 s.2.1 s.2.2) h0 (by rw[nN];unfold Jf;omega) hk (λx hx k h0 hB=> ?_) (λk v hv=> ?_)
 ·refine⟨?y,k+1+1+1+1,by omega,by omega,λi v hv hi=> ?_⟩
  rotate_left
  ·have BR:=(List.getElem?_eq_some_iff.1 hv).1;show QJ k i v=_;unfold QJ;rw[if_pos (by simpa using BR)];simp(disch:=omega) only[FD hv,CD,Bi,List.set_set,Aa]<;>rfl
 ·show QJ k _ v=_;unfold QJ;rw[if_neg (by simp[hv])]
def Ki(l:List Bool):Nat:=l.length
theorem zCq{xs:List Bool}(h:Ki xs<=2000000):R4 xs xs=some true:=by
 have hl:xs.length<=2000000:=by unfold Ki at h;omega
 unfold R4;rw[if_neg (by simp)];exact fT (n:=xs.length) (λi hi=>by
  show U6 xs xs i=_;unfold U6;rw[if_pos (by simpa using hi),AN hi,Aa,Aa,if_neg (by simp),FI hi (by omega)]) (by
  show U6 xs xs _=_;unfold U6;rw[if_neg (by simp)])
theorem zyS{xs:List Bool}{k:Int}(h0:0<=k)(hk:k+64*(Ki xs:Int)<=4611686018427387904):∃(ys:List Bool) (k':Int),k<=k'/\k'<=k+64*(Ki xs:Int)/\ys.length=xs.length/\jP xs k=some (k',ys)/\YG ys k=some k':=by
 have hl:xs.length<=Ki xs:=by unfold Ki;omega
 refine LV (λ_=>0) (mb:=λs:Int × Int × List Bool=>Q8 s.1 s.2.1 s.2.2) (hb:=λys s=>Rf ys s.1 s.2) h0 (by rw[nN];unfold Ki;omega) hk (λx hx k h0 hB=> ?_) (λk v hv=> ?_) (λk ys hy=> ?_)
 ·refine⟨?y,k+1,by omega,by omega,λi v hv hi=> ?_,λi ys hy hi=> ?_⟩
  rotate_left
  ·have BR:=(List.getElem?_eq_some_iff.1 hv).1;show Q8 k i v=_;unfold Q8;rw[if_pos (by simpa using BR)];simp(disch:=omega) only[FD hv,CD,Bi,List.set_set,Aa]<;>rfl
  ·have BR:=(List.getElem?_eq_some_iff.1 hy).1;show Rf ys k i=_;unfold Rf;rw[if_pos (by simpa using BR)];simp(disch:=omega) only[FD hy,bne_self_eq_false,AS,if_false,G4,CD,Bi,List.set_set,Aa]<;>rfl
 ·show Q8 k _ v=_;unfold Q8;rw[if_neg (by simp[hv])]
 ·show Rf ys k _=_;unfold Rf;rw[if_neg (by simp[hy])]
theorem NN{α:Type}{f:α->Nat}{n:Nat}:∀{l:List α},(∀x∈l,f x<=n)->(l.map f).sum<=n*l.length
 | [],_=>by simp
 |x::l,h=>by have h1:=h x (by simp);have h2:=NN (l:=l) λy hy=>h y (by simp[hy]);rw[List.map_cons,List.sum_cons,A3,Nat.mul_add];omega
theorem aQ{s:Ap}(h:Dh s=true):s.length<=12:=by unfold Dh at h;rw[Ab]at h;have:=Fp.1 h.1;omega
theorem zx7{ks:List Ap}(h:Ep ks=true):∀k∈ks,k.length<=12:=λk hk=>by unfold Ep at h;rw[Ab,Bl]at h;exact aQ (h.1 k hk)
theorem yA{v:Ap}{g:Bool}(h:F3 v g=true):v.length<=24:=by unfold F3 PJ at h;simp only[Ab,AR]at h;omega
theorem pB{ks:List Ap}(h:∀k∈ks,k.length<=12):Ea ks<=13*ks.length:=by have:=NN (f:=λx:Ag=>x.length) h;unfold Ea;omega
theorem yX{ws:List An}(h:Hq ws=true):Fb ws<=37*ws.length:=by
 have:=NN (f:=GV) (n:=36) (l:=ws) λw hw=>by unfold Hq at h;simp only[Ab,Bl]at h;have:=h.2.1 w hw;unfold K7 at this;rw[Ab]at this;have h1:=aQ this.1;have h2:=yA this.2;unfold GV;omega
 unfold Fb;omega
theorem zAW{l:List Aj}(h:Eo l=true):Gw l<=24*500:=by
 unfold Eo at h;simp only[Ab,AR,Bl]at h;obtain⟨h1,h2,_⟩:=h;have:=NN (f:=F0) (n:=450) (l:=l) λc hc=>by
  have h3:=h2 c hc;unfold Gx IL at h3;simp only[Ab,Bl]at h3;obtain⟨h4,h5,h6,_⟩:=h3;have h7:=Fp.1 h5;have h8:=aQ h4;have h9:=NN (f:=GZ) (n:=24) (l:=c.ay) λv hv=>by have:=h6 v hv;unfold NH at this;rw[Ab]at this;exact yA this.2
  unfold F0 Hu;omega
 unfold Gw;omega
theorem zBK{s:Ai}(w:WS s)(g:Js s):EB s<=20000:=by
 have h1:=zAW g.cells;have h2:=w.cx;have h3:=w.en;have h4:=NN (f:=FG) (n:=400) (l:=s.ae) λx hx=>by obtain⟨⟨a,b,_⟩,_⟩:=w.held x hx;have hg:=(g.single x hx).1;unfold CC at hg;rw[if_pos (show(D5 x).bc=1 from rfl)]at hg;simp only[Ab]at hg;obtain⟨_,_,_,c,_,e,_⟩:=hg;have f1:=pB (ks:=x.ak) (zx7 c);have f2:=yX (ws:=x.ab) e;unfold FG;omega
 unfold EB GX Hs;omega
theorem zyz{d:Ar}(g:GD d):E2 d<=2000000:=by
 have h1:=pB (ks:=d.bb) λk hk=>aQ (g.keys k hk);have h2:=g.en;have h3:=g.len;have h4:=g.dj;have h5:=NN (f:=EB) (n:=20000) (l:=d.aw) λs hs=>zBK (g.cg s hs).1 (g.cg s hs).2;have h6:=NN (f:=FE) (n:=400) (l:=d.ar) λo ho=>by obtain⟨_,⟨a,b,_⟩,c,e⟩:=Jk (g.dn o ho).1;have f1:=pB (zx7 c);have f2:=yX e;unfold FE;omega
 unfold E2 Gt Gu;omega
theorem nP{ks:List Ap}(h:Ea ks<=2000000):Mk ks:=by unfold Ea at h;exact⟨by omega,λk hk=>by have:=Fe (tot:=λx:Ag=>x.length) hk;omega⟩
theorem zxN{ws:List An}(h:Fb ws<=2000000):Ww ws:=by unfold Fb at h;exact⟨by omega,λw hw=>by have:=Fe (tot:=GV) hw;unfold GV at this h;omega⟩
theorem zxa{s:Ai}(h:EB s<=2000000):Me s:=by
 unfold EB Gw GX Hs at h;refine⟨⟨by omega,λc hc=> ?_⟩,by omega,λx hx=> ?_,by omega⟩
 ·have h1:=Fe (tot:=F0) hc;have h2:F0 c=c.ah.length+(c.ay.length+(c.ay.map GZ).sum):=rfl;exact⟨by omega,by omega,λv hv=>by have h3:=Fe (tot:=GZ) hv;have h4:GZ v=v.bh.length:=rfl;omega⟩
 ·have h1:=Fe (tot:=FG) hx;have h2:FG x=Ea x.ak+Fb x.ab:=rfl;exact⟨nP (ks:=x.ak) (by omega),zxN (ws:=x.ab) (by omega)⟩
theorem yO{d:Ar}(h:E2 d<=2000000):SZ d:=by
 unfold E2 Gt Gu at h;refine⟨nP (by omega),by omega,λs hs=> ?_,by omega,λo ho=> ?_⟩
 ·have h1:=Fe (tot:=EB) hs;exact zxa (by omega)
 ·have h1:=Fe (tot:=FE) ho;have h2:FE o=Ea o.ak+Fb o.ab:=rfl;exact⟨nP (by omega),zxN (by omega)⟩
theorem Z6:E2 ⟨[],[],[]⟩<=2000000:=by simp[E2,Ea,Gt,Gu]
theorem zBp{d:Ar}{a:BU}(h:SZ d):∃r,kQ d a=some r/\(YQ d a=some r/\E2 r.1<=2000000):=by
 unfold kQ YQ;rw[zxQ h,zyf h,Aa,Aa];cases hg:NT d with
 |false=>exact⟨_,rfl,rfl,Z6⟩
 |true=>
  have g:=uK h hg;simp only[Bool.not_true,AS,if_false];rw[sL g,tG g];refine⟨_,rfl,rfl,?_⟩;cases hs:IV d a with
  |none=>exact Z6
  |some d'=>exact zyz (tA g hs)
def Jn(z:Ar × List Bool)(a:BU):Ar × List Bool:=match IV z.1 a with
 |some d=>(d,z.2++ [true])
 |none=>(z.1,z.2++ [false])
theorem pV{z:Ar × List Bool}{a:BU}(g:GD z.1):GD (Jn z a).1/\(Jn z a).2.length=z.2.length+1:=by
 unfold Jn;cases hs:IV z.1 a with
 |none=>exact⟨g,by simp⟩
 |some d=>exact⟨tA g hs,by simp⟩
theorem zFo{d:Ar}{al:List BU}(g:GD d)(hl:al.length<=80):Au (λs:Int × List (Ag) × List Ai × List AG × List Bool=>O2 al s.1 s.2.1 s.2.2.1 s.2.2.2.1 s.2.2.2.2) (0,d.bb,d.aw,d.ar,[])=some ((al.foldl Jn (d,[])).1,(al.foldl Jn (d,[])).2,true):=by
 refine(E9 (xs:=al) (body:=λs:Int × List (Ag) × List Ai × List AG × List Bool=>O2 al s.1 s.2.1 s.2.2.1 s.2.2.2.1 s.2.2.2.2) (λi (z:Ar × List Bool)=>(i,z.1.bb,z.1.aw,z.1.ar,z.2)) Jn (λz=>some (z.1,z.2,true)) (λi z=>GD z.1/\z.2.length=i)
  (λi hi z hz=>by
   obtain⟨g1,g2⟩:=pV (a:=al[i]) hz.1;refine⟨?_,g1,by rw[g2,hz.2]⟩;show O2 al (i:Int) z.1.bb z.1.aw z.1.ar z.2=_;unfold O2;have e:QR ⟨z.1.bb,z.1.aw,z.1.ar⟩ al[i]=some (KI (IV z.1 al[i])):=tG hz.1;have OU:=hz.2;rw[if_pos (by simpa using hi),AN hi,Aa,e,Aa,Bx (by omega)];unfold Jn;cases IV z.1 al[i]with
   |none=>rw[if_neg (by simp[KI]),A7 (by simp only[RM,Bd];omega)];rfl
   |some x=>rw[if_pos (by rfl),A7 (by simp only[RM,Bd];omega)];rfl)
  (λz _=>by show O2 al (al.length:Int) z.1.bb z.1.aw z.1.ar z.2=_;unfold O2;rw[if_neg (by simp)]) (s:=(d,[])) ⟨g,rfl⟩).1
theorem zEu{d:Ar}{al:List BU}(g:GD d)(hl:al.length<=80):Zg d al=some (al.foldl Jn (d,[])):=by
 unfold Zg;rw[zB g,Aa];refine(E9 (xs:=al) (body:=λs:List Bool × Int × List AG × List (Ag) × List Ai=>RN al s.1 s.2.1 s.2.2.1 s.2.2.2.1 s.2.2.2.2) (λi (z:Ar × List Bool)=>(z.2,i,z.1.ar,z.1.bb,z.1.aw)) Jn (λz=>some z) (λi z=>GD z.1/\z.2.length=i)
  (λi hi z hz=>by
   obtain⟨g1,g2⟩:=pV (a:=al[i]) hz.1;refine⟨?_,g1,by rw[g2,hz.2]⟩;show RN al z.2 (i:Int) z.1.ar z.1.bb z.1.aw=_;unfold RN;have e:R3 ⟨z.1.bb,z.1.aw,z.1.ar⟩ al[i]=some (KI (IV z.1 al[i])):=sL hz.1;have OU:=hz.2;rw[if_pos (by simpa using hi),AN hi,Aa,e,Aa,Bx (by omega)];unfold Jn;cases IV z.1 al[i]with
   |none=>rw[if_neg (by simp[KI]),A7 (by simp only[RM,Bd];omega)];rfl
   |some x=>rw[if_pos (by rfl),A7 (by simp only[RM,Bd];omega)];rfl)
  (λz _=>by show RN al z.2 (al.length:Int) z.1.ar z.1.bb z.1.aw=_;unfold RN;rw[if_neg (by simp)]) (s:=(d,[])) ⟨g,rfl⟩).1
theorem sK:∀(al:List BU) (z:Ar × List Bool),GD z.1->GD (al.foldl Jn z).1/\(al.foldl Jn z).2.length=z.2.length+al.length
 | [],z,g=>⟨g,by simp⟩
 |a::al,z,g=>by obtain⟨g1,g2⟩:=pV (a:=a) g;obtain⟨h1,h2⟩:=sK al _ g1;refine⟨h1,?_⟩;rw[List.foldl_cons,h2,g2,A3];omega
theorem zBc{d:Ar}{al:List BU}(h:SZ d):∃r,YO d al=some r/\(Vd d al=some r/\(E2 r.1<=2000000/\Ki r.2.1<=2000000)):=by
 unfold YO Vd;rw[zxQ h,zyf h,Aa,Aa];cases hg:NT d with
 |false=>exact⟨_,rfl,rfl,Z6,by simp[Ki]⟩
 |true=>
  have g:=uK h hg;by_cases hl:al.length<=80
  ·have e:((!true)||decide ((al.length:Int)>80))=false:=by simp;omega
   obtain⟨h1,h2⟩:=sK al (d,[]) g;rw[e,if_neg (by simp),if_neg (by simp),zEu g hl,Aa,xH g,Aa];exact⟨_,rfl,zFo g hl,zyz h1,by unfold Ki;rw[h2];simp;omega⟩
  ·have e:((!true)||decide ((al.length:Int)>80))=true:=by simp;omega
   rw[e,if_pos rfl,if_pos rfl];exact⟨_,rfl,rfl,Z6,by simp[Ki]⟩
theorem zzF(a0:Ar)(a1:BU)(h0:bD a0)(_:VP a1):vE a0 a1=some true:=by
 unfold vE;obtain⟨b0,e0,g0,r0⟩:=s8 (x:=a0) (a:=1048576) (by omega) (by omega) h0;rw[e0,Aa];by_cases q0:b0<0
 ·rw[if_pos (by simpa using q0)]
 rw[if_neg (by simpa using q0)];have s0:=r0 (by omega);have t0:E2 a0<=2000000:=by omega
 obtain⟨r,vs,vi,tr⟩:=zBp (a:=a1) (yO t0);obtain⟨x0,k0,u0,w0,m0,_⟩:=ZZ (x:=a0) (k:=1) (by omega) (by omega);obtain⟨y0,k1,u1,w1,m1,n1⟩:=ZZ (x:=r.1) (k:=1) (by omega) (by omega);simp only[tK t0,yY,vs,vi,aZ t0,aZ tr,m0,m1,n1,G4 (show 0<=k0 by omega),G4 (show 0<=k1 by omega),bne_self_eq_false,Aa,Bool.not_true,Bool.or_false,AS,if_false,if_true]
theorem zqm(a0:Ar)(a1:List BU)(h0:bD a0)(h1:(DB VP) a1):XX a0 a1=some true:=by
 unfold XX;obtain⟨b0,e0,g0,r0⟩:=s8 (x:=a0) (a:=1048576) (by omega) (by omega) h0;rw[e0,Aa];by_cases q0:b0<0
 ·rw[if_pos (by simpa using q0)]
 rw[if_neg (by simpa using q0)];have s0:=r0 (by omega);have t0:E2 a0<=2000000:=by omega
 obtain⟨b1,e1,g1,r1⟩:=zxp (xs:=a1) (a:=b0) (by omega) (by omega) h1;rw[e1,Aa];by_cases q1:b1<0
 ·rw[if_pos (by simpa using q1)]
 rw[if_neg (by simpa using q1)];have s1:=r1 (by omega);have t1:Jf a1<=2000000:=by omega
 obtain⟨r,vs,vi,tr,tb⟩:=zBc (al:=a1) (yO t0);obtain⟨x0,k0,u0,w0,m0,_⟩:=ZZ (x:=a0) (k:=1) (by omega) (by omega);obtain⟨x1,k1,u1,w1,_,m1⟩:=zuE (xs:=a1) (k:=k0) (by omega) (by omega);obtain⟨y0,k2,u2,w2,m2,n2⟩:=ZZ (x:=r.1) (k:=1) (by omega) (by omega);obtain⟨y1,k3,u3,w3,_,m3,n3⟩:=zyS (xs:=r.2.1) (k:=k2) (by omega) (by omega);simp only[tK t0,zxb t1,vs,vi,aZ t0,zxH t1,aZ tr,zCq tb,m0,m1,m2,n2,m3,n3,G4 (show 0<=k0 by omega),G4 (show 0<=k1 by omega),G4 (show 0<=k2 by omega),G4 (show 0<=k3 by omega),bne_self_eq_false,Aa,Bool.not_true,Bool.or_false,AS,if_false,if_true]
end
end Go.Proofs.YtalagilebkaegaaGreat

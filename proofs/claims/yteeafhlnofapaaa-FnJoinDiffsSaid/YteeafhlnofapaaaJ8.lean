/- Parts of a proof, joined: NF, NC, NI, NJ, NJA, ND, NGA, NX, NSP, NSQ, NSR, NSS, NDR, NJL. -/
import Derived.Test.YteeafhlnofapaaaJ7
set_option linter.unusedVariables false
set_option linter.unusedSimpArgs false
namespace Go.Proofs.Yteeafhlnofapaaa
section
open Go.RowKit
set_option maxRecDepth 100000
def A3(a b:Am):Bool:=if a.ab≠b.ab then decide (a.ab<b.ab)else if a.ah≠b.ah then decide (a.ah<b.ah)else bl a.ae b.ae
theorem RP(a b:Am):L2 a b=some (A3 a b):=by unfold L2 A3;by_cases h:a.ab=b.ab<;>by_cases h2:a.ah=b.ah<;>simp[h,h2]
theorem OS{a b c:Am}(h1:A3 a b=true)(h2:A3 b c=true):A3 a c=true:=by
 unfold A3 at*;by_cases e1:a.ab=b.ab
 ·by_cases e2:b.ab=c.ab
  ·rw[if_neg (by simpa using e1)]at h1;rw[if_neg (by simpa using e2)]at h2;rw[if_neg (by simpa using e1.trans e2)];by_cases g1:a.ah=b.ah
   ·by_cases g2:b.ah=c.ah
    ·rw[if_neg (by simpa using g1)]at h1;rw[if_neg (by simpa using g2)]at h2;rw[if_neg (by simpa using g1.trans g2)];exact Ia h1 h2
    ·rw[if_pos g2,Au]at h2;rw[if_pos (by omega),Au];omega
   ·rw[if_pos g1,Au]at h1;by_cases g2:b.ah=c.ah
    ·rw[if_pos (by omega),Au];omega
    ·rw[if_pos g2,Au]at h2;rw[if_pos (by omega),Au];omega
  ·rw[if_pos e2,Au]at h2;rw[if_pos (by omega),Au];omega
 ·rw[if_pos e1,Au]at h1;by_cases e2:b.ab=c.ab
  ·rw[if_pos (by omega),Au];omega
  ·rw[if_pos e2,Au]at h2;rw[if_pos (by omega),Au];omega
theorem iI(a:Am):A3 a a=false:=by unfold A3;simp[HE]
def Sn(a b:Am):Int:=if A3 a b=true then-1 else if A3 b a=true then 1 else 0
theorem o6(a b c:Int):Q3 [a,b,c]=some (if a≠0 then a else if b≠0 then b else c):=by
 have hb:∀i:Nat,(h:i<3)->OE [a,b,c] i=if([a,b,c]:List Int)[i]≠0 then some (.inr (some ([a,b,c]:List Int)[i]))else some (.inl ((i+1:Nat):Int)):=by intro i h;unfold OE;rw[if_pos (by simp;omega),B6 (by simpa using h),Af,EK h (by omega)];by_cases hz:([a,b,c]:List Int)[i]=0<;>simp[hz]
 have h3:OE [a,b,c] ((3:Nat):Int)=some (.inr (some 0)):=by unfold OE;rw[if_neg (by simp)]
 unfold Q3;rw[Ec,show(0:Int)=((0:Nat):Int)from rfl,hb 0 (by omega)];by_cases ha:a=0
 ·rw[if_neg (by simpa using ha),if_neg (by simpa using ha)];show Bp _ ((1:Nat):Int)=_;rw[Ec,hb 1 (by omega)];by_cases Bt:b=0
  ·rw[if_neg (by simpa using Bt),if_neg (by simpa using Bt)];show Bp _ ((2:Nat):Int)=_;rw[Ec,hb 2 (by omega)];by_cases hc:c=0
   ·rw[if_neg (by simpa using hc)];show Bp _ ((3:Nat):Int)=_;rw[Ec,h3];simp[hc]
   ·rw[if_pos (by simpa using hc)];rfl
  ·rw[if_pos (by simpa using Bt),if_pos (by simpa using Bt)];rfl
 ·rw[if_pos (by simpa using ha),if_pos (by simpa using ha)];rfl
theorem qR(a b:Am):QG a b=some (Sn a b):=by
 unfold QG;simp only[qK,qW,Af,o6];unfold Sn A3 Wx Wu;congr 1;rcases Int.lt_trichotomy a.ab b.ab with h|h|h
 ·have h1: ¬a.ab=b.ab:=by omega
  simp[h,h1]
 ·have h2:=h.symm;rcases Int.lt_trichotomy a.ah b.ah with g|g|g
  ·have g1: ¬a.ah=b.ah:=by omega
   simp[h,g,g1]
  ·have g2:=g.symm;rcases R7 a.ae b.ae with k|k|k
   ·simp[h,g,k]
   ·simp[h,g,k,HE]
   ·have k1:=RJ k;have k2: ¬a.ae=b.ae:=λe=>Ij k e.symm;simp[h,g,k,k1,k2]
  ·have g1: ¬a.ah=b.ah:=by omega
   have g2: ¬b.ah=a.ah:=by omega
   have g3: ¬a.ah<b.ah:=by omega
   simp[h,g,g1,g2,g3]
 ·have h1: ¬a.ab=b.ab:=by omega
  have h2: ¬b.ab=a.ab:=by omega
  have h3: ¬a.ab<b.ab:=by omega
  simp[h,h1,h2,h3]
theorem pJ(a b:Am):decide (Sn a b>=0)= !A3 a b:=by
 unfold Sn;cases A3 a b with
 |true=>simp
 |false=>cases A3 b a<;>simp
def F6(c:Am):Bool:=Ci c.ab 1 100000&&(Ci c.ah 0 3&&(Ed c.ae&&GJ c.aw c.aq))
def G1(l:List Am):Bool:=decide ((l.length:Int)<=400)&&(l.all F6&&C4 A3 l)
def We(c:Am):Prop:=c.ae.length<=2000000/\c.aw.length<=2000000
def MF(l:List Am):Prop:=l.length<=2000000/\ ∀c∈l,We c
theorem R2{c:Am}(h:We c):Rb c=some (F6 c):=by unfold Rb F6;simp only[Lt,Af,VC h.1 h.2];cases Ci c.ab 1 100000<;>cases Ci c.ah 0 3<;>simp
theorem pL{c:Am}(h:We c):QL c=some (F6 c):=by unfold QL F6 Mb UB;simp only[Mr,Af,aA h.1,Vg h.2];cases Ci c.ab 1 100000<;>cases Ci c.ah 0 3<;>cases Ed c.ae<;>simp
theorem oG{l:List Am}(h:l.length<=2000000):Q4 l=some (decide ((l.length:Int)<=400)&&C4 A3 l):=by
 unfold Q4;rw[Mo (xs:=l) (body:=λs:Int=>K6 l s) (λ_=>true) A3 false (Ut l) (λh0=> ?_) (λi hi=> ?_) (by simp[K6])]
 ·unfold Ut;cases C4 A3 l<;>simp
 ·show K6 l 0=_;unfold K6;rw[if_pos (by simpa using h0),if_neg (by simp)];rfl
 ·show K6 l ((i+1:Nat):Int)=_;unfold K6;rw[if_pos (by simp;omega),if_pos (by simp),Lo (by omega) (by omega),Nat.add_sub_cancel,B6 (show i<l.length by omega),Af,B6 hi,Af,qR,Af,pJ,EK hi (by omega)];cases A3 l[i] l[i+1]<;>rfl
theorem o7{l:List Am}(h:MF l):QJ l=some (G1 l):=by unfold QJ G1;rw[oG h.1,Af,ZH (λc=> !F6 c) (λc hc=>by simp[Ui,pL (h.2 c hc)]) (by have:=h.1;omega)];rw[<-List.not_all_eq_any_not];cases decide ((l.length:Int)<=400)<;>cases C4 A3 l<;>cases l.all F6<;>rfl
theorem o8{l:List Am}(h:MF l):Q8 l=some (G1 l):=by
 have hn:=h.1;unfold Q8 G1;by_cases hl:(l.length:Int)<=400
 ·rw[Mo (xs:=l) (body:=λs:Int=>Gz l s) F6 A3 false (OA l) (λh0=> ?_) (λi hi=> ?_) (by simp[Gz])]
  ·unfold OA;cases l.all F6<;>cases C4 A3 l<;>simp[hl]
  ·show Gz l 0=_;unfold Gz;rw[if_pos (by simpa using h0),show(0:Int)=((0:Nat):Int)from rfl,B6 h0,Af,R2 (h.2 _ (Bh h0)),Af,if_neg (by simp)];cases F6 l[0]<;>rfl
  ·show Gz l ((i+1:Nat):Int)=_;unfold Gz;rw[if_pos (by simp;omega),B6 hi,Af,R2 (h.2 _ (Bh hi)),Af,if_pos (by simp),Lo (by omega) (by omega),Nat.add_sub_cancel,B6 (show i<l.length by omega),Af,RP,Af,EK hi (by omega)];cases F6 l[i+1]<;>cases A3 l[i] l[i+1]<;>rfl
 ·have ht:=Mo (xs:=l.take 401) (body:=λs:Int=>Gz l s) F6 A3 false (OA l) (λh0=> ?_) (λi hi=> ?_) (by
   have:(l.take 401).length=401:=by rw[AU];omega
   rw[this];simp[Gz])
  ·rw[ht];unfold OA;simp[hl]
  ·show Gz l 0=_;have h1:0<l.length:=by omega
   unfold Gz;rw[if_pos (by simpa using h1),show(0:Int)=((0:Nat):Int)from rfl,B6 h1,Af,R2 (h.2 _ (Bh h1)),Af,if_neg (by simp),List.getElem_take];cases F6 l[0]<;>rfl
  ·show Gz l ((i+1:Nat):Int)=_;have WY:i+1<401:=by rw[AU]at hi;omega
   have hi:i+1<l.length:=by omega
   unfold Gz;rw[if_pos (by simp;omega),B6 hi,Af,R2 (h.2 _ (Bh hi)),Af,if_pos (by simp),Lo (by omega) (by omega),Nat.add_sub_cancel,B6 (show i<l.length by omega),Af,RP,Af,EK hi (by omega),List.getElem_take,List.getElem_take];cases F6 l[i+1]<;>cases A3 l[i] l[i+1]<;>rfl
def ES(d:CM):Bool:=Ci d.ay 0 100000&&(Ci d.cx 0 100000&&(decide (d.ay<=d.cx)&&(decide ((d.ax.length:Int)<=60)&&(G1 d.ax&&d.ax.all λc=> !((c.ah !=0||decide (c.ab<=d.ay))||decide (c.ab>d.cx))))))
theorem R3{d:CM}(h:MF d.ax):K3 d=some (ES d):=by unfold K3 Rg ES;simp only[Mr,Af,o7 h];have e1:Lc d.ax (λy0_=>Uf y0_ d)=some (d.ax.any λc=>((c.ah !=0||decide (c.ab<=d.ay))||decide (c.ab>d.cx))):=ZH _ (λc _=>rfl) (by have:=h.1;omega);rw[e1,List.any_eq_not_all_not];generalize (d.ax.all λx=> !((x.ah !=0||decide (x.ab<=d.ay))||decide (x.ab>d.cx)))=b;cases Ci d.ay 0 100000<;>cases Ci d.cx 0 100000<;>cases decide (d.ay<=d.cx)<;>cases decide ((d.ax.length:Int)<=60)<;>cases G1 d.ax<;>cases b<;>rfl
theorem pH{d:CM}(h:MF d.ax)(hf: -9223372036854775808<=d.ay/\d.ay<=9223372036854775807):OP d=some (ES d):=by
 have hn:=h.1;unfold OP;rw[Vw (xs:=d.ax) (λc=> !(c.ah !=0)&&Ci c.ab (IntKind.i64.wrap (d.ay+1)) d.cx) false (QO d) (λi hi=>by show QQ d i=_;unfold QQ;rw[if_pos (by simpa using hi),B6 hi,Af,Lt,Af,EK hi (by omega)];cases(d.ax[i].ah !=0)<;>cases Ci d.ax[i].ab (IntKind.i64.wrap (d.ay+1)) d.cx<;>rfl) (by simp[QQ])]
 have hk:QO d=some (Ci d.ay 0 d.cx&&(decide (d.cx<=100000)&&(decide ((d.ax.length:Int)<=60)&&G1 d.ax))):=by unfold QO;simp only[Lt,Af,o8 h];cases Ci d.ay 0 d.cx<;>cases decide (d.cx<=100000)<;>cases decide ((d.ax.length:Int)<=60)<;>rfl
 rw[hk];by_cases hg:Ci d.ay 0 d.cx=true/\d.cx<=100000
 ·obtain⟨g1,g2⟩:=hg;have g3:=FJ.1 g1;have e1:IntKind.i64.wrap (d.ay+1)=d.ay+1:=D1 (by omega) (by omega);have e2:Ci d.ay 0 100000=true:=FJ.2 ⟨by omega,by omega⟩;have e3:Ci d.cx 0 100000=true:=FJ.2 ⟨by omega,by omega⟩;have e4:(d.ax.all λc=> !(c.ah !=0)&&Ci c.ab (IntKind.i64.wrap (d.ay+1)) d.cx)=d.ax.all λc=> !((c.ah !=0||decide (c.ab<=d.ay))||decide (c.ab>d.cx)):=by
   congr 1;funext c;rw[e1];unfold Ci;have q1:decide (c.ab>=d.ay+1)= !decide (c.ab<=d.ay):=by rw[<-decide_not,decide_eq_decide];omega
   have q2:decide (c.ab<=d.cx)= !decide (c.ab>d.cx):=by rw[<-decide_not,decide_eq_decide];omega
   rw[q1,q2];cases(c.ah !=0)<;>cases decide (c.ab<=d.ay)<;>cases decide (c.ab>d.cx)<;>rfl
  rw[e4];unfold ES;rw[e2,e3,g1];simp only[g2,decide_true,Bool.true_and,show d.ay<=d.cx from g3.2];cases(d.ax.all λc=> !((c.ah !=0||decide (c.ab<=d.ay))||decide (c.ab>d.cx)))<;>simp
 ·have e1:ES d=false:=by
   cases hd:ES d with
   |false=>rfl
   |true=>unfold ES at hd;simp only[Ad,Au]at hd;have h1:=FJ.1 hd.1;have h2:=FJ.1 hd.2.1;exact absurd ⟨FJ.2 ⟨h1.1,hd.2.2.1⟩,h2.2⟩ hg
  rw[e1];have e2:(Ci d.ay 0 d.cx&&(decide (d.cx<=100000)&&(decide ((d.ax.length:Int)<=60)&&G1 d.ax)))=false:=by
   cases hb:Ci d.ay 0 d.cx with
   |false=>rfl
   |true=>have: ¬d.cx<=100000:=λh=>hg ⟨hb,h⟩;simp[this]
  rw[e2];split<;>rfl
end
section
open Go.RowKit Go.Sort
set_option maxRecDepth 100000
theorem Vr{S α β σ:Type}{xs:List α}{body:S->Option (S ⊕ Option β)}(mk:Nat->σ->S)(g:σ->α->Option σ)(b:Option β)(fin:σ->Option β)(I:Nat->σ->Prop)
  (hs:∀i acc (h:i<xs.length),I i acc->body (mk i acc)=some (match g acc xs[i]with|some a=> .inl (mk (i+1) a)|none=> .inr b)/\ ∀a,g acc xs[i]=some a->I (i+1) a)
  (he:∀acc,I xs.length acc->body (mk xs.length acc)=some (.inr (fin acc))) (a0:σ) (h0:I 0 a0):Bp body (mk 0 a0)=match xs.foldlM g a0 with|some a=>fin a|none=>b:=by
 have key:∀n q acc,q+n=xs.length->I q acc->Bp body (mk q acc)=match(xs.drop q).foldlM g acc with|some a=>fin a|none=>b:=by
  intro n
  induction n with
  |zero=>
   intro q acc hq hi;have e:q=xs.length:=by omega
   subst e;rw[Ec,he acc hi,List.drop_length];rfl
  |succ n ih=>
   intro q acc hq hi;have hl:q<xs.length:=by omega
   obtain⟨h1,h2⟩:=hs q acc hl hi;rw[Ec,h1,A7 hl,List.foldlM_cons];cases hg:g acc xs[q]with
   |none=>rfl
   |some a=>exact ih (q+1) a (by omega) (h2 a hg)
 have:=key xs.length 0 a0 (by omega) h0;rwa[List.drop_zero]at this
theorem X7{α σ:Type}(g:σ->α->σ):∀(xs:List α) (a:σ),xs.foldlM (m:=Option) (λa x=>some (g a x)) a=some (xs.foldl g a)
 | [],_=>rfl
 |x::xs,a=>by rw[List.foldlM_cons,List.foldl_cons];exact X7 g xs (g a x)
theorem RO{S α β σ:Type}{xs:List α}{body:S->Option (S ⊕ Option β)}(mk:Nat->σ->S)(g:σ->α->σ)(fin:σ->Option β)(I:Nat->σ->Prop)
  (hs:∀i acc (h:i<xs.length),I i acc->body (mk i acc)=some (.inl (mk (i+1) (g acc xs[i])))/\I (i+1) (g acc xs[i]))
  (he:∀acc,I xs.length acc->body (mk xs.length acc)=some (.inr (fin acc))) (a0:σ) (h0:I 0 a0):Bp body (mk 0 a0)=fin (xs.foldl g a0):=by
 rw[Vr mk (λa x=>some (g a x)) none fin I (λi acc h hi=>⟨(hs i acc h hi).1,λa e=>by cases e;exact(hs i acc h hi).2⟩) he a0 h0,X7]
theorem nY{α β:Type}{xs:List α}{body:Int->Option (Int ⊕ Option β)}(p:α->Bool)(fin:Int->Option β)
  (hs:∀i (h:i<xs.length),body (i:Nat)=some (if p xs[i]=true then .inl ((i+1:Nat):Int)else .inr (fin (i:Nat)))) (he:body (xs.length:Nat)=some (.inr (fin (xs.length:Nat)))):Bp body 0=fin (Bq p xs:Nat):=by
 have key:∀n q,q+n=xs.length->Bp body (q:Nat)=fin ((q+Bq p (xs.drop q):Nat):Int):=by
  intro n
  induction n with
  |zero=>
   intro q hq;have e:q=xs.length:=by omega
   subst e;rw[Ec,he,List.drop_length];rfl
  |succ n ih=>
   intro q hq;have hl:q<xs.length:=by omega
   rw[Ec,hs q hl,A7 hl];by_cases hp:p xs[q]=true
   ·rw[if_pos hp];have e:Bq p (xs[q]::xs.drop (q+1))=Bq p (xs.drop (q+1))+1:=by unfold Bq;rw[List.takeWhile_cons,if_pos hp];rfl
    rw[e,show q+(Bq p (xs.drop (q+1))+1)=(q+1)+Bq p (xs.drop (q+1)) by omega];exact ih (q+1) (by omega)
   ·rw[if_neg hp];have e:Bq p (xs[q]::xs.drop (q+1))=0:=by unfold Bq;rw[List.takeWhile_cons,if_neg hp];rfl
    rw[e];rfl
 have:=key xs.length 0 (by omega);rw[List.drop_zero,Nat.zero_add]at this;exact this
def J2(v:Cd):Bool:=Ci v.ab 1 100000&&GJ v.aw v.aq
def Ii(a b:Cd):Bool:=decide (a.ab<b.ab)
def GC(l:List Cd):Bool:=Ci (l.length:Int) 1 16&&(l.all J2&&C4 Ii l)
def Fe(c:Ah):Bool:=Ed c.ae&&GC c.ak
def Lw(a b:Ah):Bool:=bl a.ae b.ae
def DW(l:List Ah):Bool:=decide ((l.length:Int)<=24)&&(l.all Fe&&C4 Lw l)
def PR(c:Ah):Prop:=c.ae.length<=2000000/\c.ak.length<=2000000/\ ∀v∈c.ak,v.aw.length<=2000000
def GH(l:List Ah):Prop:=l.length<=2000000/\ ∀c∈l,PR c
theorem mQ{c:Ah}(h:PR c):Rf c=some (GC c.ak):=by
 obtain⟨_,h2,h3⟩:=h;unfold Rf GC;rw[Mo (xs:=c.ak) (body:=λs:Int=>K5 c s) J2 Ii false (Us c) (λh0=> ?_) (λi hi=> ?_) (by simp[K5])]
 ·unfold Us;simp only[Mr,Af];cases c.ak.all J2<;>cases C4 Ii c.ak<;>cases Ci (c.ak.length:Int) 1 16<;>rfl
 ·show K5 c 0=_;unfold K5 Mb J2;rw[if_pos (by simpa using h0),show(0:Int)=((0:Nat):Int)from rfl,B6 h0,Af];simp only[Mr,Af,Vg (h3 _ (Bh h0))];cases Ci c.ak[0].ab 1 100000<;>cases GJ c.ak[0].aw c.ak[0].aq<;>rfl
 ·show K5 c ((i+1:Nat):Int)=_;unfold K5 Mb J2 Ii;rw[if_pos (by simp;omega),B6 hi,Af];simp only[Mr,Af,Vg (h3 _ (Bh hi))];rw[Lo (by omega) (by omega),Nat.add_sub_cancel,B6 (show i<c.ak.length by omega),EK hi (by omega)];have e:decide (c.ak[i+1].ab<=c.ak[i].ab)= !decide (c.ak[i].ab<c.ak[i+1].ab):=by rw[<-decide_not,decide_eq_decide];omega
  simp only[Af,e];rw[show decide (((i+1:Nat):Int)>0)=true by simp];cases Ci c.ak[i+1].ab 1 100000<;>cases GJ c.ak[i+1].aw c.ak[i+1].aq<;>cases decide (c.ak[i].ab<c.ak[i+1].ab)<;>rfl
theorem Za{c:Ah}(h:PR c):Re c=some (Fe c):=by
 obtain⟨h1,h2,h3⟩:=h;unfold Re Fe GC;rw[Mo (xs:=c.ak) (body:=λs:Int=>K7 c s) (λv=>Ci v.ab 1 100000&&(Ed c.ae&&GJ v.aw v.aq)) Ii false (Ur c) (λh0=> ?_) (λi hi=> ?_) (by simp[K7])]
 ·unfold Ur;simp only[ZV h1,Lt,Af];cases hk:Ed c.ae with
  |true=>
   have e:(c.ak.all λv=>Ci v.ab 1 100000&&(true&&GJ v.aw v.aq))=c.ak.all J2:=by congr 1
   rw[e];cases c.ak.all J2<;>cases C4 Ii c.ak<;>cases Ci (c.ak.length:Int) 1 16<;>rfl
  |false=>split<;>simp
 ·show K7 c 0=_;unfold K7 Q2;rw[if_pos (by simpa using h0),show(0:Int)=((0:Nat):Int)from rfl,B6 h0,Af];simp only[Lt,Af,VC h1 (h3 _ (Bh h0))];cases Ci c.ak[0].ab 1 100000<;>cases(Ed c.ae&&GJ c.ak[0].aw c.ak[0].aq)<;>rfl
 ·show K7 c ((i+1:Nat):Int)=_;unfold K7 Q2 Ii;rw[if_pos (by simp;omega),B6 hi,Af];simp only[Lt,Af,VC h1 (h3 _ (Bh hi))];rw[Lo (by omega) (by omega),Nat.add_sub_cancel,B6 (show i<c.ak.length by omega),EK hi (by omega)];have e:decide (c.ak[i].ab>=c.ak[i+1].ab)= !decide (c.ak[i].ab<c.ak[i+1].ab):=by rw[<-decide_not,decide_eq_decide];omega
  simp only[Af,e];rw[show decide (((i+1:Nat):Int)>0)=true by simp];cases Ci c.ak[i+1].ab 1 100000<;>cases(Ed c.ae&&GJ c.ak[i+1].aw c.ak[i+1].aq)<;>cases decide (c.ak[i].ab<c.ak[i+1].ab)<;>rfl
theorem YD{α β:Type}{r:β->β->Bool}{f:α->β}:∀l:List α,C4 r (l.map f)=C4 (λa b=>r (f a) (f b)) l
 | []=>rfl
 | [_]=>rfl
 |x::y::l=>by show(r (f x) (f y)&&C4 r ((y::l).map f))=_;rw[YD (y::l)];rfl
theorem oD{l:List Ah}(h:GH l):QV l=some (DW l):=by
 have hn:=h.1;unfold QV;rw[show((0:Int),([]:List BG))=(λ(i:Nat) (a:List BG)=>((i:Int),a)) 0 []from rfl,Vr (xs:=l) (body:=λs:Int × List BG=>Ov l s.1 s.2) (λ(i:Nat) (a:List BG)=>((i:Int),a)) (λa c=>if GC c.ak=true then some (a++ [c.ae])else none) (some false) (QE l) (λi a=>a.length=i) (λi acc hi ha=> ?_) (λacc ha=>by simp[Ov]) [] rfl]
 ·have hf:∀(xs:List Ah) (a:List BG),xs.foldlM (m:=Option) (λa c=>if GC c.ak=true then some (a++ [c.ae])else none) a=if(xs.all λc=>GC c.ak)=true then some (a++xs.map (·.ae))else none:=by
   intro xs
   induction xs with
   |nil=>intro a;simp
   |cons x xs ih=>
    intro a;rw[List.foldlM_cons];by_cases hx:GC x.ak=true
    ·rw[if_pos hx];show xs.foldlM _ (a++ [x.ae])=_;rw[ih];simp[hx]
    ·rw[if_neg hx];simp[hx]
  rw[hf];unfold DW;by_cases hg:(l.all λc=>GC c.ak)=true
  ·rw[if_pos hg];show QE l _=_;unfold QE;rw[List.nil_append,iG (by simpa using hn) (λk hk=>by obtain⟨c,hc,rfl⟩:=List.mem_map.1 hk;exact(h.2 c hc).1),jC,YD];have e:(l.map (·.ae)).all Ed=l.all Fe:=by
    rw[List.all_map,Bool.eq_iff_iff];simp only[Bz]at hg ⊢;refine⟨λq c hc=> ?_,λq c hc=> ?_⟩
    ·unfold Fe;rw[hg c hc,Bool.and_true];exact q c hc
    ·have:=q c hc;unfold Fe at this;simp only[Ad]at this;exact this.1
   rw[e];show(if decide ((l.length:Int)<=24)=true then(some (l.all Fe&&C4 Lw l)).bind λv2=>some v2 else some false)=_;cases decide ((l.length:Int)<=24)<;>rfl
  ·rw[if_neg hg];have e:l.all Fe=false:=by
    cases hc:l.all Fe
    ·rfl
    ·refine absurd ?_ hg;simp only[Bz]at hc ⊢;intro c q;have:=hc c q;unfold Fe at this;simp only[Ad]at this;exact this.2
   rw[e];simp
 ·have ha:acc.length=i:=ha;refine⟨?_,λa e=> ?_⟩
  ·show Ov l (i:Int) acc=_;unfold Ov;rw[if_pos (by simpa using hi),B6 hi,Af,mQ (h.2 _ (Bh hi)),Af,EK hi (by omega)];cases GC l[i].ak with
   |false=>rfl
   |true=>rw[if_neg (by simp),C2 (by simp;omega)];rfl
  ·split at e
   ·cases e;simp[ha]
   ·cases e
theorem Y5{l:List Ah}(h:GH l):OH l=some (DW l):=by
 have hn:=h.1;unfold OH DW;rw[Mo (xs:=l) (body:=λs:Int=>K8 l s) Fe Lw false (Uu l) (λh0=> ?_) (λi hi=> ?_) (by simp[K8])]
 ·unfold Uu;cases l.all Fe<;>cases C4 Lw l<;>simp
 ·show K8 l 0=_;unfold K8;rw[if_pos (by simpa using h0),show(0:Int)=((0:Nat):Int)from rfl,B6 h0,Af,Za (h.2 _ (Bh h0)),Af];cases Fe l[0]<;>rfl
 ·show K8 l ((i+1:Nat):Int)=_;unfold K8 Lw;rw[if_pos (by simp;omega),B6 hi,Af,Za (h.2 _ (Bh hi)),Af];rw[Lo (by omega) (by omega),Nat.add_sub_cancel,B6 (show i<l.length by omega),EK hi (by omega)];simp only[Af];rw[show decide (((i+1:Nat):Int)>0)=true by simp];rw[show bl l[i].ae l[i+1].ae=Op.bytesLess l[i].ae l[i+1].ae from rfl];cases Fe l[i+1]<;>cases Op.bytesLess l[i].ae l[i+1].ae<;>rfl
def Bv(a u:Int)(v:Cd):Bool:=decide (v.ab>a)&&decide (v.ab<=u)
def G2(g:Int)(c:Ah)(v:Cd):Am:=⟨v.ab,g,c.ae,v.aw,v.aq⟩
def GF(g a u:Int)(c:Ah):List Am:=(c.ak.filter (Bv a u)).map (G2 g c)
def Ee(g a u:Int)(l:List Ah):List Am:=l.flatMap (GF g a u)
theorem UQ(g a u:Int)(c:Ah):(GF g a u c).length<=c.ak.length:=by unfold GF;rw[List.length_map];exact List.length_filter_le _ _
theorem U5{g a u:Int}:∀{l:List Ah},(∀c∈l,c.ak.length<=16)->(Ee g a u l).length<=16*l.length
 | [],_=>by simp[Ee]
 |c::l,h=>by have h1:=UQ g a u c;have h2:=h c (by simp);have h3:=U5 (g:=g) (a:=a) (u:=u) (l:=l) λc hc=>h c (by simp[hc]);unfold Ee at*;rw[List.flatMap_cons,AZ,AQ];omega
def Sv(l:List Ah):Prop:=l.length<=24/\ ∀c∈l,c.ak.length<=16
theorem YB{α β:Type}(p:α->Bool)(f:α->β):∀(xs:List α) (a:List β),xs.foldl (λa x=>if p x=true then a++ [f x]else a) a=a++(xs.filter p).map f
 | [],a=>by simp
 |x::xs,a=>by
  rw[List.foldl_cons,YB p f xs];by_cases h:p x=true
  ·rw[if_pos h,List.filter_cons_of_pos h];simp
  ·rw[if_neg h,List.filter_cons_of_neg h]
theorem Yl{α β:Type}(f:α->List β):∀(xs:List α) (a:List β),xs.foldl (λa x=>a++f x) a=a++xs.flatMap f
 | [],a=>by simp
 |x::xs,a=>by rw[List.foldl_cons,Yl f xs,List.flatMap_cons,List.append_assoc]
theorem lK{s:MG}{g a u:Int}(h:Sv s.bq):Rc s g a u=some (Ex (Ee g a u s.bq).toArray).toList:=by
 obtain⟨h1,h2⟩:=h;unfold Rc;rw[show((0:Int),([]:List Am))=(λ(i:Nat) (a:List Am)=>((i:Int),a)) 0 []from rfl,RO (xs:=s.bq) (λ(i:Nat) (a:List Am)=>((i:Int),a)) (λacc c=>acc++GF g a u c) Uh (λi acc=>acc.length<=16*i) (λi acc hi ha=> ?_) (λacc ha=>by simp[QR]) [] (by simp),Yl,List.nil_append]
 ·unfold Uh Rj;have hl:(Ee g a u s.bq).length<=400:=Nat.le_trans (U5 h2) (by omega);rw[C2 ⟨rfl,rfl,by show(Ee g a u s.bq).length<_;omega⟩];rfl
 ·have hv:=h2 _ (Bh hi);refine⟨?_,by rw[AZ];have:=UQ g a u s.bq[i];omega⟩;show QR s g a u (i:Int) acc=_;unfold QR;rw[if_pos (by simpa using hi),B6 hi,Af];rw[show((0:Int),acc)=(λ(i:Nat) (a:List Am)=>((i:Int),a)) 0 acc from rfl,RO (xs:=s.bq[i].ak) (λ(i:Nat) (a:List Am)=>((i:Int),a)) (λacc v=>if Bv a u v=true then acc++ [G2 g s.bq[i] v]else acc) (λacc=>Uj (i:Int) acc) (λk acc=>acc.length<=16*i+k) (λk acc hk hb=> ?_) (λacc hb=>by simp[QP]) acc (by omega),YB]
  ·unfold Uj;rw[EK hi (by omega)];rfl
  ·have e:QP g a u (i:Int) s.bq[i] (k:Int) acc=some (.inl (((k+1:Nat):Int),if Bv a u s.bq[i].ak[k]=true then acc++ [G2 g s.bq[i] s.bq[i].ak[k]]else acc)):=by
    unfold QP;rw[if_pos (by simpa using hk),B6 hk,Af,EK hk (by omega)];unfold Bv;by_cases hp:(decide (s.bq[i].ak[k].ab>a)&&decide (s.bq[i].ak[k].ab<=u))=true
    ·rw[if_pos hp,if_pos hp,C2 (by simp;omega)];rfl
    ·rw[if_neg hp,if_neg hp]
   refine⟨e,?_⟩;split
   ·simp;omega
   ·omega
def Ef(l:List Am)(x:Am):List Am:=
 if h:Bq (λy=>A3 y x) l<l.length then(if A3 x l[Bq (λy=>A3 y x) l]=true then l.take (Bq (λy=>A3 y x) l)++ [x]++l.drop (Bq (λy=>A3 y x) l)else l)else l++ [x]
theorem Zj(l:List Am)(x:Am):(Ef l x).length<=l.length+1:=by
 unfold Ef;split
 ·split
  ·simp;omega
  ·omega
 ·simp
theorem pS{l:List Am}{x:Am}(h:l.length<=2000000):∃b,OI l x=some (Ef l x,b):=by
 unfold OI;rw[nY (xs:=l) (body:=λs:Int=>OB l x s) (λy=>A3 y x) (QT l x) (λi hi=>by show OB l x (i:Int)=_;unfold OB;rw[if_pos (by simpa using hi),B6 hi,Af,RP,Af,EK hi (by omega)];cases A3 l[i] x<;>rfl) (by simp[OB])]
 have hp:=Pm (λy=>A3 y x) l;unfold Ef;generalize Bq (λy=>A3 y x) l=p at hp;have w1:A4 l 0 (p:Int)=l.take p:=by simp[A4]
 have w2:A4 l (p:Int) (l.length:Int)=l.drop p:=by simp[A4]
 have l1:(l.take p).length=p:=by rw[AU];omega
 have l2:(l.drop p).length=l.length-p:=by rw[Dv]
 unfold QT;rw[w1,w2];by_cases hl:p<l.length
 ·rw[if_pos (by simpa using hl),B6 hl,Af,RP,Af,dif_pos hl];cases A3 x l[p]with
  |false=>exact⟨_,rfl⟩
  |true=>rw[if_neg (by simp),if_pos rfl,C2 (by omega),C2 (by rw[l1];simp;omega),C2 (by rw[l1];simp;omega),C2 (by omega),C2 (by rw[AZ,l1,l2];simp;omega)];exact⟨_,rfl⟩
 ·have e:p=l.length:=by omega
  rw[if_neg (by simpa using hl),dif_neg hl,C2 (by omega),C2 (by rw[l1];simp;omega),C2 (by rw[l1];simp;omega),C2 (by omega),C2 (by rw[AZ,l1,l2];simp;omega)];subst e;exact⟨true,by simp⟩
theorem YU(p:Cd->Bool)(f:Cd->Am):∀(xs:List Cd) (a:List Am),xs.foldl (λa x=>if p x=true then Ef a (f x)else a) a=((xs.filter p).map f).foldl Ef a
 | [],a=>by simp
 |x::xs,a=>by
  rw[List.foldl_cons,YU p f xs];by_cases h:p x=true
  ·rw[if_pos h,List.filter_cons_of_pos h];simp
  ·rw[if_neg h,List.filter_cons_of_neg h]
theorem XY{α β σ:Type}(f:α->List β)(g:σ->β->σ):∀(xs:List α) (a:σ),xs.foldl (λa x=>(f x).foldl g a) a=(xs.flatMap f).foldl g a
 | [],a=>by simp
 |x::xs,a=>by rw[List.foldl_cons,XY f g xs,List.flatMap_cons,List.foldl_append]
theorem YZ:∀(xs l:List Am),(xs.foldl Ef l).length<=l.length+xs.length
 | [],l=>by simp
 |x::xs,l=>by have h1:=YZ xs (Ef l x);have h2:=Zj l x;rw[List.foldl_cons,AQ];omega
theorem pI{l:List Ah}{g a u:Int}(h:Sv l):QX l g a u=some ((Ee g a u l).foldl Ef []):=by
 obtain⟨h1,h2⟩:=h;unfold QX;rw[show(([]:List Am),(0:Int))=(λ(i:Nat) (a:List Am)=>(a,(i:Int))) 0 []from rfl,RO (xs:=l) (λ(i:Nat) (a:List Am)=>(a,(i:Int))) (λacc c=>(GF g a u c).foldl Ef acc) (λacc=>some acc) (λi acc=>acc.length<=16*i) (λi acc hi ha=> ?_) (λacc ha=>by simp[QN]) [] (by simp),XY]
 ·rfl
 ·have hv:=h2 _ (Bh hi);refine⟨?_,by have:=YZ (GF g a u l[i]) acc;have:=UQ g a u l[i];omega⟩;show QN l g a u acc (i:Int)=_;unfold QN;rw[if_pos (by simpa using hi)];rw[show(acc,(0:Int))=(λ(i:Nat) (a:List Am)=>(a,(i:Int))) 0 acc from rfl,RO (xs:=l[i].ak) (λ(i:Nat) (a:List Am)=>(a,(i:Int))) (λacc v=>if Bv a u v=true then Ef acc (G2 g l[i] v)else acc) (λacc=>Uq (i:Int) acc) (λk acc=>acc.length<=16*i+k) (λk acc hk hb=> ?_) (λacc hb=>by simp[QM,B6 hi]) acc (by omega),YU]
  ·unfold Uq;rw[EK hi (by omega)];rfl
  ·have e:QM l g a u (i:Int) acc (k:Int)=some (.inl ((if Bv a u l[i].ak[k]=true then Ef acc (G2 g l[i] l[i].ak[k])else acc),((k+1:Nat):Int))):=by
    unfold QM;rw[B6 hi,Af,if_pos (by simpa using hk),B6 hk,Af,EK hk (by omega)];unfold Bv;obtain⟨b,Bt⟩:=pS (l:=acc) (x:=G2 g l[i] l[i].ak[k]) (by omega);by_cases hp:(decide (l[i].ak[k].ab>a)&&decide (l[i].ak[k].ab<=u))=true
    ·rw[if_pos hp,if_pos hp];show(OI acc (G2 g l[i] l[i].ak[k])).bind _=_;rw[Bt];rfl
    ·rw[if_neg hp,if_neg hp]
   refine⟨e,?_⟩;split
   ·have:=Zj acc (G2 g l[i] l[i].ak[k]);omega
   ·omega
def Iq(a b:Am):Prop:=A3 a b=true\/A3 b a=true
theorem Iq.symm{a b:Am}(h:Iq a b):Iq b a:=Or.symm h
theorem lW(a b:Am):A3 a b=ER a b:=rfl
theorem l0{l:List Am}{x:Am}(hl:l.Pairwise λa b=>A3 a b=true)(hx:∀y∈l,Iq x y):((Ef l x).Pairwise λa b=>A3 a b=true)/\(Ef l x).Perm (x::l):=by
 have e:Ef l x=l.take (Bq (λy=>A3 y x) l)++x::l.drop (Bq (λy=>A3 y x) l):=by
  unfold Ef;split
  ·rename_i h;have h1:=RZ h;have h2:A3 x l[Bq (λy=>A3 y x) l]=true:=by
    rcases hx _ (Bh h)with h3|h3
    ·exact h3
    ·have h1:A3 l[Bq (λy=>A3 y x) l] x=false:=h1;rw[h1]at h3;cases h3
   rw[if_pos h2];simp
  ·rename_i h;have:=Pm (λy=>A3 y x) l;have e:Bq (λy=>A3 y x) l=l.length:=by omega
   rw[e];simp
 rw[e];have hd:l=l.take (Bq (λy=>A3 y x) l)++l.drop (Bq (λy=>A3 y x) l):=(BB _ _).symm;have h1:∀y∈l.take (Bq (λy=>A3 y x) l),A3 y x=true:=by intro y hy;obtain⟨i,hi,rfl⟩:=List.getElem_of_mem hy;rw[List.getElem_take];exact Pu (lt:=λy=>A3 y x) (l:=l) (i:=i) (by rw[AU]at hi;omega)
 have h2:∀y∈l.drop (Bq (λy=>A3 y x) l),A3 x y=true:=by
  intro y hy;by_cases hp:Bq (λy=>A3 y x) l<l.length
  ·have h3:=RZ hp;rw[A7 hp]at hy;have GO:=hl;rw[hd]at GO;have GO:=(List.pairwise_append.1 GO).2.1;rw[A7 hp]at GO;have GO:=List.pairwise_cons.1 GO;have h4:A3 x l[Bq (λy=>A3 y x) l]=true:=by
    rcases hx _ (Bh hp)with h|h
    ·exact h
    ·have h3:A3 l[Bq (λy=>A3 y x) l] x=false:=h3;rw[h3]at h;cases h
   rcases Ac.1 hy with rfl|hy
   ·exact h4
   ·exact OS h4 (GO.1 y hy)
  ·rw[List.drop_eq_nil_of_le (by omega)]at hy;cases hy
 refine⟨?_,?_⟩
 ·have Bd:=hl;rw[hd]at Bd;obtain⟨a1,a2,a3⟩:=List.pairwise_append.1 Bd;refine List.pairwise_append.2 ⟨a1,List.pairwise_cons.2 ⟨h2,a2⟩,λy hy z hz=> ?_⟩;rcases Ac.1 hz with rfl|hz
  ·exact h1 y hy
  ·exact a3 y hy z hz
 ·refine List.perm_middle.trans ?_;rw[BB]
theorem Yt:∀(xs l:List Am),(l.Pairwise λa b=>A3 a b=true)->xs.Pairwise Iq->(∀x∈xs,∀y∈l,Iq x y)->((xs.foldl Ef l).Pairwise λa b=>A3 a b=true)/\(xs.foldl Ef l).Perm (xs++l)
 | [],l,h,_,_=>⟨h,List.Perm.refl _⟩
 |x::xs,l,h,hp,hr=>by
  have hp:=List.pairwise_cons.1 hp;obtain⟨h1,h2⟩:=l0 h (hr x (by simp));obtain⟨h3,h4⟩:=Yt xs (Ef l x) h1 hp.2 (λz hz y hy=>by
   rcases Ac.1 (h2.mem_iff.1 hy)with rfl|hy
   ·exact(hp.1 z hz).symm
   ·exact hr z (by simp[hz]) y hy)
  exact⟨h3,h4.trans ((List.Perm.append_left xs h2).trans List.perm_middle)⟩
theorem UT:∀{a b:List Am},(a.Pairwise λx y=>A3 x y=true)->(b.Pairwise λx y=>A3 x y=true)->a.Perm b->a=b
 | [],b,_,_,h=>by rw[h.nil_eq]
 |x::a,[],_,_,h=>by have:=h.length_eq;simp at this
 |x::a,y::b,ha,hb,h=>by
  have WQ:=List.pairwise_cons.1 ha;have Bt:=List.pairwise_cons.1 hb;have e:x=y:=by
   rcases Ac.1 (h.mem_iff.1 (List.mem_cons_self ..))with h1|h1
   ·exact h1
   ·rcases Ac.1 (h.mem_iff.2 (List.mem_cons_self ..))with h2|h2
    ·exact h2.symm
    ·have:=OS (WQ.1 y h2) (Bt.1 x h1);rw[iI]at this;cases this
  subst e;rw[UT WQ.2 Bt.2 (List.Perm.cons_inv h)]
theorem Md{l:List Am}(h:l.Pairwise Iq):((Ex l.toArray).toList.Pairwise λa b=>A3 a b=true)/\(Ex l.toArray).toList.Perm l:=by
 obtain⟨h1,h2,h3⟩:=YQ l.toArray;have hp:(Ex l.toArray).toList.Perm l:=by simpa using h1
 refine⟨?_,hp⟩;have hr:(Ex l.toArray).toList.Pairwise Iq:=(hp.pairwise_iff (λ{a b} h=>Iq.symm h)).2 h;rw[List.pairwise_iff_getElem]at hr ⊢;intro i j hi hj Th;rcases hr i j hi hj Th with q|q
 ·exact q
 ·have hs:(Ex l.toArray).size=l.length:=by simpa using h2
  have HW:i<(Ex l.toArray).size:=by simpa using hi
  have Jy:j<(Ex l.toArray).size:=by simpa using hj
  have:=h3 i j (Nat.zero_le _) Th (by simpa[hs]using Jy);rw[RH,getElem!_pos _ j Jy,getElem!_pos _ i HW]at this;rw[lW]at q;simp only[Array.getElem_toList]at q;rw[this]at q;cases q
theorem V3{l:List Ah}(h:DW l=true):Sv l:=by unfold DW at h;simp only[Ad,Au,Bz]at h;refine⟨by omega,λc hc=> ?_⟩;have:=h.2.1 c hc;unfold Fe GC at this;simp only[Ad]at this;have:=FJ.1 this.2.1;omega
theorem Mi{g a u:Int}{l:List Ah}(h:DW l=true):(Ee g a u l).Pairwise Iq:=by
 unfold DW at h;simp only[Ad,Au,Bz]at h;obtain⟨_,h2,h3⟩:=h;have h3:=(Lf (r:=Lw) (λa b c h k=>Ia h k)).1 h3;unfold Ee;rw[List.pairwise_flatMap];refine⟨λc hc=> ?_,h3.imp λ{c d} bR x hx y hy=> ?_⟩
 ·have:=h2 c hc;unfold Fe GC at this;simp only[Ad]at this;have hv:=(Lf (r:=Ii) (λa b c h k=>by unfold Ii at*;simp only[Au]at*;omega)).1 this.2.2.2;unfold GF;rw[List.pairwise_map];refine(hv.filter _).imp λ{x y} EP=> ?_;unfold Ii at EP;rcases RY (G2 g c x) (G2 g c y)with q|q|q
  ·exact .inl q
  ·exact .inr q
  ·have q1:x.ab=y.ab:=q.1;simp only[Au]at EP;omega
 ·unfold GF at hx hy;obtain⟨v,_,rfl⟩:=List.mem_map.1 hx;obtain⟨w,_,rfl⟩:=List.mem_map.1 hy;rcases RY (G2 g c v) (G2 g d w)with q|q|q
  ·exact .inl q
  ·exact .inr q
  ·exact absurd q.2.2 (Ij bR)
theorem kD{g a u:Int}{l:List Ah}(h:DW l=true):(Ee g a u l).foldl Ef []=(Ex (Ee g a u l).toArray).toList:=by have hr:=Mi (g:=g) (a:=a) (u:=u) h;obtain⟨h1,h2⟩:=Yt (Ee g a u l) [] .nil hr (by simp);obtain⟨h3,h4⟩:=Md hr;exact UT h1 h3 ((by simpa using h2:((Ee g a u l).foldl Ef []).Perm (Ee g a u l)).trans h4.symm)
def D4(g a u:Int)(l:List Ah):List Am:=(Ex (Ee g a u l).toArray).toList
def Ff(l:List Ah)(a u:Int):CM × Bool:=
 if DW l=true then(if ES ⟨a,u,D4 0 a u l⟩=true then(⟨a,u,D4 0 a u l⟩,true)else(⟨0,0,[]⟩,false))else(⟨0,0,[]⟩,false)
theorem OR{g a u:Int}{l:List Ah}(h:GH l)(hg:DW l=true):MF (D4 g a u l):=by obtain⟨_,h4⟩:=Md (Mi (g:=g) (a:=a) (u:=u) hg);have hf:=V3 hg;have hl:=U5 (g:=g) (a:=a) (u:=u) hf.2;have:=hf.1;refine⟨by unfold D4;rw[h4.length_eq];omega,λx hx=> ?_⟩;have hx:=h4.mem_iff.1 hx;obtain⟨c,hc,hx⟩:=List.mem_flatMap.1 hx;unfold GF at hx;obtain⟨v,hv,rfl⟩:=List.mem_map.1 hx;have:=h.2 c hc;exact⟨this.1,this.2.2 v (List.mem_filter.1 hv).1⟩
theorem U2{l:List Ah}{a u:Int}(h:GH l):L9 l a u=some (Ff l a u):=by
 unfold L9 Ff;rw[oD h,Af];cases hg:DW l with
 |false=>rfl
 |true=>rw[if_neg (by simp),if_pos rfl,lK (s:=⟨0,l,[],[]⟩) (V3 hg),Af];unfold Ma;have hs:=OR (g:=0) (a:=a) (u:=u) h hg;show((K3 ⟨a,u,D4 0 a u l⟩).bind _).bind _=_;rw[R3 (d:=⟨a,u,D4 0 a u l⟩) hs,Af];cases ES ⟨a,u,D4 0 a u l⟩<;>rfl
theorem kF{l:List Ah}{a u:Int}(h:GH l)(ha: -9223372036854775808<=a/\a<=9223372036854775807):Q5 l a u=some (Ff l a u):=by
 unfold Q5 Ff;rw[Y5 h,Af];cases hg:DW l with
 |false=>rfl
 |true=>rw[if_neg (by simp),if_pos rfl,pI (V3 hg),Af,kD hg];unfold Uz;have hs:=OR (g:=0) (a:=a) (u:=u) h hg;show((OP ⟨a,u,D4 0 a u l⟩).bind _).bind _=_;rw[pH (d:=⟨a,u,D4 0 a u l⟩) hs ha,Af];cases ES ⟨a,u,D4 0 a u l⟩<;>rfl
theorem Yh{α:Type}(p q r:α->Bool)(KR:∀x,r x=(p x||q x))(hd:∀x,¬(p x=true/\q x=true)):∀l:List α,(l.filter p++l.filter q).Perm (l.filter r)
 | []=>by simp
 |x::l=>by
  have ih:=Yh p q r KR hd l;rw[List.filter_cons,List.filter_cons,List.filter_cons,KR];cases hp:p x with
  |true=>
   cases hq:q x with
   |true=>exact absurd ⟨hp,hq⟩ (hd x)
   |false=>simpa using ih
  |false=>
   cases hq:q x with
   |true=>simpa using List.perm_middle.trans (List.Perm.cons _ ih)
   |false=>simpa using ih
theorem jR{a m u:Int}(h1:a<=m)(h2:m<=u)(v:Cd):Bv a u v=(Bv a m v||Bv m u v):=by unfold Bv;rw[Bool.eq_iff_iff];simp only[Ad,Bool.or_eq_true,Au];omega
theorem Yr{g a m u:Int}(h1:a<=m)(h2:m<=u):∀l:List Ah,(Ee g a m l++Ee g m u l).Perm (Ee g a u l)
 | []=>by simp[Ee]
 |c::l=>by
  have ih:=Yr (g:=g) h1 h2 l;have hc:(GF g a m c++GF g m u c).Perm (GF g a u c):=by
   unfold GF;rw[<-List.map_append];exact(Yh _ _ _ (jR h1 h2) (λv h=>by unfold Bv at h;simp only[Ad,Au]at h;omega) c.ak).map _
  unfold Ee at*;rw[List.flatMap_cons,List.flatMap_cons,List.flatMap_cons];refine List.Perm.trans ?_ (hc.append ih);rw[List.append_assoc,List.append_assoc];refine List.Perm.append_left _ ?_;rw[<-List.append_assoc,<-List.append_assoc];exact List.Perm.append_right _ List.perm_append_comm
theorem U0{g a u:Int}{l:List Ah}{x:Am}(h:x∈Ee g a u l):a<x.ab/\x.ab<=u/\x.ah=g:=by obtain⟨c,_,hx⟩:=List.mem_flatMap.1 h;obtain⟨v,hv,rfl⟩:=List.mem_map.1 hx;have:=(List.mem_filter.1 hv).2;unfold Bv at this;simp only[Ad,Au]at this;exact⟨this.1,this.2,rfl⟩
theorem Yf{g a m u:Int}{l:List Ah}(h:DW l=true)(h1:a<=m)(h2:m<=u):D4 g a m l++D4 g m u l=D4 g a u l:=by obtain⟨p1,q1⟩:=Md (Mi (g:=g) (a:=a) (u:=m) h);obtain⟨p2,q2⟩:=Md (Mi (g:=g) (a:=m) (u:=u) h);obtain⟨p3,q3⟩:=Md (Mi (g:=g) (a:=a) (u:=u) h);refine UT (List.pairwise_append.2 ⟨p1,p2,λx hx y hy=> ?_⟩) p3 ((q1.append q2).trans ((Yr h1 h2 l).trans q3.symm));have e1:=U0 (q1.mem_iff.1 hx);have e2:=U0 (q2.mem_iff.1 hy);unfold A3;rw[if_pos (show x.ab≠y.ab by omega)];simp only[Au];omega
theorem kN{x y:List Am}(h:G1 (x++y)=true):G1 x=true/\G1 y=true:=by unfold G1 at*;simp only[Ad,Au,AZ,List.all_append]at h ⊢;obtain⟨h1,⟨h2,h3⟩,h4⟩:=h;have h4:=List.pairwise_append.1 ((Lf (r:=A3) (λa b c h k=>OS h k)).1 h4);exact⟨⟨by omega,h2,(Lf (r:=A3) (λa b c h k=>OS h k)).2 h4.1⟩,⟨by omega,h3,(Lf (r:=A3) (λa b c h k=>OS h k)).2 h4.2.1⟩⟩
theorem kH{a m u:Int}{l:List Ah}(hc:DW l=true)(h1:a<=m)(h2:m<=u)(h:ES ⟨a,u,D4 0 a u l⟩=true):ES ⟨a,m,D4 0 a m l⟩=true/\ES ⟨m,u,D4 0 m u l⟩=true:=by
 unfold ES at*;simp only[Ad,Au]at h ⊢;obtain⟨g1,g2,g3,g4,g5,_⟩:=h;have g1:=FJ.1 g1;have g2:=FJ.1 g2;rw[<-Yf hc h1 h2]at g4 g5;rw[AZ]at g4;obtain⟨f1,f2⟩:=kN g5;have ht:∀(a u:Int),((D4 0 a u l).all λc=> !((c.ah !=0||decide (c.ab<=a))||decide (c.ab>u)))=true:=λa u=>by
  refine Bz.2 λx hx=> ?_;have e:=U0 ((Md (Mi (g:=0) (a:=a) (u:=u) hc)).2.mem_iff.1 hx);have e1:decide (x.ab<=a)=false:=by simp;omega
  have e2:decide (x.ab>u)=false:=by simp;omega
  simp[e.2.2,e1,e2]
 exact⟨⟨FJ.2 (by omega),FJ.2 (by omega),h1,by omega,f1,ht a m⟩,⟨FJ.2 (by omega),FJ.2 (by omega),h2,by omega,f2,ht m u⟩⟩
end
section
open Go.RowKit
set_option maxRecDepth 100000
set_option maxHeartbeats 1000000
def B4{α:Type}(o:Option α)(Q:α->Prop):Prop:= ∃x,o=some x/\Q x
section
variable {α β σ:Type} {Q:β->Prop}
theorem B4.bind{o:Option α}{P:α->Prop}{f:α->Option β}(h:B4 o P)(hf:∀x,P x->B4 (f x) Q):B4 (o.bind f) Q:=by obtain⟨x,rfl,hx⟩:=h;exact hf x hx
theorem B4.ret{x:β}(h:Q x):B4 (some x) Q:=⟨x,rfl,h⟩
theorem B4.ite{b:Bool}{A B:Option β}(ha:b=true->B4 A Q)(hb:b=false->B4 B Q):B4 (if b=true then A else B) Q:=by
 cases b with
 |true=>simpa using ha rfl
 |false=>simpa using hb rfl
theorem B4.req{p:Prop}[Decidable p]{k:Option β}(hp:p)(hk:B4 k Q):B4 (req p k) Q:=by rw[C2 hp];exact hk
theorem B4.mono{o:Option β}{P:β->Prop}(h:B4 o P)(bD:∀x,P x->Q x):B4 o Q:=by obtain⟨x,hx,h⟩:=h;exact⟨x,hx,bD x h⟩
theorem B4.getI{xs:List β}{i:Int}(h0:0<=i)(h:i<xs.length)(hq:∀x,x∈xs->Q x):B4 (getI xs i) Q:=by obtain⟨x,h1,h2,_⟩:=Zx h0 h;exact⟨x,h1,hq x h2⟩
theorem Yq{body:σ->Option (σ ⊕ Option β)}(I:Nat->σ->Prop)(h:∀n s,I n s->B4 (body s) λo=>match o with| .inl s'=> ∃m,m<n/\I m s'| .inr q=>B4 q Q):∀{n:Nat} {s:σ},I n s->B4 (Bp body s) Q:=by
 intro n
 induction n using Nat.strongRecOn with
 |_ n ih=>
  intro s hI;obtain⟨o,ho,h2⟩:=h n s hI;rw[Ec,ho]
  match o,h2 with
  | .inl s',⟨m,hm,bA⟩=>exact ih m hm bA
  | .inr q,hq=>exact hq
end
structure Ew where
 ey:List Int->Prop
 kt:∀l,ey l-> ∀b∈l,0<=b/\b<=255
instance codeBytes:Inhabited Ew:=⟨⟨λl=> ∀b∈l,0<=b/\b<=255,λ_ h=>h⟩⟩
def CN[Inhabited Ew](c:Bx)(k:Int):Prop:=(default:Ew).ey c.bf/\0<=c.db/\c.db<=k
theorem CN.up[Inhabited Ew]{c:Bx}{i j:Int}(h:CN c i)(Th:i<=j):CN c j:=⟨h.1,h.2.1,by have:=h.2.2;omega⟩
theorem CN.start[Inhabited Ew]{code:List Int}(h:(default:Ew).ey code):CN ⟨code,0,0⟩ 0:=⟨h,by simp,by simp⟩
theorem ZX(a:Int):0<=IntKind.i64.wrap (IntKind.u64.wrap ((BitVec.ofInt (IntKind.bits .u64) a&&&BitVec.ofInt (IntKind.bits .u64) 255).toNat:Int))/\IntKind.i64.wrap (IntKind.u64.wrap ((BitVec.ofInt (IntKind.bits .u64) a&&&BitVec.ofInt (IntKind.bits .u64) 255).toNat:Int))<=255:=by
 have h:(BitVec.ofInt (IntKind.bits .u64) a&&&BitVec.ofInt (IntKind.bits .u64) 255).toNat<=255:=by rw[BitVec.toNat_and];exact Nat.le_trans Nat.and_le_right (by decide)
 generalize (BitVec.ofInt (IntKind.bits .u64) a&&&BitVec.ofInt (IntKind.bits .u64) 255).toNat=m at h ⊢;have e:IntKind.u64.wrap (m:Int)=m:=by simp[IntKind.wrap,IntKind.bits,IntKind.signed];omega
 rw[e,D1 (by omega) (by omega)];omega
theorem ZM[Inhabited Ew]{c:Bx}{k:Int}(h:CN c k)(hk:k<=4611686018427387904):B4 (Ot c) λp=>(0<=p.1/\p.1<=255)/\CN p.2 (k+1):=by
 obtain⟨hb,h0,h1⟩:=h;have w:IntKind.i64.wrap (c.db+1)=c.db+1:=D1 (by omega) (by omega);unfold Ot;refine .ite (λAE=> ?_) λAE=> ?_
 ·simp only[Au]at AE;refine B4.bind (P:=λy=>0<=y/\y<=255) (.getI h0 AE ((default:Ew).kt _ hb)) λy hy=> ?_;have wy:IntKind.i64.wrap y=y:=D1 (by omega) (by omega);refine .ite (λ_=> .ret ⟨by dsimp only;rw[wy];exact hy,hb,by dsimp only;omega,by dsimp only;omega⟩) λ_=> .ret ⟨ZX _,hb,by dsimp only;omega,by dsimp only;omega⟩
 ·refine .ite (λ_=> .ret ⟨by simp,hb,by dsimp only;omega,by dsimp only;omega⟩) λ_=> .ret ⟨ZX _,hb,by dsimp only;omega,by dsimp only;omega⟩
theorem Lm[Inhabited Ew]{c:Bx}{k:Int}(n:Int)(h:CN c k)(hk:k<=4611686018427387000):B4 (H5 c n) λp=>(0<=p.1/\(1<=n->p.1<n)/\p.1<=65535)/\CN p.2 (k+2):=by
 have tm:∀x:Int,0<=x->1<n->0<=x.tmod n/\x.tmod n<n/\x.tmod n<=x:=λx hx hn=>by
  rw[Int.tmod_eq_emod_of_nonneg hx];exact⟨Int.emod_nonneg _ (by omega),Int.emod_lt_of_pos _ (by omega),by have:=Int.emod_add_mul_ediv x n;have h2:0<=n*(x/n):=Int.mul_nonneg (by omega) (Int.ediv_nonneg hx (by omega));omega⟩
 unfold H5;refine .ite (λhn=> .ret ⟨⟨by simp,λh1=>by dsimp only;omega,by simp⟩,h.up (by omega)⟩) λhn=> ?_;simp only[decide_eq_false_iff_not]at hn;refine(ZM h (by omega)).bind λp ⟨hp,hc⟩=> ?_;refine .ite (λ_=> ?_) λ_=> ?_
 ·refine(ZM hc (by omega)).bind λq ⟨hq,hd⟩=> .req (by omega) (.ret ?_);have w1:IntKind.i64.wrap (p.1*256)=p.1*256:=D1 (by omega) (by omega);have w2:IntKind.i64.wrap (p.1*256+q.1)=p.1*256+q.1:=D1 (by omega) (by omega);have:=tm (p.1*256+q.1) (by omega) (by omega);dsimp only;rw[w1,w2];exact⟨⟨this.1,λ_=>this.2.1,by omega⟩,hd.up (by omega)⟩
 ·have:=tm p.1 hp.1 (by omega);exact .req (by omega) (.ret ⟨⟨this.1,λ_=>this.2.1,by dsimp only;omega⟩,hc.up (by omega)⟩)
theorem Vs[Inhabited Ew]{c:Bx}{k:Int}(l:List Int)(hl:l≠ [])(h:CN c k)(hk:k<=4611686018427387000):B4 (H4 c l) λp=>p.1∈l/\CN p.2 (k+2):=by unfold H4;have N5:0<l.length:=List.length_pos_iff.2 hl;refine(Lm l.length h hk).bind λp ⟨hp,hc⟩=> ?_;exact B4.bind (P:=λy=>y∈l) (.getI hp.1 (hp.2.1 (by omega)) λx hx=>hx) λy hy=> .ret ⟨hy,hc⟩
theorem V7[Inhabited Ew]{c:Bx}{k:Int}(n:Int)(h:CN c k)(hk:k<=4611686018427387000):B4 (L0 c n) λp=>CN p.2 (k+2):=by unfold L0;exact(Lm n h hk).bind λp ⟨_,hc⟩=> .ret hc
theorem RA{σ α:Type}{body:σ->Option (σ ⊕ Option α)}{s:σ}{o:Option α}(h:body s=some (.inr o)):Bp body s=o:=by rw[Ec,h]
theorem O0{σ α:Type}{body:σ->Option (σ ⊕ Option α)}{s s':σ}(h:body s=some (.inl s')):Bp body s=Bp body s':=by rw[Ec,h]
theorem ML{i:Nat}(h0:0<i)(h:i<=2000000):IntKind.i64.wrap ((i:Int)-1)=((i-1:Nat):Int):=by rw[D1 (by omega) (by omega)];omega
section
variable {α:Type} {key:α->Int}
def HM(key:α->Int)(l:List α):Prop:=l.Pairwise λa b=>key a<key b
theorem HM.filter{l:List α}(h:HM key l)(p:α->Bool):HM key (l.filter p):=List.Pairwise.filter p h
theorem HM.tail{x:α}{l:List α}(h:HM key (x::l)):HM key l:=(List.pairwise_cons.1 h).2
theorem HM.mono{l:List α}(h:HM key l){i j:Nat}(hj:j<l.length)(hi:i<j):key l[i]<key l[j]:=List.pairwise_iff_getElem.1 h i j (by omega) hj hi
theorem HM.len{lo hi:Int}:∀{l:List α},HM key l->(∀y∈l,lo<=key y/\key y<=hi)->(l.length:Int)<=max 0 (hi-lo+1)
 | [],_,_=>by simp;omega
 |x::l,h,hb=>by
  obtain⟨h1,h2⟩:=List.pairwise_cons.1 h;have hx:=hb x (by simp);have:=HM.len (lo:=key x+1) (hi:=hi) h2 λy hy=>⟨by have:=h1 y hy;omega,(hb y (by simp[hy])).2⟩
  rw[AQ];omega
end
abbrev ck(c:Ah):BG:=c.ae
abbrev LD(l:List Ah):Prop:=EM ck l
def Gh(l:List Ah)(k:BG):Option Ah:=l.find? λc=>c.ae==k
def Wj(c:Ah):Int:=match c.ak.getLast? with|some v=>v.ab|none=>0
def J7(l:List Ah)(k:BG):Int:=match Gh l k with|some c=>Wj c|none=>0
def Ja(l:List Ah)(k:BG):List Cd:=match Gh l k with|some c=>c.ak|none=> []
def Jj(l:List Ah)(k:BG)(v:Cd):List Ah:=Gi ck ⟨k,Ja l k++ [v]⟩ l
def Ji(t:Int)(l:List Ah)(w:DA):Option (List Ah):=if t<=J7 l w.ae then none else some (Jj l w.ae ⟨t,w.aw,w.aq⟩)
def MY(t:Int)(l:List Ah)(ws:List DA):Option (List Ah):=ws.foldlM (Ji t) l
abbrev hk(h:Sj):Int:=h.iq
def sO(ws:List DA)(k:BG):Bool:=ws.any λw=>w.ae==k
theorem VY{β:Type}{body:Int->Option (Int ⊕ Option β)}{fin:Option β}(m:Nat)(he:body (m:Nat)=some (.inr fin)):∀n:Nat,m<=n->(∀i:Nat,m<=i->i<n->body ((i+1:Nat):Int)=some (.inl (i:Int)))->Bp body (n:Nat)=fin
 |0,h,_=>by
  have e:m=0:=by omega
  subst e;exact RA he
 |n+1,h,hs=>by
  by_cases e:m=n+1
  ·subst e;exact RA he
  ·rw[O0 (hs n (by omega) (by omega))];exact VY m he n (by omega) λi h1 h2=>hs i h1 (by omega)
theorem mI{α:Type}{vs:List α}(h:vs≠ [])(hl:vs.length<=2000000):getI vs (IntKind.i64.wrap ((vs.length:Int)-1))=some (vs.getLast h):=by
 have hp:0<vs.length:=by cases vs with|nil=>exact absurd rfl h|cons=>simp
 rw[ML hp hl,B6 (by omega),List.getLast_eq_getElem]
def Ey(n:Nat)(l:List Ah):Prop:=LD l/\(l.length<=n/\ ∀c∈l,c.ak≠ []/\(c.ak.length<=n/\PR c))
theorem Vc{l:List Ah}{k:BG}{c:Ah}(h:Gh l k=some c):c∈l/\c.ae=k:=⟨List.mem_of_find?_eq_some h,by have:=List.find?_some h;simpa using this⟩
theorem VM{l:List Ah}{k:BG}{c:Ah}(hr:LD l)(hc:c∈l)(hk:c.ae=k):Gh l k=some c:=by
 cases h:Gh l k with
 |none=>have:=List.find?_eq_none.1 h c hc;simp[hk]at this
 |some d=>obtain⟨h1,h2⟩:=Vc h;rw[EM.gr (key:=ck) hr h1 hc (by rw[ck,ck,h2,hk])]
theorem Vz{l:List Ah}{k:BG}(h:∀c∈l,c.ae≠k):Gh l k=none:=by unfold Gh;rw[List.find?_eq_none];intro y hy;simpa using h y hy
abbrev Bb(l:List Ah)(k:BG):Nat:=Bq (λw:Ah=>bl w.ae k) l
theorem pZ(l:List Ah)(k:BG):Bb l k<=l.length:=Pm _ l
theorem iR{l:List Ah}(hr:LD l)(k:BG):(∃h:Bb l k<l.length,l[Bb l k].ae=k/\Gh l k=some l[Bb l k])\/((∀c∈l,c.ae≠k)/\Gh l k=none/\ ∀h:Bb l k<l.length,bl k l[Bb l k].ae=true):=by
 have Ql:=List.pairwise_iff_getElem.1 hr;by_cases hp:Bb l k<l.length
 ·by_cases hk:l[Bb l k].ae=k
  ·exact .inl ⟨hp,hk,VM hr (Bh hp) hk⟩
  ·right;have hn:bl (l[Bb l k]'hp).ae k=false:=RZ hp;have hg:bl k l[Bb l k].ae=true:=Vh hn hk;have Cl:∀c∈l,c.ae≠k:=by
    intro c hc e;obtain⟨j,hj,rfl⟩:=List.mem_iff_getElem.1 hc;rcases Nat.lt_trichotomy j (Bb l k)with h|h|h
    ·exact Ij (Pu h) e
    ·subst h;exact hk e
    ·have:=Ql (Bb l k) j hp hj h;rw[ck,ck,e,RJ hg]at this;cases this
   exact⟨Cl,Vz Cl,λ_=>hg⟩
 ·right;have Cl:∀c∈l,c.ae≠k:=by
   intro c hc e;obtain⟨j,hj,rfl⟩:=List.mem_iff_getElem.1 hc;exact Ij (Pu (lt:=λw:Ah=>bl w.ae k) (show j<Bb l k by omega)) e
  exact⟨Cl,Vz Cl,λh=>absurd h hp⟩
theorem oS{l:List Ah}{k:BG}(hl:l.length<=2000000)(hr:LD l):∃i:Int,Rk l k=some i/\((i<0/\Gh l k=none)\/(0<=i/\ ∃c,getI l i=some c/\Gh l k=some c)):=by
 refine⟨DD (λc:Ah=>c.ae==k) l,?_,?_⟩
 ·unfold Rk;refine mT (λc:Ah=>c.ae==k) (λi hi=> ?_) ?_
  ·unfold UA;rw[if_pos (by simpa using hi),B6 hi,Af,Se (by omega)];cases l[i].ae==k<;>rfl
  ·unfold UA;rw[if_neg (by simp)]
 ·by_cases h:DD (λc:Ah=>c.ae==k) l>=0
  ·obtain⟨x,h1,h2,h3⟩:=mK h;exact .inr ⟨h,x,h1,VM hr h3 (by simpa using h2)⟩
  ·refine .inl ⟨by omega,?_⟩;have:=mN (λc:Ah=>c.ae==k) l;rw[decide_eq_false h]at this;unfold Gh;rw[List.find?_eq_none];intro y hy hq;have:=List.any_eq_false.1 this.symm y hy;exact this hq
theorem kL{l:List Ah}{k:BG}{c:Ah}(h:Gh l k=some c)(hv:c.ak≠ []):J7 l k=(c.ak.getLast hv).ab:=by unfold J7;rw[h];show Wj c=_;unfold Wj;rw[List.getLast?_eq_some_getLast hv]
theorem oZ{n:Nat}{l:List Ah}{k:BG}(hn:n<=1000)(h:Ey n l):Q1 l k=some (J7 l k):=by
 obtain⟨hr,hl,hc⟩:=h;unfold Q1;obtain⟨i,e,⟨h1,h2⟩|⟨h1,c,h2,h3⟩⟩:=oS (l:=l) (k:=k) (by omega) hr
 ·rw[e,Af,if_pos (by simpa using h1)];unfold J7;rw[h2]
 ·obtain⟨hv,hw,_⟩:=hc c (Vc h3).1;rw[e,Af,if_neg (by simpa using h1),h2,Af,mI hv (by omega),Af,kL h3 hv]
theorem mD{l:List Ah}{k:BG}{v:Cd}(hr:LD l)(hp:Bb l k<l.length)(hk:l[Bb l k].ae=k):Jj l k v=l.set (Bb l k) ⟨k,l[Bb l k].ak++ [v]⟩:=by unfold Jj;rw[VG hr];rw[show Bq (λy=>bl (ck y) (ck (⟨k,Ja l k++ [v]⟩:Ah))) l=Bb l k from rfl,CS hp];show(if l[Bb l k].ae=k then _ else _)=_;rw[if_pos hk];unfold Ja;rw[VM hr (Bh hp) hk]
theorem nW{l:List Ah}{k:BG}{v:Cd}(hr:LD l)(hn:∀c∈l,c.ae≠k):Jj l k v=l.take (Bb l k)++ [⟨k,[v]⟩]++l.drop (Bb l k):=by
 have hv:Ja l k=[]:=by unfold Ja;rw[Vz hn]
 unfold Jj;rw[VG hr,hv];rw[show Bq (λy=>bl (ck y) (ck (⟨k,[]++ [v]⟩:Ah))) l=Bb l k from rfl];by_cases hp:Bb l k<l.length
 ·rw[CS hp];show(if l[Bb l k].ae=k then _ else _)=_;rw[if_neg (hn _ (Bh hp))];rfl
 ·rw[List.getElem?_eq_none (by omega)];rfl
theorem Ey.add{n:Nat}{l:List Ah}{k:BG}{v:Cd}(h:Ey n l)(hn:n<=1000)(hk:k.length<=2000000)(hv:v.aw.length<=2000000):Ey (n+1) (Jj l k v):=by
 obtain⟨hr,hl,hc⟩:=h;have Oj:(Ja l k).length<=n/\ ∀v∈Ja l k,v.aw.length<=2000000:=by
  unfold Ja;cases e:Gh l k with
  |none=>exact⟨by simp,λv hv=>by simp at hv⟩
  |some c=>obtain⟨_,h2,h3⟩:=hc c (Vc e).1;exact⟨h2,h3.2.2⟩
 refine⟨Yx hr,?_,?_⟩
 ·have:=Zv (key:=ck) (x:=(⟨k,Ja l k++ [v]⟩:Ah)) l;unfold Jj;omega
 ·intro c IA;rcases(VA (key:=ck) hr c).1 IA with rfl|⟨hm,_⟩
  ·refine⟨by simp,by simp;omega,hk,by simp;omega,?_⟩;intro x hx;rcases Ae.1 hx with hx|hx
   ·exact Oj.2 x hx
   ·have:x=v:=by simpa using hx
    subst this;exact hv
  ·obtain⟨h1,h2,h3⟩:=hc c hm;exact⟨h1,by omega,h3⟩
def Zr(ws:List DA):Prop:=ws.length<=100/\ ∀w∈ws,w.ae.length<=2000000/\w.aw.length<=2000000
theorem qN{c:Ah}{k:BG}{vs:List Cd}(h:c.ae=k):({c with ak:=vs}:Ah)=⟨k,vs⟩:=by subst h;rfl
theorem Ey.small{n:Nat}{l:List Ah}(h:Ey n l)(hn:n<=1000):GH l:=⟨by have:=h.2.1;omega,λc hc=>(h.2.2 c hc).2.2⟩
theorem rA{α:Type}(l:List α)(p:Nat):A4 l 0 (p:Int)=l.take p:=by unfold A4;simp
theorem rK{α:Type}(l:List α)(p:Nat):A4 l (p:Int) (l.length:Int)=l.drop p:=by unfold A4;rw[Int.toNat_natCast,Int.toNat_natCast,List.take_of_length_le (Ax _)]
theorem pM{t:Int}:∀{ws:List DA} {n:Nat} {l o:List Ah},n+ws.length<=1000->(∀w∈ws,w.ae.length<=2000000/\w.aw.length<=2000000)->Ey n l->MY t l ws=some o->Ey (n+ws.length) o:=by
 intro ws
 induction ws with
 |nil=>intro n l o _ _ h e;cases e;exact h
 |cons w vs ih=>
  intro n l o hn hs h e;unfold MY at e;rw[List.foldlM_cons]at e;cases e1:Ji t l w with
  |none=>rw[e1]at e;cases e
  |some l1=>
   rw[e1]at e;have e:MY t l1 vs=some o:=e;unfold Ji at e1;split at e1
   ·cases e1
   ·cases e1;rw[AQ]at hn ⊢;have:=ih (n:=n+1) (by omega) (λw hw=>hs w (by simp[hw])) (Ey.add h (by omega) (hs w (by simp)).1 (hs w (by simp)).2) e;rwa[show n+(vs.length+1)=n+1+vs.length by omega]
theorem pO{l:List Ah}(h:Ey 24 l):Rm l=some l:=by
 unfold Rm;have:=(lF (xs:=l) (body:=λs:List Ah × Int=>L4 l s.1 s.2) (λi s=>(s,i)) (λo c=>o++ [c]) (λo=>some o) (λi o=>o.length=i)
  (λi hi o ho=>by have h1:=h.2.1;have h2:=(h.2.2 _ (Bh hi)).2.1;refine⟨?_,by simp[ho]⟩;show L4 l o (i:Int)=_;unfold L4;rw[if_pos (by simpa using hi),B6 hi,Af,C2 (by simp only[List.length_nil];omega),C2 (by simp only[FH];omega),Se (by omega)])
  (λo ho=>by show L4 l o (l.length:Int)=_;unfold L4;rw[if_neg (by simp)]) (s:=[]) rfl).1
 refine this.trans ?_;have e:=nP (λc:Ah=>c) l [];simpa using e
theorem pD{l:List Ah}{ws:List DA}{t:Int}(h:Ey 24 l)(hw:Zr ws)(h0:0<t):Q6 l ws t=some (match MY t l ws with|some o=>(o,DW o)|none=>([],false)):=by
 unfold Q6;rw[pO h,Af];have key:=Vr (xs:=ws) (body:=λs:Int × List Ah=>L1 ws t s.1 s.2) (λi s=>((i:Int),s)) (Ji t) (some ([],false)) (λs=>QK s) (λi s=>Ey (24+i) s)
  (λi acc hi hI=>by
   have Xf:=hw.2 _ (Bh hi);have hn:=hw.1;obtain⟨hr,hl,hc⟩:=hI;have Ql:=List.pairwise_iff_getElem.1 hr;have FE:=pZ acc ws[i].ae;refine⟨?_,λa ha=> ?_⟩
   ·show L1 ws t (i:Int) acc=_;unfold L1;rw[if_pos (by simpa using hi),B6 hi,Af];have down:∀m:Nat,(∀j (hj:j<acc.length),m<=j->bl ws[i].ae acc[j].ae=true)-> ∀j:Nat,m<=j->j<acc.length->K4 t (i:Int) acc ws[i] ((j+1:Nat):Int)=some (.inl (j:Int)):=by
     intro m hm j h1 h2;unfold K4;rw[if_pos (by simp),ML (by omega) (by omega),show j+1-1=j by omega,B6 h2,Af,Pc,if_pos (by rw[Bool.not_not];exact hm j h2 h1)]
    rcases iR hr ws[i].ae with⟨hp,hk,hf⟩|⟨Di,hf,hg⟩
    ·have hv:=(hc _ (Bh hp))
     have stop:K4 t (i:Int) acc ws[i] ((Bb acc ws[i].ae+1:Nat):Int)=some (.inr (L3 t (i:Int) acc ws[i] ((Bb acc ws[i].ae+1:Nat):Int))):=by unfold K4;rw[if_pos (by simp),ML (by omega) (by omega),show Bb acc ws[i].ae+1-1=Bb acc ws[i].ae by omega,B6 hp,Af,Pc,if_neg (by rw[hk];rw[show Op.bytesLess ws[i].ae ws[i].ae=false from HE _];simp)]
     rw[VY (Bb acc ws[i].ae+1) stop acc.length (by omega) (down _ λj hj h1=>by rw[<-hk];exact Ql _ j hp hj (by omega))];unfold L3;rw[if_pos (by simp),ML (by omega) (by omega),show Bb acc ws[i].ae+1-1=Bb acc ws[i].ae by omega,B6 hp,Af,if_pos (by simpa using hk),oZ (n:=24+i) (by omega) ⟨hr,hl,hc⟩,Af];unfold Ji;by_cases ht:t<=J7 acc ws[i].ae
     ·rw[if_pos (by simpa using ht),if_pos ht]
     ·rw[if_neg (by simpa using ht),if_neg ht,C2 (by simp only[FH];omega),Int.toNat_natCast,mD hr hp hk,Se (by omega)];refine congrArg (λz=>some (Sum.inl (((i+1:Nat):Int),z))) (congrArg (acc.set _) ?_);exact qN hk
    ·have ht: ¬t<=J7 acc ws[i].ae:=by unfold J7;rw[hf];show¬t<=0;omega
     have S6:∀j (hj:j<acc.length),Bb acc ws[i].ae<=j->bl ws[i].ae acc[j].ae=true:=by
      intro j hj h1;have hp:Bb acc ws[i].ae<acc.length:=by omega
      rcases Nat.lt_or_ge (Bb acc ws[i].ae) j with h2|h2
      ·exact Ia (hg hp) (Ql _ j hp hj h2)
      ·have e:Bb acc ws[i].ae=j:=by omega
       have:=hg hp;simp only[e]at this;exact this
     have stop:K4 t (i:Int) acc ws[i] ((Bb acc ws[i].ae:Nat):Int)=some (.inr (L3 t (i:Int) acc ws[i] ((Bb acc ws[i].ae:Nat):Int))):=by
      unfold K4;by_cases h0:Bb acc ws[i].ae=0
      ·rw[if_neg (by simp[h0])]
      ·have hb:bl (acc[Bb acc ws[i].ae-1]'(by omega)).ae ws[i].ae=true:=Pu (lt:=λw:Ah=>bl w.ae ws[i].ae) (show Bb acc ws[i].ae-1<Bb acc ws[i].ae by omega);rw[if_pos (by simp;omega),ML (by omega) (by omega),B6 (show Bb acc ws[i].ae-1<acc.length by omega),Af,Pc,if_neg (by rw[show Op.bytesLess ws[i].ae _=false from RJ hb];simp)]
     rw[VY (Bb acc ws[i].ae) stop acc.length (by omega) (down _ S6)];have body:(req (0<=((Bb acc ws[i].ae:Nat):Int)/\((Bb acc ws[i].ae:Nat):Int)<=(acc.length:Int)/\(acc.length:Int)<=(acc.length:Int))<|
       req (0<=((Bb acc ws[i].ae:Nat):Int)/\((Bb acc ws[i].ae:Nat):Int)<=(acc.length:Int)/\(acc.length:Int)<=(acc.length:Int))<|
       req (((([]:List Ah).length:Int)+(((A4 acc ((Bb acc ws[i].ae:Nat):Int) (acc.length:Int))).length:Int))*40<=140737488355328/\(([]:List Ah).length:Int)+(((A4 acc ((Bb acc ws[i].ae:Nat):Int) (acc.length:Int))).length:Int)<=140737488355328)<|
       req (0<=(0:Int)/\(0:Int)<=((Bb acc ws[i].ae:Nat):Int)/\((Bb acc ws[i].ae:Nat):Int)<=(acc.length:Int))<|
       req (((([]:List Ah).length:Int)+(((A4 acc 0 ((Bb acc ws[i].ae:Nat):Int))).length:Int))*40<=140737488355328/\(([]:List Ah).length:Int)+(((A4 acc 0 ((Bb acc ws[i].ae:Nat):Int))).length:Int)<=140737488355328)<|
       req (((((A4 acc 0 ((Bb acc ws[i].ae:Nat):Int))).length:Int)+(([(⟨ws[i].ae,[(⟨t,ws[i].aw,ws[i].aq⟩:Cd)]⟩:Ah)]:List Ah).length:Int))*40<=140737488355328/\(((A4 acc 0 ((Bb acc ws[i].ae:Nat):Int))).length:Int)+(([(⟨ws[i].ae,[(⟨t,ws[i].aw,ws[i].aq⟩:Cd)]⟩:Ah)]:List Ah).length:Int)<=140737488355328)<|
       req ((((((A4 acc 0 ((Bb acc ws[i].ae:Nat):Int))++ [(⟨ws[i].ae,[(⟨t,ws[i].aw,ws[i].aq⟩:Cd)]⟩:Ah)])).length:Int)+(((A4 acc ((Bb acc ws[i].ae:Nat):Int) (acc.length:Int))).length:Int))*40<=140737488355328/\((((A4 acc 0 ((Bb acc ws[i].ae:Nat):Int))++ [(⟨ws[i].ae,[(⟨t,ws[i].aw,ws[i].aq⟩:Cd)]⟩:Ah)])).length:Int)+(((A4 acc ((Bb acc ws[i].ae:Nat):Int) (acc.length:Int))).length:Int)<=140737488355328)<|
       (some (.inl ((IntKind.i64.wrap ((i:Int)+1)),(((A4 acc 0 ((Bb acc ws[i].ae:Nat):Int))++ [(⟨ws[i].ae,[(⟨t,ws[i].aw,ws[i].aq⟩:Cd)]⟩:Ah)])++(A4 acc ((Bb acc ws[i].ae:Nat):Int) (acc.length:Int))))):Option ((Int × List Ah) ⊕ Option (List Ah × Bool))))=some (.inl (((i+1:Nat):Int),Jj acc ws[i].ae ⟨t,ws[i].aw,ws[i].aq⟩)):=by
      rw[rA,rK,nW hr Di,Se (by omega)];rw[C2 (by omega),C2 (by omega),C2 (by simp only[Dv,List.length_nil];omega),C2 (by omega),C2 (by simp only[AU,List.length_nil];omega),C2 (by simp only[AU,FH];omega),C2 (by simp only[AZ,Dv,AU,FH];omega)]
     have e1:Ji t acc ws[i]=some (Jj acc ws[i].ae ⟨t,ws[i].aw,ws[i].aq⟩):=by unfold Ji;rw[if_neg ht]
     rw[e1];unfold L3;by_cases h0:Bb acc ws[i].ae=0
     ·rw[if_neg (by simp[h0])];exact body
     ·have BE:(acc[Bb acc ws[i].ae-1]'(by omega)).ae≠ws[i].ae:=Di _ (Bh _);rw[if_pos (by simp;omega),ML (by omega) (by omega),B6 (show Bb acc ws[i].ae-1<acc.length by omega),Af,if_neg (by simpa using BE)];exact body
   ·unfold Ji at ha;split at ha
    ·cases ha
    ·cases ha;exact Ey.add (n:=24+i) ⟨hr,hl,hc⟩ (by omega) Xf.1 Xf.2)
  (λacc _=>by show L1 ws t (ws.length:Int) acc=_;unfold L1;rw[if_neg (by simp)]) l h
 refine key.trans ?_;unfold MY;cases ho:ws.foldlM (Ji t) l with
 |none=>rfl
 |some o=>show QK o=some (o,DW o);unfold QK;rw[Y5 ((pM (by have:=hw.1;omega) hw.2 h ho).small (by have:=hw.1;omega)),Af]
theorem kV{l:List Ah}(h:DW l=true):LD l:=by unfold DW at h;simp only[Ad]at h;exact(Lf (r:=Lw) (λa b c h k=>Ia h k)).1 h.2.2
theorem oA{l:List Ah}(h:DW l=true):Ey 24 l:=by
 refine⟨kV h,?_⟩;unfold DW at h;simp only[Ad,Au,Bz]at h;refine⟨by omega,λc hc=> ?_⟩;have h1:=h.2.1 c hc;unfold Fe GC Ed at h1;simp only[Ad,Bz]at h1;have h2:=FJ.1 h1.2.1;have h3:=FJ.1 h1.1.1;refine⟨λe=>by rw[e]at h2;simp at h2,by omega,by omega,by omega,λv hv=> ?_⟩;have h4:=h1.2.2.1 v hv;unfold J2 GJ Lq at h4;simp only[Ad,Au]at h4;have h5:(v.aw.length:Int)<=24:=by first|exact h4.2.1.1|exact h4.1.2.1.1|exact h4.1.1.1|exact h4.2.1.1.1
 omega
theorem YK{l:List Ah}(h:Ey 24 l):GH l:=⟨by have:=h.2.1;omega,λc hc=>(h.2.2 c hc).2.2⟩
theorem qI[Inhabited Ew]{c:Bx}{k:Int}{l:List BG}{Q:BG->Prop}(hl:l≠ [])(hq:∀s∈l,Q s)(h:CN c k)(hk:k<=4611686018427387000):B4 (QD c l) λp=>Q p.1/\CN p.2 (k+2):=by unfold QD;have N5:0<l.length:=List.length_pos_iff.2 hl;refine(Lm l.length h hk).bind λp ⟨hp,hc⟩=> ?_;exact B4.bind (P:=λy=>Q y) (.getI hp.1 (hp.2.1 (by omega)) hq) λy hy=> .ret ⟨hy,hc⟩
theorem oX[Inhabited Ew]{c:Bx}{k:Int}(h:CN c k)(hk:k<=4611686018427386000):B4 (QF c) λp=>p.1.length<=8/\CN p.2 (k+2):=by unfold QF;exact(qI (Q:=λs=>s.length<=8) (by simp) (by decide) h (by omega)).bind λn ⟨hn,hc⟩=> .ret ⟨hn,hc⟩
theorem lD[Inhabited Ew]{c:Bx}{k:Int}{s:BG}(hs:s.length<=8)(h:CN c k)(hk:k<=4611686018427385000):B4 (QI c s) λp=>(p.1.ae.length<=8/\p.1.aw.length<=8)/\CN p.2 (k+4):=by unfold QI;refine(V7 4 h (by omega)).bind λp hc=> ?_;refine .ite (λ_=> .ret ⟨⟨hs,by simp⟩,hc.up (by omega)⟩) λ_=> ?_;exact(oX hc (by omega)).bind λq ⟨hq,hd⟩=> .ret ⟨⟨hs,hq⟩,hd.up (by omega)⟩
theorem jQ[Inhabited Ew]{c:Bx}{k:Int}(h:CN c k)(h0:0<=k)(hk:k<=4611686018427380000):B4 (Qy c) λp=>Zr p.1/\CN p.2 (k+100):=by
 unfold Qy;refine Yq (λ(n:Nat) (s:List DA × Int × List Int × Int × Int)=>s.2.1+(n:Int)=8/\0<=s.2.1/\((s.1.length:Int)<=s.2.1/\ ∀w∈s.1,w.ae.length<=8/\w.aw.length<=8)/\CN ⟨s.2.2.1,s.2.2.2.1,s.2.2.2.2⟩ (k+8*s.2.1)) (λn s hI=> ?_) (n:=8) ⟨by simp,by simp,⟨by simp,λw hw=>by simp at hw⟩,by simpa using h⟩;obtain⟨i1,i2,⟨i3,i4⟩,i5⟩:=hI;show B4 (Ue s.1 s.2.1 s.2.2.1 s.2.2.2.1 s.2.2.2.2) _;unfold Ue;refine .ite (λAE=> ?_) λ_=> .ret (.ret ⟨⟨by(try dsimp only);omega,λw hw=>by have:=i4 w hw;omega⟩,i5.up (by omega)⟩);have AE:s.2.1<8:=by simpa using AE
 have w1:IntKind.i64.wrap (s.2.1+1)=s.2.1+1:=D1 (by omega) (by omega);refine B4.bind (P:=λy:BG=>y.length<=8) (.getI i2 (by simpa using AE) (by decide)) λy hy=> ?_;refine(V7 4 i5 (by omega)).bind λp hc=> ?_;refine .ite (λ_=> ?_) λ_=> .ret ⟨n-1,by omega,by(try dsimp only);rw[w1];omega,by(try dsimp only);rw[w1];omega,⟨by(try dsimp only);rw[w1];omega,i4⟩,hc.up (by(try dsimp only);rw[w1];omega)⟩;refine(lD hy hc (by omega)).bind λq ⟨hq,hd⟩=> ?_;refine .req (by simp only[FH];omega) (.ret ⟨n-1,by omega,by(try dsimp only);rw[w1];omega,by(try dsimp only);rw[w1];omega,⟨by(try dsimp only);rw[w1,AZ,FH];omega,λw hw=> ?_⟩,hd.up (by(try dsimp only);rw[w1];omega)⟩);rcases Ae.1 hw with hw|hw
 ·exact i4 w hw
 ·simp only[List.mem_singleton]at hw;rw[hw];exact hq
theorem YA[Inhabited Ew]{c:Bx}{k:Int}(h:CN c k)(h0:0<=k)(hk:k<=4611686018427370000):B4 (Ow c) λp=>Ey 24 p.1/\CN p.2 (k+2000):=by
 unfold Ow;refine(Lm 6 h (by omega)).bind λp ⟨hp,hc⟩=> ?_;have Qi:=hp.2.1 (by omega);refine Yq (λ(n:Nat) (s:List Ah × Int × Int × List Int × Int × Int)=>s.2.2.1=(n:Int)/\(n:Int)<=6/\Ey 24 s.1/\(0<=s.2.1/\s.2.1+4*(n:Int)<=24)/\CN ⟨s.2.2.2.1,s.2.2.2.2.1,s.2.2.2.2.2⟩ (k+2+110*(6-(n:Int)))) (λn s hI=> ?_) (n:=p.1.toNat) ⟨by(try dsimp only);omega,by omega,⟨List.Pairwise.nil,by simp,λc hc=>by simp at hc⟩,⟨by simp,by(try dsimp only);omega⟩,hc.up (by(try dsimp only);omega)⟩;obtain⟨i1,i2,i3,⟨i4,i5⟩,i6⟩:=hI;show B4 (Ud s.1 s.2.1 s.2.2.1 s.2.2.2.1 s.2.2.2.2.1 s.2.2.2.2.2) _;unfold Ud;refine .ite (λAE=> ?_) λ_=> .ret (.ret ⟨i3,i6.up (by omega)⟩);have AE:s.2.2.1>0:=by simpa using AE
 refine(Lm 4 i6 (by omega)).bind λq ⟨hq,hd⟩=> ?_;have Hu:=hq.2.1 (by omega);refine(jQ hd (by omega) (by omega)).bind λr ⟨hr,he⟩=> ?_;have w1:IntKind.i64.wrap ((1:Int)+q.1)=1+q.1:=D1 (by omega) (by omega);have w2:IntKind.i64.wrap (s.2.1+(1+q.1))=s.2.1+(1+q.1):=D1 (by omega) (by omega);have w3:IntKind.i64.wrap (s.2.2.1-1)=s.2.2.1-1:=D1 (by omega) (by omega);rw[w1,w2,w3,pD i3 hr (by omega)];have up:∀l:List Ah,Ey 24 l-> ∃m,m<n/\(s.2.2.1-1=(m:Int)/\(m:Int)<=6/\Ey 24 l/\(0<=s.2.1+(1+q.1)/\s.2.1+(1+q.1)+4*(m:Int)<=24)/\CN ⟨r.2.bf,r.2.db,r.2.bp⟩ (k+2+110*(6-(m:Int)))):=λl hl=>⟨n-1,by omega,by omega,by omega,hl,⟨by omega,by omega⟩,he.up (by omega)⟩
 rw[Af];cases KS:MY (s.2.1+(1+q.1)) s.1 r.1 with
 |none=>exact .ret (up _ i3)
 |some o=>refine .ite (λhg=> ?_) λ_=> .ret (up _ i3);exact .ret (up _ (oA hg))
theorem iX[Inhabited Ew]{c:Bx}{k:Int}(h:CN c k)(h0:0<=k)(hk:k<=4611686018427360000):B4 (QA c) λp=>GH p.1/\CN p.2 (k+3000):=by
 unfold QA;refine(YA h h0 (by omega)).bind λp ⟨hp,hc⟩=> ?_;have hs:=YK hp;refine .ite (λAE=> ?_) λ_=> .ret ⟨hs,hc.up (by omega)⟩;have AE:(p.1.length:Int)>0:=by simpa using AE
 refine(Lm _ hc (by omega)).bind λq ⟨hq,hd⟩=> ?_;have Hu:=hq.2.1 (by omega);refine(Lm 30 hd (by omega)).bind λr ⟨_,he⟩=> ?_;have Hw:∀(i:Nat) (x:Ah),PR x->GH (p.1.set i x):=λi x hx=>⟨by rw[List.length_set];exact hs.1,λy hy=>by
  rcases List.mem_or_eq_of_mem_set hy with hy|hy
  ·exact hs.2 y hy
  ·rw[hy];exact hx⟩
 refine .ite (λ_=> ?_) λ_=> .ite (λ_=> ?_) λ_=> .ite (λ_=> ?_) λ_=> .ret ⟨hs,he.up (by omega)⟩
 ·refine B4.bind (P:=λy=>y∈p.1) (.getI hq.1 Hu λx hx=>hx) λy hy=> .ret ⟨Hw _ _ ?_,he.up (by omega)⟩;have:=hs.2 y hy;exact⟨by simp,this.2⟩
 ·refine B4.bind (P:=λy=>y∈p.1) (.getI hq.1 Hu λx hx=>hx) λy hy=> ?_;refine(Vs _ (by simp) he (by omega)).bind λt ⟨_,hf⟩=> ?_;have dU:=hp.2.2 y hy;have N5:0<y.ak.length:=List.length_pos_iff.2 dU.1;refine B4.bind (P:=λv=>v∈y.ak) (.getI (by omega) (by omega) λx hx=>hx) λv hv=> .ret ⟨Hw _ _ ?_,hf.up (by omega)⟩;have:=hs.2 y hy;refine⟨this.1,by(try dsimp only);rw[List.length_set];exact this.2.1,λz hz=> ?_⟩;rcases List.mem_or_eq_of_mem_set hz with hz|hz
  ·exact this.2.2 z hz
  ·rw[hz];exact this.2.2 v hv
 ·refine B4.bind (P:=λy=>y∈p.1) (.getI hq.1 Hu λx hx=>hx) λy hy=> .ret ⟨Hw _ _ ?_,he.up (by omega)⟩;have:=hs.2 y hy;exact⟨this.1,by simp,λz hz=>by simp at hz⟩
theorem nH[Inhabited Ew]{code:List Int}(h:(default:Ew).ey code):B4 (QS code) λp=>GH p.1/\((-1<=p.2.1/\p.2.1<=10)/\(-1<=p.2.2/\p.2.2<=100001)):=by
 unfold QS;have tail:∀(l:List Ah) (c:Bx) (k:Int),GH l->CN c k->k<=4611686018427000000->B4 ((H4 c ([0,0,1,5,10,(-1)]:List Int)).bind λv4=>(H4 v4.2 ([100000,20,7,v4.1,100001,0]:List Int)).bind λv5=>some (l,v4.1,v5.1)) λp=>GH p.1/\((-1<=p.2.1/\p.2.1<=10)/\(-1<=p.2.2/\p.2.2<=100001)):=λl c k hl hc hk=>by
  refine(Vs _ (by simp) hc (by omega)).bind λp ⟨hp,hd⟩=> ?_;have hp: -1<=p.1/\p.1<=10:=by simp only[Ac,List.not_mem_nil,or_false]at hp;omega
  refine(Vs _ (by simp) hd (by omega)).bind λq ⟨hq,_⟩=> .ret ⟨hl,hp,?_⟩;simp only[Ac,List.not_mem_nil,or_false]at hq;dsimp only;omega
 refine(YA (CN.start h) (by omega) (by omega)).bind λp ⟨hp,hc⟩=> ?_;refine(V7 8 hc (by omega)).bind λq hd=> ?_;refine .ite (λ_=> ?_) λ_=>tail _ _ _ (YK hp) hd (by omega);exact(iX hd (by omega) (by omega)).bind λr ⟨hr,he⟩=>tail _ _ _ hr he (by omega)
end
section
open Go.RowKit Go.Sort
set_option maxRecDepth 100000
theorem ZP{code:List Int}(h:∀b∈code,0<=b/\b<=255)(hl:(code.length:Int)<=65536){i:Int}(h0:0<=i)(h1:i<=100):∃x,Mc code i=some x/\(0<=x/\x<=255):=by
 unfold Mc;by_cases hi:i<(code.length:Int)
 ·rw[if_pos (by simpa using hi)];obtain⟨x,e1,e2,_⟩:=Zx h0 hi;have hx:=h x e2;rw[e1,Af,D1 (n:=x) (by omega) (by omega)];exact⟨x,rfl,hx⟩
 ·rw[if_neg (by simpa using hi),D1 (n:=i*7) (by omega) (by omega),D1 (n:=i*7+(code.length:Int)) (by omega) (by omega)];refine⟨_,rfl,?_⟩;rw[Int.tmod_eq_emod_of_nonneg (by omega)];omega
theorem jH{l:List Am}(h:l.length<=2000000):Rh l l=some true:=by
 unfold Rh;rw[if_neg (by simp)];exact qF (n:=l.length) (λi hi=>by
  show OF l l i=_;unfold OF;rw[if_pos (by simpa using hi),B6 hi,Af,Af,if_neg (by simp),EK hi (by omega)]) (by
  show OF l l _=_;unfold OF;rw[if_neg (by simp)])
theorem X0{d:CM}(h:d.ax.length<=2000000):OX d d=some true:=by unfold OX;rw[if_pos (by simp),if_pos (by simp),jH h];rfl
theorem O9{l:List Ah}{a u:Int}(h1:DW l=true)(h2:ES ⟨a,u,D4 0 a u l⟩=true):Ff l a u=(⟨a,u,D4 0 a u l⟩,true):=by unfold Ff;rw[if_pos h1,if_pos h2]
theorem jD{l:List Ah}{a u:Int}(h:(Ff l a u).2=true):DW l=true/\ES ⟨a,u,D4 0 a u l⟩=true:=by
 unfold Ff at h;split at h
 ·rename_i h1;split at h
  ·rename_i h2;exact⟨h1,h2⟩
  ·cases h
 ·cases h
theorem Ry{l:List Ah}{a u:Int}:(Ff l a u).1.ax.length<=60:=by
 unfold Ff;split
 ·split
  ·rename_i h2;unfold ES at h2;simp only[Ad,Au]at h2;have:=h2.2.2.2.1;dsimp only at*;omega
  ·simp
 ·simp
theorem nL{d:CM}(hs:MF d.ax)(h:ES d=true):Ma d=some (d,true):=by unfold Ma;rw[R3 hs,Af,h];rfl
theorem mX{x y:List Am}(hx:x.length<=1000)(hy:y.length<=1000):QB [x,y]=some (x++y):=by
 unfold QB;have s1:H3 [x,y] 0 0=some (.inl ((x.length:Int),1)):=by unfold H3;rw[if_pos (by simp),show getI [x,y] 0=some x from rfl,Af,D1 (n:=0+(x.length:Int)) (by omega) (by omega),if_neg (by simp<;>omega),Int.zero_add];rfl
 have s2:H3 [x,y] (x.length:Int) 1=some (.inl ((x.length:Int)+(y.length:Int),2)):=by unfold H3;rw[if_pos (by simp),show getI [x,y] 1=some y from rfl,Af,D1 (n:=(x.length:Int)+(y.length:Int)) (by omega) (by omega),if_neg (by simp<;>omega)];rfl
 have s3:H3 [x,y] ((x.length:Int)+(y.length:Int)) 2=some (.inr (Uc [x,y] ((x.length:Int)+(y.length:Int)))):=by unfold H3;rw[if_neg (by simp)]
 refine(O0 (body:=λs:Int × Int=>H3 [x,y] s.1 s.2) s1).trans ((O0 (body:=λs:Int × Int=>H3 [x,y] s.1 s.2) s2).trans ((RA (body:=λs:Int × Int=>H3 [x,y] s.1 s.2) s3).trans ?_));unfold Uc;rw[show Sb ([]:List Am) ((x.length:Int)+(y.length:Int))=some []from C2 ⟨rfl,by omega,by omega⟩,Af];have t1:H2 [x,y] 0 []=some (.inl (1,x)):=by unfold H2;rw[if_pos (by simp),show getI [x,y] 0=some x from rfl,Af,C2 (by simp<;>omega),List.nil_append];rfl
 have t2:H2 [x,y] 1 x=some (.inl (2,x++y)):=by unfold H2;rw[if_pos (by simp),show getI [x,y] 1=some y from rfl,Af,C2 (by omega)];rfl
 have t3:H2 [x,y] 2 (x++y)=some (.inr (some (x++y))):=by unfold H2;rw[if_neg (by simp)]
 exact(O0 (body:=λs:Int × List Am=>H2 [x,y] s.1 s.2) t1).trans ((O0 (body:=λs:Int × List Am=>H2 [x,y] s.1 s.2) t2).trans (RA (body:=λs:Int × List Am=>H2 [x,y] s.1 s.2) t3))
theorem oE{l:List Ah}{a m u:Int}(hl:GH l)(h1:a<=m)(h2:m<=u)(h:(Ff l a u).2=true):(Ff l a m).2=true/\(Ff l m u).2=true/\QU (Ff l a m).1 (Ff l m u).1=some (Ff l a u):=by obtain⟨hc,hd⟩:=jD h;obtain⟨d1,d2⟩:=kH hc h1 h2 hd;rw[O9 hc d1,O9 hc d2,O9 hc hd];refine⟨rfl,rfl,?_⟩;have e1:=Ry (l:=l) (a:=a) (u:=m);have e2:=Ry (l:=l) (a:=m) (u:=u);rw[O9 hc d1]at e1;rw[O9 hc d2]at e2;unfold QU;rw[R3 (d:=⟨a,m,D4 0 a m l⟩) (OR hl hc),Af,if_pos d1,R3 (d:=⟨m,u,D4 0 m u l⟩) (OR hl hc),Af,if_neg (by simp[d2]),mX (by dsimp only at e1 ⊢;omega) (by dsimp only at e2 ⊢;omega),Af,Yf hc h1 h2,nL (OR hl hc) hd];rfl
theorem gT(a0:List Int)(h0:T8 M6 a0):QC a0=some true:=by
 unfold QC;rw[show UH a0=some (decide ((a0.length:Int)>65536))from rfl,Af];by_cases hb:(a0.length:Int)>65536
 ·rw[if_pos (by simpa using hb)]
 rw[if_neg (by simpa using hb)];obtain⟨⟨l,fr,u⟩,e1,hl,hf,_⟩:=nH (code:=a0) (show(default:Ew).ey a0 from h0.2);obtain⟨x,e2,hx⟩:=ZP (code:=a0) h0.2 (by omega) (i:=40) (by omega) (by omega);obtain⟨y,e3,hy⟩:=ZP (code:=a0) h0.2 (by omega) (i:=41) (by omega) (by omega);rw[e1,Af,e2,Af,Af,e3,Af];have m1:0<=Int.tmod x 9/\Int.tmod x 9<9:=by rw[Int.tmod_eq_emod_of_nonneg hx.1];omega
 have m2:0<=Int.tmod y 20/\Int.tmod y 20<20:=by rw[Int.tmod_eq_emod_of_nonneg hy.1];omega
 generalize Int.tmod x 9=m at m1 ⊢;generalize Int.tmod y 20=t at m2 ⊢;dsimp only at hf hl ⊢;rw[D1 (n:=fr+m) (by omega) (by omega),D1 (n:=fr+m+t) (by omega) (by omega)];rw[U2 hl,Af,U2 hl,Af,U2 hl,Af,kF hl (by omega),Af,if_neg (by simp),X0 (by have:=Ry (l:=l) (a:=fr) (u:=fr+m+t);omega),Af,if_neg (by simp)];by_cases h8:(Ff l fr (fr+m+t)).2=true
 ·obtain⟨j1,j2,j3⟩:=oE (l:=l) (a:=fr) (m:=fr+m) (u:=fr+m+t) hl (by omega) (by omega) h8;rw[if_neg (by simp[j1,j2,h8]),j3,Af,if_pos h8,X0 (by have:=Ry (l:=l) (a:=fr) (u:=fr+m+t);omega)];rfl
 ·rw[if_pos (by simp[h8])];simp[h8]
end
end Go.Proofs.Yteeafhlnofapaaa

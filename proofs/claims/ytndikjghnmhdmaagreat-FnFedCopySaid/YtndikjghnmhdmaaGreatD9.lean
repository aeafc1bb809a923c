/- Parts of a proof, joined: NF, NC, NI, NJ, NJA, ND, NGA, NX, N6, NSP, NSQ, NSR, NSS, NDR, NJL, NG, NST, NKR, NSU, NSV, NSW, NSX, NSY, NSZ, NJC, NJM, NFB, NFJ. -/
import Derived.Test.YtndikjghnmhdmaaGreatD8
set_option linter.unusedVariables false
set_option linter.unusedSimpArgs false
namespace Go.Proofs.YtndikjghnmhdmaaGreat
section
open Go.RowKit
set_option maxRecDepth 100000
def ahead(a b:Ai):Bool:=if a.ab≠b.ab then decide (a.ab<b.ab)else if a.aq≠b.aq then decide (a.aq<b.aq)else bl a.ae b.ae
theorem Te(a b:Ai):Pg a b=some (ahead a b):=by unfold Pg ahead;by_cases h:a.ab=b.ab<;>by_cases h2:a.aq=b.aq<;>simp[h,h2]
theorem bB{a b c:Ai}(h1:ahead a b=true)(h2:ahead b c=true):ahead a c=true:=by
 unfold ahead at*;by_cases e1:a.ab=b.ab
 ·by_cases e2:b.ab=c.ab
  ·rw[if_neg (by simpa using e1)]at h1;rw[if_neg (by simpa using e2)]at h2;rw[if_neg (by simpa using e1.trans e2)];by_cases g1:a.aq=b.aq
   ·by_cases g2:b.aq=c.aq
    ·rw[if_neg (by simpa using g1)]at h1;rw[if_neg (by simpa using g2)]at h2;rw[if_neg (by simpa using g1.trans g2)];exact Fz h1 h2
    ·rw[if_pos g2,Aq]at h2;rw[if_pos (by omega),Aq];omega
   ·rw[if_pos g1,Aq]at h1;by_cases g2:b.aq=c.aq
    ·rw[if_pos (by omega),Aq];omega
    ·rw[if_pos g2,Aq]at h2;rw[if_pos (by omega),Aq];omega
  ·rw[if_pos e2,Aq]at h2;rw[if_pos (by omega),Aq];omega
 ·rw[if_pos e1,Aq]at h1;by_cases e2:b.ab=c.ab
  ·rw[if_pos (by omega),Aq];omega
  ·rw[if_pos e2,Aq]at h2;rw[if_pos (by omega),Aq];omega
theorem zq8(a:Ai):ahead a a=false:=by unfold ahead;simp[HF]
def Uy(a b:Ai):Int:=if ahead a b=true then-1 else if ahead b a=true then 1 else 0
theorem zy9(a b c:Int):VS [a,b,c]=some (if a≠0 then a else if b≠0 then b else c):=by
 have hb:∀i:Nat,(h:i<3)->Sw [a,b,c] i=if([a,b,c]:List Int)[i]≠0 then some (.inr (some ([a,b,c]:List Int)[i]))else some (.inl ((i+1:Nat):Int)):=by intro i h;unfold Sw;rw[if_pos (by simp;omega),AW (by simpa using h),Aa,D9 h (by omega)];by_cases hz:([a,b,c]:List Int)[i]=0<;>simp[hz]
 have h3:Sw [a,b,c] ((3:Nat):Int)=some (.inr (some 0)):=by unfold Sw;rw[if_neg (by simp)]
 unfold VS;rw[Eh,show(0:Int)=((0:Nat):Int)from rfl,hb 0 (by omega)];by_cases ha:a=0
 ·rw[if_neg (by simpa using ha),if_neg (by simpa using ha)];show AG _ ((1:Nat):Int)=_;rw[Eh,hb 1 (by omega)];by_cases BS:b=0
  ·rw[if_neg (by simpa using BS),if_neg (by simpa using BS)];show AG _ ((2:Nat):Int)=_;rw[Eh,hb 2 (by omega)];by_cases hc:c=0
   ·rw[if_neg (by simpa using hc)];show AG _ ((3:Nat):Int)=_;rw[Eh,h3];simp[hc]
   ·rw[if_pos (by simpa using hc)];rfl
  ·rw[if_pos (by simpa using BS),if_pos (by simpa using BS)];rfl
 ·rw[if_pos (by simpa using ha),if_pos (by simpa using ha)];rfl
theorem zzT(a b:Ai):U9 a b=some (Uy a b):=by
 unfold U9;simp only[zzF,zzZ,Aa,zy9];unfold Uy ahead Mr Le;congr 1;rcases Int.lt_trichotomy a.ab b.ab with h|h|h
 ·have h1: ¬a.ab=b.ab:=by omega
  simp[h,h1]
 ·have h2:=h.symm;rcases Int.lt_trichotomy a.aq b.aq with g|g|g
  ·have g1: ¬a.aq=b.aq:=by omega
   simp[h,g,g1]
  ·have g2:=g.symm;rcases TD a.ae b.ae with k|k|k
   ·simp[h,g,k]
   ·simp[h,g,k,HF]
   ·have k1:=P2 k;have k2: ¬a.ae=b.ae:=λe=>GL k e.symm;simp[h,g,k,k1,k2]
  ·have g1: ¬a.aq=b.aq:=by omega
   have g2: ¬b.aq=a.aq:=by omega
   have g3: ¬a.aq<b.aq:=by omega
   simp[h,g,g1,g2,g3]
 ·have h1: ¬a.ab=b.ab:=by omega
  have h2: ¬b.ab=a.ab:=by omega
  have h3: ¬a.ab<b.ab:=by omega
  simp[h,h1,h2,h3]
theorem zyw(a b:Ai):decide (Uy a b>=0)= !ahead a b:=by
 unfold Uy;cases ahead a b with
 |true=>simp
 |false=>cases ahead b a<;>simp
def Gc(c:Ai):Bool:=Bq c.ab 1 100000&&(Bq c.aq 0 3&&(CZ c.ae&&FB c.a7 c.au))
def Jg(l:List Ai):Bool:=decide ((l.length:Int)<=400)&&(l.all Gc&&Df ahead l)
def fP(c:Ai):Prop:=c.ae.length<=2000000/\c.a7.length<=2000000
def Qj(l:List Ai):Prop:=l.length<=2000000/\ ∀c∈l,fP c
theorem WZ{c:Ai}(h:fP c):VE c=some (Gc c):=by unfold VE Gc;simp only[Md,Aa,WI h.1 h.2];cases Bq c.ab 1 100000<;>cases Bq c.aq 0 3<;>simp
theorem zyB{c:Ai}(h:fP c):Vb c=some (Gc c):=by unfold Vb Gc JE aQ;simp only[KQ,Aa,sB h.1,Ws h.2];cases Bq c.ab 1 100000<;>cases Bq c.aq 0 3<;>cases CZ c.ae<;>simp
theorem o6{l:List Ai}(h:l.length<=2000000):Pw l=some (decide ((l.length:Int)<=400)&&Df ahead l):=by
 unfold Pw;rw[PV (xs:=l) (body:=λs:Int=>Ny l s) (λ_=>true) ahead false (Z9 l) (λh0=> ?_) (λi hi=> ?_) (by simp[Ny])]
 ·unfold Z9;cases Df ahead l<;>simp
 ·show Ny l 0=_;unfold Ny;rw[if_pos (by simpa using h0),if_neg (by simp)];rfl
 ·show Ny l ((i+1:Nat):Int)=_;unfold Ny;rw[if_pos (by simp;omega),if_pos (by simp),KS (by omega) (by omega),Nat.add_sub_cancel,AW (show i<l.length by omega),Aa,AW hi,Aa,zzT,Aa,zyw,D9 hi (by omega)];cases ahead l[i] l[i+1]<;>rfl
theorem zzf{l:List Ai}(h:Qj l):Vg l=some (Jg l):=by unfold Vg Jg;rw[o6 h.1,Aa,Mb (λc=> !Gc c) (λc hc=>by simp[Z0,zyB (h.2 c hc)]) (by have:=h.1;omega)];rw[<-List.not_all_eq_any_not];cases decide ((l.length:Int)<=400)<;>cases Df ahead l<;>cases l.all Gc<;>rfl
theorem rD{l:List Ai}(h:Qj l):SE l=some (Jg l):=by
 have hn:=h.1;unfold SE Jg;by_cases hl:(l.length:Int)<=400
 ·rw[PV (xs:=l) (body:=λs:Int=>Hz l s) Gc ahead false (Sc l) (λh0=> ?_) (λi hi=> ?_) (by simp[Hz])]
  ·unfold Sc;cases l.all Gc<;>cases Df ahead l<;>simp[hl]
  ·show Hz l 0=_;unfold Hz;rw[if_pos (by simpa using h0),show(0:Int)=((0:Nat):Int)from rfl,AW h0,Aa,WZ (h.2 _ (AO h0)),Aa,if_neg (by simp)];cases Gc l[0]<;>rfl
  ·show Hz l ((i+1:Nat):Int)=_;unfold Hz;rw[if_pos (by simp;omega),AW hi,Aa,WZ (h.2 _ (AO hi)),Aa,if_pos (by simp),KS (by omega) (by omega),Nat.add_sub_cancel,AW (show i<l.length by omega),Aa,Te,Aa,D9 hi (by omega)];cases Gc l[i+1]<;>cases ahead l[i] l[i+1]<;>rfl
 ·have ht:=PV (xs:=l.take 401) (body:=λs:Int=>Hz l s) Gc ahead false (Sc l) (λh0=> ?_) (λi hi=> ?_) (by
   have:(l.take 401).length=401:=by rw[Ax];omega
   rw[this];simp[Hz])
  ·rw[ht];unfold Sc;simp[hl]
  ·show Hz l 0=_;have h1:0<l.length:=by omega
   unfold Hz;rw[if_pos (by simpa using h1),show(0:Int)=((0:Nat):Int)from rfl,AW h1,Aa,WZ (h.2 _ (AO h1)),Aa,if_neg (by simp),List.getElem_take];cases Gc l[0]<;>rfl
  ·show Hz l ((i+1:Nat):Int)=_;have gX:i+1<401:=by rw[Ax]at hi;omega
   have hi:i+1<l.length:=by omega
   unfold Hz;rw[if_pos (by simp;omega),AW hi,Aa,WZ (h.2 _ (AO hi)),Aa,if_pos (by simp),KS (by omega) (by omega),Nat.add_sub_cancel,AW (show i<l.length by omega),Aa,Te,Aa,D9 hi (by omega),List.getElem_take,List.getElem_take];cases Gc l[i+1]<;>cases ahead l[i] l[i+1]<;>rfl
def JL(d:HX):Bool:=Bq d.cu 0 100000&&(Bq d.ga 0 100000&&(decide (d.cu<=d.ga)&&(decide ((d.bw.length:Int)<=60)&&(Jg d.bw&&d.bw.all λc=> !((c.aq !=0||decide (c.ab<=d.cu))||decide (c.ab>d.ga))))))
theorem zyx{d:HX}(h:Qj d.bw):Ve d=some (JL d):=by unfold Ve Ic JL;simp only[KQ,Aa,zzf h];have e1:EJ d.bw (λy0_=>ZW y0_ d)=some (d.bw.any λc=>((c.aq !=0||decide (c.ab<=d.cu))||decide (c.ab>d.ga))):=Mb _ (λc _=>rfl) (by have:=h.1;omega);rw[e1,List.any_eq_not_all_not];generalize (d.bw.all λx=> !((x.aq !=0||decide (x.ab<=d.cu))||decide (x.ab>d.ga)))=b;cases Bq d.cu 0 100000<;>cases Bq d.ga 0 100000<;>cases decide (d.cu<=d.ga)<;>cases decide ((d.bw.length:Int)<=60)<;>cases Jg d.bw<;>cases b<;>rfl
def Ik(c:DX):Bool:=Bq c.ab 0 100000&&(Td c.bz&&(decide (c.ab>0)||(c.bz.length:Int)==0))
theorem rY{c:DX}(h:JV c.bz):Sl c=some (Ik c):=by unfold Sl Ic Ik;simp only[KQ,Aa,zyv h];cases Bq c.ab 0 100000<;>rfl
end
section
open Go.RowKit Go.Sort
set_option maxRecDepth 100000
theorem PX{S α β σ:Type}{xs:List α}{body:S->Option (S ⊕ Option β)}(mk:Nat->σ->S)(g:σ->α->Option σ)(b:Option β)(fin:σ->Option β)(I:Nat->σ->Prop)
  (hs:∀i acc (h:i<xs.length),I i acc->body (mk i acc)=some (match g acc xs[i]with|some a=> .inl (mk (i+1) a)|none=> .inr b)/\ ∀a,g acc xs[i]=some a->I (i+1) a)
  (he:∀acc,I xs.length acc->body (mk xs.length acc)=some (.inr (fin acc))) (a0:σ) (h0:I 0 a0):AG body (mk 0 a0)=match xs.foldlM g a0 with|some a=>fin a|none=>b:=by
 have key:∀n q acc,q+n=xs.length->I q acc->AG body (mk q acc)=match(xs.drop q).foldlM g acc with|some a=>fin a|none=>b:=by
  intro n
  induction n with
  |zero=>
   intro q acc hq hi;have e:q=xs.length:=by omega
   subst e;rw[Eh,he acc hi,List.drop_length];rfl
  |succ n ih=>
   intro q acc hq hi;have hl:q<xs.length:=by omega
   obtain⟨h1,h2⟩:=hs q acc hl hi;rw[Eh,h1,Be hl,List.foldlM_cons];cases hg:g acc xs[q]with
   |none=>rfl
   |some a=>exact ih (q+1) a (by omega) (h2 a hg)
 have:=key xs.length 0 a0 (by omega) h0;rwa[List.drop_zero]at this
theorem lY{α σ:Type}(g:σ->α->σ):∀(xs:List α) (a:σ),xs.foldlM (m:=Option) (λa x=>some (g a x)) a=some (xs.foldl g a)
 | [],_=>rfl
 |x::xs,a=>by rw[List.foldlM_cons,List.foldl_cons];exact lY g xs (g a x)
theorem WB{S α β σ:Type}{xs:List α}{body:S->Option (S ⊕ Option β)}(mk:Nat->σ->S)(g:σ->α->σ)(fin:σ->Option β)(I:Nat->σ->Prop)
  (hs:∀i acc (h:i<xs.length),I i acc->body (mk i acc)=some (.inl (mk (i+1) (g acc xs[i])))/\I (i+1) (g acc xs[i]))
  (he:∀acc,I xs.length acc->body (mk xs.length acc)=some (.inr (fin acc))) (a0:σ) (h0:I 0 a0):AG body (mk 0 a0)=fin (xs.foldl g a0):=by
 rw[PX mk (λa x=>some (g a x)) none fin I (λi acc h hi=>⟨(hs i acc h hi).1,λa e=>by cases e;exact(hs i acc h hi).2⟩) he a0 h0,lY]
theorem dR{α β:Type}{xs:List α}{body:Int->Option (Int ⊕ Option β)}(p:α->Bool)(fin:Int->Option β)
  (hs:∀i (h:i<xs.length),body (i:Nat)=some (if p xs[i]=true then .inl ((i+1:Nat):Int)else .inr (fin (i:Nat)))) (he:body (xs.length:Nat)=some (.inr (fin (xs.length:Nat)))):AG body 0=fin (AM p xs:Nat):=by
 have key:∀n q,q+n=xs.length->AG body (q:Nat)=fin ((q+AM p (xs.drop q):Nat):Int):=by
  intro n
  induction n with
  |zero=>
   intro q hq;have e:q=xs.length:=by omega
   subst e;rw[Eh,he,List.drop_length];rfl
  |succ n ih=>
   intro q hq;have hl:q<xs.length:=by omega
   rw[Eh,hs q hl,Be hl];by_cases hp:p xs[q]=true
   ·rw[if_pos hp];have e:AM p (xs[q]::xs.drop (q+1))=AM p (xs.drop (q+1))+1:=by unfold AM;rw[List.takeWhile_cons,if_pos hp];rfl
    rw[e,show q+(AM p (xs.drop (q+1))+1)=(q+1)+AM p (xs.drop (q+1)) by omega];exact ih (q+1) (by omega)
   ·rw[if_neg hp];have e:AM p (xs[q]::xs.drop (q+1))=0:=by unfold AM;rw[List.takeWhile_cons,if_neg hp];rfl
    rw[e];rfl
 have:=key xs.length 0 (by omega);rw[List.drop_zero,Nat.zero_add]at this;exact this
def Im(v:B8):Bool:=Bq v.ab 1 100000&&FB v.a7 v.au
def HM(a b:B8):Bool:=decide (a.ab<b.ab)
def FV(l:List B8):Bool:=Bq (l.length:Int) 1 16&&(l.all Im&&Df HM l)
def EV(c:Ag):Bool:=CZ c.ae&&FV c.al
def Oc(a b:Ag):Bool:=bl a.ae b.ae
def Ck(l:List Ag):Bool:=decide ((l.length:Int)<=24)&&(l.all EV&&Df Oc l)
def Xo(c:Ag):Prop:=c.ae.length<=2000000/\c.al.length<=2000000/\ ∀v∈c.al,v.a7.length<=2000000
def Me(l:List Ag):Prop:=l.length<=2000000/\ ∀c∈l,Xo c
theorem zwu{c:Ag}(h:Xo c):V0 c=some (FV c.al):=by
 obtain⟨_,h2,h3⟩:=h;unfold V0 FV;rw[PV (xs:=c.al) (body:=λs:Int=>Nw c s) Im HM false (Z8 c) (λh0=> ?_) (λi hi=> ?_) (by simp[Nw])]
 ·unfold Z8;simp only[KQ,Aa];cases c.al.all Im<;>cases Df HM c.al<;>cases Bq (c.al.length:Int) 1 16<;>rfl
 ·show Nw c 0=_;unfold Nw JE Im;rw[if_pos (by simpa using h0),show(0:Int)=((0:Nat):Int)from rfl,AW h0,Aa];simp only[KQ,Aa,Ws (h3 _ (AO h0))];cases Bq c.al[0].ab 1 100000<;>cases FB c.al[0].a7 c.al[0].au<;>rfl
 ·show Nw c ((i+1:Nat):Int)=_;unfold Nw JE Im HM;rw[if_pos (by simp;omega),AW hi,Aa];simp only[KQ,Aa,Ws (h3 _ (AO hi))];rw[KS (by omega) (by omega),Nat.add_sub_cancel,AW (show i<c.al.length by omega),D9 hi (by omega)];have e:decide (c.al[i+1].ab<=c.al[i].ab)= !decide (c.al[i].ab<c.al[i+1].ab):=by rw[<-decide_not,decide_eq_decide];omega
  simp only[Aa,e];rw[show decide (((i+1:Nat):Int)>0)=true by simp];cases Bq c.al[i+1].ab 1 100000<;>cases FB c.al[i+1].a7 c.al[i+1].au<;>cases decide (c.al[i].ab<c.al[i+1].ab)<;>rfl
theorem qN{c:Ag}(h:Xo c):VZ c=some (EV c):=by
 obtain⟨h1,h2,h3⟩:=h;unfold VZ EV FV;rw[PV (xs:=c.al) (body:=λs:Int=>Nz c s) (λv=>Bq v.ab 1 100000&&(CZ c.ae&&FB v.a7 v.au)) HM false (Z7 c) (λh0=> ?_) (λi hi=> ?_) (by simp[Nz])]
 ·unfold Z7;simp only[Xc h1,Md,Aa];cases hk:CZ c.ae with
  |true=>
   have e:(c.al.all λv=>Bq v.ab 1 100000&&(true&&FB v.a7 v.au))=c.al.all Im:=by congr 1
   rw[e];cases c.al.all Im<;>cases Df HM c.al<;>cases Bq (c.al.length:Int) 1 16<;>rfl
  |false=>split<;>simp
 ·show Nz c 0=_;unfold Nz L0;rw[if_pos (by simpa using h0),show(0:Int)=((0:Nat):Int)from rfl,AW h0,Aa];simp only[Md,Aa,WI h1 (h3 _ (AO h0))];cases Bq c.al[0].ab 1 100000<;>cases(CZ c.ae&&FB c.al[0].a7 c.al[0].au)<;>rfl
 ·show Nz c ((i+1:Nat):Int)=_;unfold Nz L0 HM;rw[if_pos (by simp;omega),AW hi,Aa];simp only[Md,Aa,WI h1 (h3 _ (AO hi))];rw[KS (by omega) (by omega),Nat.add_sub_cancel,AW (show i<c.al.length by omega),D9 hi (by omega)];have e:decide (c.al[i].ab>=c.al[i+1].ab)= !decide (c.al[i].ab<c.al[i+1].ab):=by rw[<-decide_not,decide_eq_decide];omega
  simp only[Aa,e];rw[show decide (((i+1:Nat):Int)>0)=true by simp];cases Bq c.al[i+1].ab 1 100000<;>cases(CZ c.ae&&FB c.al[i+1].a7 c.al[i+1].au)<;>cases decide (c.al[i].ab<c.al[i+1].ab)<;>rfl
theorem oM{α β:Type}{r:β->β->Bool}{f:α->β}:∀l:List α,Df r (l.map f)=Df (λa b=>r (f a) (f b)) l
 | []=>rfl
 | [_]=>rfl
 |x::y::l=>by show(r (f x) (f y)&&Df r ((y::l).map f))=_;rw[oM (y::l)];rfl
theorem oV{l:List Ag}(h:Me l):Sz l=some (Ck l):=by
 have hn:=h.1;unfold Sz;rw[show((0:Int),([]:List Az))=(λ(i:Nat) (a:List Az)=>((i:Int),a)) 0 []from rfl,PX (xs:=l) (body:=λs:Int × List Az=>Sj l s.1 s.2) (λ(i:Nat) (a:List Az)=>((i:Int),a)) (λa c=>if FV c.al=true then some (a++ [c.ae])else none) (some false) (U7 l) (λi a=>a.length=i) (λi acc hi ha=> ?_) (λacc ha=>by simp[Sj]) [] rfl]
 ·have hf:∀(xs:List Ag) (a:List Az),xs.foldlM (m:=Option) (λa c=>if FV c.al=true then some (a++ [c.ae])else none) a=if(xs.all λc=>FV c.al)=true then some (a++xs.map (·.ae))else none:=by
   intro xs
   induction xs with
   |nil=>intro a;simp
   |cons x xs ih=>
    intro a;rw[List.foldlM_cons];by_cases hx:FV x.al=true
    ·rw[if_pos hx];show xs.foldlM _ (a++ [x.ae])=_;rw[ih];simp[hx]
    ·rw[if_neg hx];simp[hx]
  rw[hf];unfold Ck;by_cases hg:(l.all λc=>FV c.al)=true
  ·rw[if_pos hg];show U7 l _=_;unfold U7;rw[List.nil_append,bE (by simpa using hn) (λk hk=>by obtain⟨c,hc,rfl⟩:=List.mem_map.1 hk;exact(h.2 c hc).1),bK,oM];have e:(l.map (·.ae)).all CZ=l.all EV:=by
    rw[List.all_map,Bool.eq_iff_iff];simp only[A7]at hg ⊢;refine⟨λq c hc=> ?_,λq c hc=> ?_⟩
    ·unfold EV;rw[hg c hc,Bool.and_true];exact q c hc
    ·have:=q c hc;unfold EV at this;simp only[Ab]at this;exact this.1
   rw[e];show(if decide ((l.length:Int)<=24)=true then(some (l.all EV&&Df Oc l)).bind λv2=>some v2 else some false)=_;cases decide ((l.length:Int)<=24)<;>rfl
  ·rw[if_neg hg];have e:l.all EV=false:=by
    cases hc:l.all EV
    ·rfl
    ·refine absurd ?_ hg;simp only[A7]at hc ⊢;intro c q;have:=hc c q;unfold EV at this;simp only[Ab]at this;exact this.2
   rw[e];simp
 ·have ha:acc.length=i:=ha;refine⟨?_,λa e=> ?_⟩
  ·show Sj l (i:Int) acc=_;unfold Sj;rw[if_pos (by simpa using hi),AW hi,Aa,zwu (h.2 _ (AO hi)),Aa,D9 hi (by omega)];cases FV l[i].al with
   |false=>rfl
   |true=>rw[if_neg (by simp),A8 (by simp;omega)];rfl
  ·split at e
   ·cases e;simp[ha]
   ·cases e
theorem qA{l:List Ag}(h:Me l):SB l=some (Ck l):=by
 have hn:=h.1;unfold SB Ck;rw[PV (xs:=l) (body:=λs:Int=>ND l s) EV Oc false (aF l) (λh0=> ?_) (λi hi=> ?_) (by simp[ND])]
 ·unfold aF;cases l.all EV<;>cases Df Oc l<;>simp
 ·show ND l 0=_;unfold ND;rw[if_pos (by simpa using h0),show(0:Int)=((0:Nat):Int)from rfl,AW h0,Aa,qN (h.2 _ (AO h0)),Aa];cases EV l[0]<;>rfl
 ·show ND l ((i+1:Nat):Int)=_;unfold ND Oc;rw[if_pos (by simp;omega),AW hi,Aa,qN (h.2 _ (AO hi)),Aa];rw[KS (by omega) (by omega),Nat.add_sub_cancel,AW (show i<l.length by omega),D9 hi (by omega)];simp only[Aa];rw[show decide (((i+1:Nat):Int)>0)=true by simp];rw[show bl l[i].ae l[i+1].ae=Op.bytesLess l[i].ae l[i+1].ae from rfl];cases EV l[i+1]<;>cases Op.bytesLess l[i].ae l[i+1].ae<;>rfl
def BB(a u:Int)(v:B8):Bool:=decide (v.ab>a)&&decide (v.ab<=u)
def Fc(g:Int)(c:Ag)(v:B8):Ai:=⟨v.ab,g,c.ae,v.a7,v.au⟩
def HK(g a u:Int)(c:Ag):List Ai:=(c.al.filter (BB a u)).map (Fc g c)
def EM(g a u:Int)(l:List Ag):List Ai:=l.flatMap (HK g a u)
theorem cA(g a u:Int)(c:Ag):(HK g a u c).length<=c.al.length:=by unfold HK;rw[List.length_map];exact List.length_filter_le _ _
theorem V8{g a u:Int}:∀{l:List Ag},(∀c∈l,c.al.length<=16)->(EM g a u l).length<=16*l.length
 | [],_=>by simp[EM]
 |c::l,h=>by have h1:=cA g a u c;have h2:=h c (by simp);have h3:=V8 (g:=g) (a:=a) (u:=u) (l:=l) λc hc=>h c (by simp[hc]);unfold EM at*;rw[List.flatMap_cons,AE,AR];omega
def Xp(l:List Ag):Prop:=l.length<=24/\ ∀c∈l,c.al.length<=16
theorem cN{α β:Type}(p:α->Bool)(f:α->β):∀(xs:List α) (a:List β),xs.foldl (λa x=>if p x=true then a++ [f x]else a) a=a++(xs.filter p).map f
 | [],a=>by simp
 |x::xs,a=>by
  rw[List.foldl_cons,cN p f xs];by_cases h:p x=true
  ·rw[if_pos h,List.filter_cons_of_pos h];simp
  ·rw[if_neg h,List.filter_cons_of_neg h]
theorem nF{α β:Type}(f:α->List β):∀(xs:List α) (a:List β),xs.foldl (λa x=>a++f x) a=a++xs.flatMap f
 | [],a=>by simp
 |x::xs,a=>by rw[List.foldl_cons,nF f xs,List.flatMap_cons,List.append_assoc]
theorem zvi{s:Am}{g a u:Int}(h:Xp s.aj):SI s g a u=some (Ej (EM g a u s.aj).toArray).toList:=by
 obtain⟨h1,h2⟩:=h;unfold SI;rw[show((0:Int),([]:List Ai))=(λ(i:Nat) (a:List Ai)=>((i:Int),a)) 0 []from rfl,WB (xs:=s.aj) (λ(i:Nat) (a:List Ai)=>((i:Int),a)) (λacc c=>acc++HK g a u c) ZZ (λi acc=>acc.length<=16*i) (λi acc hi ha=> ?_) (λacc ha=>by simp[UW]) [] (by simp),nF,List.nil_append]
 ·unfold ZZ PC;have hl:(EM g a u s.aj).length<=400:=Nat.le_trans (V8 h2) (by omega);rw[A8 ⟨rfl,rfl,by show(EM g a u s.aj).length<_;omega⟩];rfl
 ·have hv:=h2 _ (AO hi);refine⟨?_,by rw[AE];have:=cA g a u s.aj[i];omega⟩;show UW s g a u (i:Int) acc=_;unfold UW;rw[if_pos (by simpa using hi),AW hi,Aa];rw[show((0:Int),acc)=(λ(i:Nat) (a:List Ai)=>((i:Int),a)) 0 acc from rfl,WB (xs:=s.aj[i].al) (λ(i:Nat) (a:List Ai)=>((i:Int),a)) (λacc v=>if BB a u v=true then acc++ [Fc g s.aj[i] v]else acc) (λacc=>Z2 (i:Int) acc) (λk acc=>acc.length<=16*i+k) (λk acc hk hb=> ?_) (λacc hb=>by simp[U5]) acc (by omega),cN]
  ·unfold Z2;rw[D9 hi (by omega)];rfl
  ·have e:U5 g a u (i:Int) s.aj[i] (k:Int) acc=some (.inl (((k+1:Nat):Int),if BB a u s.aj[i].al[k]=true then acc++ [Fc g s.aj[i] s.aj[i].al[k]]else acc)):=by
    unfold U5;rw[if_pos (by simpa using hk),AW hk,Aa,D9 hk (by omega)];unfold BB;by_cases hp:(decide (s.aj[i].al[k].ab>a)&&decide (s.aj[i].al[k].ab<=u))=true
    ·rw[if_pos hp,if_pos hp,A8 (by simp;omega)];rfl
    ·rw[if_neg hp,if_neg hp]
   refine⟨e,?_⟩;split
   ·simp;omega
   ·omega
def EW(l:List Ai)(x:Ai):List Ai:=
 if h:AM (λy=>ahead y x) l<l.length then(if ahead x l[AM (λy=>ahead y x) l]=true then l.take (AM (λy=>ahead y x) l)++ [x]++l.drop (AM (λy=>ahead y x) l)else l)else l++ [x]
theorem pN(l:List Ai)(x:Ai):(EW l x).length<=l.length+1:=by
 unfold EW;split
 ·split
  ·simp;omega
  ·omega
 ·simp
theorem w7{l:List Ai}{x:Ai}(h:l.length<=2000000):∃b,L2 l x=some (EW l x,b):=by
 unfold L2;rw[dR (xs:=l) (body:=λs:Int=>KF l x s) (λy=>ahead y x) (Pt l x) (λi hi=>by show KF l x (i:Int)=_;unfold KF;rw[if_pos (by simpa using hi),AW hi,Aa,Te,Aa,D9 hi (by omega)];cases ahead l[i] x<;>rfl) (by simp[KF])]
 have hp:=KT (λy=>ahead y x) l;unfold EW;generalize AM (λy=>ahead y x) l=p at hp;have w1:AF l 0 (p:Int)=l.take p:=by simp[AF]
 have w2:AF l (p:Int) (l.length:Int)=l.drop p:=by simp[AF]
 have l1:(l.take p).length=p:=by rw[Ax];omega
 have l2:(l.drop p).length=l.length-p:=by rw[BU]
 unfold Pt;rw[w1,w2];by_cases hl:p<l.length
 ·rw[if_pos (by simpa using hl),AW hl,Aa,Te,Aa,dif_pos hl];cases ahead x l[p]with
  |false=>exact⟨_,rfl⟩
  |true=>rw[if_neg (by simp),if_pos rfl,A8 (by omega),A8 (by rw[l1];simp;omega),A8 (by rw[l1];simp;omega),A8 (by omega),A8 (by rw[AE,l1,l2];simp;omega)];exact⟨_,rfl⟩
 ·have e:p=l.length:=by omega
  rw[if_neg (by simpa using hl),dif_neg hl,A8 (by omega),A8 (by rw[l1];simp;omega),A8 (by rw[l1];simp;omega),A8 (by omega),A8 (by rw[AE,l1,l2];simp;omega)];subst e;exact⟨true,by simp⟩
theorem nL(p:B8->Bool)(f:B8->Ai):∀(xs:List B8) (a:List Ai),xs.foldl (λa x=>if p x=true then EW a (f x)else a) a=((xs.filter p).map f).foldl EW a
 | [],a=>by simp
 |x::xs,a=>by
  rw[List.foldl_cons,nL p f xs];by_cases h:p x=true
  ·rw[if_pos h,List.filter_cons_of_pos h];simp
  ·rw[if_neg h,List.filter_cons_of_neg h]
theorem mX{α β σ:Type}(f:α->List β)(g:σ->β->σ):∀(xs:List α) (a:σ),xs.foldl (λa x=>(f x).foldl g a) a=(xs.flatMap f).foldl g a
 | [],a=>by simp
 |x::xs,a=>by rw[List.foldl_cons,mX f g xs,List.flatMap_cons,List.foldl_append]
theorem oX:∀(xs l:List Ai),(xs.foldl EW l).length<=l.length+xs.length
 | [],l=>by simp
 |x::xs,l=>by have h1:=oX xs (EW l x);have h2:=pN l x;rw[List.foldl_cons,AR];omega
theorem zyt{l:List Ag}{g a u:Int}(h:Xp l):SL l g a u=some ((EM g a u l).foldl EW []):=by
 obtain⟨h1,h2⟩:=h;unfold SL;rw[show(([]:List Ai),(0:Int))=(λ(i:Nat) (a:List Ai)=>(a,(i:Int))) 0 []from rfl,WB (xs:=l) (λ(i:Nat) (a:List Ai)=>(a,(i:Int))) (λacc c=>(HK g a u c).foldl EW acc) (λacc=>some acc) (λi acc=>acc.length<=16*i) (λi acc hi ha=> ?_) (λacc ha=>by simp[VG]) [] (by simp),mX]
 ·rfl
 ·have hv:=h2 _ (AO hi);refine⟨?_,by have:=oX (HK g a u l[i]) acc;have:=cA g a u l[i];omega⟩;show VG l g a u acc (i:Int)=_;unfold VG;rw[if_pos (by simpa using hi)];rw[show(acc,(0:Int))=(λ(i:Nat) (a:List Ai)=>(a,(i:Int))) 0 acc from rfl,WB (xs:=l[i].al) (λ(i:Nat) (a:List Ai)=>(a,(i:Int))) (λacc v=>if BB a u v=true then EW acc (Fc g l[i] v)else acc) (λacc=>Z5 (i:Int) acc) (λk acc=>acc.length<=16*i+k) (λk acc hk hb=> ?_) (λacc hb=>by simp[VF,AW hi]) acc (by omega),nL]
  ·unfold Z5;rw[D9 hi (by omega)];rfl
  ·have e:VF l g a u (i:Int) acc (k:Int)=some (.inl ((if BB a u l[i].al[k]=true then EW acc (Fc g l[i] l[i].al[k])else acc),((k+1:Nat):Int))):=by
    unfold VF;rw[AW hi,Aa,if_pos (by simpa using hk),AW hk,Aa,D9 hk (by omega)];unfold BB;obtain⟨b,BS⟩:=w7 (l:=acc) (x:=Fc g l[i] l[i].al[k]) (by omega);by_cases hp:(decide (l[i].al[k].ab>a)&&decide (l[i].al[k].ab<=u))=true
    ·rw[if_pos hp,if_pos hp];show(L2 acc (Fc g l[i] l[i].al[k])).bind _=_;rw[BS];rfl
    ·rw[if_neg hp,if_neg hp]
   refine⟨e,?_⟩;split
   ·have:=pN acc (Fc g l[i] l[i].al[k]);omega
   ·omega
def J6(a b:Ai):Prop:=ahead a b=true\/ahead b a=true
theorem J6.symm{a b:Ai}(h:J6 a b):J6 b a:=Or.symm h
theorem zuK(a b:Ai):ahead a b=Fx a b:=rfl
theorem zuS{l:List Ai}{x:Ai}(hl:l.Pairwise λa b=>ahead a b=true)(hx:∀y∈l,J6 x y):((EW l x).Pairwise λa b=>ahead a b=true)/\(EW l x).Perm (x::l):=by
 have e:EW l x=l.take (AM (λy=>ahead y x) l)++x::l.drop (AM (λy=>ahead y x) l):=by
  unfold EW;split
  ·rename_i h;have h1:=Qc h;have h2:ahead x l[AM (λy=>ahead y x) l]=true:=by
    rcases hx _ (AO h)with h3|h3
    ·exact h3
    ·have h1:ahead l[AM (λy=>ahead y x) l] x=false:=h1;rw[h1]at h3;cases h3
   rw[if_pos h2];simp
  ·rename_i h;have:=KT (λy=>ahead y x) l;have e:AM (λy=>ahead y x) l=l.length:=by omega
   rw[e];simp
 rw[e];have hd:l=l.take (AM (λy=>ahead y x) l)++l.drop (AM (λy=>ahead y x) l):=(BC _ _).symm;have h1:∀y∈l.take (AM (λy=>ahead y x) l),ahead y x=true:=by intro y hy;obtain⟨i,hi,rfl⟩:=List.getElem_of_mem hy;rw[List.getElem_take];exact N5 (lt:=λy=>ahead y x) (l:=l) (i:=i) (by rw[Ax]at hi;omega)
 have h2:∀y∈l.drop (AM (λy=>ahead y x) l),ahead x y=true:=by
  intro y hy;by_cases hp:AM (λy=>ahead y x) l<l.length
  ·have h3:=Qc hp;rw[Be hp]at hy;have H0:=hl;rw[hd]at H0;have H0:=(List.pairwise_append.1 H0).2.1;rw[Be hp]at H0;have H0:=List.pairwise_cons.1 H0;have h4:ahead x l[AM (λy=>ahead y x) l]=true:=by
    rcases hx _ (AO hp)with h|h
    ·exact h
    ·have h3:ahead l[AM (λy=>ahead y x) l] x=false:=h3;rw[h3]at h;cases h
   rcases Ad.1 hy with rfl|hy
   ·exact h4
   ·exact bB h4 (H0.1 y hy)
  ·rw[List.drop_eq_nil_of_le (by omega)]at hy;cases hy
 refine⟨?_,?_⟩
 ·have Bz:=hl;rw[hd]at Bz;obtain⟨a1,a2,a3⟩:=List.pairwise_append.1 Bz;refine List.pairwise_append.2 ⟨a1,List.pairwise_cons.2 ⟨h2,a2⟩,λy hy z hz=> ?_⟩;rcases Ad.1 hz with rfl|hz
  ·exact h1 y hy
  ·exact a3 y hy z hz
 ·refine List.perm_middle.trans ?_;rw[BC]
theorem mJ:∀(xs l:List Ai),(l.Pairwise λa b=>ahead a b=true)->xs.Pairwise J6->(∀x∈xs,∀y∈l,J6 x y)->((xs.foldl EW l).Pairwise λa b=>ahead a b=true)/\(xs.foldl EW l).Perm (xs++l)
 | [],l,h,_,_=>⟨h,List.Perm.refl _⟩
 |x::xs,l,h,hp,hr=>by
  have hp:=List.pairwise_cons.1 hp;obtain⟨h1,h2⟩:=zuS h (hr x (by simp));obtain⟨h3,h4⟩:=mJ xs (EW l x) h1 hp.2 (λz hz y hy=>by
   rcases Ad.1 (h2.mem_iff.1 hy)with rfl|hy
   ·exact(hp.1 z hz).symm
   ·exact hr z (by simp[hz]) y hy)
  exact⟨h3,h4.trans ((List.Perm.append_left xs h2).trans List.perm_middle)⟩
theorem Wa:∀{a b:List Ai},(a.Pairwise λx y=>ahead x y=true)->(b.Pairwise λx y=>ahead x y=true)->a.Perm b->a=b
 | [],b,_,_,h=>by rw[h.nil_eq]
 |x::a,[],_,_,h=>by have:=h.length_eq;simp at this
 |x::a,y::b,ha,hb,h=>by
  have gP:=List.pairwise_cons.1 ha;have BS:=List.pairwise_cons.1 hb;have e:x=y:=by
   rcases Ad.1 (h.mem_iff.1 (List.mem_cons_self ..))with h1|h1
   ·exact h1
   ·rcases Ad.1 (h.mem_iff.2 (List.mem_cons_self ..))with h2|h2
    ·exact h2.symm
    ·have:=bB (gP.1 y h2) (BS.1 x h1);rw[zq8]at this;cases this
  subst e;rw[Wa gP.2 BS.2 (List.Perm.cons_inv h)]
theorem G5{l:List Ai}(h:l.Pairwise J6):((Ej l.toArray).toList.Pairwise λa b=>ahead a b=true)/\(Ej l.toArray).toList.Perm l:=by
 obtain⟨h1,h2,h3⟩:=nX l.toArray;have hp:(Ej l.toArray).toList.Perm l:=by simpa using h1
 refine⟨?_,hp⟩;have hr:(Ej l.toArray).toList.Pairwise J6:=(hp.pairwise_iff (λ{a b} h=>J6.symm h)).2 h;rw[List.pairwise_iff_getElem]at hr ⊢;intro i j hi hj Fv;rcases hr i j hi hj Fv with q|q
 ·exact q
 ·have hs:(Ej l.toArray).size=l.length:=by simpa using h2
  have H4:i<(Ej l.toArray).size:=by simpa using hi
  have H5:j<(Ej l.toArray).size:=by simpa using hj
  have:=h3 i j (Nat.zero_le _) Fv (by simpa[hs]using H5);rw[Wv,getElem!_pos _ j H5,getElem!_pos _ i H4]at this;rw[zuK]at q;simp only[Array.getElem_toList]at q;rw[this]at q;cases q
theorem Tz{l:List Ag}(h:Ck l=true):Xp l:=by unfold Ck at h;simp only[Ab,Aq,A7]at h;refine⟨by omega,λc hc=> ?_⟩;have:=h.2.1 c hc;unfold EV FV at this;simp only[Ab]at this;have:=Ij.1 this.2.1;omega
theorem HE{g a u:Int}{l:List Ag}(h:Ck l=true):(EM g a u l).Pairwise J6:=by
 unfold Ck at h;simp only[Ab,Aq,A7]at h;obtain⟨_,h2,h3⟩:=h;have h3:=(L7 (r:=Oc) (λa b c h k=>Fz h k)).1 h3;unfold EM;rw[List.pairwise_flatMap];refine⟨λc hc=> ?_,h3.imp λ{c d} XW x hx y hy=> ?_⟩
 ·have:=h2 c hc;unfold EV FV at this;simp only[Ab]at this;have hv:=(L7 (r:=HM) (λa b c h k=>by unfold HM at*;simp only[Aq]at*;omega)).1 this.2.2.2;unfold HK;rw[List.pairwise_map];refine(hv.filter _).imp λ{x y} Fw=> ?_;unfold HM at Fw;rcases WL (Fc g c x) (Fc g c y)with q|q|q
  ·exact .inl q
  ·exact .inr q
  ·have q1:x.ab=y.ab:=q.1;simp only[Aq]at Fw;omega
 ·unfold HK at hx hy;obtain⟨v,_,rfl⟩:=List.mem_map.1 hx;obtain⟨w,_,rfl⟩:=List.mem_map.1 hy;rcases WL (Fc g c v) (Fc g d w)with q|q|q
  ·exact .inl q
  ·exact .inr q
  ·exact absurd q.2.2 (GL XW)
theorem zuo{g a u:Int}{l:List Ag}(h:Ck l=true):(EM g a u l).foldl EW []=(Ej (EM g a u l).toArray).toList:=by have hr:=HE (g:=g) (a:=a) (u:=u) h;obtain⟨h1,h2⟩:=mJ (EM g a u l) [] .nil hr (by simp);obtain⟨h3,h4⟩:=G5 hr;exact Wa h1 h3 ((by simpa using h2:((EM g a u l).foldl EW []).Perm (EM g a u l)).trans h4.symm)
def CF(g a u:Int)(l:List Ag):List Ai:=(Ej (EM g a u l).toArray).toList
theorem lR{g a u:Int}{l:List Ag}(h:Me l)(hg:Ck l=true):Qj (CF g a u l):=by obtain⟨_,h4⟩:=G5 (HE (g:=g) (a:=a) (u:=u) hg);have hf:=Tz hg;have hl:=V8 (g:=g) (a:=a) (u:=u) hf.2;have:=hf.1;refine⟨by unfold CF;rw[h4.length_eq];omega,λx hx=> ?_⟩;have hx:=h4.mem_iff.1 hx;obtain⟨c,hc,hx⟩:=List.mem_flatMap.1 hx;unfold HK at hx;obtain⟨v,hv,rfl⟩:=List.mem_map.1 hx;have:=h.2 c hc;exact⟨this.1,this.2.2 v (List.mem_filter.1 hv).1⟩
theorem mU{α:Type}(p q r:α->Bool)(Ng:∀x,r x=(p x||q x))(hd:∀x,¬(p x=true/\q x=true)):∀l:List α,(l.filter p++l.filter q).Perm (l.filter r)
 | []=>by simp
 |x::l=>by
  have ih:=mU p q r Ng hd l;rw[List.filter_cons,List.filter_cons,List.filter_cons,Ng];cases hp:p x with
  |true=>
   cases hq:q x with
   |true=>exact absurd ⟨hp,hq⟩ (hd x)
   |false=>simpa using ih
  |false=>
   cases hq:q x with
   |true=>simpa using List.perm_middle.trans (List.Perm.cons _ ih)
   |false=>simpa using ih
theorem ztR{a m u:Int}(h1:a<=m)(h2:m<=u)(v:B8):BB a u v=(BB a m v||BB m u v):=by unfold BB;rw[Bool.eq_iff_iff];simp only[Ab,Bool.or_eq_true,Aq];omega
theorem mG{g a m u:Int}(h1:a<=m)(h2:m<=u):∀l:List Ag,(EM g a m l++EM g m u l).Perm (EM g a u l)
 | []=>by simp[EM]
 |c::l=>by
  have ih:=mG (g:=g) h1 h2 l;have hc:(HK g a m c++HK g m u c).Perm (HK g a u c):=by
   unfold HK;rw[<-List.map_append];exact(mU _ _ _ (ztR h1 h2) (λv h=>by unfold BB at h;simp only[Ab,Aq]at h;omega) c.al).map _
  unfold EM at*;rw[List.flatMap_cons,List.flatMap_cons,List.flatMap_cons];refine List.Perm.trans ?_ (hc.append ih);rw[List.append_assoc,List.append_assoc];refine List.Perm.append_left _ ?_;rw[<-List.append_assoc,<-List.append_assoc];exact List.Perm.append_right _ List.perm_append_comm
theorem PN{g a u:Int}{l:List Ag}{x:Ai}(h:x∈EM g a u l):a<x.ab/\x.ab<=u/\x.aq=g:=by obtain⟨c,_,hx⟩:=List.mem_flatMap.1 h;obtain⟨v,hv,rfl⟩:=List.mem_map.1 hx;have:=(List.mem_filter.1 hv).2;unfold BB at this;simp only[Ab,Aq]at this;exact⟨this.1,this.2,rfl⟩
theorem zt8{g a m u:Int}{l:List Ag}(h:Ck l=true)(h1:a<=m)(h2:m<=u):CF g a m l++CF g m u l=CF g a u l:=by obtain⟨p1,q1⟩:=G5 (HE (g:=g) (a:=a) (u:=m) h);obtain⟨p2,q2⟩:=G5 (HE (g:=g) (a:=m) (u:=u) h);obtain⟨p3,q3⟩:=G5 (HE (g:=g) (a:=a) (u:=u) h);refine Wa (List.pairwise_append.2 ⟨p1,p2,λx hx y hy=> ?_⟩) p3 ((q1.append q2).trans ((mG h1 h2 l).trans q3.symm));have e1:=PN (q1.mem_iff.1 hx);have e2:=PN (q2.mem_iff.1 hy);unfold ahead;rw[if_pos (show x.ab≠y.ab by omega)];simp only[Aq];omega
end
section
open Go.RowKit
set_option maxRecDepth 100000
set_option maxHeartbeats 1000000
def D8{α:Type}(o:Option α)(Q:α->Prop):Prop:= ∃x,o=some x/\Q x
section
variable {α β σ:Type} {Q:β->Prop}
theorem D8.bind{o:Option α}{P:α->Prop}{f:α->Option β}(h:D8 o P)(hf:∀x,P x->D8 (f x) Q):D8 (o.bind f) Q:=by obtain⟨x,rfl,hx⟩:=h;exact hf x hx
theorem D8.ret{x:β}(h:Q x):D8 (some x) Q:=⟨x,rfl,h⟩
theorem D8.ite{b:Bool}{A B:Option β}(ha:b=true->D8 A Q)(hb:b=false->D8 B Q):D8 (if b=true then A else B) Q:=by
 cases b with
 |true=>simpa using ha rfl
 |false=>simpa using hb rfl
theorem D8.req{p:Prop}[Decidable p]{k:Option β}(hp:p)(hk:D8 k Q):D8 (req p k) Q:=by rw[A8 hp];exact hk
theorem D8.mono{o:Option β}{P:β->Prop}(h:D8 o P)(tR:∀x,P x->Q x):D8 o Q:=by obtain⟨x,hx,h⟩:=h;exact⟨x,hx,tR x h⟩
theorem D8.getI{xs:List β}{i:Int}(h0:0<=i)(h:i<xs.length)(hq:∀x,x∈xs->Q x):D8 (getI xs i) Q:=by obtain⟨x,h1,h2,_⟩:=rO h0 h;exact⟨x,h1,hq x h2⟩
theorem ztJ{body:σ->Option (σ ⊕ Option β)}(I:Nat->σ->Prop)(h:∀n s,I n s->D8 (body s) λo=>match o with| .inl s'=> ∃m,m<n/\I m s'| .inr q=>D8 q Q):∀{n:Nat} {s:σ},I n s->D8 (AG body s) Q:=by
 intro n
 induction n using Nat.strongRecOn with
 |_ n ih=>
  intro s hI;obtain⟨o,ho,h2⟩:=h n s hI;rw[Eh,ho]
  match o,h2 with
  | .inl s',⟨m,hm,Xz⟩=>exact ih m hm Xz
  | .inr q,hq=>exact hq
end
structure xB where
 mi:List Int->Prop
 mh:∀l,mi l-> ∀b∈l,0<=b/\b<=255
instance codeBytes:Inhabited xB:=⟨⟨λl=> ∀b∈l,0<=b/\b<=255,λ_ h=>h⟩⟩
theorem dM(a:Int):L0 a=some (Bq a 1 100000):=rfl
theorem eE(a:Int):JE a=some (Bq a 1 100000):=rfl
theorem rT(a:Int):NK a=some (Bq a 1 60):=rfl
def TF(ks:List Az):Prop:=ks.length<=2000000/\ ∀k∈ks,k.length<=2000000
def Oe(ks:List Az):Bool:=ks.all CZ&&Mh ks
theorem zuW{ks:List Az}(h:TF ks):NC ks=some (Oe ks):=bE h.1 h.2
theorem zu6{ks:List Az}{body:Int->Option (Int ⊕ Option Bool)}{fin:Option Bool}(h:TF ks)(h0:∀(hi:0<ks.length),body 0=some (if CZ ks[0]=true then .inl 1 else .inr (some false)))
  (hs:∀(i:Nat) (hi:i<ks.length) (hp:0<i),body i=some (if(CZ ks[i]&&Op.bytesLess ks[i-1] ks[i])=true then .inl ((i+1:Nat):Int)else .inr (some false))) (he:body ks.length=some (.inr fin)):AG body 0=if Oe ks=true then fin else some false:=by
 rw[NR (n:=ks.length) (λi=>CZ ((ks[i]?).getD [])&&GF ks i) false fin ?_ he,eS ks CZ (GF ks) _ λi hi=>by simp[hi]]
 ·rfl
 ·intro i hi;by_cases hz:i=0
  ·subst hz;show body 0=_;rw[h0 hi];simp[hi,GF]
  ·have Kp:i-1<ks.length:=by omega
   have hb:(i==0)=false:=by simpa using hz
   rw[hs i hi (Nat.pos_of_ne_zero hz)];simp only[BH hi,BH Kp,CR,GF,hb,Bool.false_or]
theorem zxz{ks:List Az}(h:TF ks):VP ks=some (Oe ks&&decide ((ks.length:Int)<=8)):=by
 have hn:=h.1;unfold VP;rw[zu6 (body:=λs:Int=>Pr ks s) (fin:=aA ks) h (λhi=>by
  simp only[Pr,hi,decide_true,if_true,show((0:Int)<(ks.length:Int))from by omega,show getI ks 0=some ks[0]from AW hi,Aa,Xc (h.2 _ (AO hi))];cases CZ ks[0]<;>rfl) (λi hi hp=>by
  have Kp:i-1<ks.length:=by omega
  have YK:(i:Int)>0:=by omega
  simp only[Pr,Int.ofNat_lt,hi,YK,decide_true,if_true,AW hi,Aa,Xc (h.2 _ (AO hi)),D9 hi (by omega:ks.length<=_),KS hp (by omega:i<=2000000),AW Kp];cases CZ ks[i]<;>cases Op.bytesLess ks[i-1] ks[i]<;>rfl) (by
  show Pr ks ks.length=_;unfold Pr;rw[if_neg (by simp)])]
 unfold aA;cases Oe ks<;>rfl
structure KP(r:Bj):Prop where
 reads:TF r.ao
 writes:JV r.af
def Eg(r:Bj):Bool:=
 if r.a8=1 then Bq r.ay 1 60&&(Bq r.ab 1 100000&&(Bq r.bp 0 3&&(Oe r.ao&&(decide ((r.ao.length:Int)<=8)&&(HA r.af&&(decide ((r.af.length:Int)<=8)&&(decide ((r.ao.length:Int)+(r.af.length:Int)>0)&& !r.cq)))))))
 else(r.bp==0)&&(((r.ao.length:Int)==0)&&(((r.af.length:Int)==0)&&(
  if r.a8=2\/r.a8=3 then Bq r.ay 1 60&&(if r.cq=true then Bq r.ab 1 100000 else r.ab==0)
  else if r.a8=4 then(r.ay==0)&&(Bq r.ab 1 100000&& !r.cq)else false)))
theorem zyJ{r:Bj}(h:KP r):Vs r=some (Eg r):=by
 have h1:=h.reads.1;have h2:=h.writes.1;have w:IntKind.i64.wrap ((r.ao.length:Int)+(r.af.length:Int))=(r.ao.length:Int)+(r.af.length:Int):=CS (by omega) (by omega);have hj:∀b:Bool,r.a8≠1->(b=true↔(r.a8=2\/r.a8=3))->U4 r b=some (Eg r):=by
  intro b k hb;unfold U4 Eg;rw[if_neg k];cases b with
  |true=>rw[if_pos rfl,if_pos (show r.a8=2\/r.a8=3 from hb.1 rfl)];simp only[rT,eE,Aa];cases(r.bp==0)<;>cases((r.ao.length:Int)==0)<;>cases((r.af.length:Int)==0)<;>cases Bq r.ay 1 60<;>cases r.cq<;>simp
  |false=>
   rw[if_neg (by simp),if_neg (show¬(r.a8=2\/r.a8=3)from λe=>by have:=hb.2 e;cases this)];by_cases k4:r.a8=4
   ·rw[if_pos (by simpa using k4),if_pos k4];simp only[eE,Aa];cases(r.bp==0)<;>cases((r.ao.length:Int)==0)<;>cases((r.af.length:Int)==0)<;>cases(r.ay==0)<;>simp
   ·rw[if_neg (by simpa using k4),if_neg k4];cases(r.bp==0)<;>cases((r.ao.length:Int)==0)<;>cases((r.af.length:Int)==0)<;>rfl
 unfold Vs;by_cases k1:r.a8=1
 ·rw[if_pos (by simpa using k1)];unfold Eg;rw[if_pos k1];simp only[rT,eE,KQ,Aa,zuW h.reads,oL h.writes,w];cases Bq r.ay 1 60<;>cases Bq r.ab 1 100000<;>cases Bq r.bp 0 3<;>cases decide ((r.ao.length:Int)<=8)<;>cases Oe r.ao<;>cases decide ((r.af.length:Int)<=8)<;>cases HA r.af<;>simp
 ·rw[if_neg (by simpa using k1)];by_cases k2:r.a8=2
  ·rw[if_pos (by simpa using k2)];exact hj _ k1 (by simp[k2])
  ·rw[if_neg (by simpa using k2)];exact hj _ k1 (by simp[k2])
theorem zyy{r:Bj}(h:KP r):((NN r).bind λv1=>some v1)=some (Eg r):=by
 have h1:=h.reads.1;have h2:=h.writes.1;have w:IntKind.i64.wrap ((r.ao.length:Int)+(r.af.length:Int))=(r.ao.length:Int)+(r.af.length:Int):=CS (by omega) (by omega);have hj:∀b:Bool,r.a8≠1->r.bp=0->(r.ao.length:Int)=0->(r.af.length:Int)=0->(b=true↔(r.a8=2\/r.a8=3))->Vm r b=some (Eg r):=by
  intro b k e1 e2 e3 hb;unfold Vm Eg;rw[if_neg k,show(r.bp==0)=true by simpa using e1,show((r.ao.length:Int)==0)=true by simpa using e2,show((r.af.length:Int)==0)=true by simpa using e3];cases b with
  |true=>rw[if_pos rfl,if_pos (show r.a8=2\/r.a8=3 from hb.1 rfl)];simp only[Md,dM,Aa];cases Bq r.ay 1 60<;>cases r.cq<;>simp
  |false=>
   rw[if_neg (by simp),if_neg (show¬(r.a8=2\/r.a8=3)from λe=>by have:=hb.2 e;cases this)];by_cases k4:r.a8=4
   ·rw[if_pos (by simpa using k4),if_pos k4];simp only[dM,Aa];cases(r.ay==0)<;>simp
   ·rw[if_neg (by simpa using k4),if_neg k4];rfl
 have Cc:Bq (r.af.length:Int) 0 8=decide ((r.af.length:Int)<=8):=by unfold Bq;rw[show decide ((r.af.length:Int)>=0)=true by simp];rfl
 unfold NN;by_cases k1:r.a8=1
 ·rw[if_neg (by simp[k1]),if_pos (by simpa using k1)];unfold Eg;rw[if_pos k1];simp only[Md,dM,Aa,zxz h.reads,zvO h.writes,w,Cc];cases Bq r.ay 1 60<;>cases Bq r.ab 1 100000<;>cases Bq r.bp 0 3<;>cases decide ((r.ao.length:Int)<=8)<;>cases Oe r.ao<;>cases decide ((r.af.length:Int)<=8)<;>cases HA r.af<;>simp
 ·by_cases hz:r.bp=0/\(r.ao.length:Int)=0/\(r.af.length:Int)=0
  ·obtain⟨e1,e2,e3⟩:=hz;rw[if_neg (by rw[w];simp[e1];omega),if_neg (by simpa using k1)];by_cases k2:r.a8=2
   ·rw[if_pos (by simpa using k2),hj _ k1 e1 e2 e3 (by simp[k2]),Aa]
   ·rw[if_neg (by simpa using k2),hj _ k1 e1 e2 e3 (by simp[k2]),Aa]
  ·have hc:((r.a8 !=1)&&((r.bp !=0)||decide (IntKind.i64.wrap ((r.ao.length:Int)+(r.af.length:Int))>0)))=true:=by
    rw[w];by_cases e1:r.bp=0
    ·have:(r.ao.length:Int)+(r.af.length:Int)>0:=by
      rcases Classical.em ((r.ao.length:Int)=0)with e2|e2
      ·have e3: ¬(r.af.length:Int)=0:=λe3=>hz ⟨e1,e2,e3⟩;omega
      ·omega
     simp[k1,this]
    ·simp[k1,e1]
   rw[if_pos hc,Aa];unfold Eg;rw[if_neg k1];by_cases e1:r.bp=0
   ·by_cases e2:(r.ao.length:Int)=0
    ·have e3:((r.af.length:Int)==0)=false:=by simpa using λe3=>hz ⟨e1,e2,by simpa using e3⟩
     rw[e3];simp
    ·have e2:((r.ao.length:Int)==0)=false:=by simpa using e2
     rw[e2];simp
   ·have e1:(r.bp==0)=false:=by simpa using e1
    rw[e1];rfl
theorem rG{r:Bj}(h:KP r):NN r=some (Eg r):=by
 have e:=zyy h;cases q:NN r with
 |none=>rw[q]at e;cases e
 |some x=>rw[q]at e;exact e
theorem Jd{σ α:Type}{body:σ->Option (σ ⊕ Option α)}{s:σ}{o:Option α}(h:body s=some (.inr o)):AG body s=o:=by rw[Eh,h]
theorem L4{σ α:Type}{body:σ->Option (σ ⊕ Option α)}{s s':σ}(h:body s=some (.inl s')):AG body s=AG body s':=by rw[Eh,h]
def small(b:UInt8):Bool:= !(decide ((b.toNat:Int)<97)||decide ((b.toNat:Int)>122))
theorem zwj{xs:List Az}{s:Az}(h:xs.length<=2000000):UF xs s=some (Ea (· ==s) xs):=by unfold UF;refine qM (· ==s) (λi hi=> ?_) (by simp[Zt]);simp only[Zt,Int.ofNat_lt,hi,decide_true,if_true,AW hi,Aa,D9 hi (by omega:xs.length<=_)];rw[show(s==xs[i])=(xs[i]==s)from BEq.comm];cases xs[i]==s<;>rfl
theorem xP(xs:List Az)(s:Az):(xs.any λx=>x==s)=xs.contains s:=by rw[List.contains_eq_any_beq];congr 1;funext x;exact BEq.comm
theorem zzB{xs:List Az}{s:Az}(h:xs.length<=2000000):UI xs s=some (xs.contains s):=by simp only[UI,zwj h,Aa,qB,xP]
abbrev wk(w:Ak):Az:=w.ae
theorem JW{i:Nat}(h0:0<i)(h:i<=2000000):IntKind.i64.wrap ((i:Int)-1)=((i-1:Nat):Int):=by rw[CS (by omega) (by omega)];omega
theorem zAh{α β:Type}{xs:List α}{body:Int->Option (Int ⊕ Option β)}(p:α->Bool)(Lx:α->Option β)(fin:Option β)
  (hs:∀(i:Nat) (hi:i<xs.length),body i=some (if p xs[i]=true then .inr (Lx xs[i])else .inl ((i+1:Nat):Int))) (he:body xs.length=some (.inr fin)):
  AG body 0=match xs.find? p with|some x=>Lx x|none=>fin:=by
 have key:∀n q,q+n=xs.length->AG body (q:Nat)=match(xs.drop q).find? p with|some x=>Lx x|none=>fin:=by
  intro n
  induction n with
  |zero=>
   intro q hq;have:q=xs.length:=by omega
   subst this;rw[List.drop_length];exact Jd he
  |succ n ih=>
   intro q hq;have AL:q<xs.length:=by omega
   rw[Be AL,List.find?_cons];have h1:=hs q AL;cases hp:p xs[q]with
   |true=>rw[hp,if_pos rfl]at h1;exact Jd h1
   |false=>rw[hp,if_neg (by simp)]at h1;rw[L4 h1];exact ih (q+1) (by omega)
 have:=key xs.length 0 (by omega);rw[List.drop_zero]at this;exact this
theorem zuY{α:Type}(lt:α->Bool)(x:α)(l:List α):AM lt (x::l)=if lt x=true then AM lt l+1 else 0:=by unfold AM;rw[List.takeWhile_cons];split<;>rfl
theorem zum{x:Ak}{l:List Ak}(h:EE (x::l)):(∀y∈l,bl x.ae y.ae=true)/\EE l:=by unfold EE Da at h;rw[List.pairwise_cons]at h;exact h
theorem zvr{l:List Ak}{k:Az}(h:∀y∈l,bl k y.ae=true):l.find? (λw=>w.ae==k)=none:=by rw[List.find?_eq_none];intro y hy;have:=GL (h y hy);simpa using λe=>this e.symm
theorem nC{k:Az}:∀{l:List Ak},EE l->l.find? (λw=>w.ae==k)=match l[Ge l k]? with|some w=>if w.ae=k then some w else none|none=>none
 | [],_=>by simp
 |x::l,h=>by
  obtain⟨h1,h2⟩:=zum h;have ih:=nC (k:=k) h2;rw[Ge,zuY,List.find?_cons];by_cases hb:bl x.ae k=true
  ·have BM:(x.ae==k)=false:=by simpa using GL hb
   rw[if_pos hb,BM,List.getElem?_cons_succ];exact ih
  ·rw[if_neg hb,List.getElem?_cons_zero];by_cases he:x.ae=k
   ·rw[show(x.ae==k)=true by simpa using he];simp[he]
   ·rw[show(x.ae==k)=false by simpa using he];simp only[he,if_false];have hk:bl k x.ae=true:=PQ (by simpa using hb) he;exact zvr λy hy=>Fz hk (h1 y hy)
theorem zyX{l:List Ak}{k:Az}(hl:l.length<=2000000)(hr:EE l):∃i:Int,(Nx l k=some (i,true)/\ ∃w,getI l i=some w/\l.find? (λw=>w.ae==k)=some w)\/(Nx l k=some (i,false)/\l.find? (λw=>w.ae==k)=none):=by
 refine⟨(Ge l k:Nat),?_⟩;rw[s7 hl hr,nC hr];by_cases hp:Ge l k<l.length
 ·rw[BH hp];by_cases hk:(l[Ge l k]).ae=k
  ·left;simp only[hk,decide_true,if_true];exact⟨trivial,_,AW hp,rfl⟩
  ·right;simp only[hk,decide_false,if_false];exact⟨trivial,trivial⟩
 ·rw[List.getElem?_eq_none (by omega)];right;exact⟨rfl,rfl⟩
section
variable {α:Type} {key:α->Int}
def FE(key:α->Int)(x:α):List α->List α
 | []=> [x]
 |y::l=>if key x<key y then x::y::l else y::FE key x l
def Dh(key:α->Int)(l:List α):Prop:=l.Pairwise λa b=>key a<key b
def B6(key:α->Int)(t:Int)(y:α):Bool:=decide (key y<t)
theorem SX(lt:α->Bool)(x:α)(l:List α):AM lt (x::l)=if lt x=true then AM lt l+1 else 0:=by unfold AM;rw[List.takeWhile_cons];split<;>rfl
theorem pC{x:α}:∀{l:List α},(∀y∈l,key y≠key x)->FE key x l=l.take (AM (B6 key (key x)) l)++ [x]++l.drop (AM (B6 key (key x)) l)
 | [],_=>by simp[FE,AM]
 |y::l,h=>by
  have ih:=pC (x:=x) (l:=l) λz hz=>h z (by simp[hz]);have hy:=h y (by simp);rw[SX,FE];by_cases hb:key x<key y
  ·have e:B6 key (key x) y=false:=by unfold B6;simp;omega
   rw[if_pos hb,e];simp
  ·have e:B6 key (key x) y=true:=by unfold B6;simp;omega
   rw[if_neg hb,e,if_pos rfl,ih];simp
theorem Tb{x z:α}:∀{l:List α},z∈FE key x l↔z=x\/z∈l
 | []=>by simp[FE]
 |y::l=>by
  rw[FE];split
  ·simp
  ·rw[Ad,Tb,Ad];constructor
   ·rintro(h|h|h)<;>simp[h]
   ·rintro(h|h|h)<;>simp[h]
theorem pK{x:α}:∀(l:List α),(FE key x l).length=l.length+1
 | []=>rfl
 |y::l=>by
  rw[FE];split
  ·rfl
  ·simp[pK l]
theorem Dh.ins{x:α}:∀{l:List α},Dh key l->(∀y∈l,key y≠key x)->Dh key (FE key x l)
 | [],_,_=>by simp[FE,Dh]
 |y::l,h,hx=>by
  obtain⟨h1,h2⟩:=List.pairwise_cons.1 h;rw[FE];split
  ·rename_i hb;refine List.pairwise_cons.2 ⟨λz hz=> ?_,h⟩;rcases Ad.1 hz with rfl|hz
   ·exact hb
   ·have:=h1 z hz;omega
  ·rename_i hb;refine List.pairwise_cons.2 ⟨λz hz=> ?_,Dh.ins h2 λz hz=>hx z (by simp[hz])⟩;have hy:=hx y (by simp);rcases Tb.1 hz with rfl|hz
   ·omega
   ·exact h1 z hz
theorem Dh.filter{l:List α}(h:Dh key l)(p:α->Bool):Dh key (l.filter p):=List.Pairwise.filter p h
theorem Dh.tail{x:α}{l:List α}(h:Dh key (x::l)):Dh key l:=(List.pairwise_cons.1 h).2
theorem Dh.mono{l:List α}(h:Dh key l){i j:Nat}(hj:j<l.length)(hi:i<j):key l[i]<key l[j]:=List.pairwise_iff_getElem.1 h i j (by omega) hj hi
theorem lN{t:Int}:∀{l:List α},Dh key l->l.find? (λy=>key y==t)=match l[AM (B6 key t) l]? with|some y=>if key y=t then some y else none|none=>none
 | [],_=>by simp
 |x::l,h=>by
  obtain⟨h1,h2⟩:=List.pairwise_cons.1 h;have ih:=lN (t:=t) h2;rw[SX,List.find?_cons];by_cases hb:key x<t
  ·have e:B6 key t x=true:=by unfold B6;simpa using hb
   have BM:(key x==t)=false:=by simp;omega
   rw[e,if_pos rfl,BM,List.getElem?_cons_succ];exact ih
  ·have e:B6 key t x=false:=by unfold B6;simpa using hb
   rw[e,if_neg (by simp),List.getElem?_cons_zero];by_cases he:key x=t
   ·rw[show(key x==t)=true by simpa using he];simp[he]
   ·rw[show(key x==t)=false by simpa using he];simp only[he,if_false];rw[List.find?_eq_none];intro y hy;have:=h1 y hy;simp;omega
theorem ztq{t:Int}{l:List α}(h:Dh key l):∀i j (hj:j<l.length) (hi:i<=j),B6 key t l[j]=true->B6 key t l[i]=true:=by
 intro i j hj hi AL;unfold B6 at AL ⊢;simp only[Aq]at AL ⊢;by_cases he:i=j
 ·subst he;exact AL
 ·have:=h.mono hj (show i<j by omega);omega
theorem Dh.len{lo hi:Int}:∀{l:List α},Dh key l->(∀y∈l,lo<=key y/\key y<=hi)->(l.length:Int)<=max 0 (hi-lo+1)
 | [],_,_=>by simp;omega
 |x::l,h,hb=>by
  obtain⟨h1,h2⟩:=List.pairwise_cons.1 h;have hx:=hb x (by simp);have:=Dh.len (lo:=key x+1) (hi:=hi) h2 λy hy=>⟨by have:=h1 y hy;omega,(hb y (by simp[hy])).2⟩
  rw[AR];omega
end
abbrev ck(c:Ag):Az:=c.ae
abbrev HW(l:List Ag):Prop:=Da ck l
def Gg(l:List Ag)(k:Az):Option Ag:=l.find? λc=>c.ae==k
def fI(c:Ag):Int:=match c.al.getLast? with|some v=>v.ab|none=>0
def D7(l:List Ag)(k:Az):Int:=match Gg l k with|some c=>fI c|none=>0
def K4(l:List Ag)(k:Az):List B8:=match Gg l k with|some c=>c.al|none=> []
def Iu(l:List Ag)(k:Az)(v:B8):List Ag:=Dv ck ⟨k,K4 l k++ [v]⟩ l
def J2(t:Int)(l:List Ag)(w:Ak):Option (List Ag):=if t<=D7 l w.ae then none else some (Iu l w.ae ⟨t,w.a7,w.au⟩)
def Jp(t:Int)(l:List Ag)(ws:List Ak):Option (List Ag):=ws.foldlM (J2 t) l
def QJ(l:List Ag)(ws:List Ak)(t:Int):Option (List Ag):=match Jp t l ws with|some o=>if Ck o=true then some o else none|none=>none
abbrev hk(h:AU):Int:=h.ay
abbrev tk(t:CH):Int:=t.ay
def Fp(s:Am)(t:Int):Option AU:=s.ah.find? λh=>hk h==t
def JQ(s:Am)(t:Int):Option CH:=s.az.find? λh=>tk h==t
def HR(h:AU):Bj:={a8:=1,ay:=h.ay,ab:=h.ab,bp:=h.bp,ao:=h.ao,af:=h.af,cq:=false}
def HN(ws:List Ak)(k:Az):Bool:=ws.any λw=>w.ae==k
def CK(ws:List Ak)(rs:List Az)(os:List Ak):Bool:=ws.any λw=>HN os w.ae||rs.contains w.ae
def Fq(h:AU)(rs:List Az)(ws:List Ak):Bool:=CK h.af rs ws||CK ws h.ao h.af
theorem zyo{a b:Int}:decide (Mr a b<0)=decide (a<b):=by
 unfold Mr;by_cases h:a<b
 ·simp[h]
 ·by_cases he:a=b<;>simp[h,he]
theorem zyd{a b:Int}:(Mr a b==0)=decide (a=b):=by
 unfold Mr;by_cases h:a<b
 ·have: ¬a=b:=by omega
  simp[h,this]
 ·by_cases he:a=b<;>simp[h,he]
theorem xO{l:List Ag}{k:Az}(hl:l.length<=2000000)(hr:HW l):UL l k (λy0_ y1_=>Nv y0_ y1_)=some (((AM (λw:Ag=>bl w.ae k) l:Nat):Int),(match l[AM (λw:Ag=>bl w.ae k) l]? with|some w=>decide (w.ae=k)|none=>false)):=by
 unfold UL;have hc:∀w:Ag,Nv w k=some (Le w.ae k):=λw=>by simp[Nv]
 have h:=eO (xs:=l) (body:=λs:Int × Int=>OU l k (λy0_ y1_=>Nv y0_ y1_) s.1 s.2) (fin:=λi=>Zo l k (λy0_ y1_=>Nv y0_ y1_) i) (λw:Ag=>bl w.ae k)
  (λi j hj hi h=>by
   rcases Nat.lt_or_ge i j with Fv|Fv
   ·exact Fz ((List.pairwise_iff_getElem.1 hr) i j (by omega) hj Fv) h
   ·have:i=j:=by omega
    subst this;exact h)
  (λi j Fv hj IT=>by show OU l k _ (i:Int) (j:Int)=_;unfold OU;rw[if_pos (by simpa using Fv),fB (by omega) (by omega),AW IT,Aa];simp only[hc,Aa,qX,Ct (show(i+j)/2<=2000000 by omega)];cases bl l[(i+j)/2].ae k<;>rfl)
  (λi hi=>by show OU l k _ (i:Int) (i:Int)=_;unfold OU;rw[if_neg (by simp)])
 rw[h];unfold Zo;by_cases hp:AM (λw:Ag=>bl w.ae k) l<l.length
 ·rw[if_pos (by simpa using hp),AW hp,Aa];simp only[hc,Aa,rJ,BH hp]
 ·rw[if_neg (by simpa using hp),List.getElem?_eq_none (by omega)]
theorem w6{l:List AU}{k:Int}(hl:l.length<=2000000)(hr:Dh hk l):UM l k (λy0_ y1_=>Ns y0_ y1_)=some (((AM (B6 hk k) l:Nat):Int),(match l[AM (B6 hk k) l]? with|some w=>decide (w.ay=k)|none=>false)):=by
 unfold UM;have hc:∀w:AU,Ns w k=some (Mr w.ay k):=λw=>by simp[Ns]
 have h:=eO (xs:=l) (body:=λs:Int × Int=>OV l k (λy0_ y1_=>Ns y0_ y1_) s.1 s.2) (fin:=λi=>Zq l k (λy0_ y1_=>Ns y0_ y1_) i) (B6 hk k)
  (λi j hj hi h=>ztq hr i j hj hi h)
  (λi j Fv hj IT=>by show OV l k _ (i:Int) (j:Int)=_;unfold OV;rw[if_pos (by simpa using Fv),fB (by omega) (by omega),AW IT,Aa];simp only[hc,Aa,zyo,Ct (show(i+j)/2<=2000000 by omega)];by_cases hq:l[(i+j)/2].ay<k<;>simp[B6,hk,tk,hq])
  (λi hi=>by show OV l k _ (i:Int) (i:Int)=_;unfold OV;rw[if_neg (by simp)])
 rw[h];unfold Zq;by_cases hp:AM (B6 hk k) l<l.length
 ·rw[if_pos (by simpa using hp),AW hp,Aa];simp only[hc,Aa,zyd,BH hp]
 ·rw[if_neg (by simpa using hp),List.getElem?_eq_none (by omega)]
theorem To{β:Type}{body:Int->Option (Int ⊕ Option β)}{fin:Option β}(m:Nat)(he:body (m:Nat)=some (.inr fin)):∀n:Nat,m<=n->(∀i:Nat,m<=i->i<n->body ((i+1:Nat):Int)=some (.inl (i:Int)))->AG body (n:Nat)=fin
 |0,h,_=>by
  have e:m=0:=by omega
  subst e;exact Jd he
 |n+1,h,hs=>by
  by_cases e:m=n+1
  ·subst e;exact Jd he
  ·rw[L4 (hs n (by omega) (by omega))];exact To m he n (by omega) λi h1 h2=>hs i h1 (by omega)
theorem pO{α:Type}{vs:List α}(h:vs≠ [])(hl:vs.length<=2000000):getI vs (IntKind.i64.wrap ((vs.length:Int)-1))=some (vs.getLast h):=by
 have hp:0<vs.length:=by cases vs with|nil=>exact absurd rfl h|cons=>simp
 rw[JW hp hl,AW (by omega),List.getLast_eq_getElem]
def DF(n:Nat)(l:List Ag):Prop:=HW l/\(l.length<=n/\ ∀c∈l,c.al≠ []/\(c.al.length<=n/\Xo c))
theorem dG{l:List Ag}{k:Az}{c:Ag}(h:Gg l k=some c):c∈l/\c.ae=k:=⟨List.mem_of_find?_eq_some h,by have:=List.find?_some h;simpa using this⟩
theorem dX{l:List Ag}{k:Az}{c:Ag}(hr:HW l)(hc:c∈l)(hk:c.ae=k):Gg l k=some c:=by
 cases h:Gg l k with
 |none=>have:=List.find?_eq_none.1 h c hc;simp[hk]at this
 |some d=>obtain⟨h1,h2⟩:=dG h;rw[Da.fw (key:=ck) hr h1 hc (by rw[ck,ck,h2,hk])]
theorem dL{l:List Ag}{k:Az}(h:∀c∈l,c.ae≠k):Gg l k=none:=by unfold Gg;rw[List.find?_eq_none];intro y hy;simpa using h y hy
abbrev Bn(l:List Ag)(k:Az):Nat:=AM (λw:Ag=>bl w.ae k) l
theorem zz6(l:List Ag)(k:Az):Bn l k<=l.length:=KT _ l
theorem V2{l:List Ag}(hr:HW l)(k:Az):(∃h:Bn l k<l.length,l[Bn l k].ae=k/\Gg l k=some l[Bn l k])\/((∀c∈l,c.ae≠k)/\Gg l k=none/\ ∀h:Bn l k<l.length,bl k l[Bn l k].ae=true):=by
 have Nh:=List.pairwise_iff_getElem.1 hr;by_cases hp:Bn l k<l.length
 ·by_cases hk:l[Bn l k].ae=k
  ·exact .inl ⟨hp,hk,dX hr (AO hp) hk⟩
  ·right;have hn:bl (l[Bn l k]'hp).ae k=false:=Qc hp;have hg:bl k l[Bn l k].ae=true:=PQ hn hk;have CD:∀c∈l,c.ae≠k:=by
    intro c hc e;obtain⟨j,hj,rfl⟩:=List.mem_iff_getElem.1 hc;rcases Nat.lt_trichotomy j (Bn l k)with h|h|h
    ·exact GL (N5 h) e
    ·subst h;exact hk e
    ·have:=Nh (Bn l k) j hp hj h;rw[ck,ck,e,P2 hg]at this;cases this
   exact⟨CD,dL CD,λ_=>hg⟩
 ·right;have CD:∀c∈l,c.ae≠k:=by
   intro c hc e;obtain⟨j,hj,rfl⟩:=List.mem_iff_getElem.1 hc;exact GL (N5 (lt:=λw:Ag=>bl w.ae k) (show j<Bn l k by omega)) e
  exact⟨CD,dL CD,λh=>absurd h hp⟩
theorem pQ{l:List Ag}{k:Az}(hl:l.length<=2000000)(hr:HW l):Sr l k=some (((Bn l k:Nat):Int),(Gg l k).isSome):=by
 unfold Sr;rw[xO hl hr,Aa];rcases V2 hr k with⟨hp,hk,hf⟩|⟨hn,hf,hg⟩
 ·rw[hf];simp[BH hp,hk]
 ·rw[hf];by_cases hp:Bn l k<l.length
  ·have hk:l[Bn l k].ae≠k:=hn _ (AO hp);simp[BH hp,hk]
  ·simp[List.getElem?_eq_none (show l.length<=Bn l k by omega)]
theorem sI{l:List Ag}{k:Az}(hl:l.length<=2000000)(hr:HW l):∃i:Int,SP l k=some i/\((i<0/\Gg l k=none)\/(0<=i/\ ∃c,getI l i=some c/\Gg l k=some c)):=by
 refine⟨Ea (λc:Ag=>c.ae==k) l,?_,?_⟩
 ·unfold SP;refine qM (λc:Ag=>c.ae==k) (λi hi=> ?_) ?_
  ·unfold aO;rw[if_pos (by simpa using hi),AW hi,Aa,Ct (by omega)];cases l[i].ae==k<;>rfl
  ·unfold aO;rw[if_neg (by simp)]
 ·by_cases h:Ea (λc:Ag=>c.ae==k) l>=0
  ·obtain⟨x,h1,h2,h3⟩:=zwp h;exact .inr ⟨h,x,h1,dX hr h3 (by simpa using h2)⟩
  ·refine .inl ⟨by omega,?_⟩;have:=qB (λc:Ag=>c.ae==k) l;rw[decide_eq_false h]at this;unfold Gg;rw[List.find?_eq_none];intro y hy hq;have:=List.any_eq_false.1 this.symm y hy;exact this hq
theorem nB{l:List Ag}{k:Az}{c:Ag}(h:Gg l k=some c)(hv:c.al≠ []):D7 l k=(c.al.getLast hv).ab:=by unfold D7;rw[h];show fI c=_;unfold fI;rw[List.getLast?_eq_some_getLast hv]
theorem WR{n:Nat}{l:List Ag}{k:Az}(hn:n<=1000)(h:DF n l):NL l k=some (D7 l k):=by
 obtain⟨hr,hl,hc⟩:=h;unfold NL;obtain⟨i,e,⟨h1,h2⟩|⟨h1,c,h2,h3⟩⟩:=sI (l:=l) (k:=k) (by omega) hr
 ·rw[e,Aa,if_pos (by simpa using h1)];unfold D7;rw[h2]
 ·obtain⟨hv,hw,_⟩:=hc c (dG h3).1;rw[e,Aa,if_neg (by simpa using h1),h2,Aa,pO hv (by omega),Aa,nB h3 hv]
theorem rM{n:Nat}{l:List Ag}{k:Az}(hn:n<=1000)(h:DF n l):Sm l k=some (D7 l k):=by
 obtain⟨hr,hl,hc⟩:=h;unfold Sm;rw[pQ (by omega) hr,Aa];rcases V2 hr k with⟨hp,hk,hf⟩|⟨_,hf,_⟩
 ·obtain⟨hv,hw,_⟩:=hc _ (AO hp);rw[hf,if_neg (by simp)];rw[AW hp,Aa,pO hv (by omega),Aa,nB hf hv]
 ·rw[hf];simp only[Option.isSome_none,Bool.not_false,if_true];unfold D7;rw[hf]
theorem zwV{l:List Ag}{k:Az}{v:B8}(hr:HW l)(hp:Bn l k<l.length)(hk:l[Bn l k].ae=k):Iu l k v=l.set (Bn l k) ⟨k,l[Bn l k].al++ [v]⟩:=by unfold Iu;rw[Wy hr];rw[show AM (λy=>bl (ck y) (ck (⟨k,K4 l k++ [v]⟩:Ag))) l=Bn l k from rfl,BH hp];show(if l[Bn l k].ae=k then _ else _)=_;rw[if_pos hk];unfold K4;rw[dX hr (AO hp) hk]
theorem zxA{l:List Ag}{k:Az}{v:B8}(hr:HW l)(hn:∀c∈l,c.ae≠k):Iu l k v=l.take (Bn l k)++ [⟨k,[v]⟩]++l.drop (Bn l k):=by
 have hv:K4 l k=[]:=by unfold K4;rw[dL hn]
 unfold Iu;rw[Wy hr,hv];rw[show AM (λy=>bl (ck y) (ck (⟨k,[]++ [v]⟩:Ag))) l=Bn l k from rfl];by_cases hp:Bn l k<l.length
 ·rw[BH hp];show(if l[Bn l k].ae=k then _ else _)=_;rw[if_neg (hn _ (AO hp))];rfl
 ·rw[List.getElem?_eq_none (by omega)];rfl
theorem DF.add{n:Nat}{l:List Ag}{k:Az}{v:B8}(h:DF n l)(hn:n<=1000)(hk:k.length<=2000000)(hv:v.a7.length<=2000000):DF (n+1) (Iu l k v):=by
 obtain⟨hr,hl,hc⟩:=h;have RX:(K4 l k).length<=n/\ ∀v∈K4 l k,v.a7.length<=2000000:=by
  unfold K4;cases e:Gg l k with
  |none=>exact⟨by simp,λv hv=>by simp at hv⟩
  |some c=>obtain⟨_,h2,h3⟩:=hc c (dG e).1;exact⟨h2,h3.2.2⟩
 refine⟨Jc hr,?_,?_⟩
 ·have:=PW (key:=ck) (x:=(⟨k,K4 l k++ [v]⟩:Ag)) l;unfold Iu;omega
 ·intro c ID;rcases(Je (key:=ck) hr c).1 ID with rfl|⟨hm,_⟩
  ·refine⟨by simp,by simp;omega,hk,by simp;omega,?_⟩;intro x hx;rcases Af.1 hx with hx|hx
   ·exact RX.2 x hx
   ·have:x=v:=by simpa using hx
    subst this;exact hv
  ·obtain⟨h1,h2,h3⟩:=hc c hm;exact⟨h1,by omega,h3⟩
def Tk(ws:List Ak):Prop:=ws.length<=100/\ ∀w∈ws,w.ae.length<=2000000/\w.a7.length<=2000000
theorem zzK{c:Ag}{k:Az}{vs:List B8}(h:c.ae=k):({c with al:=vs}:Ag)=⟨k,vs⟩:=by subst h;rfl
theorem DF.small{n:Nat}{l:List Ag}(h:DF n l)(hn:n<=1000):Me l:=⟨by have:=h.2.1;omega,λc hc=>(h.2.2 c hc).2.2⟩
theorem Ze{α:Type}(l:List α)(p:Nat):AF l 0 (p:Int)=l.take p:=by unfold AF;simp
theorem Zg{α:Type}(l:List α)(p:Nat):AF l (p:Int) (l.length:Int)=l.drop p:=by unfold AF;rw[DN,DN,List.take_of_length_le (Av _)]
theorem rU{t:Int}:∀{ws:List Ak} {n:Nat} {l o:List Ag},n+ws.length<=1000->(∀w∈ws,w.ae.length<=2000000/\w.a7.length<=2000000)->DF n l->Jp t l ws=some o->DF (n+ws.length) o:=by
 intro ws
 induction ws with
 |nil=>intro n l o _ _ h e;cases e;exact h
 |cons w vs ih=>
  intro n l o hn hs h e;unfold Jp at e;rw[List.foldlM_cons]at e;cases e1:J2 t l w with
  |none=>rw[e1]at e;cases e
  |some l1=>
   rw[e1]at e;have e:Jp t l1 vs=some o:=e;unfold J2 at e1;split at e1
   ·cases e1
   ·cases e1;rw[AR]at hn ⊢;have:=ih (n:=n+1) (by omega) (λw hw=>hs w (by simp[hw])) (DF.add h (by omega) (hs w (by simp)).1 (hs w (by simp)).2) e;rwa[show n+(vs.length+1)=n+1+vs.length by omega]
theorem rW{l:List Ag}(h:DF 24 l):SQ l=some l:=by
 unfold SQ;have:=(GD (xs:=l) (body:=λs:List Ag × Int=>Pk l s.1 s.2) (λi s=>(s,i)) (λo c=>o++ [c]) (λo=>some o) (λi o=>o.length=i)
  (λi hi o ho=>by have h1:=h.2.1;have h2:=(h.2.2 _ (AO hi)).2.1;refine⟨?_,by simp[ho]⟩;show Pk l o (i:Int)=_;unfold Pk;rw[if_pos (by simpa using hi),AW hi,Aa,A8 (by simp only[List.length_nil];omega),A8 (by simp only[Bt];omega),Ct (by omega)])
  (λo ho=>by show Pk l o (l.length:Int)=_;unfold Pk;rw[if_neg (by simp)]) (s:=[]) rfl).1
 refine this.trans ?_;have e:=foldl_map (λc:Ag=>c) l [];simpa using e
theorem zyn{l:List Ag}{ws:List Ak}{t:Int}(h:DF 24 l)(hw:Tk ws)(h0:0<t):VI l ws t=some (match Jp t l ws with|some o=>(o,Ck o)|none=>([],false)):=by
 unfold VI;rw[rW h,Aa];have key:=PX (xs:=ws) (body:=λs:Int × List Ag=>Pf ws t s.1 s.2) (λi s=>((i:Int),s)) (J2 t) (some ([],false)) (λs=>Vi s) (λi s=>DF (24+i) s)
  (λi acc hi hI=>by
   have iM:=hw.2 _ (AO hi);have hn:=hw.1;obtain⟨hr,hl,hc⟩:=hI;have Nh:=List.pairwise_iff_getElem.1 hr;have Ev:=zz6 acc ws[i].ae;refine⟨?_,λa ha=> ?_⟩
   ·show Pf ws t (i:Int) acc=_;unfold Pf;rw[if_pos (by simpa using hi),AW hi,Aa];have down:∀m:Nat,(∀j (hj:j<acc.length),m<=j->bl ws[i].ae acc[j].ae=true)-> ∀j:Nat,m<=j->j<acc.length->NJ t (i:Int) acc ws[i] ((j+1:Nat):Int)=some (.inl (j:Int)):=by
     intro m hm j h1 h2;unfold NJ;rw[if_pos (by simp),JW (by omega) (by omega),show j+1-1=j by omega,AW h2,Aa,S8,if_pos (by rw[Bool.not_not];exact hm j h2 h1)]
    rcases V2 hr ws[i].ae with⟨hp,hk,hf⟩|⟨DQ,hf,hg⟩
    ·have hv:=(hc _ (AO hp))
     have stop:NJ t (i:Int) acc ws[i] ((Bn acc ws[i].ae+1:Nat):Int)=some (.inr (Ph t (i:Int) acc ws[i] ((Bn acc ws[i].ae+1:Nat):Int))):=by unfold NJ;rw[if_pos (by simp),JW (by omega) (by omega),show Bn acc ws[i].ae+1-1=Bn acc ws[i].ae by omega,AW hp,Aa,S8,if_neg (by rw[hk];rw[show Op.bytesLess ws[i].ae ws[i].ae=false from HF _];simp)]
     rw[To (Bn acc ws[i].ae+1) stop acc.length (by omega) (down _ λj hj h1=>by rw[<-hk];exact Nh _ j hp hj (by omega))];unfold Ph;rw[if_pos (by simp),JW (by omega) (by omega),show Bn acc ws[i].ae+1-1=Bn acc ws[i].ae by omega,AW hp,Aa,if_pos (by simpa using hk),WR (n:=24+i) (by omega) ⟨hr,hl,hc⟩,Aa];unfold J2;by_cases ht:t<=D7 acc ws[i].ae
     ·rw[if_pos (by simpa using ht),if_pos ht]
     ·rw[if_neg (by simpa using ht),if_neg ht,A8 (by simp only[Bt];omega),DN,zwV hr hp hk,Ct (by omega)];refine congrArg (λz=>some (Sum.inl (((i+1:Nat):Int),z))) (congrArg (acc.set _) ?_);exact zzK hk
    ·have ht: ¬t<=D7 acc ws[i].ae:=by unfold D7;rw[hf];show¬t<=0;omega
     have X9:∀j (hj:j<acc.length),Bn acc ws[i].ae<=j->bl ws[i].ae acc[j].ae=true:=by
      intro j hj h1;have hp:Bn acc ws[i].ae<acc.length:=by omega
      rcases Nat.lt_or_ge (Bn acc ws[i].ae) j with h2|h2
      ·exact Fz (hg hp) (Nh _ j hp hj h2)
      ·have e:Bn acc ws[i].ae=j:=by omega
       have:=hg hp;simp only[e]at this;exact this
     have stop:NJ t (i:Int) acc ws[i] ((Bn acc ws[i].ae:Nat):Int)=some (.inr (Ph t (i:Int) acc ws[i] ((Bn acc ws[i].ae:Nat):Int))):=by
      unfold NJ;by_cases h0:Bn acc ws[i].ae=0
      ·rw[if_neg (by simp[h0])]
      ·have hb:bl (acc[Bn acc ws[i].ae-1]'(by omega)).ae ws[i].ae=true:=N5 (lt:=λw:Ag=>bl w.ae ws[i].ae) (show Bn acc ws[i].ae-1<Bn acc ws[i].ae by omega);rw[if_pos (by simp;omega),JW (by omega) (by omega),AW (show Bn acc ws[i].ae-1<acc.length by omega),Aa,S8,if_neg (by rw[show Op.bytesLess ws[i].ae _=false from P2 hb];simp)]
     rw[To (Bn acc ws[i].ae) stop acc.length (by omega) (down _ X9)];have body:(req (0<=((Bn acc ws[i].ae:Nat):Int)/\((Bn acc ws[i].ae:Nat):Int)<=(acc.length:Int)/\(acc.length:Int)<=(acc.length:Int))<|
       req (0<=((Bn acc ws[i].ae:Nat):Int)/\((Bn acc ws[i].ae:Nat):Int)<=(acc.length:Int)/\(acc.length:Int)<=(acc.length:Int))<|
       req (((([]:List Ag).length:Int)+(((AF acc ((Bn acc ws[i].ae:Nat):Int) (acc.length:Int))).length:Int))*40<=140737488355328/\(([]:List Ag).length:Int)+(((AF acc ((Bn acc ws[i].ae:Nat):Int) (acc.length:Int))).length:Int)<=140737488355328)<|
       req (0<=(0:Int)/\(0:Int)<=((Bn acc ws[i].ae:Nat):Int)/\((Bn acc ws[i].ae:Nat):Int)<=(acc.length:Int))<|
       req (((([]:List Ag).length:Int)+(((AF acc 0 ((Bn acc ws[i].ae:Nat):Int))).length:Int))*40<=140737488355328/\(([]:List Ag).length:Int)+(((AF acc 0 ((Bn acc ws[i].ae:Nat):Int))).length:Int)<=140737488355328)<|
       req (((((AF acc 0 ((Bn acc ws[i].ae:Nat):Int))).length:Int)+(([(⟨ws[i].ae,[(⟨t,ws[i].a7,ws[i].au⟩:B8)]⟩:Ag)]:List Ag).length:Int))*40<=140737488355328/\(((AF acc 0 ((Bn acc ws[i].ae:Nat):Int))).length:Int)+(([(⟨ws[i].ae,[(⟨t,ws[i].a7,ws[i].au⟩:B8)]⟩:Ag)]:List Ag).length:Int)<=140737488355328)<|
       req ((((((AF acc 0 ((Bn acc ws[i].ae:Nat):Int))++ [(⟨ws[i].ae,[(⟨t,ws[i].a7,ws[i].au⟩:B8)]⟩:Ag)])).length:Int)+(((AF acc ((Bn acc ws[i].ae:Nat):Int) (acc.length:Int))).length:Int))*40<=140737488355328/\((((AF acc 0 ((Bn acc ws[i].ae:Nat):Int))++ [(⟨ws[i].ae,[(⟨t,ws[i].a7,ws[i].au⟩:B8)]⟩:Ag)])).length:Int)+(((AF acc ((Bn acc ws[i].ae:Nat):Int) (acc.length:Int))).length:Int)<=140737488355328)<|
       (some (.inl ((IntKind.i64.wrap ((i:Int)+1)),(((AF acc 0 ((Bn acc ws[i].ae:Nat):Int))++ [(⟨ws[i].ae,[(⟨t,ws[i].a7,ws[i].au⟩:B8)]⟩:Ag)])++(AF acc ((Bn acc ws[i].ae:Nat):Int) (acc.length:Int))))):Option ((Int × List Ag) ⊕ Option (List Ag × Bool))))=some (.inl (((i+1:Nat):Int),Iu acc ws[i].ae ⟨t,ws[i].a7,ws[i].au⟩)):=by
      rw[Ze,Zg,zxA hr DQ,Ct (by omega)];rw[A8 (by omega),A8 (by omega),A8 (by simp only[BU,List.length_nil];omega),A8 (by omega),A8 (by simp only[Ax,List.length_nil];omega),A8 (by simp only[Ax,Bt];omega),A8 (by simp only[AE,BU,Ax,Bt];omega)]
     have e1:J2 t acc ws[i]=some (Iu acc ws[i].ae ⟨t,ws[i].a7,ws[i].au⟩):=by unfold J2;rw[if_neg ht]
     rw[e1];unfold Ph;by_cases h0:Bn acc ws[i].ae=0
     ·rw[if_neg (by simp[h0])];exact body
     ·have BM:(acc[Bn acc ws[i].ae-1]'(by omega)).ae≠ws[i].ae:=DQ _ (AO _);rw[if_pos (by simp;omega),JW (by omega) (by omega),AW (show Bn acc ws[i].ae-1<acc.length by omega),Aa,if_neg (by simpa using BM)];exact body
   ·unfold J2 at ha;split at ha
    ·cases ha
    ·cases ha;exact DF.add (n:=24+i) ⟨hr,hl,hc⟩ (by omega) iM.1 iM.2)
  (λacc _=>by show Pf ws t (ws.length:Int) acc=_;unfold Pf;rw[if_neg (by simp)]) l h
 refine key.trans ?_;unfold Jp;cases ho:ws.foldlM (J2 t) l with
 |none=>rfl
 |some o=>show Vi o=some (o,Ck o);unfold Vi;rw[qA ((rU (by have:=hw.1;omega) hw.2 h ho).small (by have:=hw.1;omega)),Aa]
theorem bQ{l:List Ag}(h:Ck l=true):HW l:=by unfold Ck at h;simp only[Ab]at h;exact(L7 (r:=Oc) (λa b c h k=>Fz h k)).1 h.2.2
theorem dS{l:List Ag}(h:Ck l=true):DF 24 l:=by
 refine⟨bQ h,?_⟩;unfold Ck at h;simp only[Ab,Aq,A7]at h;refine⟨by omega,λc hc=> ?_⟩;have h1:=h.2.1 c hc;unfold EV FV CZ at h1;simp only[Ab,A7]at h1;have h2:=Ij.1 h1.2.1;have h3:=Ij.1 h1.1.1;refine⟨λe=>by rw[e]at h2;simp at h2,by omega,by omega,by omega,λv hv=> ?_⟩;have h4:=h1.2.2.1 v hv;unfold Im FB N6 at h4;simp only[Ab,Aq]at h4;have h5:(v.a7.length:Int)<=24:=by first|exact h4.2.1.1|exact h4.1.2.1.1|exact h4.1.1.1|exact h4.2.1.1.1
 omega
end
section
open Go.RowKit Go.Sort
set_option maxRecDepth 100000
theorem zr6{l:List Ai}(h:l.length<=2000000):VO l l=some true:=by
 unfold VO;rw[if_neg (by simp)];exact s4 (n:=l.length) (λi hi=>by
  show Sx l l i=_;unfold Sx;rw[if_pos (by simpa using hi),AW hi,Aa,Aa,if_neg (by simp),D9 hi (by omega)]) (by
  show Sx l l _=_;unfold Sx;rw[if_neg (by simp)])
end
section
open Go.RowKit
set_option maxRecDepth 100000
set_option maxHeartbeats 1000000
abbrev Mt:Ak->Az:=λw=>w.ae
def R7(c:Ai):Ak:=⟨c.ae,c.a7,c.au⟩
def F1(rows:List Ak)(c:Ai):List Ak:=if c.au=true then rows.filter (λw=>decide (w.ae≠c.ae))else Dv Mt ⟨c.ae,c.a7,false⟩ rows
theorem qK{rows:List Ak}{c:Ai}(h:EE rows):EE (F1 rows c):=by
 unfold F1;split
 ·exact Da.filter h _
 ·exact Jc h
theorem zxC{l:List Ak}{c:Ai}(h:EE l):(Dv Mt (R7 c) l).filter (λw=> !w.au)=F1 (l.filter λw=> !w.au) c:=by rw[zr1 h];unfold F1 R7;cases c.au<;>simp
theorem oC:∀(cs:List Ai) {l:List Ak},EE l->(cs.foldl (λo c=>Dv Mt (R7 c) o) l).filter (λw=> !w.au)=cs.foldl F1 (l.filter λw=> !w.au)
 | [],_,_=>rfl
 |c::cs,l,h=>by rw[List.foldl_cons,List.foldl_cons,oC cs (Jc h),zxC h]
structure UC(n:Nat)(l:List Ak):Prop where
 dw:EE l
 len:l.length<=n
 la:∀w∈l,w.ae.length<=2000000/\w.a7.length<=2000000
theorem UC.small{n:Nat}{l:List Ak}(h:UC n l)(hn:n<=2000000):JV l:=⟨by have:=h.len;omega,h.la⟩
def W5(c:DX)(d:HX):DX × Bool:=
 if Ik c&&(JL d&&d.cu==c.ab)then
  (let o:DX:=⟨d.ga,d.bw.foldl F1 c.bz⟩
   if Ik o then(o,true)else(⟨0,[]⟩,false))
 else(⟨0,[]⟩,false)
theorem zve{c:DX}(hw:JV c.bz)(h:Ik c=true):UC 24 c.bz/\c.bz.filter (λw=> !w.au)=c.bz:=by
 unfold Ik Td at h;simp only[Ab]at h;have h1:=h.2.1.1;refine⟨⟨zmM h1,?_,hw.2⟩,?_⟩
 ·unfold HA at h1;simp only[Ab,Aq]at h1;omega
 ·rw[List.filter_eq_self];exact λw hw=>A7.1 h.2.1.2 w hw
theorem zxt{d:HX}(h:JL d=true):d.bw.length<=60:=by unfold JL at h;simp only[Ab,Aq]at h;omega
theorem zts{c:DX}{d:HX}(hw:JV c.bz)(hd:Qj d.bw):Vt c d=some (W5 c d):=by
 unfold Vt W5;rw[rY hw,Aa];cases hc:Ik c with
 |false=>rfl
 |true=>
  rw[if_pos rfl,zyx hd,Aa];cases hg:JL d with
  |false=>rfl
  |true=>
   by_cases he:d.cu=c.ab
   ·have e1:(d.cu !=c.ab)=false:=by simpa using he
    have e2:(d.cu==c.ab)=true:=by simpa using he
    obtain⟨hk,C6⟩:=zve hw hc;have hl:=zxt hg;have Ar:Zr c.bz=some c.bz:=zw6 (by have:=hk.len;omega) (by have:=hk.len;omega);rw[e1,e2,if_neg (by simp),Ar,Aa];have h1:=GD (xs:=d.bw) (body:=λs:Int × List Ak=>O4 d s.1 s.2) (λi (o:List Ak)=>(i,o)) (λo c=>Dv Mt (R7 c) o) (λo=>ZN d o) (λi o=>UC (24+i) o)
     (λi hi o hI=>by
      refine⟨?_,⟨Jc hI.dw,Nat.le_trans (PW _) (by have:=hI.len;omega),λw hw=> ?_⟩⟩
      ·show O4 d i o=_;unfold O4;rw[if_pos (by simpa using hi),AW hi,Aa,ztT (by have:=hI.len;omega) hI.dw,Aa,D9 hi (by omega)];rfl
      ·rcases(Je (key:=Mt) hI.dw w).1 hw with rfl|h
       ·exact hd.2 _ (AO hi)
       ·exact hI.la w h.1)
     (λo hI=>by show O4 d d.bw.length o=_;unfold O4;rw[if_neg (by simp)]) (s:=c.bz) ⟨hk.dw,by have:=hk.len;omega,hk.la⟩
    rw[h1.1];have hK:=h1.2;generalize hR:d.bw.foldl (λo c=>Dv Mt (R7 c) o) c.bz=R at hK;have hS:R.filter (λw=> !w.au)=d.bw.foldl F1 c.bz:=by rw[<-hR,oC _ hk.dw,C6]
    unfold ZN VH;rw[A8 (by have:=hK.len;omega),nJ (p:=λy0_=>aD y0_) (λw:Ak=>w.au) (λw _=>rfl),Aa,hS];have YU:JV (d.bw.foldl F1 c.bz):=by rw[<-hS];exact⟨Nat.le_trans (List.length_filter_le _ _) (by have:=hK.len;omega),λw hw=>hK.la w (List.mem_filter.1 hw).1⟩
    rw[rY YU,Aa];show(if(!Ik ⟨d.ga,d.bw.foldl F1 c.bz⟩)=true then _ else _)=some (if Ik ⟨d.ga,d.bw.foldl F1 c.bz⟩=true then _ else _);cases Ik ⟨d.ga,d.bw.foldl F1 c.bz⟩<;>rfl
   ·have e1:(d.cu !=c.ab)=true:=by simpa using he
    have e2:(d.cu==c.ab)=false:=by simpa using he
    rw[e1,e2];rfl
theorem oU{α:Type}(q:α->Bool):∀xs:List α,xs.find? q=xs[AM (λx=> !q x) xs]?
 | []=>by simp
 |x::xs=>by
  rw[SX,List.find?_cons];cases hq:q x with
  |true=>simp
  |false=>simpa using oU q xs
theorem NP{α β:Type}{xs:List α}{body:Int->Option (Int ⊕ Option β)}(q:α->Bool)(F:α->Option β)(fin:Option β)
  (hs:∀i (h:i<xs.length),body (i:Nat)=some (if q xs[i]=true then .inr (F xs[i])else .inl ((i+1:Nat):Int))) (he:body (xs.length:Nat)=some (.inr fin)):AG body 0=match xs.find? q with|some x=>F x|none=>fin:=by
 rw[oU,dR (λx=> !q x) (λi=>match xs[i.toNat]? with|some x=>F x|none=>fin) (λi h=> ?_) ?_]
 ·rw[DN]
 ·rw[he,DN,List.getElem?_eq_none (Av _)]
 ·rw[hs i h,DN,BH h];cases q xs[i]<;>rfl
theorem PY{α:Type}(q:α->Bool)(xs:List α):(xs.find? q).isSome=xs.any q:=by rw[Bool.eq_iff_iff,List.find?_isSome,List.any_eq_true]
theorem rX{ws:List Ak}{k:Az}(h:ws.length<=2000000):Sp ws k=some (HN ws k):=by
 unfold Sp;rw[NP (xs:=ws) (λw=>w.ae==k) (λ_=>some true) (some false) (λi hi=> ?_) ?_]
 ·unfold HN;rw[<-PY];cases ws.find? (λw=>w.ae==k)<;>rfl
 ·unfold ZG;rw[if_neg (by simp)]
 ·unfold ZG;rw[if_pos (by simpa using hi),AW hi,Aa,Ct (by omega)];cases ws[i].ae==k<;>rfl
theorem zzD{ks:List Az}{k:Az}(h:ks.length<=2000000):VR ks k=some (ks.any (· ==k)):=by
 unfold VR;rw[NP (xs:=ks) (λw=>w==k) (λ_=>some true) (some false) (λi hi=> ?_) ?_]
 ·rw[<-PY];cases ks.find? (λw=>w==k)<;>rfl
 ·unfold aC;rw[if_neg (by simp)]
 ·unfold aC;rw[if_pos (by simpa using hi),AW hi,Aa,Ct (by omega)];cases ks[i]==k<;>rfl
theorem oD{s:Am}{t:Int}(h:s.ah.length<=2000000):KH s t=some (match Fp s t with|some h=>(h,true)|none=>((⟨0,0,0,[],[]⟩:AU),false)):=by
 unfold KH;rw[NP (xs:=s.ah) (λw=>hk w==t) (λh=>some (h,true)) (some ((⟨0,0,0,[],[]⟩:AU),false)) (λi hi=> ?_) ?_]
 ·unfold Fp;cases s.ah.find? (λw=>hk w==t)<;>rfl
 ·unfold ZC;rw[if_neg (by simp)]
 ·unfold ZC;rw[if_pos (by simpa using hi),AW hi,Aa,Ct (by omega)];unfold hk;cases s.ah[i].ay==t<;>rfl
theorem zvR{s:Am}{t:Int}(h:s.az.length<=2000000):Vn s t=some (match JQ s t with|some h=>(h,true)|none=>((⟨0,false,0⟩:CH),false)):=by
 unfold Vn;rw[NP (xs:=s.az) (λw=>tk w==t) (λh=>some (h,true)) (some ((⟨0,false,0⟩:CH),false)) (λi hi=> ?_) ?_]
 ·unfold JQ;cases s.az.find? (λw=>tk w==t)<;>rfl
 ·unfold ZD;rw[if_neg (by simp)]
 ·unfold ZD;rw[if_pos (by simpa using hi),AW hi,Aa,Ct (by omega)];unfold tk;cases s.az[i].ay==t<;>rfl
theorem zrV{α:Type}{key:α->Int}{l:List α}{t:Int}(hr:Dh key l):(l.find? (λy=>key y==t)).isSome=(match l[AM (B6 key t) l]? with|some w=>decide (key w=t)|none=>false):=by
 rw[lN hr];cases l[AM (B6 key t) l]? with
 |none=>rfl
 |some w=>by_cases h:key w=t<;>simp[h]
theorem zwl{s:Am}{t:Int}(hl:s.ah.length<=2000000)(hr:Dh hk s.ah):Nt s t=some (((AM (B6 hk t) s.ah:Nat):Int),(Fp s t).isSome):=by unfold Nt Fp;rw[w6 hl hr,Aa,zrV hr];cases s.ah[AM (B6 hk t) s.ah]?<;>rfl
theorem pB{α:Type}{key:α->Int}{l:List α}{t:Int}(h:Dh key l):(∀j (hj:j<l.length),AM (B6 key (t+1)) l<=j->t<key l[j])/\ ∀j (hj:j<l.length),j<AM (B6 key (t+1)) l->key l[j]<=t:=by
 constructor
 ·intro j hj hp;have h1:AM (B6 key (t+1)) l<l.length:=by omega
  have h2: ¬(key (l[AM (B6 key (t+1)) l]'h1)<t+1):=of_decide_eq_false (Qc h1);by_cases e:AM (B6 key (t+1)) l=j
  ·subst e;omega
  ·have:=h.mono hj (show AM (B6 key (t+1)) l<j by omega);omega
 ·intro j hj hp;have:key l[j]<t+1:=of_decide_eq_true (N5 (lt:=B6 key (t+1)) hp);omega
theorem zvD{α:Type}{key:α->Int}{l:List α}{t:Int}(hn:∀y∈l,key y≠t):AM (B6 key (t+1)) l=AM (B6 key t) l:=by
 induction l with
 |nil=>rfl
 |cons x l ih=>
  rw[SX,SX,ih λy hy=>hn y (by simp[hy])];have:=hn x (by simp);have e:B6 key (t+1) x=B6 key t x:=by unfold B6;rw[decide_eq_decide];omega
  rw[e]
theorem nP{α:Type}{key:α->Int}{l:List α}{x:α}(hn:∀y∈l,key y≠key x):FE key x l=l.take (AM (B6 key (key x+1)) l)++ [x]++l.drop (AM (B6 key (key x+1)) l):=by rw[zvD hn];exact pC hn
theorem ztY{l:List AU}{h:AU}(hl:l.length<=1000)(hr:Dh hk l):∃r,U2 l h=some r/\((∀y∈l,hk y≠hk h)->r=FE hk h l):=by
 have hp:=KT (B6 hk (hk h+1)) l;obtain⟨h1,h2⟩:=pB (t:=hk h) hr;refine⟨_,?_,λhn=>(nP hn).symm⟩;unfold U2;rw[To (AM (B6 hk (hk h+1)) l) (fin:=UN l h ((AM (B6 hk (hk h+1)) l:Nat):Int)) ?_ l.length hp λj h3 h4=> ?_]
 ·unfold UN;rw[Ze,Zg,A8 (by omega),A8 (by simp only[BU,List.length_nil];omega),A8 (by omega),A8 (by simp only[Ax,List.length_nil];omega),A8 (by simp only[Ax,Bt];omega),A8 (by simp only[AE,BU,Ax,Bt];omega)]
 ·unfold Zv;by_cases h0:AM (B6 hk (hk h+1)) l=0
  ·rw[if_neg (by simp[h0])]
  ·have:=h2 (AM (B6 hk (hk h+1)) l-1) (by omega) (by omega);rw[if_pos (by simp;omega),JW (by omega) (by omega),AW (show AM (B6 hk (hk h+1)) l-1<l.length by omega),Aa,if_neg (by simpa using this)]
 ·have:=h1 j h4 h3;unfold Zv;rw[if_pos (by simp),JW (by omega) (by omega),show j+1-1=j by omega,AW h4,Aa,if_pos (by simpa using this)]
theorem ztl{l:List CH}{h:CH}(hl:l.length<=1000)(hr:Dh tk l):∃r,Sg l h=some r/\((∀y∈l,tk y≠tk h)->r=FE tk h l):=by
 have hp:=KT (B6 tk (tk h+1)) l;obtain⟨h1,h2⟩:=pB (t:=tk h) hr;refine⟨_,?_,λhn=>(nP hn).symm⟩;unfold Sg;rw[To (AM (B6 tk (tk h+1)) l) (fin:=UO l h ((AM (B6 tk (tk h+1)) l:Nat):Int)) ?_ l.length hp λj h3 h4=> ?_]
 ·unfold UO;rw[Ze,Zg,A8 (by omega),A8 (by simp only[BU,List.length_nil];omega),A8 (by omega),A8 (by simp only[Ax,List.length_nil];omega),A8 (by simp only[Ax,Bt];omega),A8 (by simp only[AE,BU,Ax,Bt];omega)]
 ·unfold Zw;by_cases h0:AM (B6 tk (tk h+1)) l=0
  ·rw[if_neg (by simp[h0])]
  ·have:=h2 (AM (B6 tk (tk h+1)) l-1) (by omega) (by omega);rw[if_pos (by simp;omega),JW (by omega) (by omega),AW (show AM (B6 tk (tk h+1)) l-1<l.length by omega),Aa,if_neg (by simpa using this)]
 ·have:=h1 j h4 h3;unfold Zw;rw[if_pos (by simp),JW (by omega) (by omega),show j+1-1=j by omega,AW h4,Aa,if_pos (by simpa using this)]
theorem qS{l:List AU}{t:Int}(hl:l.length<=1000):SH l t=some (l.filter λh=>decide (hk h≠t)):=by
 unfold SH;have:=(GD (xs:=l) (body:=λs:List AU × Int=>O3 l t s.1 s.2) (λi s=>(s,i)) (λo h=>if hk h≠t then o++ [h]else o) (λo=>some o) (λi o=>o.length<=i)
  (λi hi o ho=>by
   constructor
   ·show O3 l t o (i:Int)=_;unfold O3;rw[if_pos (by simpa using hi),AW hi,Aa,Ct (by omega)];by_cases hq:hk l[i]=t
    ·rw[if_neg (by simpa using hq),if_neg (by simpa using hq)]
    ·rw[if_pos (by simpa using hq),if_pos hq,A8 (by simp only[Bt];omega)]
   ·by_cases hq:hk l[i]=t
    ·rw[if_neg (by simpa using hq)];omega
    ·rw[if_pos hq];simp;omega)
  (λo ho=>by show O3 l t o (l.length:Int)=_;unfold O3;rw[if_neg (by simp)]) (s:=[]) (by simp)).1
 refine this.trans ?_;have e:∀(l o:List AU),l.foldl (λo h=>if hk h≠t then o++ [h]else o) o=o++l.filter λh=>decide (hk h≠t):=by
  intro l
  induction l with
  |nil=>intro o;simp
  |cons x l ih=>
   intro o;rw[List.foldl_cons,ih,List.filter_cons];by_cases hq:hk x=t
   ·simp[hq]
   ·simp[hq]
 rw[e];rfl
def OL(a b:Az):Prop:=bl b a=false
abbrev HV(l:List Az):Prop:=Da (λs:Az=>s) l
theorem zq0{zs:List Az}(h:zs.Pairwise OL):HV (Lib.compact zs)/\ ∀y,y∈Lib.compact zs↔y∈zs:=by
 have get:∀j (hj:j<zs.length),(zs.toArray[j]!)=zs[j]:=λj hj=>by rw[getElem!_pos _ j (by simpa using hj)];simp
 have le:∀i j (hi:i<zs.length) (hj:j<zs.length),i<=j->OL zs[i] zs[j]:=λi j hi hj Fv=>by
  rcases Nat.lt_or_ge i j with k|k
  ·exact(List.pairwise_iff_getElem.1 h) i j hi hj k
  ·have:i=j:=by omega
   subst this;exact HF _
 unfold Lib.compact Lib.compactUpTo;constructor
 ·unfold HV Da;rw[List.pairwise_map];have hp:(List.range zs.length).Pairwise (· < ·):=List.pairwise_lt_range;have:=List.Pairwise.filter (Lib.keeps zs.toArray) hp;refine List.Pairwise.imp_of_mem ?_ this;intro i j hi hj Fv;have MZ:=(List.mem_filter.1 hj).2;have Ly:j<zs.length:=by simpa using(List.mem_filter.1 hj).1
  have BM:zs[j]'Ly≠zs[j-1]'(by omega):=by
   unfold Lib.keeps at MZ;simp only[Aq]at MZ;rcases MZ with k|k
   ·omega
   ·rw[get j Ly,get (j-1) (by omega)]at k;exact k
  rw[get i (by omega),get j Ly];have h1:=le i (j-1) (by omega) (by omega) (by omega);have h2:=le (j-1) j (by omega) Ly (by omega);have h3:bl (zs[j-1]'(by omega)) (zs[j]'Ly)=true:=PQ h2 BM;show bl (zs[i]'(by omega)) (zs[j]'Ly)=true;rcases TD (zs[i]'(by omega)) (zs[j-1]'(by omega))with k|k|k
  ·exact Fz k h3
  ·rw[k];exact h3
  ·unfold OL at h1;rw[h1]at k;cases k
 ·intro y;constructor
  ·intro hy;exact lQ zs y hy
  ·intro hy;obtain⟨i,hi,rfl⟩:=List.getElem_of_mem hy
   induction i using Nat.strongRecOn with
   |_ i ih=>
    by_cases hk:Lib.keeps zs.toArray i=true
    ·exact List.mem_map.2 ⟨i,List.mem_filter.2 ⟨by simpa using hi,hk⟩,get i hi⟩
    ·unfold Lib.keeps at hk;simp only[Aq,not_or,Classical.not_not]at hk;have e:zs[i]=zs[i-1]'(by omega):=by
      have:=hk.2;rw[get i hi,get (i-1) (by omega)]at this;exact this
     rw[e];exact ih (i-1) (by omega) (by omega) (AO _)
def Dk(k:Az)(l:List Az):List Az:=Dv (λs:Az=>s) k l
theorem dZ{k:Az}:∀{A B:List Az},(∀y∈A,bl y k=true)->(∀y∈B,bl k y=true)->Dk k (A++B)=A++k::B/\Dk k (A++k::B)=A++k::B
 | [],B,_,hB=>by
  unfold Dk;constructor
  ·cases B with
   |nil=>rfl
   |cons b B=>rw[List.nil_append,Dv,if_pos (hB b (by simp))];rfl
  ·rw[List.nil_append,Dv,if_neg (by rw[HF];simp),if_pos rfl]
 |a::A,B,hA,hB=>by
  obtain⟨p,q⟩:=dZ (A:=A) (B:=B) (λy hy=>hA y (by simp[hy])) hB;have h1:=hA a (by simp);unfold Dk at p q ⊢;constructor
  ·rw[List.cons_append,Dv,if_neg (by rw[P2 h1];simp),if_neg (λe=>GL h1 e.symm),p];rfl
  ·rw[List.cons_append,Dv,if_neg (by rw[P2 h1];simp),if_neg (λe=>GL h1 e.symm),q]
theorem cK{k:Az}{l:List Az}(h:HV l):HV (Dk k l):=Jc h
theorem zxn{k:Az}{l:List Az}(h:HV l)(y:Az):y∈Dk k l↔y=k\/y∈l:=by
 unfold Dk;rw[Je h];constructor
 ·rintro(e|⟨e,_⟩)
  ·exact .inl e
  ·exact .inr e
 ·rintro(e|e)
  ·exact .inl e
  ·by_cases he:y=k
   ·exact .inl he
   ·exact .inr ⟨e,he⟩
theorem Xf{l:List Az}(h:l.length<=2000000):I9 l=some l:=by unfold I9;rw[A8 (by rw[List.length_nil];omega)]
theorem rR{l:List Az}{k:Az}(hl:l.length<=1000)(hr:HV l):SA l k=some (Dk k l):=by
 have fin:∀(A B:List Az),A++B=l->(∀y∈A,bl y k=true\/y=k)->(∀y∈B,bl k y=true)->Pu l k (A.length:Int)=some (Dk k l):=by
  intro A B e hA hB;subst e;rw[AE]at hl;have t1:AF (A++B) (A.length:Int) (((A++B).length:Nat):Int)=B:=by unfold AF;rw[DN,DN,List.take_of_length_le (Av _)];simp
  have t2:AF (A++B) 0 (A.length:Int)=A:=by unfold AF;simp
  have put:(∀y∈A,bl y k=true)-> ∀(q:Option (List Az)),q=some (Dk k (A++B))->q=some (Dk k (A++B)):=λ_ _ h=>h;have body:(∀y∈A,bl y k=true)->(req (0<=(A.length:Int)/\(A.length:Int)<=(((A++B).length:Nat):Int)/\(((A++B).length:Nat):Int)<=(((A++B).length:Nat):Int))<|
   (I9 (AF (A++B) (A.length:Int) (((A++B).length:Nat):Int))).bind λv3=>
   req (0<=(0:Int)/\(0:Int)<=(A.length:Int)/\(A.length:Int)<=(((A++B).length:Nat):Int))<|
   (I9 (AF (A++B) 0 (A.length:Int))).bind λv4=>
   req ((((v4).length:Int)+(([k]:List (Au)).length:Int))*16<=140737488355328/\((v4).length:Int)+(([k]:List (Au)).length:Int)<=140737488355328)<|
   req (((((v4++ [k])).length:Int)+((v3).length:Int))*16<=140737488355328/\(((v4++ [k])).length:Int)+((v3).length:Int)<=140737488355328)<|
   some ((v4++ [k])++v3))=some (Dk k (A++B)):=by
   intro hA;rw[t1,t2,A8 (by rw[AE];omega),Xf (by omega),Aa,A8 (by rw[AE];omega),Xf (by omega),Aa,A8 (by rw[Bt];omega),A8 (by rw[AE,Bt];omega),(dZ hA hB).1];simp
  unfold Pu;rcases List.eq_nil_or_concat A with rfl|⟨A',z,rfl⟩
  ·rw[if_neg (by simp)];exact body (by simp)
  ·have hz:=hA z (by simp);have YP:HV (A'++ [z]):=Da.sub hr (by rw[List.concat_eq_append];exact List.sublist_append_left _ _);have Dm:∀y∈A',bl y z=true:=λy hy=>(List.pairwise_append.1 YP).2.2 y hy z (by simp);have hlen:(A'.concat z).length=A'.length+1:=by simp
   have w1:IntKind.i64.wrap ((((A'.concat z).length:Nat):Int)-1)=((A'.length:Nat):Int):=by rw[hlen,CS (by omega) (by omega)];omega
   have g1:getI (A'.concat z++B) ((A'.length:Nat):Int)=some z:=by unfold getI;rw[if_pos (by omega),DN,List.concat_eq_append,List.append_assoc,List.getElem?_append_right (by omega)];simp
   rw[if_pos (by rw[Aq,hlen];omega),w1,g1,Aa];by_cases he:z=k
   ·subst he;rw[if_pos (by simp)];have:=(dZ (A:=A') (B:=B) Dm hB).2;rw[List.concat_eq_append,List.append_assoc,List.singleton_append,this]
   ·rw[if_neg (by simpa using he)];have R2:bl z k=true:=by
     rcases hz with h|h
     ·exact h
     ·exact absurd h he
    refine body λy hy=> ?_;rw[List.concat_eq_append]at hy;rcases Af.1 hy with hy|hy
    ·exact Fz (Dm y hy) R2
    ·rw[List.mem_singleton.1 hy];exact R2
 unfold SA;have key:∀(n:Nat) (A B:List Az),A.length=n->A++B=l->(∀y∈B,bl k y=true)->AG (λs:Int=>I8 l k s) (n:Int)=some (Dk k l):=by
  intro n
  induction n with
  |zero=>
   intro A B hA e hB;have:A=[]:=List.length_eq_zero_iff.1 hA;subst this;have hb:I8 l k ((0:Nat):Int)=some (.inr (Pu l k ((([]:List Az).length:Nat):Int))):=by unfold I8;rw[if_neg (by simp)];rfl
   exact(Jd (body:=λs:Int=>I8 l k s) hb).trans (fin [] B e (by simp) hB)
  |succ n ih=>
   intro A B hA e hB;rcases List.eq_nil_or_concat A with rfl|⟨A',z,rfl⟩
   ·simp at hA
   ·rw[List.concat_eq_append]at hA e;have hn:A'.length=n:=by simpa using hA
    have w1:IntKind.i64.wrap (((n+1:Nat):Int)-1)=(n:Int):=by
     have:n+1<=1000:=by rw[<-e]at hl;simp at hl;omega
     rw[CS (by omega) (by omega)];omega
    have g1:getI l (n:Int)=some z:=by subst e;unfold getI;rw[if_pos (by omega),DN,List.append_assoc,List.getElem?_append_right (by omega),hn];simp
    have YP:HV (A'++ [z]):=Da.sub hr (by rw[<-e];exact List.sublist_append_left _ _);have Dm:∀y∈A',bl y z=true:=λy hy=>(List.pairwise_append.1 YP).2.2 y hy z (by simp);by_cases hz:(bl z k||z==k)=true
    ·have eb:I8 l k ((n+1:Nat):Int)=some (.inr (Pu l k ((n+1:Nat):Int))):=by
      unfold I8;rw[if_pos (by rw[Aq];omega),w1,g1,Aa,if_neg (by rw[show(Op.bytesLess z k||z==k)=true from hz];simp)]
     rw[Jd (body:=λs:Int=>I8 l k s) eb];have iT:bl z k=true\/z=k:=by simpa using hz
     have:=fin (A'++ [z]) B e (λy hy=>by
      rcases Af.1 hy with hy|hy
      ·rcases iT with h|h
       ·exact .inl (Fz (Dm y hy) h)
       ·exact .inl (by rw[<-h];exact Dm y hy)
      ·rw[List.mem_singleton.1 hy];exact iT) hB
     rw[AE,Bt,hn]at this;exact this
    ·rw[Bool.not_eq_true]at hz;have eb:I8 l k ((n+1:Nat):Int)=some (.inl (n:Int)):=by
      unfold I8;rw[if_pos (by rw[Aq];omega),w1,g1,Aa,if_pos (by rw[show(Op.bytesLess z k||z==k)=false from hz];simp)]
     rw[L4 (body:=λs:Int=>I8 l k s) eb];have Gl:bl z k=false/\z≠k:=by simpa using hz
     refine ih A' (z::B) hn (by rw[<-e];simp) λy hy=> ?_;rcases Ad.1 hy with rfl|hy
     ·exact PQ Gl.1 Gl.2
     ·exact hB y hy
 exact key l.length l [] rfl (by simp) (by simp)
theorem pG:∀(ks o:List Az),HV o->HV (ks.foldl (λo k=>Dk k o) o)/\((∀y,y∈ks.foldl (λo k=>Dk k o) o↔y∈ks\/y∈o)/\(ks.foldl (λo k=>Dk k o) o).length<=ks.length+o.length)
 | [],o,h=>⟨h,by simp,by simp⟩
 |k::ks,o,h=>by
  obtain⟨a,b,c⟩:=pG ks (Dk k o) (cK h);refine⟨a,λy=> ?_,?_⟩
  ·rw[List.foldl_cons,b,zxn h];simp only[Ad];constructor
   ·rintro(x|x|x)
    ·exact .inl (.inr x)
    ·exact .inl (.inl x)
    ·exact .inr x
   ·rintro((x|x)|x)
    ·exact .inr (.inl x)
    ·exact .inl x
    ·exact .inr (.inr x)
  ·have:=PW (key:=λs:Az=>s) (x:=k) o;unfold Dk at c;rw[List.foldl_cons,AR];unfold Dk;omega
theorem fN:∀a b:Az,bl a b=true↔a<b
 | [],[]=>by simp[bl,Op.bytesLess]
 | [],_::_=>by simp[bl,Op.bytesLess]
 |_::_,[]=>by simp[bl,Op.bytesLess]
 |x::a,y::b=>by rw[WU,List.cons_lt_cons_iff,fN a b,UInt8.lt_iff_toNat_lt]
theorem zz8(a b:Az):a<=b↔OL a b:=by
 unfold OL;constructor
 ·intro h;cases hb:bl b a with
  |false=>rfl
  |true=>exact absurd ((fN b a).1 hb) (List.not_lt.2 h)
 ·intro h;rw[<-List.not_lt];intro hl;rw[(fN b a).2 hl]at h;cases h
theorem zqi(xs:List Az):(Gi xs).Pairwise OL:=by
 have h:=List.pairwise_mergeSort (le:=λx y:Az=>decide (x<=y)) (λa b c h1 h2=>by
   simp only[Aq]at h1 h2 ⊢;exact List.le_trans h1 h2)
  (λa b=>by simp only[Bool.or_eq_true,Aq];exact List.le_total a b) xs
 refine List.Pairwise.imp (λ{a b} h=> ?_) h;exact(zz8 a b).1 (of_decide_eq_true h)
theorem zqH{xs zs:List Az}(hz:HV zs)(h:∀y,y∈zs↔y∈xs):Lib.compact (Gi xs)=zs:=by obtain⟨h1,h2⟩:=zq0 (zqi xs);refine Da.ext h1 hz λy=> ?_;rw[h2,h,(nH xs).mem_iff]
theorem bL{α β:Type}(q:α->Bool)(f:α->List β):∀(xs:List α) (acc:List β),xs.foldlM (m:=Option) (λacc x=>if q x=true then none else some (acc++f x)) acc=if xs.any q=true then none else some (acc++xs.flatMap f)
 | [],acc=>by simp
 |x::xs,acc=>by
  rw[List.foldlM_cons,List.any_cons];by_cases hq:q x=true
  ·rw[if_pos hq,hq];rfl
  ·rw[if_neg hq];show xs.foldlM _ (acc++f x)=_;rw[bL q f xs (acc++f x)];simp[hq,List.append_assoc]
theorem lC{α σ:Type}(q:α->Bool)(f:σ->α->σ):∀(xs:List α) (acc:σ),xs.foldlM (m:=Option) (λacc x=>if q x=true then none else some (f acc x)) acc=if xs.any q=true then none else some (xs.foldl f acc)
 | [],acc=>by simp
 |x::xs,acc=>by
  rw[List.foldlM_cons,List.any_cons];by_cases hq:q x=true
  ·rw[if_pos hq,hq];rfl
  ·rw[if_neg hq];show xs.foldlM _ (f acc x)=_;rw[lC q f xs (f acc x)];simp[hq]
def Hd(l:List Ag)(w:Ak):Bool:=match Gg l w.ae with|some c=>decide (16<=c.al.length)|none=>false
def J8(h:AU):Prop:=h.ao.length<=8/\(h.af.length<=8/\EE h.af)
def FX(w:Ak):Az:=w.ae
def DD(hs:List AU):List Ak:=hs.flatMap (·.af)
def WX(l:List Ag)(ws:List Ak):List Az:=l.map ck++ws.map FX
def Qq(l:List Ag)(ws:List Ak):Bool:= !(ws.any (Hd l))&&decide (((WX l ws).foldl (λo k=>Dk k o) []).length<=24)
theorem cX:∀{hs:List AU},(∀h∈hs,J8 h)->(DD hs).length<=8*hs.length
 | [],_=>by simp[DD]
 |h::hs,ho=>by have h1:=(ho h (by simp)).2.1;have h2:=cX (hs:=hs) λx hx=>ho x (by simp[hx]);unfold DD at h2 ⊢;rw[List.flatMap_cons,AE,AR];omega
theorem zy3{s:Am}{hs:List AU}(h:DF 24 s.aj)(hl:hs.length<=13)(ho:∀h∈hs,J8 h):U8 s hs=some (decide (hs.length<=12)&&Qq s.aj (DD hs)):=by
 obtain⟨hr,Ar,hc⟩:=h;unfold U8;have l1:=(GD (xs:=s.aj) (body:=λz:Int × List Az=>OQ s hs z.1 z.2) (λi z=>(i,z)) (λo c=>o++ [ck c]) (λo=>Zz s hs o) (λi o=>o.length=i)
  (λi hi o hol=>by refine⟨?_,by simp[hol]⟩;show OQ s hs (i:Int) o=_;unfold OQ;rw[if_pos (by simpa using hi),AW hi,Aa,A8 (by simp only[Bt];omega),Ct (by omega)])
  (λo hol=>by show OQ s hs (s.aj.length:Int) o=_;unfold OQ;rw[if_neg (by simp)]) (s:=[]) rfl).1
 refine l1.trans ?_;have e1:=foldl_map ck s.aj [];rw[e1,List.nil_append];unfold Zz;have inner:∀(i:Nat) (y:AU) (acc:List Az),J8 y->acc.length<=1000->i<=100->LZ s hs (i:Int) acc=LZ s hs (i:Int) acc->AG (λz:Int × List Az=>Nu s (i:Int) y z.1 z.2) (0,acc)=some (if y.af.any (Hd s.aj)=true then .inr (some false)else .inl (((i+1:Nat):Int),acc++y.af.map FX)):=by
  intro i y acc hy ha hi _;have hy8:=hy.2.1;have key:=PX (xs:=y.af) (body:=λz:Int × List Az=>Nu s (i:Int) y z.1 z.2) (λj z=>((j:Int),z)) (λacc w=>if Hd s.aj w=true then none else some (acc++ [FX w])) (some (.inr (some false))) (λz=>US (i:Int) z) (λj z=>z.length<=1000+j)
   (λj z hj hz=>by
    refine⟨?_,λa ha=> ?_⟩
    ·show Nu s (i:Int) y (j:Int) z=_;unfold Nu;rw[if_pos (by simpa using hj),AW hj,Aa,pQ (by omega) hr,Aa,Ct (by omega)];unfold Hd;rcases V2 hr y.af[j].ae with⟨hp,hk,hf⟩|⟨_,hf,_⟩
     ·rw[hf];simp only[Option.isSome_some,if_true];rw[AW hp,Aa];by_cases QN:16<=(s.aj[Bn s.aj y.af[j].ae]).al.length
      ·rw[if_pos (by simp;omega),if_pos (by simpa using QN)]
      ·rw[if_neg (by simp;omega),if_neg (by simpa using QN),A8 (by simp only[Bt];omega)];rfl
     ·rw[hf];simp only[Option.isSome_none,Bv,if_false];rw[A8 (by simp only[Bt];omega)];rfl
    ·split at ha
     ·cases ha
     ·cases ha;simp;omega)
   (λz _=>by show Nu s (i:Int) y (y.af.length:Int) z=_;unfold Nu;rw[if_neg (by simp)]) acc (by omega)
  refine key.trans ?_;rw[bL];by_cases hq:y.af.any (Hd s.aj)=true
  ·rw[if_pos hq,if_pos hq]
  ·rw[if_neg hq,if_neg hq];show US (i:Int) _=_;unfold US;rw[Ct (by omega)];have e:∀l:List Ak,(l.flatMap λw=> [FX w])=l.map FX:=λl=>by induction l with|nil=>rfl|cons x l ih=>rw[List.flatMap_cons,ih];rfl
   rw[e]
 have key:=PX (xs:=hs) (body:=λz:Int × List Az=>LZ s hs z.1 z.2) (λj z=>((j:Int),z)) (λacc y=>if y.af.any (Hd s.aj)=true then none else some (acc++y.af.map FX)) (some false) (λz=>UP hs z) (λj z=>z.length<=24+8*j)
  (λj z hj hz=>by
   have hy:=ho _ (AO hj);refine⟨?_,λa ha=> ?_⟩
   ·show LZ s hs (j:Int) z=_;have:=inner j hs[j] z hy (by omega) (by omega) rfl;unfold LZ;rw[if_pos (by simpa using hj),AW hj,Aa];refine this.trans ?_;split<;>rfl
   ·split at ha
    ·cases ha
    ·cases ha;have:=hy.2.1;rw[AE,List.length_map];omega)
  (λz _=>by show LZ s hs (hs.length:Int) z=_;unfold LZ;rw[if_neg (by simp)]) (s.aj.map ck) (by simp;omega)
 refine key.trans ?_;rw[bL (λy:AU=>y.af.any (Hd s.aj)) (λy=>y.af.map FX)];have ea:(hs.any λy=>y.af.any (Hd s.aj))=(DD hs).any (Hd s.aj):=by unfold DD;rw[List.any_flatMap]
 have eb:(hs.flatMap λy=>y.af.map FX)=(DD hs).map FX:=by unfold DD;rw[List.map_flatMap]
 rw[ea,eb];unfold Qq;by_cases hq:(DD hs).any (Hd s.aj)=true
 ·rw[if_pos hq,hq];simp
 ·rw[if_neg hq];have Jy:=cX ho;show UP hs _=_;unfold UP UG UJ;rw[A8 (by rw[AE,List.length_map,List.length_map];omega),Aa];obtain⟨g1,g2,_⟩:=pG (WX s.aj (DD hs)) [] List.Pairwise.nil;have e:=zqH (xs:=s.aj.map ck++(DD hs).map FX) g1 λy=>by rw[g2];simp[WX]
  by_cases Gl:hs.length<=12
  ·rw[if_pos (by simp;omega),Aa];show some (decide (((Lib.compact (Gi (s.aj.map ck++(DD hs).map FX))).length:Int)<=24))=_;rw[e];simp[hq,Gl];omega
  ·rw[if_neg (by simp;omega)];simp[Gl]
theorem qL(k:Az)(l:List Az):(Dk k l).length<=l.length+1:=PW l
theorem rQ{s:Am}{ws:List Ak}(h:DF 24 s.aj)(hl:s.ah.length<=12)(ho:∀h∈s.ah,J8 h)(hw:ws.length<=8):SF s ws=some (Qq s.aj (ws++DD s.ah)):=by
 obtain⟨hr,Ar,hc⟩:=h;unfold SF;have l1:=GD (xs:=s.aj) (body:=λz:List Az × Int=>Po s ws z.1 z.2) (λi z=>(z,i)) (λo c=>Dk (ck c) o) (λo=>Z1 s ws o) (λi o=>HV o/\o.length<=i)
  (λi hi o hol=>by have hn:=qL (ck s.aj[i]) o;refine⟨?_,cK hol.1,by omega⟩;show Po s ws o (i:Int)=_;unfold Po;rw[if_pos (by simpa using hi),AW hi,Aa,rR (by omega) hol.1,Aa,Ct (by omega)])
  (λo hol=>by show Po s ws o (s.aj.length:Int)=_;unfold Po;rw[if_neg (by simp)]) (s:=[]) ⟨List.Pairwise.nil,by simp⟩
 refine l1.1.trans ?_;obtain⟨r1,r2⟩:=l1.2;unfold Z1;rw[A8 (by simp only[List.length_nil];omega)];have l2:=(GD (xs:=s.ah) (body:=λz:Int × List Ak=>Pp s (s.aj.foldl (λo c=>Dk (ck c) o) []) z.1 z.2) (λi z=>(i,z)) (λo y=>o++y.af) (λo=>Z4 s (s.aj.foldl (λo c=>Dk (ck c) o) []) o) (λi o=>o.length<=8+8*i)
  (λi hi o hol=>by have hy:=(ho _ (AO hi)).2.1;refine⟨?_,by rw[AE];omega⟩;show Pp s _ (i:Int) o=_;unfold Pp;rw[if_pos (by simpa using hi),AW hi,Aa,A8 (by omega),Ct (by omega)])
  (λo hol=>by show Pp s _ (s.ah.length:Int) o=_;unfold Pp;rw[if_neg (by simp)]) (s:=ws) (by omega)).1
 refine l2.trans ?_;have eh:∀(hs:List AU) (o:List Ak),hs.foldl (λo y=>o++y.af) o=o++DD hs:=by
  intro hs
  induction hs with
  |nil=>intro o;simp[DD]
  |cons x hs ih=>intro o;rw[List.foldl_cons,ih];simp[DD]
 rw[eh];have hhl:=cX ho;unfold Z4;have key:=PX (xs:=ws++DD s.ah) (body:=λz:List Az × Int=>OW s (ws++DD s.ah) z.1 z.2) (λi z=>(z,(i:Int))) (λacc w=>if Hd s.aj w=true then none else some (Dk (FX w) acc)) (some false) (λz=>UT z) (λi z=>HV z/\z.length<=24+i)
  (λi z hi hz=>by
   have H4:=hi;rw[AE]at H4;refine⟨?_,λa ha=> ?_⟩
   ·show OW s (ws++DD s.ah) z (i:Int)=_;unfold OW;rw[if_pos (by simp only[Aq];omega),AW hi,Aa,rR (by omega) hz.1,Aa,Ct (by omega)];unfold Hd;obtain⟨j,e,⟨h1,h2⟩|⟨h1,c,h2,h3⟩⟩:=sI (l:=s.aj) (k:=(ws++DD s.ah)[i].ae) (by omega) hr
    ·rw[e,Aa,if_neg (by simpa using h1),h2];rfl
    ·rw[e,Aa,if_pos (by simpa using h1),h2,Aa,h3];by_cases QN:16<=c.al.length
     ·rw[if_pos (by simp;omega),if_pos (by simpa using QN)]
     ·rw[if_neg (by simp;omega),if_neg (by simpa using QN)];rfl
   ·split at ha
    ·cases ha
    ·cases ha;have hn:=qL (FX (ws++DD s.ah)[i]) z;exact⟨cK hz.1,by omega⟩)
  (λz _=>by show OW s (ws++DD s.ah) z ((ws++DD s.ah).length:Int)=_;unfold OW;rw[if_neg (by simp)]) (s.aj.foldl (λo c=>Dk (ck c) o) []) ⟨r1,by omega⟩
 refine key.trans ?_;rw[lC (Hd s.aj) (λacc w=>Dk (FX w) acc)];unfold Qq;by_cases hq:(ws++DD s.ah).any (Hd s.aj)=true
 ·rw[if_pos hq,hq];simp
 ·rw[if_neg hq];show UT _=_;unfold UT WX;have e:(s.aj.map ck++(ws++DD s.ah).map FX).foldl (λo k=>Dk k o) []=(ws++DD s.ah).foldl (λacc w=>Dk (FX w) acc) (s.aj.foldl (λo c=>Dk (ck c) o) []):=by
   rw[List.foldl_append,List.foldl_map (f:=ck),List.foldl_map (f:=FX)]
  rw[e,Bool.eq_false_iff.2 hq];simp only[Bool.not_false,Bool.true_and,Ac,decide_eq_decide];omega
theorem mD(ws:List Ak)(k:Az):HN ws k=(ws.find? λw=>w.ae==k).isSome:=by unfold HN;rw[PY]
theorem mO{ws os:List Ak}{rs:List Az}(hw:ws.length<=2000000)(hr:rs.length<=2000000)(ho:os.length<=2000000)(hR:EE os):SJ ws rs os=some (CK ws rs os):=by
 unfold SJ;rw[Mb (xs:=ws) (λw=>HN os w.ae||rs.contains w.ae) (λw _=> ?_) (by omega),Aa]
 ·rfl
 ·unfold aB;obtain⟨i,⟨e,x,_,h⟩|⟨e,h⟩⟩:=zyX (k:=w.ae) ho hR
  ·rw[e,Aa,mD,h];rfl
  ·rw[e,Aa,mD,h,zzB hr];simp
theorem dV{h:AU}{rs:List Az}{ws:List Ak}(hh:J8 h)(hr:rs.length<=8)(hw:ws.length<=8):Pl h rs ws=some (!Fq h rs ws):=by
 obtain⟨h1,h2,h3⟩:=hh;unfold Pl;have k1:UY h ws=some (!CK ws h.ao h.af):=by
  unfold UY;refine(NP (xs:=ws) (λw=>HN h.af w.ae||h.ao.contains w.ae) (λ_=>some false) (some true) (λi hi=>by
   unfold ZV;rw[if_pos (by simpa using hi),AW hi,Aa,rX (by omega),Aa,Ct (by omega)];cases HN h.af ws[i].ae with
   |true=>rfl
   |false=>
    rw[if_neg (by simp),zzD (by omega),Aa,Bool.false_or];have e:h.ao.any (· ==ws[i].ae)=h.ao.contains ws[i].ae:=by rw[Bool.eq_iff_iff,List.any_eq_true,List.contains_iff_mem];exact⟨λ⟨x,hx,he⟩=>(show x=ws[i].ae by simpa using he)▸hx,λhm=>⟨_,hm,by simp⟩⟩
    rw[e];cases h.ao.contains ws[i].ae<;>rfl) (by
   unfold ZV;rw[if_neg (by simp)])).trans ?_
  unfold CK;rw[<-PY];cases ws.find? (λw=>HN h.af w.ae||h.ao.contains w.ae)<;>rfl
 refine(NP (xs:=rs) (λr=>HN h.af r) (λ_=>some false) (UY h ws) (λi hi=>by
  unfold ZI;rw[if_pos (by simpa using hi),AW hi,Aa,rX (by omega),Aa,Ct (by omega)];cases HN h.af rs[i]<;>rfl) (by
  unfold ZI;rw[if_neg (by simp)])).trans ?_
 have e:Fq h rs ws=(rs.any (HN h.af)||CK ws h.ao h.af):=by
  unfold Fq;rw[Bool.eq_iff_iff,Bool.or_eq_true,Bool.or_eq_true];constructor
  ·rintro(hc|hc)
   ·obtain⟨w,OH,RY⟩:=List.any_eq_true.1 hc;rcases Bool.or_eq_true _ _▸RY with hq|hq
    ·obtain⟨v,E8,CQ⟩:=List.any_eq_true.1 hq;have CQ:v.ae=w.ae:=by simpa using CQ
     exact .inr (List.any_eq_true.2 ⟨v,E8,by rw[Bool.or_eq_true];left;exact List.any_eq_true.2 ⟨w,OH,by simp[CQ]⟩⟩)
    ·exact .inl (List.any_eq_true.2 ⟨w.ae,List.contains_iff_mem.1 hq,List.any_eq_true.2 ⟨w,OH,by simp⟩⟩)
   ·exact .inr hc
  ·rintro(hc|hc)
   ·obtain⟨r,F6,Dz⟩:=List.any_eq_true.1 hc;obtain⟨w,OH,RY⟩:=List.any_eq_true.1 Dz;have RY:w.ae=r:=by simpa using RY
    exact .inl (List.any_eq_true.2 ⟨w,OH,by rw[Bool.or_eq_true];right;exact List.contains_iff_mem.2 (RY▸F6)⟩)
   ·exact .inr hc
 rw[k1,e,<-PY];cases rs.find? (HN h.af)<;>rfl
def Qt(s:Am)(rs:List Az)(ws:List Ak):Bool:= !(s.ah.any λh=>Fq h rs ws)&&(decide (s.ah.length<12)&&Qq s.aj (ws++DD s.ah))
theorem zyC{s:Am}{rs:List Az}{ws:List Ak}(h:DF 24 s.aj)(hl:s.ah.length<=12)(ho:∀h∈s.ah,J8 h)(hr:rs.length<=8)(hw:ws.length<=8):VA s rs ws=some (Qt s rs ws):=by
 unfold VA;refine(NP (xs:=s.ah) (λh=>Fq h rs ws) (λ_=>some false) (UZ s ws) (λi hi=>by
  unfold ZP;rw[if_pos (by simpa using hi),AW hi,Aa,dV (ho _ (AO hi)) hr hw,Aa,Ct (by omega),Bool.not_not];cases Fq s.ah[i] rs ws<;>rfl) (by
  unfold ZP;rw[if_neg (by simp)])).trans ?_
 unfold Qt;rw[<-PY];cases s.ah.find? (λh=>Fq h rs ws)with
 |some y=>rfl
 |none=>
  show UZ s ws=_;unfold UZ;rw[rQ h hl ho hw];by_cases Gl:s.ah.length<12
  ·rw[if_pos (by simp;omega)];simp[Gl]
  ·rw[if_neg (by simp;omega)];simp[Gl]
structure WS(s:Am):Prop where
 cells:DF 24 s.aj
 jj:s.ah.length<=12
 dw:Dh hk s.ah
 held:∀h∈s.ah,J8 h/\Tk h.af
 er:Dh tk s.az
 told:∀t∈s.az,1<=tk t/\tk t<=60
structure Jt(r:Bj):Prop where
 reads:r.ao.length<=8
 writes:r.af.length<=8
 dw:EE r.af
 small:Tk r.af
 time:r.a8≠1->r.a8≠4->r.cq=true->0<r.ab
 mf:r.a8≠4->1<=r.ay/\r.ay<=60
theorem WS.ed{s:Am}(h:WS s):s.az.length<=60:=by have:=Dh.len (lo:=1) (hi:=60) h.er h.told;omega
def Xi(r:Bj):AU:=⟨r.ay,r.ab,r.bp,r.ao,r.af⟩
def Lb(l:List AU)(t:Int):List AU:=l.filter λh=>decide (hk h≠t)
def Qy(s:Am)(r:Bj):List CH:=FE tk ⟨r.ay,r.cq,r.ab⟩ s.az
def DV(s:Am)(r:Bj):Option Am:=
 if r.a8=4 then(if s.aw<r.ab then some ⟨r.ab,s.aj,s.ah,s.az⟩else none)
 else if(JQ s r.ay).isSome=true then none
 else if r.a8=1 then
  (if(Fp s r.ay).isSome=true then none
  else if r.ab<=s.aw then none
  else if Qt s r.ao r.af=true then some ⟨r.ab,s.aj,FE hk (Xi r) s.ah,s.az⟩else none)
 else if r.cq=true then
  (match Fp s r.ay with
  |none=>none
  |some h=>if r.ab<h.ab then none else match QJ s.aj h.af r.ab with
   |none=>none
   |some o=>some ⟨if s.aw<r.ab then r.ab else s.aw,o,Lb s.ah r.ay,Qy s r⟩)
 else some ⟨s.aw,s.aj,Lb s.ah r.ay,Qy s r⟩
theorem nV{s:Am}{t:Int}(h: ¬(JQ s t).isSome=true):∀y∈s.az,tk y≠t:=by
 intro y hy e;have h:(JQ s t)=none:=by cases hq:JQ s t with|none=>rfl|some x=>rw[hq]at h;exact absurd rfl h
 have:=List.find?_eq_none.1 h y hy;simp[e]at this
theorem nQ{s:Am}{t:Int}(h: ¬(Fp s t).isSome=true):∀y∈s.ah,hk y≠t:=by
 intro y hy e;have h:(Fp s t)=none:=by cases hq:Fp s t with|none=>rfl|some x=>rw[hq]at h;exact absurd rfl h
 have:=List.find?_eq_none.1 h y hy;simp[e]at this
theorem DF.di{n:Nat}{l:List Ag}(h:DF n l)(hg:Ck l=true):DF 24 l:=by unfold Ck at hg;simp only[Ab,Aq,A7]at hg;obtain⟨h1,h2,_⟩:=hg;refine⟨h.1,by omega,λc hc=> ?_⟩;obtain⟨a,b,d⟩:=h.2.2 c hc;have:=h2 c hc;unfold EV FV at this;simp only[Ab]at this;have h3:=this.2.1;unfold Bq at h3;simp only[Ab,Aq]at h3;exact⟨a,by omega,d⟩
theorem zy8{l o:List Ag}{ws:List Ak}{t:Int}(h:DF 24 l)(hw:Tk ws)(e:QJ l ws t=some o):DF 24 o:=by
 unfold QJ at e;cases h1:Jp t l ws with
 |none=>rw[h1]at e;cases e
 |some p=>
  rw[h1]at e;have e:(if Ck p=true then some p else none)=some o:=e;by_cases hg:Ck p=true
  ·rw[if_pos hg]at e;cases e;exact DF.di (rU (by have:=hw.1;omega) hw.2 h h1) hg
  ·rw[if_neg hg]at e;cases e
theorem WS.less{s:Am}(h:WS s)(t:Int):(Lb s.ah t).length<=12/\Dh hk (Lb s.ah t)/\ ∀h∈Lb s.ah t,J8 h/\Tk h.af:=
 ⟨by have:=List.length_filter_le (λh=>decide (hk h≠t)) s.ah;have:=h.jj;unfold Lb;omega,h.dw.filter _,λy hy=>h.held y (List.mem_filter.1 hy).1⟩
theorem WS.ll{s:Am}{r:Bj}(h:WS s)(hr:Jt r)(h4:r.a8≠4)(hn:∀y∈s.az,tk y≠r.ay):Dh tk (Qy s r)/\ ∀t∈Qy s r,1<=tk t/\tk t<=60:=
 ⟨h.er.ins hn,λt ht=>by
  rcases Tb.1 ht with rfl|ht
  ·exact hr.mf h4
  ·exact h.told t ht⟩
theorem zw3{s s':Am}{r:Bj}(h:WS s)(hr:Jt r)(e:DV s r=some s'):WS s':=by
 unfold DV at e;split at e
 ·split at e
  ·cases e;exact⟨h.cells,h.jj,h.dw,h.held,h.er,h.told⟩
  ·cases e
 ·rename_i h4;split at e
  ·cases e
  ·rename_i Hw;have hn:=nV Hw;split at e
   ·split at e
    ·cases e
    ·rename_i Ko;split at e
     ·cases e
     ·split at e
      ·rename_i hf;cases e;have Gl:s.ah.length<12:=by
        unfold Qt at hf;simp only[Ab,Aq]at hf;exact hf.2.1
       refine⟨h.cells,by rw[pK];omega,h.dw.ins (nQ Ko),λy hy=> ?_,h.er,h.told⟩;rcases Tb.1 hy with rfl|hy
       ·exact⟨⟨hr.reads,hr.writes,hr.dw⟩,hr.small⟩
       ·exact h.held y hy
      ·cases e
   ·obtain⟨l1,l2,l3⟩:=h.less r.ay;obtain⟨t1,t2⟩:=h.ll hr h4 hn;split at e
    ·split at e
     ·cases e
     ·rename_i x hx;split at e
      ·cases e
      ·split at e
       ·cases e
       ·rename_i o ho;cases e;exact⟨zy8 h.cells (h.held x (List.mem_of_find?_eq_some hx)).2 ho,l1,l2,l3,t1,t2⟩
    ·cases e;exact⟨h.cells,l1,l2,l3,t1,t2⟩
theorem ztF{h:AU}(hh:J8 h):UU h=some h:=by obtain⟨h1,h2,_⟩:=hh;unfold UU;rw[Xf (by omega),Aa,A8 (by simp only[List.length_nil];omega)]
theorem zwF{s:Am}(h:WS s):VX s=some s:=by
 have hT:=h.ed;have hf:=h.jj;unfold VX;rw[rW h.cells,Aa,A8 (by simp only[List.length_nil];omega)];refine((GD (xs:=s.ah) (body:=λz:Int × List AU=>Pv s s.aj z.1 z.2) (λi z=>(i,z)) (λo c=>o++ [c]) (λo=>some (⟨s.aw,s.aj,o,s.az⟩:Am)) (λi o=>o.length=i)
  (λi hi o ho=>by refine⟨?_,by simp[ho]⟩;show Pv s s.aj (i:Int) o=_;unfold Pv;rw[if_pos (by simpa using hi),AW hi,Aa,ztF (h.held _ (AO hi)).1,Aa,A8 (by simp only[Bt];omega),Ct (by omega)])
  (λo ho=>by show Pv s s.aj (s.ah.length:Int) o=_;unfold Pv;rw[if_neg (by simp)]) (s:=[]) rfl).1).trans ?_
 have e:=foldl_map (λc:AU=>c) s.ah [];simp only[List.map_id',List.nil_append]at e;rw[e]
theorem zxf{s:Am}{r:Bj}(h:WS s)(hr:Jt r):∃x,Vf s r=some (x,(DV s r).isSome)/\ ∀s',DV s r=some s'->x=s':=by
 have hf:=h.jj;have hT:=h.ed;have hrl:=hr.reads;have iN:=hr.writes;unfold Vf;rw[zwF h,Aa,oD (by omega),Aa,zvR (by omega),Aa];by_cases h4:r.a8=4
 ·rw[if_pos (by simpa using h4)];unfold DV;rw[if_pos h4];refine⟨⟨r.ab,s.aj,s.ah,s.az⟩,?_,?_⟩
  ·by_cases C6:s.aw<r.ab
   ·rw[if_pos C6];simp[C6]
   ·rw[if_neg C6];simp[C6]
  ·intro s' e;split at e
   ·cases e;rfl
   ·cases e
 ·rw[if_neg (by simpa using h4)];by_cases Hw:(JQ s r.ay).isSome=true
  ·have ea:DV s r=none:=by unfold DV;rw[if_neg h4,if_pos Hw]
   rw[ea];cases hq:JQ s r.ay with
   |none=>rw[hq]at Hw;cases Hw
   |some x=>exact⟨s,rfl,λs' e=>by cases e⟩
  ·have YY:JQ s r.ay=none:=by cases hq:JQ s r.ay with|none=>rfl|some x=>rw[hq]at Hw;exact absurd rfl Hw
   have hn:=nV Hw;rw[YY];simp only[Bv,if_false];by_cases h1:r.a8=1
   ·rw[if_pos (by simpa using h1),Xf (by omega),Aa,A8 (by simp only[List.length_nil];omega)];obtain⟨l,IP,Jy⟩:=ztY (l:=s.ah) (h:=Xi r) (by omega) h.dw;rw[show(⟨r.ay,r.ab,r.bp,r.ao,r.af⟩:AU)=Xi r from rfl,IP,Aa];by_cases Ko:(Fp s r.ay).isSome=true
    ·have ea:DV s r=none:=by unfold DV;rw[if_neg h4,if_neg Hw,if_pos h1,if_pos Ko]
     rw[ea];cases hq:Fp s r.ay with
     |none=>rw[hq]at Ko;cases Ko
     |some x=>exact⟨_,rfl,λs' e=>by cases e⟩
    ·have uO:Fp s r.ay=none:=by cases hq:Fp s r.ay with|none=>rfl|some x=>rw[hq]at Ko;exact absurd rfl Ko
     have ea:DV s r=if r.ab<=s.aw then none else if Qt s r.ao r.af=true then some ⟨r.ab,s.aj,FE hk (Xi r) s.ah,s.az⟩else none:=by unfold DV;rw[if_neg h4,if_neg Hw,if_pos h1,if_neg Ko]
     rw[ea,uO];simp only[Bv,if_false];by_cases Kx:r.ab<=s.aw
     ·rw[if_neg (by simpa using Kx),if_pos Kx];exact⟨_,rfl,λs' e=>by cases e⟩
     ·rw[if_pos (by simpa using Kx),if_neg Kx,zyC h.cells hf (λy hy=>(h.held y hy).1) hr.reads hr.writes,Aa];cases Cr:Qt s r.ao r.af with
      |false=>exact⟨_,rfl,λs' e=>by cases e⟩
      |true=>rw[Jy (nQ Ko)];exact⟨_,rfl,λs' e=>by cases e;rfl⟩
   ·rw[if_neg (by simpa using h1)];obtain⟨tl,LQ,JA⟩:=ztl (l:=s.az) (h:=⟨r.ay,r.cq,r.ab⟩) (by omega) h.er;have JA:=JA hn;by_cases hy:r.cq=true
    ·rw[if_pos hy];cases hq:Fp s r.ay with
     |none=>
      have ea:DV s r=none:=by unfold DV;rw[if_neg h4,if_neg Hw,if_neg h1,if_pos hy,hq]
      rw[ea];exact⟨_,rfl,λs' e=>by cases e⟩
     |some x=>
      have ea:DV s r=if r.ab<x.ab then none else match QJ s.aj x.af r.ab with
       |none=>none
       |some o=>some ⟨if s.aw<r.ab then r.ab else s.aw,o,Lb s.ah r.ay,Qy s r⟩:=by unfold DV;rw[if_neg h4,if_neg Hw,if_neg h1,if_pos hy,hq]<;>rfl
      rw[ea];simp only[Bool.not_true,Bool.false_or];by_cases Kx:r.ab<x.ab
      ·rw[if_pos (by simpa using Kx),if_pos Kx];exact⟨_,rfl,λs' e=>by cases e⟩
      ·rw[if_neg (by simpa using Kx),if_neg Kx,zyn h.cells (h.held x (List.mem_of_find?_eq_some hq)).2 (hr.time h1 h4 hy),Aa];unfold QJ;cases ho:Jp r.ab s.aj x.af with
       |none=>exact⟨_,rfl,λs' e=>by cases e⟩
       |some o=>
        cases hg:Ck o with
        |false=>simp only[hg,Bool.not_false,if_true];exact⟨_,rfl,λs' e=>by cases e⟩
        |true=>
         simp only[hg,Bool.not_true,Bv,if_false,if_true];have Rw:L1 s.aw r.ab=some (if s.aw<r.ab then r.ab else s.aw):=by
          unfold L1;by_cases C6:s.aw<r.ab
          ·rw[if_pos C6,if_neg (by simp;omega)]
          ·rw[if_neg C6];by_cases MR:s.aw>r.ab
           ·rw[if_pos (by simpa using MR)]
           ·rw[if_neg (by simpa using MR)];rw[show r.ab=s.aw by omega]
         rw[Rw,Aa,qS (by omega),Aa,LQ,Aa,JA];exact⟨_,rfl,λs' e=>by cases e;rfl⟩
    ·have ea:DV s r=some ⟨s.aw,s.aj,Lb s.ah r.ay,Qy s r⟩:=by unfold DV;rw[if_neg h4,if_neg Hw,if_neg h1,if_neg hy]
     rw[if_neg hy,ea,qS (by omega),Aa,LQ,Aa,JA];exact⟨_,rfl,λs' e=>by cases e;rfl⟩
def Ip:Am:=⟨0,[],[],[]⟩
def GJ(s:Am)(r:Bj):Am:=(DV s r).getD s
def sX(rs:List Bj):Am:=rs.foldl GJ Ip
theorem Uu:WS Ip where
 cells:=⟨List.Pairwise.nil,by simp[Ip],λc hc=>by simp[Ip]at hc⟩
 jj:=by simp[Ip]
 dw:=List.Pairwise.nil
 held:=λh hh=>by simp[Ip]at hh
 er:=List.Pairwise.nil
 told:=λh hh=>by simp[Ip]at hh
theorem WS.step{s:Am}{r:Bj}(h:WS s)(hr:Jt r):WS (GJ s r):=by
 unfold GJ;cases e:DV s r with
 |none=>exact h
 |some s'=>exact zw3 h hr e
theorem pY:∀(rs:List Bj) (s:Am),WS s->(∀r∈rs,Jt r)->WS (rs.foldl GJ s)
 | [],s,h,_=>h
 |r::rs,s,h,hr=>pY rs (GJ s r) (h.step (hr r (by simp))) λx hx=>hr x (by simp[hx])
theorem zu1{rs:List Bj}(hr:∀r∈rs,Jt r):WS (sX rs):=pY rs _ Uu hr
theorem o7:∀(rs:List Bj) (s:Am) (b:List Bool),(rs.foldl (λ(z:Am × List Bool) r=>(GJ z.1 r,z.2++ [(DV z.1 r).isSome])) (s,b)).1=rs.foldl GJ s
 | [],_,_=>rfl
 |r::rs,s,b=>o7 rs (GJ s r) _
theorem xV{rs:List Bj}(hl:rs.length<=1000000)(hr:∀r∈rs,Jt r):∃b,V4 rs=some (sX rs,b):=by
 refine⟨(rs.foldl (λ(z:Am × List Bool) r=>(GJ z.1 r,z.2++ [(DV z.1 r).isSome])) (Ip,[])).2,?_⟩;unfold V4;have:=(GD (xs:=rs) (body:=λs:List Bool × Int × Int × List Ag × List AU × List CH=>Pj rs s.1 s.2.1 s.2.2.1 s.2.2.2.1 s.2.2.2.2.1 s.2.2.2.2.2) (λi (z:Am × List Bool)=>(z.2,i,z.1.aw,z.1.aj,z.1.ah,z.1.az)) (λz r=>(GJ z.1 r,z.2++ [(DV z.1 r).isSome])) (λz=>some (z.1,z.2)) (λi z=>WS z.1/\z.2.length=i)
  (λi hi z hz=>by
   have iG:=hr _ (AO hi);refine⟨?_,hz.1.step iG,by simp[hz.2]⟩;have OI:=hz.2;show Pj rs z.2 (i:Int) z.1.aw z.1.aj z.1.ah z.1.az=_;unfold Pj;obtain⟨x,e1,e2⟩:=zxf hz.1 iG;rw[if_pos (by simpa using hi),AW hi,Aa,show(⟨z.1.aw,z.1.aj,z.1.ah,z.1.az⟩:Am)=z.1 from rfl,e1,Aa,Ct (by omega)];unfold GJ;cases e:DV z.1 rs[i]with
   |none=>simp only[Option.isSome_none,Bv,if_false];rw[A8 (by simp only[Bt];omega)];rfl
   |some s'=>simp only[Option.isSome_some,if_true];rw[A8 (by simp only[Bt];omega),e2 s' e];rfl)
  (λz _=>by show Pj rs z.2 (rs.length:Int) z.1.aw z.1.aj z.1.ah z.1.az=_;unfold Pj;rw[if_neg (by simp)]) (s:=(Ip,[])) ⟨Uu,rfl⟩).1
 refine this.trans ?_;rw[o7];rfl
def Jo(a b:Int):Int:=if b<a then b else a
def PU(s:Am):Int:=s.ah.foldl (λv h=>Jo v (IntKind.i64.wrap (h.ab-1))) s.aw
theorem oT(a b:Int):SD a b=some (Jo a b):=by
 unfold SD Jo;by_cases h:b<a
 ·rw[if_pos h,if_neg (by simp;omega)]
 ·rw[if_neg h];by_cases h2:a<b
  ·rw[if_pos (by simpa using h2)]
  ·rw[if_neg (by simpa using h2),show b=a by omega]
theorem rN(a b:Int):(bif decide (b<a)then b else a)=Jo a b:=by unfold Jo;by_cases h:b<a<;>simp[h]
theorem ztE{s:Am}(h:s.ah.length<=1000):UR s=some (PU s):=by
 unfold UR;exact((GD (xs:=s.ah) (body:=λz:Int × Int=>OS s z.1 z.2) (λi v=>(v,i)) (λv h=>Jo v (IntKind.i64.wrap (h.ab-1))) (λv=>some v) (λ_ _=>True)
  (λi hi v _=>by refine⟨?_,trivial⟩;show OS s v (i:Int)=_;unfold OS;rw[if_pos (by simpa using hi),AW hi,Aa,Ct (by omega),rN])
  (λv _=>by show OS s v (s.ah.length:Int)=_;unfold OS;rw[if_neg (by simp)]) (s:=s.aw) trivial).1)
theorem ztt{s:Am}(h:s.ah.length<=1000):UX s=some (PU s):=by
 unfold UX;exact((GD (xs:=s.ah) (body:=λz:Int × Int=>Pa s z.1 z.2) (λi v=>(v,i)) (λv h=>Jo v (IntKind.i64.wrap (h.ab-1))) (λv=>some v) (λ_ _=>True)
  (λi hi v _=>by refine⟨?_,trivial⟩;show Pa s v (i:Int)=_;unfold Pa;rw[if_pos (by simpa using hi),AW hi,Aa,oT,Aa,Ct (by omega)])
  (λv _=>by show Pa s v (s.ah.length:Int)=_;unfold Pa;rw[if_neg (by simp)]) (s:=s.aw) trivial).1)
def toB(ss:List Am):Int:=ss.foldl (λv s=>Jo v (PU s)) 100000
theorem zvS{ss:List Am}(hl:ss.length<=1000)(h:∀s∈ss,WS s):VW ss=some (toB ss):=by
 unfold VW;exact((GD (xs:=ss) (body:=λz:Int × Int=>Ps ss z.1 z.2) (λi v=>(v,i)) (λv s=>Jo v (PU s)) (λv=>some v) (λ_ _=>True)
  (λi hi v _=>by have:=(h _ (AO hi)).jj;refine⟨?_,trivial⟩;show Ps ss v (i:Int)=_;unfold Ps;rw[if_pos (by simpa using hi),AW hi,Aa,ztE (by omega),Aa,Ct (by omega),rN])
  (λv _=>by show Ps ss v (ss.length:Int)=_;unfold Ps;rw[if_neg (by simp)]) (s:=100000) trivial).1)
def Gf(t:Int)(c:Ag):Option Ak:=if(Ft t c.al.reverse).2=true then some ⟨c.ae,(Ft t c.al.reverse).1,false⟩else none
def EF(l:List Ag)(t:Int):List Ak:=l.filterMap (Gf t)
theorem oB{α β:Type}(f:α->Option β):∀(l:List α) (o:List β),l.foldl (λo x=>o++(f x).toList) o=o++l.filterMap f
 | [],o=>by simp
 |x::l,o=>by rw[List.foldl_cons,oB f l,List.filterMap_cons];cases f x<;>simp
theorem ztK{l:List Ag}{t:Int}(h:DF 24 l):Vw l t=some (EF l t):=by
 have hl:=h.2.1;unfold Vw;refine((GD (xs:=l) (body:=λz:Int × List Ak=>OZ l t z.1 z.2) (λi z=>(i,z)) (λo c=>o++(Gf t c).toList) (λo=>some o) (λi o=>o.length<=i)
  (λi hi o ho=>by
   have hv:=(h.2.2 _ (AO hi)).2.1;have T7:Vl l[i] t=some (Ft t l[i].al.reverse):=A8 (by omega);unfold Gf;constructor
   ·show OZ l t (i:Int) o=_;unfold OZ;rw[if_pos (by simpa using hi),AW hi,Aa,T7,Aa,Ct (by omega)];by_cases hb:(Ft t l[i].al.reverse).2=true
    ·rw[if_pos hb,if_pos hb,A8 (by simp only[Bt];omega)];rfl
    ·rw[if_neg hb,if_neg hb];simp
   ·split
    ·simp;omega
    ·simp;omega)
  (λo _=>by show OZ l t (l.length:Int) o=_;unfold OZ;rw[if_neg (by simp)]) (s:=[]) (by simp)).1).trans ?_
 rw[oB (Gf t) l [],List.nil_append];rfl
theorem WA(t:Int):∀m:List B8,Ft t m=match m.find? (λv=>decide (v.ab<=t))with|some v=>(v.a7, !v.au)|none=>([],false)
 | []=>rfl
 |v::m=>by
  rw[Ft,List.find?_cons];by_cases h:v.ab<=t
  ·rw[if_pos h];simp[h]
  ·rw[if_neg h,WA t m];simp[h]
end
section
open Go.RowKit Go.Sort
set_option maxRecDepth 100000
theorem zwA{rows:List Ak}{c:Ai}(h:EE rows)(w:Ak):w∈F1 rows c↔(if w.ae=c.ae then c.au=false/\w=⟨c.ae,c.a7,false⟩else w∈rows):=by
 unfold F1;by_cases hg:c.au=true
 ·rw[if_pos hg,List.mem_filter];split
  ·rename_i e;simp[e,hg]
  ·rename_i e;simp[e]
 ·rw[if_neg hg,Je (key:=Mt) h];simp only[Bool.not_eq_true]at hg;split
  ·rename_i e;constructor
   ·rintro(h|h)
    ·exact⟨hg,h⟩
    ·exact absurd e h.2
   ·exact λh=> .inl h.2
  ·rename_i e;constructor
   ·rintro(h|h)
    ·exact absurd (by rw[h]) e
    ·exact h.1
   ·exact λh=> .inr ⟨h,e⟩
theorem nK:∀(cs:List Ai) {R:List Ak},EE R->EE (cs.foldl F1 R)
 | [],_,h=>h
 |c::cs,_,h=>nK cs (qK h)
theorem nO:∀(cs:List Ai) {R:List Ak},EE R-> ∀w,w∈cs.foldl F1 R↔match cs.reverse.find? (λc=>c.ae==w.ae)with|some c=>c.au=false/\w=⟨c.ae,c.a7,false⟩|none=>w∈R
 | [],R,_,w=>by simp
 |c::cs,R,h,w=>by
  rw[List.foldl_cons,nO cs (qK h) w,List.reverse_cons,List.find?_append];cases hq:cs.reverse.find? (λc=>c.ae==w.ae)with
  |some d=>simp
  |none=>
   simp only[Option.none_or];rw[zwA h w,List.find?_cons];by_cases e:w.ae=c.ae
   ·simp[e]
   ·have e2:(c.ae==w.ae)=false:=by
     rw[beq_eq_false_iff_ne];exact λh=>e h.symm
    simp[e,e2]
theorem oO{α:Type}{p:α->Bool}{r:α->α->Prop}{l:List α}{x:α}(hp:l.Pairwise r)(h:l.reverse.find? p=some x):x∈l/\p x=true/\ ∀y∈l,p y=true->y=x\/r y x:=by
 obtain⟨h1,as_,bs,e,h2⟩:=List.find?_eq_some_iff_append.1 h;have e2:l=bs.reverse++x::as_.reverse:=by have:=congrArg List.reverse e;simpa using this
 rw[e2]at hp ⊢;refine⟨by simp,h1,λy hy vO=> ?_⟩;rcases Af.1 hy with h3|h3
 ·exact .inr ((List.pairwise_append.1 hp).2.2 y h3 x (by simp))
 ·rcases Ad.1 h3 with h4|h4
  ·exact .inl h4
  ·have:=h2 y (List.mem_reverse.1 h4);simp[vO]at this
theorem qI{a u:Int}:∀{m:List B8},(∀v∈m,v.ab<=a↔v.ab<=u)->Ft a m=Ft u m
 | [],_=>rfl
 |v::m,h=>by
  rw[Ft,Ft,qI λx hx=>h x (by simp[hx])];have h1:=h v (by simp);by_cases e:v.ab<=a
  ·rw[if_pos e,if_pos (h1.1 e)]
  ·rw[if_neg e,if_neg λk=>e (h1.2 k)]
theorem zy2{l:List Ag}(h:Ck l=true){c:Ag}(hc:c∈l):c.al.Pairwise λa b=>a.ab<b.ab:=by unfold Ck at h;simp only[Ab,A7]at h;have:=h.2.1 c hc;unfold EV FV at this;simp only[Ab]at this;have hv:=(L7 (r:=HM) (λa b c h k=>by unfold HM at*;simp only[Aq]at*;omega)).1 this.2.2.2;exact hv.imp λh=>by unfold HM at h;simpa using h
theorem zip{t:Int}{c:Ag}{w:Ak}(h:Gf t c=some w):w.ae=c.ae:=by
 unfold Gf at h;split at h
 ·cases h;rfl
 ·cases h
theorem Wj{l:List Ag}{t:Int}(h:HW l):EE (EF l t):=by
 show(l.filterMap (Gf t)).Pairwise _;rw[List.pairwise_filterMap];exact List.Pairwise.imp (λ{c d} XW w hw x hx=>by show bl w.ae x.ae=true;rw[zip hw,zip hx];exact XW) h
theorem Wq{l:List Ag}{t:Int}{w:Ak}:w∈EF l t↔ ∃c∈l,Gf t c=some w:=List.mem_filterMap
theorem ztm{l:List Ag}{a u:Int}(h:Ck l=true)(hau:a<=u):(CF 0 a u l).foldl F1 (EF l a)=EF l u:=by
 have hr:=bQ h;obtain⟨ps,pp⟩:=G5 (HE (g:=0) (a:=a) (u:=u) h);have CE:∀c∈l,∀v∈c.al,a<v.ab->v.ab<=u->Fc 0 c v∈CF 0 a u l:=λc hc v hv h1 h2=>by refine pp.mem_iff.2 (List.mem_flatMap.2 ⟨c,hc,List.mem_map.2 ⟨v,List.mem_filter.2 ⟨hv,?_⟩,rfl⟩⟩);unfold BB;simp only[Ab,Aq];exact⟨h1,h2⟩
 refine Da.ext (key:=Mt) (nK _ (Wj hr)) (Wj hr) λw=> ?_;rw[nO _ (Wj hr) w];cases hq:(CF 0 a u l).reverse.find? (λc=>c.ae==w.ae)with
 |some x=>
  obtain⟨x1,x2,x3⟩:=oO (r:=λa b=>ahead a b=true) ps hq;have x2:x.ae=w.ae:=by simpa using x2
  obtain⟨c0,Jv,hx⟩:=List.mem_flatMap.1 (pp.mem_iff.1 x1);obtain⟨v0,H8,e0⟩:=List.mem_map.1 hx;obtain⟨H8,hi⟩:=List.mem_filter.1 H8;unfold BB at hi;simp only[Ab,Aq]at hi;have Jw:c0.ae=w.ae:=by rw[<-x2,<-e0];rfl
  have wD:=zy2 h Jv;have Dm:c0.al.reverse.find? (λv=>decide (v.ab<=u))=some v0:=by
   cases hf:c0.al.reverse.find? (λv=>decide (v.ab<=u))with
   |none=>have:=List.find?_eq_none.1 hf v0 (by simpa using H8);simp only[Aq]at this;omega
   |some v1=>
    obtain⟨y1,y2,y3⟩:=oO (r:=λa b:B8=>a.ab<b.ab) wD hf;have y2:v1.ab<=u:=by simpa using y2
    have y4:=y3 v0 H8 (by simpa using hi.2);rcases y4 with y4|y4
    ·rw[y4]
    ·have y4:v0.ab<v1.ab:=y4;have hm:=CE c0 Jv v1 y1 (by omega) y2;rcases x3 _ hm (by simpa[Fc]using Jw)with z|z
     ·rw[<-e0]at z;have:v1.ab=v0.ab:=congrArg Ai.ab z;omega
     ·have z:ahead (Fc 0 c0 v1) x=true:=z;rw[<-e0]at z;unfold ahead at z;have ne:(Fc 0 c0 v1).ab≠(Fc 0 c0 v0).ab:=by
       show v1.ab≠v0.ab;omega
      rw[if_pos ne]at z;have z:(Fc 0 c0 v1).ab<(Fc 0 c0 v0).ab:=of_decide_eq_true z;have z:v1.ab<v0.ab:=z;omega
  have T7:Gf u c0=if v0.au=false then some ⟨c0.ae,v0.a7,false⟩else none:=by
   unfold Gf;rw[WA,Dm];by_cases hg:v0.au=true
   ·simp[hg]
   ·simp only[Bool.not_eq_true]at hg;simp[hg]
  have wM:x.au=v0.au:=by rw[<-e0];rfl
  have wN:x.a7=v0.a7:=by rw[<-e0];rfl
  show(x.au=false/\w=⟨x.ae,x.a7,false⟩)↔w∈EF l u;rw[Wq,wM,wN,x2,<-Jw];constructor
  ·rintro⟨h1,h2⟩;exact⟨c0,Jv,by rw[T7,if_pos h1,h2]⟩
  ·rintro⟨c,hc,e⟩;have:c=c0:=Da.fw (key:=ck) hr hc Jv (by show c.ae=c0.ae;rw[Jw,zip e]);subst this;rw[T7]at e;split at e
   ·rename_i h1;cases e;exact⟨h1,rfl⟩
   ·cases e
 |none=>
  have hn:∀y∈CF 0 a u l,y.ae≠w.ae:=λy hy=>by have:=List.find?_eq_none.1 hq y (by simpa using hy);simpa using this
  have hs:∀c∈l,c.ae=w.ae->Gf a c=Gf u c:=λc hc hk=>by
   unfold Gf;rw[qI (a:=a) (u:=u) λv hv=>⟨λh=>by omega,λh=> ?_⟩];by_cases e:v.ab<=a
   ·exact e
   ·exact absurd hk (hn _ (CE c hc v (List.mem_reverse.1 hv) (by omega) h))
  show w∈EF l a↔w∈EF l u;rw[Wq,Wq];constructor
  ·rintro⟨c,hc,e⟩;exact⟨c,hc,by rw[<-hs c hc (zip e).symm];exact e⟩
  ·rintro⟨c,hc,e⟩;exact⟨c,hc,by rw[hs c hc (zip e).symm];exact e⟩
theorem ztI{l:List Ak}(h:l.length<=2000000):VN l l=some true:=by
 unfold VN;rw[if_neg (by simp)];exact s4 (n:=l.length) (λi hi=>by
  show Sn l l i=_;unfold Sn;rw[if_pos (by simpa using hi),AW hi,Aa,Aa,if_neg (by simp),D9 hi (by omega)]) (by
  show Sn l l _=_;unfold Sn;rw[if_neg (by simp)])
theorem zua{c:DX}(h:c.bz.length<=2000000):V5 c c=some true:=by unfold V5;rw[if_pos (by simp),ztI h];rfl
def P8(l:List Ag)(t:Int):DX × Bool:=if Ck l=true then(if Bq t 0 100000=true then(⟨t,EF l t⟩,true)else(⟨0,[]⟩,false))else(⟨0,[]⟩,false)
theorem oE{l:List Ag}{t:Int}(h:Me l):SO l t=some (P8 l t):=by
 unfold SO P8;rw[oV h,Aa];cases hg:Ck l with
 |false=>rfl
 |true=>
  rw[if_pos rfl,if_pos rfl,show Ic t=some (Bq t 0 100000)from rfl,Aa];cases Bq t 0 100000 with
  |false=>rfl
  |true=>rw[if_neg (by simp),ztK (dS hg)];rfl
theorem oJ{l:List Ag}{t:Int}(h:Ck l=true)(ht:Bq t 0 100000=true):Ik ⟨t,EF l t⟩=true:=by
 have hr:=Wj (t:=t) (bQ h);have hl:(EF l t).length<=24:=Nat.le_trans (List.length_filterMap_le _ _) (dS h).2.1;have hc:=h;unfold Ck at hc;simp only[Ab,Aq,A7]at hc;have hw:∀w∈EF l t,∃c∈l,∃v∈c.al,v.ab<=t/\v.au=false/\w=⟨c.ae,v.a7,false⟩:=λw hw=>by
  obtain⟨c,hc,e⟩:=Wq.1 hw;unfold Gf at e;rw[WA]at e;cases hf:c.al.reverse.find? (λv=>decide (v.ab<=t))with
  |none=>rw[hf]at e;simp at e
  |some v=>
   rw[hf]at e;have e:(if(!v.au)=true then some (⟨c.ae,v.a7,false⟩:Ak)else none)=some w:=e;have h1:=List.mem_reverse.1 (List.mem_of_find?_eq_some hf);have h2:v.ab<=t:=by simpa using List.find?_some hf
   cases hg:v.au with
   |true=>rw[hg]at e;simp at e
   |false=>rw[hg]at e;simp only[Bool.not_false,if_true,Ac]at e;exact⟨c,hc,v,h1,h2,hg,e.symm⟩
 have hv:∀c∈l,∀v∈c.al,CZ c.ae=true/\Im v=true:=λc Ar v hv=>by have h1:=hc.2.1 c Ar;unfold EV FV at h1;simp only[Ab,A7]at h1;exact⟨h1.1,h1.2.2.1 v hv⟩
 unfold Ik Td HA;simp only[Ab,Aq,A7,Bool.or_eq_true];refine⟨ht,⟨⟨by omega,λw h1=> ?_,?_⟩,λw h1=> ?_⟩,?_⟩
 ·obtain⟨c,h2,v,h3,_,hg,rfl⟩:=hw w h1;obtain⟨k1,k2⟩:=hv c h2 v h3;unfold Im at k2;rw[Ab,hg]at k2;unfold J1;rw[k1];exact k2.2
 ·rw[bK,bR];exact(L7 (r:=λa b:Ak=>bl a.ae b.ae) (λa b c h k=>Fz h k)).2 hr
 ·obtain⟨c,h2,v,h3,_,hg,rfl⟩:=hw w h1;rfl
 ·by_cases h0:t>0
  ·exact .inl h0
  ·right;have:EF l t=[]:=by
    cases hq:EF l t with
    |nil=>rfl
    |cons w ws=>obtain⟨c,h2,v,h3,h4,_⟩:=hw w (by rw[hq];simp);have h5:=(hv c h2 v h3).2;unfold Im at h5;rw[Ab]at h5;have:=Ij.1 h5.1;omega
   rw[this];rfl
theorem zyV{l:List Ag}{a u:Int}(hc:Ck l=true)(ha:Bq a 0 100000=true)(hd:JL ⟨a,u,CF 0 a u l⟩=true):Bq u 0 100000=true/\W5 ⟨a,EF l a⟩ ⟨a,u,CF 0 a u l⟩=(⟨u,EF l u⟩,true):=by have h2:=hd;unfold JL at h2;simp only[Ab,Aq]at h2;have hu:Bq u 0 100000=true:=h2.2.1;refine⟨hu,?_⟩;unfold W5;rw[if_pos (by rw[oJ hc ha,hd];simp)];dsimp only;rw[ztm hc h2.2.2.1,if_pos (oJ hc hu)]
theorem cR{g a u:Int}{l:List Ag}(h:Ck l=true):(CF g a u l).Pairwise λa b=>ahead a b=true:=(G5 (HE h)).1
theorem zrM{b:List Ai}(h:b.Pairwise λx y=>ahead x y=true):(Ej b.toArray).toList=b:=by obtain⟨h1,h2⟩:=G5 (l:=b) (h.imp λ{x y} h=> .inl h);exact Wa h1 h h2
theorem zuw{a m u:Int}{l:List Ag}(h:Ck l=true)(h1:a<=m)(h2:m<=u):(CF 0 a u l).filter (λx=>decide (x.ab>m))=CF 0 m u l:=by
 rw[<-zt8 h h1 h2,List.filter_append];have e1:(CF 0 a m l).filter (λx=>decide (x.ab>m))=[]:=by rw[List.filter_eq_nil_iff];intro x hx;have:=PN ((G5 (HE (g:=0) (a:=a) (u:=m) h)).2.mem_iff.1 hx);simp;omega
 have e2:(CF 0 m u l).filter (λx=>decide (x.ab>m))=CF 0 m u l:=by rw[List.filter_eq_self];intro x hx;have:=PN ((G5 (HE (g:=0) (a:=m) (u:=u) h)).2.mem_iff.1 hx);simp;omega
 rw[e1,e2,List.nil_append]
theorem zty{a u:Int}{l:List Ag}(h:Ck l=true):∀x∈CF 0 a u l,Gc x=true:=by intro x hx;obtain⟨c,hc,hx⟩:=List.mem_flatMap.1 ((G5 (HE (g:=0) (a:=a) (u:=u) h)).2.mem_iff.1 hx);obtain⟨v,hv,rfl⟩:=List.mem_map.1 hx;have hv:=(List.mem_filter.1 hv).1;unfold Ck at h;simp only[Ab,A7]at h;have h1:=h.2.1 c hc;unfold EV FV at h1;simp only[Ab,A7]at h1;have h2:=h1.2.2.1 v hv;unfold Im at h2;rw[Ab]at h2;unfold Gc Fc;rw[h2.1,h2.2,h1.1];rfl
theorem cY{g a u:Int}{l:List Ag}(h:Ck l=true):(CF g a u l).length<=16*l.length:=by have e:=(G5 (HE (g:=g) (a:=a) (u:=u) h)).2.length_eq;unfold CF;rw[e];exact V8 (Tz h).2
theorem dF{a u:Int}{l:List Ag}(h:Ck l=true):Jg (CF 0 a u l)=true:=by have h1:=cY (g:=0) (a:=a) (u:=u) h;have h2:=(Tz h).1;unfold Jg;simp only[Ab,Aq,A7];exact⟨by omega,zty h,(L7 (r:=ahead) (λa b c h k=>bB h k)).2 (cR h)⟩
theorem zv0{a u:Int}{l:List Ag}(h:Ck l=true)(hl:l.length<=3)(h0:0<=a)(h1:a<=u)(h2:u<=100000):JL ⟨a,u,CF 0 a u l⟩=true:=by
 have h3:=cY (g:=0) (a:=a) (u:=u) h;unfold JL;simp only[Ab,Aq];refine⟨Ij.2 (by omega),Ij.2 (by omega),h1,by omega,dF h,A7.2 λx hx=> ?_⟩;have e:=PN ((G5 (HE (g:=0) (a:=a) (u:=u) h)).2.mem_iff.1 hx);have e1:decide (x.ab<=a)=false:=by simp;omega
 have e2:decide (x.ab>u)=false:=by simp;omega
 simp[e.2.2,e1,e2]
theorem qE{α:Type}{lt:α->Bool}:∀{l:List α},(∀y∈l,lt y=true)->AM lt l=l.length
 | [],_=>by simp[AM]
 |x::l,h=>by have ih:=qE (l:=l) λy hy=>h y (by simp[hy]);unfold AM at*;rw[List.takeWhile_cons,if_pos (h x (by simp)),AR,AR,ih]
theorem zu3{l:List Ai}{x:Ai}(h:l.length<=2000000)(ha:∀y∈l,ahead y x=true):L2 l x=some (l++ [x],true):=by
 unfold L2;rw[dR (xs:=l) (body:=λs:Int=>KF l x s) (λy=>ahead y x) (Pt l x) (λi hi=>by show KF l x (i:Int)=_;unfold KF;rw[if_pos (by simpa using hi),AW hi,Aa,Te,Aa,D9 hi (by omega)];cases ahead l[i] x<;>rfl) (by simp[KF])]
 rw[qE ha];have w1:AF l 0 (l.length:Int)=l:=by simp[AF]
 have w2:AF l (l.length:Int) (l.length:Int)=[]:=by simp[AF]
 unfold Pt;rw[w1,w2,if_neg (by simp),A8 (by omega),A8 (by simp;omega),A8 (by simp;omega),A8 (by omega),A8 (by simp;omega)];simp
end
section
open Go.RowKit
set_option maxRecDepth 100000
def K3:List Az:=[[97],[98],[99]]
def KC(l:List Ag):Prop:= ∀c∈l,c.ae∈K3
def KW(ws:List Ak):Prop:= ∀w∈ws,w.ae∈K3
theorem zz2{l:List Ag}{k:Az}{v:B8}(hr:HW l)(h:KC l)(hk:k∈K3):KC (Iu l k v)/\HW (Iu l k v):=by
 unfold Iu;refine⟨λc hc=> ?_,Jc hr⟩;rcases(Je (key:=ck) hr c).1 hc with e|⟨hc,_⟩
 ·rw[e];exact hk
 ·exact h c hc
theorem sO{t:Int}:∀{ws:List Ak} {l o:List Ag},HW l->KC l->KW ws->Jp t l ws=some o->KC o
 | [],l,o,_,h,_,e=>by unfold Jp at e;rw[List.foldlM_nil]at e;cases e;exact h
 |w::ws,l,o,hr,h,hw,e=>by
  unfold Jp at e;rw[List.foldlM_cons]at e;unfold J2 at e;by_cases ht:t<=D7 l w.ae
  ·rw[if_pos ht]at e;cases e
  ·rw[if_neg ht]at e;obtain⟨h1,h2⟩:=zz2 (v:=⟨t,w.a7,w.au⟩) hr h (hw w (by simp));exact sO h2 h1 (λx hx=>hw x (by simp[hx])) e
structure JS(s:Am):Prop where
 cells:KC s.aj
 di:Ck s.aj=true
 held:∀h∈s.ah,KW h.af/\h.ao=[]
theorem zxk{s s':Am}{r:Bj}(h:WS s)(j:JS s)(hw:KW r.af/\r.ao=[])(e:DV s r=some s'):JS s':=by
 have LB:∀t,∀y∈Lb s.ah t,KW y.af/\y.ao=[]:=λt y hy=>j.held y (List.mem_filter.1 hy).1;unfold DV at e;split at e
 ·split at e
  ·cases e;exact⟨j.cells,j.di,j.held⟩
  ·cases e
 ·split at e
  ·cases e
  ·split at e
   ·split at e
    ·cases e
    ·split at e
     ·cases e
     ·split at e
      ·cases e;refine⟨j.cells,j.di,λy hy=> ?_⟩;rcases Tb.1 hy with rfl|hy
       ·exact hw
       ·exact j.held y hy
      ·cases e
   ·split at e
    ·split at e
     ·cases e
     ·rename_i x hx;split at e
      ·cases e
      ·split at e
       ·cases e
       ·rename_i o ho;cases e;unfold QJ at ho;split at ho
        ·rename_i p hp;split at ho
         ·rename_i hg;cases ho;exact⟨sO h.cells.1 j.cells (j.held x (List.mem_of_find?_eq_some hx)).1 hp,hg,LB _⟩
         ·cases ho
        ·cases ho
    ·cases e;exact⟨j.cells,j.di,LB _⟩
theorem zyA{s:Am}{r:Bj}(h:WS s)(j:JS s)(hr:Jt r)(hw:KW r.af/\r.ao=[]):WS (GJ s r)/\JS (GJ s r):=by
 refine⟨h.step hr,?_⟩;unfold GJ;cases e:DV s r with
 |none=>exact j
 |some s'=>exact zxk h j hw e
theorem pX:∀(rs:List Bj) (s:Am),WS s->JS s->(∀r∈rs,Jt r/\(KW r.af/\r.ao=[]))->JS (rs.foldl GJ s)
 | [],_,_,j,_=>j
 |r::rs,s,h,j,hr=>by obtain⟨h1,h2⟩:=hr r (by simp);obtain⟨a,b⟩:=zyA h j h1 h2;exact pX rs _ a b λx hx=>hr x (by simp[hx])
theorem iU:JS Ip:=⟨λc hc=>by simp[Ip]at hc,by decide,λh hh=>by simp[Ip]at hh⟩
def rk(c:Ag):Int:=((c.ae.headD 0).toNat:Int)
theorem sN{s:Am}(h:WS s)(j:JS s):s.aj.length<=3:=by
 have hr:Dh rk s.aj:=by
  have h1:=h.cells.1;have:s.aj.Pairwise λa b=>a∈s.aj/\b∈s.aj/\bl a.ae b.ae=true:=by
   refine List.pairwise_iff_getElem.2 λi k hi hk Ub=>⟨AO hi,AO hk,?_⟩
   exact List.pairwise_iff_getElem.1 h1 i k hi hk Ub
  refine this.imp λ{a b} XO=> ?_;obtain⟨ha,hb,hl⟩:=XO;have k1:=j.cells a ha;have k2:=j.cells b hb;unfold K3 at k1 k2;simp only[Ad,List.not_mem_nil,or_false]at k1 k2;show rk a<rk b;unfold rk;rcases k1 with e1|e1|e1<;>rcases k2 with e2|e2|e2<;>rw[e1,e2]at hl ⊢ <;>first|(exact absurd hl (by decide))|decide
 have hb:∀c∈s.aj,(97:Int)<=rk c/\rk c<=99:=λc hc=>by have k1:=j.cells c hc;unfold K3 at k1;simp only[Ad,List.not_mem_nil,or_false]at k1;unfold rk;rcases k1 with e1|e1|e1<;>rw[e1]<;>decide
 have:=Dh.len (lo:=97) (hi:=99) hr hb;omega
end
end Go.Proofs.YtndikjghnmhdmaaGreat

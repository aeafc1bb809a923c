/- Parts of a proof, joined: NC, NGA, N14, N15, N16, NQ, NX, NS, NSP, NSQ, NSR, NSS, NST, NKR, NSU, NSV, NSW, NSX, NSY, NSZ, NTA. -/
import Derived.Test.YtlmjpjceiefpoaaGreatK10
set_option linter.unusedVariables false
set_option linter.unusedSimpArgs false
namespace Go.Proofs.YtlmjpjceiefpoaaGreat
section
open Go.RowKit Go.Sort
set_option maxRecDepth 100000
theorem Up{S α β σ:Type}{xs:List α}{body:S->Option (S ⊕ Option β)}(mk:Nat->σ->S)(g:σ->α->Option σ)(b:Option β)(fin:σ->Option β)(I:Nat->σ->Prop)
  (hs:∀i acc (h:i<xs.length),I i acc->body (mk i acc)=some (match g acc xs[i]with|some a=> .inl (mk (i+1) a)|none=> .inr b)/\ ∀a,g acc xs[i]=some a->I (i+1) a)
  (he:∀acc,I xs.length acc->body (mk xs.length acc)=some (.inr (fin acc))) (a0:σ) (h0:I 0 a0):Ao body (mk 0 a0)=match xs.foldlM g a0 with|some a=>fin a|none=>b:=by
 have key:∀n q acc,q+n=xs.length->I q acc->Ao body (mk q acc)=match(xs.drop q).foldlM g acc with|some a=>fin a|none=>b:=by
  intro n
  induction n with
  |zero=>
   intro q acc hq hi;have e:q=xs.length:=by omega
   subst e;rw[D2,he acc hi,List.drop_length];rfl
  |succ n ih=>
   intro q acc hq hi;have hl:q<xs.length:=by omega
   obtain⟨h1,h2⟩:=hs q acc hl hi;rw[D2,h1,Bw hl,List.foldlM_cons];cases hg:g acc xs[q]with
   |none=>rfl
   |some a=>exact ih (q+1) a (by omega) (h2 a hg)
 have:=key xs.length 0 a0 (by omega) h0;rwa[List.drop_zero]at this
theorem zMz{α β:Type}{xs:List α}{body:Int->Option (Int ⊕ Option β)}(p:α->Bool)(fin:Int->Option β)
  (hs:∀i (h:i<xs.length),body (i:Nat)=some (if p xs[i]=true then .inl ((i+1:Nat):Int)else .inr (fin (i:Nat)))) (he:body (xs.length:Nat)=some (.inr (fin (xs.length:Nat)))):Ao body 0=fin (AT p xs:Nat):=by
 have key:∀n q,q+n=xs.length->Ao body (q:Nat)=fin ((q+AT p (xs.drop q):Nat):Int):=by
  intro n
  induction n with
  |zero=>
   intro q hq;have e:q=xs.length:=by omega
   subst e;rw[D2,he,List.drop_length];rfl
  |succ n ih=>
   intro q hq;have hl:q<xs.length:=by omega
   rw[D2,hs q hl,Bw hl];by_cases hp:p xs[q]=true
   ·rw[if_pos hp];have e:AT p (xs[q]::xs.drop (q+1))=AT p (xs.drop (q+1))+1:=by unfold AT;rw[List.takeWhile_cons,if_pos hp];rfl
    rw[e,show q+(AT p (xs.drop (q+1))+1)=(q+1)+AT p (xs.drop (q+1)) by omega];exact ih (q+1) (by omega)
   ·rw[if_neg hp];have e:AT p (xs[q]::xs.drop (q+1))=0:=by unfold AT;rw[List.takeWhile_cons,if_neg hp];rfl
    rw[e];rfl
 have:=key xs.length 0 (by omega);rw[List.drop_zero,Nat.zero_add]at this;exact this
def Q8(v:CE):Bool:=Aw v.ak 1 100000&&Fq v.bf v.bu
def Qh(a b:CE):Bool:=decide (a.ak<b.ak)
def Lk(l:List CE):Bool:=Aw (l.length:Int) 1 16&&(l.all Q8&&EB Qh l)
def IB(c:Ap):Bool:=CP c.ab&&Lk c.au
def Ws(a b:Ap):Bool:=bl a.ab b.ab
def I9(l:List Ap):Bool:=decide ((l.length:Int)<=24)&&(l.all IB&&EB Ws l)
def aW(c:Ap):Prop:=c.ab.length<=2000000/\c.au.length<=2000000/\ ∀v∈c.au,v.bf.length<=2000000
def tE(l:List Ap):Prop:=l.length<=2000000/\ ∀c∈l,aW c
theorem zKS{c:Ap}(h:aW c):iL c=some (Lk c.au):=by
 obtain⟨_,h2,h3⟩:=h;unfold iL Lk;rw[rR (xs:=c.au) (body:=λs:Int=>QF c s) Q8 Qh false (yP c) (λh0=> ?_) (λi hi=> ?_) (by simp[QF])]
 ·unfold yP;simp only[Fm,Aa];cases c.au.all Q8<;>cases EB Qh c.au<;>cases Aw (c.au.length:Int) 1 16<;>rfl
 ·show QF c 0=_;unfold QF OV Q8;rw[if_pos (by simpa using h0),show(0:Int)=((0:Nat):Int)from rfl,Av h0,Aa];simp only[Fm,Aa,lR (h3 _ (Au h0))];cases Aw c.au[0].ak 1 100000<;>cases Fq c.au[0].bf c.au[0].bu<;>rfl
 ·show QF c ((i+1:Nat):Int)=_;unfold QF OV Q8 Qh;rw[if_pos (by simp;omega),Av hi,Aa];simp only[Fm,Aa,lR (h3 _ (Au hi))];rw[JV (by omega) (by omega),Nat.add_sub_cancel,Av (show i<c.au.length by omega),BE hi (by omega)];have e:decide (c.au[i+1].ak<=c.au[i].ak)= !decide (c.au[i].ak<c.au[i+1].ak):=by rw[<-decide_not,decide_eq_decide];omega
  simp only[Aa,e];rw[show decide (((i+1:Nat):Int)>0)=true by simp];cases Aw c.au[i+1].ak 1 100000<;>cases Fq c.au[i+1].bf c.au[i+1].bu<;>cases decide (c.au[i].ak<c.au[i+1].ak)<;>rfl
theorem zFv{c:Ap}(h:aW c):iK c=some (IB c):=by
 obtain⟨h1,h2,h3⟩:=h;unfold iK IB Lk;rw[rR (xs:=c.au) (body:=λs:Int=>QK c s) (λv=>Aw v.ak 1 100000&&(CP c.ab&&Fq v.bf v.bu)) Qh false (yR c) (λh0=> ?_) (λi hi=> ?_) (by simp[QK])]
 ·unfold yR;simp only[Lr h1,ER,Aa];cases hk:CP c.ab with
  |true=>
   have e:(c.au.all λv=>Aw v.ak 1 100000&&(true&&Fq v.bf v.bu))=c.au.all Q8:=by congr 1
   rw[e];cases c.au.all Q8<;>cases EB Qh c.au<;>cases Aw (c.au.length:Int) 1 16<;>rfl
  |false=>split<;>simp
 ·show QK c 0=_;unfold QK OY;rw[if_pos (by simpa using h0),show(0:Int)=((0:Nat):Int)from rfl,Av h0,Aa];simp only[ER,Aa,rL h1 (h3 _ (Au h0))];cases Aw c.au[0].ak 1 100000<;>cases(CP c.ab&&Fq c.au[0].bf c.au[0].bu)<;>rfl
 ·show QK c ((i+1:Nat):Int)=_;unfold QK OY Qh;rw[if_pos (by simp;omega),Av hi,Aa];simp only[ER,Aa,rL h1 (h3 _ (Au hi))];rw[JV (by omega) (by omega),Nat.add_sub_cancel,Av (show i<c.au.length by omega),BE hi (by omega)];have e:decide (c.au[i].ak>=c.au[i+1].ak)= !decide (c.au[i].ak<c.au[i+1].ak):=by rw[<-decide_not,decide_eq_decide];omega
  simp only[Aa,e];rw[show decide (((i+1:Nat):Int)>0)=true by simp];cases Aw c.au[i+1].ak 1 100000<;>cases(CP c.ab&&Fq c.au[i+1].bf c.au[i+1].bu)<;>cases decide (c.au[i].ak<c.au[i+1].ak)<;>rfl
theorem zCU{α β:Type}{r:β->β->Bool}{f:α->β}:∀l:List α,EB r (l.map f)=EB (λa b=>r (f a) (f b)) l
 | []=>rfl
 | [_]=>rfl
 |x::y::l=>by show(r (f x) (f y)&&EB r ((y::l).map f))=_;rw[zCU (y::l)];rfl
theorem zLw{l:List Ap}(h:tE l):zip l=some (I9 l):=by
 have hn:=h.1;unfold zip;rw[show((0:Int),([]:List Ah))=(λ(i:Nat) (a:List Ah)=>((i:Int),a)) 0 []from rfl,Up (xs:=l) (body:=λs:Int × List Ah=>Xz l s.1 s.2) (λ(i:Nat) (a:List Ah)=>((i:Int),a)) (λa c=>if Lk c.au=true then some (a++ [c.ab])else none) (some false) (dJ l) (λi a=>a.length=i) (λi acc hi ha=> ?_) (λacc ha=>by simp[Xz]) [] rfl]
 ·have hf:∀(xs:List Ap) (a:List Ah),xs.foldlM (m:=Option) (λa c=>if Lk c.au=true then some (a++ [c.ab])else none) a=if(xs.all λc=>Lk c.au)=true then some (a++xs.map (·.ab))else none:=by
   intro xs
   induction xs with
   |nil=>intro a;simp
   |cons x xs ih=>
    intro a;rw[List.foldlM_cons];by_cases hx:Lk x.au=true
    ·rw[if_pos hx];show xs.foldlM _ (a++ [x.ab])=_;rw[ih];simp[hx]
    ·rw[if_neg hx];simp[hx]
  rw[hf];unfold I9;by_cases hg:(l.all λc=>Lk c.au)=true
  ·rw[if_pos hg];show dJ l _=_;unfold dJ;rw[List.nil_append,zrV (by simpa using hn) (λk hk=>by obtain⟨c,hc,rfl⟩:=List.mem_map.1 hk;exact(h.2 c hc).1),zsv,zCU];have e:(l.map (·.ab)).all CP=l.all IB:=by
    rw[List.all_map,Bool.eq_iff_iff];simp only[Bd]at hg ⊢;refine⟨λq c hc=> ?_,λq c hc=> ?_⟩
    ·unfold IB;rw[hg c hc,Bool.and_true];exact q c hc
    ·have:=q c hc;unfold IB at this;simp only[Ac]at this;exact this.1
   rw[e];show(if decide ((l.length:Int)<=24)=true then(some (l.all IB&&EB Ws l)).bind λv2=>some v2 else some false)=_;cases decide ((l.length:Int)<=24)<;>rfl
  ·rw[if_neg hg];have e:l.all IB=false:=by
    cases hc:l.all IB
    ·rfl
    ·refine absurd ?_ hg;simp only[Bd]at hc ⊢;intro c q;have:=hc c q;unfold IB at this;simp only[Ac]at this;exact this.2
   rw[e];simp
 ·have ha:acc.length=i:=ha;refine⟨?_,λa e=> ?_⟩
  ·show Xz l (i:Int) acc=_;unfold Xz;rw[if_pos (by simpa using hi),Av hi,Aa,zKS (h.2 _ (Au hi)),Aa,BE hi (by omega)];cases Lk l[i].au with
   |false=>rfl
   |true=>rw[if_neg (by simp),AJ (by simp;omega)];rfl
  ·split at e
   ·cases e;simp[ha]
   ·cases e
theorem zKN{l:List Ap}(h:tE l):iZ l=some (I9 l):=by
 have hn:=h.1;unfold iZ I9;rw[rR (xs:=l) (body:=λs:Int=>QH l s) IB Ws false (yN l) (λh0=> ?_) (λi hi=> ?_) (by simp[QH])]
 ·unfold yN;cases l.all IB<;>cases EB Ws l<;>simp
 ·show QH l 0=_;unfold QH;rw[if_pos (by simpa using h0),show(0:Int)=((0:Nat):Int)from rfl,Av h0,Aa,zFv (h.2 _ (Au h0)),Aa];cases IB l[0]<;>rfl
 ·show QH l ((i+1:Nat):Int)=_;unfold QH Ws;rw[if_pos (by simp;omega),Av hi,Aa,zFv (h.2 _ (Au hi)),Aa];rw[JV (by omega) (by omega),Nat.add_sub_cancel,Av (show i<l.length by omega),BE hi (by omega)];simp only[Aa];rw[show decide (((i+1:Nat):Int)>0)=true by simp];rw[show bl l[i].ab l[i+1].ab=Op.bytesLess l[i].ab l[i+1].ab from rfl];cases IB l[i+1]<;>cases Op.bytesLess l[i].ab l[i+1].ab<;>rfl
end
section
open Go.RowKit
set_option maxRecDepth 100000
set_option maxHeartbeats 1000000
theorem qJ(a:Int):OY a=some (Aw a 1 100000):=rfl
theorem qH(a:Int):OV a=some (Aw a 1 100000):=rfl
theorem sJ(a:Int):Yj a=some (Aw a 1 60):=rfl
theorem rP(a:Int):Yg a=some (Aw a 0 100000):=rfl
theorem YQ(a:Int):Nc a=some (Aw a 0 100000):=rfl
theorem zKg(c:DG):zoo c=some (Aw c.gp (-5) 5):=rfl
def Mf(ks:List Ah):Prop:=ks.length<=2000000/\ ∀k∈ks,k.length<=2000000
def FA(ks:List Ah):Bool:=ks.all CP&&Mc ks
theorem zwz{ks:List Ah}(h:Mf ks):Nb ks=some (FA ks):=zrV h.1 h.2
theorem zxD{ks:List Ah}{body:Int->Option (Int ⊕ Option Bool)}{fin:Option Bool}(h:Mf ks)(h0:∀(hi:0<ks.length),body 0=some (if CP ks[0]=true then .inl 1 else .inr (some false)))
  (hs:∀(i:Nat) (hi:i<ks.length) (hp:0<i),body i=some (if(CP ks[i]&&Op.bytesLess ks[i-1] ks[i])=true then .inl ((i+1:Nat):Int)else .inr (some false))) (he:body ks.length=some (.inr fin)):Ao body 0=if FA ks=true then fin else some false:=by
 rw[F2 (n:=ks.length) (λi=>CP ((ks[i]?).getD [])&&HH ks i) false fin ?_ he,UN ks CP (HH ks) _ λi hi=>by simp[hi]]
 ·rfl
 ·intro i hi;by_cases hz:i=0
  ·subst hz;show body 0=_;rw[h0 hi];simp[hi,HH]
  ·have CR:i-1<ks.length:=by omega
   have hb:(i==0)=false:=by simpa using hz
   rw[hs i hi (Nat.pos_of_ne_zero hz)];simp only[AM hi,AM CR,Be,HH,hb,Bool.false_or]
theorem zLJ{ks:List Ah}(h:Mf ks):fW ks=some (FA ks&&decide ((ks.length:Int)<4)):=by
 have hn:=h.1;unfold fW;rw[zxD (body:=λs:Int=>SW ks s) (fin:=xO ks) h (λhi=>by
  simp only[SW,hi,decide_true,if_true,show((0:Int)<(ks.length:Int))from by omega,show Ak ks 0=some ks[0]from Av hi,Aa,Lr (h.2 _ (Au hi))];cases CP ks[0]<;>rfl) (λi hi hp=>by
  have CR:i-1<ks.length:=by omega
  have PZ:(i:Int)>0:=by omega
  simp only[SW,Int.ofNat_lt,hi,PZ,decide_true,if_true,Av hi,Aa,Lr (h.2 _ (Au hi)),BE hi (by omega:ks.length<=_),JV hp (by omega:i<=2000000),Av CR];cases CP ks[i]<;>cases Op.bytesLess ks[i-1] ks[i]<;>rfl) (by
  show SW ks ks.length=_;unfold SW;rw[if_neg (by simp)])]
 unfold xO;cases FA ks<;>rfl
theorem zLX{ks:List Ah}(h:Mf ks):iQ ks=some (FA ks&&decide ((ks.length:Int)<=8)):=by
 have hn:=h.1;unfold iQ;rw[zxD (body:=λs:Int=>To ks s) (fin:=yK ks) h (λhi=>by
  simp only[To,hi,decide_true,if_true,show((0:Int)<(ks.length:Int))from by omega,show Ak ks 0=some ks[0]from Av hi,Aa,Lr (h.2 _ (Au hi))];cases CP ks[0]<;>rfl) (λi hi hp=>by
  have CR:i-1<ks.length:=by omega
  have PZ:(i:Int)>0:=by omega
  simp only[To,Int.ofNat_lt,hi,PZ,decide_true,if_true,Av hi,Aa,Lr (h.2 _ (Au hi)),BE hi (by omega:ks.length<=_),JV hp (by omega:i<=2000000),Av CR];cases CP ks[i]<;>cases Op.bytesLess ks[i-1] ks[i]<;>rfl) (by
  show To ks ks.length=_;unfold To;rw[if_neg (by simp)])]
 unfold yK;cases FA ks<;>rfl
theorem zK8{ks:List Ah}(h:Mf ks):fJ ks=some (FA ks&&decide ((ks.length:Int)<4)):=by unfold fJ;rw[zwz h];cases decide ((ks.length:Int)<4)<;>cases FA ks<;>rfl
structure YK(r:BG):Prop where
 reads:Mf r.az
 writes:Rk r.af
def Hc(r:BG):Bool:=
 if r.ah=1 then Aw r.bc 1 60&&(Aw r.ak 1 100000&&(Aw r.br 0 3&&(FA r.az&&(decide ((r.az.length:Int)<=8)&&(Hz r.af&&(decide ((r.af.length:Int)<=8)&&(decide ((r.az.length:Int)+(r.af.length:Int)>0)&& !r.dj)))))))
 else(r.br==0)&&(((r.az.length:Int)==0)&&(((r.af.length:Int)==0)&&(
  if r.ah=2\/r.ah=3 then Aw r.bc 1 60&&(if r.dj=true then Aw r.ak 1 100000 else r.ak==0)
  else if r.ah=4 then(r.bc==0)&&(Aw r.ak 1 100000&& !r.dj)else false)))
theorem zNW{r:BG}(h:YK r):gV r=some (Hc r):=by
 have h1:=h.reads.1;have h2:=h.writes.1;have w:IntKind.i64.wrap ((r.az.length:Int)+(r.af.length:Int))=(r.az.length:Int)+(r.af.length:Int):=Cv (by omega) (by omega);have hj:∀b:Bool,r.ah≠1->(b=true↔(r.ah=2\/r.ah=3))->dU r b=some (Hc r):=by
  intro b k hb;unfold dU Hc;rw[if_neg k];cases b with
  |true=>rw[if_pos rfl,if_pos (show r.ah=2\/r.ah=3 from hb.1 rfl)];simp only[sJ,qH,Aa];cases(r.br==0)<;>cases((r.az.length:Int)==0)<;>cases((r.af.length:Int)==0)<;>cases Aw r.bc 1 60<;>cases r.dj<;>simp
  |false=>
   rw[if_neg (by simp),if_neg (show¬(r.ah=2\/r.ah=3)from λe=>by have:=hb.2 e;cases this)];by_cases k4:r.ah=4
   ·rw[if_pos (by simpa using k4),if_pos k4];simp only[qH,Aa];cases(r.br==0)<;>cases((r.az.length:Int)==0)<;>cases((r.af.length:Int)==0)<;>cases(r.bc==0)<;>simp
   ·rw[if_neg (by simpa using k4),if_neg k4];cases(r.br==0)<;>cases((r.az.length:Int)==0)<;>cases((r.af.length:Int)==0)<;>rfl
 unfold gV;by_cases k1:r.ah=1
 ·rw[if_pos (by simpa using k1)];unfold Hc;rw[if_pos k1];simp only[sJ,qH,Fm,Aa,zwz h.reads,zCT h.writes,w];cases Aw r.bc 1 60<;>cases Aw r.ak 1 100000<;>cases Aw r.br 0 3<;>cases decide ((r.az.length:Int)<=8)<;>cases FA r.az<;>cases decide ((r.af.length:Int)<=8)<;>cases Hz r.af<;>simp
 ·rw[if_neg (by simpa using k1)];by_cases k2:r.ah=2
  ·rw[if_pos (by simpa using k2)];exact hj _ k1 (by simp[k2])
  ·rw[if_neg (by simpa using k2)];exact hj _ k1 (by simp[k2])
theorem zO1{r:BG}(h:YK r):gQ r=some (Hc r):=by
 have h1:=h.reads.1;have h2:=h.writes.1;have w:IntKind.i64.wrap ((r.az.length:Int)+(r.af.length:Int))=(r.az.length:Int)+(r.af.length:Int):=Cv (by omega) (by omega);have hj:∀b:Bool,r.ah≠1->r.br=0->(r.az.length:Int)=0->(r.af.length:Int)=0->(b=true↔(r.ah=2\/r.ah=3))->eI r b=some (Hc r):=by
  intro b k e1 e2 e3 hb;unfold eI Hc;rw[if_neg k,show(r.br==0)=true by simpa using e1,show((r.az.length:Int)==0)=true by simpa using e2,show((r.af.length:Int)==0)=true by simpa using e3];cases b with
  |true=>rw[if_pos rfl,if_pos (show r.ah=2\/r.ah=3 from hb.1 rfl)];simp only[ER,qJ,Aa];cases Aw r.bc 1 60<;>cases r.dj<;>simp
  |false=>
   rw[if_neg (by simp),if_neg (show¬(r.ah=2\/r.ah=3)from λe=>by have:=hb.2 e;cases this)];by_cases k4:r.ah=4
   ·rw[if_pos (by simpa using k4),if_pos k4];simp only[qJ,Aa];cases(r.bc==0)<;>simp
   ·rw[if_neg (by simpa using k4),if_neg k4];rfl
 have B9:Aw (r.af.length:Int) 0 8=decide ((r.af.length:Int)<=8):=by unfold Aw;rw[show decide ((r.af.length:Int)>=0)=true by simp];rfl
 unfold gQ zpV;by_cases k1:r.ah=1
 ·rw[if_neg (by simp[k1]),if_pos (by simpa using k1)];unfold Hc;rw[if_pos k1];simp only[ER,qJ,Aa,zLX h.reads,zCZ h.writes,w,B9];cases Aw r.bc 1 60<;>cases Aw r.ak 1 100000<;>cases Aw r.br 0 3<;>cases decide ((r.az.length:Int)<=8)<;>cases FA r.az<;>cases decide ((r.af.length:Int)<=8)<;>cases Hz r.af<;>simp
 ·by_cases hz:r.br=0/\(r.az.length:Int)=0/\(r.af.length:Int)=0
  ·obtain⟨e1,e2,e3⟩:=hz;rw[if_neg (by rw[w];simp[e1];omega),if_neg (by simpa using k1)];by_cases k2:r.ah=2
   ·rw[if_pos (by simpa using k2),hj _ k1 e1 e2 e3 (by simp[k2]),Aa]
   ·rw[if_neg (by simpa using k2),hj _ k1 e1 e2 e3 (by simp[k2]),Aa]
  ·have hc:((r.ah !=1)&&((r.br !=0)||decide (IntKind.i64.wrap ((r.az.length:Int)+(r.af.length:Int))>0)))=true:=by
    rw[w];by_cases e1:r.br=0
    ·have:(r.az.length:Int)+(r.af.length:Int)>0:=by
      rcases Classical.em ((r.az.length:Int)=0)with e2|e2
      ·have e3: ¬(r.af.length:Int)=0:=λe3=>hz ⟨e1,e2,e3⟩;omega
      ·omega
     simp[k1,this]
    ·simp[k1,e1]
   rw[if_pos hc,Aa];unfold Hc;rw[if_neg k1];by_cases e1:r.br=0
   ·by_cases e2:(r.az.length:Int)=0
    ·have e3:((r.af.length:Int)==0)=false:=by simpa using λe3=>hz ⟨e1,e2,by simpa using e3⟩
     rw[e3];simp
    ·have e2:((r.az.length:Int)==0)=false:=by simpa using e2
     rw[e2];simp
   ·have e1:(r.br==0)=false:=by simpa using e1
    rw[e1];rfl
structure Ku(t:An)(n:Ah)(x:A5):Prop where
 at_:Ak t.aj (Cy (λy:A5=>y.ae==n) t.aj)=some x
 name:x.ae=n
 c0:1<=x.dk
 c1:x.dk<=(t.bd.length:Int)-1
def KD(r:CD)(c:Int):Ah:=(r.bb[c.toNat]?).getD []
def Ql(t:An)(n:Ah)(c:Int)(r:CD):Ah:=head t n++ [47]++KD r c++ [47]++KD r 0
structure Ou(t:An)(r:CD):Prop where
 len:r.bb.length=t.bd.length
 small:Small r.bb
theorem Zc{t:An}{r:CD}(hr:Ou t r){c:Int}(h0:0<=c)(h1:c<=(t.bd.length:Int)-1):Ak r.bb c=some (KD r c)/\(KD r c).length<=2000000:=by
 obtain⟨y,e,hm,e2⟩:=sQ (xs:=r.bb) h0 (by have:=hr.len;omega);have hv:KD r c=y:=by simp[KD,e2]
 rw[hv];exact⟨e,hr.small.each y hm⟩
theorem rH{t:An}{n:Ah}{x:A5}{r:CD}(ht:t.ae.length<=2000000)(hn:n.length<=2000000)(hx:Ku t n x)(hr:Ou t r):TO t x r=some (Ql t n x.dk r):=by
 obtain⟨g1,l1⟩:=Zc hr (c:=x.dk) (by have:=hx.c0;omega) hx.c1;obtain⟨g2,l2⟩:=Zc hr (c:=0) (by omega) (by have:=hx.c0;have:=hx.c1;omega);have e:=hx.name;subst e;unfold TO Ql;rw[AJ (by simp only[head,Aq,AE,List.length_nil];omega),AJ (by simp only[head,Aq,AE,List.length_nil];omega),AJ (by simp only[head,Aq,AE,List.length_nil];omega),g1,Aa,
  AJ (by simp only[head,Aq,AE,List.length_nil];omega),AJ (by simp only[head,Aq,AE,List.length_nil];omega),g2,Aa,
  AJ (by simp only[head,Aq,AE,List.length_nil];omega)]
 rfl
theorem qC{t:An}{n:Ah}{x:A5}{r:CD}(hS:D3 t)(hn:n.length<=2000000)(hx:Ku t n x)(hr:Ou t r):OM t n r=some (Ql t n x.dk r):=by
 obtain⟨g1,l1⟩:=Zc hr (c:=x.dk) (by have:=hx.c0;omega) hx.c1;obtain⟨g2,l2⟩:=Zc hr (c:=0) (by omega) (by have:=hx.c0;have:=hx.c1;omega);have ht:=hS.name;have hi:M9 t n=some x:=by unfold M9;rw[WD hS,Aa,hx.at_];rfl
 unfold OM Ql;rw[sG ht hn,Aa,hi,Aa,g1,Aa,AJ (by simp only[head,Aq,AE,List.length_nil];omega),AJ (by simp only[head,Aq,AE,List.length_nil];omega),g2,Aa,AJ (by simp only[head,Aq,AE,List.length_nil];omega)]
def wanted(t:An)(n:Ah)(x:A5)(l:List Ai):List Ah:=(FM t l).map (Ql t n x.dk)
def holds(t:An)(n:Ah)(x:A5)(lv:Int)(l:List Ai):Bool:=
 if lv==0 then((Jg t n l).length:Int)==0
 else(((less (Jg t n l) (wanted t n x l)).length:Int)==0)&&((lv==1)||(((less (wanted t n x l) (Jg t n l)).length:Int)==0))
def EY(t:An)(n:Ah):Bool:=Eu t&&decide (Cy (λx:A5=>x.ae==n) t.aj>=0)
def WG(t:An)(n:Ah)(l:List Ai):Bool:=EY t n&&O6 l
theorem zOj{t:An}{n:Ah}(hS:D3 t):iU t n=some (EY t n):=by unfold iU EY;rw[zLa hS,Aa,WD hS,Aa];cases Eu t<;>simp
theorem zL8{t:An}{n:Ah}{l:List Ai}(hS:D3 t)(hW:Rk l):fQ t n l=some (WG t n l):=by unfold fQ WG EY;rw[Uu hS,Aa,UQ hS,Aa,zN4 hW,Aa];cases Eu t<;>cases decide (Cy (λx:A5=>x.ae==n) t.aj>=0)<;>simp
theorem sM{l:List Ai}(h:O6 l=true):∀w∈l,uG w:=by intro w hw;unfold O6 Hz at h;simp only[Ac]at h;have h1:=Bd.1 h.1.2.1 w hw;unfold Mh CP Fq Kr at h1;simp only[Ac,AS]at h1;have h2:=DV.1 h1.1.1;have h3:=h1.2.1.1;exact⟨by omega,by omega⟩
theorem zwT{s:Ah}{k:Int}(h:Fp s k=true):(s.length:Int)<=k/\ ∀b∈s,b≠47:=by unfold Fp at h;simp only[Ac]at h;refine⟨(DV.1 h.2).2,λb hb e=> ?_⟩;have h1:=Bd.1 h.1 b hb;subst e;exact absurd h1 (by decide)
theorem zw3{s:Ah}(h:Fp s 1=true):s.length=1:=by unfold Fp at h;simp only[Ac]at h;have:=DV.1 h.2;omega
theorem zII{t:An}(h:Eu t=true):Fp t.ae 1=true:=by unfold Eu at h;simp only[Ac]at h;exact h.1.1.1
theorem zFC{t:An}(h:Eu t=true){x:A5}(hx:x∈t.aj):Fp x.ae 1=true/\Aw x.dk 1 ((t.bd.length:Int)-1)=true:=by unfold Eu at h;simp only[Ac]at h;obtain⟨i,hi,rfl⟩:=List.mem_iff_getElem.1 hx;have h1:=Bd.1 h.2 i (List.mem_range.2 hi);unfold Jl at h1;simp only[Ac,AM hi,Be]at h1;exact⟨h1.1.1.1,h1.1.1.2⟩
theorem tI{t:An}{n:Ah}(h:EY t n=true):∃x,Ku t n x/\t.ae.length=1/\n.length=1/\ ∀b∈head t n,b≠47:=by
 unfold EY at h;simp only[Ac,AS]at h;obtain⟨x,h1,h2,h3⟩:=qT h.2;have h4:=zFC h.1 h3;have h5:=DV.1 h4.2;have h6:x.ae=n:=by simpa using h2
 have h7:=zII h.1;have h8:=h6▸h4.1;refine⟨x,⟨h1,h6,h5.1,h5.2⟩,zw3 h7,zw3 h8,λb hb=> ?_⟩;unfold head at hb;simp only[Ae,List.mem_singleton]at hb;rcases hb with(hb|hb)|hb
 ·exact(zwT h7).2 b hb
 ·subst hb;decide
 ·exact(zwT h8).2 b hb
theorem zLq{t:An}(h:Eu t=true):Ei (λx:A5=>x.ae) t.aj:=by
 unfold Eu at h;simp only[Ac]at h;have h1:=h.2;have h2:Mc (t.aj.map (·.ae))=true:=by
  unfold Mc;rw[List.length_map,Bd];intro i hi;have h3:=Bd.1 h1 i hi;unfold Jl at h3;simp only[Ac]at h3;have B8:i<t.aj.length:=List.mem_range.1 hi;have e:∀j:Nat,(((t.aj.map (·.ae))[j]?).getD [])=((t.aj[j]?).getD ⟨[],0,0⟩).ae:=by intro j;rw[List.getElem?_map];cases t.aj[j]?<;>rfl
  unfold HH;rw[e,e];exact h3.2
 rw[zsv,zuB]at h2;exact(zwQ (r:=λa b:A5=>bl a.ae b.ae) λa b c p q=>ID p q).1 h2
theorem zF6{t:An}{x:A5}(h:Eu t=true)(hx:x∈t.aj):Ku t x.ae x:=by
 have h1:Cy (λy:A5=>y.ae==x.ae) t.aj>=0:=by have:=Uv (λy:A5=>y.ae==x.ae) t.aj;rw[show(t.aj.any λy=>y.ae==x.ae)=true from List.any_eq_true.2 ⟨x,hx,by simp⟩]at this;exact of_decide_eq_true this
 obtain⟨y,h2,h3,h4⟩:=qT h1;have h5:y=x:=(zLq h).jn h4 hx (by simpa using h3);subst h5;have h6:=DV.1 (zFC h hx).2;exact⟨h2,rfl,h6.1,h6.2⟩
theorem qY{t:An}(h:Eu t=true):2<=t.bd.length/\t.bd.length<=4/\t.aj.length<=3:=by unfold Eu at h;simp only[Ac,AS]at h;have h1:=DV.1 h.1.1.2.2;have h2:=h.1.2;omega
theorem ND{t:An}{r:CD}(hs:Small r.bb)(h:HQ t r=true):Ou t r:=by unfold HQ at h;simp only[Ac,Az]at h;exact⟨by have:=h.1;omega,hs⟩
theorem Z3{t:An}{r:CD}(hc:1<=t.bd.length)(h:Ou t r):Ak r.bb 0=some (KD r 0):=(Zc h (by omega) (by omega)).1
theorem NC{t:An}{r:CD}(hc:1<=t.bd.length)(h:Ou t r):r.bb≠ []:=by intro e;have:=h.len;rw[e]at this;simp at this;omega
def UO(a:Cu):Prop:=Small a.cw.bb/\Small a.c9.bb
def Q9(t:An)(a:Cu):Bool:=
 if a.ah=1 then(a.cw.bb.length:Int)==0&&HQ t a.c9 else
 if a.ah=2 then HQ t a.cw&&(a.c9.bb.length:Int)==0 else
 if a.ah=3 then HQ t a.cw&&(HQ t a.c9&&KD a.cw 0==KD a.c9 0)else false
theorem zGP{t:An}{a:Cu}(hc:1<=t.bd.length)(h:UO a):gN t a=some (Q9 t a):=by
 unfold gN Q9;by_cases h1:a.ah=1
 ·rw[if_pos (by simpa using h1),if_pos h1,Yq h.2,Aa];cases((a.cw.bb.length:Int)==0)<;>simp
 rw[if_neg (by simpa using h1),if_neg h1];by_cases h2:a.ah=2
 ·rw[if_pos (by simpa using h2),if_pos h2,Yq h.1,Aa];cases((a.c9.bb.length:Int)==0)<;>simp
 rw[if_neg (by simpa using h2),if_neg h2];by_cases h3:a.ah=3
 ·rw[if_pos (by simpa using h3),if_pos h3,Yq h.1,Yq h.2,Aa,Aa];cases e1:HQ t a.cw with
  |false=>simp
  |true=>
   cases e2:HQ t a.c9 with
   |false=>simp
   |true=>simp[Z3 hc (ND h.1 e1),Z3 hc (ND h.2 e2)]
 rw[if_neg (by simpa using h3),if_neg h3]
theorem zGA{t:An}{a:Cu}(hc:1<=t.bd.length)(h:UO a):cC t a=some (Q9 t a):=by
 unfold cC Q9;by_cases h1:a.ah=1
 ·rw[if_pos (by simpa using h1),if_pos h1,Yo h.2,Aa];cases((a.cw.bb.length:Int)==0)<;>simp
 rw[if_neg (by simpa using h1),if_neg h1];by_cases h2:a.ah=2
 ·rw[if_pos (by simpa using h2),if_pos h2,Yo h.1,Aa]
 rw[if_neg (by simpa using h2),if_neg h2];by_cases h3:a.ah=3
 ·rw[if_pos (by simpa using h3),if_pos h3,Yo h.1,Yo h.2,Aa,Aa];cases e1:HQ t a.cw with
  |false=>simp
  |true=>
   cases e2:HQ t a.c9 with
   |false=>simp
   |true=>simp[Z3 hc (ND h.1 e1),Z3 hc (ND h.2 e2)]
 rw[if_neg (by simpa using h3),if_neg h3]
structure W4(t:An)(a:Cu):Prop where
 old:a.ah≠1->Ou t a.cw
 new:a.ah≠2->Ou t a.c9
 kind:a.ah=1\/a.ah=2\/a.ah=3
 same:a.ah=3->KD a.cw 0=KD a.c9 0
theorem zP3{t:An}{a:Cu}(h:UO a)(hg:Q9 t a=true):W4 t a:=by
 unfold Q9 at hg;by_cases h1:a.ah=1
 ·rw[if_pos h1,Ac]at hg;exact⟨λk=>absurd h1 k,λ_=>ND h.2 hg.2, .inl h1,λk=>by omega⟩
 rw[if_neg h1]at hg;by_cases h2:a.ah=2
 ·rw[if_pos h2,Ac]at hg;exact⟨λ_=>ND h.1 hg.1,λk=>absurd h2 k, .inr (.inl h2),λk=>by omega⟩
 rw[if_neg h2]at hg;by_cases h3:a.ah=3
 ·rw[if_pos h3,Ac,Ac,Az]at hg;exact⟨λ_=>ND h.1 hg.1,λ_=>ND h.2 hg.2.1, .inr (.inr h3),λ_=>hg.2.2⟩
 rw[if_neg h3]at hg;cases hg
def Qq(t:An)(a:Cu)(x:A5):Ah:=if a.ah=1 then []else Ql t x.ae x.dk a.cw
def OF(t:An)(a:Cu)(x:A5):Ah:=if a.ah=2 then []else Ql t x.ae x.dk a.c9
def Rh(k n:Ah)(x:A5):List AL:=if k≠ []/\k≠n/\x.bh>=1 then [⟨3,k,[],0⟩]else []
def MX(n:Ah)(x:A5):List AL:=if n≠ []/\x.bh>=2 then [⟨2,n,[],0⟩]else []
def Ph(t:An)(a:Cu)(x:A5):List AL:=Rh (Qq t a x) (OF t a x) x++MX (OF t a x) x
def Np(t:An)(a:Cu):List AL:=
 if a.ah=1 then [⟨6,(EX t a.c9).ab,[],0⟩,⟨2,(EX t a.c9).ab,(EX t a.c9).bf,0⟩]else
 if a.ah=2 then [⟨7,(EX t a.cw).ab,(EX t a.cw).bf,0⟩,⟨3,(EX t a.cw).ab,[],0⟩]else
 [⟨7,(EX t a.cw).ab,(EX t a.cw).bf,0⟩,⟨2,(EX t a.cw).ab,(EX t a.c9).bf,0⟩]
def aP(t:An)(a:Cu):List AL:=t.aj.foldl (λo x=>o++Ph t a x) (Np t a)
theorem zLA(k n:Ah)(x:A5):(Rh k n x).length<=1:=by unfold Rh;split<;>simp
theorem zOB(n:Ah)(x:A5):(MX n x).length<=1:=by unfold MX;split<;>simp
theorem zuw(t:An)(a:Cu)(x:A5):(Ph t a x).length<=2:=by unfold Ph;have:=zLA (Qq t a x) (OF t a x) x;have:=zOB (OF t a x) x;rw[Aq];omega
theorem zsr(t:An)(a:Cu):(Np t a).length=2:=by unfold Np;split<;>(try split)<;>rfl
theorem Z1{o p:List AL}(h:o.length<=5000000)(hn:p.length<=5000000):((o.length:Int)+(p.length:Int))*48<=140737488355328/\(o.length:Int)+(p.length:Int)<=140737488355328:=by omega
theorem zI0{t:An}{a:Cu}{x:A5}(ht:t.ae.length<=2000000)(hn:x.ae.length<=2000000)(hx:Ku t x.ae x)(ha:W4 t a):Yd t x a=some (Ph t a x):=by
 have e1:Yd t x a=eL t x a (Qq t a x):=by
  unfold Yd Qq;by_cases h1:a.ah=1
  ·rw[if_neg (by simp[h1]),if_pos h1];rfl
  ·rw[if_pos (by simpa using h1),if_neg h1,rH ht hn hx (ha.old h1)];rfl
 have e2:∀k,eL t x a k=XP x k (OF t a x):=by
  intro k;unfold eL OF;by_cases h1:a.ah=2
  ·rw[if_neg (by simp[h1]),if_pos h1]
  ·rw[if_pos (by simpa using h1),if_neg h1,rH ht hn hx (ha.new h1)];rfl
 have e3:∀(n:Ah) (o:List AL),o.length<=5->eN x n o=some (o++MX n x):=by
  intro n o ho;unfold eN MX;by_cases h1:n≠ []/\x.bh>=2
  ·rw[if_pos (by simpa using h1),if_pos h1,AJ (Z1 (by omega) (by simp))]
  ·rw[if_neg (by simpa using h1),if_neg h1,AH]
 have e4:∀(k n:Ah),XP x k n=some (Rh k n x++MX n x):=by
  intro k n;unfold XP Rh;by_cases h1:k≠ []/\k≠n/\x.bh>=1
  ·rw[if_pos (by simpa[and_assoc]using h1),if_pos h1,AJ (Z1 (by simp) (by simp)),e3 _ _ (by simp)]
  ·rw[if_neg (by simpa[and_assoc]using h1),if_neg h1,e3 _ _ (by simp)]
 rw[e1,e2,e4];rfl
theorem zHh{t:An}{a:Cu}(hc:1<=t.bd.length)(ht:t.ae.length<=2000000)(ha:W4 t a):fY t a=some (Np t a):=by
 unfold fY Np;by_cases h1:a.ah=1
 ·have hr:=ha.new (by omega);rw[if_pos (by simpa using h1),if_pos h1,Z7 ht hr.small (NC hc hr)];rfl
 have hr:=ha.old h1;rw[if_neg (by simpa using h1),if_neg h1,Z7 ht hr.small (NC hc hr),Aa];by_cases h2:a.ah=2
 ·rw[if_pos (by simpa using h2),if_pos h2]
 have hr:=ha.new h2;rw[if_neg (by simpa using h2),if_neg h2,Z7 ht hr.small (NC hc hr)];rfl
theorem zQk{t:An}{a:Cu}(hS:D3 t)(hg:Eu t=true)(ha:W4 t a):iN t a=some (aP t a):=by
 have hc:=qY hg;unfold iN;rw[zHh (by omega) hS.name ha,Aa];have hl:=zsr t a;exact(DF (xs:=t.aj) (body:=λs:Int × List AL=>Td t a s.1 s.2) (λi (o:List AL)=>(i,o)) (λo x=>o++Ph t a x) (λo=>some o) (λi o=>o.length<=2+2*i)
  (λi hi o hI=>by have hI:o.length<=2+2*i:=hI;have hw:=BE hi (by omega);have hk:=zuw t a t.aj[i];have hm:=Au hi;refine⟨?_,by show List.length _<=_;rw[Aq];omega⟩;show Td t a i o=_;unfold Td;rw[if_pos (by simpa using hi),Av hi,Aa,zI0 hS.name (hS.idx _ hm) (zF6 hg hm) ha,Aa,AJ (Z1 (by omega) (by omega)),hw])
  (λo _=>by show Td t a t.aj.length o=_;unfold Td;rw[if_neg (by simp)]) (s:=Np t a) (by omega)).1
theorem Ox{k:Int}{w:Ai}{o:List AL}(h:o.length<=5000000):LW k w o=some ((),o++ [⟨k,w.ab,w.bf,0⟩]):=by unfold LW;rw[AJ (Z1 h (by simp))]
theorem zPV{t:An}{a:Cu}(hS:D3 t)(hg:Eu t=true)(ha:W4 t a):cQ t a=some (aP t a):=by
 have hc:=qY hg;have hl:=zsr t a;have h7:∀(i:Int) (x:A5) (n:Ah) (o:List AL),o.length<=100->Sj i x n o=some (.inl (IntKind.i64.wrap (i+1),o++MX n x)):=by
  intro i x n o ho;unfold Sj MX z7;by_cases h1:n=[]
  ·rw[if_neg (by simp[h1]),if_neg (by simp[h1]),AH]
  rw[if_pos (by simpa using h1),Aa];by_cases h2:x.bh>=2
  ·rw[if_pos (by simpa using h2),if_pos ⟨h1,h2⟩,Ox (by omega)];rfl
  ·rw[if_neg (by simpa using h2),if_neg (λh=>h2 h.2),AH]
 have h6:∀(i:Int) (x:A5) (k n:Ah) (o:List AL),o.length<=99->QA i o x k n=some (.inl (IntKind.i64.wrap (i+1),o++(Rh k n x++MX n x))):=by
  intro i x k n o ho;unfold QA Rh zoq;by_cases h1:k=[]
  ·rw[if_neg (by simp[h1]),if_neg (by simp[h1]),h7 _ _ _ _ (by omega)];rfl
  rw[if_pos (by simpa using h1)];by_cases h2:k=n
  ·rw[if_neg (by simp[h2]),if_neg (by simp[h2]),h7 _ _ _ _ (by omega)];rfl
  rw[if_pos (by simpa using h2),Aa];by_cases h3:x.bh>=1
  ·rw[if_pos (by simpa using h3),if_pos ⟨h1,h2,h3⟩,Ox (by omega),Aa,h7 _ _ _ _ (by rw[Aq,AO];omega),List.append_assoc]
  ·rw[if_neg (by simpa using h3),if_neg (λh=>h3 h.2.2),h7 _ _ _ _ (by omega)];rfl
 have KY:∀o:List AL,o.length=2->Sg t a o=some (t.aj.foldl (λo x=>o++Ph t a x) o):=by
  intro o ho;unfold Sg;exact(DF (xs:=t.aj) (body:=λs:Int × List AL=>Si t a s.1 s.2) (λi (o:List AL)=>(i,o)) (λo x=>o++Ph t a x) (λo=>some o) (λi o=>o.length<=2+2*i)
   (λi hi o hI=>by
    have hI:o.length<=2+2*i:=hI;have hw:=BE hi (by omega);have hk:=zuw t a t.aj[i];have hm:=Au hi;have hx:=zF6 hg hm;refine⟨?_,by show List.length _<=_;rw[Aq];omega⟩;show Si t a i o=_;unfold Si;rw[if_pos (by simpa using hi),Av hi,Aa];have e1:(if(a.ah !=1)=true then(OM t t.aj[i].ae a.cw).bind λv20=>some (Sum.inl v20)else some (Sum.inl ([]:Ab)):Option (Ab ⊕ Option ((Int × List AL) ⊕ Option (List AL))))=some (.inl (Qq t a t.aj[i])):=by
     unfold Qq;by_cases h1:a.ah=1
     ·rw[if_neg (by simp[h1]),if_pos h1]
     ·rw[if_pos (by simpa using h1),if_neg h1,qC hS (hS.idx _ hm) hx (ha.old h1)];rfl
    rw[e1];show vD t a i o t.aj[i] (Qq t a t.aj[i])=_;unfold vD;have e2:∀k,(if(a.ah !=2)=true then(OM t t.aj[i].ae a.c9).bind λv19=>QA i o t.aj[i] k v19 else QA i o t.aj[i] k ([]:Ab))=QA i o t.aj[i] k (OF t a t.aj[i]):=by
     intro k;unfold OF;by_cases h1:a.ah=2
     ·rw[if_neg (by simp[h1]),if_pos h1]
     ·rw[if_pos (by simpa using h1),if_neg h1,qC hS (hS.idx _ hm) hx (ha.new h1)];rfl
    rw[e2,h6 _ _ _ _ _ (by omega),hw];rfl)
   (λo _=>by show Si t a t.aj.length o=_;unfold Si;rw[if_neg (by simp)]) (s:=o) (by omega)).1
 have hn:t.ae.length<=2000000:=hS.name;unfold cQ aP Np;rcases ha.kind with h1|h1|h1
 ·have hr:=ha.new (by omega);rw[if_neg (by simp[h1]),if_pos h1];show Qz t a [] [] false []=_;unfold Qz;rw[if_pos (by simp[h1]),Zb hn hr.small (NC (by omega) hr),Aa];unfold Xq;rw[if_pos (by simp[h1]),Ox (by simp),Aa,Ox (by simp),Aa,KY _ (by simp)];rfl
 ·have hr:=ha.old (by omega);rw[if_pos (by simp[h1]),if_neg (by omega),if_pos h1,Zb hn hr.small (NC (by omega) hr),Aa,Ox (by simp),Aa];show Qz t a (EX t a.cw).ab (EX t a.cw).bf (EX t a.cw).bu _=_;unfold Qz;rw[if_neg (by simp[h1])];unfold Xq;rw[if_neg (by simp[h1]),if_pos (by simp[h1]),Ox (by simp),Aa,KY _ (by simp)];rfl
 ·have hr:=ha.old (by omega);have Eb:=ha.new (by omega);have hk:(EX t a.cw).ab=(EX t a.c9).ab:=by
   have:=ha.same h1;unfold KD at this;unfold EX;rw[List.head?_eq_getElem?,List.head?_eq_getElem?];exact congrArg (λz=>t.ae++ [47]++z) this
  rw[if_pos (by simp[h1]),if_neg (by omega),if_neg (by omega),Zb hn hr.small (NC (by omega) hr),Aa,Ox (by simp),Aa];show Qz t a (EX t a.cw).ab (EX t a.cw).bf (EX t a.cw).bu _=_;unfold Qz;rw[if_pos (by simp[h1]),Zb hn Eb.small (NC (by omega) Eb),Aa];unfold Xq;rw[if_neg (by simp[h1]),if_neg (by simp[h1]),if_pos (by simp[h1]),Ox (by simp),Aa,KY _ (by simp),hk];rfl
theorem Nf{σ α:Type}{body:σ->Option (σ ⊕ Option α)}{s:σ}{o:Option α}(h:body s=some (.inr o)):Ao body s=o:=by rw[D2,h]
theorem Ul{σ α:Type}{body:σ->Option (σ ⊕ Option α)}{s s':σ}(h:body s=some (.inl s')):Ao body s=Ao body s':=by rw[D2,h]
theorem szL{α:Type}{xs:List α}{body:Int × Int->Option ((Int × Int) ⊕ Option Int)}(tot:α->Nat){a:Int}(h0:0<=a)(h1:a<=1048576)
  (hs:∀x∈xs,∀b:Int,0<=b->b<=1048576-> ∃v,v<=b/\(0<=v->(tot x:Int)=b-v)/\ ∀i:Nat,xs[i]?=some x->body (b,(i:Int))=some (if v<0 then .inr (some (-1))else .inl (v,((i+1:Nat):Int))))
  (he:∀b,body (b,(xs.length:Int))=some (.inr (some b))):∃v,Ao body (a,0)=some v/\v<=a/\(0<=v->((xs.map tot).sum:Int)=a-v):=by
 have key:∀(n q:Nat) (a:Int),q+n=xs.length->0<=a->a<=1048576-> ∃v,Ao body (a,(q:Int))=some v/\v<=a/\(0<=v->(((xs.drop q).map tot).sum:Int)=a-v):=by
  intro n
  induction n with
  |zero=>
   intro q a hq h0 h1;refine⟨a,?_,by omega,λ_=> ?_⟩
   ·rw[D2,show(q:Int)=(xs.length:Int) by omega,he]
   ·rw[List.drop_eq_nil_of_le (by omega)];simp
  |succ n ih=>
   intro q a hq h0 h1;have AQ:q<xs.length:=by omega
   obtain⟨v,e1,e2,e3⟩:=hs xs[q] (Au AQ) a h0 h1;rw[D2,e3 q (AM AQ)];by_cases hv:v<0
   ·rw[if_pos hv];exact⟨-1,rfl,by omega,by omega⟩
   ·rw[if_neg hv];obtain⟨u,f1,f2,f3⟩:=ih (q+1) v (by omega) (by omega) (by omega);refine⟨u,f1,by omega,λhu=> ?_⟩;have g1:=f3 hu;have g2:=e2 (by omega);rw[Bw AQ,List.map_cons,List.sum_cons];omega
 have:=key xs.length 0 a (by omega) h0 h1;simpa using this
theorem CW{α:Type}{tot:α->Nat}:∀{xs:List α} {x:α},x∈xs->tot x<=(xs.map tot).sum
 |y::xs,x,h=>by
  rw[List.map_cons,List.sum_cons];rcases Ag.1 h with rfl|h
  ·omega
  ·have:=CW (tot:=tot) h;omega
theorem zDf{α:Type}(xs:List α)(n:Nat):(xs.map λ_=>n).sum=n*xs.length:=by
 induction xs with
 |nil=>simp
 |cons x xs ih=>rw[List.map_cons,List.sum_cons,ih,AE,Nat.mul_add];omega
abbrev wk(w:Ai):Ah:=w.ab
def zQY(got:List Ce)(k:Ah):Ah × Bool × Bool:=match got.find? (λg=>g.ab==k)with|some g=>(g.bf,g.dz,true)|none=>([],false,false)
def zRt(ws:List Ai)(got:List Ce)(k:Ah):Ah × Bool × Bool:=match ws.find? (λw=>w.ab==k)with|some w=>(w.bf, !w.bu,true)|none=>zQY got k
theorem lC{α:Type}(lt:α->Bool)(x:α)(l:List α):AT lt (x::l)=if lt x=true then AT lt l+1 else 0:=by unfold AT;rw[List.takeWhile_cons];split<;>rfl
theorem zxi{x:Ai}{l:List Ai}(h:Gp (x::l)):(∀y∈l,bl x.ab y.ab=true)/\Gp l:=by unfold Gp Ei at h;rw[List.pairwise_cons]at h;exact h
theorem zIK{l:List Ai}{k:Ah}(h:∀y∈l,bl k y.ab=true):l.find? (λw=>w.ab==k)=none:=by rw[List.find?_eq_none];intro y hy;have:=Hh (h y hy);simpa using λe=>this e.symm
theorem zzB{k:Ah}:∀{l:List Ai},Gp l->l.find? (λw=>w.ab==k)=match l[HR l k]? with|some w=>if w.ab=k then some w else none|none=>none
 | [],_=>by simp
 |x::l,h=>by
  obtain⟨h1,h2⟩:=zxi h;have ih:=zzB (k:=k) h2;rw[HR,lC,List.find?_cons];by_cases hb:bl x.ab k=true
  ·have BY:(x.ab==k)=false:=by simpa using Hh hb
   rw[if_pos hb,BY,List.getElem?_cons_succ];exact ih
  ·rw[if_neg hb,List.getElem?_cons_zero];by_cases he:x.ab=k
   ·rw[show(x.ab==k)=true by simpa using he];simp[he]
   ·rw[show(x.ab==k)=false by simpa using he];simp only[he,if_false];have hk:bl k x.ab=true:=Ni (by simpa using hb) he;exact zIK λy hy=>ID hk (h1 y hy)
theorem zOi{l:List Ai}{k:Ah}(hl:l.length<=2000000)(hr:Gp l):∃i:Int,(QJ l k=some (i,true)/\ ∃w,Ak l i=some w/\l.find? (λw=>w.ab==k)=some w)\/(QJ l k=some (i,false)/\l.find? (λw=>w.ab==k)=none):=by
 refine⟨(HR l k:Nat),?_⟩;rw[zPA hl hr,zzB hr];by_cases hp:HR l k<l.length
 ·rw[AM hp];by_cases hk:(l[HR l k]).ab=k
  ·left;simp only[hk,decide_true,if_true];exact⟨trivial,_,Av hp,rfl⟩
  ·right;simp only[hk,decide_false,if_false];exact⟨trivial,trivial⟩
 ·rw[List.getElem?_eq_none (by omega)];right;exact⟨rfl,rfl⟩
def EN(k:Ah)(w:Ai):Bool:=bl w.ab k||w.ab==k
def OC(l:List Ai)(w:Ai)(q:Nat):List Ai:=
 match(if q=0 then none else l[q-1]?)with
 |some y=>if y.ab=w.ab then l.set (q-1) w else l.take q++ [w]++l.drop q
 |none=>l.take q++ [w]++l.drop q
theorem zJs{w:Ah}{l:List Ai}(h:∀y∈l,bl w y.ab=true):AT (EN w) l=0:=by
 cases l with
 |nil=>rfl
 |cons y l=>rw[lC,if_neg];have h1:=h y (by simp);have h2:=O7 h1;have h3:=Hh h1;unfold EN;rw[h2];simpa using λe=>h3 e.symm
theorem zFJ{w:Ai}:∀{l:List Ai},Gp l->OC l w (AT (EN w.ab) l)=DY wk w l
 | [],_=>by simp[OC,DY,AT]
 |x::l,h=>by
  obtain⟨h1,h2⟩:=zxi h;have ih:=zFJ (w:=w) h2;rw[lC,DY];by_cases ha:bl (wk w) (wk x)=true
  ·have hl:EN w.ab x=false:=by
    have h3:=O7 ha;have h4:=Hh ha;unfold EN;rw[h3];simpa using λe=>h4 e.symm
   rw[if_pos ha,hl,if_neg (by simp)];simp[OC]
  rw[if_neg ha];by_cases he:wk w=wk x
  ·have hl:EN w.ab x=true:=by unfold EN;rw[show(x.ab==w.ab)=true by simpa using he.symm];simp
   have hz:AT (EN w.ab) l=0:=zJs λy hy=>by rw[show w.ab=x.ab from he];exact h1 y hy
   rw[if_pos he,hl,if_pos rfl,hz];simp[OC,show x.ab=w.ab from he.symm]
  ·have hb:bl x.ab w.ab=true:=Ni (by simpa using ha) he;have hl:EN w.ab x=true:=by unfold EN;rw[hb];rfl
   rw[if_neg he,hl,if_pos rfl,<-ih];have hle:=L9 (EN w.ab) l;generalize AT (EN w.ab) l=q at hle;unfold OC;rw[if_neg (by omega),Nat.add_sub_cancel];cases q with
   |zero=>simp only[List.getElem?_cons_zero,if_true];rw[if_neg (λe=>he e.symm)];simp
   |succ q=>
    rw[if_neg (by omega),Nat.add_sub_cancel,List.getElem?_cons_succ,AM (by omega)];simp only;split
    ·simp
    ·simp
theorem zIT{w:Ah}:∀{l:List Ai},Gp l-> ∀(j:Nat) (hj:j<l.length),AT (EN w) l<=j->EN w l[j]=false
 | [],_,j,hj,_=>by simp at hj
 |x::l,h,j,hj,hq=>by
  obtain⟨h1,h2⟩:=zxi h;rw[lC]at hq;by_cases hx:EN w x=true
  ·rw[if_pos hx]at hq;cases j with
   |zero=>omega
   |succ j=>exact zIT h2 j (by simpa using hj) (by omega)
  ·have DD:EN w x=false:=by simpa using hx
   cases j with
   |zero=>exact DD
   |succ j=>have hm:l[j]'(by simpa using hj)∈l:=Au _;have h3:=h1 _ hm;show EN w (l[j]'(by simpa using hj))=false;unfold EN at DD ⊢;simp only[Bool.or_eq_false_iff,beq_eq_false_iff_ne]at DD ⊢;have h4:bl w x.ab=true:=Ni DD.1 DD.2;have h5:=ID h4 h3;exact⟨O7 h5,λe=>Hh h5 e.symm⟩
theorem JY{i:Nat}(h0:0<i)(h:i<=2000000):IntKind.i64.wrap ((i:Int)-1)=((i-1:Nat):Int):=by rw[Cv (by omega) (by omega)];omega
theorem zOX{l:List Ai}{w:Ai}(hl:l.length<=2000000)(hr:Gp l):jG l w=some (DY wk w l):=by
 have hk:∀q:Nat,q<=l.length->eS l w (q:Int)=some (OC l w q):=by
  intro q hq;have r1:0<=(q:Int)/\(q:Int)<=(l.length:Int)/\(l.length:Int)<=(l.length:Int):=by omega
  have MP:(A1 l (q:Int) (l.length:Int))=l.drop q:=by rw[show(l.length:Int)=((l.length:Nat):Int)from rfl,Xi,List.take_length]
  have Oh:(A1 l 0 (q:Int))=l.take q:=W5 l q;have r2:((([]:List Ai).length:Int)+((l.drop q).length:Int))*40<=140737488355328/\(([]:List Ai).length:Int)+((l.drop q).length:Int)<=140737488355328:=by rw[List.length_nil,Br];omega
  have r3:0<=(0:Int)/\(0:Int)<=(q:Int)/\(q:Int)<=(l.length:Int):=by omega
  have r4:((([]:List Ai).length:Int)+((l.take q).length:Int))*40<=140737488355328/\(([]:List Ai).length:Int)+((l.take q).length:Int)<=140737488355328:=by rw[List.length_nil,AI];omega
  have r5:(((l.take q).length:Int)+(([w]:List Ai).length:Int))*40<=140737488355328/\((l.take q).length:Int)+(([w]:List Ai).length:Int)<=140737488355328:=by rw[AO,AI];omega
  have r6:(((l.take q++ [w]).length:Int)+((l.drop q).length:Int))*40<=140737488355328/\((l.take q++ [w]).length:Int)+((l.drop q).length:Int)<=140737488355328:=by rw[Aq,AO,AI,Br];omega
  have r7:((([]:List Ai).length:Int)+((l).length:Int))*40<=140737488355328/\(([]:List Ai).length:Int)+((l).length:Int)<=140737488355328:=by rw[List.length_nil];omega
  unfold eS OC;by_cases h0:q=0
  ·subst h0;rw[if_neg (by simp),if_pos rfl];rw[AJ r1,MP,AJ r2,AJ r3,Oh,AJ r4,AJ r5,AJ r6]
  ·have Hr:q-1<l.length:=by omega
   rw[if_pos (by simp;omega),if_neg h0,JY (by omega) (by omega),Av Hr,Aa,AM Hr];simp only;by_cases he:(l[q-1]).ab=w.ab
   ·rw[if_pos (by simpa using he),if_pos he,AJ r7,Aa];rfl
   ·rw[if_neg (by simpa using he),if_neg he];rw[AJ r1,MP,AJ r2,AJ r3,Oh,AJ r4,AJ r5,AJ r6]
 have hle:=L9 (EN w.ab) l;have key:∀n j:Nat,j=AT (EN w.ab) l+n->j<=l.length->Ao (λs:Int=>QI l w s) (j:Int)=some (OC l w (AT (EN w.ab) l)):=by
  intro n
  induction n with
  |zero=>
   intro j hj LI;have Kc:j=AT (EN w.ab) l:=by omega
   refine(Nf ?_).trans (hk _ hle);show QI l w (j:Int)=_;unfold QI;by_cases h0:j=0
   ·rw[if_neg (by simp[h0]),Kc]
   ·have Hr:j-1<l.length:=by omega
    have ht:=Ra (lt:=EN w.ab) (l:=l) (i:=j-1) (by omega);rw[if_pos (by simp;omega),JY (by omega) (by omega),Av Hr,Aa,if_neg,Kc];unfold EN at ht;have ht:(bl l[j-1].ab w.ab||l[j-1].ab==w.ab)=true:=ht;show¬(!(bl l[j-1].ab w.ab||l[j-1].ab==w.ab))=true;rw[ht];simp
  |succ n ih=>
   intro j hj LI;have Hr:j-1<l.length:=by omega
   have ht:=zIT (w:=w.ab) hr (j-1) Hr (by omega);have e:QI l w (j:Int)=some (.inl ((j-1:Nat):Int)):=by unfold QI;rw[if_pos (by simp;omega),JY (by omega) (by omega),Av Hr,Aa,if_pos];have ht:(bl l[j-1].ab w.ab||l[j-1].ab==w.ab)=false:=ht;show(!(bl l[j-1].ab w.ab||l[j-1].ab==w.ab))=true;rw[ht];rfl
   rw[Ul (body:=λs:Int=>QI l w s) e];exact ih (j-1) (by omega) (by omega)
 unfold jG;rw[key (l.length-AT (EN w.ab) l) l.length (by omega) (AF _),zFJ hr]
section
variable {α:Type} {key:α->Int}
def Gi(key:α->Int)(x:α):List α->List α
 | []=> [x]
 |y::l=>if key x<key y then x::y::l else y::Gi key x l
def DX(key:α->Int)(l:List α):Prop:=l.Pairwise λa b=>key a<key b
def Bn(key:α->Int)(t:Int)(y:α):Bool:=decide (key y<t)
theorem Yw(lt:α->Bool)(x:α)(l:List α):AT lt (x::l)=if lt x=true then AT lt l+1 else 0:=by unfold AT;rw[List.takeWhile_cons];split<;>rfl
theorem qF{x:α}:∀{l:List α},(∀y∈l,key y≠key x)->Gi key x l=l.take (AT (Bn key (key x)) l)++ [x]++l.drop (AT (Bn key (key x)) l)
 | [],_=>by simp[Gi,AT]
 |y::l,h=>by
  have ih:=qF (x:=x) (l:=l) λz hz=>h z (by simp[hz]);have hy:=h y (by simp);rw[Yw,Gi];by_cases hb:key x<key y
  ·have e:Bn key (key x) y=false:=by unfold Bn;simp;omega
   rw[if_pos hb,e];simp
  ·have e:Bn key (key x) y=true:=by unfold Bn;simp;omega
   rw[if_neg hb,e,if_pos rfl,ih];simp
theorem lT{x z:α}:∀{l:List α},z∈Gi key x l↔z=x\/z∈l
 | []=>by simp[Gi]
 |y::l=>by
  rw[Gi];split
  ·simp
  ·rw[Ag,lT,Ag];constructor
   ·rintro(h|h|h)<;>simp[h]
   ·rintro(h|h|h)<;>simp[h]
theorem zGb{x:α}:∀(l:List α),(Gi key x l).length=l.length+1
 | []=>rfl
 |y::l=>by
  rw[Gi];split
  ·rfl
  ·simp[zGb l]
theorem DX.ins{x:α}:∀{l:List α},DX key l->(∀y∈l,key y≠key x)->DX key (Gi key x l)
 | [],_,_=>by simp[Gi,DX]
 |y::l,h,hx=>by
  obtain⟨h1,h2⟩:=List.pairwise_cons.1 h;rw[Gi];split
  ·rename_i hb;refine List.pairwise_cons.2 ⟨λz hz=> ?_,h⟩;rcases Ag.1 hz with rfl|hz
   ·exact hb
   ·have:=h1 z hz;omega
  ·rename_i hb;refine List.pairwise_cons.2 ⟨λz hz=> ?_,DX.ins h2 λz hz=>hx z (by simp[hz])⟩;have hy:=hx y (by simp);rcases lT.1 hz with rfl|hz
   ·omega
   ·exact h1 z hz
theorem DX.filter{l:List α}(h:DX key l)(p:α->Bool):DX key (l.filter p):=List.Pairwise.filter p h
theorem DX.tail{x:α}{l:List α}(h:DX key (x::l)):DX key l:=(List.pairwise_cons.1 h).2
theorem DX.mono{l:List α}(h:DX key l){i j:Nat}(hj:j<l.length)(hi:i<j):key l[i]<key l[j]:=List.pairwise_iff_getElem.1 h i j (by omega) hj hi
theorem kG{t:Int}:∀{l:List α},DX key l->l.find? (λy=>key y==t)=match l[AT (Bn key t) l]? with|some y=>if key y=t then some y else none|none=>none
 | [],_=>by simp
 |x::l,h=>by
  obtain⟨h1,h2⟩:=List.pairwise_cons.1 h;have ih:=kG (t:=t) h2;rw[Yw,List.find?_cons];by_cases hb:key x<t
  ·have e:Bn key t x=true:=by unfold Bn;simpa using hb
   have BY:(key x==t)=false:=by simp;omega
   rw[e,if_pos rfl,BY,List.getElem?_cons_succ];exact ih
  ·have e:Bn key t x=false:=by unfold Bn;simpa using hb
   rw[e,if_neg (by simp),List.getElem?_cons_zero];by_cases he:key x=t
   ·rw[show(key x==t)=true by simpa using he];simp[he]
   ·rw[show(key x==t)=false by simpa using he];simp only[he,if_false];rw[List.find?_eq_none];intro y hy;have:=h1 y hy;simp;omega
theorem zzX{t:Int}{l:List α}(h:DX key l):∀i j (hj:j<l.length) (hi:i<=j),Bn key t l[j]=true->Bn key t l[i]=true:=by
 intro i j hj hi AQ;unfold Bn at AQ ⊢;simp only[AS]at AQ ⊢;by_cases he:i=j
 ·subst he;exact AQ
 ·have:=h.mono hj (show i<j by omega);omega
theorem zz6{t:Int}:∀{l:List α} {i:Nat},DX key l->(hi:i<l.length)->key l[i]=t->l.take i++l.drop (i+1)=l.filter λy=>decide (key y≠t)
 | [],i,_,hi,_=>by simp at hi
 |x::l,0,h,_,hk=>by
  obtain⟨h1,_⟩:=List.pairwise_cons.1 h;have hk:key x=t:=hk;rw[List.filter_cons,if_neg (by simpa using hk)];symm;rw[List.filter_eq_self.2]
  ·rfl
  ·intro y hy;have:=h1 y hy;simp;omega
 |x::l,i+1,h,hi,hk=>by
  obtain⟨h1,h2⟩:=List.pairwise_cons.1 h;have B8:i<l.length:=by simpa using hi
  have Cf:key l[i]=t:=by simpa using hk
  have hx:key x≠t:=by have:=h1 _ (Au B8);omega
  rw[List.filter_cons,if_pos (by simpa using hx),List.take_succ_cons,List.cons_append,List.drop_succ_cons,zz6 h2 B8 Cf]
theorem zvK{t:Int}{l:List α}(h:l.find? (λy=>key y==t)=none):(l.filter λy=>decide (key y≠t))=l:=by rw[List.filter_eq_self];intro y hy;have:=List.find?_eq_none.1 h y hy;simpa using this
theorem DX.len{lo hi:Int}:∀{l:List α},DX key l->(∀y∈l,lo<=key y/\key y<=hi)->(l.length:Int)<=max 0 (hi-lo+1)
 | [],_,_=>by simp;omega
 |x::l,h,hb=>by
  obtain⟨h1,h2⟩:=List.pairwise_cons.1 h;have hx:=hb x (by simp);have:=DX.len (lo:=key x+1) (hi:=hi) h2 λy hy=>⟨by have:=h1 y hy;omega,(hb y (by simp[hy])).2⟩
  rw[AE];omega
end
abbrev ck(c:Ap):Ah:=c.ab
abbrev Oq(l:List Ap):Prop:=Ei ck l
def HT(l:List Ap)(k:Ah):Option Ap:=l.find? λc=>c.ab==k
def uI(c:Ap):Int:=match c.au.getLast? with|some v=>v.ak|none=>0
def LD(l:List Ap)(k:Ah):Int:=match HT l k with|some c=>uI c|none=>0
def NG(l:List Ap)(k:Ah):List CE:=match HT l k with|some c=>c.au|none=> []
def M6(l:List Ap)(k:Ah)(v:CE):List Ap:=DY ck ⟨k,NG l k++ [v]⟩ l
def Jn(t:Int)(l:List Ap)(w:Ai):Option (List Ap):=if t<=LD l w.ab then none else some (M6 l w.ab ⟨t,w.bf,w.bu⟩)
def M4(t:Int)(l:List Ap)(ws:List Ai):Option (List Ap):=ws.foldlM (Jn t) l
def OE(l:List Ap)(ws:List Ai)(t:Int):Option (List Ap):=match M4 t l ws with|some o=>if I9 o=true then some o else none|none=>none
abbrev hk(h:AX):Int:=h.bc
abbrev tk(t:Cm):Int:=t.bc
def GC(s:AD)(t:Int):Option AX:=s.al.find? λh=>hk h==t
def Jh(s:AD)(t:Int):Option Cm:=s.bz.find? λh=>tk h==t
def J4(ws:List Ai)(k:Ah):Bool:=ws.any λw=>w.ab==k
def Dv(ws:List Ai)(rs:List Ah)(os:List Ai):Bool:=ws.any λw=>J4 os w.ab||rs.contains w.ab
def Lt(h:AX)(rs:List Ah)(ws:List Ai):Bool:=Dv h.af rs ws||Dv ws h.az h.af
theorem zIc{a b:Int}:decide (OA a b<0)=decide (a<b):=by
 unfold OA;by_cases h:a<b
 ·simp[h]
 ·by_cases he:a=b<;>simp[h,he]
theorem zJj{a b:Int}:(OA a b==0)=decide (a=b):=by
 unfold OA;by_cases h:a<b
 ·have: ¬a=b:=by omega
  simp[h,this]
 ·by_cases he:a=b<;>simp[h,he]
theorem zRh{l:List Ap}{k:Ah}(hl:l.length<=2000000)(hr:Oq l):bL l k (λy0_ y1_=>QN y0_ y1_)=some (((AT (λw:Ap=>bl w.ab k) l:Nat):Int),(match l[AT (λw:Ap=>bl w.ab k) l]? with|some w=>decide (w.ab=k)|none=>false)):=by
 unfold bL;have hc:∀w:Ap,QN w k=some (OD w.ab k):=λw=>by simp[QN]
 have h:=Z4 (xs:=l) (body:=λs:Int × Int=>R9 l k (λy0_ y1_=>QN y0_ y1_) s.1 s.2) (fin:=λi=>uX l k (λy0_ y1_=>QN y0_ y1_) i) (λw:Ap=>bl w.ab k)
  (λi j hj hi h=>by
   rcases Nat.lt_or_ge i j with Gt|Gt
   ·exact ID ((List.pairwise_iff_getElem.1 hr) i j (by omega) hj Gt) h
   ·have:i=j:=by omega
    subst this;exact h)
  (λi j Gt hj Ik=>by show R9 l k _ (i:Int) (j:Int)=_;unfold R9;rw[if_pos (by simpa using Gt),aG (by omega) (by omega),Av Ik,Aa];simp only[hc,Aa,zJI,CH (show(i+j)/2<=2000000 by omega)];cases bl l[(i+j)/2].ab k<;>rfl)
  (λi hi=>by show R9 l k _ (i:Int) (i:Int)=_;unfold R9;rw[if_neg (by simp)])
 rw[h];unfold uX;by_cases hp:AT (λw:Ap=>bl w.ab k) l<l.length
 ·rw[if_pos (by simpa using hp),Av hp,Aa];simp only[hc,Aa,zJd,AM hp]
 ·rw[if_neg (by simpa using hp),List.getElem?_eq_none (by omega)]
theorem zRi{l:List AX}{k:Int}(hl:l.length<=2000000)(hr:DX hk l):bO l k (λy0_ y1_=>Qx y0_ y1_)=some (((AT (Bn hk k) l:Nat):Int),(match l[AT (Bn hk k) l]? with|some w=>decide (w.bc=k)|none=>false)):=by
 unfold bO;have hc:∀w:AX,Qx w k=some (OA w.bc k):=λw=>by simp[Qx]
 have h:=Z4 (xs:=l) (body:=λs:Int × Int=>Sa l k (λy0_ y1_=>Qx y0_ y1_) s.1 s.2) (fin:=λi=>uZ l k (λy0_ y1_=>Qx y0_ y1_) i) (Bn hk k)
  (λi j hj hi h=>zzX hr i j hj hi h)
  (λi j Gt hj Ik=>by show Sa l k _ (i:Int) (j:Int)=_;unfold Sa;rw[if_pos (by simpa using Gt),aG (by omega) (by omega),Av Ik,Aa];simp only[hc,Aa,zIc,CH (show(i+j)/2<=2000000 by omega)];by_cases hq:l[(i+j)/2].bc<k<;>simp[Bn,hk,tk,hq])
  (λi hi=>by show Sa l k _ (i:Int) (i:Int)=_;unfold Sa;rw[if_neg (by simp)])
 rw[h];unfold uZ;by_cases hp:AT (Bn hk k) l<l.length
 ·rw[if_pos (by simpa using hp),Av hp,Aa];simp only[hc,Aa,zJj,AM hp]
 ·rw[if_neg (by simpa using hp),List.getElem?_eq_none (by omega)]
theorem zRa{l:List Cm}{k:Int}(hl:l.length<=2000000)(hr:DX tk l):bM l k (λy0_ y1_=>Qy y0_ y1_)=some (((AT (Bn tk k) l:Nat):Int),(match l[AT (Bn tk k) l]? with|some w=>decide (w.bc=k)|none=>false)):=by
 unfold bM;have hc:∀w:Cm,Qy w k=some (OA w.bc k):=λw=>by simp[Qy]
 have h:=Z4 (xs:=l) (body:=λs:Int × Int=>Sb l k (λy0_ y1_=>Qy y0_ y1_) s.1 s.2) (fin:=λi=>u3 l k (λy0_ y1_=>Qy y0_ y1_) i) (Bn tk k)
  (λi j hj hi h=>zzX hr i j hj hi h)
  (λi j Gt hj Ik=>by show Sb l k _ (i:Int) (j:Int)=_;unfold Sb;rw[if_pos (by simpa using Gt),aG (by omega) (by omega),Av Ik,Aa];simp only[hc,Aa,zIc,CH (show(i+j)/2<=2000000 by omega)];by_cases hq:l[(i+j)/2].bc<k<;>simp[Bn,hk,tk,hq])
  (λi hi=>by show Sb l k _ (i:Int) (i:Int)=_;unfold Sb;rw[if_neg (by simp)])
 rw[h];unfold u3;by_cases hp:AT (Bn tk k) l<l.length
 ·rw[if_pos (by simpa using hp),Av hp,Aa];simp only[hc,Aa,zJj,AM hp]
 ·rw[if_neg (by simpa using hp),List.getElem?_eq_none (by omega)]
theorem Zi{β:Type}{body:Int->Option (Int ⊕ Option β)}{fin:Option β}(m:Nat)(he:body (m:Nat)=some (.inr fin)):∀n:Nat,m<=n->(∀i:Nat,m<=i->i<n->body ((i+1:Nat):Int)=some (.inl (i:Int)))->Ao body (n:Nat)=fin
 |0,h,_=>by
  have e:m=0:=by omega
  subst e;exact Nf he
 |n+1,h,hs=>by
  by_cases e:m=n+1
  ·subst e;exact Nf he
  ·rw[Ul (hs n (by omega) (by omega))];exact Zi m he n (by omega) λi h1 h2=>hs i h1 (by omega)
theorem zGg{α:Type}{vs:List α}(h:vs≠ [])(hl:vs.length<=2000000):Ak vs (IntKind.i64.wrap ((vs.length:Int)-1))=some (vs.getLast h):=by
 have hp:0<vs.length:=by cases vs with|nil=>exact absurd rfl h|cons=>simp
 rw[JY hp hl,Av (by omega),List.getLast_eq_getElem]
def DO(n:Nat)(l:List Ap):Prop:=Oq l/\(l.length<=n/\ ∀c∈l,c.au≠ []/\(c.au.length<=n/\aW c))
theorem zxa{l:List Ap}{k:Ah}{c:Ap}(h:HT l k=some c):c∈l/\c.ab=k:=⟨List.mem_of_find?_eq_some h,by have:=List.find?_some h;simpa using this⟩
theorem qQ{l:List Ap}{k:Ah}{c:Ap}(hr:Oq l)(hc:c∈l)(hk:c.ab=k):HT l k=some c:=by
 cases h:HT l k with
 |none=>have:=List.find?_eq_none.1 h c hc;simp[hk]at this
 |some d=>obtain⟨h1,h2⟩:=zxa h;rw[Ei.jn (key:=ck) hr h1 hc (by rw[ck,ck,h2,hk])]
theorem qZ{l:List Ap}{k:Ah}(h:∀c∈l,c.ab≠k):HT l k=none:=by unfold HT;rw[List.find?_eq_none];intro y hy;simpa using h y hy
abbrev Bq(l:List Ap)(k:Ah):Nat:=AT (λw:Ap=>bl w.ab k) l
theorem zNa(l:List Ap)(k:Ah):Bq l k<=l.length:=L9 _ l
theorem Yn{l:List Ap}(hr:Oq l)(k:Ah):(∃h:Bq l k<l.length,l[Bq l k].ab=k/\HT l k=some l[Bq l k])\/((∀c∈l,c.ab≠k)/\HT l k=none/\ ∀h:Bq l k<l.length,bl k l[Bq l k].ab=true):=by
 have ZH:=List.pairwise_iff_getElem.1 hr;by_cases hp:Bq l k<l.length
 ·by_cases hk:l[Bq l k].ab=k
  ·exact .inl ⟨hp,hk,qQ hr (Au hp) hk⟩
  ·right;have hn:bl (l[Bq l k]'hp).ab k=false:=Z2 hp;have hg:bl k l[Bq l k].ab=true:=Ni hn hk;have Cj:∀c∈l,c.ab≠k:=by
    intro c hc e;obtain⟨j,hj,rfl⟩:=List.mem_iff_getElem.1 hc;rcases Nat.lt_trichotomy j (Bq l k)with h|h|h
    ·exact Hh (Ra h) e
    ·subst h;exact hk e
    ·have:=ZH (Bq l k) j hp hj h;rw[ck,ck,e,O7 hg]at this;cases this
   exact⟨Cj,qZ Cj,λ_=>hg⟩
 ·right;have Cj:∀c∈l,c.ab≠k:=by
   intro c hc e;obtain⟨j,hj,rfl⟩:=List.mem_iff_getElem.1 hc;exact Hh (Ra (lt:=λw:Ap=>bl w.ab k) (show j<Bq l k by omega)) e
  exact⟨Cj,qZ Cj,λh=>absurd h hp⟩
theorem qM{l:List Ap}{k:Ah}(hl:l.length<=2000000)(hr:Oq l):TG l k=some (((Bq l k:Nat):Int),(HT l k).isSome):=by
 unfold TG;rw[zRh hl hr,Aa];rcases Yn hr k with⟨hp,hk,hf⟩|⟨hn,hf,hg⟩
 ·rw[hf];simp[AM hp,hk]
 ·rw[hf];by_cases hp:Bq l k<l.length
  ·have hk:l[Bq l k].ab≠k:=hn _ (Au hp);simp[AM hp,hk]
  ·simp[List.getElem?_eq_none (show l.length<=Bq l k by omega)]
theorem zNd{l:List Ap}{k:Ah}(hl:l.length<=2000000)(hr:Oq l):∃i:Int,Yk l k=some i/\((i<0/\HT l k=none)\/(0<=i/\ ∃c,Ak l i=some c/\HT l k=some c)):=by
 refine⟨Cy (λc:Ap=>c.ab==k) l,?_,?_⟩
 ·unfold Yk;refine lW (λc:Ap=>c.ab==k) (λi hi=> ?_) ?_
  ·unfold zZ;rw[if_pos (by simpa using hi),Av hi,Aa,CH (by omega)];cases l[i].ab==k<;>rfl
  ·unfold zZ;rw[if_neg (by simp)]
 ·by_cases h:Cy (λc:Ap=>c.ab==k) l>=0
  ·obtain⟨x,h1,h2,h3⟩:=qT h;exact .inr ⟨h,x,h1,qQ hr h3 (by simpa using h2)⟩
  ·refine .inl ⟨by omega,?_⟩;have:=Uv (λc:Ap=>c.ab==k) l;rw[decide_eq_false h]at this;unfold HT;rw[List.find?_eq_none];intro y hy hq;have:=List.any_eq_false.1 this.symm y hy;exact this hq
theorem zzA{l:List Ap}{k:Ah}{c:Ap}(h:HT l k=some c)(hv:c.au≠ []):LD l k=(c.au.getLast hv).ak:=by unfold LD;rw[h];show uI c=_;unfold uI;rw[List.getLast?_eq_some_getLast hv]
theorem zOc{n:Nat}{l:List Ap}{k:Ah}(hn:n<=1000)(h:DO n l):jC l k=some (LD l k):=by
 obtain⟨hr,hl,hc⟩:=h;unfold jC;obtain⟨i,e,⟨h1,h2⟩|⟨h1,c,h2,h3⟩⟩:=zNd (l:=l) (k:=k) (by omega) hr
 ·rw[e,Aa,if_pos (by simpa using h1)];unfold LD;rw[h2]
 ·obtain⟨hv,hw,_⟩:=hc c (zxa h3).1;rw[e,Aa,if_neg (by simpa using h1),h2,Aa,zGg hv (by omega),Aa,zzA h3 hv]
theorem zOT{n:Nat}{l:List Ap}{k:Ah}(hn:n<=1000)(h:DO n l):fO l k=some (LD l k):=by
 obtain⟨hr,hl,hc⟩:=h;unfold fO;rw[qM (by omega) hr,Aa];rcases Yn hr k with⟨hp,hk,hf⟩|⟨_,hf,_⟩
 ·obtain⟨hv,hw,_⟩:=hc _ (Au hp);rw[hf,if_neg (by simp)];rw[Av hp,Aa,zGg hv (by omega),Aa,zzA hf hv]
 ·rw[hf];simp only[Option.isSome_none,Bool.not_false,if_true];unfold LD;rw[hf]
theorem zFF{l:List Ap}{k:Ah}{v:CE}(hr:Oq l)(hp:Bq l k<l.length)(hk:l[Bq l k].ab=k):M6 l k v=l.set (Bq l k) ⟨k,l[Bq l k].au++ [v]⟩:=by unfold M6;rw[lZ hr];rw[show AT (λy=>bl (ck y) (ck (⟨k,NG l k++ [v]⟩:Ap))) l=Bq l k from rfl,AM hp];show(if l[Bq l k].ab=k then _ else _)=_;rw[if_pos hk];unfold NG;rw[qQ hr (Au hp) hk]
theorem zFZ{l:List Ap}{k:Ah}{v:CE}(hr:Oq l)(hn:∀c∈l,c.ab≠k):M6 l k v=l.take (Bq l k)++ [⟨k,[v]⟩]++l.drop (Bq l k):=by
 have hv:NG l k=[]:=by unfold NG;rw[qZ hn]
 unfold M6;rw[lZ hr,hv];rw[show AT (λy=>bl (ck y) (ck (⟨k,[]++ [v]⟩:Ap))) l=Bq l k from rfl];by_cases hp:Bq l k<l.length
 ·rw[AM hp];show(if l[Bq l k].ab=k then _ else _)=_;rw[if_neg (hn _ (Au hp))];rfl
 ·rw[List.getElem?_eq_none (by omega)];rfl
theorem DO.add{n:Nat}{l:List Ap}{k:Ah}{v:CE}(h:DO n l)(hn:n<=1000)(hk:k.length<=2000000)(hv:v.bf.length<=2000000):DO (n+1) (M6 l k v):=by
 obtain⟨hr,hl,hc⟩:=h;have Wi:(NG l k).length<=n/\ ∀v∈NG l k,v.bf.length<=2000000:=by
  unfold NG;cases e:HT l k with
  |none=>exact⟨by simp,λv hv=>by simp at hv⟩
  |some c=>obtain⟨_,h2,h3⟩:=hc c (zxa e).1;exact⟨h2,h3.2.2⟩
 refine⟨lA hr,?_,?_⟩
 ·have:=YR (key:=ck) (x:=(⟨k,NG l k++ [v]⟩:Ap)) l;unfold M6;omega
 ·intro c Gs;rcases(YS (key:=ck) hr c).1 Gs with rfl|⟨hm,_⟩
  ·refine⟨by simp,by simp;omega,hk,by simp;omega,?_⟩;intro x hx;rcases Ae.1 hx with hx|hx
   ·exact Wi.2 x hx
   ·have:x=v:=by simpa using hx
    subst this;exact hv
  ·obtain⟨h1,h2,h3⟩:=hc c hm;exact⟨h1,by omega,h3⟩
def UC(ws:List Ai):Prop:=ws.length<=100/\ ∀w∈ws,w.ab.length<=2000000/\w.bf.length<=2000000
theorem zM2{c:Ap}{k:Ah}{vs:List CE}(h:c.ab=k):({c with au:=vs}:Ap)=⟨k,vs⟩:=by subst h;rfl
theorem zOF{α:Type}{A B:List α}{a:α}{p:Nat}(h:A.length=p):Ak (A++ [a]++B) (p:Int)=some a:=by
 have hp:p<(A++ [a]++B).length:=by simp;omega
 rw[Av hp];subst h;simp
theorem zOG{α:Type}{A B:List α}{a b:α}{p:Nat}(h:A.length=p):(A++ [a]++B).set p b=A++ [b]++B:=by subst h;simp
theorem DO.small{n:Nat}{l:List Ap}(h:DO n l)(hn:n<=1000):tE l:=⟨by have:=h.2.1;omega,λc hc=>(h.2.2 c hc).2.2⟩
theorem W9{α:Type}(l:List α)(p:Nat):A1 l 0 (p:Int)=l.take p:=by unfold A1;simp
theorem uQ{α:Type}(l:List α)(p:Nat):A1 l (p:Int) (l.length:Int)=l.drop p:=by unfold A1;rw[Bz,Bz,List.take_of_length_le (AF _)]
theorem sK{t:Int}:∀{ws:List Ai} {n:Nat} {l o:List Ap},n+ws.length<=1000->(∀w∈ws,w.ab.length<=2000000/\w.bf.length<=2000000)->DO n l->M4 t l ws=some o->DO (n+ws.length) o:=by
 intro ws
 induction ws with
 |nil=>intro n l o _ _ h e;cases e;exact h
 |cons w vs ih=>
  intro n l o hn hs h e;unfold M4 at e;rw[List.foldlM_cons]at e;cases e1:Jn t l w with
  |none=>rw[e1]at e;cases e
  |some l1=>
   rw[e1]at e;have e:M4 t l1 vs=some o:=e;unfold Jn at e1;split at e1
   ·cases e1
   ·cases e1;rw[AE]at hn ⊢;have:=ih (n:=n+1) (by omega) (λw hw=>hs w (by simp[hw])) (DO.add h (by omega) (hs w (by simp)).1 (hs w (by simp)).2) e;rwa[show n+(vs.length+1)=n+1+vs.length by omega]
theorem zOv{l:List Ap}{ws:List Ai}{t:Int}(h:DO 24 l)(hw:UC ws):fP l ws t=some (match OE l ws t with|some o=>(o,true)|none=>([],false)):=by
 have hC:Tc l=some l:=AJ ⟨by have:=h.2.1;omega,λc hc=>by have:=(h.2.2 c hc).2.1;omega⟩;unfold fP;rw[hC,Aa];have key:=Up (xs:=ws) (body:=λs:Int × List Ap=>S0 ws t s.1 s.2) (λi s=>((i:Int),s)) (Jn t) (some ([],false)) (λs=>cZ s) (λi s=>DO (24+i) s)
  (λi acc hi hI=>by
   have Wj:=hw.2 _ (Au hi);have hn:=hw.1;obtain⟨hr,hl,hc⟩:=hI;refine⟨?_,λa ha=> ?_⟩
   ·show S0 ws t (i:Int) acc=_;unfold S0;rw[if_pos (by simpa using hi),Av hi,Aa,zOT (n:=24+i) (by omega) ⟨hr,hl,hc⟩,Aa];unfold Jn;by_cases ht:t<=LD acc ws[i].ab
    ·rw[if_pos (by simpa using ht),if_pos ht]
    ·rw[if_neg (by simpa using ht),if_neg ht,qM (by omega) hr,Aa,CH (by omega)];rcases Yn hr ws[i].ab with⟨hp,hk,hf⟩|⟨DQ,hf,_⟩
     ·have h1:=(hc _ (Au hp)).2.1;rw[hf];simp only[Option.isSome_some,Bool.not_true,A6,if_false];rw[Av hp,Aa,AJ (by simp only[AO];omega),Bz,zFF hr hp hk];refine congrArg (λz=>some (Sum.inl (((i+1:Nat):Int),z))) (congrArg (acc.set _) ?_);exact zM2 hk
     ·have G0:=zNa acc ws[i].ab;have hA:(acc.take (Bq acc ws[i].ab)).length=Bq acc ws[i].ab:=by simp;omega
      have hIn:Gz acc ((Bq acc ws[i].ab:Nat):Int) [(⟨ws[i].ab,[]⟩:Ap)]=some (acc.take (Bq acc ws[i].ab)++ [⟨ws[i].ab,[]⟩]++acc.drop (Bq acc ws[i].ab)):=by unfold Gz;rw[AJ ⟨by omega,by omega,by simp,by simp only[AO];omega⟩,Bz]
      rw[hf];simp only[Option.isSome_none,Bool.not_false,if_true];rw[hIn,Aa,zOF hA,Aa,AJ (by simp[RM]),Bz,zOG hA,zFZ hr DQ];rfl
   ·unfold Jn at ha;split at ha
    ·cases ha
    ·cases ha;exact DO.add (n:=24+i) ⟨hr,hl,hc⟩ (by omega) Wj.1 Wj.2)
  (λacc _=>by show S0 ws t (ws.length:Int) acc=_;unfold S0;rw[if_neg (by simp)]) l h
 refine key.trans ?_;unfold OE M4;have A4:∀o,ws.foldlM (Jn t) l=some o->DO (24+ws.length) o:=λo ho=>sK (by have:=hw.1;omega) hw.2 h ho;cases ho:ws.foldlM (Jn t) l with
 |none=>rfl
 |some o=>show cZ o=some (match(if I9 o=true then some o else none)with|some o=>(o,true)|none=>([],false));unfold cZ;rw[zLw ((A4 o ho).small (by have:=hw.1;omega)),Aa];cases I9 o<;>rfl
theorem zIP{l:List Ap}(h:DO 24 l):Yh l=some l:=by
 unfold Yh;have:=(DF (xs:=l) (body:=λs:List Ap × Int=>TP l s.1 s.2) (λi s=>(s,i)) (λo c=>o++ [c]) (λo=>some o) (λi o=>o.length=i)
  (λi hi o ho=>by have h1:=h.2.1;have h2:=(h.2.2 _ (Au hi)).2.1;refine⟨?_,by simp[ho]⟩;show TP l o (i:Int)=_;unfold TP;rw[if_pos (by simpa using hi),Av hi,Aa,AJ (by simp only[List.length_nil];omega),AJ (by simp only[AO];omega),CH (by omega)])
  (λo ho=>by show TP l o (l.length:Int)=_;unfold TP;rw[if_neg (by simp)]) (s:=[]) rfl).1
 refine this.trans ?_;have e:=foldl_map (λc:Ap=>c) l [];simpa using e
theorem zNM{l:List Ap}{ws:List Ai}{t:Int}(h:DO 24 l)(hw:UC ws)(h0:0<t):jR l ws t=some (match M4 t l ws with|some o=>(o,I9 o)|none=>([],false)):=by
 unfold jR;rw[zIP h,Aa];have key:=Up (xs:=ws) (body:=λs:Int × List Ap=>TE ws t s.1 s.2) (λi s=>((i:Int),s)) (Jn t) (some ([],false)) (λs=>fD s) (λi s=>DO (24+i) s)
  (λi acc hi hI=>by
   have Wj:=hw.2 _ (Au hi);have hn:=hw.1;obtain⟨hr,hl,hc⟩:=hI;have ZH:=List.pairwise_iff_getElem.1 hr;have G0:=zNa acc ws[i].ab;refine⟨?_,λa ha=> ?_⟩
   ·show TE ws t (i:Int) acc=_;unfold TE;rw[if_pos (by simpa using hi),Av hi,Aa];have down:∀m:Nat,(∀j (hj:j<acc.length),m<=j->bl ws[i].ab acc[j].ab=true)-> ∀j:Nat,m<=j->j<acc.length->QO t (i:Int) acc ws[i] ((j+1:Nat):Int)=some (.inl (j:Int)):=by
     intro m hm j h1 h2;unfold QO;rw[if_pos (by simp),JY (by omega) (by omega),show j+1-1=j by omega,Av h2,Aa,Uz,if_pos (by rw[Bool.not_not];exact hm j h2 h1)]
    rcases Yn hr ws[i].ab with⟨hp,hk,hf⟩|⟨DQ,hf,hg⟩
    ·have hv:=(hc _ (Au hp))
     have stop:QO t (i:Int) acc ws[i] ((Bq acc ws[i].ab+1:Nat):Int)=some (.inr (TF t (i:Int) acc ws[i] ((Bq acc ws[i].ab+1:Nat):Int))):=by unfold QO;rw[if_pos (by simp),JY (by omega) (by omega),show Bq acc ws[i].ab+1-1=Bq acc ws[i].ab by omega,Av hp,Aa,Uz,if_neg (by rw[hk];rw[show Op.bytesLess ws[i].ab ws[i].ab=false from L3 _];simp)]
     rw[Zi (Bq acc ws[i].ab+1) stop acc.length (by omega) (down _ λj hj h1=>by rw[<-hk];exact ZH _ j hp hj (by omega))];unfold TF;rw[if_pos (by simp),JY (by omega) (by omega),show Bq acc ws[i].ab+1-1=Bq acc ws[i].ab by omega,Av hp,Aa,if_pos (by simpa using hk),zOc (n:=24+i) (by omega) ⟨hr,hl,hc⟩,Aa];unfold Jn;by_cases ht:t<=LD acc ws[i].ab
     ·rw[if_pos (by simpa using ht),if_pos ht]
     ·rw[if_neg (by simpa using ht),if_neg ht,AJ (by simp only[AO];omega),Bz,zFF hr hp hk,CH (by omega)];refine congrArg (λz=>some (Sum.inl (((i+1:Nat):Int),z))) (congrArg (acc.set _) ?_);exact zM2 hk
    ·have ht: ¬t<=LD acc ws[i].ab:=by unfold LD;rw[hf];show¬t<=0;omega
     have nO:∀j (hj:j<acc.length),Bq acc ws[i].ab<=j->bl ws[i].ab acc[j].ab=true:=by
      intro j hj h1;have hp:Bq acc ws[i].ab<acc.length:=by omega
      rcases Nat.lt_or_ge (Bq acc ws[i].ab) j with h2|h2
      ·exact ID (hg hp) (ZH _ j hp hj h2)
      ·have e:Bq acc ws[i].ab=j:=by omega
       have:=hg hp;simp only[e]at this;exact this
     have stop:QO t (i:Int) acc ws[i] ((Bq acc ws[i].ab:Nat):Int)=some (.inr (TF t (i:Int) acc ws[i] ((Bq acc ws[i].ab:Nat):Int))):=by
      unfold QO;by_cases h0:Bq acc ws[i].ab=0
      ·rw[if_neg (by simp[h0])]
      ·have hb:bl (acc[Bq acc ws[i].ab-1]'(by omega)).ab ws[i].ab=true:=Ra (lt:=λw:Ap=>bl w.ab ws[i].ab) (show Bq acc ws[i].ab-1<Bq acc ws[i].ab by omega);rw[if_pos (by simp;omega),JY (by omega) (by omega),Av (show Bq acc ws[i].ab-1<acc.length by omega),Aa,Uz,if_neg (by rw[show Op.bytesLess ws[i].ab _=false from O7 hb];simp)]
     rw[Zi (Bq acc ws[i].ab) stop acc.length (by omega) (down _ nO)];have body:(Ax (0<=((Bq acc ws[i].ab:Nat):Int)/\((Bq acc ws[i].ab:Nat):Int)<=(acc.length:Int)/\(acc.length:Int)<=(acc.length:Int))<|
       Ax (0<=((Bq acc ws[i].ab:Nat):Int)/\((Bq acc ws[i].ab:Nat):Int)<=(acc.length:Int)/\(acc.length:Int)<=(acc.length:Int))<|
       Ax (((([]:List Ap).length:Int)+(((A1 acc ((Bq acc ws[i].ab:Nat):Int) (acc.length:Int))).length:Int))*40<=140737488355328/\(([]:List Ap).length:Int)+(((A1 acc ((Bq acc ws[i].ab:Nat):Int) (acc.length:Int))).length:Int)<=140737488355328)<|
       Ax (0<=(0:Int)/\(0:Int)<=((Bq acc ws[i].ab:Nat):Int)/\((Bq acc ws[i].ab:Nat):Int)<=(acc.length:Int))<|
       Ax (((([]:List Ap).length:Int)+(((A1 acc 0 ((Bq acc ws[i].ab:Nat):Int))).length:Int))*40<=140737488355328/\(([]:List Ap).length:Int)+(((A1 acc 0 ((Bq acc ws[i].ab:Nat):Int))).length:Int)<=140737488355328)<|
       Ax (((((A1 acc 0 ((Bq acc ws[i].ab:Nat):Int))).length:Int)+(([(⟨ws[i].ab,[(⟨t,ws[i].bf,ws[i].bu⟩:CE)]⟩:Ap)]:List Ap).length:Int))*40<=140737488355328/\(((A1 acc 0 ((Bq acc ws[i].ab:Nat):Int))).length:Int)+(([(⟨ws[i].ab,[(⟨t,ws[i].bf,ws[i].bu⟩:CE)]⟩:Ap)]:List Ap).length:Int)<=140737488355328)<|
       Ax ((((((A1 acc 0 ((Bq acc ws[i].ab:Nat):Int))++ [(⟨ws[i].ab,[(⟨t,ws[i].bf,ws[i].bu⟩:CE)]⟩:Ap)])).length:Int)+(((A1 acc ((Bq acc ws[i].ab:Nat):Int) (acc.length:Int))).length:Int))*40<=140737488355328/\((((A1 acc 0 ((Bq acc ws[i].ab:Nat):Int))++ [(⟨ws[i].ab,[(⟨t,ws[i].bf,ws[i].bu⟩:CE)]⟩:Ap)])).length:Int)+(((A1 acc ((Bq acc ws[i].ab:Nat):Int) (acc.length:Int))).length:Int)<=140737488355328)<|
       (some (.inl ((IntKind.i64.wrap ((i:Int)+1)),(((A1 acc 0 ((Bq acc ws[i].ab:Nat):Int))++ [(⟨ws[i].ab,[(⟨t,ws[i].bf,ws[i].bu⟩:CE)]⟩:Ap)])++(A1 acc ((Bq acc ws[i].ab:Nat):Int) (acc.length:Int))))):Option ((Int × List Ap) ⊕ Option (List Ap × Bool))))=some (.inl (((i+1:Nat):Int),M6 acc ws[i].ab ⟨t,ws[i].bf,ws[i].bu⟩)):=by
      rw[W9,uQ,zFZ hr DQ,CH (by omega)];rw[AJ (by omega),AJ (by omega),AJ (by simp only[Br,List.length_nil];omega),AJ (by omega),AJ (by simp only[AI,List.length_nil];omega),AJ (by simp only[AI,AO];omega),AJ (by simp only[Aq,Br,AI,AO];omega)]
     have e1:Jn t acc ws[i]=some (M6 acc ws[i].ab ⟨t,ws[i].bf,ws[i].bu⟩):=by unfold Jn;rw[if_neg ht]
     rw[e1];unfold TF;by_cases h0:Bq acc ws[i].ab=0
     ·rw[if_neg (by simp[h0])];exact body
     ·have BY:(acc[Bq acc ws[i].ab-1]'(by omega)).ab≠ws[i].ab:=DQ _ (Au _);rw[if_pos (by simp;omega),JY (by omega) (by omega),Av (show Bq acc ws[i].ab-1<acc.length by omega),Aa,if_neg (by simpa using BY)];exact body
   ·unfold Jn at ha;split at ha
    ·cases ha
    ·cases ha;exact DO.add (n:=24+i) ⟨hr,hl,hc⟩ (by omega) Wj.1 Wj.2)
  (λacc _=>by show TE ws t (ws.length:Int) acc=_;unfold TE;rw[if_neg (by simp)]) l h
 refine key.trans ?_;unfold M4;cases ho:ws.foldlM (Jn t) l with
 |none=>rfl
 |some o=>show fD o=some (o,I9 o);unfold fD;rw[zKN ((sK (by have:=hw.1;omega) hw.2 h ho).small (by have:=hw.1;omega)),Aa]
theorem zDa{α:Type}(q:α->Bool):∀xs:List α,xs.find? q=xs[AT (λx=> !q x) xs]?
 | []=>by simp
 |x::xs=>by
  rw[Yw,List.find?_cons];cases hq:q x with
  |true=>simp
  |false=>simpa using zDa q xs
theorem QY{α β:Type}{xs:List α}{body:Int->Option (Int ⊕ Option β)}(q:α->Bool)(F:α->Option β)(fin:Option β)
  (hs:∀i (h:i<xs.length),body (i:Nat)=some (if q xs[i]=true then .inr (F xs[i])else .inl ((i+1:Nat):Int))) (he:body (xs.length:Nat)=some (.inr fin)):Ao body 0=match xs.find? q with|some x=>F x|none=>fin:=by
 rw[zDa,zMz (λx=> !q x) (λi=>match xs[i.toNat]? with|some x=>F x|none=>fin) (λi h=> ?_) ?_]
 ·rw[Bz]
 ·rw[he,Bz,List.getElem?_eq_none (AF _)]
 ·rw[hs i h,Bz,AM h];cases q xs[i]<;>rfl
theorem Uw{α:Type}(q:α->Bool)(xs:List α):(xs.find? q).isSome=xs.any q:=by rw[Bool.eq_iff_iff,List.find?_isSome,List.any_eq_true]
theorem zJ2{ws:List Ai}{k:Ah}(h:ws.length<=2000000):XJ ws k=some (J4 ws k):=by
 unfold XJ;rw[QY (xs:=ws) (λw=>w.ab==k) (λ_=>some true) (some false) (λi hi=> ?_) ?_]
 ·unfold J4;rw[<-Uw];cases ws.find? (λw=>w.ab==k)<;>rfl
 ·unfold wU;rw[if_neg (by simp)]
 ·unfold wU;rw[if_pos (by simpa using hi),Av hi,Aa,CH (by omega)];cases ws[i].ab==k<;>rfl
theorem zPg{ks:List Ah}{k:Ah}(h:ks.length<=2000000):jH ks k=some (ks.any (· ==k)):=by
 unfold jH;rw[QY (xs:=ks) (λw=>w==k) (λ_=>some true) (some false) (λi hi=> ?_) ?_]
 ·rw[<-Uw];cases ks.find? (λw=>w==k)<;>rfl
 ·unfold zB;rw[if_neg (by simp)]
 ·unfold zB;rw[if_pos (by simpa using hi),Av hi,Aa,CH (by omega)];cases ks[i]==k<;>rfl
theorem zJt{s:AD}{t:Int}(h:s.al.length<=2000000):eU s t=some (match GC s t with|some h=>(h,true)|none=>((⟨0,0,0,[],[]⟩:AX),false)):=by
 unfold eU;rw[QY (xs:=s.al) (λw=>hk w==t) (λh=>some (h,true)) (some ((⟨0,0,0,[],[]⟩:AX),false)) (λi hi=> ?_) ?_]
 ·unfold GC;cases s.al.find? (λw=>hk w==t)<;>rfl
 ·unfold wG;rw[if_neg (by simp)]
 ·unfold wG;rw[if_pos (by simpa using hi),Av hi,Aa,CH (by omega)];unfold hk;cases s.al[i].bc==t<;>rfl
theorem zKl{s:AD}{t:Int}(h:s.bz.length<=2000000):eK s t=some (match Jh s t with|some h=>(h,true)|none=>((⟨0,false,0⟩:Cm),false)):=by
 unfold eK;rw[QY (xs:=s.bz) (λw=>tk w==t) (λh=>some (h,true)) (some ((⟨0,false,0⟩:Cm),false)) (λi hi=> ?_) ?_]
 ·unfold Jh;cases s.bz.find? (λw=>tk w==t)<;>rfl
 ·unfold wO;rw[if_neg (by simp)]
 ·unfold wO;rw[if_pos (by simpa using hi),Av hi,Aa,CH (by omega)];unfold tk;cases s.bz[i].bc==t<;>rfl
theorem zwX{α:Type}{key:α->Int}{l:List α}{t:Int}(hr:DX key l):(l.find? (λy=>key y==t)).isSome=(match l[AT (Bn key t) l]? with|some w=>decide (key w=t)|none=>false):=by
 rw[kG hr];cases l[AT (Bn key t) l]? with
 |none=>rfl
 |some w=>by_cases h:key w=t<;>simp[h]
theorem zF1{s:AD}{t:Int}(hl:s.al.length<=2000000)(hr:DX hk s.al):Xp s t=some (((AT (Bn hk t) s.al:Nat):Int),(GC s t).isSome):=by unfold Xp GC;rw[zRi hl hr,Aa,zwX hr];cases s.al[AT (Bn hk t) s.al]?<;>rfl
theorem rS{s:AD}{t:Int}(hl:s.bz.length<=2000000)(hr:DX tk s.bz):Sc s t=some (((AT (Bn tk t) s.bz:Nat):Int),(Jh s t).isSome):=by unfold Sc Jh;rw[zRa hl hr,Aa,zwX hr];cases s.bz[AT (Bn tk t) s.bz]?<;>rfl
theorem zFz{α:Type}{key:α->Int}{l:List α}{t:Int}(h:DX key l):(∀j (hj:j<l.length),AT (Bn key (t+1)) l<=j->t<key l[j])/\ ∀j (hj:j<l.length),j<AT (Bn key (t+1)) l->key l[j]<=t:=by
 constructor
 ·intro j hj hp;have h1:AT (Bn key (t+1)) l<l.length:=by omega
  have h2: ¬(key (l[AT (Bn key (t+1)) l]'h1)<t+1):=of_decide_eq_false (Z2 h1);by_cases e:AT (Bn key (t+1)) l=j
  ·subst e;omega
  ·have:=h.mono hj (show AT (Bn key (t+1)) l<j by omega);omega
 ·intro j hj hp;have:key l[j]<t+1:=of_decide_eq_true (Ra (lt:=Bn key (t+1)) hp);omega
theorem zJ9{α:Type}{key:α->Int}{l:List α}{t:Int}(hn:∀y∈l,key y≠t):AT (Bn key (t+1)) l=AT (Bn key t) l:=by
 induction l with
 |nil=>rfl
 |cons x l ih=>
  rw[Yw,Yw,ih λy hy=>hn y (by simp[hy])];have:=hn x (by simp);have e:Bn key (t+1) x=Bn key t x:=by unfold Bn;rw[decide_eq_decide];omega
  rw[e]
theorem zCA{α:Type}{key:α->Int}{l:List α}{x:α}(hn:∀y∈l,key y≠key x):Gi key x l=l.take (AT (Bn key (key x+1)) l)++ [x]++l.drop (AT (Bn key (key x+1)) l):=by rw[zJ9 hn];exact qF hn
theorem zG5{l:List AX}{h:AX}(hl:l.length<=1000)(hr:DX hk l):∃r,dO l h=some r/\((∀y∈l,hk y≠hk h)->r=Gi hk h l):=by
 have hp:=L9 (Bn hk (hk h+1)) l;obtain⟨h1,h2⟩:=zFz (t:=hk h) hr;refine⟨_,?_,λhn=>(zCA hn).symm⟩;unfold dO;rw[Zi (AT (Bn hk (hk h+1)) l) (fin:=cW l h ((AT (Bn hk (hk h+1)) l:Nat):Int)) ?_ l.length hp λj h3 h4=> ?_]
 ·unfold cW;rw[W9,uQ,AJ (by omega),AJ (by simp only[Br,List.length_nil];omega),AJ (by omega),AJ (by simp only[AI,List.length_nil];omega),AJ (by simp only[AI,AO];omega),AJ (by simp only[Aq,Br,AI,AO];omega)]
 ·unfold vQ;by_cases h0:AT (Bn hk (hk h+1)) l=0
  ·rw[if_neg (by simp[h0])]
  ·have:=h2 (AT (Bn hk (hk h+1)) l-1) (by omega) (by omega);rw[if_pos (by simp;omega),JY (by omega) (by omega),Av (show AT (Bn hk (hk h+1)) l-1<l.length by omega),Aa,if_neg (by simpa using this)]
 ·have:=h1 j h4 h3;unfold vQ;rw[if_pos (by simp),JY (by omega) (by omega),show j+1-1=j by omega,Av h4,Aa,if_pos (by simpa using this)]
theorem zGz{l:List Cm}{h:Cm}(hl:l.length<=1000)(hr:DX tk l):∃r,XE l h=some r/\((∀y∈l,tk y≠tk h)->r=Gi tk h l):=by
 have hp:=L9 (Bn tk (tk h+1)) l;obtain⟨h1,h2⟩:=zFz (t:=tk h) hr;refine⟨_,?_,λhn=>(zCA hn).symm⟩;unfold XE;rw[Zi (AT (Bn tk (tk h+1)) l) (fin:=cX l h ((AT (Bn tk (tk h+1)) l:Nat):Int)) ?_ l.length hp λj h3 h4=> ?_]
 ·unfold cX;rw[W9,uQ,AJ (by omega),AJ (by simp only[Br,List.length_nil];omega),AJ (by omega),AJ (by simp only[AI,List.length_nil];omega),AJ (by simp only[AI,AO];omega),AJ (by simp only[Aq,Br,AI,AO];omega)]
 ·unfold vL;by_cases h0:AT (Bn tk (tk h+1)) l=0
  ·rw[if_neg (by simp[h0])]
  ·have:=h2 (AT (Bn tk (tk h+1)) l-1) (by omega) (by omega);rw[if_pos (by simp;omega),JY (by omega) (by omega),Av (show AT (Bn tk (tk h+1)) l-1<l.length by omega),Aa,if_neg (by simpa using this)]
 ·have:=h1 j h4 h3;unfold vL;rw[if_pos (by simp),JY (by omega) (by omega),show j+1-1=j by omega,Av h4,Aa,if_pos (by simpa using this)]
theorem zGv{l:List AX}{t:Int}(hl:l.length<=1000):XY l t=some (l.filter λh=>decide (hk h≠t)):=by
 unfold XY;have:=(DF (xs:=l) (body:=λs:List AX × Int=>Ts l t s.1 s.2) (λi s=>(s,i)) (λo h=>if hk h≠t then o++ [h]else o) (λo=>some o) (λi o=>o.length<=i)
  (λi hi o ho=>by
   constructor
   ·show Ts l t o (i:Int)=_;unfold Ts;rw[if_pos (by simpa using hi),Av hi,Aa,CH (by omega)];by_cases hq:hk l[i]=t
    ·rw[if_neg (by simpa using hq),if_neg (by simpa using hq)]
    ·rw[if_pos (by simpa using hq),if_pos hq,AJ (by simp only[AO];omega)]
   ·by_cases hq:hk l[i]=t
    ·rw[if_neg (by simpa using hq)];omega
    ·rw[if_pos hq];simp;omega)
  (λo ho=>by show Ts l t o (l.length:Int)=_;unfold Ts;rw[if_neg (by simp)]) (s:=[]) (by simp)).1
 refine this.trans ?_;have e:∀(l o:List AX),l.foldl (λo h=>if hk h≠t then o++ [h]else o) o=o++l.filter λh=>decide (hk h≠t):=by
  intro l
  induction l with
  |nil=>intro o;simp
  |cons x l ih=>
   intro o;rw[List.foldl_cons,ih,List.filter_cons];by_cases hq:hk x=t
   ·simp[hq]
   ·simp[hq]
 rw[e];rfl
def Qc(a b:Ah):Prop:=bl b a=false
abbrev HU(l:List Ah):Prop:=Ei (λs:Ah=>s) l
theorem zDH{zs:List Ah}(h:zs.Pairwise Qc):HU (Lib.compact zs)/\ ∀y,y∈Lib.compact zs↔y∈zs:=by
 have get:∀j (hj:j<zs.length),(zs.toArray[j]!)=zs[j]:=λj hj=>by rw[getElem!_pos _ j (by simpa using hj)];simp
 have le:∀i j (hi:i<zs.length) (hj:j<zs.length),i<=j->Qc zs[i] zs[j]:=λi j hi hj Gt=>by
  rcases Nat.lt_or_ge i j with k|k
  ·exact(List.pairwise_iff_getElem.1 h) i j hi hj k
  ·have:i=j:=by omega
   subst this;exact L3 _
 unfold Lib.compact Lib.compactUpTo;constructor
 ·unfold HU Ei;rw[List.pairwise_map];have hp:(List.range zs.length).Pairwise (· < ·):=List.pairwise_lt_range;have:=List.Pairwise.filter (Lib.keeps zs.toArray) hp;refine List.Pairwise.imp_of_mem ?_ this;intro i j hi hj Gt;have JG:=(List.mem_filter.1 hj).2;have LI:j<zs.length:=by simpa using(List.mem_filter.1 hj).1
  have BY:zs[j]'LI≠zs[j-1]'(by omega):=by
   unfold Lib.keeps at JG;simp only[AS]at JG;rcases JG with k|k
   ·omega
   ·rw[get j LI,get (j-1) (by omega)]at k;exact k
  rw[get i (by omega),get j LI];have h1:=le i (j-1) (by omega) (by omega) (by omega);have h2:=le (j-1) j (by omega) LI (by omega);have h3:bl (zs[j-1]'(by omega)) (zs[j]'LI)=true:=Ni h2 BY;show bl (zs[i]'(by omega)) (zs[j]'LI)=true;rcases tC (zs[i]'(by omega)) (zs[j-1]'(by omega))with k|k|k
  ·exact ID k h3
  ·rw[k];exact h3
  ·unfold Qc at h1;rw[h1]at k;cases k
 ·intro y;constructor
  ·intro hy;exact zxC zs y hy
  ·intro hy;obtain⟨i,hi,rfl⟩:=List.getElem_of_mem hy
   induction i using Nat.strongRecOn with
   |_ i ih=>
    by_cases hk:Lib.keeps zs.toArray i=true
    ·exact List.mem_map.2 ⟨i,List.mem_filter.2 ⟨by simpa using hi,hk⟩,get i hi⟩
    ·unfold Lib.keeps at hk;simp only[AS,not_or,Classical.not_not]at hk;have e:zs[i]=zs[i-1]'(by omega):=by
      have:=hk.2;rw[get i hi,get (i-1) (by omega)]at this;exact this
     rw[e];exact ih (i-1) (by omega) (by omega) (Au _)
def Dn(k:Ah)(l:List Ah):List Ah:=DY (λs:Ah=>s) k l
theorem qD{k:Ah}:∀{A B:List Ah},(∀y∈A,bl y k=true)->(∀y∈B,bl k y=true)->Dn k (A++B)=A++k::B/\Dn k (A++k::B)=A++k::B
 | [],B,_,hB=>by
  unfold Dn;constructor
  ·cases B with
   |nil=>rfl
   |cons b B=>rw[List.nil_append,DY,if_pos (hB b (by simp))];rfl
  ·rw[List.nil_append,DY,if_neg (by rw[L3];simp),if_pos rfl]
 |a::A,B,hA,hB=>by
  obtain⟨p,q⟩:=qD (A:=A) (B:=B) (λy hy=>hA y (by simp[hy])) hB;have h1:=hA a (by simp);unfold Dn at p q ⊢;constructor
  ·rw[List.cons_append,DY,if_neg (by rw[O7 h1];simp),if_neg (λe=>Hh h1 e.symm),p];rfl
  ·rw[List.cons_append,DY,if_neg (by rw[O7 h1];simp),if_neg (λe=>Hh h1 e.symm),q]
theorem lN{k:Ah}{l:List Ah}(h:HU l):HU (Dn k l):=lA h
theorem zLO{k:Ah}{l:List Ah}(h:HU l)(y:Ah):y∈Dn k l↔y=k\/y∈l:=by
 unfold Dn;rw[YS h];constructor
 ·rintro(e|⟨e,_⟩)
  ·exact .inl e
  ·exact .inr e
 ·rintro(e|e)
  ·exact .inl e
  ·by_cases he:y=k
   ·exact .inl he
   ·exact .inr ⟨e,he⟩
theorem aI{l:List Ah}(h:l.length<=2000000):Lf l=some l:=by unfold Lf;rw[AJ (by rw[List.length_nil];omega)]
theorem rW{l:List Ah}{k:Ah}(hl:l.length<=1000)(hr:HU l):TV l k=some (Dn k l):=by
 have fin:∀(A B:List Ah),A++B=l->(∀y∈A,bl y k=true\/y=k)->(∀y∈B,bl k y=true)->Tg l k (A.length:Int)=some (Dn k l):=by
  intro A B e hA hB;subst e;rw[Aq]at hl;have t1:A1 (A++B) (A.length:Int) (((A++B).length:Nat):Int)=B:=by unfold A1;rw[Bz,Bz,List.take_of_length_le (AF _)];simp
  have t2:A1 (A++B) 0 (A.length:Int)=A:=by unfold A1;simp
  have put:(∀y∈A,bl y k=true)-> ∀(q:Option (List Ah)),q=some (Dn k (A++B))->q=some (Dn k (A++B)):=λ_ _ h=>h;have body:(∀y∈A,bl y k=true)->(Ax (0<=(A.length:Int)/\(A.length:Int)<=(((A++B).length:Nat):Int)/\(((A++B).length:Nat):Int)<=(((A++B).length:Nat):Int))<|
   (Lf (A1 (A++B) (A.length:Int) (((A++B).length:Nat):Int))).bind λv3=>
   Ax (0<=(0:Int)/\(0:Int)<=(A.length:Int)/\(A.length:Int)<=(((A++B).length:Nat):Int))<|
   (Lf (A1 (A++B) 0 (A.length:Int))).bind λv4=>
   Ax ((((v4).length:Int)+(([k]:List (Ab)).length:Int))*16<=140737488355328/\((v4).length:Int)+(([k]:List (Ab)).length:Int)<=140737488355328)<|
   Ax (((((v4++ [k])).length:Int)+((v3).length:Int))*16<=140737488355328/\(((v4++ [k])).length:Int)+((v3).length:Int)<=140737488355328)<|
   some ((v4++ [k])++v3))=some (Dn k (A++B)):=by
   intro hA;rw[t1,t2,AJ (by rw[Aq];omega),aI (by omega),Aa,AJ (by rw[Aq];omega),aI (by omega),Aa,AJ (by rw[AO];omega),AJ (by rw[Aq,AO];omega),(qD hA hB).1];simp
  unfold Tg;rcases List.eq_nil_or_concat A with rfl|⟨A',z,rfl⟩
  ·rw[if_neg (by simp)];exact body (by simp)
  ·have hz:=hA z (by simp);have pC:HU (A'++ [z]):=Ei.sub hr (by rw[List.concat_eq_append];exact List.sublist_append_left _ _);have E8:∀y∈A',bl y z=true:=λy hy=>(List.pairwise_append.1 pC).2.2 y hy z (by simp);have hlen:(A'.concat z).length=A'.length+1:=by simp
   have w1:IntKind.i64.wrap ((((A'.concat z).length:Nat):Int)-1)=((A'.length:Nat):Int):=by rw[hlen,Cv (by omega) (by omega)];omega
   have g1:Ak (A'.concat z++B) ((A'.length:Nat):Int)=some z:=by unfold Ak;rw[if_pos (by omega),Bz,List.concat_eq_append,List.append_assoc,List.getElem?_append_right (by omega)];simp
   rw[if_pos (by rw[AS,hlen];omega),w1,g1,Aa];by_cases he:z=k
   ·subst he;rw[if_pos (by simp)];have:=(qD (A:=A') (B:=B) E8 hB).2;rw[List.concat_eq_append,List.append_assoc,List.singleton_append,this]
   ·rw[if_neg (by simpa using he)];have hzk:bl z k=true:=by
     rcases hz with h|h
     ·exact h
     ·exact absurd h he
    refine body λy hy=> ?_;rw[List.concat_eq_append]at hy;rcases Ae.1 hy with hy|hy
    ·exact ID (E8 y hy) hzk
    ·rw[List.mem_singleton.1 hy];exact hzk
 unfold TV;have key:∀(n:Nat) (A B:List Ah),A.length=n->A++B=l->(∀y∈B,bl k y=true)->Ao (λs:Int=>Le l k s) (n:Int)=some (Dn k l):=by
  intro n
  induction n with
  |zero=>
   intro A B hA e hB;have:A=[]:=List.length_eq_zero_iff.1 hA;subst this;have hb:Le l k ((0:Nat):Int)=some (.inr (Tg l k ((([]:List Ah).length:Nat):Int))):=by unfold Le;rw[if_neg (by simp)];rfl
   exact(Nf (body:=λs:Int=>Le l k s) hb).trans (fin [] B e (by simp) hB)
  |succ n ih=>
   intro A B hA e hB;rcases List.eq_nil_or_concat A with rfl|⟨A',z,rfl⟩
   ·simp at hA
   ·rw[List.concat_eq_append]at hA e;have hn:A'.length=n:=by simpa using hA
    have w1:IntKind.i64.wrap (((n+1:Nat):Int)-1)=(n:Int):=by
     have:n+1<=1000:=by rw[<-e]at hl;simp at hl;omega
     rw[Cv (by omega) (by omega)];omega
    have g1:Ak l (n:Int)=some z:=by subst e;unfold Ak;rw[if_pos (by omega),Bz,List.append_assoc,List.getElem?_append_right (by omega),hn];simp
    have pC:HU (A'++ [z]):=Ei.sub hr (by rw[<-e];exact List.sublist_append_left _ _);have E8:∀y∈A',bl y z=true:=λy hy=>(List.pairwise_append.1 pC).2.2 y hy z (by simp);by_cases hz:(bl z k||z==k)=true
    ·have eb:Le l k ((n+1:Nat):Int)=some (.inr (Tg l k ((n+1:Nat):Int))):=by
      unfold Le;rw[if_pos (by rw[AS];omega),w1,g1,Aa,if_neg (by rw[show(Op.bytesLess z k||z==k)=true from hz];simp)]
     rw[Nf (body:=λs:Int=>Le l k s) eb];have hzz:bl z k=true\/z=k:=by simpa using hz
     have:=fin (A'++ [z]) B e (λy hy=>by
      rcases Ae.1 hy with hy|hy
      ·rcases hzz with h|h
       ·exact .inl (ID (E8 y hy) h)
       ·exact .inl (by rw[<-h];exact E8 y hy)
      ·rw[List.mem_singleton.1 hy];exact hzz) hB
     rw[Aq,AO,hn]at this;exact this
    ·rw[Bool.not_eq_true]at hz;have eb:Le l k ((n+1:Nat):Int)=some (.inl (n:Int)):=by
      unfold Le;rw[if_pos (by rw[AS];omega),w1,g1,Aa,if_pos (by rw[show(Op.bytesLess z k||z==k)=false from hz];simp)]
     rw[Ul (body:=λs:Int=>Le l k s) eb];have H4:bl z k=false/\z≠k:=by simpa using hz
     refine ih A' (z::B) hn (by rw[<-e];simp) λy hy=> ?_;rcases Ag.1 hy with rfl|hy
     ·exact Ni H4.1 H4.2
     ·exact hB y hy
 exact key l.length l [] rfl (by simp) (by simp)
theorem Ut:∀(ks o:List Ah),HU o->HU (ks.foldl (λo k=>Dn k o) o)/\((∀y,y∈ks.foldl (λo k=>Dn k o) o↔y∈ks\/y∈o)/\(ks.foldl (λo k=>Dn k o) o).length<=ks.length+o.length)
 | [],o,h=>⟨h,by simp,by simp⟩
 |k::ks,o,h=>by
  obtain⟨a,b,c⟩:=Ut ks (Dn k o) (lN h);refine⟨a,λy=> ?_,?_⟩
  ·rw[List.foldl_cons,b,zLO h];simp only[Ag];constructor
   ·rintro(x|x|x)
    ·exact .inl (.inr x)
    ·exact .inl (.inl x)
    ·exact .inr x
   ·rintro((x|x)|x)
    ·exact .inr (.inl x)
    ·exact .inl x
    ·exact .inr (.inr x)
  ·have:=YR (key:=λs:Ah=>s) (x:=k) o;unfold Dn at c;rw[List.foldl_cons,AE];unfold Dn;omega
theorem uE:∀a b:Ah,bl a b=true↔a<b
 | [],[]=>by simp[bl,Op.bytesLess]
 | [],_::_=>by simp[bl,Op.bytesLess]
 |_::_,[]=>by simp[bl,Op.bytesLess]
 |x::a,y::b=>by rw[ZW,List.cons_lt_cons_iff,uE a b,UInt8.lt_iff_toNat_lt]
theorem zQm(a b:Ah):a<=b↔Qc a b:=by
 unfold Qc;constructor
 ·intro h;cases hb:bl b a with
  |false=>rfl
  |true=>exact absurd ((uE b a).1 hb) (List.not_lt.2 h)
 ·intro h;rw[<-List.not_lt];intro hl;rw[(uE b a).2 hl]at h;cases h
theorem zu2(xs:List Ah):(Gq xs).Pairwise Qc:=by
 have h:=List.pairwise_mergeSort (le:=λx y:Ah=>decide (x<=y)) (λa b c h1 h2=>by
   simp only[AS]at h1 h2 ⊢;exact List.le_trans h1 h2)
  (λa b=>by simp only[Bool.or_eq_true,AS];exact List.le_total a b) xs
 refine List.Pairwise.imp (λ{a b} h=> ?_) h;exact(zQm a b).1 (of_decide_eq_true h)
theorem zDt{xs zs:List Ah}(hz:HU zs)(h:∀y,y∈zs↔y∈xs):Lib.compact (Gq xs)=zs:=by obtain⟨h1,h2⟩:=zDH (zu2 xs);refine Ei.ext h1 hz λy=> ?_;rw[h2,h,(kR xs).mem_iff]
theorem zsw{α β:Type}(q:α->Bool)(f:α->List β):∀(xs:List α) (acc:List β),xs.foldlM (m:=Option) (λacc x=>if q x=true then none else some (acc++f x)) acc=if xs.any q=true then none else some (acc++xs.flatMap f)
 | [],acc=>by simp
 |x::xs,acc=>by
  rw[List.foldlM_cons,List.any_cons];by_cases hq:q x=true
  ·rw[if_pos hq,hq];rfl
  ·rw[if_neg hq];show xs.foldlM _ (acc++f x)=_;rw[zsw q f xs (acc++f x)];simp[hq,List.append_assoc]
theorem zvj{α σ:Type}(q:α->Bool)(f:σ->α->σ):∀(xs:List α) (acc:σ),xs.foldlM (m:=Option) (λacc x=>if q x=true then none else some (f acc x)) acc=if xs.any q=true then none else some (xs.foldl f acc)
 | [],acc=>by simp
 |x::xs,acc=>by
  rw[List.foldlM_cons,List.any_cons];by_cases hq:q x=true
  ·rw[if_pos hq,hq];rfl
  ·rw[if_neg hq];show xs.foldlM _ (f acc x)=_;rw[zvj q f xs (f acc x)];simp[hq]
def Jm(l:List Ap)(w:Ai):Bool:=match HT l w.ab with|some c=>decide (16<=c.au.length)|none=>false
def J7(h:AX):Prop:=h.az.length<=8/\(h.af.length<=8/\Gp h.af)
def G5(w:Ai):Ah:=w.ab
def D5(hs:List AX):List Ai:=hs.flatMap (·.af)
def Nu(l:List Ap)(ws:List Ai):List Ah:=l.map ck++ws.map G5
def Ow(l:List Ap)(ws:List Ai):Bool:= !(ws.any (Jm l))&&decide (((Nu l ws).foldl (λo k=>Dn k o) []).length<=24)
theorem zx1:∀{hs:List AX},(∀h∈hs,J7 h)->(D5 hs).length<=8*hs.length
 | [],_=>by simp[D5]
 |h::hs,ho=>by have h1:=(ho h (by simp)).2.1;have h2:=zx1 (hs:=hs) λx hx=>ho x (by simp[hx]);unfold D5 at h2 ⊢;rw[List.flatMap_cons,Aq,AE];omega
theorem zN9{s:AD}{hs:List AX}(h:DO 24 s.aq)(hl:hs.length<=13)(ho:∀h∈hs,J7 h):dI s hs=some (decide (hs.length<=12)&&Ow s.aq (D5 hs)):=by
 obtain⟨hr,AG,hc⟩:=h;unfold dI;have l1:=(DF (xs:=s.aq) (body:=λz:Int × List Ah=>SF s hs z.1 z.2) (λi z=>(i,z)) (λo c=>o++ [ck c]) (λo=>vJ s hs o) (λi o=>o.length=i)
  (λi hi o hol=>by refine⟨?_,by simp[hol]⟩;show SF s hs (i:Int) o=_;unfold SF;rw[if_pos (by simpa using hi),Av hi,Aa,AJ (by simp only[AO];omega),CH (by omega)])
  (λo hol=>by show SF s hs (s.aq.length:Int) o=_;unfold SF;rw[if_neg (by simp)]) (s:=[]) rfl).1
 refine l1.trans ?_;have e1:=foldl_map ck s.aq [];rw[e1,List.nil_append];unfold vJ;have inner:∀(i:Nat) (y:AX) (acc:List Ah),J7 y->acc.length<=1000->i<=100->OL s hs (i:Int) acc=OL s hs (i:Int) acc->Ao (λz:Int × List Ah=>Qu s (i:Int) y z.1 z.2) (0,acc)=some (if y.af.any (Jm s.aq)=true then .inr (some false)else .inl (((i+1:Nat):Int),acc++y.af.map G5)):=by
  intro i y acc hy ha hi _;have hy8:=hy.2.1;have key:=Up (xs:=y.af) (body:=λz:Int × List Ah=>Qu s (i:Int) y z.1 z.2) (λj z=>((j:Int),z)) (λacc w=>if Jm s.aq w=true then none else some (acc++ [G5 w])) (some (.inr (some false))) (λz=>cL (i:Int) z) (λj z=>z.length<=1000+j)
   (λj z hj hz=>by
    refine⟨?_,λa ha=> ?_⟩
    ·show Qu s (i:Int) y (j:Int) z=_;unfold Qu;rw[if_pos (by simpa using hj),Av hj,Aa,qM (by omega) hr,Aa,CH (by omega)];unfold Jm;rcases Yn hr y.af[j].ab with⟨hp,hk,hf⟩|⟨_,hf,_⟩
     ·rw[hf];simp only[Option.isSome_some,if_true];rw[Av hp,Aa];by_cases U4:16<=(s.aq[Bq s.aq y.af[j].ab]).au.length
      ·rw[if_pos (by simp;omega),if_pos (by simpa using U4)]
      ·rw[if_neg (by simp;omega),if_neg (by simpa using U4),AJ (by simp only[AO];omega)];rfl
     ·rw[hf];simp only[Option.isSome_none,A6,if_false];rw[AJ (by simp only[AO];omega)];rfl
    ·split at ha
     ·cases ha
     ·cases ha;simp;omega)
   (λz _=>by show Qu s (i:Int) y (y.af.length:Int) z=_;unfold Qu;rw[if_neg (by simp)]) acc (by omega)
  refine key.trans ?_;rw[zsw];by_cases hq:y.af.any (Jm s.aq)=true
  ·rw[if_pos hq,if_pos hq]
  ·rw[if_neg hq,if_neg hq];show cL (i:Int) _=_;unfold cL;rw[CH (by omega)];have e:∀l:List Ai,(l.flatMap λw=> [G5 w])=l.map G5:=λl=>by induction l with|nil=>rfl|cons x l ih=>rw[List.flatMap_cons,ih];rfl
   rw[e]
 have key:=Up (xs:=hs) (body:=λz:Int × List Ah=>OL s hs z.1 z.2) (λj z=>((j:Int),z)) (λacc y=>if y.af.any (Jm s.aq)=true then none else some (acc++y.af.map G5)) (some false) (λz=>cI hs z) (λj z=>z.length<=24+8*j)
  (λj z hj hz=>by
   have hy:=ho _ (Au hj);refine⟨?_,λa ha=> ?_⟩
   ·show OL s hs (j:Int) z=_;have:=inner j hs[j] z hy (by omega) (by omega) rfl;unfold OL;rw[if_pos (by simpa using hj),Av hj,Aa];refine this.trans ?_;split<;>rfl
   ·split at ha
    ·cases ha
    ·cases ha;have:=hy.2.1;rw[Aq,List.length_map];omega)
  (λz _=>by show OL s hs (hs.length:Int) z=_;unfold OL;rw[if_neg (by simp)]) (s.aq.map ck) (by simp;omega)
 refine key.trans ?_;rw[zsw (λy:AX=>y.af.any (Jm s.aq)) (λy=>y.af.map G5)];have ea:(hs.any λy=>y.af.any (Jm s.aq))=(D5 hs).any (Jm s.aq):=by unfold D5;rw[List.any_flatMap]
 have eb:(hs.flatMap λy=>y.af.map G5)=(D5 hs).map G5:=by unfold D5;rw[List.map_flatMap]
 rw[ea,eb];unfold Ow;by_cases hq:(D5 hs).any (Jm s.aq)=true
 ·rw[if_pos hq,hq];simp
 ·rw[if_neg hq];have Ij:=zx1 ho;show cI hs _=_;unfold cI R6 bQ;rw[AJ (by rw[Aq,List.length_map,List.length_map];omega),Aa];obtain⟨g1,g2,_⟩:=Ut (Nu s.aq (D5 hs)) [] List.Pairwise.nil;have e:=zDt (xs:=s.aq.map ck++(D5 hs).map G5) g1 λy=>by rw[g2];simp[Nu]
  by_cases H4:hs.length<=12
  ·rw[if_pos (by simp;omega),Aa];show some (decide (((Lib.compact (Gq (s.aq.map ck++(D5 hs).map G5))).length:Int)<=24))=_;rw[e];simp[hq,H4];omega
  ·rw[if_neg (by simp;omega)];simp[H4]
theorem rO(k:Ah)(l:List Ah):(Dn k l).length<=l.length+1:=YR l
theorem zOY{s:AD}{ws:List Ai}(h:DO 24 s.aq)(hl:s.al.length<=12)(ho:∀h∈s.al,J7 h)(hw:ws.length<=8):iH s ws=some (Ow s.aq (ws++D5 s.al)):=by
 obtain⟨hr,AG,hc⟩:=h;unfold iH;have l1:=DF (xs:=s.aq) (body:=λz:List Ah × Int=>Tt s ws z.1 z.2) (λi z=>(z,i)) (λo c=>Dn (ck c) o) (λo=>xL s ws o) (λi o=>HU o/\o.length<=i)
  (λi hi o hol=>by have hn:=rO (ck s.aq[i]) o;refine⟨?_,lN hol.1,by omega⟩;show Tt s ws o (i:Int)=_;unfold Tt;rw[if_pos (by simpa using hi),Av hi,Aa,rW (by omega) hol.1,Aa,CH (by omega)])
  (λo hol=>by show Tt s ws o (s.aq.length:Int)=_;unfold Tt;rw[if_neg (by simp)]) (s:=[]) ⟨List.Pairwise.nil,by simp⟩
 refine l1.1.trans ?_;obtain⟨r1,r2⟩:=l1.2;unfold xL;rw[AJ (by simp only[List.length_nil];omega)];have l2:=(DF (xs:=s.al) (body:=λz:Int × List Ai=>Tw s (s.aq.foldl (λo c=>Dn (ck c) o) []) z.1 z.2) (λi z=>(i,z)) (λo y=>o++y.af) (λo=>xN s (s.aq.foldl (λo c=>Dn (ck c) o) []) o) (λi o=>o.length<=8+8*i)
  (λi hi o hol=>by have hy:=(ho _ (Au hi)).2.1;refine⟨?_,by rw[Aq];omega⟩;show Tw s _ (i:Int) o=_;unfold Tw;rw[if_pos (by simpa using hi),Av hi,Aa,AJ (by omega),CH (by omega)])
  (λo hol=>by show Tw s _ (s.al.length:Int) o=_;unfold Tw;rw[if_neg (by simp)]) (s:=ws) (by omega)).1
 refine l2.trans ?_;have eh:∀(hs:List AX) (o:List Ai),hs.foldl (λo y=>o++y.af) o=o++D5 hs:=by
  intro hs
  induction hs with
  |nil=>intro o;simp[D5]
  |cons x hs ih=>intro o;rw[List.foldl_cons,ih];simp[D5]
 rw[eh];have hhl:=zx1 ho;unfold xN;have key:=Up (xs:=ws++D5 s.al) (body:=λz:List Ah × Int=>S3 s (ws++D5 s.al) z.1 z.2) (λi z=>(z,(i:Int))) (λacc w=>if Jm s.aq w=true then none else some (Dn (G5 w) acc)) (some false) (λz=>dV z) (λi z=>HU z/\z.length<=24+i)
  (λi z hi hz=>by
   have B8:=hi;rw[Aq]at B8;refine⟨?_,λa ha=> ?_⟩
   ·show S3 s (ws++D5 s.al) z (i:Int)=_;unfold S3;rw[if_pos (by simp only[AS];omega),Av hi,Aa,rW (by omega) hz.1,Aa,CH (by omega)];unfold Jm;obtain⟨j,e,⟨h1,h2⟩|⟨h1,c,h2,h3⟩⟩:=zNd (l:=s.aq) (k:=(ws++D5 s.al)[i].ab) (by omega) hr
    ·rw[e,Aa,if_neg (by simpa using h1),h2];rfl
    ·rw[e,Aa,if_pos (by simpa using h1),h2,Aa,h3];by_cases U4:16<=c.au.length
     ·rw[if_pos (by simp;omega),if_pos (by simpa using U4)]
     ·rw[if_neg (by simp;omega),if_neg (by simpa using U4)];rfl
   ·split at ha
    ·cases ha
    ·cases ha;have hn:=rO (G5 (ws++D5 s.al)[i]) z;exact⟨lN hz.1,by omega⟩)
  (λz _=>by show S3 s (ws++D5 s.al) z ((ws++D5 s.al).length:Int)=_;unfold S3;rw[if_neg (by simp)]) (s.aq.foldl (λo c=>Dn (ck c) o) []) ⟨r1,by omega⟩
 refine key.trans ?_;rw[zvj (Jm s.aq) (λacc w=>Dn (G5 w) acc)];unfold Ow;by_cases hq:(ws++D5 s.al).any (Jm s.aq)=true
 ·rw[if_pos hq,hq];simp
 ·rw[if_neg hq];show dV _=_;unfold dV Nu;have e:(s.aq.map ck++(ws++D5 s.al).map G5).foldl (λo k=>Dn k o) []=(ws++D5 s.al).foldl (λacc w=>Dn (G5 w) acc) (s.aq.foldl (λo c=>Dn (ck c) o) []):=by
   rw[List.foldl_append,List.foldl_map (f:=ck),List.foldl_map (f:=G5)]
  rw[e,Bool.eq_false_iff.2 hq];simp only[Bool.not_false,Bool.true_and,Af,decide_eq_decide];omega
theorem zGS(l:List Ap)(a b:List Ai):Ow l (a++b)=Ow l (b++a):=by
 unfold Ow;have e:(Nu l (a++b)).foldl (λo k=>Dn k o) []=(Nu l (b++a)).foldl (λo k=>Dn k o) []:=by obtain⟨g1,g2,_⟩:=Ut (Nu l (a++b)) [] List.Pairwise.nil;obtain⟨g3,g4,_⟩:=Ut (Nu l (b++a)) [] List.Pairwise.nil;refine Ei.ext g1 g3 λy=> ?_;rw[g2,g4];simp[Nu,or_comm]
 rw[e,List.any_append,List.any_append,Bool.or_comm]
theorem zzG(ws:List Ai)(k:Ah):J4 ws k=(ws.find? λw=>w.ab==k).isSome:=by unfold J4;rw[Uw]
theorem zzN{ws os:List Ai}{rs:List Ah}(hw:ws.length<=2000000)(hr:rs.length<=2000000)(ho:os.length<=2000000)(hR:Gp os):XZ ws rs os=some (Dv ws rs os):=by
 unfold XZ;rw[Ks (xs:=ws) (λw=>J4 os w.ab||rs.contains w.ab) (λw _=> ?_) (by omega),Aa]
 ·rfl
 ·unfold yL;obtain⟨i,⟨e,x,_,h⟩|⟨e,h⟩⟩:=zOi (k:=w.ab) ho hR
  ·rw[e,Aa,zzG,h];rfl
  ·rw[e,Aa,zzG,h,zNi hr];simp
theorem zMu{h:AX}{rs:List Ah}{ws:List Ai}(hh:J7 h)(hr:rs.length<=8)(hw:ws.length<=8)(hR:Gp ws):cR h ⟨0,0,0,rs,ws⟩=some (Lt h rs ws):=by
 obtain⟨h1,h2,h3⟩:=hh;unfold cR zqB;rw[zzN (by show ws.length<=_;omega) (by omega) (by omega) h3,Aa];unfold Lt;show(if Dv ws h.az h.af=true then some true else _).bind _=_;cases Dv ws h.az h.af with
 |true=>simp
 |false=>rw[if_neg (by simp)];rw[zzN (by omega) (by show rs.length<=_;omega) (by show ws.length<=_;omega) hR,Aa,Aa];simp
theorem zMC{h:AX}{rs:List Ah}{ws:List Ai}(hh:J7 h)(hr:rs.length<=8)(hw:ws.length<=8):fB h rs ws=some (!Lt h rs ws):=by
 obtain⟨h1,h2,h3⟩:=hh;unfold fB;have k1:dF h ws=some (!Dv ws h.az h.af):=by
  unfold dF;refine(QY (xs:=ws) (λw=>J4 h.af w.ab||h.az.contains w.ab) (λ_=>some false) (some true) (λi hi=>by
   unfold wT;rw[if_pos (by simpa using hi),Av hi,Aa,zJ2 (by omega),Aa,CH (by omega)];cases J4 h.af ws[i].ab with
   |true=>rfl
   |false=>
    rw[if_neg (by simp),zPg (by omega),Aa,Bool.false_or];have e:h.az.any (· ==ws[i].ab)=h.az.contains ws[i].ab:=by rw[Bool.eq_iff_iff,List.any_eq_true,List.contains_iff_mem];exact⟨λ⟨x,hx,he⟩=>(show x=ws[i].ab by simpa using he)▸hx,λhm=>⟨_,hm,by simp⟩⟩
    rw[e];cases h.az.contains ws[i].ab<;>rfl) (by
   unfold wT;rw[if_neg (by simp)])).trans ?_
  unfold Dv;rw[<-Uw];cases ws.find? (λw=>J4 h.af w.ab||h.az.contains w.ab)<;>rfl
 refine(QY (xs:=rs) (λr=>J4 h.af r) (λ_=>some false) (dF h ws) (λi hi=>by
  unfold wY;rw[if_pos (by simpa using hi),Av hi,Aa,zJ2 (by omega),Aa,CH (by omega)];cases J4 h.af rs[i]<;>rfl) (by
  unfold wY;rw[if_neg (by simp)])).trans ?_
 have e:Lt h rs ws=(rs.any (J4 h.af)||Dv ws h.az h.af):=by
  unfold Lt;rw[Bool.eq_iff_iff,Bool.or_eq_true,Bool.or_eq_true];constructor
  ·rintro(hc|hc)
   ·obtain⟨w,MP,Oh⟩:=List.any_eq_true.1 hc;rcases Bool.or_eq_true _ _▸Oh with hq|hq
    ·obtain⟨v,F1,Dl⟩:=List.any_eq_true.1 hq;have Dl:v.ab=w.ab:=by simpa using Dl
     exact .inr (List.any_eq_true.2 ⟨v,F1,by rw[Bool.or_eq_true];left;exact List.any_eq_true.2 ⟨w,MP,by simp[Dl]⟩⟩)
    ·exact .inl (List.any_eq_true.2 ⟨w.ab,List.contains_iff_mem.1 hq,List.any_eq_true.2 ⟨w,MP,by simp⟩⟩)
   ·exact .inr hc
  ·rintro(hc|hc)
   ·obtain⟨r,Hs,Eb⟩:=List.any_eq_true.1 hc;obtain⟨w,MP,Oh⟩:=List.any_eq_true.1 Eb;have Oh:w.ab=r:=by simpa using Oh
    exact .inl (List.any_eq_true.2 ⟨w,MP,by rw[Bool.or_eq_true];right;exact List.contains_iff_mem.2 (Oh▸Hs)⟩)
   ·exact .inr hc
 rw[k1,e,<-Uw];cases rs.find? (J4 h.af)<;>rfl
def M0(s:AD)(rs:List Ah)(ws:List Ai):Bool:= !(s.al.any λh=>Lt h rs ws)&&(decide (s.al.length<12)&&Ow s.aq (ws++D5 s.al))
theorem zOz{s:AD}{rs:List Ah}{ws:List Ai}(h:DO 24 s.aq)(hl:s.al.length<=12)(ho:∀h∈s.al,J7 h)(hr:rs.length<=8)(hw:ws.length<=8)(hR:Gp ws):dL s rs ws=some (M0 s rs ws):=by
 unfold dL M0;rw[Ks (xs:=s.al) (λh=>Lt h rs ws) (λy hy=>zMu (ho y hy) hr hw hR) (by omega),Aa];cases hq:s.al.any (λh=>Lt h rs ws)with
 |true=>rw[if_pos rfl];rfl
 |false=>
  rw[if_neg (by simp)];have AG:u4 s.al=some s.al:=O9 (by omega) (by omega);rw[AG,Aa,AJ (by simp only[AO];omega),zN9 h (by simp;omega) (λy hy=>by
   rcases Ae.1 hy with hy|hy
   ·exact ho y hy
   ·have:y=⟨0,0,0,rs,ws⟩:=by simpa using hy
    subst this;exact⟨hr,hw,hR⟩),Aa]
  have e:D5 (s.al++ [(⟨0,0,0,rs,ws⟩:AX)])=D5 s.al++ws:=by unfold D5;simp
  rw[e,zGS];simp only[Bool.not_false,Bool.true_and,Aq,AO];congr 2
theorem zOx{s:AD}{rs:List Ah}{ws:List Ai}(h:DO 24 s.aq)(hl:s.al.length<=12)(ho:∀h∈s.al,J7 h)(hr:rs.length<=8)(hw:ws.length<=8):gO s rs ws=some (M0 s rs ws):=by
 unfold gO;refine(QY (xs:=s.al) (λh=>Lt h rs ws) (λ_=>some false) (dS s ws) (λi hi=>by
  unfold xT;rw[if_pos (by simpa using hi),Av hi,Aa,zMC (ho _ (Au hi)) hr hw,Aa,CH (by omega),Bool.not_not];cases Lt s.al[i] rs ws<;>rfl) (by
  unfold xT;rw[if_neg (by simp)])).trans ?_
 unfold M0;rw[<-Uw];cases s.al.find? (λh=>Lt h rs ws)with
 |some y=>rfl
 |none=>
  show dS s ws=_;unfold dS;rw[zOY h hl ho hw];by_cases H4:s.al.length<12
  ·rw[if_pos (by simp;omega)];simp[H4]
  ·rw[if_neg (by simp;omega)];simp[H4]
structure WS(s:AD):Prop where
 cells:DO 24 s.aq
 mz:s.al.length<=12
 ir:DX hk s.al
 held:∀h∈s.al,J7 h/\UC h.af
 il:DX tk s.bz
 told:∀t∈s.bz,1<=tk t/\tk t<=60
structure HZ(r:BG):Prop where
 reads:r.az.length<=8
 writes:r.af.length<=8
 ir:Gp r.af
 small:UC r.af
 time:r.ah≠1->r.ah≠4->r.dj=true->0<r.ak
 o6:r.ah≠4->1<=r.bc/\r.bc<=60
theorem WS.gv{s:AD}(h:WS s):s.bz.length<=60:=by have:=DX.len (lo:=1) (hi:=60) h.il h.told;omega
def Qi(r:BG):AX:=⟨r.bc,r.ak,r.br,r.az,r.af⟩
def J1(l:List AX)(t:Int):List AX:=l.filter λh=>decide (hk h≠t)
def Oy(s:AD)(r:BG):List Cm:=Gi tk ⟨r.bc,r.dj,r.ak⟩ s.bz
def DW(s:AD)(r:BG):Option AD:=
 if r.ah=4 then(if s.bw<r.ak then some ⟨r.ak,s.aq,s.al,s.bz⟩else none)
 else if(Jh s r.bc).isSome=true then none
 else if r.ah=1 then
  (if(GC s r.bc).isSome=true then none
  else if r.ak<=s.bw then none
  else if M0 s r.az r.af=true then some ⟨r.ak,s.aq,Gi hk (Qi r) s.al,s.bz⟩else none)
 else if r.dj=true then
  (match GC s r.bc with
  |none=>none
  |some h=>if r.ak<h.ak then none else match OE s.aq h.af r.ak with
   |none=>none
   |some o=>some ⟨if s.bw<r.ak then r.ak else s.bw,o,J1 s.al r.bc,Oy s r⟩)
 else some ⟨s.bw,s.aq,J1 s.al r.bc,Oy s r⟩
theorem zxJ{s:AD}{t:Int}(h: ¬(Jh s t).isSome=true):∀y∈s.bz,tk y≠t:=by
 intro y hy e;have h:(Jh s t)=none:=by cases hq:Jh s t with|none=>rfl|some x=>rw[hq]at h;exact absurd rfl h
 have:=List.find?_eq_none.1 h y hy;simp[e]at this
theorem zxy{s:AD}{t:Int}(h: ¬(GC s t).isSome=true):∀y∈s.al,hk y≠t:=by
 intro y hy e;have h:(GC s t)=none:=by cases hq:GC s t with|none=>rfl|some x=>rw[hq]at h;exact absurd rfl h
 have:=List.find?_eq_none.1 h y hy;simp[e]at this
theorem DO.o8{n:Nat}{l:List Ap}(h:DO n l)(hg:I9 l=true):DO 24 l:=by unfold I9 at hg;simp only[Ac,AS,Bd]at hg;obtain⟨h1,h2,_⟩:=hg;refine⟨h.1,by omega,λc hc=> ?_⟩;obtain⟨a,b,d⟩:=h.2.2 c hc;have:=h2 c hc;unfold IB Lk at this;simp only[Ac]at this;have h3:=this.2.1;unfold Aw at h3;simp only[Ac,AS]at h3;exact⟨a,by omega,d⟩
theorem zOe{l o:List Ap}{ws:List Ai}{t:Int}(h:DO 24 l)(hw:UC ws)(e:OE l ws t=some o):DO 24 o:=by
 unfold OE at e;cases h1:M4 t l ws with
 |none=>rw[h1]at e;cases e
 |some p=>
  rw[h1]at e;have e:(if I9 p=true then some p else none)=some o:=e;by_cases hg:I9 p=true
  ·rw[if_pos hg]at e;cases e;exact DO.o8 (sK (by have:=hw.1;omega) hw.2 h h1) hg
  ·rw[if_neg hg]at e;cases e
theorem WS.less{s:AD}(h:WS s)(t:Int):(J1 s.al t).length<=12/\DX hk (J1 s.al t)/\ ∀h∈J1 s.al t,J7 h/\UC h.af:=
 ⟨by have:=List.length_filter_le (λh=>decide (hk h≠t)) s.al;have:=h.mz;unfold J1;omega,h.ir.filter _,λy hy=>h.held y (List.mem_filter.1 hy).1⟩
theorem WS.oi{s:AD}{r:BG}(h:WS s)(hr:HZ r)(h4:r.ah≠4)(hn:∀y∈s.bz,tk y≠r.bc):DX tk (Oy s r)/\ ∀t∈Oy s r,1<=tk t/\tk t<=60:=
 ⟨h.il.ins hn,λt ht=>by
  rcases lT.1 ht with rfl|ht
  ·exact hr.o6 h4
  ·exact h.told t ht⟩
theorem zMy{s s':AD}{r:BG}(h:WS s)(hr:HZ r)(e:DW s r=some s'):WS s':=by
 unfold DW at e;split at e
 ·split at e
  ·cases e;exact⟨h.cells,h.mz,h.ir,h.held,h.il,h.told⟩
  ·cases e
 ·rename_i h4;split at e
  ·cases e
  ·rename_i Fg;have hn:=zxJ Fg;split at e
   ·split at e
    ·cases e
    ·rename_i Ih;split at e
     ·cases e
     ·split at e
      ·rename_i hf;cases e;have H4:s.al.length<12:=by
        unfold M0 at hf;simp only[Ac,AS]at hf;exact hf.2.1
       refine⟨h.cells,by rw[zGb];omega,h.ir.ins (zxy Ih),λy hy=> ?_,h.il,h.told⟩;rcases lT.1 hy with rfl|hy
       ·exact⟨⟨hr.reads,hr.writes,hr.ir⟩,hr.small⟩
       ·exact h.held y hy
      ·cases e
   ·obtain⟨l1,l2,l3⟩:=h.less r.bc;obtain⟨t1,t2⟩:=h.oi hr h4 hn;split at e
    ·split at e
     ·cases e
     ·rename_i x hx;split at e
      ·cases e
      ·split at e
       ·cases e
       ·rename_i o ho;cases e;exact⟨zOe h.cells (h.held x (List.mem_of_find?_eq_some hx)).2 ho,l1,l2,l3,t1,t2⟩
    ·cases e;exact⟨h.cells,l1,l2,l3,t1,t2⟩
theorem zEM{h:AX}(hh:J7 h):fL h=some h:=by obtain⟨h1,h2,_⟩:=hh;unfold fL xD TY;have e1:Qt h.az=some h.az:=O9 (by omega) (by omega);have e2:Xk h.af=some h.af:=O9 (by omega) (by omega);rw[Aa];show((Qt h.az).bind _).bind _=_;rw[e1,Aa];show((Xk h.af).bind _).bind _=_;rw[e2];rfl
theorem zIy{r:BG}(hr:HZ r):TY r=some (Qi r):=by have h1:=hr.reads;have h2:=hr.writes;unfold TY;have e1:Qt r.az=some r.az:=O9 (by omega) (by omega);have e2:Xk r.af=some r.af:=O9 (by omega) (by omega);rw[e1,Aa,e2,Aa];rfl
theorem zqA{s:AD}(h:WS s):Tm s=some s:=by
 have hc:=h.cells;have hT:=h.gv;have hf:=h.mz;unfold Tm;have hC:Tc s.aq=some s.aq:=AJ ⟨by have:=hc.2.1;omega,λc Gs=>by have:=(hc.2.2 c Gs).2.1;omega⟩;have e2:u5 s.bz=some s.bz:=O9 (by omega) (by omega);rw[hC,Aa,e2,Aa];refine((DF (xs:=s.al) (body:=λz:Int × List AX=>S5 s s.aq s.bz z.1 z.2) (λi z=>(i,z)) (λo c=>o++ [c]) (λo=>some (⟨s.bw,s.aq,o,s.bz⟩:AD)) (λi o=>o.length=i)
  (λi hi o ho=>by refine⟨?_,by simp[ho]⟩;show S5 s s.aq s.bz (i:Int) o=_;unfold S5;rw[if_pos (by simpa using hi),Av hi,Aa,zEM (h.held _ (Au hi)).1,Aa,AJ (by simp only[AO];omega),CH (by omega)])
  (λo ho=>by show S5 s s.aq s.bz (s.al.length:Int) o=_;unfold S5;rw[if_neg (by simp)]) (s:=[]) rfl).1).trans ?_
 have e:=foldl_map (λc:AX=>c) s.al [];simp only[List.map_id',List.nil_append]at e;rw[e]
theorem zPQ{α:Type}{key:α->Int}{l:List α}{x:α}(hl:l.length<=1000)(hn:∀y∈l,key y≠key x):Gz l ((AT (Bn key (key x)) l:Nat):Int) [x]=some (Gi key x l):=by have:=L9 (Bn key (key x)) l;unfold Gz;rw[AJ ⟨by omega,by omega,by simp,by simp only[AO];omega⟩,Bz,qF hn]
theorem zG9{s:AD}{r:BG}(h:WS s)(hr:HZ r)(h1:r.ah≠1)(h4:r.ah≠4)(Fg: ¬(Jh s r.bc).isSome=true):cM s r=some (match DW s r with|some s'=>(s',true)|none=>((⟨0,[],[],[]⟩:AD),false)):=by
 have hn:=zxJ Fg;have hf:=h.mz;have hT:=h.gv;unfold cM DW;rw[zqA h,Aa,zF1 (by omega) h.ir,Aa,if_neg h4,if_neg Fg,if_neg h1];have tail:∀(c:List Ap) (fl:Int),cE r s (((AT (Bn hk r.bc) s.al:Nat):Int),(GC s r.bc).isSome) c fl=some ((⟨fl,c,J1 s.al r.bc,Oy s r⟩:AD),true):=by
  intro c fl;unfold cE;have D8:Gz s.bz ((AT (Bn tk r.bc) s.bz:Nat):Int) [(⟨r.bc,r.dj,r.ak⟩:Cm)]=some (Oy s r):=zPQ (key:=tk) (x:=⟨r.bc,r.dj,r.ak⟩) (by omega) hn;have Ej:=kG (t:=r.bc) h.ir;cases hq:GC s r.bc with
  |none=>have Hq:s.al.find? (λy=>hk y==r.bc)=none:=hq;simp only[Option.isSome_none,A6,if_false];rw[rS (s:=⟨fl,c,s.al,s.bz⟩) (by show s.bz.length<=_;omega) h.il,Aa,D8,Aa];unfold J1;rw[zvK Hq]
  |some x=>
   have Hq:s.al.find? (λy=>hk y==r.bc)=some x:=hq;simp only[Option.isSome_some,if_true];rw[Hq]at Ej;have hp:AT (Bn hk r.bc) s.al<s.al.length:=by
    rcases Nat.lt_or_ge (AT (Bn hk r.bc) s.al) s.al.length with hp|hp
    ·exact hp
    ·rw[List.getElem?_eq_none hp]at Ej;cases Ej
   rw[AM hp]at Ej;have hkx:hk s.al[AT (Bn hk r.bc) s.al]=r.bc:=by
    by_cases hh:hk s.al[AT (Bn hk r.bc) s.al]=r.bc
    ·exact hh
    ·have Ej:some x=if hk s.al[AT (Bn hk r.bc) s.al]=r.bc then some s.al[AT (Bn hk r.bc) s.al]else none:=Ej;rw[if_neg hh]at Ej;cases Ej
   have KN:YN s.al ((AT (Bn hk r.bc) s.al:Nat):Int) (IntKind.i64.wrap (((AT (Bn hk r.bc) s.al:Nat):Int)+1))=some (J1 s.al r.bc):=by unfold YN J1;rw[CH (by omega),AJ ⟨by omega,by omega,by omega⟩,Bz,Bz,zz6 h.ir hp hkx]
   rw[KN,Aa,rS (s:=⟨fl,c,J1 s.al r.bc,s.bz⟩) (by show s.bz.length<=_;omega) h.il,Aa,D8,Aa]
 by_cases hy:r.dj=true
 ·rw[if_pos hy,if_pos hy];cases hq:GC s r.bc with
  |none=>rfl
  |some x=>
   have Hq:s.al.find? (λy=>hk y==r.bc)=some x:=hq;have Ej:=kG (t:=r.bc) h.ir;rw[Hq]at Ej;have hp:AT (Bn hk r.bc) s.al<s.al.length:=by
    rcases Nat.lt_or_ge (AT (Bn hk r.bc) s.al) s.al.length with hp|hp
    ·exact hp
    ·rw[List.getElem?_eq_none hp]at Ej;cases Ej
   have hx:s.al[AT (Bn hk r.bc) s.al]=x:=by
    rw[AM hp]at Ej;have Ej:some x=if hk s.al[AT (Bn hk r.bc) s.al]=r.bc then some s.al[AT (Bn hk r.bc) s.al]else none:=Ej;split at Ej
    ·cases Ej;rfl
    ·cases Ej
   simp only[Option.isSome_some,if_true];rw[Av hp,Aa,hx];by_cases Ge:r.ak<x.ak
   ·rw[if_pos (by simpa using Ge),if_pos Ge]
   ·rw[if_neg (by simpa using Ge),if_neg Ge,zOv h.cells (h.held x (List.mem_of_find?_eq_some Hq)).2,Aa];cases ho:OE s.aq x.af r.ak with
    |none=>rfl
    |some o=>
     simp only[Bool.not_true,A6,if_false];have t:=tail o (bif decide (r.ak>s.bw)then r.ak else s.bw);rw[hq]at t;refine t.trans ?_;by_cases Ci:s.bw<r.ak
     ·rw[if_pos Ci];simp[Ci]
     ·rw[if_neg Ci];simp[Ci]
 ·rw[if_neg hy,if_neg hy];exact tail s.aq s.bw
theorem zMP{s:AD}{r:BG}(h:WS s)(hr:HZ r):cN s r=some (match DW s r with|some s'=>(s',true)|none=>((⟨0,[],[],[]⟩:AD),false)):=by
 have hf:=h.mz;have hT:=h.gv;unfold cN;by_cases h4:r.ah=4
 ·rw[if_pos (by simpa using h4)];unfold DW;rw[if_pos h4];by_cases Ci:s.bw<r.ak
  ·rw[if_neg (by simpa using Ci),if_pos Ci,zqA h];rfl
  ·rw[if_pos (by simpa using Ci),if_neg Ci]
 ·rw[if_neg (by simpa using h4),rS (by omega) h.il,Aa];by_cases Fg:(Jh s r.bc).isSome=true
  ·unfold DW;rw[if_neg h4,if_pos Fg,if_pos Fg]
  ·rw[if_neg Fg];by_cases h1:r.ah=1
   ·rw[if_neg (by simpa using h1),zF1 (by omega) h.ir,Aa];unfold DW;rw[if_neg h4,if_neg Fg,if_pos h1];by_cases Ih:(GC s r.bc).isSome=true
    ·rw[if_pos Ih,if_pos Ih]
    ·rw[if_neg Ih,if_neg Ih];by_cases Ge:r.ak<=s.bw
     ·rw[if_pos (by simpa using Ge),if_pos Ge]
     ·rw[if_neg (by simpa using Ge),if_neg Ge,zOz h.cells hf (λy hy=>(h.held y hy).1) hr.reads hr.writes hr.ir,Aa];cases Cr:M0 s r.az r.af with
      |false=>rfl
      |true=>rw[if_neg (by simp),zqA h,Aa,zIy hr,Aa];have:=zPQ (key:=hk) (l:=s.al) (x:=Qi r) (by omega) (zxy Ih);rw[show((AT (Bn hk r.bc) s.al:Nat):Int)=((AT (Bn hk (hk (Qi r))) s.al:Nat):Int)from rfl,this];rfl
   ·rw[if_pos (by simpa using h1),zG9 h hr h1 h4 Fg];rfl
theorem zHq{h:AX}(hh:J7 h):dX h=some h:=by obtain⟨h1,h2,_⟩:=hh;unfold dX;rw[aI (by omega),Aa,AJ (by simp only[List.length_nil];omega)]
theorem zMg{s:AD}(h:WS s):jJ s=some s:=by
 have hT:=h.gv;have hf:=h.mz;unfold jJ;rw[zIP h.cells,Aa,AJ (by simp only[List.length_nil];omega)];refine((DF (xs:=s.al) (body:=λz:Int × List AX=>Th s s.aq z.1 z.2) (λi z=>(i,z)) (λo c=>o++ [c]) (λo=>some (⟨s.bw,s.aq,o,s.bz⟩:AD)) (λi o=>o.length=i)
  (λi hi o ho=>by refine⟨?_,by simp[ho]⟩;show Th s s.aq (i:Int) o=_;unfold Th;rw[if_pos (by simpa using hi),Av hi,Aa,zHq (h.held _ (Au hi)).1,Aa,AJ (by simp only[AO];omega),CH (by omega)])
  (λo ho=>by show Th s s.aq (s.al.length:Int) o=_;unfold Th;rw[if_neg (by simp)]) (s:=[]) rfl).1).trans ?_
 have e:=foldl_map (λc:AX=>c) s.al [];simp only[List.map_id',List.nil_append]at e;rw[e]
theorem zLD{s:AD}{r:BG}(h:WS s)(hr:HZ r):∃x,fT s r=some (x,(DW s r).isSome)/\ ∀s',DW s r=some s'->x=s':=by
 have hf:=h.mz;have hT:=h.gv;have hrl:=hr.reads;have hwl:=hr.writes;unfold fT;rw[zMg h,Aa,zJt (by omega),Aa,zKl (by omega),Aa];by_cases h4:r.ah=4
 ·rw[if_pos (by simpa using h4)];unfold DW;rw[if_pos h4];refine⟨⟨r.ak,s.aq,s.al,s.bz⟩,?_,?_⟩
  ·by_cases Ci:s.bw<r.ak
   ·rw[if_pos Ci];simp[Ci]
   ·rw[if_neg Ci];simp[Ci]
  ·intro s' e;split at e
   ·cases e;rfl
   ·cases e
 ·rw[if_neg (by simpa using h4)];by_cases Fg:(Jh s r.bc).isSome=true
  ·have ea:DW s r=none:=by unfold DW;rw[if_neg h4,if_pos Fg]
   rw[ea];cases hq:Jh s r.bc with
   |none=>rw[hq]at Fg;cases Fg
   |some x=>exact⟨s,rfl,λs' e=>by cases e⟩
  ·have ZL:Jh s r.bc=none:=by cases hq:Jh s r.bc with|none=>rfl|some x=>rw[hq]at Fg;exact absurd rfl Fg
   have hn:=zxJ Fg;rw[ZL];simp only[A6,if_false];by_cases h1:r.ah=1
   ·rw[if_pos (by simpa using h1),aI (by omega),Aa,AJ (by simp only[List.length_nil];omega)];obtain⟨l,KW,Ij⟩:=zG5 (l:=s.al) (h:=Qi r) (by omega) h.ir;rw[show(⟨r.bc,r.ak,r.br,r.az,r.af⟩:AX)=Qi r from rfl,KW,Aa];by_cases Ih:(GC s r.bc).isSome=true
    ·have ea:DW s r=none:=by unfold DW;rw[if_neg h4,if_neg Fg,if_pos h1,if_pos Ih]
     rw[ea];cases hq:GC s r.bc with
     |none=>rw[hq]at Ih;cases Ih
     |some x=>exact⟨_,rfl,λs' e=>by cases e⟩
    ·have hhn:GC s r.bc=none:=by cases hq:GC s r.bc with|none=>rfl|some x=>rw[hq]at Ih;exact absurd rfl Ih
     have ea:DW s r=if r.ak<=s.bw then none else if M0 s r.az r.af=true then some ⟨r.ak,s.aq,Gi hk (Qi r) s.al,s.bz⟩else none:=by unfold DW;rw[if_neg h4,if_neg Fg,if_pos h1,if_neg Ih]
     rw[ea,hhn];simp only[A6,if_false];by_cases Ge:r.ak<=s.bw
     ·rw[if_neg (by simpa using Ge),if_pos Ge];exact⟨_,rfl,λs' e=>by cases e⟩
     ·rw[if_pos (by simpa using Ge),if_neg Ge,zOx h.cells hf (λy hy=>(h.held y hy).1) hr.reads hr.writes,Aa];cases Cr:M0 s r.az r.af with
      |false=>exact⟨_,rfl,λs' e=>by cases e⟩
      |true=>rw[Ij (zxy Ih)];exact⟨_,rfl,λs' e=>by cases e;rfl⟩
   ·rw[if_neg (by simpa using h1)];obtain⟨tl,Od,LL⟩:=zGz (l:=s.bz) (h:=⟨r.bc,r.dj,r.ak⟩) (by omega) h.il;have LL:=LL hn;by_cases hy:r.dj=true
    ·rw[if_pos hy];cases hq:GC s r.bc with
     |none=>
      have ea:DW s r=none:=by unfold DW;rw[if_neg h4,if_neg Fg,if_neg h1,if_pos hy,hq]
      rw[ea];exact⟨_,rfl,λs' e=>by cases e⟩
     |some x=>
      have ea:DW s r=if r.ak<x.ak then none else match OE s.aq x.af r.ak with
       |none=>none
       |some o=>some ⟨if s.bw<r.ak then r.ak else s.bw,o,J1 s.al r.bc,Oy s r⟩:=by unfold DW;rw[if_neg h4,if_neg Fg,if_neg h1,if_pos hy,hq]<;>rfl
      rw[ea];simp only[Bool.not_true,Bool.false_or];by_cases Ge:r.ak<x.ak
      ·rw[if_pos (by simpa using Ge),if_pos Ge];exact⟨_,rfl,λs' e=>by cases e⟩
      ·rw[if_neg (by simpa using Ge),if_neg Ge,zNM h.cells (h.held x (List.mem_of_find?_eq_some hq)).2 (hr.time h1 h4 hy),Aa];unfold OE;cases ho:M4 r.ak s.aq x.af with
       |none=>exact⟨_,rfl,λs' e=>by cases e⟩
       |some o=>
        cases hg:I9 o with
        |false=>simp only[hg,Bool.not_false,if_true];exact⟨_,rfl,λs' e=>by cases e⟩
        |true=>
         simp only[hg,Bool.not_true,A6,if_false,if_true];have VS:iM s.bw r.ak=some (if s.bw<r.ak then r.ak else s.bw):=by
          unfold iM;by_cases Ci:s.bw<r.ak
          ·rw[if_pos Ci,if_neg (by simp;omega)]
          ·rw[if_neg Ci];by_cases PF:s.bw>r.ak
           ·rw[if_pos (by simpa using PF)]
           ·rw[if_neg (by simpa using PF)];rw[show r.ak=s.bw by omega]
         rw[VS,Aa,zGv (by omega),Aa,Od,Aa,LL];exact⟨_,rfl,λs' e=>by cases e;rfl⟩
    ·have ea:DW s r=some ⟨s.bw,s.aq,J1 s.al r.bc,Oy s r⟩:=by unfold DW;rw[if_neg h4,if_neg Fg,if_neg h1,if_neg hy]
     rw[if_neg hy,ea,zGv (by omega),Aa,Od,Aa,LL];exact⟨_,rfl,λs' e=>by cases e;rfl⟩
def Kx:AD:=⟨0,[],[],[]⟩
def Jq(s:AD)(r:BG):AD:=(DW s r).getD s
def UU(rs:List BG):AD:=rs.foldl Jq Kx
theorem qB:WS Kx where
 cells:=⟨List.Pairwise.nil,by simp[Kx],λc hc=>by simp[Kx]at hc⟩
 mz:=by simp[Kx]
 ir:=List.Pairwise.nil
 held:=λh hh=>by simp[Kx]at hh
 il:=List.Pairwise.nil
 told:=λh hh=>by simp[Kx]at hh
theorem WS.step{s:AD}{r:BG}(h:WS s)(hr:HZ r):WS (Jq s r):=by
 unfold Jq;cases e:DW s r with
 |none=>exact h
 |some s'=>exact zMy h hr e
theorem zF3:∀(rs:List BG) (s:AD),WS s->(∀r∈rs,HZ r)->WS (rs.foldl Jq s)
 | [],s,h,_=>h
 |r::rs,s,h,hr=>zF3 rs (Jq s r) (h.step (hr r (by simp))) λx hx=>hr x (by simp[hx])
theorem zJO{rs:List BG}(hr:∀r∈rs,HZ r):WS (UU rs):=zF3 rs _ qB hr
theorem rJ:∀(rs:List BG) (s:AD) (b:List Bool),(rs.foldl (λ(z:AD × List Bool) r=>(Jq z.1 r,z.2++ [(DW z.1 r).isSome])) (s,b)).1=rs.foldl Jq s
 | [],_,_=>rfl
 |r::rs,s,b=>rJ rs (Jq s r) _
theorem zGy{rs:List BG}(hl:rs.length<=1000000)(hr:∀r∈rs,HZ r):∃b,gK rs=some (UU rs,b):=by
 refine⟨(rs.foldl (λ(z:AD × List Bool) r=>(Jq z.1 r,z.2++ [(DW z.1 r).isSome])) (Kx,[])).2,?_⟩;unfold gK;have:=(DF (xs:=rs) (body:=λs:Int × Int × List Ap × List AX × List Cm × List Bool=>SN rs s.1 s.2.1 s.2.2.1 s.2.2.2.1 s.2.2.2.2.1 s.2.2.2.2.2) (λi (z:AD × List Bool)=>(i,z.1.bw,z.1.aq,z.1.al,z.1.bz,z.2)) (λz r=>(Jq z.1 r,z.2++ [(DW z.1 r).isSome])) (λz=>some (z.1,z.2)) (λi z=>WS z.1/\z.2.length=i)
  (λi hi z hz=>by
   have V5:=hr _ (Au hi);refine⟨?_,hz.1.step V5,by simp[hz.2]⟩;have Qb:=hz.2;show SN rs (i:Int) z.1.bw z.1.aq z.1.al z.1.bz z.2=_;unfold SN;rw[if_pos (by simpa using hi),Av hi,Aa,show(⟨z.1.bw,z.1.aq,z.1.al,z.1.bz⟩:AD)=z.1 from rfl,zMP hz.1 V5,Aa,CH (by omega)];unfold Jq;cases e:DW z.1 rs[i]with
   |none=>simp only[A6,if_false];rw[AJ (by simp only[AO];omega)];rfl
   |some s'=>simp only[if_true];rw[AJ (by simp only[AO];omega)];rfl)
  (λz _=>by show SN rs (rs.length:Int) z.1.bw z.1.aq z.1.al z.1.bz z.2=_;unfold SN;rw[if_neg (by simp)]) (s:=(Kx,[])) ⟨qB,rfl⟩).1
 refine this.trans ?_;rw[rJ];rfl
theorem zQH{rs:List BG}(hl:rs.length<=1000000)(hr:∀r∈rs,HZ r):∃b,jP rs=some (UU rs,b):=by
 refine⟨(rs.foldl (λ(z:AD × List Bool) r=>(Jq z.1 r,z.2++ [(DW z.1 r).isSome])) (Kx,[])).2,?_⟩;unfold jP;have:=(DF (xs:=rs) (body:=λs:List Bool × Int × Int × List Ap × List AX × List Cm=>TH rs s.1 s.2.1 s.2.2.1 s.2.2.2.1 s.2.2.2.2.1 s.2.2.2.2.2) (λi (z:AD × List Bool)=>(z.2,i,z.1.bw,z.1.aq,z.1.al,z.1.bz)) (λz r=>(Jq z.1 r,z.2++ [(DW z.1 r).isSome])) (λz=>some (z.1,z.2)) (λi z=>WS z.1/\z.2.length=i)
  (λi hi z hz=>by
   have V5:=hr _ (Au hi);refine⟨?_,hz.1.step V5,by simp[hz.2]⟩;have Qb:=hz.2;show TH rs z.2 (i:Int) z.1.bw z.1.aq z.1.al z.1.bz=_;unfold TH;obtain⟨x,e1,e2⟩:=zLD hz.1 V5;rw[if_pos (by simpa using hi),Av hi,Aa,show(⟨z.1.bw,z.1.aq,z.1.al,z.1.bz⟩:AD)=z.1 from rfl,e1,Aa,CH (by omega)];unfold Jq;cases e:DW z.1 rs[i]with
   |none=>simp only[Option.isSome_none,A6,if_false];rw[AJ (by simp only[AO];omega)];rfl
   |some s'=>simp only[Option.isSome_some,if_true];rw[AJ (by simp only[AO];omega),e2 s' e];rfl)
  (λz _=>by show TH rs z.2 (rs.length:Int) z.1.bw z.1.aq z.1.al z.1.bz=_;unfold TH;rw[if_neg (by simp)]) (s:=(Kx,[])) ⟨qB,rfl⟩).1
 refine this.trans ?_;rw[rJ];rfl
theorem zGU{es:List Cb}(hl:es.length<=1000000)(hr:∀e∈es,HZ e.fRec):iE es=some (UU (es.map (·.fRec))):=by
 unfold iE;refine((DF (xs:=es) (body:=λz:Int × List BG=>SS es z.1 z.2) (λi z=>(i,z)) (λo c=>o++ [c.fRec]) (λo=>yD o) (λi o=>o.length=i)
  (λi hi o ho=>by refine⟨?_,by simp[ho]⟩;show SS es (i:Int) o=_;unfold SS;rw[if_pos (by simpa using hi),Av hi,Aa,AJ (by simp only[AO];omega),CH (by omega)])
  (λo ho=>by show SS es (es.length:Int) o=_;unfold SS;rw[if_neg (by simp)]) (s:=[]) rfl).1).trans ?_
 have e:=foldl_map (λc:Cb=>c.fRec) es [];rw[e,List.nil_append];unfold yD;obtain⟨b,hb⟩:=zGy (rs:=es.map (·.fRec)) (by simpa using hl) (λr Et=>by obtain⟨x,hx,rfl⟩:=List.mem_map.1 Et;exact hr x hx);rw[hb];rfl
theorem zMR{es:List Cb}{n:Nat}(hn:n<=es.length)(hl:es.length<=1000000)(hr:∀e∈es,HZ e.fRec):fH es (n:Int)=some (UU ((es.take n).map (·.fRec))):=by
 have htl:(es.take n).length<=1000000:=by rw[AI];omega
 unfold fH;rw[AJ (by omega)];refine((DF (xs:=es.take n) (body:=λz:List BG × Int=>S1 es (n:Int) z.1 z.2) (λi z=>(z,i)) (λo c=>o++ [c.fRec]) (λo=>wV o) (λi o=>o.length=i)
  (λi hi o ho=>by refine⟨?_,by simp[ho]⟩;show S1 es (n:Int) o (i:Int)=_;unfold S1;rw[W9,if_pos (by simp only[AS];omega),Av hi,Aa,AJ (by simp only[AO];omega),CH (by omega)])
  (λo ho=>by show S1 es (n:Int) o ((es.take n).length:Int)=_;unfold S1;rw[W9,if_neg (by simp only[AS];omega)]) (s:=[]) rfl).1).trans ?_
 have e:=foldl_map (λc:Cb=>c.fRec) (es.take n) [];rw[e,List.nil_append];unfold wV;obtain⟨b,hb⟩:=zQH (rs:=(es.take n).map (·.fRec)) (by simpa using htl) (λr Et=>by obtain⟨x,hx,rfl⟩:=List.mem_map.1 Et;exact hr x (BD hx));rw[hb];rfl
def RS(r:Ct):Prop:=0<=r.cx/\(r.cx<=r.ct.length/\(r.ct.length<=1000000/\ ∀e∈r.ct,HZ e.fRec))
def IM(b r:Ct):Ct:=if b.cx<r.cx then r else b
def tR(r:Ct):AD:=UU ((r.ct.take r.cx.toNat).map (·.fRec))
def Xh(g:BZ):Prop:= ∃r rs,g.ar=r::rs/\(g.ar.length<=1000/\ ∀x∈g.ar,RS x)
def Jk(g:BZ):AD:=match g.ar with|r::rs=>tR ((r::rs).foldl IM r)| []=>Kx
theorem qS:∀(rs:List Ct) (b:Ct),rs.foldl IM b=b\/rs.foldl IM b∈rs
 | [],_=> .inl rfl
 |r::rs,b=>by
  rw[List.foldl_cons];rcases qS rs (IM b r)with h|h
  ·rw[h];unfold IM;split
   ·exact .inr (by simp)
   ·exact .inl rfl
  ·exact .inr (by simp[h])
theorem zND{g:BZ}(h:Xh g):cB g=some (Jk g):=by
 obtain⟨r,rs,e,hl,ho⟩:=h;have hm:dG g=some ((r::rs).foldl IM r):=by
  unfold dG;have h0:0<g.ar.length:=by rw[e];simp
  have FH:Ak g.ar 0=some r:=by have:=Av (i:=0) h0;simpa[e]using this
  rw[FH,Aa];refine((DF (xs:=g.ar) (body:=λs:Int × Bool × List Cb × Int=>SE g s.1 s.2.1 s.2.2.1 s.2.2.2) (λi (b:Ct)=>(i,b.ju,b.ct,b.cx)) IM (λb=>some b) (λ_ _=>True)
   (λi hi b _=>by
    refine⟨?_,trivial⟩;show SE g (i:Int) b.ju b.ct b.cx=_;unfold SE IM;rw[if_pos (by simpa using hi),Av hi,Aa,CH (by omega)];by_cases hb:b.cx<(g.ar[i]).cx
    ·rw[if_pos (by simpa using hb),if_pos hb]
    ·rw[if_neg (by simpa using hb),if_neg hb])
   (λb _=>by show SE g (g.ar.length:Int) b.ju b.ct b.cx=_;unfold SE;rw[if_neg (by simp)]) (s:=r) trivial).1).trans ?_
  rw[e]
 have A4:RS ((r::rs).foldl IM r):=by
  rcases qS (r::rs) r with h|h
  ·rw[h];exact ho r (by rw[e];simp)
  ·exact ho _ (by rw[e];exact h)
 obtain⟨o1,o2,o3,o4⟩:=A4;unfold cB vY Jk;rw[hm,Aa,AJ ⟨by omega,o1,o2⟩,Aa,e];have ew:A1 ((r::rs).foldl IM r).ct 0 ((r::rs).foldl IM r).cx=((r::rs).foldl IM r).ct.take ((r::rs).foldl IM r).cx.toNat:=by unfold A1;simp
 rw[ew,zGU (by rw[AI];omega) (λx hx=>o4 x (BD hx)),Aa];rfl
theorem zJl{g:BZ}(h:Xh g):XX g=some (Jk g):=by
 obtain⟨r,rs,e,hl,ho⟩:=h;have key:∀(n q j:Nat) (hj:j<g.ar.length),q+n=g.ar.length-> ∃(k:Nat) (hk:k<g.ar.length),g.ar[k]=(g.ar.drop q).foldl IM g.ar[j]/\Ao (λs:Int × Int=>QC g s.1 s.2) ((q:Int),(j:Int))=xY g (k:Int):=by
  intro n
  induction n with
  |zero=>
   intro q j hj hq;have eq:q=g.ar.length:=by omega
   subst eq;refine⟨j,hj,by simp,?_⟩;refine Nf ?_;show QC g (g.ar.length:Int) (j:Int)=_;unfold QC;rw[if_neg (by simp)]
  |succ n ih=>
   intro q j hj hq;have AQ:q<g.ar.length:=by omega
   have hb:QC g (q:Int) (j:Int)=some (.inl (((q+1:Nat):Int),(((if g.ar[j].cx<g.ar[q].cx then q else j):Nat):Int))):=by
    unfold QC;rw[if_pos (by simpa using AQ),Av AQ,Aa,Av hj,Aa,CH (by omega)];by_cases hc:g.ar[j].cx<g.ar[q].cx
    ·rw[if_pos (by simpa using hc),if_pos hc]
    ·rw[if_neg (by simpa using hc),if_neg hc]
   rw[Ul (body:=λs:Int × Int=>QC g s.1 s.2) (s:=((q:Int),(j:Int))) hb];have Kc:(if g.ar[j].cx<g.ar[q].cx then q else j)<g.ar.length:=by split<;>assumption
   obtain⟨k,hk,h1,h2⟩:=ih (q+1) _ Kc (by omega);refine⟨k,hk,?_,h2⟩;rw[h1,Bw AQ,List.foldl_cons];congr 1;unfold IM;by_cases hc:g.ar[j].cx<g.ar[q].cx
   ·simp only[hc,if_true]
   ·simp only[hc,if_false]
 have h0:0<g.ar.length:=by rw[e];simp
 obtain⟨k,hk,h1,h2⟩:=key g.ar.length 0 0 h0 (by omega);unfold XX;refine h2.trans ?_;have Kf:g.ar[0]=r:=by simp[e]
 rw[List.drop_zero,Kf]at h1;obtain⟨o1,o2,o3,o4⟩:=ho _ (Au hk);have hs:g.ar[k].cx=((g.ar[k].cx.toNat:Nat):Int):=by omega
 unfold xY;rw[Av hk,Aa,hs,zMR (by omega) o3 o4,Aa,h1];unfold Jk tR;rw[e]
def I5(a b:Int):Int:=if b<a then b else a
def Pa(s:AD):Int:=s.al.foldl (λv h=>I5 v (IntKind.i64.wrap (h.ak-1))) s.bw
theorem zC8(a b:Int):X6 a b=some (I5 a b):=by
 unfold X6 I5;by_cases h:b<a
 ·rw[if_pos h,if_neg (by simp;omega)]
 ·rw[if_neg h];by_cases h2:a<b
  ·rw[if_pos (by simpa using h2)]
  ·rw[if_neg (by simpa using h2),show b=a by omega]
theorem zKj(a b:Int):(bif decide (b<a)then b else a)=I5 a b:=by unfold I5;by_cases h:b<a<;>simp[h]
theorem zHn{s:AD}(h:s.al.length<=1000):cJ s=some (Pa s):=by
 unfold cJ;exact((DF (xs:=s.al) (body:=λz:Int × Int=>Sf s z.1 z.2) (λi v=>(v,i)) (λv h=>I5 v (IntKind.i64.wrap (h.ak-1))) (λv=>some v) (λ_ _=>True)
  (λi hi v _=>by refine⟨?_,trivial⟩;show Sf s v (i:Int)=_;unfold Sf;rw[if_pos (by simpa using hi),Av hi,Aa,CH (by omega),zKj])
  (λv _=>by show Sf s v (s.al.length:Int)=_;unfold Sf;rw[if_neg (by simp)]) (s:=s.bw) trivial).1)
theorem zGE{s:AD}(h:s.al.length<=1000):eA s=some (Pa s):=by
 unfold eA;exact((DF (xs:=s.al) (body:=λz:Int × Int=>Sz s z.1 z.2) (λi v=>(v,i)) (λv h=>I5 v (IntKind.i64.wrap (h.ak-1))) (λv=>some v) (λ_ _=>True)
  (λi hi v _=>by refine⟨?_,trivial⟩;show Sz s v (i:Int)=_;unfold Sz;rw[if_pos (by simpa using hi),Av hi,Aa,zC8,Aa,CH (by omega)])
  (λv _=>by show Sz s v (s.al.length:Int)=_;unfold Sz;rw[if_neg (by simp)]) (s:=s.bw) trivial).1)
theorem RS.recs{r:Ct}(h:RS r):WS (tR r):=by
 obtain⟨_,_,_,h4⟩:=h;exact zJO λx hx=>by obtain⟨e,he,rfl⟩:=List.mem_map.1 hx;exact h4 e (BD he)
theorem Xh.ws{g:BZ}(h:Xh g):WS (Jk g):=by
 obtain⟨r,rs,e,hl,ho⟩:=h;unfold Jk;rw[e];rcases qS (r::rs) r with h|h
 ·exact RS.recs (by rw[h];exact ho r (by rw[e];simp))
 ·exact RS.recs (ho _ (by rw[e];exact h))
def Zk(w:BA):Prop:=w.aw.length<=1000/\ ∀g∈w.aw,Xh g
def Fo(w:BA):List AD:=w.aw.map Jk
theorem zDv{w:BA}(h:Zk w):cF w=some (Fo w):=by
 unfold cF;have hl:=h.1;refine((DF (xs:=w.aw) (body:=λz:Int × List AD=>Sl w z.1 z.2) (λi z=>(i,z)) (λo g=>o++ [Jk g]) (λo=>some o) (λi o=>o.length=i)
  (λi hi o ho=>by refine⟨?_,by simp[ho]⟩;show Sl w (i:Int) o=_;unfold Sl;rw[if_pos (by simpa using hi),Av hi,Aa,zND (h.2 _ (Au hi)),Aa,AJ (by simp only[AO];omega),CH (by omega)])
  (λo _=>by show Sl w (w.aw.length:Int) o=_;unfold Sl;rw[if_neg (by simp)]) (s:=[]) rfl).1).trans ?_
 rw[foldl_map Jk w.aw [],List.nil_append];rfl
def toB(ss:List AD):Int:=ss.foldl (λv s=>I5 v (Pa s)) 100000
theorem zC1{ss:List AD}(hl:ss.length<=1000)(h:∀s∈ss,WS s):jI ss=some (toB ss):=by
 unfold jI;exact((DF (xs:=ss) (body:=λz:Int × Int=>Tk ss z.1 z.2) (λi v=>(v,i)) (λv s=>I5 v (Pa s)) (λv=>some v) (λ_ _=>True)
  (λi hi v _=>by have:=(h _ (Au hi)).mz;refine⟨?_,trivial⟩;show Tk ss v (i:Int)=_;unfold Tk;rw[if_pos (by simpa using hi),Av hi,Aa,zHn (by omega),Aa,CH (by omega),zKj])
  (λv _=>by show Tk ss v (ss.length:Int)=_;unfold Tk;rw[if_neg (by simp)]) (s:=100000) trivial).1)
theorem zxe{w:BA}(h:Zk w)(hg:QQ w=some true):dP w=some (toB (Fo w)):=by
 have hl:=h.1;unfold dP wD;rw[hg,Aa,if_neg (by simp)];have:=((DF (xs:=w.aw) (body:=λz:Int × Int=>Qv w z.1 z.2) (λi v=>(v,i)) (λv g=>I5 v (Pa (Jk g))) (λv=>some (v,true)) (λ_ _=>True)
  (λi hi v _=>by have ho:=h.2 _ (Au hi);have:=ho.ws.mz;refine⟨?_,trivial⟩;show Qv w v (i:Int)=_;unfold Qv;rw[if_pos (by simpa using hi),Av hi,Aa,zJl ho,Aa,zGE (by omega),Aa,zC8,Aa,CH (by omega)])
  (λv _=>by show Qv w v (w.aw.length:Int)=_;unfold Qv;rw[if_neg (by simp)]) (s:=100000) trivial).1)
 have e:(Ao (λs:Int × Int=>Qv w s.1 s.2) (100000,0))=some (toB (Fo w),true):=by refine this.trans ?_;unfold toB Fo;rw[List.foldl_map]
 rw[e];rfl
def Lx(t:Int)(c:Ap):Option Ai:=if(IP t c.au.reverse).2=true then some ⟨c.ab,(IP t c.au.reverse).1,false⟩else none
def GG(l:List Ap)(t:Int):List Ai:=l.filterMap (Lx t)
theorem zwO{α β:Type}(f:α->Option β):∀(l:List α) (o:List β),l.foldl (λo x=>o++(f x).toList) o=o++l.filterMap f
 | [],o=>by simp
 |x::l,o=>by rw[List.foldl_cons,zwO f l,List.filterMap_cons];cases f x<;>simp
theorem zGQ{l:List Ap}{t:Int}(h:DO 24 l):gZ l t=some (GG l t):=by
 have hl:=h.2.1;unfold gZ;refine((DF (xs:=l) (body:=λz:Int × List Ai=>S4 l t z.1 z.2) (λi z=>(i,z)) (λo c=>o++(Lx t c).toList) (λo=>some o) (λi o=>o.length<=i)
  (λi hi o ho=>by
   have hv:=(h.2.2 _ (Au hi)).2.1;have Vi:eT l[i] t=some (IP t l[i].au.reverse):=AJ (by omega);unfold Lx;constructor
   ·show S4 l t (i:Int) o=_;unfold S4;rw[if_pos (by simpa using hi),Av hi,Aa,Vi,Aa,CH (by omega)];by_cases hb:(IP t l[i].au.reverse).2=true
    ·rw[if_pos hb,if_pos hb,AJ (by simp only[AO];omega)];rfl
    ·rw[if_neg hb,if_neg hb];simp
   ·split
    ·simp;omega
    ·simp;omega)
  (λo _=>by show S4 l t (l.length:Int) o=_;unfold S4;rw[if_neg (by simp)]) (s:=[]) (by simp)).1).trans ?_
 rw[zwO (Lx t) l [],List.nil_append];rfl
theorem rG(t:Int):∀m:List CE,IP t m=match m.find? (λv=>decide (v.ak<=t))with|some v=>(v.bf, !v.bu)|none=>([],false)
 | []=>rfl
 |v::m=>by
  rw[IP,List.find?_cons];by_cases h:v.ak<=t
  ·rw[if_pos h];simp[h]
  ·rw[if_neg h,rG t m];simp[h]
def R5(t:Int)(z:Bool × CE)(v:CE):Bool × CE:=if v.ak<=t then(true,v)else z
theorem zMr(t:Int)(z:Bool × CE)(l:List CE):l.foldl (R5 t) z=match l.reverse.find? (λv=>decide (v.ak<=t))with|some v=>(true,v)|none=>z:=by
 rw[List.foldl_eq_foldr_reverse];generalize l.reverse=m
 induction m with
 |nil=>rfl
 |cons v m ih=>
  rw[List.foldr_cons,ih,List.find?_cons];unfold R5;by_cases h:v.ak<=t
  ·rw[if_pos h];simp[h]
  ·rw[if_neg h];simp[h]
theorem zPw{c:Ap}{t:Int}(h:c.au.length<=1000):jV c t=some ((c.au.foldl (R5 t) (false,⟨0,[],false⟩)).2,(c.au.foldl (R5 t) (false,⟨0,[],false⟩)).1):=by
 unfold jV;exact((DF (xs:=c.au) (body:=λs:Bool × Int × Int × Ab × Bool=>TK c t s.1 s.2.1 s.2.2.1 s.2.2.2.1 s.2.2.2.2) (λi (z:Bool × CE)=>(z.1,i,z.2.ak,z.2.bf,z.2.bu)) (R5 t) (λz=>some (z.2,z.1)) (λ_ _=>True)
  (λi hi z _=>by
   refine⟨?_,trivial⟩;show TK c t z.1 (i:Int) z.2.ak z.2.bf z.2.bu=_;unfold TK R5;rw[if_pos (by simpa using hi),Av hi,Aa,CH (by omega)];by_cases hb:(c.au[i]).ak<=t
   ·rw[if_pos (by simpa using hb),if_pos hb]
   ·rw[if_neg (by simpa using hb),if_neg hb])
  (λz _=>by show TK c t z.1 (c.au.length:Int) z.2.ak z.2.bf z.2.bu=_;unfold TK;rw[if_neg (by simp)]) (s:=(false,⟨0,[],false⟩)) trivial).1)
theorem zPF{l:List Ap}{t:Int}(h:DO 24 l):jT l t=some (GG l t):=by
 have hl:=h.2.1;unfold jT;refine((DF (xs:=l) (body:=λz:List Ai × Int=>TQ l t z.1 z.2) (λi z=>(z,i)) (λo c=>o++(Lx t c).toList) (λo=>some o) (λi o=>o.length<=i)
  (λi hi o ho=>by
   have hv:=(h.2.2 _ (Au hi)).2.1;constructor
   ·show TQ l t o (i:Int)=_;unfold TQ Lx;rw[if_pos (by simpa using hi),Av hi,Aa,zPw (by omega),Aa,CH (by omega),zMr,rG];cases hq:l[i].au.reverse.find? (λv=>decide (v.ak<=t))with
    |none=>simp
    |some v=>
     by_cases hg:v.bu=true
     ·simp[hg]
     ·have hg:v.bu=false:=by simpa using hg
      simp only[hg,Bool.not_false,Bool.and_self,if_true];rw[AJ (by simp only[AO];omega)];rfl
   ·unfold Lx;split
    ·simp;omega
    ·simp;omega)
  (λo _=>by show TQ l t o (l.length:Int)=_;unfold TQ;rw[if_neg (by simp)]) (s:=[]) (by simp)).1).trans ?_
 rw[zwO (Lx t) l [],List.nil_append];rfl
def Pd(o ws:List Ai):List Ai:=ws.foldl (λo w=>DY wk w o) o
def GB(ss:List AD)(t:Int):List Ai:=ss.foldl (λo s=>Pd o (GG s.aq t)) []
def Gm(n:Nat)(o:List Ai):Prop:=Gp o/\(o.length<=n/\ ∀w∈o,w.ab.length<=2000000/\w.bf.length<=2000000)
theorem Gm.ins{n:Nat}{o:List Ai}{w:Ai}(h:Gm n o)(hw:w.ab.length<=2000000/\w.bf.length<=2000000):Gm (n+1) (DY wk w o):=by
 refine⟨lA h.1,?_,λx hx=> ?_⟩
 ·have:=YR (key:=wk) (x:=w) o;have:=h.2.1;omega
 ·rcases(YS (key:=wk) h.1 x).1 hx with rfl|⟨hx,_⟩
  ·exact hw
  ·exact h.2.2 x hx
theorem Gm.put{ws:List Ai}:∀{n:Nat} {o:List Ai},Gm n o->(∀w∈ws,w.ab.length<=2000000/\w.bf.length<=2000000)->Gm (n+ws.length) (Pd o ws):=by
 induction ws with
 |nil=>intro n o h _;exact h
 |cons w ws ih=>intro n o h hw;have:=ih (Gm.ins h (hw w (by simp))) λx hx=>hw x (by simp[hx]);rw[AE,show n+(ws.length+1)=n+1+ws.length by omega];exact this
theorem rK{l:List Ap}{t:Int}(h:DO 24 l):(GG l t).length<=24/\ ∀w∈GG l t,w.ab.length<=2000000/\w.bf.length<=2000000:=by
 constructor
 ·have:=List.length_filterMap_le (Lx t) l;have:=h.2.1;unfold GG;omega
 ·intro w hw;obtain⟨c,hc,e⟩:=List.mem_filterMap.1 hw;obtain⟨_,_,h1,_,h2⟩:=h.2.2 c hc;unfold Lx at e;split at e
  ·cases e;refine⟨h1,?_⟩;show(IP t c.au.reverse).1.length<=_;rw[rG];cases hq:c.au.reverse.find? (λv=>decide (v.ak<=t))with
   |none=>simp
   |some v=>exact h2 v (List.mem_reverse.1 (List.mem_of_find?_eq_some hq))
  ·cases e
theorem zDe{t:Int}:∀(ss:List AD) (n:Nat) (o:List Ai),Gm n o->(∀s∈ss,WS s)->Gm (n+24*ss.length) (ss.foldl (λo s=>Pd o (GG s.aq t)) o)
 | [],n,o,h,_=>h
 |s::ss,n,o,h,hs=>by
  obtain⟨h1,h2⟩:=rK (t:=t) (hs s (by simp)).cells;have h3:=Gm.put h h2;have h4:Gm (n+24) (Pd o (GG s.aq t)):=⟨h3.1,by have:=h3.2.1;omega,h3.2.2⟩
  have:=zDe (t:=t) ss (n+24) _ h4 λx hx=>hs x (by simp[hx]);rw[AE,List.foldl_cons,show n+24*(ss.length+1)=n+24+24*ss.length by omega];exact this
def tV(ss:List AD)(t:Int):List Ai × Bool:=if Hz (GB ss t)=true then(GB ss t,true)else([],false)
theorem zzK{ss:List AD}{t:Int}(hl:ss.length<=1000)(h:∀s∈ss,WS s):Rk (GB ss t):=by have:=zDe (t:=t) ss 0 [] ⟨List.Pairwise.nil,by simp,λw hw=>by simp at hw⟩ h;exact⟨by have:=this.2.1;unfold GB;omega,this.2.2⟩
theorem zDS{ss:List AD}{t:Int}(hl:ss.length<=1000)(h:∀s∈ss,WS s):iY ss t=some (tV ss t):=by
 unfold iY;refine((DF (xs:=ss) (body:=λz:Int × List Ai=>Tn ss t z.1 z.2) (λi z=>(i,z)) (λo s=>Pd o (GG s.aq t)) (λo=>eH o) (λi o=>Gm (24*i) o)
  (λi hi o ho=>by
   have hs:=(h _ (Au hi)).cells;obtain⟨h1,h2⟩:=rK (t:=t) hs;have hp:=Gm.put ho h2;refine⟨?_,hp.1,by have:=hp.2.1;omega,hp.2.2⟩;show Tn ss t (i:Int) o=_;unfold Tn;rw[if_pos (by simpa using hi),Av hi,Aa,zGQ hs,Aa];refine((DF (xs:=GG (ss[i]).aq t) (body:=λz:Int × List Ai=>Ti (i:Int) (GG (ss[i]).aq t) z.1 z.2) (λj z=>(j,z)) (λo w=>DY wk w o) (λo=>zC (i:Int) o) (λj o=>Gm (24*i+j) o)
    (λj hj o ho=>by refine⟨?_,Gm.ins ho (h2 _ (Au hj))⟩;show Ti (i:Int) _ (j:Int) o=_;unfold Ti;rw[if_pos (by simpa using hj),Av hj,Aa,zG2 (by have:=ho.2.1;omega) ho.1,Aa,CH (by omega)])
    (λo _=>by show Ti (i:Int) _ ((GG (ss[i]).aq t).length:Int) o=_;unfold Ti;rw[if_neg (by simp)]) (s:=o) ho).1).trans ?_
   unfold zC;rw[CH (by omega)];rfl)
  (λo _=>by show Tn ss t (ss.length:Int) o=_;unfold Tn;rw[if_neg (by simp)]) (s:=[]) ⟨List.Pairwise.nil,by simp,λw hw=>by simp at hw⟩).1).trans ?_
 show eH (GB ss t)=_;unfold eH tV;rw[zCT (zzK hl h),Aa];cases Hz (GB ss t)<;>rfl
theorem zOR{w:BA}{t:Int}(h:Zk w):gR w t=some (GB (Fo w) t):=by
 have hl:=h.1;unfold gR;have:=((DF (xs:=w.aw) (body:=λz:List Ai × Int=>Tq w t z.1 z.2) (λi z=>(z,i)) (λo g=>Pd o (GG (Jk g).aq t)) (λo=>some o) (λi o=>Gm (24*i) o)
  (λi hi o ho=>by
   have hg:=h.2 _ (Au hi);have hs:=hg.ws.cells;obtain⟨h1,h2⟩:=rK (t:=t) hs;have hp:=Gm.put ho h2;refine⟨?_,hp.1,by have:=hp.2.1;omega,hp.2.2⟩;show Tq w t o (i:Int)=_;unfold Tq;rw[if_pos (by simpa using hi),Av hi,Aa,zJl hg,Aa,zPF hs,Aa];refine((DF (xs:=GG (Jk w.aw[i]).aq t) (body:=λz:Int × List Ai=>TB (i:Int) (GG (Jk w.aw[i]).aq t) z.1 z.2) (λj z=>(j,z)) (λo w=>DY wk w o) (λo=>w6 (i:Int) o) (λj o=>Gm (24*i+j) o)
    (λj hj o ho=>by refine⟨?_,Gm.ins ho (h2 _ (Au hj))⟩;show TB (i:Int) _ (j:Int) o=_;unfold TB;rw[if_pos (by simpa using hj),Av hj,Aa,zOX (by have:=ho.2.1;omega) ho.1,Aa,CH (by omega)])
    (λo _=>by show TB (i:Int) _ ((GG (Jk w.aw[i]).aq t).length:Int) o=_;unfold TB;rw[if_neg (by simp)]) (s:=o) ho).1).trans ?_
   unfold w6;rw[CH (by omega)];rfl)
  (λo _=>by show Tq w t o (w.aw.length:Int)=_;unfold Tq;rw[if_neg (by simp)]) (s:=[]) ⟨List.Pairwise.nil,by simp,λw hw=>by simp at hw⟩).1)
 refine this.trans ?_;unfold GB Fo;rw[List.foldl_map]
end
end Go.Proofs.YtlmjpjceiefpoaaGreat

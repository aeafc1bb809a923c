/- Parts of a proof, joined: NC, NGA, N14, N15, N16, NQ, NX, NS, NSP, NSQ, NSR, NSS, NST, NKR, NSU, NSV, NSW, NSX, NSY, NSZ, NTA. -/
import Derived.Test.YtlmjpjceiefpoaaGreatDoorL10
set_option linter.unusedVariables false
set_option linter.unusedSimpArgs false
namespace Go.Proofs.YtlmjpjceiefpoaaGreatDoor
section
open Go.RowKit Go.Sort
set_option maxRecDepth 100000
theorem Ud{S α β σ:Type}{xs:List α}{body:S->Option (S ⊕ Option β)}(mk:Nat->σ->S)(g:σ->α->Option σ)(b:Option β)(fin:σ->Option β)(I:Nat->σ->Prop)
  (hs:∀i acc (h:i<xs.length),I i acc->body (mk i acc)=some (match g acc xs[i]with|some a=> .inl (mk (i+1) a)|none=> .inr b)/\ ∀a,g acc xs[i]=some a->I (i+1) a)
  (he:∀acc,I xs.length acc->body (mk xs.length acc)=some (.inr (fin acc))) (a0:σ) (h0:I 0 a0):Ao body (mk 0 a0)=match xs.foldlM g a0 with|some a=>fin a|none=>b:=by
 have key:∀n q acc,q+n=xs.length->I q acc->Ao body (mk q acc)=match(xs.drop q).foldlM g acc with|some a=>fin a|none=>b:=by
  intro n
  induction n with
  |zero=>
   intro q acc hq hi;have e:q=xs.length:=by omega
   subst e;rw[DN,he acc hi,List.drop_length];rfl
  |succ n ih=>
   intro q acc hq hi;have hl:q<xs.length:=by omega
   obtain⟨h1,h2⟩:=hs q acc hl hi;rw[DN,h1,By hl,List.foldlM_cons];cases hg:g acc xs[q]with
   |none=>rfl
   |some a=>exact ih (q+1) a (by omega) (h2 a hg)
 have:=key xs.length 0 a0 (by omega) h0;rwa[List.drop_zero]at this
theorem zMf{α β:Type}{xs:List α}{body:Int->Option (Int ⊕ Option β)}(p:α->Bool)(fin:Int->Option β)
  (hs:∀i (h:i<xs.length),body (i:Nat)=some (if p xs[i]=true then .inl ((i+1:Nat):Int)else .inr (fin (i:Nat)))) (he:body (xs.length:Nat)=some (.inr (fin (xs.length:Nat)))):Ao body 0=fin (AS p xs:Nat):=by
 have key:∀n q,q+n=xs.length->Ao body (q:Nat)=fin ((q+AS p (xs.drop q):Nat):Int):=by
  intro n
  induction n with
  |zero=>
   intro q hq;have e:q=xs.length:=by omega
   subst e;rw[DN,he,List.drop_length];rfl
  |succ n ih=>
   intro q hq;have hl:q<xs.length:=by omega
   rw[DN,hs q hl,By hl];by_cases hp:p xs[q]=true
   ·rw[if_pos hp];have e:AS p (xs[q]::xs.drop (q+1))=AS p (xs.drop (q+1))+1:=by unfold AS;rw[List.takeWhile_cons,if_pos hp];rfl
    rw[e,show q+(AS p (xs.drop (q+1))+1)=(q+1)+AS p (xs.drop (q+1)) by omega];exact ih (q+1) (by omega)
   ·rw[if_neg hp];have e:AS p (xs[q]::xs.drop (q+1))=0:=by unfold AS;rw[List.takeWhile_cons,if_neg hp];rfl
    rw[e];rfl
 have:=key xs.length 0 (by omega);rw[List.drop_zero,Nat.zero_add]at this;exact this
def Q0(v:CD):Bool:=Ax v.ak 1 100000&&Fk v.aw v.bm
def Qa(a b:CD):Bool:=decide (a.ak<b.ak)
def Li(l:List CD):Bool:=Ax (l.length:Int) 1 16&&(l.all Q0&&EB Qa l)
def IC(c:Ap):Bool:=CM c.ab&&Li c.au
def Wf(a b:Ap):Bool:=bl a.ab b.ab
def I8(l:List Ap):Bool:=decide ((l.length:Int)<=24)&&(l.all IC&&EB Wf l)
def Z6(c:Ap):Prop:=c.ab.length<=2000000/\c.au.length<=2000000/\ ∀v∈c.au,v.aw.length<=2000000
def sE(l:List Ap):Prop:=l.length<=2000000/\ ∀c∈l,Z6 c
theorem zKy{c:Ap}(h:Z6 c):iK c=some (Li c.au):=by
 obtain⟨_,h2,h3⟩:=h;unfold iK Li;rw[qL (xs:=c.au) (body:=λs:Int=>QB c s) Q0 Qa false (xQ c) (λh0=> ?_) (λi hi=> ?_) (by simp[QB])]
 ·unfold xQ;simp only[Fx,Aa];cases c.au.all Q0<;>cases EB Qa c.au<;>cases Ax (c.au.length:Int) 1 16<;>rfl
 ·show QB c 0=_;unfold QB OT Q0;rw[if_pos (by simpa using h0),show(0:Int)=((0:Nat):Int)from rfl,As h0,Aa];simp only[Fx,Aa,kC (h3 _ (Au h0))];cases Ax c.au[0].ak 1 100000<;>cases Fk c.au[0].aw c.au[0].bm<;>rfl
 ·show QB c ((i+1:Nat):Int)=_;unfold QB OT Q0 Qa;rw[if_pos (by simp;omega),As hi,Aa];simp only[Fx,Aa,kC (h3 _ (Au hi))];rw[JN (by omega) (by omega),Nat.add_sub_cancel,As (show i<c.au.length by omega),BA hi (by omega)];have e:decide (c.au[i+1].ak<=c.au[i].ak)= !decide (c.au[i].ak<c.au[i+1].ak):=by rw[<-decide_not,decide_eq_decide];omega
  simp only[Aa,e];rw[show decide (((i+1:Nat):Int)>0)=true by simp];cases Ax c.au[i+1].ak 1 100000<;>cases Fk c.au[i+1].aw c.au[i+1].bm<;>cases decide (c.au[i].ak<c.au[i+1].ak)<;>rfl
theorem zFi{c:Ap}(h:Z6 c):iJ c=some (IC c):=by
 obtain⟨h1,h2,h3⟩:=h;unfold iJ IC Li;rw[qL (xs:=c.au) (body:=λs:Int=>QG c s) (λv=>Ax v.ak 1 100000&&(CM c.ab&&Fk v.aw v.bm)) Qa false (xH c) (λh0=> ?_) (λi hi=> ?_) (by simp[QG])]
 ·unfold xH;simp only[Lq h1,Fl,Aa];cases hk:CM c.ab with
  |true=>
   have e:(c.au.all λv=>Ax v.ak 1 100000&&(true&&Fk v.aw v.bm))=c.au.all Q0:=by congr 1
   rw[e];cases c.au.all Q0<;>cases EB Qa c.au<;>cases Ax (c.au.length:Int) 1 16<;>rfl
  |false=>split<;>simp
 ·show QG c 0=_;unfold QG OS;rw[if_pos (by simpa using h0),show(0:Int)=((0:Nat):Int)from rfl,As h0,Aa];simp only[Fl,Aa,pJ h1 (h3 _ (Au h0))];cases Ax c.au[0].ak 1 100000<;>cases(CM c.ab&&Fk c.au[0].aw c.au[0].bm)<;>rfl
 ·show QG c ((i+1:Nat):Int)=_;unfold QG OS Qa;rw[if_pos (by simp;omega),As hi,Aa];simp only[Fl,Aa,pJ h1 (h3 _ (Au hi))];rw[JN (by omega) (by omega),Nat.add_sub_cancel,As (show i<c.au.length by omega),BA hi (by omega)];have e:decide (c.au[i].ak>=c.au[i+1].ak)= !decide (c.au[i].ak<c.au[i+1].ak):=by rw[<-decide_not,decide_eq_decide];omega
  simp only[Aa,e];rw[show decide (((i+1:Nat):Int)>0)=true by simp];cases Ax c.au[i+1].ak 1 100000<;>cases(CM c.ab&&Fk c.au[i+1].aw c.au[i+1].bm)<;>cases decide (c.au[i].ak<c.au[i+1].ak)<;>rfl
theorem zCJ{α β:Type}{r:β->β->Bool}{f:α->β}:∀l:List α,EB r (l.map f)=EB (λa b=>r (f a) (f b)) l
 | []=>rfl
 | [_]=>rfl
 |x::y::l=>by show(r (f x) (f y)&&EB r ((y::l).map f))=_;rw[zCJ (y::l)];rfl
theorem zLe{l:List Ap}(h:sE l):dO l=some (I8 l):=by
 have hn:=h.1;unfold dO;rw[show((0:Int),([]:List Am))=(λ(i:Nat) (a:List Am)=>((i:Int),a)) 0 []from rfl,Ud (xs:=l) (body:=λs:Int × List Am=>Xd l s.1 s.2) (λ(i:Nat) (a:List Am)=>((i:Int),a)) (λa c=>if Li c.au=true then some (a++ [c.ab])else none) (some false) (bR l) (λi a=>a.length=i) (λi acc hi ha=> ?_) (λacc ha=>by simp[Xd]) [] rfl]
 ·have hf:∀(xs:List Ap) (a:List Am),xs.foldlM (m:=Option) (λa c=>if Li c.au=true then some (a++ [c.ab])else none) a=if(xs.all λc=>Li c.au)=true then some (a++xs.map (·.ab))else none:=by
   intro xs
   induction xs with
   |nil=>intro a;simp
   |cons x xs ih=>
    intro a;rw[List.foldlM_cons];by_cases hx:Li x.au=true
    ·rw[if_pos hx];show xs.foldlM _ (a++ [x.ab])=_;rw[ih];simp[hx]
    ·rw[if_neg hx];simp[hx]
  rw[hf];unfold I8;by_cases hg:(l.all λc=>Li c.au)=true
  ·rw[if_pos hg];show bR l _=_;unfold bR;rw[List.nil_append,zrA (by simpa using hn) (λk hk=>by obtain⟨c,hc,rfl⟩:=List.mem_map.1 hk;exact(h.2 c hc).1),zsb,zCJ];have e:(l.map (·.ab)).all CM=l.all IC:=by
    rw[List.all_map,Bool.eq_iff_iff];simp only[Ba]at hg ⊢;refine⟨λq c hc=> ?_,λq c hc=> ?_⟩
    ·unfold IC;rw[hg c hc,Bool.and_true];exact q c hc
    ·have:=q c hc;unfold IC at this;simp only[Ac]at this;exact this.1
   rw[e];show(if decide ((l.length:Int)<=24)=true then(some (l.all IC&&EB Wf l)).bind λv2=>some v2 else some false)=_;cases decide ((l.length:Int)<=24)<;>rfl
  ·rw[if_neg hg];have e:l.all IC=false:=by
    cases hc:l.all IC
    ·rfl
    ·refine absurd ?_ hg;simp only[Ba]at hc ⊢;intro c q;have:=hc c q;unfold IC at this;simp only[Ac]at this;exact this.2
   rw[e];simp
 ·have ha:acc.length=i:=ha;refine⟨?_,λa e=> ?_⟩
  ·show Xd l (i:Int) acc=_;unfold Xd;rw[if_pos (by simpa using hi),As hi,Aa,zKy (h.2 _ (Au hi)),Aa,BA hi (by omega)];cases Li l[i].au with
   |false=>rfl
   |true=>rw[if_neg (by simp),AI (by simp;omega)];rfl
  ·split at e
   ·cases e;simp[ha]
   ·cases e
theorem zKu{l:List Ap}(h:sE l):gX l=some (I8 l):=by
 have hn:=h.1;unfold gX I8;rw[qL (xs:=l) (body:=λs:Int=>QD l s) IC Wf false (xO l) (λh0=> ?_) (λi hi=> ?_) (by simp[QD])]
 ·unfold xO;cases l.all IC<;>cases EB Wf l<;>simp
 ·show QD l 0=_;unfold QD;rw[if_pos (by simpa using h0),show(0:Int)=((0:Nat):Int)from rfl,As h0,Aa,zFi (h.2 _ (Au h0)),Aa];cases IC l[0]<;>rfl
 ·show QD l ((i+1:Nat):Int)=_;unfold QD Wf;rw[if_pos (by simp;omega),As hi,Aa,zFi (h.2 _ (Au hi)),Aa];rw[JN (by omega) (by omega),Nat.add_sub_cancel,As (show i<l.length by omega),BA hi (by omega)];simp only[Aa];rw[show decide (((i+1:Nat):Int)>0)=true by simp];rw[show bl l[i].ab l[i+1].ab=Op.bytesLess l[i].ab l[i+1].ab from rfl];cases IC l[i+1]<;>cases Op.bytesLess l[i].ab l[i+1].ab<;>rfl
end
section
open Go.RowKit
set_option maxRecDepth 100000
set_option maxHeartbeats 1000000
theorem qE(a:Int):OS a=some (Ax a 1 100000):=rfl
theorem qC(a:Int):OT a=some (Ax a 1 100000):=rfl
theorem qS(a:Int):XX a=some (Ax a 1 60):=rfl
theorem lA(a:Int):TH a=some (Ax a 0 100000):=rfl
theorem Yw(a:Int):Nb a=some (Ax a 0 100000):=rfl
theorem zJW(c:DB):zH c=some (Ax c.gn (-5) 5):=rfl
def Md(ks:List Am):Prop:=ks.length<=2000000/\ ∀k∈ks,k.length<=2000000
def Fz(ks:List Am):Bool:=ks.all CM&&Ma ks
theorem zwc{ks:List Am}(h:Md ks):Na ks=some (Fz ks):=zrA h.1 h.2
theorem zxm{ks:List Am}{body:Int->Option (Int ⊕ Option Bool)}{fin:Option Bool}(h:Md ks)(h0:∀(hi:0<ks.length),body 0=some (if CM ks[0]=true then .inl 1 else .inr (some false)))
  (hs:∀(i:Nat) (hi:i<ks.length) (hp:0<i),body i=some (if(CM ks[i]&&Op.bytesLess ks[i-1] ks[i])=true then .inl ((i+1:Nat):Int)else .inr (some false))) (he:body ks.length=some (.inr fin)):Ao body 0=if Fz ks=true then fin else some false:=by
 rw[FZ (n:=ks.length) (λi=>CM ((ks[i]?).getD [])&&HD ks i) false fin ?_ he,Uj ks CM (HD ks) _ λi hi=>by simp[hi]]
 ·rfl
 ·intro i hi;by_cases hz:i=0
  ·subst hz;show body 0=_;rw[h0 hi];simp[hi,HD]
  ·have CO:i-1<ks.length:=by omega
   have hb:(i==0)=false:=by simpa using hz
   rw[hs i hi (Nat.pos_of_ne_zero hz)];simp only[AL hi,AL CO,Be,HD,hb,Bool.false_or]
theorem zLs{ks:List Am}(h:Md ks):fD ks=some (Fz ks&&decide ((ks.length:Int)<4)):=by
 have hn:=h.1;unfold fD;rw[zxm (body:=λs:Int=>SF ks s) (fin:=vY ks) h (λhi=>by
  simp only[SF,hi,decide_true,if_true,show((0:Int)<(ks.length:Int))from by omega,show Ak ks 0=some ks[0]from As hi,Aa,Lq (h.2 _ (Au hi))];cases CM ks[0]<;>rfl) (λi hi hp=>by
  have CO:i-1<ks.length:=by omega
  have PY:(i:Int)>0:=by omega
  simp only[SF,Int.ofNat_lt,hi,PY,decide_true,if_true,As hi,Aa,Lq (h.2 _ (Au hi)),BA hi (by omega:ks.length<=_),JN hp (by omega:i<=2000000),As CO];cases CM ks[i]<;>cases Op.bytesLess ks[i-1] ks[i]<;>rfl) (by
  show SF ks ks.length=_;unfold SF;rw[if_neg (by simp)])]
 unfold vY;cases Fz ks<;>rfl
theorem zLG{ks:List Am}(h:Md ks):gO ks=some (Fz ks&&decide ((ks.length:Int)<=8)):=by
 have hn:=h.1;unfold gO;rw[zxm (body:=λs:Int=>Tc ks s) (fin:=xL ks) h (λhi=>by
  simp only[Tc,hi,decide_true,if_true,show((0:Int)<(ks.length:Int))from by omega,show Ak ks 0=some ks[0]from As hi,Aa,Lq (h.2 _ (Au hi))];cases CM ks[0]<;>rfl) (λi hi hp=>by
  have CO:i-1<ks.length:=by omega
  have PY:(i:Int)>0:=by omega
  simp only[Tc,Int.ofNat_lt,hi,PY,decide_true,if_true,As hi,Aa,Lq (h.2 _ (Au hi)),BA hi (by omega:ks.length<=_),JN hp (by omega:i<=2000000),As CO];cases CM ks[i]<;>cases Op.bytesLess ks[i-1] ks[i]<;>rfl) (by
  show Tc ks ks.length=_;unfold Tc;rw[if_neg (by simp)])]
 unfold xL;cases Fz ks<;>rfl
theorem zKP{ks:List Am}(h:Md ks):eC ks=some (Fz ks&&decide ((ks.length:Int)<4)):=by unfold eC;rw[zwc h];cases decide ((ks.length:Int)<4)<;>cases Fz ks<;>rfl
structure Yp(r:BH):Prop where
 reads:Md r.bc
 writes:UA r.af
def G9(r:BH):Bool:=
 if r.ah=1 then Ax r.bd 1 60&&(Ax r.ak 1 100000&&(Ax r.bu 0 3&&(Fz r.bc&&(decide ((r.bc.length:Int)<=8)&&(Hw r.af&&(decide ((r.af.length:Int)<=8)&&(decide ((r.bc.length:Int)+(r.af.length:Int)>0)&& !r.dj)))))))
 else(r.bu==0)&&(((r.bc.length:Int)==0)&&(((r.af.length:Int)==0)&&(
  if r.ah=2\/r.ah=3 then Ax r.bd 1 60&&(if r.dj=true then Ax r.ak 1 100000 else r.ak==0)
  else if r.ah=4 then(r.bd==0)&&(Ax r.ak 1 100000&& !r.dj)else false)))
theorem zNC{r:BH}(h:Yp r):fA r=some (G9 r):=by
 have h1:=h.reads.1;have h2:=h.writes.1;have w:IntKind.i64.wrap ((r.bc.length:Int)+(r.af.length:Int))=(r.bc.length:Int)+(r.af.length:Int):=Cf (by omega) (by omega);have hj:∀b:Bool,r.ah≠1->(b=true↔(r.ah=2\/r.ah=3))->cX r b=some (G9 r):=by
  intro b k hb;unfold cX G9;rw[if_neg k];cases b with
  |true=>rw[if_pos rfl,if_pos (show r.ah=2\/r.ah=3 from hb.1 rfl)];simp only[qS,qC,Aa];cases(r.bu==0)<;>cases((r.bc.length:Int)==0)<;>cases((r.af.length:Int)==0)<;>cases Ax r.bd 1 60<;>cases r.dj<;>simp
  |false=>
   rw[if_neg (by simp),if_neg (show¬(r.ah=2\/r.ah=3)from λe=>by have:=hb.2 e;cases this)];by_cases k4:r.ah=4
   ·rw[if_pos (by simpa using k4),if_pos k4];simp only[qC,Aa];cases(r.bu==0)<;>cases((r.bc.length:Int)==0)<;>cases((r.af.length:Int)==0)<;>cases(r.bd==0)<;>simp
   ·rw[if_neg (by simpa using k4),if_neg k4];cases(r.bu==0)<;>cases((r.bc.length:Int)==0)<;>cases((r.af.length:Int)==0)<;>rfl
 unfold fA;by_cases k1:r.ah=1
 ·rw[if_pos (by simpa using k1)];unfold G9;rw[if_pos k1];simp only[qS,qC,Fx,Aa,zwc h.reads,zCI h.writes,w];cases Ax r.bd 1 60<;>cases Ax r.ak 1 100000<;>cases Ax r.bu 0 3<;>cases decide ((r.bc.length:Int)<=8)<;>cases Fz r.bc<;>cases decide ((r.af.length:Int)<=8)<;>cases Hw r.af<;>simp
 ·rw[if_neg (by simpa using k1)];by_cases k2:r.ah=2
  ·rw[if_pos (by simpa using k2)];exact hj _ k1 (by simp[k2])
  ·rw[if_neg (by simpa using k2)];exact hj _ k1 (by simp[k2])
theorem zOI{r:BH}(h:Yp r):eU r=some (G9 r):=by
 have h1:=h.reads.1;have h2:=h.writes.1;have w:IntKind.i64.wrap ((r.bc.length:Int)+(r.af.length:Int))=(r.bc.length:Int)+(r.af.length:Int):=Cf (by omega) (by omega);have hj:∀b:Bool,r.ah≠1->r.bu=0->(r.bc.length:Int)=0->(r.af.length:Int)=0->(b=true↔(r.ah=2\/r.ah=3))->cO r b=some (G9 r):=by
  intro b k e1 e2 e3 hb;unfold cO G9;rw[if_neg k,show(r.bu==0)=true by simpa using e1,show((r.bc.length:Int)==0)=true by simpa using e2,show((r.af.length:Int)==0)=true by simpa using e3];cases b with
  |true=>rw[if_pos rfl,if_pos (show r.ah=2\/r.ah=3 from hb.1 rfl)];simp only[Fl,qE,Aa];cases Ax r.bd 1 60<;>cases r.dj<;>simp
  |false=>
   rw[if_neg (by simp),if_neg (show¬(r.ah=2\/r.ah=3)from λe=>by have:=hb.2 e;cases this)];by_cases k4:r.ah=4
   ·rw[if_pos (by simpa using k4),if_pos k4];simp only[qE,Aa];cases(r.bd==0)<;>simp
   ·rw[if_neg (by simpa using k4),if_neg k4];rfl
 have Cs:Ax (r.af.length:Int) 0 8=decide ((r.af.length:Int)<=8):=by unfold Ax;rw[show decide ((r.af.length:Int)>=0)=true by simp];rfl
 unfold eU zY;by_cases k1:r.ah=1
 ·rw[if_neg (by simp[k1]),if_pos (by simpa using k1)];unfold G9;rw[if_pos k1];simp only[Fl,qE,Aa,zLG h.reads,zCO h.writes,w,Cs];cases Ax r.bd 1 60<;>cases Ax r.ak 1 100000<;>cases Ax r.bu 0 3<;>cases decide ((r.bc.length:Int)<=8)<;>cases Fz r.bc<;>cases decide ((r.af.length:Int)<=8)<;>cases Hw r.af<;>simp
 ·by_cases hz:r.bu=0/\(r.bc.length:Int)=0/\(r.af.length:Int)=0
  ·obtain⟨e1,e2,e3⟩:=hz;rw[if_neg (by rw[w];simp[e1];omega),if_neg (by simpa using k1)];by_cases k2:r.ah=2
   ·rw[if_pos (by simpa using k2),hj _ k1 e1 e2 e3 (by simp[k2]),Aa]
   ·rw[if_neg (by simpa using k2),hj _ k1 e1 e2 e3 (by simp[k2]),Aa]
  ·have hc:((r.ah !=1)&&((r.bu !=0)||decide (IntKind.i64.wrap ((r.bc.length:Int)+(r.af.length:Int))>0)))=true:=by
    rw[w];by_cases e1:r.bu=0
    ·have:(r.bc.length:Int)+(r.af.length:Int)>0:=by
      rcases Classical.em ((r.bc.length:Int)=0)with e2|e2
      ·have e3: ¬(r.af.length:Int)=0:=λe3=>hz ⟨e1,e2,e3⟩;omega
      ·omega
     simp[k1,this]
    ·simp[k1,e1]
   rw[if_pos hc,Aa];unfold G9;rw[if_neg k1];by_cases e1:r.bu=0
   ·by_cases e2:(r.bc.length:Int)=0
    ·have e3:((r.af.length:Int)==0)=false:=by simpa using λe3=>hz ⟨e1,e2,by simpa using e3⟩
     rw[e3];simp
    ·have e2:((r.bc.length:Int)==0)=false:=by simpa using e2
     rw[e2];simp
   ·have e1:(r.bu==0)=false:=by simpa using e1
    rw[e1];rfl
structure Kr(t:An)(n:Am)(x:A5):Prop where
 at_:Ak t.aj (CC (λy:A5=>y.ae==n) t.aj)=some x
 name:x.ae=n
 c0:1<=x.dk
 c1:x.dk<=(t.bf.length:Int)-1
def Kv(r:A4)(c:Int):Am:=(r.ay[c.toNat]?).getD []
def Qc(t:An)(n:Am)(c:Int)(r:A4):Am:=head t n++ [47]++Kv r c++ [47]++Kv r 0
structure Ov(t:An)(r:A4):Prop where
 len:r.ay.length=t.bf.length
 small:Small r.ay
theorem YQ{t:An}{r:A4}(hr:Ov t r){c:Int}(h0:0<=c)(h1:c<=(t.bf.length:Int)-1):Ak r.ay c=some (Kv r c)/\(Kv r c).length<=2000000:=by
 obtain⟨y,e,hm,e2⟩:=rG (xs:=r.ay) h0 (by have:=hr.len;omega);have hv:Kv r c=y:=by simp[Kv,e2]
 rw[hv];exact⟨e,hr.small.each y hm⟩
theorem qH{t:An}{n:Am}{x:A5}{r:A4}(ht:t.ae.length<=2000000)(hn:n.length<=2000000)(hx:Kr t n x)(hr:Ov t r):Tw t x r=some (Qc t n x.dk r):=by
 obtain⟨g1,l1⟩:=YQ hr (c:=x.dk) (by have:=hx.c0;omega) hx.c1;obtain⟨g2,l2⟩:=YQ hr (c:=0) (by omega) (by have:=hx.c0;have:=hx.c1;omega);have e:=hx.name;subst e;unfold Tw Qc;rw[AI (by simp only[head,Av,AH,List.length_nil];omega),AI (by simp only[head,Av,AH,List.length_nil];omega),AI (by simp only[head,Av,AH,List.length_nil];omega),g1,Aa,
  AI (by simp only[head,Av,AH,List.length_nil];omega),AI (by simp only[head,Av,AH,List.length_nil];omega),g2,Aa,
  AI (by simp only[head,Av,AH,List.length_nil];omega)]
 rfl
theorem pT{t:An}{n:Am}{x:A5}{r:A4}(hS:Eu t)(hn:n.length<=2000000)(hx:Kr t n x)(hr:Ov t r):OJ t n r=some (Qc t n x.dk r):=by
 obtain⟨g1,l1⟩:=YQ hr (c:=x.dk) (by have:=hx.c0;omega) hx.c1;obtain⟨g2,l2⟩:=YQ hr (c:=0) (by omega) (by have:=hx.c0;have:=hx.c1;omega);have ht:=hS.name;have hi:M6 t n=some x:=by unfold M6;rw[Wb hS,Aa,hx.at_];rfl
 unfold OJ Qc;rw[zOj ht hn,Aa,hi,Aa,g1,Aa,AI (by simp only[head,Av,AH,List.length_nil];omega),AI (by simp only[head,Av,AH,List.length_nil];omega),g2,Aa,AI (by simp only[head,Av,AH,List.length_nil];omega)]
def wanted(t:An)(n:Am)(x:A5)(l:List Ah):List Am:=(Em t l).map (Qc t n x.dk)
def holds(t:An)(n:Am)(x:A5)(lv:Int)(l:List Ah):Bool:=
 if lv==0 then((rI t n l).length:Int)==0
 else(((less (rI t n l) (wanted t n x l)).length:Int)==0)&&((lv==1)||(((less (wanted t n x l) (rI t n l)).length:Int)==0))
def Fm(t:An)(n:Am):Bool:=Es t&&decide (CC (λx:A5=>x.ae==n) t.aj>=0)
def zRf(t:An)(n:Am)(l:List Ah):Bool:=Fm t n&&Nl l
theorem zNX{t:An}{n:Am}(hS:Eu t):gS t n=some (Fm t n):=by unfold gS Fm;rw[zKQ hS,Aa,Wb hS,Aa];cases Es t<;>simp
theorem rJ{l:List Ah}(h:Nl l=true):∀w∈l,Qg w:=by intro w hw;unfold Nl Hw at h;simp only[Ac]at h;have h1:=Ba.1 h.1.2.1 w hw;unfold Mg CM Fk Kp at h1;simp only[Ac,AR]at h1;have h2:=D8.1 h1.1.1;have h3:=h1.2.1.1;exact⟨by omega,by omega⟩
theorem zwy{s:Am}{k:Int}(h:Fj s k=true):(s.length:Int)<=k/\ ∀b∈s,b≠47:=by unfold Fj at h;simp only[Ac]at h;refine⟨(D8.1 h.2).2,λb hb e=> ?_⟩;have h1:=Ba.1 h.1 b hb;subst e;exact absurd h1 (by decide)
theorem zrN{s:Am}(h:Fj s 1=true):s.length=1:=by unfold Fj at h;simp only[Ac]at h;have:=D8.1 h.2;omega
theorem zCB{t:An}(h:Es t=true):Fj t.ae 1=true:=by unfold Es at h;simp only[Ac]at h;exact h.1.1.1
theorem zFp{t:An}(h:Es t=true){x:A5}(hx:x∈t.aj):Fj x.ae 1=true/\Ax x.dk 1 ((t.bf.length:Int)-1)=true:=by unfold Es at h;simp only[Ac]at h;obtain⟨i,hi,rfl⟩:=List.mem_iff_getElem.1 hx;have h1:=Ba.1 h.2 i (List.mem_range.2 hi);unfold Jn at h1;simp only[Ac,AL hi,Be]at h1;exact⟨h1.1.1.1,h1.1.1.2⟩
theorem zM4{t:An}{n:Am}(h:Fm t n=true):∃x,Kr t n x/\t.ae.length=1/\n.length=1/\ ∀b∈head t n,b≠47:=by
 unfold Fm at h;simp only[Ac,AR]at h;obtain⟨x,h1,h2,h3⟩:=zz8 h.2;have h4:=zFp h.1 h3;have h5:=D8.1 h4.2;have h6:x.ae=n:=by simpa using h2
 have h7:=zCB h.1;have h8:=h6▸h4.1;refine⟨x,⟨h1,h6,h5.1,h5.2⟩,zrN h7,zrN h8,λb hb=> ?_⟩;unfold head at hb;simp only[Ae,List.mem_singleton]at hb;rcases hb with(hb|hb)|hb
 ·exact(zwy h7).2 b hb
 ·subst hb;decide
 ·exact(zwy h8).2 b hb
theorem zK8{t:An}(h:Es t=true):El (λx:A5=>x.ae) t.aj:=by
 unfold Es at h;simp only[Ac]at h;have h1:=h.2;have h2:Ma (t.aj.map (·.ae))=true:=by
  unfold Ma;rw[List.length_map,Ba];intro i hi;have h3:=Ba.1 h1 i hi;unfold Jn at h3;simp only[Ac]at h3;have BT:i<t.aj.length:=List.mem_range.1 hi;have e:∀j:Nat,(((t.aj.map (·.ae))[j]?).getD [])=((t.aj[j]?).getD ⟨[],0,0⟩).ae:=by intro j;rw[List.getElem?_map];cases t.aj[j]?<;>rfl
  unfold HD;rw[e,e];exact h3.2
 rw[zsb,zud]at h2;exact(zwv (r:=λa b:A5=>bl a.ae b.ae) λa b c p q=>IE p q).1 h2
theorem zFS{t:An}{x:A5}(h:Es t=true)(hx:x∈t.aj):Kr t x.ae x:=by
 have h1:CC (λy:A5=>y.ae==x.ae) t.aj>=0:=by have:=Uh (λy:A5=>y.ae==x.ae) t.aj;rw[show(t.aj.any λy=>y.ae==x.ae)=true from List.any_eq_true.2 ⟨x,hx,by simp⟩]at this;exact of_decide_eq_true this
 obtain⟨y,h2,h3,h4⟩:=zz8 h1;have h5:y=x:=(zK8 h).jm h4 hx (by simpa using h3);subst h5;have h6:=D8.1 (zFp h hx).2;exact⟨h2,rfl,h6.1,h6.2⟩
theorem pZ{t:An}(h:Es t=true):2<=t.bf.length/\t.bf.length<=4/\t.aj.length<=3:=by unfold Es at h;simp only[Ac,AR]at h;have h1:=D8.1 h.1.1.2.2;have h2:=h.1.2;omega
theorem NG{t:An}{r:A4}(hs:Small r.ay)(h:FK t r=true):Ov t r:=by unfold FK at h;simp only[Ac,Ay]at h;exact⟨by have:=h.1;omega,hs⟩
theorem ZJ{t:An}{r:A4}(hc:1<=t.bf.length)(h:Ov t r):Ak r.ay 0=some (Kv r 0):=(YQ h (by omega) (by omega)).1
theorem NF{t:An}{r:A4}(hc:1<=t.bf.length)(h:Ov t r):r.ay≠ []:=by intro e;have:=h.len;rw[e]at this;simp at this;omega
def UC(a:Cv):Prop:=Small a.cu.ay/\Small a.c9.ay
def Q2(t:An)(a:Cv):Bool:=
 if a.ah=1 then(a.cu.ay.length:Int)==0&&FK t a.c9 else
 if a.ah=2 then FK t a.cu&&(a.c9.ay.length:Int)==0 else
 if a.ah=3 then FK t a.cu&&(FK t a.c9&&Kv a.cu 0==Kv a.c9 0)else false
theorem zGz{t:An}{a:Cv}(hc:1<=t.bf.length)(h:UC a):fL t a=some (Q2 t a):=by
 unfold fL Q2;by_cases h1:a.ah=1
 ·rw[if_pos (by simpa using h1),if_pos h1,TY h.2,Aa];cases((a.cu.ay.length:Int)==0)<;>simp
 rw[if_neg (by simpa using h1),if_neg h1];by_cases h2:a.ah=2
 ·rw[if_pos (by simpa using h2),if_pos h2,TY h.1,Aa];cases((a.c9.ay.length:Int)==0)<;>simp
 rw[if_neg (by simpa using h2),if_neg h2];by_cases h3:a.ah=3
 ·rw[if_pos (by simpa using h3),if_pos h3,TY h.1,TY h.2,Aa,Aa];cases e1:FK t a.cu with
  |false=>simp
  |true=>
   cases e2:FK t a.c9 with
   |false=>simp
   |true=>simp[ZJ hc (NG h.1 e1),ZJ hc (NG h.2 e2)]
 rw[if_neg (by simpa using h3),if_neg h3]
theorem zGm{t:An}{a:Cv}(hc:1<=t.bf.length)(h:UC a):aX t a=some (Q2 t a):=by
 unfold aX Q2;by_cases h1:a.ah=1
 ·rw[if_pos (by simpa using h1),if_pos h1,TW h.2,Aa];cases((a.cu.ay.length:Int)==0)<;>simp
 rw[if_neg (by simpa using h1),if_neg h1];by_cases h2:a.ah=2
 ·rw[if_pos (by simpa using h2),if_pos h2,TW h.1,Aa]
 rw[if_neg (by simpa using h2),if_neg h2];by_cases h3:a.ah=3
 ·rw[if_pos (by simpa using h3),if_pos h3,TW h.1,TW h.2,Aa,Aa];cases e1:FK t a.cu with
  |false=>simp
  |true=>
   cases e2:FK t a.c9 with
   |false=>simp
   |true=>simp[ZJ hc (NG h.1 e1),ZJ hc (NG h.2 e2)]
 rw[if_neg (by simpa using h3),if_neg h3]
structure Ww(t:An)(a:Cv):Prop where
 old:a.ah≠1->Ov t a.cu
 new:a.ah≠2->Ov t a.c9
 kind:a.ah=1\/a.ah=2\/a.ah=3
 same:a.ah=3->Kv a.cu 0=Kv a.c9 0
theorem zPP{t:An}{a:Cv}(h:UC a)(hg:Q2 t a=true):Ww t a:=by
 unfold Q2 at hg;by_cases h1:a.ah=1
 ·rw[if_pos h1,Ac]at hg;exact⟨λk=>absurd h1 k,λ_=>NG h.2 hg.2, .inl h1,λk=>by omega⟩
 rw[if_neg h1]at hg;by_cases h2:a.ah=2
 ·rw[if_pos h2,Ac]at hg;exact⟨λ_=>NG h.1 hg.1,λk=>absurd h2 k, .inr (.inl h2),λk=>by omega⟩
 rw[if_neg h2]at hg;by_cases h3:a.ah=3
 ·rw[if_pos h3,Ac,Ac,Ay]at hg;exact⟨λ_=>NG h.1 hg.1,λ_=>NG h.2 hg.2.1, .inr (.inr h3),λ_=>hg.2.2⟩
 rw[if_neg h3]at hg;cases hg
def Qm(t:An)(a:Cv)(x:A5):Am:=if a.ah=1 then []else Qc t x.ae x.dk a.cu
def OF(t:An)(a:Cv)(x:A5):Am:=if a.ah=2 then []else Qc t x.ae x.dk a.c9
def Q5(k n:Am)(x:A5):List AK:=if k≠ []/\k≠n/\x.bg>=1 then [⟨3,k,[],0⟩]else []
def MX(n:Am)(x:A5):List AK:=if n≠ []/\x.bg>=2 then [⟨2,n,[],0⟩]else []
def Pc(t:An)(a:Cv)(x:A5):List AK:=Q5 (Qm t a x) (OF t a x) x++MX (OF t a x) x
def Nu(t:An)(a:Cv):List AK:=
 if a.ah=1 then [⟨6,(D1 t a.c9).ab,[],0⟩,⟨2,(D1 t a.c9).ab,(D1 t a.c9).aw,0⟩]else
 if a.ah=2 then [⟨7,(D1 t a.cu).ab,(D1 t a.cu).aw,0⟩,⟨3,(D1 t a.cu).ab,[],0⟩]else
 [⟨7,(D1 t a.cu).ab,(D1 t a.cu).aw,0⟩,⟨2,(D1 t a.cu).ab,(D1 t a.c9).aw,0⟩]
def ZZ(t:An)(a:Cv):List AK:=t.aj.foldl (λo x=>o++Pc t a x) (Nu t a)
theorem zLi(k n:Am)(x:A5):(Q5 k n x).length<=1:=by unfold Q5;split<;>simp
theorem zOh(n:Am)(x:A5):(MX n x).length<=1:=by unfold MX;split<;>simp
theorem zt9(t:An)(a:Cv)(x:A5):(Pc t a x).length<=2:=by unfold Pc;have:=zLi (Qm t a x) (OF t a x) x;have:=zOh (OF t a x) x;rw[Av];omega
theorem zr8(t:An)(a:Cv):(Nu t a).length=2:=by unfold Nu;split<;>(try split)<;>rfl
theorem ZD{o p:List AK}(h:o.length<=5000000)(hn:p.length<=5000000):((o.length:Int)+(p.length:Int))*48<=140737488355328/\(o.length:Int)+(p.length:Int)<=140737488355328:=by omega
theorem zIF{t:An}{a:Cv}{x:A5}(ht:t.ae.length<=2000000)(hn:x.ae.length<=2000000)(hx:Kr t x.ae x)(ha:Ww t a):XL t x a=some (Pc t a x):=by
 have e1:XL t x a=cR t x a (Qm t a x):=by
  unfold XL Qm;by_cases h1:a.ah=1
  ·rw[if_neg (by simp[h1]),if_pos h1];rfl
  ·rw[if_pos (by simpa using h1),if_neg h1,qH ht hn hx (ha.old h1)];rfl
 have e2:∀k,cR t x a k=Xr x k (OF t a x):=by
  intro k;unfold cR OF;by_cases h1:a.ah=2
  ·rw[if_neg (by simp[h1]),if_pos h1]
  ·rw[if_pos (by simpa using h1),if_neg h1,qH ht hn hx (ha.new h1)];rfl
 have e3:∀(n:Am) (o:List AK),o.length<=5->dN x n o=some (o++MX n x):=by
  intro n o ho;unfold dN MX;by_cases h1:n≠ []/\x.bg>=2
  ·rw[if_pos (by simpa using h1),if_pos h1,AI (ZD (by omega) (by simp))]
  ·rw[if_neg (by simpa using h1),if_neg h1,AG]
 have e4:∀(k n:Am),Xr x k n=some (Q5 k n x++MX n x):=by
  intro k n;unfold Xr Q5;by_cases h1:k≠ []/\k≠n/\x.bg>=1
  ·rw[if_pos (by simpa[and_assoc]using h1),if_pos h1,AI (ZD (by simp) (by simp)),e3 _ _ (by simp)]
  ·rw[if_neg (by simpa[and_assoc]using h1),if_neg h1,e3 _ _ (by simp)]
 rw[e1,e2,e4];rfl
theorem zG1{t:An}{a:Cv}(hc:1<=t.bf.length)(ht:t.ae.length<=2000000)(ha:Ww t a):fH t a=some (Nu t a):=by
 unfold fH Nu;by_cases h1:a.ah=1
 ·have hr:=ha.new (by omega);rw[if_pos (by simpa using h1),if_pos h1,YC ht hr.small (NF hc hr)];rfl
 have hr:=ha.old h1;rw[if_neg (by simpa using h1),if_neg h1,YC ht hr.small (NF hc hr),Aa];by_cases h2:a.ah=2
 ·rw[if_pos (by simpa using h2),if_pos h2]
 have hr:=ha.new h2;rw[if_neg (by simpa using h2),if_neg h2,YC ht hr.small (NF hc hr)];rfl
theorem zP5{t:An}{a:Cv}(hS:Eu t)(hg:Es t=true)(ha:Ww t a):iM t a=some (ZZ t a):=by
 have hc:=pZ hg;unfold iM;rw[zG1 (by omega) hS.name ha,Aa];have hl:=zr8 t a;exact(Eh (xs:=t.aj) (body:=λs:Int × List AK=>Te t a s.1 s.2) (λi (o:List AK)=>(i,o)) (λo x=>o++Pc t a x) (λo=>some o) (λi o=>o.length<=2+2*i)
  (λi hi o hI=>by have hI:o.length<=2+2*i:=hI;have hw:=BA hi (by omega);have hk:=zt9 t a t.aj[i];have hm:=Au hi;refine⟨?_,by show List.length _<=_;rw[Av];omega⟩;show Te t a i o=_;unfold Te;rw[if_pos (by simpa using hi),As hi,Aa,zIF hS.name (hS.idx _ hm) (zFS hg hm) ha,Aa,AI (ZD (by omega) (by omega)),hw])
  (λo _=>by show Te t a t.aj.length o=_;unfold Te;rw[if_neg (by simp)]) (s:=Nu t a) (by omega)).1
theorem Ou{k:Int}{w:Ah}{o:List AK}(h:o.length<=5000000):LS k w o=some ((),o++ [⟨k,w.ab,w.aw,0⟩]):=by unfold LS;rw[AI (ZD h (by simp))]
theorem zPI{t:An}{a:Cv}(hS:Eu t)(hg:Es t=true)(ha:Ww t a):bK t a=some (ZZ t a):=by
 have hc:=pZ hg;have hl:=zr8 t a;have h7:∀(i:Int) (x:A5) (n:Am) (o:List AK),o.length<=100->Sc i x n o=some (.inl (IntKind.i64.wrap (i+1),o++MX n x)):=by
  intro i x n o ho;unfold Sc MX yG;by_cases h1:n=[]
  ·rw[if_neg (by simp[h1]),if_neg (by simp[h1]),AG]
  rw[if_pos (by simpa using h1),Aa];by_cases h2:x.bg>=2
  ·rw[if_pos (by simpa using h2),if_pos ⟨h1,h2⟩,Ou (by omega)];rfl
  ·rw[if_neg (by simpa using h2),if_neg (λh=>h2 h.2),AG]
 have h6:∀(i:Int) (x:A5) (k n:Am) (o:List AK),o.length<=99->Qw i o x k n=some (.inl (IntKind.i64.wrap (i+1),o++(Q5 k n x++MX n x))):=by
  intro i x k n o ho;unfold Qw Q5 zJ;by_cases h1:k=[]
  ·rw[if_neg (by simp[h1]),if_neg (by simp[h1]),h7 _ _ _ _ (by omega)];rfl
  rw[if_pos (by simpa using h1)];by_cases h2:k=n
  ·rw[if_neg (by simp[h2]),if_neg (by simp[h2]),h7 _ _ _ _ (by omega)];rfl
  rw[if_pos (by simpa using h2),Aa];by_cases h3:x.bg>=1
  ·rw[if_pos (by simpa using h3),if_pos ⟨h1,h2,h3⟩,Ou (by omega),Aa,h7 _ _ _ _ (by rw[Av,AO];omega),List.append_assoc]
  ·rw[if_neg (by simpa using h3),if_neg (λh=>h3 h.2.2),h7 _ _ _ _ (by omega)];rfl
 have KT:∀o:List AK,o.length=2->R8 t a o=some (t.aj.foldl (λo x=>o++Pc t a x) o):=by
  intro o ho;unfold R8;exact(Eh (xs:=t.aj) (body:=λs:Int × List AK=>Sb t a s.1 s.2) (λi (o:List AK)=>(i,o)) (λo x=>o++Pc t a x) (λo=>some o) (λi o=>o.length<=2+2*i)
   (λi hi o hI=>by
    have hI:o.length<=2+2*i:=hI;have hw:=BA hi (by omega);have hk:=zt9 t a t.aj[i];have hm:=Au hi;have hx:=zFS hg hm;refine⟨?_,by show List.length _<=_;rw[Av];omega⟩;show Sb t a i o=_;unfold Sb;rw[if_pos (by simpa using hi),As hi,Aa];have e1:(if(a.ah !=1)=true then(OJ t t.aj[i].ae a.cu).bind λv20=>some (Sum.inl v20)else some (Sum.inl ([]:Ab)):Option (Ab ⊕ Option ((Int × List AK) ⊕ Option (List AK))))=some (.inl (Qm t a t.aj[i])):=by
     unfold Qm;by_cases h1:a.ah=1
     ·rw[if_neg (by simp[h1]),if_pos h1]
     ·rw[if_pos (by simpa using h1),if_neg h1,pT hS (hS.idx _ hm) hx (ha.old h1)];rfl
    rw[e1];show uA t a i o t.aj[i] (Qm t a t.aj[i])=_;unfold uA;have e2:∀k,(if(a.ah !=2)=true then(OJ t t.aj[i].ae a.c9).bind λv19=>Qw i o t.aj[i] k v19 else Qw i o t.aj[i] k ([]:Ab))=Qw i o t.aj[i] k (OF t a t.aj[i]):=by
     intro k;unfold OF;by_cases h1:a.ah=2
     ·rw[if_neg (by simp[h1]),if_pos h1]
     ·rw[if_pos (by simpa using h1),if_neg h1,pT hS (hS.idx _ hm) hx (ha.new h1)];rfl
    rw[e2,h6 _ _ _ _ _ (by omega),hw];rfl)
   (λo _=>by show Sb t a t.aj.length o=_;unfold Sb;rw[if_neg (by simp)]) (s:=o) (by omega)).1
 have hn:t.ae.length<=2000000:=hS.name;unfold bK ZZ Nu;rcases ha.kind with h1|h1|h1
 ·have hr:=ha.new (by omega);rw[if_neg (by simp[h1]),if_pos h1];show Qv t a [] [] false []=_;unfold Qv;rw[if_pos (by simp[h1]),Uv hn hr.small (NF (by omega) hr),Aa];unfold W4;rw[if_pos (by simp[h1]),Ou (by simp),Aa,Ou (by simp),Aa,KT _ (by simp)];rfl
 ·have hr:=ha.old (by omega);rw[if_pos (by simp[h1]),if_neg (by omega),if_pos h1,Uv hn hr.small (NF (by omega) hr),Aa,Ou (by simp),Aa];show Qv t a (D1 t a.cu).ab (D1 t a.cu).aw (D1 t a.cu).bm _=_;unfold Qv;rw[if_neg (by simp[h1])];unfold W4;rw[if_neg (by simp[h1]),if_pos (by simp[h1]),Ou (by simp),Aa,KT _ (by simp)];rfl
 ·have hr:=ha.old (by omega);have D6:=ha.new (by omega);have hk:(D1 t a.cu).ab=(D1 t a.c9).ab:=by
   have:=ha.same h1;unfold Kv at this;unfold D1;rw[List.head?_eq_getElem?,List.head?_eq_getElem?];exact congrArg (λz=>t.ae++ [47]++z) this
  rw[if_pos (by simp[h1]),if_neg (by omega),if_neg (by omega),Uv hn hr.small (NF (by omega) hr),Aa,Ou (by simp),Aa];show Qv t a (D1 t a.cu).ab (D1 t a.cu).aw (D1 t a.cu).bm _=_;unfold Qv;rw[if_pos (by simp[h1]),Uv hn D6.small (NF (by omega) D6),Aa];unfold W4;rw[if_neg (by simp[h1]),if_neg (by simp[h1]),if_pos (by simp[h1]),Ou (by simp),Aa,KT _ (by simp),hk];rfl
theorem Nf{σ α:Type}{body:σ->Option (σ ⊕ Option α)}{s:σ}{o:Option α}(h:body s=some (.inr o)):Ao body s=o:=by rw[DN,h]
theorem T1{σ α:Type}{body:σ->Option (σ ⊕ Option α)}{s s':σ}(h:body s=some (.inl s')):Ao body s=Ao body s':=by rw[DN,h]
theorem szL{α:Type}{xs:List α}{body:Int × Int->Option ((Int × Int) ⊕ Option Int)}(tot:α->Nat){a:Int}(h0:0<=a)(h1:a<=1048576)
  (hs:∀x∈xs,∀b:Int,0<=b->b<=1048576-> ∃v,v<=b/\(0<=v->(tot x:Int)=b-v)/\ ∀i:Nat,xs[i]?=some x->body (b,(i:Int))=some (if v<0 then .inr (some (-1))else .inl (v,((i+1:Nat):Int))))
  (he:∀b,body (b,(xs.length:Int))=some (.inr (some b))):∃v,Ao body (a,0)=some v/\v<=a/\(0<=v->((xs.map tot).sum:Int)=a-v):=by
 have key:∀(n q:Nat) (a:Int),q+n=xs.length->0<=a->a<=1048576-> ∃v,Ao body (a,(q:Int))=some v/\v<=a/\(0<=v->(((xs.drop q).map tot).sum:Int)=a-v):=by
  intro n
  induction n with
  |zero=>
   intro q a hq h0 h1;refine⟨a,?_,by omega,λ_=> ?_⟩
   ·rw[DN,show(q:Int)=(xs.length:Int) by omega,he]
   ·rw[List.drop_eq_nil_of_le (by omega)];simp
  |succ n ih=>
   intro q a hq h0 h1;have AP:q<xs.length:=by omega
   obtain⟨v,e1,e2,e3⟩:=hs xs[q] (Au AP) a h0 h1;rw[DN,e3 q (AL AP)];by_cases hv:v<0
   ·rw[if_pos hv];exact⟨-1,rfl,by omega,by omega⟩
   ·rw[if_neg hv];obtain⟨u,f1,f2,f3⟩:=ih (q+1) v (by omega) (by omega) (by omega);refine⟨u,f1,by omega,λhu=> ?_⟩;have g1:=f3 hu;have g2:=e2 (by omega);rw[By AP,List.map_cons,List.sum_cons];omega
 have:=key xs.length 0 a (by omega) h0 h1;simpa using this
theorem CQ{α:Type}{tot:α->Nat}:∀{xs:List α} {x:α},x∈xs->tot x<=(xs.map tot).sum
 |y::xs,x,h=>by
  rw[List.map_cons,List.sum_cons];rcases Ag.1 h with rfl|h
  ·omega
  ·have:=CQ (tot:=tot) h;omega
theorem zC2{α:Type}(xs:List α)(n:Nat):(xs.map λ_=>n).sum=n*xs.length:=by
 induction xs with
 |nil=>simp
 |cons x xs ih=>rw[List.map_cons,List.sum_cons,ih,AH,Nat.mul_add];omega
abbrev wk(w:Ah):Am:=w.ab
def zQI(got:List Cd)(k:Am):Am × Bool × Bool:=match got.find? (λg=>g.ab==k)with|some g=>(g.aw,g.dz,true)|none=>([],false,false)
def zRe(ws:List Ah)(got:List Cd)(k:Am):Am × Bool × Bool:=match ws.find? (λw=>w.ab==k)with|some w=>(w.aw, !w.bm,true)|none=>zQI got k
theorem kO{α:Type}(lt:α->Bool)(x:α)(l:List α):AS lt (x::l)=if lt x=true then AS lt l+1 else 0:=by unfold AS;rw[List.takeWhile_cons];split<;>rfl
theorem zw0{x:Ah}{l:List Ah}(h:He (x::l)):(∀y∈l,bl x.ab y.ab=true)/\He l:=by unfold He El at h;rw[List.pairwise_cons]at h;exact h
theorem zIp{l:List Ah}{k:Am}(h:∀y∈l,bl k y.ab=true):l.find? (λw=>w.ab==k)=none:=by rw[List.find?_eq_none];intro y hy;have:=HT (h y hy);simpa using λe=>this e.symm
theorem zzm{k:Am}:∀{l:List Ah},He l->l.find? (λw=>w.ab==k)=match l[HH l k]? with|some w=>if w.ab=k then some w else none|none=>none
 | [],_=>by simp
 |x::l,h=>by
  obtain⟨h1,h2⟩:=zw0 h;have ih:=zzm (k:=k) h2;rw[HH,kO,List.find?_cons];by_cases hb:bl x.ab k=true
  ·have BU:(x.ab==k)=false:=by simpa using HT hb
   rw[if_pos hb,BU,List.getElem?_cons_succ];exact ih
  ·rw[if_neg hb,List.getElem?_cons_zero];by_cases he:x.ab=k
   ·rw[show(x.ab==k)=true by simpa using he];simp[he]
   ·rw[show(x.ab==k)=false by simpa using he];simp only[he,if_false];have hk:bl k x.ab=true:=O0 (by simpa using hb) he;exact zIp λy hy=>IE hk (h1 y hy)
theorem zNW{l:List Ah}{k:Am}(hl:l.length<=2000000)(hr:He l):∃i:Int,(QF l k=some (i,true)/\ ∃w,Ak l i=some w/\l.find? (λw=>w.ab==k)=some w)\/(QF l k=some (i,false)/\l.find? (λw=>w.ab==k)=none):=by
 refine⟨(HH l k:Nat),?_⟩;rw[zPn hl hr,zzm hr];by_cases hp:HH l k<l.length
 ·rw[AL hp];by_cases hk:(l[HH l k]).ab=k
  ·left;simp only[hk,decide_true,if_true];exact⟨trivial,_,As hp,rfl⟩
  ·right;simp only[hk,decide_false,if_false];exact⟨trivial,trivial⟩
 ·rw[List.getElem?_eq_none (by omega)];right;exact⟨rfl,rfl⟩
def EN(k:Am)(w:Ah):Bool:=bl w.ab k||w.ab==k
def Oz(l:List Ah)(w:Ah)(q:Nat):List Ah:=
 match(if q=0 then none else l[q-1]?)with
 |some y=>if y.ab=w.ab then l.set (q-1) w else l.take q++ [w]++l.drop q
 |none=>l.take q++ [w]++l.drop q
theorem zI7{w:Am}{l:List Ah}(h:∀y∈l,bl w y.ab=true):AS (EN w) l=0:=by
 cases l with
 |nil=>rfl
 |cons y l=>rw[kO,if_neg];have h1:=h y (by simp);have h2:=O4 h1;have h3:=HT h1;unfold EN;rw[h2];simpa using λe=>h3 e.symm
theorem zFu{w:Ah}:∀{l:List Ah},He l->Oz l w (AS (EN w.ab) l)=DQ wk w l
 | [],_=>by simp[Oz,DQ,AS]
 |x::l,h=>by
  obtain⟨h1,h2⟩:=zw0 h;have ih:=zFu (w:=w) h2;rw[kO,DQ];by_cases ha:bl (wk w) (wk x)=true
  ·have hl:EN w.ab x=false:=by
    have h3:=O4 ha;have h4:=HT ha;unfold EN;rw[h3];simpa using λe=>h4 e.symm
   rw[if_pos ha,hl,if_neg (by simp)];simp[Oz]
  rw[if_neg ha];by_cases he:wk w=wk x
  ·have hl:EN w.ab x=true:=by unfold EN;rw[show(x.ab==w.ab)=true by simpa using he.symm];simp
   have hz:AS (EN w.ab) l=0:=zI7 λy hy=>by rw[show w.ab=x.ab from he];exact h1 y hy
   rw[if_pos he,hl,if_pos rfl,hz];simp[Oz,show x.ab=w.ab from he.symm]
  ·have hb:bl x.ab w.ab=true:=O0 (by simpa using ha) he;have hl:EN w.ab x=true:=by unfold EN;rw[hb];rfl
   rw[if_neg he,hl,if_pos rfl,<-ih];have hle:=L5 (EN w.ab) l;generalize AS (EN w.ab) l=q at hle;unfold Oz;rw[if_neg (by omega),Nat.add_sub_cancel];cases q with
   |zero=>simp only[List.getElem?_cons_zero,if_true];rw[if_neg (λe=>he e.symm)];simp
   |succ q=>
    rw[if_neg (by omega),Nat.add_sub_cancel,List.getElem?_cons_succ,AL (by omega)];simp only;split
    ·simp
    ·simp
theorem zIy{w:Am}:∀{l:List Ah},He l-> ∀(j:Nat) (hj:j<l.length),AS (EN w) l<=j->EN w l[j]=false
 | [],_,j,hj,_=>by simp at hj
 |x::l,h,j,hj,hq=>by
  obtain⟨h1,h2⟩:=zw0 h;rw[kO]at hq;by_cases hx:EN w x=true
  ·rw[if_pos hx]at hq;cases j with
   |zero=>omega
   |succ j=>exact zIy h2 j (by simpa using hj) (by omega)
  ·have Dz:EN w x=false:=by simpa using hx
   cases j with
   |zero=>exact Dz
   |succ j=>have hm:l[j]'(by simpa using hj)∈l:=Au _;have h3:=h1 _ hm;show EN w (l[j]'(by simpa using hj))=false;unfold EN at Dz ⊢;simp only[Bool.or_eq_false_iff,beq_eq_false_iff_ne]at Dz ⊢;have h4:bl w x.ab=true:=O0 Dz.1 Dz.2;have h5:=IE h4 h3;exact⟨O4 h5,λe=>HT h5 e.symm⟩
theorem JP{i:Nat}(h0:0<i)(h:i<=2000000):IntKind.i64.wrap ((i:Int)-1)=((i-1:Nat):Int):=by rw[Cf (by omega) (by omega)];omega
theorem zOE{l:List Ah}{w:Ah}(hl:l.length<=2000000)(hr:He l):iE l w=some (DQ wk w l):=by
 have hk:∀q:Nat,q<=l.length->dU l w (q:Int)=some (Oz l w q):=by
  intro q hq;have r1:0<=(q:Int)/\(q:Int)<=(l.length:Int)/\(l.length:Int)<=(l.length:Int):=by omega
  have K3:(AU l (q:Int) (l.length:Int))=l.drop q:=by rw[show(l.length:Int)=((l.length:Nat):Int)from rfl,RX,List.take_length]
  have Kc:(AU l 0 (q:Int))=l.take q:=RU l q;have r2:((([]:List Ah).length:Int)+((l.drop q).length:Int))*40<=140737488355328/\(([]:List Ah).length:Int)+((l.drop q).length:Int)<=140737488355328:=by rw[List.length_nil,Bn];omega
  have r3:0<=(0:Int)/\(0:Int)<=(q:Int)/\(q:Int)<=(l.length:Int):=by omega
  have r4:((([]:List Ah).length:Int)+((l.take q).length:Int))*40<=140737488355328/\(([]:List Ah).length:Int)+((l.take q).length:Int)<=140737488355328:=by rw[List.length_nil,AE];omega
  have r5:(((l.take q).length:Int)+(([w]:List Ah).length:Int))*40<=140737488355328/\((l.take q).length:Int)+(([w]:List Ah).length:Int)<=140737488355328:=by rw[AO,AE];omega
  have r6:(((l.take q++ [w]).length:Int)+((l.drop q).length:Int))*40<=140737488355328/\((l.take q++ [w]).length:Int)+((l.drop q).length:Int)<=140737488355328:=by rw[Av,AO,AE,Bn];omega
  have r7:((([]:List Ah).length:Int)+((l).length:Int))*40<=140737488355328/\(([]:List Ah).length:Int)+((l).length:Int)<=140737488355328:=by rw[List.length_nil];omega
  unfold dU Oz;by_cases h0:q=0
  ·subst h0;rw[if_neg (by simp),if_pos rfl];rw[AI r1,K3,AI r2,AI r3,Kc,AI r4,AI r5,AI r6]
  ·have Hn:q-1<l.length:=by omega
   rw[if_pos (by simp;omega),if_neg h0,JP (by omega) (by omega),As Hn,Aa,AL Hn];simp only;by_cases he:(l[q-1]).ab=w.ab
   ·rw[if_pos (by simpa using he),if_pos he,AI r7,Aa];rfl
   ·rw[if_neg (by simpa using he),if_neg he];rw[AI r1,K3,AI r2,AI r3,Kc,AI r4,AI r5,AI r6]
 have hle:=L5 (EN w.ab) l;have key:∀n j:Nat,j=AS (EN w.ab) l+n->j<=l.length->Ao (λs:Int=>QE l w s) (j:Int)=some (Oz l w (AS (EN w.ab) l)):=by
  intro n
  induction n with
  |zero=>
   intro j hj LG;have J8:j=AS (EN w.ab) l:=by omega
   refine(Nf ?_).trans (hk _ hle);show QE l w (j:Int)=_;unfold QE;by_cases h0:j=0
   ·rw[if_neg (by simp[h0]),J8]
   ·have Hn:j-1<l.length:=by omega
    have ht:=Q3 (lt:=EN w.ab) (l:=l) (i:=j-1) (by omega);rw[if_pos (by simp;omega),JP (by omega) (by omega),As Hn,Aa,if_neg,J8];unfold EN at ht;have ht:(bl l[j-1].ab w.ab||l[j-1].ab==w.ab)=true:=ht;show¬(!(bl l[j-1].ab w.ab||l[j-1].ab==w.ab))=true;rw[ht];simp
  |succ n ih=>
   intro j hj LG;have Hn:j-1<l.length:=by omega
   have ht:=zIy (w:=w.ab) hr (j-1) Hn (by omega);have e:QE l w (j:Int)=some (.inl ((j-1:Nat):Int)):=by unfold QE;rw[if_pos (by simp;omega),JP (by omega) (by omega),As Hn,Aa,if_pos];have ht:(bl l[j-1].ab w.ab||l[j-1].ab==w.ab)=false:=ht;show(!(bl l[j-1].ab w.ab||l[j-1].ab==w.ab))=true;rw[ht];rfl
   rw[T1 (body:=λs:Int=>QE l w s) e];exact ih (j-1) (by omega) (by omega)
 unfold iE;rw[key (l.length-AS (EN w.ab) l) l.length (by omega) (AB _),zFu hr]
section
variable {α:Type} {key:α->Int}
def Gc(key:α->Int)(x:α):List α->List α
 | []=> [x]
 |y::l=>if key x<key y then x::y::l else y::Gc key x l
def DP(key:α->Int)(l:List α):Prop:=l.Pairwise λa b=>key a<key b
def Bp(key:α->Int)(t:Int)(y:α):Bool:=decide (key y<t)
theorem X7(lt:α->Bool)(x:α)(l:List α):AS lt (x::l)=if lt x=true then AS lt l+1 else 0:=by unfold AS;rw[List.takeWhile_cons];split<;>rfl
theorem qB{x:α}:∀{l:List α},(∀y∈l,key y≠key x)->Gc key x l=l.take (AS (Bp key (key x)) l)++ [x]++l.drop (AS (Bp key (key x)) l)
 | [],_=>by simp[Gc,AS]
 |y::l,h=>by
  have ih:=qB (x:=x) (l:=l) λz hz=>h z (by simp[hz]);have hy:=h y (by simp);rw[X7,Gc];by_cases hb:key x<key y
  ·have e:Bp key (key x) y=false:=by unfold Bp;simp;omega
   rw[if_pos hb,e];simp
  ·have e:Bp key (key x) y=true:=by unfold Bp;simp;omega
   rw[if_neg hb,e,if_pos rfl,ih];simp
theorem kW{x z:α}:∀{l:List α},z∈Gc key x l↔z=x\/z∈l
 | []=>by simp[Gc]
 |y::l=>by
  rw[Gc];split
  ·simp
  ·rw[Ag,kW,Ag];constructor
   ·rintro(h|h|h)<;>simp[h]
   ·rintro(h|h|h)<;>simp[h]
theorem zFX{x:α}:∀(l:List α),(Gc key x l).length=l.length+1
 | []=>rfl
 |y::l=>by
  rw[Gc];split
  ·rfl
  ·simp[zFX l]
theorem DP.ins{x:α}:∀{l:List α},DP key l->(∀y∈l,key y≠key x)->DP key (Gc key x l)
 | [],_,_=>by simp[Gc,DP]
 |y::l,h,hx=>by
  obtain⟨h1,h2⟩:=List.pairwise_cons.1 h;rw[Gc];split
  ·rename_i hb;refine List.pairwise_cons.2 ⟨λz hz=> ?_,h⟩;rcases Ag.1 hz with rfl|hz
   ·exact hb
   ·have:=h1 z hz;omega
  ·rename_i hb;refine List.pairwise_cons.2 ⟨λz hz=> ?_,DP.ins h2 λz hz=>hx z (by simp[hz])⟩;have hy:=hx y (by simp);rcases kW.1 hz with rfl|hz
   ·omega
   ·exact h1 z hz
theorem DP.filter{l:List α}(h:DP key l)(p:α->Bool):DP key (l.filter p):=List.Pairwise.filter p h
theorem DP.tail{x:α}{l:List α}(h:DP key (x::l)):DP key l:=(List.pairwise_cons.1 h).2
theorem DP.mono{l:List α}(h:DP key l){i j:Nat}(hj:j<l.length)(hi:i<j):key l[i]<key l[j]:=List.pairwise_iff_getElem.1 h i j (by omega) hj hi
theorem jN{t:Int}:∀{l:List α},DP key l->l.find? (λy=>key y==t)=match l[AS (Bp key t) l]? with|some y=>if key y=t then some y else none|none=>none
 | [],_=>by simp
 |x::l,h=>by
  obtain⟨h1,h2⟩:=List.pairwise_cons.1 h;have ih:=jN (t:=t) h2;rw[X7,List.find?_cons];by_cases hb:key x<t
  ·have e:Bp key t x=true:=by unfold Bp;simpa using hb
   have BU:(key x==t)=false:=by simp;omega
   rw[e,if_pos rfl,BU,List.getElem?_cons_succ];exact ih
  ·have e:Bp key t x=false:=by unfold Bp;simpa using hb
   rw[e,if_neg (by simp),List.getElem?_cons_zero];by_cases he:key x=t
   ·rw[show(key x==t)=true by simpa using he];simp[he]
   ·rw[show(key x==t)=false by simpa using he];simp only[he,if_false];rw[List.find?_eq_none];intro y hy;have:=h1 y hy;simp;omega
theorem zzI{t:Int}{l:List α}(h:DP key l):∀i j (hj:j<l.length) (hi:i<=j),Bp key t l[j]=true->Bp key t l[i]=true:=by
 intro i j hj hi AP;unfold Bp at AP ⊢;simp only[AR]at AP ⊢;by_cases he:i=j
 ·subst he;exact AP
 ·have:=h.mono hj (show i<j by omega);omega
theorem zzR{t:Int}:∀{l:List α} {i:Nat},DP key l->(hi:i<l.length)->key l[i]=t->l.take i++l.drop (i+1)=l.filter λy=>decide (key y≠t)
 | [],i,_,hi,_=>by simp at hi
 |x::l,0,h,_,hk=>by
  obtain⟨h1,_⟩:=List.pairwise_cons.1 h;have hk:key x=t:=hk;rw[List.filter_cons,if_neg (by simpa using hk)];symm;rw[List.filter_eq_self.2]
  ·rfl
  ·intro y hy;have:=h1 y hy;simp;omega
 |x::l,i+1,h,hi,hk=>by
  obtain⟨h1,h2⟩:=List.pairwise_cons.1 h;have BT:i<l.length:=by simpa using hi
  have Ce:key l[i]=t:=by simpa using hk
  have hx:key x≠t:=by have:=h1 _ (Au BT);omega
  rw[List.filter_cons,if_pos (by simpa using hx),List.take_succ_cons,List.cons_append,List.drop_succ_cons,zzR h2 BT Ce]
theorem zvo{t:Int}{l:List α}(h:l.find? (λy=>key y==t)=none):(l.filter λy=>decide (key y≠t))=l:=by rw[List.filter_eq_self];intro y hy;have:=List.find?_eq_none.1 h y hy;simpa using this
theorem DP.len{lo hi:Int}:∀{l:List α},DP key l->(∀y∈l,lo<=key y/\key y<=hi)->(l.length:Int)<=max 0 (hi-lo+1)
 | [],_,_=>by simp;omega
 |x::l,h,hb=>by
  obtain⟨h1,h2⟩:=List.pairwise_cons.1 h;have hx:=hb x (by simp);have:=DP.len (lo:=key x+1) (hi:=hi) h2 λy hy=>⟨by have:=h1 y hy;omega,(hb y (by simp[hy])).2⟩
  rw[AH];omega
end
abbrev ck(c:Ap):Am:=c.ab
abbrev Om(l:List Ap):Prop:=El ck l
def HN(l:List Ap)(k:Am):Option Ap:=l.find? λc=>c.ab==k
def sQ(c:Ap):Int:=match c.au.getLast? with|some v=>v.ak|none=>0
def Lx(l:List Ap)(k:Am):Int:=match HN l k with|some c=>sQ c|none=>0
def NI(l:List Ap)(k:Am):List CD:=match HN l k with|some c=>c.au|none=> []
def M3(l:List Ap)(k:Am)(v:CD):List Ap:=DQ ck ⟨k,NI l k++ [v]⟩ l
def Jj(t:Int)(l:List Ap)(w:Ah):Option (List Ap):=if t<=Lx l w.ab then none else some (M3 l w.ab ⟨t,w.aw,w.bm⟩)
def MZ(t:Int)(l:List Ap)(ws:List Ah):Option (List Ap):=ws.foldlM (Jj t) l
def OE(l:List Ap)(ws:List Ah)(t:Int):Option (List Ap):=match MZ t l ws with|some o=>if I8 o=true then some o else none|none=>none
abbrev hk(h:AX):Int:=h.bd
abbrev tk(t:Cp):Int:=t.bd
def Gv(s:AF)(t:Int):Option AX:=s.al.find? λh=>hk h==t
def Jf(s:AF)(t:Int):Option Cp:=s.bz.find? λh=>tk h==t
def JV(ws:List Ah)(k:Am):Bool:=ws.any λw=>w.ab==k
def Dr(ws:List Ah)(rs:List Am)(os:List Ah):Bool:=ws.any λw=>JV os w.ab||rs.contains w.ab
def Ln(h:AX)(rs:List Am)(ws:List Ah):Bool:=Dr h.af rs ws||Dr ws h.bc h.af
theorem zHS{a b:Int}:decide (OC a b<0)=decide (a<b):=by
 unfold OC;by_cases h:a<b
 ·simp[h]
 ·by_cases he:a=b<;>simp[h,he]
theorem zIZ{a b:Int}:(OC a b==0)=decide (a=b):=by
 unfold OC;by_cases h:a<b
 ·have: ¬a=b:=by omega
  simp[h,this]
 ·by_cases he:a=b<;>simp[h,he]
theorem zQ1{l:List Ap}{k:Am}(hl:l.length<=2000000)(hr:Om l):aK l k (λy0_ y1_=>QH y0_ y1_)=some (((AS (λw:Ap=>bl w.ab k) l:Nat):Int),(match l[AS (λw:Ap=>bl w.ab k) l]? with|some w=>decide (w.ab=k)|none=>false)):=by
 unfold aK;have hc:∀w:Ap,QH w k=some (OA w.ab k):=λw=>by simp[QH]
 have h:=ZK (xs:=l) (body:=λs:Int × Int=>R1 l k (λy0_ y1_=>QH y0_ y1_) s.1 s.2) (fin:=λi=>tO l k (λy0_ y1_=>QH y0_ y1_) i) (λw:Ap=>bl w.ab k)
  (λi j hj hi h=>by
   rcases Nat.lt_or_ge i j with Gl|Gl
   ·exact IE ((List.pairwise_iff_getElem.1 hr) i j (by omega) hj Gl) h
   ·have:i=j:=by omega
    subst this;exact h)
  (λi j Gl hj Ih=>by show R1 l k _ (i:Int) (j:Int)=_;unfold R1;rw[if_pos (by simpa using Gl),ZN (by omega) (by omega),As Ih,Aa];simp only[hc,Aa,zJo,C4 (show(i+j)/2<=2000000 by omega)];cases bl l[(i+j)/2].ab k<;>rfl)
  (λi hi=>by show R1 l k _ (i:Int) (i:Int)=_;unfold R1;rw[if_neg (by simp)])
 rw[h];unfold tO;by_cases hp:AS (λw:Ap=>bl w.ab k) l<l.length
 ·rw[if_pos (by simpa using hp),As hp,Aa];simp only[hc,Aa,zIT,AL hp]
 ·rw[if_neg (by simpa using hp),List.getElem?_eq_none (by omega)]
theorem zQ2{l:List AX}{k:Int}(hl:l.length<=2000000)(hr:DP hk l):aM l k (λy0_ y1_=>Qt y0_ y1_)=some (((AS (Bp hk k) l:Nat):Int),(match l[AS (Bp hk k) l]? with|some w=>decide (w.bd=k)|none=>false)):=by
 unfold aM;have hc:∀w:AX,Qt w k=some (OC w.bd k):=λw=>by simp[Qt]
 have h:=ZK (xs:=l) (body:=λs:Int × Int=>R2 l k (λy0_ y1_=>Qt y0_ y1_) s.1 s.2) (fin:=λi=>tQ l k (λy0_ y1_=>Qt y0_ y1_) i) (Bp hk k)
  (λi j hj hi h=>zzI hr i j hj hi h)
  (λi j Gl hj Ih=>by show R2 l k _ (i:Int) (j:Int)=_;unfold R2;rw[if_pos (by simpa using Gl),ZN (by omega) (by omega),As Ih,Aa];simp only[hc,Aa,zHS,C4 (show(i+j)/2<=2000000 by omega)];by_cases hq:l[(i+j)/2].bd<k<;>simp[Bp,hk,tk,hq])
  (λi hi=>by show R2 l k _ (i:Int) (i:Int)=_;unfold R2;rw[if_neg (by simp)])
 rw[h];unfold tQ;by_cases hp:AS (Bp hk k) l<l.length
 ·rw[if_pos (by simpa using hp),As hp,Aa];simp only[hc,Aa,zIZ,AL hp]
 ·rw[if_neg (by simpa using hp),List.getElem?_eq_none (by omega)]
theorem zQT{l:List Cp}{k:Int}(hl:l.length<=2000000)(hr:DP tk l):aL l k (λy0_ y1_=>Qu y0_ y1_)=some (((AS (Bp tk k) l:Nat):Int),(match l[AS (Bp tk k) l]? with|some w=>decide (w.bd=k)|none=>false)):=by
 unfold aL;have hc:∀w:Cp,Qu w k=some (OC w.bd k):=λw=>by simp[Qu]
 have h:=ZK (xs:=l) (body:=λs:Int × Int=>R3 l k (λy0_ y1_=>Qu y0_ y1_) s.1 s.2) (fin:=λi=>tR l k (λy0_ y1_=>Qu y0_ y1_) i) (Bp tk k)
  (λi j hj hi h=>zzI hr i j hj hi h)
  (λi j Gl hj Ih=>by show R3 l k _ (i:Int) (j:Int)=_;unfold R3;rw[if_pos (by simpa using Gl),ZN (by omega) (by omega),As Ih,Aa];simp only[hc,Aa,zHS,C4 (show(i+j)/2<=2000000 by omega)];by_cases hq:l[(i+j)/2].bd<k<;>simp[Bp,hk,tk,hq])
  (λi hi=>by show R3 l k _ (i:Int) (i:Int)=_;unfold R3;rw[if_neg (by simp)])
 rw[h];unfold tR;by_cases hp:AS (Bp tk k) l<l.length
 ·rw[if_pos (by simpa using hp),As hp,Aa];simp only[hc,Aa,zIZ,AL hp]
 ·rw[if_neg (by simpa using hp),List.getElem?_eq_none (by omega)]
theorem YV{β:Type}{body:Int->Option (Int ⊕ Option β)}{fin:Option β}(m:Nat)(he:body (m:Nat)=some (.inr fin)):∀n:Nat,m<=n->(∀i:Nat,m<=i->i<n->body ((i+1:Nat):Int)=some (.inl (i:Int)))->Ao body (n:Nat)=fin
 |0,h,_=>by
  have e:m=0:=by omega
  subst e;exact Nf he
 |n+1,h,hs=>by
  by_cases e:m=n+1
  ·subst e;exact Nf he
  ·rw[T1 (hs n (by omega) (by omega))];exact YV m he n (by omega) λi h1 h2=>hs i h1 (by omega)
theorem zF2{α:Type}{vs:List α}(h:vs≠ [])(hl:vs.length<=2000000):Ak vs (IntKind.i64.wrap ((vs.length:Int)-1))=some (vs.getLast h):=by
 have hp:0<vs.length:=by cases vs with|nil=>exact absurd rfl h|cons=>simp
 rw[JP hp hl,As (by omega),List.getLast_eq_getElem]
def DK(n:Nat)(l:List Ap):Prop:=Om l/\(l.length<=n/\ ∀c∈l,c.au≠ []/\(c.au.length<=n/\Z6 c))
theorem zwR{l:List Ap}{k:Am}{c:Ap}(h:HN l k=some c):c∈l/\c.ab=k:=⟨List.mem_of_find?_eq_some h,by have:=List.find?_some h;simpa using this⟩
theorem pS{l:List Ap}{k:Am}{c:Ap}(hr:Om l)(hc:c∈l)(hk:c.ab=k):HN l k=some c:=by
 cases h:HN l k with
 |none=>have:=List.find?_eq_none.1 h c hc;simp[hk]at this
 |some d=>obtain⟨h1,h2⟩:=zwR h;rw[El.jm (key:=ck) hr h1 hc (by rw[ck,ck,h2,hk])]
theorem qJ{l:List Ap}{k:Am}(h:∀c∈l,c.ab≠k):HN l k=none:=by unfold HN;rw[List.find?_eq_none];intro y hy;simpa using h y hy
abbrev Bt(l:List Ap)(k:Am):Nat:=AS (λw:Ap=>bl w.ab k) l
theorem zMR(l:List Ap)(k:Am):Bt l k<=l.length:=L5 _ l
theorem X2{l:List Ap}(hr:Om l)(k:Am):(∃h:Bt l k<l.length,l[Bt l k].ab=k/\HN l k=some l[Bt l k])\/((∀c∈l,c.ab≠k)/\HN l k=none/\ ∀h:Bt l k<l.length,bl k l[Bt l k].ab=true):=by
 have Zh:=List.pairwise_iff_getElem.1 hr;by_cases hp:Bt l k<l.length
 ·by_cases hk:l[Bt l k].ab=k
  ·exact .inl ⟨hp,hk,pS hr (Au hp) hk⟩
  ·right;have hn:bl (l[Bt l k]'hp).ab k=false:=ZH hp;have hg:bl k l[Bt l k].ab=true:=O0 hn hk;have Ck:∀c∈l,c.ab≠k:=by
    intro c hc e;obtain⟨j,hj,rfl⟩:=List.mem_iff_getElem.1 hc;rcases Nat.lt_trichotomy j (Bt l k)with h|h|h
    ·exact HT (Q3 h) e
    ·subst h;exact hk e
    ·have:=Zh (Bt l k) j hp hj h;rw[ck,ck,e,O4 hg]at this;cases this
   exact⟨Ck,qJ Ck,λ_=>hg⟩
 ·right;have Ck:∀c∈l,c.ab≠k:=by
   intro c hc e;obtain⟨j,hj,rfl⟩:=List.mem_iff_getElem.1 hc;exact HT (Q3 (lt:=λw:Ap=>bl w.ab k) (show j<Bt l k by omega)) e
  exact⟨Ck,qJ Ck,λh=>absurd h hp⟩
theorem pO{l:List Ap}{k:Am}(hl:l.length<=2000000)(hr:Om l):TE l k=some (((Bt l k:Nat):Int),(HN l k).isSome):=by
 unfold TE;rw[zQ1 hl hr,Aa];rcases X2 hr k with⟨hp,hk,hf⟩|⟨hn,hf,hg⟩
 ·rw[hf];simp[AL hp,hk]
 ·rw[hf];by_cases hp:Bt l k<l.length
  ·have hk:l[Bt l k].ab≠k:=hn _ (Au hp);simp[AL hp,hk]
  ·simp[List.getElem?_eq_none (show l.length<=Bt l k by omega)]
theorem zMU{l:List Ap}{k:Am}(hl:l.length<=2000000)(hr:Om l):∃i:Int,X1 l k=some i/\((i<0/\HN l k=none)\/(0<=i/\ ∃c,Ak l i=some c/\HN l k=some c)):=by
 refine⟨CC (λc:Ap=>c.ab==k) l,?_,?_⟩
 ·unfold X1;refine kZ (λc:Ap=>c.ab==k) (λi hi=> ?_) ?_
  ·unfold yE;rw[if_pos (by simpa using hi),As hi,Aa,C4 (by omega)];cases l[i].ab==k<;>rfl
  ·unfold yE;rw[if_neg (by simp)]
 ·by_cases h:CC (λc:Ap=>c.ab==k) l>=0
  ·obtain⟨x,h1,h2,h3⟩:=zz8 h;exact .inr ⟨h,x,h1,pS hr h3 (by simpa using h2)⟩
  ·refine .inl ⟨by omega,?_⟩;have:=Uh (λc:Ap=>c.ab==k) l;rw[decide_eq_false h]at this;unfold HN;rw[List.find?_eq_none];intro y hy hq;have:=List.any_eq_false.1 this.symm y hy;exact this hq
theorem zzl{l:List Ap}{k:Am}{c:Ap}(h:HN l k=some c)(hv:c.au≠ []):Lx l k=(c.au.getLast hv).ak:=by unfold Lx;rw[h];show sQ c=_;unfold sQ;rw[List.getLast?_eq_some_getLast hv]
theorem zNQ{n:Nat}{l:List Ap}{k:Am}(hn:n<=1000)(h:DK n l):hZ l k=some (Lx l k):=by
 obtain⟨hr,hl,hc⟩:=h;unfold hZ;obtain⟨i,e,⟨h1,h2⟩|⟨h1,c,h2,h3⟩⟩:=zMU (l:=l) (k:=k) (by omega) hr
 ·rw[e,Aa,if_pos (by simpa using h1)];unfold Lx;rw[h2]
 ·obtain⟨hv,hw,_⟩:=hc c (zwR h3).1;rw[e,Aa,if_neg (by simpa using h1),h2,Aa,zF2 hv (by omega),Aa,zzl h3 hv]
theorem zOB{n:Nat}{l:List Ap}{k:Am}(hn:n<=1000)(h:DK n l):dF l k=some (Lx l k):=by
 obtain⟨hr,hl,hc⟩:=h;unfold dF;rw[pO (by omega) hr,Aa];rcases X2 hr k with⟨hp,hk,hf⟩|⟨_,hf,_⟩
 ·obtain⟨hv,hw,_⟩:=hc _ (Au hp);rw[hf,if_neg (by simp)];rw[As hp,Aa,zF2 hv (by omega),Aa,zzl hf hv]
 ·rw[hf];simp only[Option.isSome_none,Bool.not_false,if_true];unfold Lx;rw[hf]
theorem zFr{l:List Ap}{k:Am}{v:CD}(hr:Om l)(hp:Bt l k<l.length)(hk:l[Bt l k].ab=k):M3 l k v=l.set (Bt l k) ⟨k,l[Bt l k].au++ [v]⟩:=by unfold M3;rw[lD hr];rw[show AS (λy=>bl (ck y) (ck (⟨k,NI l k++ [v]⟩:Ap))) l=Bt l k from rfl,AL hp];show(if l[Bt l k].ab=k then _ else _)=_;rw[if_pos hk];unfold NI;rw[pS hr (Au hp) hk]
theorem zFK{l:List Ap}{k:Am}{v:CD}(hr:Om l)(hn:∀c∈l,c.ab≠k):M3 l k v=l.take (Bt l k)++ [⟨k,[v]⟩]++l.drop (Bt l k):=by
 have hv:NI l k=[]:=by unfold NI;rw[qJ hn]
 unfold M3;rw[lD hr,hv];rw[show AS (λy=>bl (ck y) (ck (⟨k,[]++ [v]⟩:Ap))) l=Bt l k from rfl];by_cases hp:Bt l k<l.length
 ·rw[AL hp];show(if l[Bt l k].ab=k then _ else _)=_;rw[if_neg (hn _ (Au hp))];rfl
 ·rw[List.getElem?_eq_none (by omega)];rfl
theorem DK.add{n:Nat}{l:List Ap}{k:Am}{v:CD}(h:DK n l)(hn:n<=1000)(hk:k.length<=2000000)(hv:v.aw.length<=2000000):DK (n+1) (M3 l k v):=by
 obtain⟨hr,hl,hc⟩:=h;have V1:(NI l k).length<=n/\ ∀v∈NI l k,v.aw.length<=2000000:=by
  unfold NI;cases e:HN l k with
  |none=>exact⟨by simp,λv hv=>by simp at hv⟩
  |some c=>obtain⟨_,h2,h3⟩:=hc c (zwR e).1;exact⟨h2,h3.2.2⟩
 refine⟨kM hr,?_,?_⟩
 ·have:=Yx (key:=ck) (x:=(⟨k,NI l k++ [v]⟩:Ap)) l;unfold M3;omega
 ·intro c Gk;rcases(Yn (key:=ck) hr c).1 Gk with rfl|⟨hm,_⟩
  ·refine⟨by simp,by simp;omega,hk,by simp;omega,?_⟩;intro x hx;rcases Ae.1 hx with hx|hx
   ·exact V1.2 x hx
   ·have:x=v:=by simpa using hx
    subst this;exact hv
  ·obtain⟨h1,h2,h3⟩:=hc c hm;exact⟨h1,by omega,h3⟩
def Um(ws:List Ah):Prop:=ws.length<=100/\ ∀w∈ws,w.ab.length<=2000000/\w.aw.length<=2000000
theorem zMJ{c:Ap}{k:Am}{vs:List CD}(h:c.ab=k):({c with au:=vs}:Ap)=⟨k,vs⟩:=by subst h;rfl
theorem zOm{α:Type}{A B:List α}{a:α}{p:Nat}(h:A.length=p):Ak (A++ [a]++B) (p:Int)=some a:=by
 have hp:p<(A++ [a]++B).length:=by simp;omega
 rw[As hp];subst h;simp
theorem zOn{α:Type}{A B:List α}{a b:α}{p:Nat}(h:A.length=p):(A++ [a]++B).set p b=A++ [b]++B:=by subst h;simp
theorem DK.small{n:Nat}{l:List Ap}(h:DK n l)(hn:n<=1000):sE l:=⟨by have:=h.2.1;omega,λc hc=>(h.2.2 c hc).2.2⟩
theorem WV{α:Type}(l:List α)(p:Nat):AU l 0 (p:Int)=l.take p:=by unfold AU;simp
theorem tK{α:Type}(l:List α)(p:Nat):AU l (p:Int) (l.length:Int)=l.drop p:=by unfold AU;rw[Bl,Bl,List.take_of_length_le (AB _)]
theorem qT{t:Int}:∀{ws:List Ah} {n:Nat} {l o:List Ap},n+ws.length<=1000->(∀w∈ws,w.ab.length<=2000000/\w.aw.length<=2000000)->DK n l->MZ t l ws=some o->DK (n+ws.length) o:=by
 intro ws
 induction ws with
 |nil=>intro n l o _ _ h e;cases e;exact h
 |cons w vs ih=>
  intro n l o hn hs h e;unfold MZ at e;rw[List.foldlM_cons]at e;cases e1:Jj t l w with
  |none=>rw[e1]at e;cases e
  |some l1=>
   rw[e1]at e;have e:MZ t l1 vs=some o:=e;unfold Jj at e1;split at e1
   ·cases e1
   ·cases e1;rw[AH]at hn ⊢;have:=ih (n:=n+1) (by omega) (λw hw=>hs w (by simp[hw])) (DK.add h (by omega) (hs w (by simp)).1 (hs w (by simp)).2) e;rwa[show n+(vs.length+1)=n+1+vs.length by omega]
theorem zOa{l:List Ap}{ws:List Ah}{t:Int}(h:DK 24 l)(hw:Um ws):dG l ws t=some (match OE l ws t with|some o=>(o,true)|none=>([],false)):=by
 have hC:Td l=some l:=AI ⟨by have:=h.2.1;omega,λc hc=>by have:=(h.2.2 c hc).2.1;omega⟩;unfold dG;rw[hC,Aa];have key:=Ud (xs:=ws) (body:=λs:Int × List Ap=>S5 ws t s.1 s.2) (λi s=>((i:Int),s)) (Jj t) (some ([],false)) (λs=>cE s) (λi s=>DK (24+i) s)
  (λi acc hi hI=>by
   have MN:=hw.2 _ (Au hi);have hn:=hw.1;obtain⟨hr,hl,hc⟩:=hI;refine⟨?_,λa ha=> ?_⟩
   ·show S5 ws t (i:Int) acc=_;unfold S5;rw[if_pos (by simpa using hi),As hi,Aa,zOB (n:=24+i) (by omega) ⟨hr,hl,hc⟩,Aa];unfold Jj;by_cases ht:t<=Lx acc ws[i].ab
    ·rw[if_pos (by simpa using ht),if_pos ht]
    ·rw[if_neg (by simpa using ht),if_neg ht,pO (by omega) hr,Aa,C4 (by omega)];rcases X2 hr ws[i].ab with⟨hp,hk,hf⟩|⟨DW,hf,_⟩
     ·have h1:=(hc _ (Au hp)).2.1;rw[hf];simp only[Option.isSome_some,Bool.not_true,A7,if_false];rw[As hp,Aa,AI (by simp only[AO];omega),Bl,zFr hr hp hk];refine congrArg (λz=>some (Sum.inl (((i+1:Nat):Int),z))) (congrArg (acc.set _) ?_);exact zMJ hk
     ·have GU:=zMR acc ws[i].ab;have hA:(acc.take (Bt acc ws[i].ab)).length=Bt acc ws[i].ab:=by simp;omega
      have hIn:Gt acc ((Bt acc ws[i].ab:Nat):Int) [(⟨ws[i].ab,[]⟩:Ap)]=some (acc.take (Bt acc ws[i].ab)++ [⟨ws[i].ab,[]⟩]++acc.drop (Bt acc ws[i].ab)):=by unfold Gt;rw[AI ⟨by omega,by omega,by simp,by simp only[AO];omega⟩,Bl]
      rw[hf];simp only[Option.isSome_none,Bool.not_false,if_true];rw[hIn,Aa,zOm hA,Aa,AI (by simp[RM]),Bl,zOn hA,zFK hr DW];rfl
   ·unfold Jj at ha;split at ha
    ·cases ha
    ·cases ha;exact DK.add (n:=24+i) ⟨hr,hl,hc⟩ (by omega) MN.1 MN.2)
  (λacc _=>by show S5 ws t (ws.length:Int) acc=_;unfold S5;rw[if_neg (by simp)]) l h
 refine key.trans ?_;unfold OE MZ;have A3:∀o,ws.foldlM (Jj t) l=some o->DK (24+ws.length) o:=λo ho=>qT (by have:=hw.1;omega) hw.2 h ho;cases ho:ws.foldlM (Jj t) l with
 |none=>rfl
 |some o=>show cE o=some (match(if I8 o=true then some o else none)with|some o=>(o,true)|none=>([],false));unfold cE;rw[zLe ((A3 o ho).small (by have:=hw.1;omega)),Aa];cases I8 o<;>rfl
theorem zIt{l:List Ap}(h:DK 24 l):XV l=some l:=by
 unfold XV;have:=(Eh (xs:=l) (body:=λs:List Ap × Int=>Tx l s.1 s.2) (λi s=>(s,i)) (λo c=>o++ [c]) (λo=>some o) (λi o=>o.length=i)
  (λi hi o ho=>by have h1:=h.2.1;have h2:=(h.2.2 _ (Au hi)).2.1;refine⟨?_,by simp[ho]⟩;show Tx l o (i:Int)=_;unfold Tx;rw[if_pos (by simpa using hi),As hi,Aa,AI (by simp only[List.length_nil];omega),AI (by simp only[AO];omega),C4 (by omega)])
  (λo ho=>by show Tx l o (l.length:Int)=_;unfold Tx;rw[if_neg (by simp)]) (s:=[]) rfl).1
 refine this.trans ?_;have e:=foldl_map (λc:Ap=>c) l [];simpa using e
theorem zNs{l:List Ap}{ws:List Ah}{t:Int}(h:DK 24 l)(hw:Um ws)(h0:0<t):jH l ws t=some (match MZ t l ws with|some o=>(o,I8 o)|none=>([],false)):=by
 unfold jH;rw[zIt h,Aa];have key:=Ud (xs:=ws) (body:=λs:Int × List Ap=>TC ws t s.1 s.2) (λi s=>((i:Int),s)) (Jj t) (some ([],false)) (λs=>eN s) (λi s=>DK (24+i) s)
  (λi acc hi hI=>by
   have MN:=hw.2 _ (Au hi);have hn:=hw.1;obtain⟨hr,hl,hc⟩:=hI;have Zh:=List.pairwise_iff_getElem.1 hr;have GU:=zMR acc ws[i].ab;refine⟨?_,λa ha=> ?_⟩
   ·show TC ws t (i:Int) acc=_;unfold TC;rw[if_pos (by simpa using hi),As hi,Aa];have down:∀m:Nat,(∀j (hj:j<acc.length),m<=j->bl ws[i].ab acc[j].ab=true)-> ∀j:Nat,m<=j->j<acc.length->QJ t (i:Int) acc ws[i] ((j+1:Nat):Int)=some (.inl (j:Int)):=by
     intro m hm j h1 h2;unfold QJ;rw[if_pos (by simp),JP (by omega) (by omega),show j+1-1=j by omega,As h2,Aa,Uc,if_pos (by rw[Bool.not_not];exact hm j h2 h1)]
    rcases X2 hr ws[i].ab with⟨hp,hk,hf⟩|⟨DW,hf,hg⟩
    ·have hv:=(hc _ (Au hp))
     have stop:QJ t (i:Int) acc ws[i] ((Bt acc ws[i].ab+1:Nat):Int)=some (.inr (TD t (i:Int) acc ws[i] ((Bt acc ws[i].ab+1:Nat):Int))):=by unfold QJ;rw[if_pos (by simp),JP (by omega) (by omega),show Bt acc ws[i].ab+1-1=Bt acc ws[i].ab by omega,As hp,Aa,Uc,if_neg (by rw[hk];rw[show Op.bytesLess ws[i].ab ws[i].ab=false from L0 _];simp)]
     rw[YV (Bt acc ws[i].ab+1) stop acc.length (by omega) (down _ λj hj h1=>by rw[<-hk];exact Zh _ j hp hj (by omega))];unfold TD;rw[if_pos (by simp),JP (by omega) (by omega),show Bt acc ws[i].ab+1-1=Bt acc ws[i].ab by omega,As hp,Aa,if_pos (by simpa using hk),zNQ (n:=24+i) (by omega) ⟨hr,hl,hc⟩,Aa];unfold Jj;by_cases ht:t<=Lx acc ws[i].ab
     ·rw[if_pos (by simpa using ht),if_pos ht]
     ·rw[if_neg (by simpa using ht),if_neg ht,AI (by simp only[AO];omega),Bl,zFr hr hp hk,C4 (by omega)];refine congrArg (λz=>some (Sum.inl (((i+1:Nat):Int),z))) (congrArg (acc.set _) ?_);exact zMJ hk
    ·have ht: ¬t<=Lx acc ws[i].ab:=by unfold Lx;rw[hf];show¬t<=0;omega
     have mS:∀j (hj:j<acc.length),Bt acc ws[i].ab<=j->bl ws[i].ab acc[j].ab=true:=by
      intro j hj h1;have hp:Bt acc ws[i].ab<acc.length:=by omega
      rcases Nat.lt_or_ge (Bt acc ws[i].ab) j with h2|h2
      ·exact IE (hg hp) (Zh _ j hp hj h2)
      ·have e:Bt acc ws[i].ab=j:=by omega
       have:=hg hp;simp only[e]at this;exact this
     have stop:QJ t (i:Int) acc ws[i] ((Bt acc ws[i].ab:Nat):Int)=some (.inr (TD t (i:Int) acc ws[i] ((Bt acc ws[i].ab:Nat):Int))):=by
      unfold QJ;by_cases h0:Bt acc ws[i].ab=0
      ·rw[if_neg (by simp[h0])]
      ·have hb:bl (acc[Bt acc ws[i].ab-1]'(by omega)).ab ws[i].ab=true:=Q3 (lt:=λw:Ap=>bl w.ab ws[i].ab) (show Bt acc ws[i].ab-1<Bt acc ws[i].ab by omega);rw[if_pos (by simp;omega),JP (by omega) (by omega),As (show Bt acc ws[i].ab-1<acc.length by omega),Aa,Uc,if_neg (by rw[show Op.bytesLess ws[i].ab _=false from O4 hb];simp)]
     rw[YV (Bt acc ws[i].ab) stop acc.length (by omega) (down _ mS)];have body:(Ar (0<=((Bt acc ws[i].ab:Nat):Int)/\((Bt acc ws[i].ab:Nat):Int)<=(acc.length:Int)/\(acc.length:Int)<=(acc.length:Int))<|
       Ar (0<=((Bt acc ws[i].ab:Nat):Int)/\((Bt acc ws[i].ab:Nat):Int)<=(acc.length:Int)/\(acc.length:Int)<=(acc.length:Int))<|
       Ar (((([]:List Ap).length:Int)+(((AU acc ((Bt acc ws[i].ab:Nat):Int) (acc.length:Int))).length:Int))*40<=140737488355328/\(([]:List Ap).length:Int)+(((AU acc ((Bt acc ws[i].ab:Nat):Int) (acc.length:Int))).length:Int)<=140737488355328)<|
       Ar (0<=(0:Int)/\(0:Int)<=((Bt acc ws[i].ab:Nat):Int)/\((Bt acc ws[i].ab:Nat):Int)<=(acc.length:Int))<|
       Ar (((([]:List Ap).length:Int)+(((AU acc 0 ((Bt acc ws[i].ab:Nat):Int))).length:Int))*40<=140737488355328/\(([]:List Ap).length:Int)+(((AU acc 0 ((Bt acc ws[i].ab:Nat):Int))).length:Int)<=140737488355328)<|
       Ar (((((AU acc 0 ((Bt acc ws[i].ab:Nat):Int))).length:Int)+(([(⟨ws[i].ab,[(⟨t,ws[i].aw,ws[i].bm⟩:CD)]⟩:Ap)]:List Ap).length:Int))*40<=140737488355328/\(((AU acc 0 ((Bt acc ws[i].ab:Nat):Int))).length:Int)+(([(⟨ws[i].ab,[(⟨t,ws[i].aw,ws[i].bm⟩:CD)]⟩:Ap)]:List Ap).length:Int)<=140737488355328)<|
       Ar ((((((AU acc 0 ((Bt acc ws[i].ab:Nat):Int))++ [(⟨ws[i].ab,[(⟨t,ws[i].aw,ws[i].bm⟩:CD)]⟩:Ap)])).length:Int)+(((AU acc ((Bt acc ws[i].ab:Nat):Int) (acc.length:Int))).length:Int))*40<=140737488355328/\((((AU acc 0 ((Bt acc ws[i].ab:Nat):Int))++ [(⟨ws[i].ab,[(⟨t,ws[i].aw,ws[i].bm⟩:CD)]⟩:Ap)])).length:Int)+(((AU acc ((Bt acc ws[i].ab:Nat):Int) (acc.length:Int))).length:Int)<=140737488355328)<|
       (some (.inl ((IntKind.i64.wrap ((i:Int)+1)),(((AU acc 0 ((Bt acc ws[i].ab:Nat):Int))++ [(⟨ws[i].ab,[(⟨t,ws[i].aw,ws[i].bm⟩:CD)]⟩:Ap)])++(AU acc ((Bt acc ws[i].ab:Nat):Int) (acc.length:Int))))):Option ((Int × List Ap) ⊕ Option (List Ap × Bool))))=some (.inl (((i+1:Nat):Int),M3 acc ws[i].ab ⟨t,ws[i].aw,ws[i].bm⟩)):=by
      rw[WV,tK,zFK hr DW,C4 (by omega)];rw[AI (by omega),AI (by omega),AI (by simp only[Bn,List.length_nil];omega),AI (by omega),AI (by simp only[AE,List.length_nil];omega),AI (by simp only[AE,AO];omega),AI (by simp only[Av,Bn,AE,AO];omega)]
     have e1:Jj t acc ws[i]=some (M3 acc ws[i].ab ⟨t,ws[i].aw,ws[i].bm⟩):=by unfold Jj;rw[if_neg ht]
     rw[e1];unfold TD;by_cases h0:Bt acc ws[i].ab=0
     ·rw[if_neg (by simp[h0])];exact body
     ·have BU:(acc[Bt acc ws[i].ab-1]'(by omega)).ab≠ws[i].ab:=DW _ (Au _);rw[if_pos (by simp;omega),JP (by omega) (by omega),As (show Bt acc ws[i].ab-1<acc.length by omega),Aa,if_neg (by simpa using BU)];exact body
   ·unfold Jj at ha;split at ha
    ·cases ha
    ·cases ha;exact DK.add (n:=24+i) ⟨hr,hl,hc⟩ (by omega) MN.1 MN.2)
  (λacc _=>by show TC ws t (ws.length:Int) acc=_;unfold TC;rw[if_neg (by simp)]) l h
 refine key.trans ?_;unfold MZ;cases ho:ws.foldlM (Jj t) l with
 |none=>rfl
 |some o=>show eN o=some (o,I8 o);unfold eN;rw[zKu ((qT (by have:=hw.1;omega) hw.2 h ho).small (by have:=hw.1;omega)),Aa]
theorem zCX{α:Type}(q:α->Bool):∀xs:List α,xs.find? q=xs[AS (λx=> !q x) xs]?
 | []=>by simp
 |x::xs=>by
  rw[X7,List.find?_cons];cases hq:q x with
  |true=>simp
  |false=>simpa using zCX q xs
theorem QQ{α β:Type}{xs:List α}{body:Int->Option (Int ⊕ Option β)}(q:α->Bool)(F:α->Option β)(fin:Option β)
  (hs:∀i (h:i<xs.length),body (i:Nat)=some (if q xs[i]=true then .inr (F xs[i])else .inl ((i+1:Nat):Int))) (he:body (xs.length:Nat)=some (.inr fin)):Ao body 0=match xs.find? q with|some x=>F x|none=>fin:=by
 rw[zCX,zMf (λx=> !q x) (λi=>match xs[i.toNat]? with|some x=>F x|none=>fin) (λi h=> ?_) ?_]
 ·rw[Bl]
 ·rw[he,Bl,List.getElem?_eq_none (AB _)]
 ·rw[hs i h,Bl,AL h];cases q xs[i]<;>rfl
theorem Ui{α:Type}(q:α->Bool)(xs:List α):(xs.find? q).isSome=xs.any q:=by rw[Bool.eq_iff_iff,List.find?_isSome,List.any_eq_true]
theorem zJI{ws:List Ah}{k:Am}(h:ws.length<=2000000):Xp ws k=some (JV ws k):=by
 unfold Xp;rw[QQ (xs:=ws) (λw=>w.ab==k) (λ_=>some true) (some false) (λi hi=> ?_) ?_]
 ·unfold JV;rw[<-Ui];cases ws.find? (λw=>w.ab==k)<;>rfl
 ·unfold vW;rw[if_neg (by simp)]
 ·unfold vW;rw[if_pos (by simpa using hi),As hi,Aa,C4 (by omega)];cases ws[i].ab==k<;>rfl
theorem zO0{ks:List Am}{k:Am}(h:ks.length<=2000000):iF ks k=some (ks.any (· ==k)):=by
 unfold iF;rw[QQ (xs:=ks) (λw=>w==k) (λ_=>some true) (some false) (λi hi=> ?_) ?_]
 ·rw[<-Ui];cases ks.find? (λw=>w==k)<;>rfl
 ·unfold xE;rw[if_neg (by simp)]
 ·unfold xE;rw[if_pos (by simpa using hi),As hi,Aa,C4 (by omega)];cases ks[i]==k<;>rfl
theorem zI8{s:AF}{t:Int}(h:s.al.length<=2000000):dW s t=some (match Gv s t with|some h=>(h,true)|none=>((⟨0,0,0,[],[]⟩:AX),false)):=by
 unfold dW;rw[QQ (xs:=s.al) (λw=>hk w==t) (λh=>some (h,true)) (some ((⟨0,0,0,[],[]⟩:AX),false)) (λi hi=> ?_) ?_]
 ·unfold Gv;cases s.al.find? (λw=>hk w==t)<;>rfl
 ·unfold vC;rw[if_neg (by simp)]
 ·unfold vC;rw[if_pos (by simpa using hi),As hi,Aa,C4 (by omega)];unfold hk;cases s.al[i].bd==t<;>rfl
theorem zJ0{s:AF}{t:Int}(h:s.bz.length<=2000000):cQ s t=some (match Jf s t with|some h=>(h,true)|none=>((⟨0,false,0⟩:Cp),false)):=by
 unfold cQ;rw[QQ (xs:=s.bz) (λw=>tk w==t) (λh=>some (h,true)) (some ((⟨0,false,0⟩:Cp),false)) (λi hi=> ?_) ?_]
 ·unfold Jf;cases s.bz.find? (λw=>tk w==t)<;>rfl
 ·unfold u4;rw[if_neg (by simp)]
 ·unfold u4;rw[if_pos (by simpa using hi),As hi,Aa,C4 (by omega)];unfold tk;cases s.bz[i].bd==t<;>rfl
theorem zwD{α:Type}{key:α->Int}{l:List α}{t:Int}(hr:DP key l):(l.find? (λy=>key y==t)).isSome=(match l[AS (Bp key t) l]? with|some w=>decide (key w=t)|none=>false):=by
 rw[jN hr];cases l[AS (Bp key t) l]? with
 |none=>rfl
 |some w=>by_cases h:key w=t<;>simp[h]
theorem zFM{s:AF}{t:Int}(hl:s.al.length<=2000000)(hr:DP hk s.al):W2 s t=some (((AS (Bp hk t) s.al:Nat):Int),(Gv s t).isSome):=by unfold W2 Gv;rw[zQ2 hl hr,Aa,zwD hr];cases s.al[AS (Bp hk t) s.al]?<;>rfl
theorem qF{s:AF}{t:Int}(hl:s.bz.length<=2000000)(hr:DP tk s.bz):Sd s t=some (((AS (Bp tk t) s.bz:Nat):Int),(Jf s t).isSome):=by unfold Sd Jf;rw[zQT hl hr,Aa,zwD hr];cases s.bz[AS (Bp tk t) s.bz]?<;>rfl
theorem zFl{α:Type}{key:α->Int}{l:List α}{t:Int}(h:DP key l):(∀j (hj:j<l.length),AS (Bp key (t+1)) l<=j->t<key l[j])/\ ∀j (hj:j<l.length),j<AS (Bp key (t+1)) l->key l[j]<=t:=by
 constructor
 ·intro j hj hp;have h1:AS (Bp key (t+1)) l<l.length:=by omega
  have h2: ¬(key (l[AS (Bp key (t+1)) l]'h1)<t+1):=of_decide_eq_false (ZH h1);by_cases e:AS (Bp key (t+1)) l=j
  ·subst e;omega
  ·have:=h.mono hj (show AS (Bp key (t+1)) l<j by omega);omega
 ·intro j hj hp;have:key l[j]<t+1:=of_decide_eq_true (Q3 (lt:=Bp key (t+1)) hp);omega
theorem zJP{α:Type}{key:α->Int}{l:List α}{t:Int}(hn:∀y∈l,key y≠t):AS (Bp key (t+1)) l=AS (Bp key t) l:=by
 induction l with
 |nil=>rfl
 |cons x l ih=>
  rw[X7,X7,ih λy hy=>hn y (by simp[hy])];have:=hn x (by simp);have e:Bp key (t+1) x=Bp key t x:=by unfold Bp;rw[decide_eq_decide];omega
  rw[e]
theorem zCn{α:Type}{key:α->Int}{l:List α}{x:α}(hn:∀y∈l,key y≠key x):Gc key x l=l.take (AS (Bp key (key x+1)) l)++ [x]++l.drop (AS (Bp key (key x+1)) l):=by rw[zJP hn];exact qB hn
theorem zGP{l:List AX}{h:AX}(hl:l.length<=1000)(hr:DP hk l):∃r,dD l h=some r/\((∀y∈l,hk y≠hk h)->r=Gc hk h l):=by
 have hp:=L5 (Bp hk (hk h+1)) l;obtain⟨h1,h2⟩:=zFl (t:=hk h) hr;refine⟨_,?_,λhn=>(zCn hn).symm⟩;unfold dD;rw[YV (AS (Bp hk (hk h+1)) l) (fin:=bX l h ((AS (Bp hk (hk h+1)) l:Nat):Int)) ?_ l.length hp λj h3 h4=> ?_]
 ·unfold bX;rw[WV,tK,AI (by omega),AI (by simp only[Bn,List.length_nil];omega),AI (by omega),AI (by simp only[AE,List.length_nil];omega),AI (by simp only[AE,AO];omega),AI (by simp only[Av,Bn,AE,AO];omega)]
 ·unfold uM;by_cases h0:AS (Bp hk (hk h+1)) l=0
  ·rw[if_neg (by simp[h0])]
  ·have:=h2 (AS (Bp hk (hk h+1)) l-1) (by omega) (by omega);rw[if_pos (by simp;omega),JP (by omega) (by omega),As (show AS (Bp hk (hk h+1)) l-1<l.length by omega),Aa,if_neg (by simpa using this)]
 ·have:=h1 j h4 h3;unfold uM;rw[if_pos (by simp),JP (by omega) (by omega),show j+1-1=j by omega,As h4,Aa,if_pos (by simpa using this)]
theorem zGl{l:List Cp}{h:Cp}(hl:l.length<=1000)(hr:DP tk l):∃r,Xj l h=some r/\((∀y∈l,tk y≠tk h)->r=Gc tk h l):=by
 have hp:=L5 (Bp tk (tk h+1)) l;obtain⟨h1,h2⟩:=zFl (t:=tk h) hr;refine⟨_,?_,λhn=>(zCn hn).symm⟩;unfold Xj;rw[YV (AS (Bp tk (tk h+1)) l) (fin:=bY l h ((AS (Bp tk (tk h+1)) l:Nat):Int)) ?_ l.length hp λj h3 h4=> ?_]
 ·unfold bY;rw[WV,tK,AI (by omega),AI (by simp only[Bn,List.length_nil];omega),AI (by omega),AI (by simp only[AE,List.length_nil];omega),AI (by simp only[AE,AO];omega),AI (by simp only[Av,Bn,AE,AO];omega)]
 ·unfold uR;by_cases h0:AS (Bp tk (tk h+1)) l=0
  ·rw[if_neg (by simp[h0])]
  ·have:=h2 (AS (Bp tk (tk h+1)) l-1) (by omega) (by omega);rw[if_pos (by simp;omega),JP (by omega) (by omega),As (show AS (Bp tk (tk h+1)) l-1<l.length by omega),Aa,if_neg (by simpa using this)]
 ·have:=h1 j h4 h3;unfold uR;rw[if_pos (by simp),JP (by omega) (by omega),show j+1-1=j by omega,As h4,Aa,if_pos (by simpa using this)]
theorem zGh{l:List AX}{t:Int}(hl:l.length<=1000):XG l t=some (l.filter λh=>decide (hk h≠t)):=by
 unfold XG;have:=(Eh (xs:=l) (body:=λs:List AX × Int=>SJ l t s.1 s.2) (λi s=>(s,i)) (λo h=>if hk h≠t then o++ [h]else o) (λo=>some o) (λi o=>o.length<=i)
  (λi hi o ho=>by
   constructor
   ·show SJ l t o (i:Int)=_;unfold SJ;rw[if_pos (by simpa using hi),As hi,Aa,C4 (by omega)];by_cases hq:hk l[i]=t
    ·rw[if_neg (by simpa using hq),if_neg (by simpa using hq)]
    ·rw[if_pos (by simpa using hq),if_pos hq,AI (by simp only[AO];omega)]
   ·by_cases hq:hk l[i]=t
    ·rw[if_neg (by simpa using hq)];omega
    ·rw[if_pos hq];simp;omega)
  (λo ho=>by show SJ l t o (l.length:Int)=_;unfold SJ;rw[if_neg (by simp)]) (s:=[]) (by simp)).1
 refine this.trans ?_;have e:∀(l o:List AX),l.foldl (λo h=>if hk h≠t then o++ [h]else o) o=o++l.filter λh=>decide (hk h≠t):=by
  intro l
  induction l with
  |nil=>intro o;simp
  |cons x l ih=>
   intro o;rw[List.foldl_cons,ih,List.filter_cons];by_cases hq:hk x=t
   ·simp[hq]
   ·simp[hq]
 rw[e];rfl
def Rv(a b:Am):Prop:=bl b a=false
abbrev JX(l:List Am):Prop:=El (λs:Am=>s) l
theorem zDw{zs:List Am}(h:zs.Pairwise Rv):JX (Lib.compact zs)/\ ∀y,y∈Lib.compact zs↔y∈zs:=by
 have get:∀j (hj:j<zs.length),(zs.toArray[j]!)=zs[j]:=λj hj=>by rw[getElem!_pos _ j (by simpa using hj)];simp
 have le:∀i j (hi:i<zs.length) (hj:j<zs.length),i<=j->Rv zs[i] zs[j]:=λi j hi hj Gl=>by
  rcases Nat.lt_or_ge i j with k|k
  ·exact(List.pairwise_iff_getElem.1 h) i j hi hj k
  ·have:i=j:=by omega
   subst this;exact L0 _
 unfold Lib.compact Lib.compactUpTo;constructor
 ·unfold JX El;rw[List.pairwise_map];have hp:(List.range zs.length).Pairwise (· < ·):=List.pairwise_lt_range;have:=List.Pairwise.filter (Lib.keeps zs.toArray) hp;refine List.Pairwise.imp_of_mem ?_ this;intro i j hi hj Gl;have JA:=(List.mem_filter.1 hj).2;have LG:j<zs.length:=by simpa using(List.mem_filter.1 hj).1
  have BU:zs[j]'LG≠zs[j-1]'(by omega):=by
   unfold Lib.keeps at JA;simp only[AR]at JA;rcases JA with k|k
   ·omega
   ·rw[get j LG,get (j-1) (by omega)]at k;exact k
  rw[get i (by omega),get j LG];have h1:=le i (j-1) (by omega) (by omega) (by omega);have h2:=le (j-1) j (by omega) LG (by omega);have h3:bl (zs[j-1]'(by omega)) (zs[j]'LG)=true:=O0 h2 BU;show bl (zs[i]'(by omega)) (zs[j]'LG)=true;rcases rY (zs[i]'(by omega)) (zs[j-1]'(by omega))with k|k|k
  ·exact IE k h3
  ·rw[k];exact h3
  ·unfold Rv at h1;rw[h1]at k;cases k
 ·intro y;constructor
  ·intro hy;exact zxl zs y hy
  ·intro hy;obtain⟨i,hi,rfl⟩:=List.getElem_of_mem hy
   induction i using Nat.strongRecOn with
   |_ i ih=>
    by_cases hk:Lib.keeps zs.toArray i=true
    ·exact List.mem_map.2 ⟨i,List.mem_filter.2 ⟨by simpa using hi,hk⟩,get i hi⟩
    ·unfold Lib.keeps at hk;simp only[AR,not_or,Classical.not_not]at hk;have e:zs[i]=zs[i-1]'(by omega):=by
      have:=hk.2;rw[get i hi,get (i-1) (by omega)]at this;exact this
     rw[e];exact ih (i-1) (by omega) (by omega) (Au _)
def DR(k:Am)(l:List Am):List Am:=DQ (λs:Am=>s) k l
theorem pU{k:Am}:∀{A B:List Am},(∀y∈A,bl y k=true)->(∀y∈B,bl k y=true)->DR k (A++B)=A++k::B/\DR k (A++k::B)=A++k::B
 | [],B,_,hB=>by
  unfold DR;constructor
  ·cases B with
   |nil=>rfl
   |cons b B=>rw[List.nil_append,DQ,if_pos (hB b (by simp))];rfl
  ·rw[List.nil_append,DQ,if_neg (by rw[L0];simp),if_pos rfl]
 |a::A,B,hA,hB=>by
  obtain⟨p,q⟩:=pU (A:=A) (B:=B) (λy hy=>hA y (by simp[hy])) hB;have h1:=hA a (by simp);unfold DR at p q ⊢;constructor
  ·rw[List.cons_append,DQ,if_neg (by rw[O4 h1];simp),if_neg (λe=>HT h1 e.symm),p];rfl
  ·rw[List.cons_append,DQ,if_neg (by rw[O4 h1];simp),if_neg (λe=>HT h1 e.symm),q]
theorem zxc{k:Am}{l:List Am}(h:JX l):JX (DR k l):=kM h
theorem zLw{k:Am}{l:List Am}(h:JX l)(y:Am):y∈DR k l↔y=k\/y∈l:=by
 unfold DR;rw[Yn h];constructor
 ·rintro(e|⟨e,_⟩)
  ·exact .inl e
  ·exact .inr e
 ·rintro(e|e)
  ·exact .inl e
  ·by_cases he:y=k
   ·exact .inl he
   ·exact .inr ⟨e,he⟩
theorem ZP{l:List Am}(h:l.length<=2000000):Lc l=some l:=by unfold Lc;rw[AI (by rw[List.length_nil];omega)]
theorem zIK{l:List Am}{k:Am}(hl:l.length<=1000)(hr:JX l):XU l k=some (DR k l):=by
 have fin:∀(A B:List Am),A++B=l->(∀y∈A,bl y k=true\/y=k)->(∀y∈B,bl k y=true)->Tg l k (A.length:Int)=some (DR k l):=by
  intro A B e hA hB;subst e;rw[Av]at hl;have t1:AU (A++B) (A.length:Int) (((A++B).length:Nat):Int)=B:=by unfold AU;rw[Bl,Bl,List.take_of_length_le (AB _)];simp
  have t2:AU (A++B) 0 (A.length:Int)=A:=by unfold AU;simp
  have put:(∀y∈A,bl y k=true)-> ∀(q:Option (List Am)),q=some (DR k (A++B))->q=some (DR k (A++B)):=λ_ _ h=>h;have body:(∀y∈A,bl y k=true)->(Ar (0<=(A.length:Int)/\(A.length:Int)<=(((A++B).length:Nat):Int)/\(((A++B).length:Nat):Int)<=(((A++B).length:Nat):Int))<|
   (Lc (AU (A++B) (A.length:Int) (((A++B).length:Nat):Int))).bind λv3=>
   Ar (0<=(0:Int)/\(0:Int)<=(A.length:Int)/\(A.length:Int)<=(((A++B).length:Nat):Int))<|
   (Lc (AU (A++B) 0 (A.length:Int))).bind λv4=>
   Ar ((((v4).length:Int)+(([k]:List (Ab)).length:Int))*16<=140737488355328/\((v4).length:Int)+(([k]:List (Ab)).length:Int)<=140737488355328)<|
   Ar (((((v4++ [k])).length:Int)+((v3).length:Int))*16<=140737488355328/\(((v4++ [k])).length:Int)+((v3).length:Int)<=140737488355328)<|
   some ((v4++ [k])++v3))=some (DR k (A++B)):=by
   intro hA;rw[t1,t2,AI (by rw[Av];omega),ZP (by omega),Aa,AI (by rw[Av];omega),ZP (by omega),Aa,AI (by rw[AO];omega),AI (by rw[Av,AO];omega),(pU hA hB).1];simp
  unfold Tg;rcases List.eq_nil_or_concat A with rfl|⟨A',z,rfl⟩
  ·rw[if_neg (by simp)];exact body (by simp)
  ·have hz:=hA z (by simp);have oI:JX (A'++ [z]):=El.sub hr (by rw[List.concat_eq_append];exact List.sublist_append_left _ _);have E4:∀y∈A',bl y z=true:=λy hy=>(List.pairwise_append.1 oI).2.2 y hy z (by simp);have hlen:(A'.concat z).length=A'.length+1:=by simp
   have w1:IntKind.i64.wrap ((((A'.concat z).length:Nat):Int)-1)=((A'.length:Nat):Int):=by rw[hlen,Cf (by omega) (by omega)];omega
   have g1:Ak (A'.concat z++B) ((A'.length:Nat):Int)=some z:=by unfold Ak;rw[if_pos (by omega),Bl,List.concat_eq_append,List.append_assoc,List.getElem?_append_right (by omega)];simp
   rw[if_pos (by rw[AR,hlen];omega),w1,g1,Aa];by_cases he:z=k
   ·subst he;rw[if_pos (by simp)];have:=(pU (A:=A') (B:=B) E4 hB).2;rw[List.concat_eq_append,List.append_assoc,List.singleton_append,this]
   ·rw[if_neg (by simpa using he)];have hzk:bl z k=true:=by
     rcases hz with h|h
     ·exact h
     ·exact absurd h he
    refine body λy hy=> ?_;rw[List.concat_eq_append]at hy;rcases Ae.1 hy with hy|hy
    ·exact IE (E4 y hy) hzk
    ·rw[List.mem_singleton.1 hy];exact hzk
 unfold XU;have key:∀(n:Nat) (A B:List Am),A.length=n->A++B=l->(∀y∈B,bl k y=true)->Ao (λs:Int=>Lb l k s) (n:Int)=some (DR k l):=by
  intro n
  induction n with
  |zero=>
   intro A B hA e hB;have:A=[]:=List.length_eq_zero_iff.1 hA;subst this;have hb:Lb l k ((0:Nat):Int)=some (.inr (Tg l k ((([]:List Am).length:Nat):Int))):=by unfold Lb;rw[if_neg (by simp)];rfl
   exact(Nf (body:=λs:Int=>Lb l k s) hb).trans (fin [] B e (by simp) hB)
  |succ n ih=>
   intro A B hA e hB;rcases List.eq_nil_or_concat A with rfl|⟨A',z,rfl⟩
   ·simp at hA
   ·rw[List.concat_eq_append]at hA e;have hn:A'.length=n:=by simpa using hA
    have w1:IntKind.i64.wrap (((n+1:Nat):Int)-1)=(n:Int):=by
     have:n+1<=1000:=by rw[<-e]at hl;simp at hl;omega
     rw[Cf (by omega) (by omega)];omega
    have g1:Ak l (n:Int)=some z:=by subst e;unfold Ak;rw[if_pos (by omega),Bl,List.append_assoc,List.getElem?_append_right (by omega),hn];simp
    have oI:JX (A'++ [z]):=El.sub hr (by rw[<-e];exact List.sublist_append_left _ _);have E4:∀y∈A',bl y z=true:=λy hy=>(List.pairwise_append.1 oI).2.2 y hy z (by simp);by_cases hz:(bl z k||z==k)=true
    ·have eb:Lb l k ((n+1:Nat):Int)=some (.inr (Tg l k ((n+1:Nat):Int))):=by
      unfold Lb;rw[if_pos (by rw[AR];omega),w1,g1,Aa,if_neg (by rw[show(Op.bytesLess z k||z==k)=true from hz];simp)]
     rw[Nf (body:=λs:Int=>Lb l k s) eb];have hzz:bl z k=true\/z=k:=by simpa using hz
     have:=fin (A'++ [z]) B e (λy hy=>by
      rcases Ae.1 hy with hy|hy
      ·rcases hzz with h|h
       ·exact .inl (IE (E4 y hy) h)
       ·exact .inl (by rw[<-h];exact E4 y hy)
      ·rw[List.mem_singleton.1 hy];exact hzz) hB
     rw[Av,AO,hn]at this;exact this
    ·rw[Bool.not_eq_true]at hz;have eb:Lb l k ((n+1:Nat):Int)=some (.inl (n:Int)):=by
      unfold Lb;rw[if_pos (by rw[AR];omega),w1,g1,Aa,if_pos (by rw[show(Op.bytesLess z k||z==k)=false from hz];simp)]
     rw[T1 (body:=λs:Int=>Lb l k s) eb];have HY:bl z k=false/\z≠k:=by simpa using hz
     refine ih A' (z::B) hn (by rw[<-e];simp) λy hy=> ?_;rcases Ag.1 hy with rfl|hy
     ·exact O0 HY.1 HY.2
     ·exact hB y hy
 exact key l.length l [] rfl (by simp) (by simp)
theorem kU:∀(ks o:List Am),JX o->JX (ks.foldl (λo k=>DR k o) o)/\((∀y,y∈ks.foldl (λo k=>DR k o) o↔y∈ks\/y∈o)/\(ks.foldl (λo k=>DR k o) o).length<=ks.length+o.length)
 | [],o,h=>⟨h,by simp,by simp⟩
 |k::ks,o,h=>by
  obtain⟨a,b,c⟩:=kU ks (DR k o) (zxc h);refine⟨a,λy=> ?_,?_⟩
  ·rw[List.foldl_cons,b,zLw h];simp only[Ag];constructor
   ·rintro(x|x|x)
    ·exact .inl (.inr x)
    ·exact .inl (.inl x)
    ·exact .inr x
   ·rintro((x|x)|x)
    ·exact .inr (.inl x)
    ·exact .inl x
    ·exact .inr (.inr x)
  ·have:=Yx (key:=λs:Am=>s) (x:=k) o;unfold DR at c;rw[List.foldl_cons,AH];unfold DR;omega
theorem tB:∀a b:Am,bl a b=true↔a<b
 | [],[]=>by simp[bl,Op.bytesLess]
 | [],_::_=>by simp[bl,Op.bytesLess]
 |_::_,[]=>by simp[bl,Op.bytesLess]
 |x::a,y::b=>by rw[ZA,List.cons_lt_cons_iff,tB a b,UInt8.lt_iff_toNat_lt]
theorem zP6(a b:Am):a<=b↔Rv a b:=by
 unfold Rv;constructor
 ·intro h;cases hb:bl b a with
  |false=>rfl
  |true=>exact absurd ((tB b a).1 hb) (List.not_lt.2 h)
 ·intro h;rw[<-List.not_lt];intro hl;rw[(tB b a).2 hl]at h;cases h
theorem zB7(xs:List Am):(HQ xs).Pairwise Rv:=by
 have h:=List.pairwise_mergeSort (le:=λx y:Am=>decide (x<=y)) (λa b c h1 h2=>by
   simp only[AR]at h1 h2 ⊢;exact List.le_trans h1 h2)
  (λa b=>by simp only[Bool.or_eq_true,AR];exact List.le_total a b) xs
 refine List.Pairwise.imp (λ{a b} h=> ?_) h;exact(zP6 a b).1 (of_decide_eq_true h)
theorem zDh{xs zs:List Am}(hz:JX zs)(h:∀y,y∈zs↔y∈xs):Lib.compact (HQ xs)=zs:=by obtain⟨h1,h2⟩:=zDw (zB7 xs);refine El.ext h1 hz λy=> ?_;rw[h2,h,(zzN xs).mem_iff]
theorem zsc{α β:Type}(q:α->Bool)(f:α->List β):∀(xs:List α) (acc:List β),xs.foldlM (m:=Option) (λacc x=>if q x=true then none else some (acc++f x)) acc=if xs.any q=true then none else some (acc++xs.flatMap f)
 | [],acc=>by simp
 |x::xs,acc=>by
  rw[List.foldlM_cons,List.any_cons];by_cases hq:q x=true
  ·rw[if_pos hq,hq];rfl
  ·rw[if_neg hq];show xs.foldlM _ (acc++f x)=_;rw[zsc q f xs (acc++f x)];simp[hq,List.append_assoc]
theorem zuX{α σ:Type}(q:α->Bool)(f:σ->α->σ):∀(xs:List α) (acc:σ),xs.foldlM (m:=Option) (λacc x=>if q x=true then none else some (f acc x)) acc=if xs.any q=true then none else some (xs.foldl f acc)
 | [],acc=>by simp
 |x::xs,acc=>by
  rw[List.foldlM_cons,List.any_cons];by_cases hq:q x=true
  ·rw[if_pos hq,hq];rfl
  ·rw[if_neg hq];show xs.foldlM _ (f acc x)=_;rw[zuX q f xs (f acc x)];simp[hq]
def Jo(l:List Ap)(w:Ah):Bool:=match HN l w.ab with|some c=>decide (16<=c.au.length)|none=>false
def J3(h:AX):Prop:=h.bc.length<=8/\(h.af.length<=8/\He h.af)
def G1(w:Ah):Am:=w.ab
def DZ(hs:List AX):List Ah:=hs.flatMap (·.af)
def No(l:List Ap)(ws:List Ah):List Am:=l.map ck++ws.map G1
def Ot(l:List Ap)(ws:List Ah):Bool:= !(ws.any (Jo l))&&decide (((No l ws).foldl (λo k=>DR k o) []).length<=24)
theorem zxI:∀{hs:List AX},(∀h∈hs,J3 h)->(DZ hs).length<=8*hs.length
 | [],_=>by simp[DZ]
 |h::hs,ho=>by have h1:=(ho h (by simp)).2.1;have h2:=zxI (hs:=hs) λx hx=>ho x (by simp[hx]);unfold DZ at h2 ⊢;rw[List.flatMap_cons,Av,AH];omega
theorem zNN{s:AF}{hs:List AX}(h:DK 24 s.ao)(hl:hs.length<=13)(ho:∀h∈hs,J3 h):bQ s hs=some (decide (hs.length<=12)&&Ot s.ao (DZ hs)):=by
 obtain⟨hr,AD,hc⟩:=h;unfold bQ;have l1:=(Eh (xs:=s.ao) (body:=λz:Int × List Am=>Sx s hs z.1 z.2) (λi z=>(i,z)) (λo c=>o++ [ck c]) (λo=>uG s hs o) (λi o=>o.length=i)
  (λi hi o hol=>by refine⟨?_,by simp[hol]⟩;show Sx s hs (i:Int) o=_;unfold Sx;rw[if_pos (by simpa using hi),As hi,Aa,AI (by simp only[AO];omega),C4 (by omega)])
  (λo hol=>by show Sx s hs (s.ao.length:Int) o=_;unfold Sx;rw[if_neg (by simp)]) (s:=[]) rfl).1
 refine l1.trans ?_;have e1:=foldl_map ck s.ao [];rw[e1,List.nil_append];unfold uG;have inner:∀(i:Nat) (y:AX) (acc:List Am),J3 y->acc.length<=1000->i<=100->OI s hs (i:Int) acc=OI s hs (i:Int) acc->Ao (λz:Int × List Am=>Qr s (i:Int) y z.1 z.2) (0,acc)=some (if y.af.any (Jo s.ao)=true then .inr (some false)else .inl (((i+1:Nat):Int),acc++y.af.map G1)):=by
  intro i y acc hy ha hi _;have hy8:=hy.2.1;have key:=Ud (xs:=y.af) (body:=λz:Int × List Am=>Qr s (i:Int) y z.1 z.2) (λj z=>((j:Int),z)) (λacc w=>if Jo s.ao w=true then none else some (acc++ [G1 w])) (some (.inr (some false))) (λz=>bD (i:Int) z) (λj z=>z.length<=1000+j)
   (λj z hj hz=>by
    refine⟨?_,λa ha=> ?_⟩
    ·show Qr s (i:Int) y (j:Int) z=_;unfold Qr;rw[if_pos (by simpa using hj),As hj,Aa,pO (by omega) hr,Aa,C4 (by omega)];unfold Jo;rcases X2 hr y.af[j].ab with⟨hp,hk,hf⟩|⟨_,hf,_⟩
     ·rw[hf];simp only[Option.isSome_some,if_true];rw[As hp,Aa];by_cases UO:16<=(s.ao[Bt s.ao y.af[j].ab]).au.length
      ·rw[if_pos (by simp;omega),if_pos (by simpa using UO)]
      ·rw[if_neg (by simp;omega),if_neg (by simpa using UO),AI (by simp only[AO];omega)];rfl
     ·rw[hf];simp only[Option.isSome_none,A7,if_false];rw[AI (by simp only[AO];omega)];rfl
    ·split at ha
     ·cases ha
     ·cases ha;simp;omega)
   (λz _=>by show Qr s (i:Int) y (y.af.length:Int) z=_;unfold Qr;rw[if_neg (by simp)]) acc (by omega)
  refine key.trans ?_;rw[zsc];by_cases hq:y.af.any (Jo s.ao)=true
  ·rw[if_pos hq,if_pos hq]
  ·rw[if_neg hq,if_neg hq];show bD (i:Int) _=_;unfold bD;rw[C4 (by omega)];have e:∀l:List Ah,(l.flatMap λw=> [G1 w])=l.map G1:=λl=>by induction l with|nil=>rfl|cons x l ih=>rw[List.flatMap_cons,ih];rfl
   rw[e]
 have key:=Ud (xs:=hs) (body:=λz:Int × List Am=>OI s hs z.1 z.2) (λj z=>((j:Int),z)) (λacc y=>if y.af.any (Jo s.ao)=true then none else some (acc++y.af.map G1)) (some false) (λz=>bL hs z) (λj z=>z.length<=24+8*j)
  (λj z hj hz=>by
   have hy:=ho _ (Au hj);refine⟨?_,λa ha=> ?_⟩
   ·show OI s hs (j:Int) z=_;have:=inner j hs[j] z hy (by omega) (by omega) rfl;unfold OI;rw[if_pos (by simpa using hj),As hj,Aa];refine this.trans ?_;split<;>rfl
   ·split at ha
    ·cases ha
    ·cases ha;have:=hy.2.1;rw[Av,List.length_map];omega)
  (λz _=>by show OI s hs (hs.length:Int) z=_;unfold OI;rw[if_neg (by simp)]) (s.ao.map ck) (by simp;omega)
 refine key.trans ?_;rw[zsc (λy:AX=>y.af.any (Jo s.ao)) (λy=>y.af.map G1)];have ea:(hs.any λy=>y.af.any (Jo s.ao))=(DZ hs).any (Jo s.ao):=by unfold DZ;rw[List.any_flatMap]
 have eb:(hs.flatMap λy=>y.af.map G1)=(DZ hs).map G1:=by unfold DZ;rw[List.map_flatMap]
 rw[ea,eb];unfold Ot;by_cases hq:(DZ hs).any (Jo s.ao)=true
 ·rw[if_pos hq,hq];simp
 ·rw[if_neg hq];have Ig:=zxI ho;show bL hs _=_;unfold bL aO aP;rw[AI (by rw[Av,List.length_map,List.length_map];omega),Aa];obtain⟨g1,g2,_⟩:=kU (No s.ao (DZ hs)) [] List.Pairwise.nil;have e:=zDh (xs:=s.ao.map ck++(DZ hs).map G1) g1 λy=>by rw[g2];simp[No]
  by_cases HY:hs.length<=12
  ·rw[if_pos (by simp;omega),Aa];show some (decide (((Lib.compact (HQ (s.ao.map ck++(DZ hs).map G1))).length:Int)<=24))=_;rw[e];simp[hq,HY];omega
  ·rw[if_neg (by simp;omega)];simp[HY]
theorem zFR(k:Am)(l:List Am):(DR k l).length<=l.length+1:=Yx l
theorem zOF{s:AF}{ws:List Ah}(h:DK 24 s.ao)(hl:s.al.length<=12)(ho:∀h∈s.al,J3 h)(hw:ws.length<=8):gD s ws=some (Ot s.ao (ws++DZ s.al)):=by
 obtain⟨hr,AD,hc⟩:=h;unfold gD;have l1:=Eh (xs:=s.ao) (body:=λz:List Am × Int=>Ti s ws z.1 z.2) (λi z=>(z,i)) (λo c=>DR (ck c) o) (λo=>xA s ws o) (λi o=>JX o/\o.length<=i)
  (λi hi o hol=>by have hn:=zFR (ck s.ao[i]) o;refine⟨?_,zxc hol.1,by omega⟩;show Ti s ws o (i:Int)=_;unfold Ti;rw[if_pos (by simpa using hi),As hi,Aa,zIK (by omega) hol.1,Aa,C4 (by omega)])
  (λo hol=>by show Ti s ws o (s.ao.length:Int)=_;unfold Ti;rw[if_neg (by simp)]) (s:=[]) ⟨List.Pairwise.nil,by simp⟩
 refine l1.1.trans ?_;obtain⟨r1,r2⟩:=l1.2;unfold xA;rw[AI (by simp only[List.length_nil];omega)];have l2:=(Eh (xs:=s.al) (body:=λz:Int × List Ah=>Tl s (s.ao.foldl (λo c=>DR (ck c) o) []) z.1 z.2) (λi z=>(i,z)) (λo y=>o++y.af) (λo=>vX s (s.ao.foldl (λo c=>DR (ck c) o) []) o) (λi o=>o.length<=8+8*i)
  (λi hi o hol=>by have hy:=(ho _ (Au hi)).2.1;refine⟨?_,by rw[Av];omega⟩;show Tl s _ (i:Int) o=_;unfold Tl;rw[if_pos (by simpa using hi),As hi,Aa,AI (by omega),C4 (by omega)])
  (λo hol=>by show Tl s _ (s.al.length:Int) o=_;unfold Tl;rw[if_neg (by simp)]) (s:=ws) (by omega)).1
 refine l2.trans ?_;have eh:∀(hs:List AX) (o:List Ah),hs.foldl (λo y=>o++y.af) o=o++DZ hs:=by
  intro hs
  induction hs with
  |nil=>intro o;simp[DZ]
  |cons x hs ih=>intro o;rw[List.foldl_cons,ih];simp[DZ]
 rw[eh];have hhl:=zxI ho;unfold vX;have key:=Ud (xs:=ws++DZ s.al) (body:=λz:List Am × Int=>SM s (ws++DZ s.al) z.1 z.2) (λi z=>(z,(i:Int))) (λacc w=>if Jo s.ao w=true then none else some (DR (G1 w) acc)) (some false) (λz=>cY z) (λi z=>JX z/\z.length<=24+i)
  (λi z hi hz=>by
   have BT:=hi;rw[Av]at BT;refine⟨?_,λa ha=> ?_⟩
   ·show SM s (ws++DZ s.al) z (i:Int)=_;unfold SM;rw[if_pos (by simp only[AR];omega),As hi,Aa,zIK (by omega) hz.1,Aa,C4 (by omega)];unfold Jo;obtain⟨j,e,⟨h1,h2⟩|⟨h1,c,h2,h3⟩⟩:=zMU (l:=s.ao) (k:=(ws++DZ s.al)[i].ab) (by omega) hr
    ·rw[e,Aa,if_neg (by simpa using h1),h2];rfl
    ·rw[e,Aa,if_pos (by simpa using h1),h2,Aa,h3];by_cases UO:16<=c.au.length
     ·rw[if_pos (by simp;omega),if_pos (by simpa using UO)]
     ·rw[if_neg (by simp;omega),if_neg (by simpa using UO)];rfl
   ·split at ha
    ·cases ha
    ·cases ha;have hn:=zFR (G1 (ws++DZ s.al)[i]) z;exact⟨zxc hz.1,by omega⟩)
  (λz _=>by show SM s (ws++DZ s.al) z ((ws++DZ s.al).length:Int)=_;unfold SM;rw[if_neg (by simp)]) (s.ao.foldl (λo c=>DR (ck c) o) []) ⟨r1,by omega⟩
 refine key.trans ?_;rw[zuX (Jo s.ao) (λacc w=>DR (G1 w) acc)];unfold Ot;by_cases hq:(ws++DZ s.al).any (Jo s.ao)=true
 ·rw[if_pos hq,hq];simp
 ·rw[if_neg hq];show cY _=_;unfold cY No;have e:(s.ao.map ck++(ws++DZ s.al).map G1).foldl (λo k=>DR k o) []=(ws++DZ s.al).foldl (λacc w=>DR (G1 w) acc) (s.ao.foldl (λo c=>DR (ck c) o) []):=by
   rw[List.foldl_append,List.foldl_map (f:=ck),List.foldl_map (f:=G1)]
  rw[e,Bool.eq_false_iff.2 hq];simp only[Bool.not_false,Bool.true_and,Af,decide_eq_decide];omega
theorem zGC(l:List Ap)(a b:List Ah):Ot l (a++b)=Ot l (b++a):=by
 unfold Ot;have e:(No l (a++b)).foldl (λo k=>DR k o) []=(No l (b++a)).foldl (λo k=>DR k o) []:=by obtain⟨g1,g2,_⟩:=kU (No l (a++b)) [] List.Pairwise.nil;obtain⟨g3,g4,_⟩:=kU (No l (b++a)) [] List.Pairwise.nil;refine El.ext g1 g3 λy=> ?_;rw[g2,g4];simp[No,or_comm]
 rw[e,List.any_append,List.any_append,Bool.or_comm]
theorem zzr(ws:List Ah)(k:Am):JV ws k=(ws.find? λw=>w.ab==k).isSome:=by unfold JV;rw[Ui]
theorem zzy{ws os:List Ah}{rs:List Am}(hw:ws.length<=2000000)(hr:rs.length<=2000000)(ho:os.length<=2000000)(hR:He os):XH ws rs os=some (Dr ws rs os):=by
 unfold XH;rw[Km (xs:=ws) (λw=>JV os w.ab||rs.contains w.ab) (λw _=> ?_) (by omega),Aa]
 ·rfl
 ·unfold xM;obtain⟨i,⟨e,x,_,h⟩|⟨e,h⟩⟩:=zNW (k:=w.ab) ho hR
  ·rw[e,Aa,zzr,h];rfl
  ·rw[e,Aa,zzr,h,zMZ hr];simp
theorem zMb{h:AX}{rs:List Am}{ws:List Ah}(hh:J3 h)(hr:rs.length<=8)(hw:ws.length<=8)(hR:He ws):bC h ⟨0,0,0,rs,ws⟩=some (Ln h rs ws):=by
 obtain⟨h1,h2,h3⟩:=hh;unfold bC zqm;rw[zzy (by show ws.length<=_;omega) (by omega) (by omega) h3,Aa];unfold Ln;show(if Dr ws h.bc h.af=true then some true else _).bind _=_;cases Dr ws h.bc h.af with
 |true=>simp
 |false=>rw[if_neg (by simp)];rw[zzy (by omega) (by show rs.length<=_;omega) (by show ws.length<=_;omega) hR,Aa,Aa];simp
theorem zMi{h:AX}{rs:List Am}{ws:List Ah}(hh:J3 h)(hr:rs.length<=8)(hw:ws.length<=8):eL h rs ws=some (!Ln h rs ws):=by
 obtain⟨h1,h2,h3⟩:=hh;unfold eL;have k1:cC h ws=some (!Dr ws h.bc h.af):=by
  unfold cC;refine(QQ (xs:=ws) (λw=>JV h.af w.ab||h.bc.contains w.ab) (λ_=>some false) (some true) (λi hi=>by
   unfold vV;rw[if_pos (by simpa using hi),As hi,Aa,zJI (by omega),Aa,C4 (by omega)];cases JV h.af ws[i].ab with
   |true=>rfl
   |false=>
    rw[if_neg (by simp),zO0 (by omega),Aa,Bool.false_or];have e:h.bc.any (· ==ws[i].ab)=h.bc.contains ws[i].ab:=by rw[Bool.eq_iff_iff,List.any_eq_true,List.contains_iff_mem];exact⟨λ⟨x,hx,he⟩=>(show x=ws[i].ab by simpa using he)▸hx,λhm=>⟨_,hm,by simp⟩⟩
    rw[e];cases h.bc.contains ws[i].ab<;>rfl) (by
   unfold vV;rw[if_neg (by simp)])).trans ?_
  unfold Dr;rw[<-Ui];cases ws.find? (λw=>JV h.af w.ab||h.bc.contains w.ab)<;>rfl
 refine(QQ (xs:=rs) (λr=>JV h.af r) (λ_=>some false) (cC h ws) (λi hi=>by
  unfold uW;rw[if_pos (by simpa using hi),As hi,Aa,zJI (by omega),Aa,C4 (by omega)];cases JV h.af rs[i]<;>rfl) (by
  unfold uW;rw[if_neg (by simp)])).trans ?_
 have e:Ln h rs ws=(rs.any (JV h.af)||Dr ws h.bc h.af):=by
  unfold Ln;rw[Bool.eq_iff_iff,Bool.or_eq_true,Bool.or_eq_true];constructor
  ·rintro(hc|hc)
   ·obtain⟨w,K3,Kc⟩:=List.any_eq_true.1 hc;rcases Bool.or_eq_true _ _▸Kc with hq|hq
    ·obtain⟨v,Fu,Dh⟩:=List.any_eq_true.1 hq;have Dh:v.ab=w.ab:=by simpa using Dh
     exact .inr (List.any_eq_true.2 ⟨v,Fu,by rw[Bool.or_eq_true];left;exact List.any_eq_true.2 ⟨w,K3,by simp[Dh]⟩⟩)
    ·exact .inl (List.any_eq_true.2 ⟨w.ab,List.contains_iff_mem.1 hq,List.any_eq_true.2 ⟨w,K3,by simp⟩⟩)
   ·exact .inr hc
  ·rintro(hc|hc)
   ·obtain⟨r,Ho,D6⟩:=List.any_eq_true.1 hc;obtain⟨w,K3,Kc⟩:=List.any_eq_true.1 D6;have Kc:w.ab=r:=by simpa using Kc
    exact .inl (List.any_eq_true.2 ⟨w,K3,by rw[Bool.or_eq_true];right;exact List.contains_iff_mem.2 (Kc▸Ho)⟩)
   ·exact .inr hc
 rw[k1,e,<-Ui];cases rs.find? (JV h.af)<;>rfl
def MT(s:AF)(rs:List Am)(ws:List Ah):Bool:= !(s.al.any λh=>Ln h rs ws)&&(decide (s.al.length<12)&&Ot s.ao (ws++DZ s.al))
theorem zOf{s:AF}{rs:List Am}{ws:List Ah}(h:DK 24 s.ao)(hl:s.al.length<=12)(ho:∀h∈s.al,J3 h)(hr:rs.length<=8)(hw:ws.length<=8)(hR:He ws):cI s rs ws=some (MT s rs ws):=by
 unfold cI MT;rw[Km (xs:=s.al) (λh=>Ln h rs ws) (λy hy=>zMb (ho y hy) hr hw hR) (by omega),Aa];cases hq:s.al.any (λh=>Ln h rs ws)with
 |true=>rw[if_pos rfl];rfl
 |false=>
  rw[if_neg (by simp)];have AD:tS s.al=some s.al:=O6 (by omega) (by omega);rw[AD,Aa,AI (by simp only[AO];omega),zNN h (by simp;omega) (λy hy=>by
   rcases Ae.1 hy with hy|hy
   ·exact ho y hy
   ·have:y=⟨0,0,0,rs,ws⟩:=by simpa using hy
    subst this;exact⟨hr,hw,hR⟩),Aa]
  have e:DZ (s.al++ [(⟨0,0,0,rs,ws⟩:AX)])=DZ s.al++ws:=by unfold DZ;simp
  rw[e,zGC];simp only[Bool.not_false,Bool.true_and,Av,AO];congr 2
theorem zOd{s:AF}{rs:List Am}{ws:List Ah}(h:DK 24 s.ao)(hl:s.al.length<=12)(ho:∀h∈s.al,J3 h)(hr:rs.length<=8)(hw:ws.length<=8):fO s rs ws=some (MT s rs ws):=by
 unfold fO;refine(QQ (xs:=s.al) (λh=>Ln h rs ws) (λ_=>some false) (cW s ws) (λi hi=>by
  unfold wD;rw[if_pos (by simpa using hi),As hi,Aa,zMi (ho _ (Au hi)) hr hw,Aa,C4 (by omega),Bool.not_not];cases Ln s.al[i] rs ws<;>rfl) (by
  unfold wD;rw[if_neg (by simp)])).trans ?_
 unfold MT;rw[<-Ui];cases s.al.find? (λh=>Ln h rs ws)with
 |some y=>rfl
 |none=>
  show cW s ws=_;unfold cW;rw[zOF h hl ho hw];by_cases HY:s.al.length<12
  ·rw[if_pos (by simp;omega)];simp[HY]
  ·rw[if_neg (by simp;omega)];simp[HY]
structure WS(s:AF):Prop where
 cells:DK 24 s.ao
 od:s.al.length<=12
 iq:DP hk s.al
 held:∀h∈s.al,J3 h/\Um h.af
 ik:DP tk s.bz
 told:∀t∈s.bz,1<=tk t/\tk t<=60
structure HV(r:BH):Prop where
 reads:r.bc.length<=8
 writes:r.af.length<=8
 iq:He r.af
 small:Um r.af
 time:r.ah≠1->r.ah≠4->r.dj=true->0<r.ak
 o5:r.ah≠4->1<=r.bd/\r.bd<=60
theorem WS.gu{s:AF}(h:WS s):s.bz.length<=60:=by have:=DP.len (lo:=1) (hi:=60) h.ik h.told;omega
def Qb(r:BH):AX:=⟨r.bd,r.ak,r.bu,r.bc,r.af⟩
def JZ(l:List AX)(t:Int):List AX:=l.filter λh=>decide (hk h≠t)
def Oj(s:AF)(r:BH):List Cp:=Gc tk ⟨r.bd,r.dj,r.ak⟩ s.bz
def DO(s:AF)(r:BH):Option AF:=
 if r.ah=4 then(if s.bw<r.ak then some ⟨r.ak,s.ao,s.al,s.bz⟩else none)
 else if(Jf s r.bd).isSome=true then none
 else if r.ah=1 then
  (if(Gv s r.bd).isSome=true then none
  else if r.ak<=s.bw then none
  else if MT s r.bc r.af=true then some ⟨r.ak,s.ao,Gc hk (Qb r) s.al,s.bz⟩else none)
 else if r.dj=true then
  (match Gv s r.bd with
  |none=>none
  |some h=>if r.ak<h.ak then none else match OE s.ao h.af r.ak with
   |none=>none
   |some o=>some ⟨if s.bw<r.ak then r.ak else s.bw,o,JZ s.al r.bd,Oj s r⟩)
 else some ⟨s.bw,s.ao,JZ s.al r.bd,Oj s r⟩
theorem zxr{s:AF}{t:Int}(h: ¬(Jf s t).isSome=true):∀y∈s.bz,tk y≠t:=by
 intro y hy e;have h:(Jf s t)=none:=by cases hq:Jf s t with|none=>rfl|some x=>rw[hq]at h;exact absurd rfl h
 have:=List.find?_eq_none.1 h y hy;simp[e]at this
theorem zxj{s:AF}{t:Int}(h: ¬(Gv s t).isSome=true):∀y∈s.al,hk y≠t:=by
 intro y hy e;have h:(Gv s t)=none:=by cases hq:Gv s t with|none=>rfl|some x=>rw[hq]at h;exact absurd rfl h
 have:=List.find?_eq_none.1 h y hy;simp[e]at this
theorem DK.o7{n:Nat}{l:List Ap}(h:DK n l)(hg:I8 l=true):DK 24 l:=by unfold I8 at hg;simp only[Ac,AR,Ba]at hg;obtain⟨h1,h2,_⟩:=hg;refine⟨h.1,by omega,λc hc=> ?_⟩;obtain⟨a,b,d⟩:=h.2.2 c hc;have:=h2 c hc;unfold IC Li at this;simp only[Ac]at this;have h3:=this.2.1;unfold Ax at h3;simp only[Ac,AR]at h3;exact⟨a,by omega,d⟩
theorem zNS{l o:List Ap}{ws:List Ah}{t:Int}(h:DK 24 l)(hw:Um ws)(e:OE l ws t=some o):DK 24 o:=by
 unfold OE at e;cases h1:MZ t l ws with
 |none=>rw[h1]at e;cases e
 |some p=>
  rw[h1]at e;have e:(if I8 p=true then some p else none)=some o:=e;by_cases hg:I8 p=true
  ·rw[if_pos hg]at e;cases e;exact DK.o7 (qT (by have:=hw.1;omega) hw.2 h h1) hg
  ·rw[if_neg hg]at e;cases e
theorem WS.less{s:AF}(h:WS s)(t:Int):(JZ s.al t).length<=12/\DP hk (JZ s.al t)/\ ∀h∈JZ s.al t,J3 h/\Um h.af:=
 ⟨by have:=List.length_filter_le (λh=>decide (hk h≠t)) s.al;have:=h.od;unfold JZ;omega,h.iq.filter _,λy hy=>h.held y (List.mem_filter.1 hy).1⟩
theorem WS.og{s:AF}{r:BH}(h:WS s)(hr:HV r)(h4:r.ah≠4)(hn:∀y∈s.bz,tk y≠r.bd):DP tk (Oj s r)/\ ∀t∈Oj s r,1<=tk t/\tk t<=60:=
 ⟨h.ik.ins hn,λt ht=>by
  rcases kW.1 ht with rfl|ht
  ·exact hr.o5 h4
  ·exact h.told t ht⟩
theorem zMe{s s':AF}{r:BH}(h:WS s)(hr:HV r)(e:DO s r=some s'):WS s':=by
 unfold DO at e;split at e
 ·split at e
  ·cases e;exact⟨h.cells,h.od,h.iq,h.held,h.ik,h.told⟩
  ·cases e
 ·rename_i h4;split at e
  ·cases e
  ·rename_i Ft;have hn:=zxr Ft;split at e
   ·split at e
    ·cases e
    ·rename_i Ic;split at e
     ·cases e
     ·split at e
      ·rename_i hf;cases e;have HY:s.al.length<12:=by
        unfold MT at hf;simp only[Ac,AR]at hf;exact hf.2.1
       refine⟨h.cells,by rw[zFX];omega,h.iq.ins (zxj Ic),λy hy=> ?_,h.ik,h.told⟩;rcases kW.1 hy with rfl|hy
       ·exact⟨⟨hr.reads,hr.writes,hr.iq⟩,hr.small⟩
       ·exact h.held y hy
      ·cases e
   ·obtain⟨l1,l2,l3⟩:=h.less r.bd;obtain⟨t1,t2⟩:=h.og hr h4 hn;split at e
    ·split at e
     ·cases e
     ·rename_i x hx;split at e
      ·cases e
      ·split at e
       ·cases e
       ·rename_i o ho;cases e;exact⟨zNS h.cells (h.held x (List.mem_of_find?_eq_some hx)).2 ho,l1,l2,l3,t1,t2⟩
    ·cases e;exact⟨h.cells,l1,l2,l3,t1,t2⟩
theorem zEz{h:AX}(hh:J3 h):dL h=some h:=by obtain⟨h1,h2,_⟩:=hh;unfold dL wW TL;have e1:Qq h.bc=some h.bc:=O6 (by omega) (by omega);have e2:WX h.af=some h.af:=O6 (by omega) (by omega);rw[Aa];show((Qq h.bc).bind _).bind _=_;rw[e1,Aa];show((WX h.af).bind _).bind _=_;rw[e2];rfl
theorem zId{r:BH}(hr:HV r):TL r=some (Qb r):=by have h1:=hr.reads;have h2:=hr.writes;unfold TL;have e1:Qq r.bc=some r.bc:=O6 (by omega) (by omega);have e2:WX r.af=some r.af:=O6 (by omega) (by omega);rw[e1,Aa,e2,Aa];rfl
theorem zql{s:AF}(h:WS s):Ta s=some s:=by
 have hc:=h.cells;have hT:=h.gu;have hf:=h.od;unfold Ta;have hC:Td s.ao=some s.ao:=AI ⟨by have:=hc.2.1;omega,λc Gk=>by have:=(hc.2.2 c Gk).2.1;omega⟩;have e2:tT s.bz=some s.bz:=O6 (by omega) (by omega);rw[hC,Aa,e2,Aa];refine((Eh (xs:=s.al) (body:=λz:Int × List AX=>Sj s s.ao s.bz z.1 z.2) (λi z=>(i,z)) (λo c=>o++ [c]) (λo=>some (⟨s.bw,s.ao,o,s.bz⟩:AF)) (λi o=>o.length=i)
  (λi hi o ho=>by refine⟨?_,by simp[ho]⟩;show Sj s s.ao s.bz (i:Int) o=_;unfold Sj;rw[if_pos (by simpa using hi),As hi,Aa,zEz (h.held _ (Au hi)).1,Aa,AI (by simp only[AO];omega),C4 (by omega)])
  (λo ho=>by show Sj s s.ao s.bz (s.al.length:Int) o=_;unfold Sj;rw[if_neg (by simp)]) (s:=[]) rfl).1).trans ?_
 have e:=foldl_map (λc:AX=>c) s.al [];simp only[List.map_id',List.nil_append]at e;rw[e]
theorem zPE{α:Type}{key:α->Int}{l:List α}{x:α}(hl:l.length<=1000)(hn:∀y∈l,key y≠key x):Gt l ((AS (Bp key (key x)) l:Nat):Int) [x]=some (Gc key x l):=by have:=L5 (Bp key (key x)) l;unfold Gt;rw[AI ⟨by omega,by omega,by simp,by simp only[AO];omega⟩,Bl,qB hn]
theorem zGT{s:AF}{r:BH}(h:WS s)(hr:HV r)(h1:r.ah≠1)(h4:r.ah≠4)(Ft: ¬(Jf s r.bd).isSome=true):bF s r=some (match DO s r with|some s'=>(s',true)|none=>((⟨0,[],[],[]⟩:AF),false)):=by
 have hn:=zxr Ft;have hf:=h.od;have hT:=h.gu;unfold bF DO;rw[zql h,Aa,zFM (by omega) h.iq,Aa,if_neg h4,if_neg Ft,if_neg h1];have tail:∀(c:List Ap) (fl:Int),aZ r s (((AS (Bp hk r.bd) s.al:Nat):Int),(Gv s r.bd).isSome) c fl=some ((⟨fl,c,JZ s.al r.bd,Oj s r⟩:AF),true):=by
  intro c fl;unfold aZ;have D3:Gt s.bz ((AS (Bp tk r.bd) s.bz:Nat):Int) [(⟨r.bd,r.dj,r.ak⟩:Cp)]=some (Oj s r):=zPE (key:=tk) (x:=⟨r.bd,r.dj,r.ak⟩) (by omega) hn;have Ed:=jN (t:=r.bd) h.iq;cases hq:Gv s r.bd with
  |none=>have Hm:s.al.find? (λy=>hk y==r.bd)=none:=hq;simp only[Option.isSome_none,A7,if_false];rw[qF (s:=⟨fl,c,s.al,s.bz⟩) (by show s.bz.length<=_;omega) h.ik,Aa,D3,Aa];unfold JZ;rw[zvo Hm]
  |some x=>
   have Hm:s.al.find? (λy=>hk y==r.bd)=some x:=hq;simp only[Option.isSome_some,if_true];rw[Hm]at Ed;have hp:AS (Bp hk r.bd) s.al<s.al.length:=by
    rcases Nat.lt_or_ge (AS (Bp hk r.bd) s.al) s.al.length with hp|hp
    ·exact hp
    ·rw[List.getElem?_eq_none hp]at Ed;cases Ed
   rw[AL hp]at Ed;have hkx:hk s.al[AS (Bp hk r.bd) s.al]=r.bd:=by
    by_cases hh:hk s.al[AS (Bp hk r.bd) s.al]=r.bd
    ·exact hh
    ·have Ed:some x=if hk s.al[AS (Bp hk r.bd) s.al]=r.bd then some s.al[AS (Bp hk r.bd) s.al]else none:=Ed;rw[if_neg hh]at Ed;cases Ed
   have KH:Ys s.al ((AS (Bp hk r.bd) s.al:Nat):Int) (IntKind.i64.wrap (((AS (Bp hk r.bd) s.al:Nat):Int)+1))=some (JZ s.al r.bd):=by unfold Ys JZ;rw[C4 (by omega),AI ⟨by omega,by omega,by omega⟩,Bl,Bl,zzR h.iq hp hkx]
   rw[KH,Aa,qF (s:=⟨fl,c,JZ s.al r.bd,s.bz⟩) (by show s.bz.length<=_;omega) h.ik,Aa,D3,Aa]
 by_cases hy:r.dj=true
 ·rw[if_pos hy,if_pos hy];cases hq:Gv s r.bd with
  |none=>rfl
  |some x=>
   have Hm:s.al.find? (λy=>hk y==r.bd)=some x:=hq;have Ed:=jN (t:=r.bd) h.iq;rw[Hm]at Ed;have hp:AS (Bp hk r.bd) s.al<s.al.length:=by
    rcases Nat.lt_or_ge (AS (Bp hk r.bd) s.al) s.al.length with hp|hp
    ·exact hp
    ·rw[List.getElem?_eq_none hp]at Ed;cases Ed
   have hx:s.al[AS (Bp hk r.bd) s.al]=x:=by
    rw[AL hp]at Ed;have Ed:some x=if hk s.al[AS (Bp hk r.bd) s.al]=r.bd then some s.al[AS (Bp hk r.bd) s.al]else none:=Ed;split at Ed
    ·cases Ed;rfl
    ·cases Ed
   simp only[Option.isSome_some,if_true];rw[As hp,Aa,hx];by_cases F9:r.ak<x.ak
   ·rw[if_pos (by simpa using F9),if_pos F9]
   ·rw[if_neg (by simpa using F9),if_neg F9,zOa h.cells (h.held x (List.mem_of_find?_eq_some Hm)).2,Aa];cases ho:OE s.ao x.af r.ak with
    |none=>rfl
    |some o=>
     simp only[Bool.not_true,A7,if_false];have t:=tail o (bif decide (r.ak>s.bw)then r.ak else s.bw);rw[hq]at t;refine t.trans ?_;by_cases Ci:s.bw<r.ak
     ·rw[if_pos Ci];simp[Ci]
     ·rw[if_neg Ci];simp[Ci]
 ·rw[if_neg hy,if_neg hy];exact tail s.ao s.bw
theorem zMw{s:AF}{r:BH}(h:WS s)(hr:HV r):bH s r=some (match DO s r with|some s'=>(s',true)|none=>((⟨0,[],[],[]⟩:AF),false)):=by
 have hf:=h.od;have hT:=h.gu;unfold bH;by_cases h4:r.ah=4
 ·rw[if_pos (by simpa using h4)];unfold DO;rw[if_pos h4];by_cases Ci:s.bw<r.ak
  ·rw[if_neg (by simpa using Ci),if_pos Ci,zql h];rfl
  ·rw[if_pos (by simpa using Ci),if_neg Ci]
 ·rw[if_neg (by simpa using h4),qF (by omega) h.ik,Aa];by_cases Ft:(Jf s r.bd).isSome=true
  ·unfold DO;rw[if_neg h4,if_pos Ft,if_pos Ft]
  ·rw[if_neg Ft];by_cases h1:r.ah=1
   ·rw[if_neg (by simpa using h1),zFM (by omega) h.iq,Aa];unfold DO;rw[if_neg h4,if_neg Ft,if_pos h1];by_cases Ic:(Gv s r.bd).isSome=true
    ·rw[if_pos Ic,if_pos Ic]
    ·rw[if_neg Ic,if_neg Ic];by_cases F9:r.ak<=s.bw
     ·rw[if_pos (by simpa using F9),if_pos F9]
     ·rw[if_neg (by simpa using F9),if_neg F9,zOf h.cells hf (λy hy=>(h.held y hy).1) hr.reads hr.writes hr.iq,Aa];cases Cr:MT s r.bc r.af with
      |false=>rfl
      |true=>rw[if_neg (by simp),zql h,Aa,zId hr,Aa];have:=zPE (key:=hk) (l:=s.al) (x:=Qb r) (by omega) (zxj Ic);rw[show((AS (Bp hk r.bd) s.al:Nat):Int)=((AS (Bp hk (hk (Qb r))) s.al:Nat):Int)from rfl,this];rfl
   ·rw[if_pos (by simpa using h1),zGT h hr h1 h4 Ft];rfl
theorem zG9{h:AX}(hh:J3 h):dA h=some h:=by obtain⟨h1,h2,_⟩:=hh;unfold dA;rw[ZP (by omega),Aa,AI (by simp only[List.length_nil];omega)]
theorem zLX{s:AF}(h:WS s):iG s=some s:=by
 have hT:=h.gu;have hf:=h.od;unfold iG;rw[zIt h.cells,Aa,AI (by simp only[List.length_nil];omega)];refine((Eh (xs:=s.al) (body:=λz:Int × List AX=>Th s s.ao z.1 z.2) (λi z=>(i,z)) (λo c=>o++ [c]) (λo=>some (⟨s.bw,s.ao,o,s.bz⟩:AF)) (λi o=>o.length=i)
  (λi hi o ho=>by refine⟨?_,by simp[ho]⟩;show Th s s.ao (i:Int) o=_;unfold Th;rw[if_pos (by simpa using hi),As hi,Aa,zG9 (h.held _ (Au hi)).1,Aa,AI (by simp only[AO];omega),C4 (by omega)])
  (λo ho=>by show Th s s.ao (s.al.length:Int) o=_;unfold Th;rw[if_neg (by simp)]) (s:=[]) rfl).1).trans ?_
 have e:=foldl_map (λc:AX=>c) s.al [];simp only[List.map_id',List.nil_append]at e;rw[e]
theorem zLl{s:AF}{r:BH}(h:WS s)(hr:HV r):∃x,eI s r=some (x,(DO s r).isSome)/\ ∀s',DO s r=some s'->x=s':=by
 have hf:=h.od;have hT:=h.gu;have hrl:=hr.reads;have hwl:=hr.writes;unfold eI;rw[zLX h,Aa,zI8 (by omega),Aa,zJ0 (by omega),Aa];by_cases h4:r.ah=4
 ·rw[if_pos (by simpa using h4)];unfold DO;rw[if_pos h4];refine⟨⟨r.ak,s.ao,s.al,s.bz⟩,?_,?_⟩
  ·by_cases Ci:s.bw<r.ak
   ·rw[if_pos Ci];simp[Ci]
   ·rw[if_neg Ci];simp[Ci]
  ·intro s' e;split at e
   ·cases e;rfl
   ·cases e
 ·rw[if_neg (by simpa using h4)];by_cases Ft:(Jf s r.bd).isSome=true
  ·have ea:DO s r=none:=by unfold DO;rw[if_neg h4,if_pos Ft]
   rw[ea];cases hq:Jf s r.bd with
   |none=>rw[hq]at Ft;cases Ft
   |some x=>exact⟨s,rfl,λs' e=>by cases e⟩
  ·have Zl:Jf s r.bd=none:=by cases hq:Jf s r.bd with|none=>rfl|some x=>rw[hq]at Ft;exact absurd rfl Ft
   have hn:=zxr Ft;rw[Zl];simp only[A7,if_false];by_cases h1:r.ah=1
   ·rw[if_pos (by simpa using h1),ZP (by omega),Aa,AI (by simp only[List.length_nil];omega)];obtain⟨l,KR,Ig⟩:=zGP (l:=s.al) (h:=Qb r) (by omega) h.iq;rw[show(⟨r.bd,r.ak,r.bu,r.bc,r.af⟩:AX)=Qb r from rfl,KR,Aa];by_cases Ic:(Gv s r.bd).isSome=true
    ·have ea:DO s r=none:=by unfold DO;rw[if_neg h4,if_neg Ft,if_pos h1,if_pos Ic]
     rw[ea];cases hq:Gv s r.bd with
     |none=>rw[hq]at Ic;cases Ic
     |some x=>exact⟨_,rfl,λs' e=>by cases e⟩
    ·have hhn:Gv s r.bd=none:=by cases hq:Gv s r.bd with|none=>rfl|some x=>rw[hq]at Ic;exact absurd rfl Ic
     have ea:DO s r=if r.ak<=s.bw then none else if MT s r.bc r.af=true then some ⟨r.ak,s.ao,Gc hk (Qb r) s.al,s.bz⟩else none:=by unfold DO;rw[if_neg h4,if_neg Ft,if_pos h1,if_neg Ic]
     rw[ea,hhn];simp only[A7,if_false];by_cases F9:r.ak<=s.bw
     ·rw[if_neg (by simpa using F9),if_pos F9];exact⟨_,rfl,λs' e=>by cases e⟩
     ·rw[if_pos (by simpa using F9),if_neg F9,zOd h.cells hf (λy hy=>(h.held y hy).1) hr.reads hr.writes,Aa];cases Cr:MT s r.bc r.af with
      |false=>exact⟨_,rfl,λs' e=>by cases e⟩
      |true=>rw[Ig (zxj Ic)];exact⟨_,rfl,λs' e=>by cases e;rfl⟩
   ·rw[if_neg (by simpa using h1)];obtain⟨tl,Oc,LH⟩:=zGl (l:=s.bz) (h:=⟨r.bd,r.dj,r.ak⟩) (by omega) h.ik;have LH:=LH hn;by_cases hy:r.dj=true
    ·rw[if_pos hy];cases hq:Gv s r.bd with
     |none=>
      have ea:DO s r=none:=by unfold DO;rw[if_neg h4,if_neg Ft,if_neg h1,if_pos hy,hq]
      rw[ea];exact⟨_,rfl,λs' e=>by cases e⟩
     |some x=>
      have ea:DO s r=if r.ak<x.ak then none else match OE s.ao x.af r.ak with
       |none=>none
       |some o=>some ⟨if s.bw<r.ak then r.ak else s.bw,o,JZ s.al r.bd,Oj s r⟩:=by unfold DO;rw[if_neg h4,if_neg Ft,if_neg h1,if_pos hy,hq]<;>rfl
      rw[ea];simp only[Bool.not_true,Bool.false_or];by_cases F9:r.ak<x.ak
      ·rw[if_pos (by simpa using F9),if_pos F9];exact⟨_,rfl,λs' e=>by cases e⟩
      ·rw[if_neg (by simpa using F9),if_neg F9,zNs h.cells (h.held x (List.mem_of_find?_eq_some hq)).2 (hr.time h1 h4 hy),Aa];unfold OE;cases ho:MZ r.ak s.ao x.af with
       |none=>exact⟨_,rfl,λs' e=>by cases e⟩
       |some o=>
        cases hg:I8 o with
        |false=>simp only[hg,Bool.not_false,if_true];exact⟨_,rfl,λs' e=>by cases e⟩
        |true=>
         simp only[hg,Bool.not_true,A7,if_false,if_true];have VA:iL s.bw r.ak=some (if s.bw<r.ak then r.ak else s.bw):=by
          unfold iL;by_cases Ci:s.bw<r.ak
          ·rw[if_pos Ci,if_neg (by simp;omega)]
          ·rw[if_neg Ci];by_cases PC:s.bw>r.ak
           ·rw[if_pos (by simpa using PC)]
           ·rw[if_neg (by simpa using PC)];rw[show r.ak=s.bw by omega]
         rw[VA,Aa,zGh (by omega),Aa,Oc,Aa,LH];exact⟨_,rfl,λs' e=>by cases e;rfl⟩
    ·have ea:DO s r=some ⟨s.bw,s.ao,JZ s.al r.bd,Oj s r⟩:=by unfold DO;rw[if_neg h4,if_neg Ft,if_neg h1,if_neg hy]
     rw[if_neg hy,ea,zGh (by omega),Aa,Oc,Aa,LH];exact⟨_,rfl,λs' e=>by cases e;rfl⟩
def Kt:AF:=⟨0,[],[],[]⟩
def Jl(s:AF)(r:BH):AF:=(DO s r).getD s
def UJ(rs:List BH):AF:=rs.foldl Jl Kt
theorem pH:WS Kt where
 cells:=⟨List.Pairwise.nil,by simp[Kt],λc hc=>by simp[Kt]at hc⟩
 od:=by simp[Kt]
 iq:=List.Pairwise.nil
 held:=λh hh=>by simp[Kt]at hh
 ik:=List.Pairwise.nil
 told:=λh hh=>by simp[Kt]at hh
theorem WS.step{s:AF}{r:BH}(h:WS s)(hr:HV r):WS (Jl s r):=by
 unfold Jl;cases e:DO s r with
 |none=>exact h
 |some s'=>exact zMe h hr e
theorem zFO:∀(rs:List BH) (s:AF),WS s->(∀r∈rs,HV r)->WS (rs.foldl Jl s)
 | [],s,h,_=>h
 |r::rs,s,h,hr=>zFO rs (Jl s r) (h.step (hr r (by simp))) λx hx=>hr x (by simp[hx])
theorem zJv{rs:List BH}(hr:∀r∈rs,HV r):WS (UJ rs):=zFO rs _ pH hr
theorem pV:∀(rs:List BH) (s:AF) (b:List Bool),(rs.foldl (λ(z:AF × List Bool) r=>(Jl z.1 r,z.2++ [(DO z.1 r).isSome])) (s,b)).1=rs.foldl Jl s
 | [],_,_=>rfl
 |r::rs,s,b=>pV rs (Jl s r) _
theorem zGk{rs:List BH}(hl:rs.length<=1000000)(hr:∀r∈rs,HV r):∃b,gM rs=some (UJ rs,b):=by
 refine⟨(rs.foldl (λ(z:AF × List Bool) r=>(Jl z.1 r,z.2++ [(DO z.1 r).isSome])) (Kt,[])).2,?_⟩;unfold gM;have:=(Eh (xs:=rs) (body:=λs:Int × Int × List Ap × List AX × List Cp × List Bool=>SS rs s.1 s.2.1 s.2.2.1 s.2.2.2.1 s.2.2.2.2.1 s.2.2.2.2.2) (λi (z:AF × List Bool)=>(i,z.1.bw,z.1.ao,z.1.al,z.1.bz,z.2)) (λz r=>(Jl z.1 r,z.2++ [(DO z.1 r).isSome])) (λz=>some (z.1,z.2)) (λi z=>WS z.1/\z.2.length=i)
  (λi hi z hz=>by
   have VO:=hr _ (Au hi);refine⟨?_,hz.1.step VO,by simp[hz.2]⟩;have P9:=hz.2;show SS rs (i:Int) z.1.bw z.1.ao z.1.al z.1.bz z.2=_;unfold SS;rw[if_pos (by simpa using hi),As hi,Aa,show(⟨z.1.bw,z.1.ao,z.1.al,z.1.bz⟩:AF)=z.1 from rfl,zMw hz.1 VO,Aa,C4 (by omega)];unfold Jl;cases e:DO z.1 rs[i]with
   |none=>simp only[A7,if_false];rw[AI (by simp only[AO];omega)];rfl
   |some s'=>simp only[if_true];rw[AI (by simp only[AO];omega)];rfl)
  (λz _=>by show SS rs (rs.length:Int) z.1.bw z.1.ao z.1.al z.1.bz z.2=_;unfold SS;rw[if_neg (by simp)]) (s:=(Kt,[])) ⟨pH,rfl⟩).1
 refine this.trans ?_;rw[pV];rfl
theorem zQs{rs:List BH}(hl:rs.length<=1000000)(hr:∀r∈rs,HV r):∃b,jF rs=some (UJ rs,b):=by
 refine⟨(rs.foldl (λ(z:AF × List Bool) r=>(Jl z.1 r,z.2++ [(DO z.1 r).isSome])) (Kt,[])).2,?_⟩;unfold jF;have:=(Eh (xs:=rs) (body:=λs:List Bool × Int × Int × List Ap × List AX × List Cp=>TF rs s.1 s.2.1 s.2.2.1 s.2.2.2.1 s.2.2.2.2.1 s.2.2.2.2.2) (λi (z:AF × List Bool)=>(z.2,i,z.1.bw,z.1.ao,z.1.al,z.1.bz)) (λz r=>(Jl z.1 r,z.2++ [(DO z.1 r).isSome])) (λz=>some (z.1,z.2)) (λi z=>WS z.1/\z.2.length=i)
  (λi hi z hz=>by
   have VO:=hr _ (Au hi);refine⟨?_,hz.1.step VO,by simp[hz.2]⟩;have P9:=hz.2;show TF rs z.2 (i:Int) z.1.bw z.1.ao z.1.al z.1.bz=_;unfold TF;obtain⟨x,e1,e2⟩:=zLl hz.1 VO;rw[if_pos (by simpa using hi),As hi,Aa,show(⟨z.1.bw,z.1.ao,z.1.al,z.1.bz⟩:AF)=z.1 from rfl,e1,Aa,C4 (by omega)];unfold Jl;cases e:DO z.1 rs[i]with
   |none=>simp only[Option.isSome_none,A7,if_false];rw[AI (by simp only[AO];omega)];rfl
   |some s'=>simp only[Option.isSome_some,if_true];rw[AI (by simp only[AO];omega),e2 s' e];rfl)
  (λz _=>by show TF rs z.2 (rs.length:Int) z.1.bw z.1.ao z.1.al z.1.bz=_;unfold TF;rw[if_neg (by simp)]) (s:=(Kt,[])) ⟨pH,rfl⟩).1
 refine this.trans ?_;rw[pV];rfl
theorem zGE{es:List B8}(hl:es.length<=1000000)(hr:∀e∈es,HV e.fRec):gA es=some (UJ (es.map (·.fRec))):=by
 unfold gA;refine((Eh (xs:=es) (body:=λz:Int × List BH=>SD es z.1 z.2) (λi z=>(i,z)) (λo c=>o++ [c.fRec]) (λo=>wN o) (λi o=>o.length=i)
  (λi hi o ho=>by refine⟨?_,by simp[ho]⟩;show SD es (i:Int) o=_;unfold SD;rw[if_pos (by simpa using hi),As hi,Aa,AI (by simp only[AO];omega),C4 (by omega)])
  (λo ho=>by show SD es (es.length:Int) o=_;unfold SD;rw[if_neg (by simp)]) (s:=[]) rfl).1).trans ?_
 have e:=foldl_map (λc:B8=>c.fRec) es [];rw[e,List.nil_append];unfold wN;obtain⟨b,hb⟩:=zGk (rs:=es.map (·.fRec)) (by simpa using hl) (λr Er=>by obtain⟨x,hx,rfl⟩:=List.mem_map.1 Er;exact hr x hx);rw[hb];rfl
theorem zMy{es:List B8}{n:Nat}(hn:n<=es.length)(hl:es.length<=1000000)(hr:∀e∈es,HV e.fRec):eR es (n:Int)=some (UJ ((es.take n).map (·.fRec))):=by
 have htl:(es.take n).length<=1000000:=by rw[AE];omega
 unfold eR;rw[AI (by omega)];refine((Eh (xs:=es.take n) (body:=λz:List BH × Int=>S6 es (n:Int) z.1 z.2) (λi z=>(z,i)) (λo c=>o++ [c.fRec]) (λo=>vK o) (λi o=>o.length=i)
  (λi hi o ho=>by refine⟨?_,by simp[ho]⟩;show S6 es (n:Int) o (i:Int)=_;unfold S6;rw[WV,if_pos (by simp only[AR];omega),As hi,Aa,AI (by simp only[AO];omega),C4 (by omega)])
  (λo ho=>by show S6 es (n:Int) o ((es.take n).length:Int)=_;unfold S6;rw[WV,if_neg (by simp only[AR];omega)]) (s:=[]) rfl).1).trans ?_
 have e:=foldl_map (λc:B8=>c.fRec) (es.take n) [];rw[e,List.nil_append];unfold vK;obtain⟨b,hb⟩:=zQs (rs:=(es.take n).map (·.fRec)) (by simpa using htl) (λr Er=>by obtain⟨x,hx,rfl⟩:=List.mem_map.1 Er;exact hr x (BD hx));rw[hb];rfl
def RJ(r:Cu):Prop:=0<=r.cw/\(r.cw<=r.cr.length/\(r.cr.length<=1000000/\ ∀e∈r.cr,HV e.fRec))
def IJ(b r:Cu):Cu:=if b.cw<r.cw then r else b
def sM(r:Cu):AF:=UJ ((r.cr.take r.cw.toNat).map (·.fRec))
def WR(g:BZ):Prop:= ∃r rs,g.ar=r::rs/\(g.ar.length<=1000/\ ∀x∈g.ar,RJ x)
def JU(g:BZ):AF:=match g.ar with|r::rs=>sM ((r::rs).foldl IJ r)| []=>Kt
theorem zz6:∀(rs:List Cu) (b:Cu),rs.foldl IJ b=b\/rs.foldl IJ b∈rs
 | [],_=> .inl rfl
 |r::rs,b=>by
  rw[List.foldl_cons];rcases zz6 rs (IJ b r)with h|h
  ·rw[h];unfold IJ;split
   ·exact .inr (by simp)
   ·exact .inl rfl
  ·exact .inr (by simp[h])
theorem zNl{g:BZ}(h:WR g):bB g=some (JU g):=by
 obtain⟨r,rs,e,hl,ho⟩:=h;have hm:bO g=some ((r::rs).foldl IJ r):=by
  unfold bO;have h0:0<g.ar.length:=by rw[e];simp
  have FF:Ak g.ar 0=some r:=by have:=As (i:=0) h0;simpa[e]using this
  rw[FF,Aa];refine((Eh (xs:=g.ar) (body:=λs:Int × Bool × List B8 × Int=>R7 g s.1 s.2.1 s.2.2.1 s.2.2.2) (λi (b:Cu)=>(i,b.ju,b.cr,b.cw)) IJ (λb=>some b) (λ_ _=>True)
   (λi hi b _=>by
    refine⟨?_,trivial⟩;show R7 g (i:Int) b.ju b.cr b.cw=_;unfold R7 IJ;rw[if_pos (by simpa using hi),As hi,Aa,C4 (by omega)];by_cases hb:b.cw<(g.ar[i]).cw
    ·rw[if_pos (by simpa using hb),if_pos hb]
    ·rw[if_neg (by simpa using hb),if_neg hb])
   (λb _=>by show R7 g (g.ar.length:Int) b.ju b.cr b.cw=_;unfold R7;rw[if_neg (by simp)]) (s:=r) trivial).1).trans ?_
  rw[e]
 have A3:RJ ((r::rs).foldl IJ r):=by
  rcases zz6 (r::rs) r with h|h
  ·rw[h];exact ho r (by rw[e];simp)
  ·exact ho _ (by rw[e];exact h)
 obtain⟨o1,o2,o3,o4⟩:=A3;unfold bB uU JU;rw[hm,Aa,AI ⟨by omega,o1,o2⟩,Aa,e];have ew:AU ((r::rs).foldl IJ r).cr 0 ((r::rs).foldl IJ r).cw=((r::rs).foldl IJ r).cr.take ((r::rs).foldl IJ r).cw.toNat:=by unfold AU;simp
 rw[ew,zGE (by rw[AE];omega) (λx hx=>o4 x (BD hx)),Aa];rfl
theorem zN0{g:BZ}(h:WR g):eV g=some (JU g):=by
 obtain⟨r,rs,e,hl,ho⟩:=h;have key:∀(n q j:Nat) (hj:j<g.ar.length),q+n=g.ar.length-> ∃(k:Nat) (hk:k<g.ar.length),g.ar[k]=(g.ar.drop q).foldl IJ g.ar[j]/\Ao (λs:Int × Int=>QA g s.1 s.2) ((q:Int),(j:Int))=wI g (k:Int):=by
  intro n
  induction n with
  |zero=>
   intro q j hj hq;have eq:q=g.ar.length:=by omega
   subst eq;refine⟨j,hj,by simp,?_⟩;refine Nf ?_;show QA g (g.ar.length:Int) (j:Int)=_;unfold QA;rw[if_neg (by simp)]
  |succ n ih=>
   intro q j hj hq;have AP:q<g.ar.length:=by omega
   have hb:QA g (q:Int) (j:Int)=some (.inl (((q+1:Nat):Int),(((if g.ar[j].cw<g.ar[q].cw then q else j):Nat):Int))):=by
    unfold QA;rw[if_pos (by simpa using AP),As AP,Aa,As hj,Aa,C4 (by omega)];by_cases hc:g.ar[j].cw<g.ar[q].cw
    ·rw[if_pos (by simpa using hc),if_pos hc]
    ·rw[if_neg (by simpa using hc),if_neg hc]
   rw[T1 (body:=λs:Int × Int=>QA g s.1 s.2) (s:=((q:Int),(j:Int))) hb];have J8:(if g.ar[j].cw<g.ar[q].cw then q else j)<g.ar.length:=by split<;>assumption
   obtain⟨k,hk,h1,h2⟩:=ih (q+1) _ J8 (by omega);refine⟨k,hk,?_,h2⟩;rw[h1,By AP,List.foldl_cons];congr 1;unfold IJ;by_cases hc:g.ar[j].cw<g.ar[q].cw
   ·simp only[hc,if_true]
   ·simp only[hc,if_false]
 have h0:0<g.ar.length:=by rw[e];simp
 obtain⟨k,hk,h1,h2⟩:=key g.ar.length 0 0 h0 (by omega);unfold eV;refine h2.trans ?_;have IY:g.ar[0]=r:=by simp[e]
 rw[List.drop_zero,IY]at h1;obtain⟨o1,o2,o3,o4⟩:=ho _ (Au hk);have hs:g.ar[k].cw=((g.ar[k].cw.toNat:Nat):Int):=by omega
 unfold wI;rw[As hk,Aa,hs,zMy (by omega) o3 o4,Aa,h1];unfold JU sM;rw[e]
def zQ4(a b:Int):Int:=if b<a then b else a
def zLA(s:AF):Int:=s.al.foldl (λv h=>zQ4 v (IntKind.i64.wrap (h.ak-1))) s.bw
theorem RJ.recs{r:Cu}(h:RJ r):WS (sM r):=by
 obtain⟨_,_,_,h4⟩:=h;exact zJv λx hx=>by obtain⟨e,he,rfl⟩:=List.mem_map.1 hx;exact h4 e (BD he)
theorem WR.ws{g:BZ}(h:WR g):WS (JU g):=by
 obtain⟨r,rs,e,hl,ho⟩:=h;unfold JU;rw[e];rcases zz6 (r::rs) r with h|h
 ·exact RJ.recs (by rw[h];exact ho r (by rw[e];simp))
 ·exact RJ.recs (ho _ (by rw[e];exact h))
def lK(w:BG):Prop:=w.az.length<=1000/\ ∀g∈w.az,WR g
def L4(w:BG):List AF:=w.az.map JU
theorem zJy{w:BG}(h:lK w):bA w=some (L4 w):=by
 unfold bA;have hl:=h.1;refine((Eh (xs:=w.az) (body:=λz:Int × List AF=>Sg w z.1 z.2) (λi z=>(i,z)) (λo g=>o++ [JU g]) (λo=>some o) (λi o=>o.length=i)
  (λi hi o ho=>by refine⟨?_,by simp[ho]⟩;show Sg w (i:Int) o=_;unfold Sg;rw[if_pos (by simpa using hi),As hi,Aa,zNl (h.2 _ (Au hi)),Aa,AI (by simp only[AO];omega),C4 (by omega)])
  (λo _=>by show Sg w (w.az.length:Int) o=_;unfold Sg;rw[if_neg (by simp)]) (s:=[]) rfl).1).trans ?_
 rw[foldl_map JU w.az [],List.nil_append];rfl
def toB(ss:List AF):Int:=ss.foldl (λv s=>zQ4 v (zLA s)) 100000
def Lz(t:Int)(c:Ap):Option Ah:=if(IN t c.au.reverse).2=true then some ⟨c.ab,(IN t c.au.reverse).1,false⟩else none
def Gw(l:List Ap)(t:Int):List Ah:=l.filterMap (Lz t)
theorem zwt{α β:Type}(f:α->Option β):∀(l:List α) (o:List β),l.foldl (λo x=>o++(f x).toList) o=o++l.filterMap f
 | [],o=>by simp
 |x::l,o=>by rw[List.foldl_cons,zwt f l,List.filterMap_cons];cases f x<;>simp
theorem zGA{l:List Ap}{t:Int}(h:DK 24 l):fR l t=some (Gw l t):=by
 have hl:=h.2.1;unfold fR;refine((Eh (xs:=l) (body:=λz:Int × List Ah=>SN l t z.1 z.2) (λi z=>(i,z)) (λo c=>o++(Lz t c).toList) (λo=>some o) (λi o=>o.length<=i)
  (λi hi o ho=>by
   have hv:=(h.2.2 _ (Au hi)).2.1;have U3:dV l[i] t=some (IN t l[i].au.reverse):=AI (by omega);unfold Lz;constructor
   ·show SN l t (i:Int) o=_;unfold SN;rw[if_pos (by simpa using hi),As hi,Aa,U3,Aa,C4 (by omega)];by_cases hb:(IN t l[i].au.reverse).2=true
    ·rw[if_pos hb,if_pos hb,AI (by simp only[AO];omega)];rfl
    ·rw[if_neg hb,if_neg hb];simp
   ·split
    ·simp;omega
    ·simp;omega)
  (λo _=>by show SN l t (l.length:Int) o=_;unfold SN;rw[if_neg (by simp)]) (s:=[]) (by simp)).1).trans ?_
 rw[zwt (Lz t) l [],List.nil_append];rfl
theorem qG(t:Int):∀m:List CD,IN t m=match m.find? (λv=>decide (v.ak<=t))with|some v=>(v.aw, !v.bm)|none=>([],false)
 | []=>rfl
 |v::m=>by
  rw[IN,List.find?_cons];by_cases h:v.ak<=t
  ·rw[if_pos h];simp[h]
  ·rw[if_neg h,qG t m];simp[h]
def RY(t:Int)(z:Bool × CD)(v:CD):Bool × CD:=if v.ak<=t then(true,v)else z
theorem zL8(t:Int)(z:Bool × CD)(l:List CD):l.foldl (RY t) z=match l.reverse.find? (λv=>decide (v.ak<=t))with|some v=>(true,v)|none=>z:=by
 rw[List.foldl_eq_foldr_reverse];generalize l.reverse=m
 induction m with
 |nil=>rfl
 |cons v m ih=>
  rw[List.foldr_cons,ih,List.find?_cons];unfold RY;by_cases h:v.ak<=t
  ·rw[if_pos h];simp[h]
  ·rw[if_neg h];simp[h]
theorem zPi{c:Ap}{t:Int}(h:c.au.length<=1000):iU c t=some ((c.au.foldl (RY t) (false,⟨0,[],false⟩)).2,(c.au.foldl (RY t) (false,⟨0,[],false⟩)).1):=by
 unfold iU;exact((Eh (xs:=c.au) (body:=λs:Bool × Int × Int × Ab × Bool=>Tt c t s.1 s.2.1 s.2.2.1 s.2.2.2.1 s.2.2.2.2) (λi (z:Bool × CD)=>(z.1,i,z.2.ak,z.2.aw,z.2.bm)) (RY t) (λz=>some (z.2,z.1)) (λ_ _=>True)
  (λi hi z _=>by
   refine⟨?_,trivial⟩;show Tt c t z.1 (i:Int) z.2.ak z.2.aw z.2.bm=_;unfold Tt RY;rw[if_pos (by simpa using hi),As hi,Aa,C4 (by omega)];by_cases hb:(c.au[i]).ak<=t
   ·rw[if_pos (by simpa using hb),if_pos hb]
   ·rw[if_neg (by simpa using hb),if_neg hb])
  (λz _=>by show Tt c t z.1 (c.au.length:Int) z.2.ak z.2.aw z.2.bm=_;unfold Tt;rw[if_neg (by simp)]) (s:=(false,⟨0,[],false⟩)) trivial).1)
theorem zPt{l:List Ap}{t:Int}(h:DK 24 l):iS l t=some (Gw l t):=by
 have hl:=h.2.1;unfold iS;refine((Eh (xs:=l) (body:=λz:List Ah × Int=>Tz l t z.1 z.2) (λi z=>(z,i)) (λo c=>o++(Lz t c).toList) (λo=>some o) (λi o=>o.length<=i)
  (λi hi o ho=>by
   have hv:=(h.2.2 _ (Au hi)).2.1;constructor
   ·show Tz l t o (i:Int)=_;unfold Tz Lz;rw[if_pos (by simpa using hi),As hi,Aa,zPi (by omega),Aa,C4 (by omega),zL8,qG];cases hq:l[i].au.reverse.find? (λv=>decide (v.ak<=t))with
    |none=>simp
    |some v=>
     by_cases hg:v.bm=true
     ·simp[hg]
     ·have hg:v.bm=false:=by simpa using hg
      simp only[hg,Bool.not_false,Bool.and_self,if_true];rw[AI (by simp only[AO];omega)];rfl
   ·unfold Lz;split
    ·simp;omega
    ·simp;omega)
  (λo _=>by show Tz l t o (l.length:Int)=_;unfold Tz;rw[if_neg (by simp)]) (s:=[]) (by simp)).1).trans ?_
 rw[zwt (Lz t) l [],List.nil_append];rfl
def Pb(o ws:List Ah):List Ah:=ws.foldl (λo w=>DQ wk w o) o
def JR(ss:List AF)(t:Int):List Ah:=ss.foldl (λo s=>Pb o (Gw s.ao t)) []
def Gh(n:Nat)(o:List Ah):Prop:=He o/\(o.length<=n/\ ∀w∈o,w.ab.length<=2000000/\w.aw.length<=2000000)
theorem Gh.ins{n:Nat}{o:List Ah}{w:Ah}(h:Gh n o)(hw:w.ab.length<=2000000/\w.aw.length<=2000000):Gh (n+1) (DQ wk w o):=by
 refine⟨kM h.1,?_,λx hx=> ?_⟩
 ·have:=Yx (key:=wk) (x:=w) o;have:=h.2.1;omega
 ·rcases(Yn (key:=wk) h.1 x).1 hx with rfl|⟨hx,_⟩
  ·exact hw
  ·exact h.2.2 x hx
theorem Gh.put{ws:List Ah}:∀{n:Nat} {o:List Ah},Gh n o->(∀w∈ws,w.ab.length<=2000000/\w.aw.length<=2000000)->Gh (n+ws.length) (Pb o ws):=by
 induction ws with
 |nil=>intro n o h _;exact h
 |cons w ws ih=>intro n o h hw;have:=ih (Gh.ins h (hw w (by simp))) λx hx=>hw x (by simp[hx]);rw[AH,show n+(ws.length+1)=n+1+ws.length by omega];exact this
theorem pI{l:List Ap}{t:Int}(h:DK 24 l):(Gw l t).length<=24/\ ∀w∈Gw l t,w.ab.length<=2000000/\w.aw.length<=2000000:=by
 constructor
 ·have:=List.length_filterMap_le (Lz t) l;have:=h.2.1;unfold Gw;omega
 ·intro w hw;obtain⟨c,hc,e⟩:=List.mem_filterMap.1 hw;obtain⟨_,_,h1,_,h2⟩:=h.2.2 c hc;unfold Lz at e;split at e
  ·cases e;refine⟨h1,?_⟩;show(IN t c.au.reverse).1.length<=_;rw[qG];cases hq:c.au.reverse.find? (λv=>decide (v.ak<=t))with
   |none=>simp
   |some v=>exact h2 v (List.mem_reverse.1 (List.mem_of_find?_eq_some hq))
  ·cases e
theorem zC1{t:Int}:∀(ss:List AF) (n:Nat) (o:List Ah),Gh n o->(∀s∈ss,WS s)->Gh (n+24*ss.length) (ss.foldl (λo s=>Pb o (Gw s.ao t)) o)
 | [],n,o,h,_=>h
 |s::ss,n,o,h,hs=>by
  obtain⟨h1,h2⟩:=pI (t:=t) (hs s (by simp)).cells;have h3:=Gh.put h h2;have h4:Gh (n+24) (Pb o (Gw s.ao t)):=⟨h3.1,by have:=h3.2.1;omega,h3.2.2⟩
  have:=zC1 (t:=t) ss (n+24) _ h4 λx hx=>hs x (by simp[hx]);rw[AH,List.foldl_cons,show n+24*(ss.length+1)=n+24+24*ss.length by omega];exact this
def sS(ss:List AF)(t:Int):List Ah × Bool:=if Hw (JR ss t)=true then(JR ss t,true)else([],false)
theorem zzv{ss:List AF}{t:Int}(hl:ss.length<=1000)(h:∀s∈ss,WS s):UA (JR ss t):=by have:=zC1 (t:=t) ss 0 [] ⟨List.Pairwise.nil,by simp,λw hw=>by simp at hw⟩ h;exact⟨by have:=this.2.1;unfold JR;omega,this.2.2⟩
theorem zJ8{ss:List AF}{t:Int}(hl:ss.length<=1000)(h:∀s∈ss,WS s):gW ss t=some (sS ss t):=by
 unfold gW;refine((Eh (xs:=ss) (body:=λz:Int × List Ah=>Tb ss t z.1 z.2) (λi z=>(i,z)) (λo s=>Pb o (Gw s.ao t)) (λo=>cN o) (λi o=>Gh (24*i) o)
  (λi hi o ho=>by
   have hs:=(h _ (Au hi)).cells;obtain⟨h1,h2⟩:=pI (t:=t) hs;have hp:=Gh.put ho h2;refine⟨?_,hp.1,by have:=hp.2.1;omega,hp.2.2⟩;show Tb ss t (i:Int) o=_;unfold Tb;rw[if_pos (by simpa using hi),As hi,Aa,zGA hs,Aa];refine((Eh (xs:=Gw (ss[i]).ao t) (body:=λz:Int × List Ah=>S7 (i:Int) (Gw (ss[i]).ao t) z.1 z.2) (λj z=>(j,z)) (λo w=>DQ wk w o) (λo=>xF (i:Int) o) (λj o=>Gh (24*i+j) o)
    (λj hj o ho=>by refine⟨?_,Gh.ins ho (h2 _ (Au hj))⟩;show S7 (i:Int) _ (j:Int) o=_;unfold S7;rw[if_pos (by simpa using hj),As hj,Aa,zGM (by have:=ho.2.1;omega) ho.1,Aa,C4 (by omega)])
    (λo _=>by show S7 (i:Int) _ ((Gw (ss[i]).ao t).length:Int) o=_;unfold S7;rw[if_neg (by simp)]) (s:=o) ho).1).trans ?_
   unfold xF;rw[C4 (by omega)];rfl)
  (λo _=>by show Tb ss t (ss.length:Int) o=_;unfold Tb;rw[if_neg (by simp)]) (s:=[]) ⟨List.Pairwise.nil,by simp,λw hw=>by simp at hw⟩).1).trans ?_
 show cN (JR ss t)=_;unfold cN sS;rw[zCI (zzv hl h),Aa];cases Hw (JR ss t)<;>rfl
theorem zOA{w:BG}{t:Int}(h:lK w):eW w t=some (JR (L4 w) t):=by
 have hl:=h.1;unfold eW;have:=((Eh (xs:=w.az) (body:=λz:List Ah × Int=>SH w t z.1 z.2) (λi z=>(z,i)) (λo g=>Pb o (Gw (JU g).ao t)) (λo=>some o) (λi o=>Gh (24*i) o)
  (λi hi o ho=>by
   have hg:=h.2 _ (Au hi);have hs:=hg.ws.cells;obtain⟨h1,h2⟩:=pI (t:=t) hs;have hp:=Gh.put ho h2;refine⟨?_,hp.1,by have:=hp.2.1;omega,hp.2.2⟩;show SH w t o (i:Int)=_;unfold SH;rw[if_pos (by simpa using hi),As hi,Aa,zN0 hg,Aa,zPt hs,Aa];refine((Eh (xs:=Gw (JU w.az[i]).ao t) (body:=λz:Int × List Ah=>Tp (i:Int) (Gw (JU w.az[i]).ao t) z.1 z.2) (λj z=>(j,z)) (λo w=>DQ wk w o) (λo=>wG (i:Int) o) (λj o=>Gh (24*i+j) o)
    (λj hj o ho=>by refine⟨?_,Gh.ins ho (h2 _ (Au hj))⟩;show Tp (i:Int) _ (j:Int) o=_;unfold Tp;rw[if_pos (by simpa using hj),As hj,Aa,zOE (by have:=ho.2.1;omega) ho.1,Aa,C4 (by omega)])
    (λo _=>by show Tp (i:Int) _ ((Gw (JU w.az[i]).ao t).length:Int) o=_;unfold Tp;rw[if_neg (by simp)]) (s:=o) ho).1).trans ?_
   unfold wG;rw[C4 (by omega)];rfl)
  (λo _=>by show SH w t o (w.az.length:Int)=_;unfold SH;rw[if_neg (by simp)]) (s:=[]) ⟨List.Pairwise.nil,by simp,λw hw=>by simp at hw⟩).1)
 refine this.trans ?_;unfold JR L4;rw[List.foldl_map]
end
end Go.Proofs.YtlmjpjceiefpoaaGreatDoor

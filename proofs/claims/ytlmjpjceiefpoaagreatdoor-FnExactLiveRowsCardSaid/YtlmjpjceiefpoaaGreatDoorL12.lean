/- Parts of a proof, joined: NGB, NGC, NGD, NGE, N17, N18, N19, N20, N21, N22, NR, NGF, NGG, NGH, QLL, QLM, QE, NGI, NTB. -/
import Derived.Test.YtlmjpjceiefpoaaGreatDoorL11
set_option linter.unusedVariables false
set_option linter.unusedSimpArgs false
namespace Go.Proofs.YtlmjpjceiefpoaaGreatDoor
open Go.RowKit
section
set_option maxRecDepth 100000
set_option maxHeartbeats 1000000
structure Yq(l:List B8):Prop where
 len:l.length<=2000000
 recs:∀e∈l,Yp e.fRec
def LQ(l:List B8)(i:Nat):Bool:=i==0||decide (((l[i-1]?).map (·.cd)).getD 0<=((l[i]?).map (·.cd)).getD 0)
def LB(t:Int)(e:B8):Bool:=Ax e.cd 1 t&&G9 e.fRec
def Uu(l:List B8)(t:Int):Bool:=decide ((l.length:Int)<=60)&&(l.all (LB t)&&(List.range l.length).all (LQ l))
theorem zOJ{l:List B8}{t:Int}(h:Yq l):jE l t=some (Uu l t):=by
 have hn:=h.len;unfold jE;rw[FZ (n:=l.length) (body:=λs:Int=>Ts l t s) (λi=>((l[i]?).map (LB t)).getD true&&LQ l i) false (yC l) ?_ (by show Ts l t l.length=_;unfold Ts;rw[if_neg (by simp)]),Uj l (LB t) (LQ l) _ λi hi=>by simp[hi]]
 ·unfold yC Uu;cases(l.all (LB t)&&(List.range l.length).all (LQ l))<;>simp
 ·intro i hi;have hr:=h.recs _ (Au hi);show Ts l t i=_;simp only[Ts,Int.ofNat_lt,hi,decide_true,if_true,As hi,Aa,Fx,zNC hr,BA hi (by omega:l.length<=_),AL hi,Option.map_some,Be,LB,LQ];by_cases h0:i=0
  ·subst h0;cases Ax l[0].cd 1 t<;>cases G9 l[0].fRec<;>simp
  ·have hp:(i:Int)>0:=by omega
   have CO:i-1<l.length:=by omega
   have hb:(i==0)=false:=by simpa using h0
   have hd:decide (l[i].cd<l[i-1].cd)= !decide (l[i-1].cd<=l[i].cd):=by
    by_cases hx:l[i-1].cd<=l[i].cd
    ·simp[hx]
    ·simp[hx];omega
   simp only[hp,decide_true,if_true,JN (Nat.pos_of_ne_zero h0) (by omega:i<=2000000),As CO,Aa,AL CO,Option.map_some,Be,hb,Bool.false_or,hd];cases Ax l[i].cd 1 t<;>cases G9 l[i].fRec<;>cases decide (l[i-1].cd<=l[i].cd)<;>rfl
def G8(r:Cu)(t:Int):Bool:=Uu r.cr t&&Ax r.cw 0 (r.cr.length:Int)
def Lw(l:List B8)(i:Nat):Int:=if i=0 then 1 else((l[i-1]?).map (·.cd)).getD 0
def Mf(l:List B8)(t:Int)(i:Nat):Bool:=Ax (((l[i]?).map (·.cd)).getD 0) (Lw l i) t&&((l[i]?).map λe=>G9 e.fRec).getD true
theorem zLg(l:List B8)(t:Int):(List.range l.length).all (Mf l t)=(l.all (LB t)&&(List.range l.length).all (LQ l)):=by
 rw[<-Uj l (LB t) (LQ l) (λi=>((l[i]?).map (LB t)).getD true&&LQ l i) λi hi=>by simp[hi]];rw[Bool.eq_iff_iff];simp only[Ba,List.mem_range];constructor
 ·intro h;have key:∀i,i<l.length->1<=((l[i]?).map (·.cd)).getD 0:=by
   intro i
   induction i with
   |zero=>intro hi;have:=h 0 hi;unfold Mf Lw at this;rw[Ac]at this;exact(D8.1 this.1).1
   |succ i ih=>intro hi;have h1:=h (i+1) hi;have h2:=ih (by omega);unfold Mf Lw at h1;rw[Ac,if_neg (by omega)]at h1;have:=(D8.1 h1.1).1;rw[show i+1-1=i from rfl]at this;omega
  intro i hi;have h1:=h i hi;have h2:=key i hi;unfold Mf Lw at h1;simp only[Ac,AL hi,Option.map_some,Be]at h1 h2 ⊢;have h3:=D8.1 h1.1;refine⟨?_,?_⟩
  ·unfold LB;rw[Ac];exact⟨D8.2 ⟨h2,h3.2⟩,h1.2⟩
  ·unfold LQ;by_cases h0:i=0
   ·simp[h0]
   ·rw[if_neg h0]at h3;simp only[Bool.or_eq_true,AR,AL hi,Option.map_some,Be];exact .inr h3.1
 ·intro h i hi;have h1:=h i hi;simp only[Ac,AL hi,Option.map_some,Be]at h1;unfold LB at h1;rw[Ac]at h1;have h3:=D8.1 h1.1.1;unfold Mf Lw;simp only[Ac,AL hi,Option.map_some,Be];refine⟨D8.2 ⟨?_,h3.2⟩,h1.1.2⟩;by_cases h0:i=0
  ·rw[if_pos h0];exact h3.1
  ·rw[if_neg h0];have h2:=h1.2;unfold LQ at h2;simp only[Bool.or_eq_true,AR,AL hi,Option.map_some,Be,Ay]at h2;rcases h2 with h2|h2
   ·exact absurd h2 h0
   ·exact h2
theorem zI4{r:Cu}{t:Int}(h:Yq r.cr):Xw r t=some (G8 r t):=by
 have hn:=h.len;unfold Xw G8 Uu;by_cases hl:(r.cr.length:Int)<=60
 ·rw[if_neg (by simpa using hl),Fl,Aa];cases hs:Ax r.cw 0 (r.cr.length:Int)with
  |false=>rw[if_pos (by simp),Bool.and_false]
  |true=>
   rw[if_neg (by simp),Bool.and_true,show decide ((r.cr.length:Int)<=60)=true by simpa using hl,Bool.true_and,<-zLg r.cr t];have h1:=kS (xs:=List.range r.cr.length) (body:=λs:Int × Int=>Sk r t s.1 s.2) (λi (_:Unit)=>(Lw r.cr i.toNat,i)) (λi _=>some (if Mf r.cr t i=true then .inl ()else .inr (some false))) (λ_=>some true)
    (λi hi s=>by
     rw[List.length_range]at hi;have hr:=h.recs _ (Au hi);rw[List.getElem_range,Bl];have ep:Lw r.cr (i+1)=r.cr[i].cd:=by unfold Lw;rw[if_neg (by omega)];simp[hi]
     show Sk r t (Lw r.cr i) i=_;unfold Sk;rw[if_pos (by simpa using hi),As hi,Aa,Fl,Aa,zOI hr,BA hi (by omega:r.cr.length<=_)];have es:Mf r.cr t i=(Ax r.cr[i].cd (Lw r.cr i) t&&G9 r.cr[i].fRec):=by unfold Mf;simp only[AL hi,Option.map_some,Be]
     rw[es];cases Ax r.cr[i].cd (Lw r.cr i) t<;>cases G9 r.cr[i].fRec<;>simp[MR,ep]) (λs=>by
     rw[List.length_range];show Sk r t _ r.cr.length=_;unfold Sk;rw[if_neg (by simp)]) ()
   rw[qU (Mf r.cr t) false λx _ s=>rfl]at h1;refine(h1:Ao _ _=_).trans ?_;cases(List.range r.cr.length).all (Mf r.cr t)<;>rfl
 ·rw[if_pos (by simpa using hl),show decide ((r.cr.length:Int)<=60)=false by simpa using hl];rfl
theorem zN3{r:Cu}{g:BZ}(h:Yq r.cr):SY r g=some (!G8 r g.cd):=by
 unfold SY G8;rw[zOJ h,Aa];cases Uu r.cr g.cd with
 |false=>rfl
 |true=>rw[if_pos rfl,Fx,Aa,Bool.true_and]
structure lJ(g:BZ):Prop where
 len:g.ar.length<=2000000
 n6:∀r∈g.ar,Yq r.cr
def NJ(g:BZ):Bool:=if g.bu<0 then true else((g.ar[g.bu.toNat]?).map (·.ju)).getD false
def Nh(g:BZ):Bool:=(((g.ar.length:Int)==3)||((g.ar.length:Int)==5))&&(Ax g.cd 0 200&&(Ax g.bu (-1) ((g.ar.length:Int)-1)&&(g.ar.all (λr=>G8 r g.cd)&&NJ g)))
theorem pK{g:BZ}(h0:0<=g.bu)(h1:g.bu<=(g.ar.length:Int)-1):∃r,Ak g.ar g.bu=some r/\NJ g=r.ju:=by obtain⟨r,e,_,e2⟩:=rG (xs:=g.ar) h0 (by omega);refine⟨r,e,?_⟩;unfold NJ;rw[if_neg (by omega),e2];rfl
theorem zH2{g:BZ}(h:lJ g):dP g=some (Nh g):=by
 have hn:=h.len;have w:IntKind.i64.wrap ((g.ar.length:Int)-1)=(g.ar.length:Int)-1:=Cf (by omega) (by omega);have tail:∀{body:Int->Option (Int ⊕ Option Bool)} {fin:Option Bool},(∀i (hi:i<g.ar.length),body (i:Int)=some (if G8 g.ar[i] g.cd=true then .inl ((i+1:Nat):Int)else .inr (some false)))->body (g.ar.length:Int)=some (.inr fin)->Ao body 0=if(g.ar.all λr=>G8 r g.cd)=true then fin else some false:=
  λ{body fin} hs he=>Jc (xs:=g.ar) (λr=>G8 r g.cd) false fin hs he
 unfold dP Nh;have rest:∀{body:Int->Option (Int ⊕ Option Bool)} {fin:Option Bool},(∀i (hi:i<g.ar.length),body (i:Int)=some (if G8 g.ar[i] g.cd=true then .inl ((i+1:Nat):Int)else .inr (some false)))->body (g.ar.length:Int)=some (.inr fin)->(Ax g.bu (-1) ((g.ar.length:Int)-1)=true->fin=some (NJ g))->
   ((Dj g.cd 0 200).bind λv1=>if v1=true then(Dj g.bu (-1) (IntKind.i64.wrap ((g.ar.length:Int)-1))).bind λv2=>if(!v2)=true then some false else Ao body 0 else some false)=some (Ax g.cd 0 200&&(Ax g.bu (-1) ((g.ar.length:Int)-1)&&(g.ar.all (λr=>G8 r g.cd)&&NJ g))):=by
  intro body fin hs he hf;rw[Fl,Aa,Fl,w];cases Ax g.cd 0 200 with
  |false=>rfl
  |true=>
   rw[if_pos rfl,Aa];cases hi:Ax g.bu (-1) ((g.ar.length:Int)-1)with
   |false=>rfl
   |true=>rw[if_neg (by simp),tail hs he,hf hi];cases(g.ar.all λr=>G8 r g.cd)<;>simp
 by_cases h3:(g.ar.length:Int)=3
 ·rw[if_neg (by simp[h3]),show((g.ar.length:Int)==3)=true by simpa using h3,Bool.true_or,Bool.true_and];refine rest (fin:=vG g) (λi hi=>by
   show Xb g i=_;unfold Xb;rw[if_pos (by simpa using hi),As hi,Aa,zI4 (h.n6 _ (Au hi)),Aa,BA hi (by omega:g.ar.length<=_)];cases G8 g.ar[i] g.cd<;>rfl) (by
   show Xb g g.ar.length=_;unfold Xb;rw[if_neg (by simp)]) (λhi=> ?_)
  have hb:=D8.1 hi;unfold vG;by_cases hl:g.bu<0
  ·rw[if_pos (by simpa using hl)];unfold NJ;rw[if_pos hl]
  ·rw[if_neg (by simpa using hl)];obtain⟨r,e1,e2⟩:=pK (g:=g) (by omega) hb.2;rw[e1,Aa,e2]
 ·by_cases h5:(g.ar.length:Int)=5
  ·rw[if_pos (by simpa using h3),if_neg (by simp[h5]),show((g.ar.length:Int)==5)=true by simpa using h5,Bool.or_true,Bool.true_and];refine rest (fin:=uZ g) (λi hi=>by
    show Xe g i=_;unfold Xe;rw[if_pos (by simpa using hi),As hi,Aa,zI4 (h.n6 _ (Au hi)),Aa,BA hi (by omega:g.ar.length<=_)];cases G8 g.ar[i] g.cd<;>rfl) (by
    show Xe g g.ar.length=_;unfold Xe;rw[if_neg (by simp)]) (λhi=> ?_)
   have hb:=D8.1 hi;unfold uZ;by_cases hl:g.bu<0
   ·rw[if_pos (by simpa using hl)];unfold NJ;rw[if_pos hl]
   ·rw[if_neg (by simpa using hl)];obtain⟨r,e1,e2⟩:=pK (g:=g) (by omega) hb.2;rw[e1,Aa,e2]
  ·rw[if_pos (by simpa using h3),if_pos (by simpa using h5),show((g.ar.length:Int)==3)=false by simpa using h3,show((g.ar.length:Int)==5)=false by simpa using h5];rfl
theorem zIi{g:BZ}(h:lJ g):dR g=some (Nh g):=by
 have hn:=h.len;have w:IntKind.i64.wrap ((g.ar.length:Int)-1)=(g.ar.length:Int)-1:=Cf (by omega) (by omega);have ha:Dy g.ar (λy0_=>SY y0_ g)=some (g.ar.any λr=> !G8 r g.cd):=Km _ (λr hr=>zN3 (h.n6 r hr)) (by omega);have hb:(!(g.ar.any λr=> !G8 r g.cd))=g.ar.all λr=>G8 r g.cd:=by rw[<-List.not_all_eq_any_not,Bool.not_not]
 unfold dR zW uS Nh;rw[Aa,ha];cases(((g.ar.length:Int)==3)||((g.ar.length:Int)==5))with
 |false=>rfl
 |true=>
  rw[if_pos rfl,Fx,Aa,Bool.true_and];cases Ax g.cd 0 200 with
  |false=>by_cases hl:g.bu= -1<;>simp[hl]
  |true=>
   by_cases hl:g.bu= -1
   ·have e1:Ax g.bu (-1) ((g.ar.length:Int)-1)=true:=D8.2 ⟨by omega,by omega⟩;have e2:NJ g=true:=by unfold NJ;rw[if_pos (by omega)]
    rw[if_neg (by simp[hl]),if_neg (by simp),Aa,hb,e1,e2,Bool.and_true];rfl
   ·rw[if_pos (by simpa using hl),if_pos rfl,Fx,Aa,Aa,w];cases hi:Ax g.bu 0 ((g.ar.length:Int)-1)with
    |false=>
     have e1:Ax g.bu (-1) ((g.ar.length:Int)-1)=false:=by rw[<-Bool.not_eq_true]at hi ⊢;rw[D8]at hi ⊢;omega
     rw[e1];rfl
    |true=>
     have FC:=D8.1 hi;have e1:Ax g.bu (-1) ((g.ar.length:Int)-1)=true:=D8.2 ⟨by omega,FC.2⟩;obtain⟨r,e2,e3⟩:=pK (g:=g) FC.1 FC.2;rw[if_pos rfl,e2,Aa,e1,e3];cases r.ju with
     |false=>simp
     |true=>rw[if_neg (by simp),Aa,hb];simp
def rO(o:AK):Prop:=o.ab.length<=2000000/\o.aw.length<=2000000
def Jg(o:AK):Bool:=Ax o.ah 1 7&&(CM o.ab&&(Kp o.aw&&(((o.ah==2||o.ah==7)||o.aw==[])&&(Ax o.ic (-9999) 9999&&((o.ah==4||o.ah==5)||o.ic==0)))))
theorem zNU{o:AK}(h:rO o):jJ o=some (Jg o):=by unfold jJ zB iZ Jg;rw[Fx,Aa,ZO h.1,Aa,zMW h.2,Aa,Fx];simp only[Aa];cases Ax o.ah 1 7<;>cases CM o.ab<;>cases Kp o.aw<;>cases(o.ah==2||o.ah==7)<;>cases(o.aw==[])<;>cases Ax o.ic (-9999) 9999<;>rfl
theorem zQH{o:AK}(h:rO o):jI o=some (Jg o):=by
 have e0:Kp ([]:Am)=true:=by decide
 have b0:Ax 0 (-9999) 9999=true:=by decide
 unfold jI;rw[Lq h.1,Aa];unfold Jg;cases hk:CM o.ab with
 |false=>simp
 |true=>
  rw[if_neg (by simp)];have hj:∀b,(b=true↔(o.ah=2\/o.ah=7))->fV o b=some (Jg o):=by
   intro b hb;unfold fV;rw[sI h.2,Fl];simp only[Aa];cases b with
   |true=>
    have:=hb.1 rfl;have h1:Ax o.ah 1 7=true:=D8.2 (by omega);have h2:(o.ah==2||o.ah==7)=true:=by simpa using this
    have h3:(o.ah==4||o.ah==5)=false:=by simp;omega
    rw[if_pos rfl];unfold Jg;rw[h1,h2,h3,hk];by_cases hB:o.ic=0
    ·rw[hB,b0];simp
    ·have:(o.ic==0)=false:=by simpa using hB
     rw[this];simp
   |false=>
    have Cc: ¬(o.ah=2\/o.ah=7):=λx=>by simpa using hb.2 x
    rw[if_neg (by simp)];unfold Jg;have h2:(o.ah==2||o.ah==7)=false:=by simp;omega
    rw[h2,hk];by_cases hv:o.aw=[]
    ·rw[hv,e0];by_cases k4:o.ah=4
     ·rw[k4];simp[show Ax 4 1 7=true by decide]
     ·by_cases k5:o.ah=5
      ·rw[k5];simp[show Ax 5 1 7=true by decide]
      ·have h3:(o.ah==4||o.ah==5)=false:=by simp;omega
       have q4:(o.ah==4)=false:=by simpa using k4
       have q5:(o.ah==5)=false:=by simpa using k5
       rw[q4,q5];simp only[A7,if_false];by_cases hB:o.ic=0
       ·rw[hB,b0];have:(((o.ah==1)||(o.ah==3))||(o.ah==6))=Ax o.ah 1 7:=by
         rw[Bool.eq_iff_iff];simp only[Bool.or_eq_true,Ay,D8];omega
        rw[this];simp
       ·have:(o.ic==0)=false:=by simpa using hB
        rw[this];simp
    ·have VZ:(o.aw==[])=false:=by simpa using hv
     rw[VZ];simp<;>(split<;>(try split)<;>simp_all)
  by_cases k2:o.ah=2
  ·rw[if_pos (by simpa using k2),hj _ (by simp[k2])];unfold Jg;rw[hk]
  ·rw[if_neg (by simpa using k2),hj _ (by simp[k2])];unfold Jg;rw[hk]
def QZ(l:List AK):Bool:=decide ((l.length:Int)<=8)&&l.all Jg
def lB(l:List AK):Prop:=l.length<=2000000/\ ∀o∈l,rO o
theorem zHq{l:List AK}(h:lB l):gL l=some (QZ l):=by
 have e1:Dy l (λy0_=>cL y0_)=some (l.any λo=> !Jg o):=Km _ (λo ho=>by unfold cL;rw[zNU (h.2 o ho)];rfl) (by have:=h.1;omega)
 unfold gL QZ;by_cases hl:(l.length:Int)<=8
 ·rw[if_pos (by simpa using hl),e1,Aa,<-List.not_all_eq_any_not];simp[hl]
 ·rw[if_neg (by simpa using hl)];simp[hl]
theorem zHk{l:List AK}(h:lB l):iO l=some (QZ l):=by
 have hn:=h.1;unfold iO;rw[Jc (xs:=l) (body:=λs:Int=>S9 l s) Jg false (xD l) (λi hi=>by
  show S9 l i=_;unfold S9;rw[if_pos (by simpa using hi),As hi,Aa,zQH (h.2 _ (Au hi)),Aa,BA hi (by omega)];cases Jg l[i]<;>rfl) (by
  show S9 l l.length=_;unfold S9;rw[if_neg (by simp)])]
 unfold xD QZ;cases l.all Jg<;>simp
def Wk(l:List Cd):Prop:=l.length<=2000000/\ ∀g∈l,g.ab.length<=2000000/\g.aw.length<=2000000
def Qj(l:List Cd)(i:Nat):Bool:=match l[i]? with|some g=>CM g.ab&&(Fk g.aw (!g.dz)&& !((l.take i).any λh=>h.ab==g.ab))|none=>true
def L3(l:List Cd):Bool:=(List.range l.length).all (Qj l)&&decide ((l.length:Int)<=8)
theorem zFI{l:List Cd}{i:Nat}(hi:i<l.length):Qj l i=(CM l[i].ab&&(Fk l[i].aw (!l[i].dz)&& !((l.take i).any λh=>h.ab==l[i].ab))):=by unfold Qj;rw[AL hi]
theorem RB{α:Type}(l:List α)(i:Nat):AU l 0 (i:Int)=l.take i:=by unfold AU;simp
theorem zII{l:List Cd}(h:Wk l):XS l=some (L3 l):=by
 have hn:=h.1;unfold XS;rw[FZ (n:=l.length) (body:=λs:Int=>Tf l s) (Qj l) false (xC l) (λi hi=>by
  show Tf l i=_;have hm:=h.2 _ (Au hi);rw[zFI hi];unfold Tf;rw[if_pos (by simpa using hi),As hi,Aa,ZO hm.1,Aa];cases CM l[i].ab with
  |false=>rfl
  |true=>
   rw[if_pos rfl,kC hm.2,Aa];cases Fk l[i].aw (!l[i].dz)with
   |false=>rfl
   |true=>rw[if_pos rfl,AI (by omega),RB,Km (p:=λy0_=>yD y0_ l[i]) (λx:Cd=>x.ab==l[i].ab) (λx _=>rfl) (by rw[AE];omega),Aa,BA hi (by omega)];cases(l.take i).any (λx:Cd=>x.ab==l[i].ab)<;>rfl) (by
  show Tf l l.length=_;unfold Tf;rw[if_neg (by simp)])]
 unfold xC L3;cases(List.range l.length).all (Qj l)<;>simp
theorem zJe{l:List Cd}(h:Wk l):XO l=some (L3 l):=by
 have hn:=h.1;unfold XO;rw[FZ (n:=l.length) (body:=λs:Int=>S8 l s) (Qj l) false (xG l) (λi hi=>by
  show S8 l i=_;have hm:=h.2 _ (Au hi);rw[zFI hi];unfold S8;rw[if_pos (by simpa using hi),As hi,Aa,Lq hm.1,Aa];cases CM l[i].ab with
  |false=>rfl
  |true=>
   rw[if_pos rfl,sI hm.2,Aa];have est:((!Kp l[i].aw)||((!l[i].dz)&&(l[i].aw !=([]:Ab))))= !Fk l[i].aw (!l[i].dz):=by unfold Fk;cases Kp l[i].aw<;>cases l[i].dz<;>simp[bne]
   rw[est];cases Fk l[i].aw (!l[i].dz)with
   |false=>rfl
   |true=>
    rw[if_neg (by simp),AI (by omega)];have hit:(l.take i).length=i:=by rw[AE];omega
    have e4:Ao (λs:Int=>QC l i l[i] s) 0=if(l.take i).all (λx:Cd=> !(l[i].ab==x.ab))=true then eB (i:Int)else some (.inr (some false)):=by
     refine Jc (xs:=l.take i) (body:=λs:Int=>QC l i l[i] s) (λx:Cd=> !(l[i].ab==x.ab)) (.inr (some false)) (eB (i:Int)) (λj hj=> ?_) ?_
     ·show QC l i l[i] j=_;unfold QC;rw[RB,if_pos (by simpa using hj),As hj,Aa,BA hj (by omega)];cases(l[i].ab==(l.take i)[j].ab)<;>rfl
     ·show QC l i l[i] (l.take i).length=_;unfold QC;rw[RB,if_neg (by simp)]
    rw[e4];unfold eB;have ea:(l.take i).all (λx:Cd=> !(l[i].ab==x.ab))= !((l.take i).any λh=>h.ab==l[i].ab):=by rw[Bool.eq_iff_iff];simp only[Ba,Bk,List.any_eq_false,beq_eq_false_iff_ne,Ay];exact⟨λq x hx e=>q x hx e.symm,λq x hx e=>q x hx e.symm⟩
    rw[ea,BA hi (by omega)];cases(l.take i).any (λh=>h.ab==l[i].ab)<;>rfl) (by
  show S8 l l.length=_;unfold S8;rw[if_neg (by simp)])]
 unfold xG L3;cases(List.range l.length).all (Qj l)<;>simp
def Zz(l:List Bh):Prop:=l.length<=2000000/\ ∀x∈l,x.ab.length<=2000000
def OB(x:Bh):Bool:=CM x.ab&&Ax x.bd 1 60
def zML(a b:Bh):Bool:=((a.ab==b.ab)&&(a.bd !=b.bd))&&(a.ei||b.ei)
def Mh(a b:Bh):Bool:=zML a b||((a.ab==b.ab)&&(a.bd==b.bd))
def Re(l:List Bh)(i:Nat):Bool:=match l[i]? with|some x=>OB x&& !((l.take i).any λy=>Mh x y)|none=>true
def OZ(l:List Bh):Bool:=(List.range l.length).all (Re l)&&decide ((l.length:Int)<=60)
theorem zCf{l:List Bh}{i:Nat}(hi:i<l.length):Re l i=(OB l[i]&& !((l.take i).any λy=>Mh l[i] y)):=by unfold Re;rw[AL hi]
theorem zJF{l:List Bh}(h:Zz l):dX l=some (OZ l):=by
 have hn:=h.1;unfold dX;rw[FZ (n:=l.length) (body:=λs:Int=>Sw l s) (Re l) false (uY l) (λi hi=>by
  show Sw l i=_;have hm:=h.2 _ (Au hi);rw[zCf hi];have e1:gR l[i]=some (OB l[i]):=by unfold gR OB;rw[ZO hm,Aa,qS,Aa];cases CM l[i].ab<;>rfl
  unfold Sw;rw[if_pos (by simpa using hi),As hi,Aa,e1,Aa];cases OB l[i]with
  |false=>rfl
  |true=>rw[if_pos rfl,AI (by omega),RB,Km (p:=λy0_=>vM y0_ l[i]) (λy:Bh=>Mh l[i] y) (λx _=>rfl) (by rw[AE];omega),Aa,BA hi (by omega)];cases(l.take i).any (λy:Bh=>Mh l[i] y)<;>rfl) (by
  show Sw l l.length=_;unfold Sw;rw[if_neg (by simp)])]
 unfold uY OZ;cases(List.range l.length).all (Re l)<;>simp
theorem zIe{l:List Bh}(h:Zz l):fB l=some (OZ l):=by
 have hn:=h.1;unfold fB;rw[FZ (n:=l.length) (body:=λs:Int=>To l s) (Re l) false (w5 l) (λi hi=>by
  show To l i=_;have hm:=h.2 _ (Au hi);rw[zCf hi];have e1:fJ l[i]=some (OB l[i]):=by unfold fJ OB;rw[Lq hm,Aa,Fl,Aa];cases CM l[i].ab<;>rfl
  unfold To;rw[if_pos (by simpa using hi),As hi,Aa,e1,Aa];cases OB l[i]with
  |false=>rfl
  |true=>
   rw[if_neg (by simp),AI (by omega)];have hit:(l.take i).length=i:=by rw[AE];omega
   have e4:Ao (λs:Int=>Qz l i l[i] s) 0=if(l.take i).all (λy:Bh=> !Mh l[i] y)=true then cU (i:Int)else some (.inr (some false)):=by
    refine Jc (xs:=l.take i) (body:=λs:Int=>Qz l i l[i] s) (λy:Bh=> !Mh l[i] y) (.inr (some false)) (cU (i:Int)) (λj hj=> ?_) ?_
    ·show Qz l i l[i] j=_;unfold Qz eM Mh zML;rw[RB,if_pos (by simpa using hj),As hj,Aa,BA hj (by omega),Aa];generalize (l.take i)[j]=y;by_cases hk:l[i].ab=y.ab
     ·by_cases ht:l[i].bd=y.bd
      ·rw[if_pos (by simpa using hk),if_pos (by simpa using ht)];simp[hk,ht]
      ·rw[if_pos (by simpa using hk),if_neg (by simpa using ht)];cases l[i].ei<;>cases y.ei<;>simp[hk,ht]
     ·rw[if_neg (by simpa using hk)];simp[hk]
    ·show Qz l i l[i] (l.take i).length=_;unfold Qz;rw[RB,if_neg (by simp)]
   rw[e4];unfold cU;have ea:(l.take i).all (λy:Bh=> !Mh l[i] y)= !((l.take i).any λy=>Mh l[i] y):=by rw[List.not_any_eq_all_not]
   rw[ea,BA hi (by omega)];cases(l.take i).any (λy=>Mh l[i] y)<;>rfl) (by
  show To l l.length=_;unfold To;rw[if_neg (by simp)])]
 unfold w5 OZ;cases(List.range l.length).all (Re l)<;>simp
structure ZF(t:CU):Prop where
 ops:lB t.ef
 got:Wk t.cm
 ow:t.c6.length<=2000000
structure kA(l:Cw):Prop where
 keys:Md l.ch
 got:Wk l.cm
structure YP(w:BG):Prop where
 mj:Md w.br
 nu:w.az.length<=2000000
 group:∀g∈w.az,lJ g
 oj:∀l∈w.cj,Zz l
 oi:w.bj.length<=2000000
 nk:w.bh.length<=2000000
 pc:w.cf.length<=2000000
 o5:∀t∈w.cf,ZF t
 looks:w.cc.length<=2000000
 look:∀l∈w.cc,kA l
theorem qW{l:List Int}{a b:Int}(h:l.length<=2000000):TP l a b=some (l.all λx=>Ax x a b):=by
 unfold TP;rw[Jc (xs:=l) (body:=λs:Int=>Tq l a b s) (λx=>Ax x a b) false (some true) (λi hi=>by
  show Tq l a b i=_;unfold Tq;rw[if_pos (by simpa using hi),As hi,Aa,Fl,Aa,BA hi (by omega)];cases Ax l[i] a b<;>rfl) (by
  show Tq l a b l.length=_;unfold Tq;rw[if_neg (by simp)])]
 cases(l.all λx=>Ax x a b)<;>rfl
def Ll(w:BG)(t:CU):Bool:=QZ t.ef&&(decide ((t.ef.length:Int)>0)&&(L3 t.cm&&(((t.c6.length:Int)==(w.az.length:Int))&&((t.c6.all λx=>Ax x 0 200)&&(Ax t.di (-1) w.cy&&(Ax t.fw (-1) w.cy&&Ax t.ak 0 100000))))))
theorem zOC{w:BG}{t:CU}(h:ZF t):iI w t=some (Ll w t):=by unfold iI Ll;simp only[zHk h.ops,zJe h.got,qW h.ow,Fl,lA,Aa];cases QZ t.ef<;>cases decide ((t.ef.length:Int)>0)<;>cases L3 t.cm<;>cases((t.c6.length:Int)==(w.az.length:Int))<;>cases(t.c6.all λx=>Ax x 0 200)<;>cases Ax t.di (-1) w.cy<;>cases Ax t.fw (-1) w.cy<;>rfl
theorem zKH{w:BG}{t:CU}(h:ZF t):aY w t=some (Ll w t):=by
 have ha:Dy t.c6 (λy0_=>tY y0_)=some (t.c6.any λx=> !Ax x 0 200):=Km _ (λx _=>rfl) (by have:=h.ow;omega);have hb:(t.c6.any λx=> !Ax x 0 200)= !(t.c6.all λx=>Ax x 0 200):=by rw[<-List.not_all_eq_any_not]
 unfold aY xN Qx Ll;simp only[zHq h.ops,zII h.got,ha,hb,Fx,Yw,Aa];cases QZ t.ef<;>cases decide ((t.ef.length:Int)>0)<;>cases L3 t.cm<;>cases((t.c6.length:Int)==(w.az.length:Int))<;>cases(t.c6.all λx=>Ax x 0 200)<;>cases Ax t.di (-1) w.cy<;>cases Ax t.fw (-1) w.cy<;>rfl
def Uz(l:Cw)(i:Nat):Bool:=match l.cm[i]?,l.ch[i]? with|some g,some k=>g.ab==k|_,_=>true
def Lh(w:BG)(l:Cw):Bool:=Ax l.ff 0 ((w.bh.length:Int)-1)&&(Fz l.ch&&(Ax (l.ch.length:Int) 1 8&&(decide ((l.cm.length:Int)<=(l.ch.length:Int))&&(L3 l.cm&&((List.range l.cm.length).all (Uz l)&&(Ax l.ak 0 100000&&(Ax l.di (-1) w.cy&&Ax l.fw (-1) w.cy)))))))
theorem zKM{ks:List Am}(h:Md ks):fQ ks=some (Fz ks&&Ax (ks.length:Int) 1 8):=by
 have hn:=h.1;unfold fQ;rw[zxm (body:=λs:Int=>Tn ks s) (fin:=wA ks) h (λhi=>by
  simp only[Tn,hi,decide_true,if_true,show((0:Int)<(ks.length:Int))from by omega,show Ak ks 0=some ks[0]from As hi,Aa,Lq (h.2 _ (Au hi))];cases CM ks[0]<;>rfl) (λi hi hp=>by
  have CO:i-1<ks.length:=by omega
  have PY:(i:Int)>0:=by omega
  simp only[Tn,Int.ofNat_lt,hi,PY,decide_true,if_true,As hi,Aa,Lq (h.2 _ (Au hi)),BA hi (by omega:ks.length<=_),JN hp (by omega:i<=2000000),As CO];cases CM ks[i]<;>cases Op.bytesLess ks[i-1] ks[i]<;>rfl) (by
  show Tn ks ks.length=_;unfold Tn;rw[if_neg (by simp)])]
 unfold wA;cases Fz ks<;>rfl
theorem zzD{l:Cw}{body:Int->Option (Int ⊕ Option Bool)}{fin:Option Bool}(hl:l.cm.length<=l.ch.length)(hs:∀i (hi:i<l.cm.length) (hk:i<l.ch.length),body (i:Int)=some (if(l.cm[i].ab==l.ch[i])=true then .inl ((i+1:Nat):Int)else .inr (some false)))(he:body (l.cm.length:Int)=some (.inr fin)):Ao body 0=if(List.range l.cm.length).all (Uz l)=true then fin else some false:=
 FZ (n:=l.cm.length) (Uz l) false fin (λi hi=>by
  have hk:i<l.ch.length:=by omega
  rw[hs i hi hk];unfold Uz;rw[AL hi,AL hk]) he
theorem zL3{w:BG}{l:Cw}(hc:w.bh.length<=2000000)(h:kA l):fY w l=some (Lh w l):=by
 have hk:=h.keys.1;have Zb:=h.got.1;have ww:IntKind.i64.wrap ((w.bh.length:Int)-1)=(w.bh.length:Int)-1:=Cf (by omega) (by omega);unfold fY Lh;rw[zKM h.keys,Aa,zJe h.got];have hg:decide ((l.cm.length:Int)>(l.ch.length:Int))= !decide ((l.cm.length:Int)<=(l.ch.length:Int)):=by
  by_cases hx:(l.cm.length:Int)<=(l.ch.length:Int)
  ·rw[decide_eq_true hx,decide_eq_false (by omega)];rfl
  ·rw[decide_eq_false hx,decide_eq_true (by omega)];rfl
 cases Fz l.ch with
 |false=>cases Ax l.ff 0 ((w.bh.length:Int)-1)<;>rfl
 |true=>
  cases Ax (l.ch.length:Int) 1 8 with
  |false=>cases Ax l.ff 0 ((w.bh.length:Int)-1)<;>rfl
  |true=>
   rw[if_pos (by rfl),hg];cases hd:decide ((l.cm.length:Int)<=(l.ch.length:Int))with
   |false=>cases Ax l.ff 0 ((w.bh.length:Int)-1)<;>rfl
   |true=>
    have hd:(l.cm.length:Int)<=(l.ch.length:Int):=by simpa using hd
    rw[if_neg (by simp),Aa];cases L3 l.cm with
    |false=>cases Ax l.ff 0 ((w.bh.length:Int)-1)<;>rfl
    |true=>
     rw[if_neg (by simp),zzD (l:=l) (body:=λs:Int=>SC w l s) (fin:=vZ w l) (by omega) (λi hi hk=>by
      show SC w l i=_;unfold SC;rw[if_pos (by simpa using hi),As hi,Aa,As hk,Aa,BA hi (by omega)];cases hq:(l.cm[i].ab==l.ch[i])<;>simp[bne,hq]) (by
      show SC w l l.cm.length=_;unfold SC;rw[if_neg (by simp)])]
     unfold vZ;rw[Fl,ww];simp only[Fl,lA,Aa];cases(List.range l.cm.length).all (Uz l)<;>cases Ax l.ff 0 ((w.bh.length:Int)-1)<;>cases Ax l.ak 0 100000<;>cases Ax l.di (-1) w.cy<;>rfl
theorem zMh{w:BG}{l:Cw}(hc:w.bh.length<=2000000)(h:kA l):aV w l=some (Lh w l):=by
 have hk:=h.keys.1;have Zb:=h.got.1;have ww:IntKind.i64.wrap ((w.bh.length:Int)-1)=(w.bh.length:Int)-1:=Cf (by omega) (by omega);have ek:cD l.ch=some (Fz l.ch&&Ax (l.ch.length:Int) 1 8):=by unfold cD;rw[Fx,Aa,zwc h.keys];cases Ax (l.ch.length:Int) 1 8<;>cases Fz l.ch<;>rfl
 unfold aV uI Lh;rw[Fx,ww,Aa,Aa,ek,zII h.got];have hg:decide ((l.cm.length:Int)>(l.ch.length:Int))= !decide ((l.cm.length:Int)<=(l.ch.length:Int)):=by
  by_cases hx:(l.cm.length:Int)<=(l.ch.length:Int)
  ·rw[decide_eq_true hx,decide_eq_false (by omega)];rfl
  ·rw[decide_eq_false hx,decide_eq_true (by omega)];rfl
 cases Ax l.ff 0 ((w.bh.length:Int)-1)with
 |false=>rfl
 |true=>
  rw[if_pos rfl,Aa];cases Fz l.ch with
  |false=>rfl
  |true=>
   cases Ax (l.ch.length:Int) 1 8 with
   |false=>rfl
   |true=>
    rw[if_pos (by rfl),hg];cases hd:decide ((l.cm.length:Int)<=(l.ch.length:Int))with
    |false=>rfl
    |true=>
     have hd:(l.cm.length:Int)<=(l.ch.length:Int):=by simpa using hd
     rw[if_neg (by simp),Aa];cases L3 l.cm with
     |false=>rfl
     |true=>
      rw[if_neg (by simp),zzD (l:=l) (body:=λs:Int=>Sf w l s) (fin:=tX w l) (by omega) (λi hi hk=>by
       show Sf w l i=_;unfold Sf;rw[if_pos (by simpa using hi),As hi,Aa,As hk,Aa,BA hi (by omega)];cases hq:(l.cm[i].ab==l.ch[i])<;>simp[bne,hq]) (by
       show Sf w l l.cm.length=_;unfold Sf;rw[if_neg (by simp)])]
      unfold tX Qx;simp only[Fx,Yw,Aa];cases(List.range l.cm.length).all (Uz l)<;>cases Ax l.ak 0 100000<;>cases Ax l.di (-1) w.cy<;>rfl
def Qf(w:BG)(i:Nat):Bool:=match w.az[i]?,w.cj[i]? with|some g,some l=>Nh g&&(((g.ar.length:Int)==3)&&OZ l)|_,_=>true
theorem qA{w:BG}{i:Nat}(hi:i<w.az.length)(Hj:i<w.cj.length):Qf w i=(Nh w.az[i]&&(((w.az[i].ar.length:Int)==3)&&OZ w.cj[i])):=by unfold Qf;rw[AL hi,AL Hj]
def Kk(w:BG):Bool:=Fz w.br&&(decide ((w.br.length:Int)<=2)&&(((w.az.length:Int)==(w.br.length:Int)+1)&&(((w.bh.length:Int)==3*((w.br.length:Int)+1))&&(((w.cj.length:Int)==(w.br.length:Int)+1)&&(((w.bj.length:Int)==(w.br.length:Int)+1)&&((w.bj.all λx=>Ax x 0 100000)&&((List.range w.az.length).all (Qf w)&&((w.bh.all λc=>Ax c.gn (-5) 5)&&((w.cf.all (Ll w))&&((w.cc.all (Lh w))&&(Ax w.gq 0 100000&&(Ax w.cy 0 1000000&&(decide ((w.cf.length:Int)<=6)&&decide ((w.cc.length:Int)<=4))))))))))))))
theorem zDe{w:BG}(h:YP w):fF w=some (Kk w):=by
 have AD:=h.mj.1;have w1:IntKind.i64.wrap ((w.br.length:Int)+1)=(w.br.length:Int)+1:=Cf (by omega) (by omega);have w2:IntKind.i64.wrap ((3:Int)*((w.br.length:Int)+1))=3*((w.br.length:Int)+1):=Cf (by omega) (by omega);unfold fF Kk;rw[zLs h.mj,Aa,w1,w2,qW h.oi];cases Fz w.br with
 |false=>rfl
 |true=>
  by_cases hc:(w.br.length:Int)<=2
  ·have e1:decide ((w.br.length:Int)<4)=true:=by simp;omega
   have e2:decide ((w.br.length:Int)+1>3)=false:=by simp;omega
   have e3:decide ((w.br.length:Int)<=2)=true:=by simpa using hc
   rw[e1,e2,e3,if_pos (by rfl),if_neg (by simp)];cases hg:((w.az.length:Int)==(w.br.length:Int)+1)with
   |false=>simp[bne,hg]
   |true=>
    cases hk:((w.bh.length:Int)==3*((w.br.length:Int)+1))with
    |false=>simp[bne,hg,hk]
    |true=>
     cases hl:((w.cj.length:Int)==(w.br.length:Int)+1)with
     |false=>simp[bne,hg,hk,hl]
     |true=>
      cases hp:((w.bj.length:Int)==(w.br.length:Int)+1)with
      |false=>simp[bne,hg,hk,hl,hp]
      |true=>
       rw[if_neg (by simp[bne,hg]),if_neg (by simp[bne,hk]),if_neg (by simp[bne,hl]),if_neg (by simp[bne,hp]),Aa];cases(w.bj.all λx=>Ax x 0 100000)with
       |false=>rfl
       |true=>
        have Zb:w.az.length=w.cj.length:=by simp only[Ay]at hg hl;omega
        have Pv:w.bh.length<=2000000:=h.nk;rw[if_neg (by simp),FZ (n:=w.az.length) (body:=λs:Int=>SG w s) (Qf w) false (vH w) (λi hi=>by
         have Hj:i<w.cj.length:=by omega
         show SG w i=_;unfold SG;rw[if_pos (by simpa using hi),As hi,Aa,zH2 (h.group _ (Au hi)),Aa,As Hj,qA hi Hj,Aa,zIe (h.oj _ (Au Hj)),Aa,BA hi (by have:=h.nu;omega)];cases Nh w.az[i]with
         |false=>rfl
         |true=>
          cases h3:((w.az[i].ar.length:Int)==3)with
          |false=>simp[bne,h3]
          |true=>cases OZ w.cj[i]<;>simp[bne,h3]) (by
         show SG w w.az.length=_;unfold SG;rw[if_neg (by simp)])]
        cases(List.range w.az.length).all (Qf w)with
        |false=>rfl
        |true=>
         rw[if_pos rfl];unfold vH;rw[Jc (xs:=w.bh) (body:=λs:Int=>Tk w s) (λc=>Ax c.gn (-5) 5) false (w8 w) (λi hi=>by
          show Tk w i=_;unfold Tk;rw[if_pos (by simpa using hi),As hi,Aa,zJW,Aa,BA hi (by omega)];cases Ax w.bh[i].gn (-5) 5<;>rfl) (by
          show Tk w w.bh.length=_;unfold Tk;rw[if_neg (by simp)])]
         cases(w.bh.all λc=>Ax c.gn (-5) 5)with
         |false=>rfl
         |true=>
          rw[if_pos rfl];unfold w8;rw[Jc (xs:=w.cf) (body:=λs:Int=>SW w s) (Ll w) false (wV w) (λi hi=>by
           show SW w i=_;unfold SW;rw[if_pos (by simpa using hi),As hi,Aa,zOC (h.o5 _ (Au hi)),Aa,BA hi (by have:=h.pc;omega)];cases Ll w w.cf[i]<;>rfl) (by
           show SW w w.cf.length=_;unfold SW;rw[if_neg (by simp)])]
          cases w.cf.all (Ll w)with
          |false=>rfl
          |true=>
           rw[if_pos rfl];unfold wV;rw[Jc (xs:=w.cc) (body:=λs:Int=>Tj w s) (Lh w) false (wP w) (λi hi=>by
            show Tj w i=_;unfold Tj;rw[if_pos (by simpa using hi),As hi,Aa,zL3 Pv (h.look _ (Au hi)),Aa,BA hi (by have:=h.looks;omega)];cases Lh w w.cc[i]<;>rfl) (by
            show Tj w w.cc.length=_;unfold Tj;rw[if_neg (by simp)])]
           cases w.cc.all (Lh w)with
           |false=>rfl
           |true=>rw[if_pos rfl];unfold wP;simp only[Fl,lA,Aa];cases Ax w.gq 0 100000<;>cases Ax w.cy 0 1000000<;>rfl
  ·have e2:decide ((w.br.length:Int)+1>3)=true:=by simp;omega
   have e3:decide ((w.br.length:Int)<=2)=false:=by simpa using hc
   rw[e2,e3];cases decide ((w.br.length:Int)<4)<;>rfl
theorem zC7(n:Nat)(p q:Nat->Bool):(List.range n).all (λi=>p i&&q i)=((List.range n).all p&&(List.range n).all q):=by rw[Bool.eq_iff_iff];simp only[Ac,Ba,List.mem_range];exact⟨λh=>⟨λi hi=>(h i hi).1,λi hi=>(h i hi).2⟩,λh i hi=>⟨h.1 i hi,h.2 i hi⟩⟩
theorem zIB{w:BG}(h:YP w):XA w=some (Kk w):=by
 have AD:=h.mj.1;have w1:IntKind.i64.wrap ((w.br.length:Int)+1)=(w.br.length:Int)+1:=Cf (by omega) (by omega);have w2:IntKind.i64.wrap ((3:Int)*((w.br.length:Int)+1))=3*((w.br.length:Int)+1):=Cf (by omega) (by omega);have Pv:w.bh.length<=2000000:=h.nk;unfold XA Kk;rw[w1,w2,zKP h.mj,Aa];by_cases hc:(w.br.length:Int)<=2
 ·have e1:decide ((w.br.length:Int)<4)=true:=by simp;omega
  have e2:decide ((w.br.length:Int)>2)=false:=by simp;omega
  have e3:decide ((w.br.length:Int)<=2)=true:=by simpa using hc
  rw[e1,e2,e3,if_neg (by simp),Bool.and_true,Bool.true_and];cases hu:Fz w.br with
  |false=>simp
  |true=>
   cases hg:((w.az.length:Int)==(w.br.length:Int)+1)with
   |false=>simp[bne,hg]
   |true=>
    cases hl:((w.cj.length:Int)==(w.br.length:Int)+1)with
    |false=>simp[bne,hg,hl]
    |true=>
     cases hp:((w.bj.length:Int)==(w.br.length:Int)+1)with
     |false=>simp[bne,hg,hl,hp]
     |true=>
      cases hk:((w.bh.length:Int)==3*((w.br.length:Int)+1))with
      |false=>simp[bne,hg,hl,hp,hk]
      |true=>
       have Zb:w.az.length=w.cj.length/\w.az.length=w.bj.length:=by simp only[Ay]at hg hl hp;omega
       rw[if_neg (by simp[bne,hg,hl,hp,hk]),FZ (n:=w.az.length) (body:=λs:Int=>Sm w s) (λi=>Qf w i&&Ax ((w.bj[i]?).getD 0) 0 100000) false (u6 w) (λi hi=>by
        have Hj:i<w.cj.length:=by omega
        have hi3:i<w.bj.length:=by omega
        show Sm w i=_;unfold Sm;rw[if_pos (by simpa using hi),As hi,Aa,zIi (h.group _ (Au hi)),Aa,As Hj,qA hi Hj,Aa,zJF (h.oj _ (Au Hj)),Aa,As hi3,Aa,Yw,Aa,BA hi (by have:=h.nu;omega),AL hi3,Be];cases Nh w.az[i]with
        |false=>rfl
        |true=>
         cases h3:((w.az[i].ar.length:Int)==3)with
         |false=>simp[bne,h3]
         |true=>cases OZ w.cj[i]<;>cases Ax w.bj[i] 0 100000<;>simp[bne,h3]) (by
        show Sm w w.az.length=_;unfold Sm;rw[if_neg (by simp)]),zC7]
       have er:(List.range w.az.length).all (λi=>Ax ((w.bj[i]?).getD 0) 0 100000)=w.bj.all λx=>Ax x 0 100000:=by rw[Zb.2];exact zxW w.bj (λx=>Ax x 0 100000) _ λi hi=>by simp[hi]
       rw[er];have c1:Dy w.bh (λy0_=>cA y0_)=some (!(w.bh.all λc=>Ax c.gn (-5) 5)):=by rw[Km (xs:=w.bh) (p:=λy0_=>cA y0_) (λc:DB=> !Ax c.gn (-5) 5) (λc _=>rfl) (by omega),<-List.not_all_eq_any_not]
       have c2:Dy w.cf (λy0_=>W9 y0_ w)=some (!(w.cf.all (Ll w))):=by
        rw[Km (xs:=w.cf) (p:=λy0_=>W9 y0_ w) (λt:CU=> !Ll w t) (λt ht=>by unfold W9;rw[zKH (h.o5 t ht)];rfl) (by have:=h.pc;omega),<-List.not_all_eq_any_not]
       have c3:Dy w.cc (λy0_=>W8 y0_ w)=some (!(w.cc.all (Lh w))):=by
        rw[Km (xs:=w.cc) (p:=λy0_=>W8 y0_ w) (λl:Cw=> !Lh w l) (λl hl=>by unfold W8;rw[zMh Pv (h.look l hl)];rfl) (by have:=h.looks;omega),<-List.not_all_eq_any_not]
       cases(List.range w.az.length).all (Qf w)with
       |false=>simp
       |true=>
        cases(w.bj.all λx=>Ax x 0 100000)with
        |false=>simp
        |true=>
         rw[if_pos (by rfl)];unfold u6;simp only[Yw,Fx,Aa,c1,c2,c3];cases Ax w.gq 0 100000 with
         |false=>simp
         |true=>
          cases Ax w.cy 0 1000000 with
          |false=>simp
          |true=>
           cases decide ((w.cf.length:Int)<=6)with
           |false=>simp
           |true=>
            cases decide ((w.cc.length:Int)<=4)with
            |false=>simp
            |true=>cases(w.bh.all λc=>Ax c.gn (-5) 5)<;>cases w.cf.all (Ll w)<;>cases w.cc.all (Lh w)<;>rfl
 ·have e2:decide ((w.br.length:Int)>2)=true:=by simp;omega
  have e3:decide ((w.br.length:Int)<=2)=false:=by simpa using hc
  rw[e2,e3,if_pos rfl];cases Fz w.br<;>rfl
structure zRI(t:An):Prop where
 name:t.ae.length<=9223372036854775807
 jh:t.bf.length<=9223372036854775807
 pe:∀c∈t.bf,c.length<=9223372036854775807
 idxs:t.aj.length<=9223372036854775807
 idx:∀x∈t.aj,x.ae.length<=9223372036854775807
theorem rP{α:Type}{xs:List α}{i:Int}{x:α}(h:Ak xs i=some x):0<=i/\xs[i.toNat]?=some x/\i<xs.length:=by
 unfold Ak at h;split at h
 ·rename_i h0;have:=(List.getElem?_eq_some_iff.1 h).1;exact⟨h0,h,by omega⟩
 ·cases h
def Gz(t:An)(k c:Int):An:=⟨t.ae,t.bf,t.aj.set k.toNat {((t.aj[k.toNat]?).getD ⟨[],0,0⟩)with bg:=c}⟩
def Hc(a b:Int):Int:=if a<b then a+1 else a-1
def MW:Nat->Int->Int->List Int
 |0,_,_=> []
 |f+1,a,b=>if a=b then []else Hc a b::MW f (Hc a b) b
def G0(t:An)(k a b:Int):List An:=t::(MW 3 a b).map (Gz t k)
theorem qK:∀(f:Nat) {a b:Int},0<=a->a<=3->0<=b->b<=3-> ∀c∈MW f a b,0<=c/\c<=3
 |0,_,_,_,_,_,_,c,hc=>by simp[MW]at hc
 |f+1,a,b,h1,h2,h3,h4,c,hc=>by
  unfold MW at hc;split at hc
  ·simp at hc
  ·have hn:0<=Hc a b/\Hc a b<=3:=by unfold Hc;split<;>omega
   rcases Ag.1 hc with rfl|hc
   ·exact hn
   ·exact qK f hn.1 hn.2 h3 h4 c hc
theorem pW{t:An}{k b:Int}{body:Int × List An->Option ((Int × List An) ⊕ Option (List An))}(C5:0<=b)(GC:b<=3)
  (hs:∀a o,0<=a->a<=3->a≠b->o.length<=100->body (a,o)=some (.inl (Hc a b,o++ [Gz t k (Hc a b)]))) (he:∀o,body (b,o)=some (.inr (some o))):
  ∀(f:Nat) (a:Int) (o:List An),0<=a->a<=3->(a-b).natAbs<=f->o.length+f<=100->Ao body (a,o)=some (o++(MW f a b).map (Gz t k))
 |0,a,o,_,_,hf,_=>by
  have:a=b:=by omega
  subst this;rw[DN,he];simp[MW]
 |f+1,a,o,h0,h3,hf,ho=>by
  by_cases Mo:a=b
  ·subst Mo;rw[DN,he];simp[MW]
  ·rw[DN,hs a o h0 h3 Mo (by omega)];have hn:0<=Hc a b/\Hc a b<=3/\(Hc a b-b).natAbs<=f:=by unfold Hc;split<;>omega
   have:=pW C5 GC hs he f (Hc a b) (o++ [Gz t k (Hc a b)]) hn.1 hn.2.1 hn.2.2 (by simp;omega);simp only[this,MW,if_neg Mo,List.map_cons,List.append_assoc,List.singleton_append]
theorem zNc{t:An}(h:Eu t):XT t=some t:=by unfold XT;have h1:=h.jh;have h2:=h.idxs;rw[AI (by simp;omega),AI (by simp;omega)]
theorem zJK{t:An}(h:Eu t):Xv t=some t:=by unfold Xv Qq tV;have h1:=h.jh;have h2:=h.idxs;rw[O6 (by omega) (by omega),Aa,O6 (by omega) (by omega),Aa]
theorem zME{t:An}{n:Am}{x:A5}{c:Int}(h:Eu t)(hx:Kr t n x):XR t n c=some (Gz t (CC (λy:A5=>y.ae==n) t.aj) c):=by unfold XR Gz;rw[zNc h,Aa,Wl h,Aa,hx.at_,Aa,(rP hx.at_).2.1];rfl
theorem zNe{t:An}{n:Am}{x:A5}{c:Int}(h:Eu t)(hx:Kr t n x):W5 t n c=some (Gz t (CC (λy:A5=>y.ae==n) t.aj) c):=by unfold W5 Gz;rw[zJK h,Aa,Wb h,Aa,hx.at_,Aa,(rP hx.at_).2.1];rfl
theorem zPr{t:An}{n:Am}{x:A5}{b:Int}(h:Eu t)(hx:Kr t n x)(h0:0<=x.bg)(h3:x.bg<=3)(C5:0<=b)(GC:b<=3):gQ t n b=some (G0 t (CC (λy:A5=>y.ae==n) t.aj) x.bg b):=by
 unfold gQ;rw[zNc h,Aa,Wl h,Aa,hx.at_,Aa];refine(pW (t:=t) (k:=CC (λy:A5=>y.ae==n) t.aj) C5 GC ?_ ?_ 3 x.bg [t] h0 h3 (by omega) (by simp)).trans (by simp[G0])
 ·intro a o Pr U2 Mo ho;show XD t n b a o=_;unfold XD;rw[if_pos (by simpa using Mo)];have w1:IntKind.i64.wrap (a+1)=a+1:=Cf (by omega) (by omega);have w2:IntKind.i64.wrap (a-1)=a-1:=Cf (by omega) (by omega);by_cases AP:a<b
  ·rw[if_pos (by simpa using AP),w1,zME h hx,Aa,AI (by simp;omega)];simp[Hc,AP]
  ·rw[if_neg (by simpa using AP),w2,zME h hx,Aa,AI (by simp;omega)];simp[Hc,AP]
 ·intro o;show XD t n b b o=_;unfold XD;rw[if_neg (by simp)]
theorem zPA{t:An}{n:Am}{x:A5}{b:Int}(h:Eu t)(hx:Kr t n x)(h0:0<=x.bg)(h3:x.bg<=3)(C5:0<=b)(GC:b<=3):bW t n b=some (G0 t (CC (λy:A5=>y.ae==n) t.aj) x.bg b):=by
 unfold bW M6;rw[Wb h,Aa,hx.at_,Aa,Aa,zJK h,Aa];refine(pW (t:=t) (k:=CC (λy:A5=>y.ae==n) t.aj) C5 GC ?_ ?_ 3 x.bg [t] h0 h3 (by omega) (by simp)).trans (by simp[G0])
 ·intro a o Pr U2 Mo ho;show W6 t n b a o=_;unfold W6;rw[if_pos (by simpa using Mo)];have w1:IntKind.i64.wrap (a+1)=a+1:=Cf (by omega) (by omega);have w2:IntKind.i64.wrap (a-1)=a-1:=Cf (by omega) (by omega);by_cases AP:a<b
  ·rw[if_pos (by simpa using AP),w1,zNe h hx,Aa,AI (by simp;omega)];simp[Hc,AP]
  ·rw[if_neg (by simpa using AP),w2,zNe h hx,Aa,AI (by simp;omega)];simp[Hc,AP]
 ·intro o;show W6 t n b b o=_;unfold W6;rw[if_neg (by simp)]
theorem kD{α β:Type}{xs ys:List α}(hl:xs.length=ys.length){body:Int->Option (Int ⊕ Option β)}(p:α->α->Bool)(b:β)(fin:Option β)
  (hs:∀(i:Nat) (hi:i<xs.length) (hj:i<ys.length),body i=some (if p xs[i] ys[i]=true then .inl ((i+1:Nat):Int)else .inr (some b))) (he:body xs.length=some (.inr fin)):Ao body 0=if((xs.zip ys).all λz=>p z.1 z.2)=true then fin else some b:=by
 have hz:(xs.zip ys).length=xs.length:=by simp[hl]
 have h1:=kS (xs:=xs.zip ys) (body:=body) (λi (_:Unit)=>i) (λz _=>some (if p z.1 z.2=true then .inl ()else .inr (some b))) (λ_=>fin)
  (λi hi s=>by
   have CO:i<xs.length:=by omega
   have Hj:i<ys.length:=by omega
   rw[hs i CO Hj,List.getElem_zip];cases p xs[i] ys[i]<;>simp[MR]) (λs=>by rw[hz];exact he) ()
 rw[qU (λz:α × α=>p z.1 z.2) b λx _ s=>rfl]at h1;exact h1
theorem YK{α γ:Type}{p:α->α->Bool}{f:α->γ}(h:∀x y,p x y=true↔f x=f y):∀{xs ys:List α},xs.length=ys.length->(((xs.zip ys).all λz=>p z.1 z.2)=true↔xs.map f=ys.map f)
 | [],[],_=>by simp
 | [],_::_,h=>by simp at h
 |_::_,[],h=>by simp at h
 |x::xs,y::ys,hl=>by have:=YK h (xs:=xs) (ys:=ys) (by simpa using hl);simp only[List.zip_cons_cons,List.all_cons,Ac,List.map_cons,List.cons.injEq,this,h]
def nc(x:A5):Am × Int:=(x.ae,x.dk)
theorem rN{x y:A5}(h1:nc x=nc y)(h2:x.bg=y.bg):x=y:=by cases x;cases y;simp[nc]at h1 h2;simp[h1,h2]
theorem zFv:∀{xs ys:List A5},xs.map nc=ys.map nc->xs.map (·.bg)=ys.map (·.bg)->xs=ys
 | [],[],_,_=>rfl
 | [],_::_,h,_=>by simp at h
 |_::_,[],h,_=>by simp at h
 |x::xs,y::ys,h1,h2=>by simp only[List.map_cons,List.cons.injEq]at h1 h2;rw[rN h1.1 h2.1,zFv h1.2 h2.2]
theorem zv0{a b:An}(h1:a.ae=b.ae)(h2:a.bf=b.bf)(h3:a.aj=b.aj):a=b:=by cases a;cases b;simp at h1 h2 h3;simp[h1,h2,h3]
structure WO(t:An):Prop where
 len:t.aj.length<=3
 pn:∀x∈t.aj,0<=x.bg/\x.bg<=3
def LC(a b:An):Bool:=a.ae==b.ae&&(a.bf==b.bf&&(a.aj.map nc==b.aj.map nc&&a.aj.map (·.bg)==b.aj.map (·.bg)))
theorem Zy{a b:An}:LC a b=true↔a=b:=by
 unfold LC;simp only[Ac,Ay];constructor
 ·rintro⟨h1,h2,h3,h4⟩;exact zv0 h1 h2 (zFv h3 h4)
 ·rintro rfl;simp
theorem zLt{a b:An}(ha:Eu a):OM a b=some (LC a b):=by
 have key:∃r,OM a b=some r/\(r=true↔a=b):=by
  unfold OM;by_cases h1:(a.ae==b.ae)=true
  ·rw[if_pos h1];have IQ:a.ae=b.ae:=by simpa using h1
   have e1:∃r,M5 a.bf b.bf=some r/\(r=true↔a.bf=b.bf):=by
    unfold M5;by_cases h2:((a.bf.length:Int) !=(b.bf.length:Int))=true
    ·rw[if_pos h2];exact⟨_,rfl,by simp,λh=>by rw[h]at h2;simp at h2⟩
    ·rw[if_neg h2];have YX:a.bf.length=b.bf.length:=by
      have:(a.bf.length:Int)=b.bf.length:=by simpa using h2
      omega
     rw[kD (xs:=a.bf) (ys:=b.bf) YX (λx y=>x==y) false (some true) ?_ ?_]
     ·have z1:=YK (p:=λx y:Am=>x==y) (f:=id) (by simp) YX;rw[List.map_id,List.map_id]at z1;rw[<-z1];cases hz:((a.bf.zip b.bf).all λz=>z.1==z.2)<;>exact⟨_,rfl,by simp⟩
     ·intro i CO JA;show LU a.bf b.bf i=_;unfold LU;have:=ha.jh;rw[if_pos (by simpa using CO),As CO,Aa,As JA,Aa,BA CO (by omega)];by_cases hq:a.bf[i]=b.bf[i]
      ·rw[if_neg (by simp[hq]),if_pos (by simpa using hq)]
      ·rw[if_pos (by simpa using hq),if_neg (by simpa using hq)]
     ·show LU a.bf b.bf a.bf.length=_;unfold LU;rw[if_neg (by simp)]
   obtain⟨r1,e1,f1⟩:=e1;rw[e1,Aa];by_cases h2:r1=true
   ·rw[if_pos h2];have YX:=f1.1 h2;have e2:∃r,aU a.aj b.aj=some r/\(r=true↔a.aj=b.aj):=by
     unfold aU;by_cases h3:((a.aj.length:Int) !=(b.aj.length:Int))=true
     ·rw[if_pos h3];exact⟨_,rfl,by simp,λh=>by rw[h]at h3;simp at h3⟩
     ·rw[if_neg h3];have UQ:a.aj.length=b.aj.length:=by
       have:(a.aj.length:Int)=b.aj.length:=by simpa using h3
       omega
      rw[kD (xs:=a.aj) (ys:=b.aj) UQ (λx y=>x.ae==y.ae&&(x.dk==y.dk&&(x.bg==y.bg))) false (some true) ?_ ?_]
      ·have z1:=YK (p:=λx y:A5=>x.ae==y.ae&&(x.dk==y.dk&&(x.bg==y.bg))) (f:=id) (λx y=>by
        simp only[Ac,Ay,id];constructor
        ·rintro⟨k1,k2,k3⟩;exact rN (by simp[nc,k1,k2]) k3
        ·rintro rfl;simp) UQ
       rw[List.map_id,List.map_id]at z1;rw[<-z1];cases((a.aj.zip b.aj).all λz=>z.1.ae==z.2.ae&&(z.1.dk==z.2.dk&&(z.1.bg==z.2.bg)))<;>exact⟨_,rfl,by simp⟩
      ·intro i CO JA;show WY a.aj b.aj i=_;unfold WY;have:=ha.idxs;rw[if_pos (by simpa using CO),As CO,Aa,As JA,Aa,BA CO (by omega)];cases(a.aj[i].ae==b.aj[i].ae&&(a.aj[i].dk==b.aj[i].dk&&(a.aj[i].bg==b.aj[i].bg)))<;>rfl
      ·show WY a.aj b.aj a.aj.length=_;unfold WY;rw[if_neg (by simp)]
    obtain⟨r2,e2,f2⟩:=e2;rw[e2,Aa];exact⟨_,rfl,by rw[f2];exact⟨λh=>zv0 IQ YX h,λh=>by rw[h]⟩⟩
   ·rw[if_neg h2];exact⟨_,rfl,by simp,λh=>absurd (f1.2 (by rw[h])) h2⟩
  ·rw[if_neg h1];exact⟨_,rfl,by simp,λh=>by rw[h]at h1;simp at h1⟩
 obtain⟨r,e,f⟩:=key;rw[e];congr 1;rw[Bool.eq_iff_iff,f,Zy]
theorem zM0{t:An}(h:Es t=true):WO t:=by unfold Es at h;simp only[Ac,AR]at h;refine⟨by omega,λx hx=> ?_⟩;obtain⟨i,hi,rfl⟩:=List.mem_iff_getElem.1 hx;have h1:=Ba.1 h.2 i (List.mem_range.2 hi);unfold Jn at h1;simp only[Ac,AL hi,Be]at h1;exact D8.1 h1.1.2
theorem zFV{α γ:Type}(f:α->γ):∀(l:List α) (k:Nat) (d y:α),f y=f ((l[k]?).getD d)->(l.set k y).map f=l.map f
 | [],k,d,y,_=>rfl
 |x::l,0,d,y,h=>by simp only[List.getElem?_cons_zero,Be]at h;simp[h]
 |x::l,k+1,d,y,h=>by simp only[List.getElem?_cons_succ]at h;simp[zFV f l k d y h]
theorem zrB(t:An)(k c:Int):(Gz t k c).aj.map (·.ae)=t.aj.map (·.ae):=zFV _ _ _ ⟨[],0,0⟩ _ rfl
theorem zIs{t:An}{k c:Int}(h:WO t)(h0:0<=c)(h3:c<=3):WO (Gz t k c):=by
 refine⟨by unfold Gz;simpa using h.len,λx hx=> ?_⟩;rcases List.mem_or_eq_of_mem_set hx with hx|rfl
 ·exact h.pn x hx
 ·exact⟨h0,h3⟩
theorem zEg{t:An}{k c:Int}(h:Eu t):Eu (Gz t k c):=by refine⟨h.name,h.jh,h.pe,by unfold Gz;simpa using h.idxs,λx hx=> ?_⟩;have h1:x.ae∈(Gz t k c).aj.map (·.ae):=List.mem_map.2 ⟨x,hx,rfl⟩;rw[zrB]at h1;obtain⟨y,hy,e⟩:=List.mem_map.1 h1;rw[<-e];exact h.idx y hy
theorem zOp{t:An}{k a b:Int}(hS:Eu t)(h:WO t)(Pr:0<=a)(U2:a<=3)(C5:0<=b)(GC:b<=3):∀w∈G0 t k a b,w.aj.map (·.ae)=t.aj.map (·.ae)/\WO w/\Eu w:=by
 intro w hw;rcases Ag.1 hw with rfl|hw
 ·exact⟨rfl,h,hS⟩
 ·obtain⟨c,hc,rfl⟩:=List.mem_map.1 hw;have:=qK 3 Pr U2 C5 GC c hc;exact⟨zrB t k c,zIs h this.1 this.2,zEg hS⟩
theorem zJX{xs ys:List A5}{n:Am}(h:xs.map (·.ae)=ys.map (·.ae)):decide (CC (λx:A5=>x.ae==n) xs>=0)=decide (CC (λx:A5=>x.ae==n) ys>=0):=by
 rw[Uh,Uh];have e:∀l:List A5,(l.any λx=>x.ae==n)=(l.map (·.ae)).any (· ==n):=λl=>by rw[List.any_map];rfl
 rw[e,e,h]
def noT:An:=⟨[],[],[]⟩
def JF(t:An)(n:Am):Int:=CC (λy:A5=>y.ae==n) t.aj
def Z3(t:An)(n:Am):Int:=((t.aj[(JF t n).toNat]?).getD ⟨[],0,0⟩).bg
theorem zK0{t:An}{n:Am}{x:A5}(h:Kr t n x):Z3 t n=x.bg:=by unfold Z3 JF;rw[(rP h.at_).2.1];rfl
theorem rB{t:An}{n:Am}(h:Fm t n=true):∃x,Kr t n x/\Z3 t n=x.bg/\0<=x.bg/\x.bg<=3/\Es t=true:=by
 obtain⟨x,hx,_⟩:=zM4 h;have hg:Es t=true:=by unfold Fm at h;simp only[Ac]at h;exact h.1
 have:=(zM0 hg).pn x (zLu hx.at_);exact⟨x,hx,zK0 hx,this.1,this.2,hg⟩
theorem zJf{xs ys:List An}(h:∀t∈xs,Eu t)(hl:xs.length<=2000000):∃r,aN xs ys (λa b=>OM a b)=some r/\(r=true↔xs=ys):=by
 unfold aN;by_cases h3:((xs.length:Int) !=(ys.length:Int))=true
 ·rw[if_pos h3];exact⟨_,rfl,by simp,λh=>by rw[h]at h3;simp at h3⟩
 ·rw[if_neg h3];have UQ:xs.length=ys.length:=by
   have:(xs.length:Int)=ys.length:=by simpa using h3
   omega
  rw[kD (xs:=xs) (ys:=ys) UQ LC false (some true) ?_ ?_]
  ·have z1:=YK (p:=LC) (f:=id) (λx y=>Zy) UQ;rw[List.map_id,List.map_id]at z1;rw[<-z1];cases((xs.zip ys).all λz=>LC z.1 z.2)<;>exact⟨_,rfl,by simp⟩
  ·intro i CO JA;show WZ xs ys (λa b=>OM a b) i=_;unfold WZ;rw[if_pos (by simpa using CO),As CO,Aa,As JA,Aa,BA CO (by omega)];dsimp only;rw[zLt (h _ (Au CO)),Aa];cases LC xs[i] ys[i]<;>rfl
  ·show WZ xs ys (λa b=>OM a b) xs.length=_;unfold WZ;rw[if_neg (by simp)]
theorem T6{α:Type}{xs ys:List α}(p:α->α->Bool)(hp:∀x y,p x y=true↔x=y)(hl:xs.length=ys.length){body:Int->Option (Int ⊕ Option Bool)}
  (hs:∀(i:Nat) (hi:i<xs.length) (hj:i<ys.length),body i=some (if p xs[i] ys[i]=true then .inl ((i+1:Nat):Int)else .inr (some false))) (he:body xs.length=some (.inr (some true))):∃r,Ao body 0=some r/\(r=true↔xs=ys):=by
 rw[kD hl p false (some true) hs he];have z1:=YK (p:=p) (f:=id) (λx y=>hp x y) hl;rw[List.map_id,List.map_id]at z1;rw[<-z1];cases((xs.zip ys).all λz=>p z.1 z.2)<;>exact⟨_,rfl,by simp⟩
theorem zMv{xs ys:List Am}(hl:xs.length<=2000000):∃r,fE xs ys=some r/\(r=true↔xs=ys):=by
 unfold fE;by_cases h:((xs.length:Int) !=(ys.length:Int))=true
 ·rw[if_pos h];exact⟨_,rfl,by simp,λe=>by rw[e]at h;simp at h⟩
 ·rw[if_neg h];have h':xs.length=ys.length:=by
   have:(xs.length:Int)=ys.length:=by simpa using h
   omega
  refine T6 (λx y=>x==y) (by simp) h' (λi hi hj=> ?_) ?_
  ·show Xl xs ys i=_;unfold Xl;rw[if_pos (by simpa using hi),As hi,Aa,As hj,Aa,BA hi (by omega)];by_cases hq:xs[i]=ys[i]
   ·rw[if_neg (by simp[hq]),if_pos (by simpa using hq)]
   ·rw[if_pos (by simpa using hq),if_neg (by simpa using hq)]
  ·show Xl xs ys xs.length=_;unfold Xl;rw[if_neg (by simp)]
theorem zLW{a b:An}(ha:Eu a):Xf a b=some (LC a b):=by
 have key:∃r,Xf a b=some r/\(r=true↔a=b):=by
  unfold Xf;by_cases h1:(a.ae !=b.ae)=true
  ·rw[if_pos h1];exact⟨_,rfl,by simp,λh=>by rw[h]at h1;simp at h1⟩
  rw[if_neg h1];have IQ:a.ae=b.ae:=by simpa using h1
  obtain⟨r,e,f⟩:=zMv (ys:=b.bf) ha.jh;rw[e,Aa];by_cases h2:((!r)||((a.aj.length:Int) !=(b.aj.length:Int)))=true
  ·rw[if_pos h2];refine⟨_,rfl,by simp,λh=> ?_⟩;have:=f.2 (by rw[h]);rw[this,h]at h2;simp at h2
  rw[if_neg h2];simp only[Bool.or_eq_true,Bk,bne_iff_ne,ne_eq,not_or,Bool.not_eq_false,Decidable.not_not,Int.natCast_inj]at h2;have hi:=ha.idxs;obtain⟨q,e2,f2⟩:=T6 (xs:=a.aj) (ys:=b.aj) (body:=λs:Int=>R5 a b s) (λx y=>x.ae==y.ae&&(x.dk==y.dk&&(x.bg==y.bg))) (λx y=>by
   simp only[Ac,Ay];constructor
   ·rintro⟨k1,k2,k3⟩;exact rN (by simp[nc,k1,k2]) k3
   ·rintro rfl;simp) h2.2 (λi hi hj=>by
    show R5 a b i=_;unfold R5;rw[if_pos (by simpa using hi),As hi,Aa,As hj,Aa,BA hi (by omega)];cases(a.aj[i].ae==b.aj[i].ae&&(a.aj[i].dk==b.aj[i].dk&&(a.aj[i].bg==b.aj[i].bg)))<;>rfl) (by
    show R5 a b a.aj.length=_;unfold R5;rw[if_neg (by simp)])
  exact⟨q,e2,f2.trans ⟨λh=>zv0 IQ (f.1 h2.1) h,λh=>by rw[h]⟩⟩
 obtain⟨r,e,f⟩:=key;rw[e];congr 1;rw[Bool.eq_iff_iff,f,Zy]
theorem zCM(t:An)(k c:Int)(j:Nat):∃s,((Gz t k c).aj[j]?).getD ⟨[],0,0⟩={((t.aj[j]?).getD ⟨[],0,0⟩)with bg:=s}/\(s=((t.aj[j]?).getD ⟨[],0,0⟩).bg\/s=c):=by
 unfold Gz;simp only;rw[List.getElem?_set];by_cases h:k.toNat=j
 ·subst h;rw[if_pos rfl];by_cases hl:k.toNat<t.aj.length
  ·rw[if_pos hl];exact⟨c,rfl, .inr rfl⟩
  ·rw[if_neg hl,List.getElem?_eq_none (by omega)];exact⟨0,rfl, .inl rfl⟩
 ·rw[if_neg h];exact⟨_,rfl, .inl rfl⟩
theorem zHj{t:An}{k c:Int}(h:Es t=true)(h0:0<=c)(h3:c<=3):Es (Gz t k c)=true:=by
 unfold Es at h ⊢;have hl:(Gz t k c).aj.length=t.aj.length:=List.length_set;simp only[Ac]at h ⊢;refine⟨⟨h.1.1,by rw[hl];exact h.1.2⟩,?_⟩;rw[hl,Ba];intro i hi;have h1:=Ba.1 h.2 i hi;unfold Jn at h1 ⊢;obtain⟨s,e,hs⟩:=zCM t k c i;obtain⟨s',e',_⟩:=zCM t k c (i-1);simp only[e,e'];simp only[Ac]at h1 ⊢;refine⟨⟨h1.1.1,?_⟩,h1.2⟩;rcases hs with hs|hs
 ·rw[hs];exact h1.1.2
 ·rw[hs];exact D8.2 ⟨h0,h3⟩
theorem zKo{t:An}{n:Am}{k a b:Int}(h:Fm t n=true)(Pr:0<=a)(U2:a<=3)(C5:0<=b)(GC:b<=3):∀w∈G0 t k a b,Fm w n=true:=by
 intro w hw;unfold G0 at hw;rcases Ag.1 hw with rfl|hw
 ·exact h
 obtain⟨c,hc,rfl⟩:=List.mem_map.1 hw;obtain⟨c0,c3⟩:=qK 3 Pr U2 C5 GC c hc;unfold Fm at h ⊢;rw[Ac]at h ⊢;exact⟨zHj h.1 c0 c3,by rw[zJX (zrB t k c)];exact h.2⟩
def w0(ws:List An):An:=(ws[0]?).getD noT
def L1(ws:List An)(n:Am):Prop:=ws.length=4/\Fm (w0 ws) n=true/\Z3 (w0 ws) n=0/\ws=G0 (w0 ws) (JF (w0 ws) n) 0 3
theorem zFG{ws:List An}{n:Am}(h:L1 ws n):∀t∈ws,Fm t n=true:=by intro t ht;obtain⟨_,h2,_,h4⟩:=h;rw[h4]at ht;exact zKo h2 (by omega) (by omega) (by omega) (by omega) t ht
theorem V9{ws:List An}(h:ws.length=4):Ak ws 0=some (w0 ws)/\w0 ws∈ws:=by
 match ws,h with
 |t::_,_=>exact⟨rfl,by simp[w0]⟩
theorem zLo{ws:List An}{n:Am}(h:∀t∈ws,Eu t):∃r,fI ws n=some r/\(r=true↔L1 ws n):=by
 unfold fI;by_cases h4:ws.length=4
 ·obtain⟨g,hm⟩:=V9 h4;have hS:=h _ hm;rw[if_pos (by simp[h4]),g,Aa,zNX hS,Aa];by_cases hh:Fm (w0 ws) n=true
  ·obtain⟨x,hx,FG,ET,oV,hg⟩:=rB hh;have hi:M6 (w0 ws) n=some x:=by
    unfold M6;rw[Wb hS,Aa,hx.at_];rfl
   rw[if_pos hh,hi,Aa];by_cases hs:x.bg=0
   ·rw[if_pos (by simpa using hs),zPA hS hx ET oV (by omega) (by omega),Aa];obtain⟨r,e,f⟩:=zJf (xs:=ws) (ys:=G0 (w0 ws) (JF (w0 ws) n) x.bg 3) h (by omega);refine⟨r,(zHK e).trans rfl,?_⟩;rw[f,hs];exact⟨λk=>⟨h4,hh,by omega,k⟩,λk=>k.2.2.2⟩
   ·rw[if_neg (by simpa using hs)];exact⟨_,rfl,by simp,λk=>absurd (FG.symm.trans k.2.2.1) hs⟩
  ·rw[if_neg hh];exact⟨_,rfl,by simp,λk=>absurd k.2.1 hh⟩
 ·rw[if_neg (by simp;omega)];exact⟨_,rfl,by simp,λk=>absurd k.1 h4⟩
theorem zGd{t:An}{n:Am}(hS:Eu t):∃r,XY t n=some r/\r.2=Fm t n/\(Fm t n=true->Kr t n r.1):=by
 unfold XY;rw[Wl hS,Aa,Ug hS,Aa];by_cases hh:Fm t n=true
 ·obtain⟨x,hx,_⟩:=zM4 hh;have F8:=hh;unfold Fm at F8;simp only[Ac,AR]at F8;rw[if_neg (by simp only[Bool.or_eq_true,Bk,AR,not_or,Bool.not_eq_false];exact⟨F8.1,by omega⟩),hx.at_,Aa];exact⟨_,rfl,hh.symm,λ_=>hx⟩
 ·have F8:=hh;unfold Fm at F8;simp only[Ac,AR,not_and]at F8;rw[if_pos (by
   simp only[Bool.or_eq_true,Bk,AR];cases hg:Es t with
   |false=>exact .inl rfl
   |true=>exact .inr (by have:=F8 hg;omega))]
  exact⟨_,rfl,by simpa using hh,λk=>absurd k hh⟩
theorem zLd{ws:List An}{n:Am}(h:∀t∈ws,Eu t):∃r,eT ws n=some r/\(r=true↔L1 ws n):=by
 unfold eT;by_cases h4:ws.length=4
 ·obtain⟨g,hm⟩:=V9 h4;have hS:=h _ hm;rw[if_neg (by simp[h4]),g,Aa,Ug hS,Aa];by_cases hg:Es (w0 ws)=true
  ·rw[if_neg (by simp[hg])];obtain⟨q,e1,f1,f2⟩:=zGd (n:=n) hS;rw[e1,Aa];by_cases hh:Fm (w0 ws) n=true
   ·obtain⟨x,hx,FG,ET,oV,_⟩:=rB hh;have hq:q.1=x:=by
     have h1:=(f2 hh).at_;rw[hx.at_]at h1;exact(Option.some.inj h1).symm
    have hw:TO (w0 ws) n 3=some (G0 (w0 ws) (JF (w0 ws) n) x.bg 3,true):=by
     have ha:Tv (w0 ws) n 3=some true:=by unfold Tv;have F8:=hh;unfold Fm at F8;simp only[Ac,AR]at F8;rw[Ug hS,Aa,if_pos hg,Wl hS,Aa,if_pos (by simpa using F8.2),Fl];rfl
     unfold TO;rw[ha,Aa,if_neg (by simp),zPr hS hx ET oV (by omega) (by omega)];rfl
    rw[hw,Aa,f1,hh,hq];by_cases hs:x.bg=0
    ·rw[hs];have hl:(G0 (w0 ws) (JF (w0 ws) n) 0 3).length=4:=rfl;have oN:=λw hw=>(zOp (t:=w0 ws) (k:=JF (w0 ws) n) (a:=0) (b:=3) hS (zM0 hg) (by omega) (by omega) (by omega) (by omega) w hw).2.2;rw[if_neg (by simp[hl])];obtain⟨r,e,f⟩:=T6 (xs:=G0 (w0 ws) (JF (w0 ws) n) 0 3) (ys:=ws) (body:=λs:Int=>SU ws (G0 (w0 ws) (JF (w0 ws) n) 0 3,true) s) LC (λ_ _=>Zy) (hl.trans h4.symm) (λi hi hj=>by
      show SU ws (G0 (w0 ws) (JF (w0 ws) n) 0 3,true) i=_;unfold SU;rw[if_pos (by simpa using hi),As hi,Aa,As hj,Aa,zLW (oN _ (Au hi)),Aa,BA hi (by omega)];cases LC (G0 (w0 ws) (JF (w0 ws) n) 0 3)[i] ws[i]<;>rfl) (by
      show SU ws (G0 (w0 ws) (JF (w0 ws) n) 0 3,true) (G0 (w0 ws) (JF (w0 ws) n) 0 3).length=_;unfold SU;rw[if_neg (by simp)])
     refine⟨r,e,?_⟩;rw[f];exact⟨λk=>⟨h4,hh,by omega,k.symm⟩,λk=>k.2.2.2.symm⟩
    ·rw[if_pos (by simp[hs])];exact⟨_,rfl,by simp,λk=>absurd (FG.symm.trans k.2.2.1) hs⟩
   ·have hw:∃q,TO (w0 ws) n 3=some q:=by
     have ha:Tv (w0 ws) n 3=some false:=by unfold Tv;have F8:=hh;unfold Fm at F8;simp only[Ac,AR,not_and]at F8;rw[Ug hS,Aa,if_pos hg,Wl hS,Aa,if_neg (by simpa using F8 hg)]
     unfold TO;rw[ha,Aa,if_pos (by simp)];exact⟨_,rfl⟩
    obtain⟨q2,hw⟩:=hw;rw[hw,Aa,f1,if_pos (by simp[hh])];exact⟨_,rfl,by simp,λk=>absurd k.2.1 hh⟩
  ·rw[if_pos (by simpa using hg)];refine⟨_,rfl,by simp,λk=> ?_⟩;have:=k.2.1;unfold Fm at this;simp only[Ac]at this;exact absurd this.1 hg
 ·rw[if_pos (by simp;omega)];exact⟨_,rfl,by simp,λk=>absurd k.1 h4⟩
theorem zOt{a:Cv}(h:UC a):eJ a=XM a:=by
 unfold eJ XM;have h1:=h.1.1;have h2:=h.2.1;rw[Cf (by omega) (by omega)];cases(a.ah==0)
 ·rfl
 congr 1;rw[Bool.eq_iff_iff];simp only[Bool.true_and,Ac,Ay];omega
theorem zDx{α β:Type}{f:α->List β}(hf:∀x,(f x).length<=2):∀(xs:List α) (a:List β),(xs.foldl (λa x=>a++f x) a).length<=a.length+2*xs.length
 | [],a=>by simp
 |x::xs,a=>by have h1:=zDx hf xs (a++f x);have h2:=hf x;rw[Av]at h1;rw[List.foldl_cons,AH];omega
theorem zMo{ws:List An}{n:Am}{j:Db}(hg:L1 ws n)(h:∀t∈ws,Eu t)(hn:n.length<=2000000)(hA:UC j.fAct)(hR:Small j.fRow.ay):∃ops b,gT ws n j=some (ops,b)/\iX ws j=some b/\(b=true->XP ws n j=some ops)/\ops.length<=100:=by
 unfold gT iX;rw[Fl,Fx,Aa,Aa];cases hv:Ax j.ga 0 3 with
 |false=>exact⟨_,_,rfl,rfl,(λe=>by cases e),by simp⟩
 |true=>
  have Dh:=D8.1 hv;have hl:=hg.1;obtain⟨t,gt,hm,_⟩:=rG (xs:=ws) (i:=j.ga) Dh.1 (by omega);have hS:=h t hm;have hI:=zFG hg t hm;obtain⟨x,hx,_,_,_,PE⟩:=rB hI;have hc:=pZ PE;simp only[Bool.not_true,A7,if_false,gt,Aa];cases hf:j.gy with
  |true=>
   simp only[if_true];by_cases h2:j.ga<2
   ·rw[if_pos (by simpa using h2),if_neg (by simp;omega)];exact⟨_,_,rfl,rfl,(λe=>by cases e),by simp⟩
   ·rw[if_neg (by simpa using h2),if_pos (by simp;omega),zOt hA];unfold XM;cases hb:(((j.fAct.ah==0)&&((j.fAct.cu.ay.length:Int)==0))&&((j.fAct.c9.ay.length:Int)==0))with
    |false=>exact⟨_,_,rfl,rfl,(λe=>by cases e),by simp⟩
    |true=>
     obtain⟨q,e3,f3,f4⟩:=zGd (n:=n) hS;have hq:q.1=x:=by have h1:=(f4 hI).at_;rw[hx.at_]at h1;exact(Option.some.inj h1).symm
     unfold zI XP;simp only[Aa,Bool.not_true,A7,if_false,if_true,e3,f3,hI,TY hR,TW hR,hf,gt];cases hr:FK t j.fRow with
     |false=>exact⟨_,_,rfl,rfl,(λe=>by cases e),by simp⟩
     |true=>have Cs:=NG hR hr;unfold zM uF;have D4:t.ae.length<=2000000:=hS.name;simp only[hq,YC D4 hR (NF (by omega) Cs),Uv D4 hR (NF (by omega) Cs),qH D4 hn hx Cs,pT hS hn hx Cs,Aa,Bool.not_true,A7,if_false];exact⟨_,_,rfl,rfl,λ_=>rfl,by simp⟩
  |false=>
   simp only[A7,if_false];unfold z6 zR XP;simp only[Ug hS,PE,zGz (t:=t) (a:=j.fAct) (by omega) hA,zGm (t:=t) (a:=j.fAct) (by omega) hA,Aa,if_true,hf,gt,A7,if_false];by_cases hz:j.fRow.ay.length=0
   ·rw[if_neg (by simp[hz])];cases ha:Q2 t j.fAct with
    |false=>exact⟨_,_,rfl,rfl,(λe=>by cases e),by simp⟩
    |true=>
     have hai:=zPP hA ha;have hol:(ZZ t j.fAct).length<=100:=by have h1:=zDx (zt9 t j.fAct) t.aj (Nu t j.fAct);rw[zr8]at h1;show(t.aj.foldl (λo x=>o++Pc t j.fAct x) (Nu t j.fAct)).length<=100;omega
     simp only[zP5 hS PE hai,zPI hS PE hai,Aa,Bool.not_true,A7,if_false,hz,Bool.true_and];exact⟨_,_,rfl,rfl,λ_=>rfl,hol⟩
   ·rw[if_pos (by simp;omega),show((j.fRow.ay.length:Int)==0)=false by simpa using hz];simp only[Bool.and_false];exact⟨_,_,rfl,rfl,(λe=>by cases e),by simp⟩
structure zGe(j:Db):Prop where
 act:UC j.fAct
 row:Small j.fRow.ay
structure O2(a:CW):Prop where
 name:a.ae.length<=2000000
 ways:∀t∈a.cz,Eu t
 since:a.bq.length<=2000000
 pj:a.cq.length<=2000000
 pq:∀j∈a.cq,zGe j
 world:YP a.aq
def Gn(l:List Int)(i:Nat):Bool:=i==0||decide ((l[i-1]?).getD 0<=(l[i]?).getD 0)
def T2(l:List Int):Bool:=((l[0]?).getD 0==0)&&((l.all λx=>Ax x 0 100000)&&(List.range l.length).all (Gn l))
theorem zJN{l:List Int}(h:l.length<=2000000)(hn:0<l.length):eG l=some (T2 l):=by
 unfold eG;rw[FZ (n:=l.length) (body:=λs:Int=>SL l s) (λi=>(decide (i≠0)||((l[0]?).getD 0==0))&&(Ax ((l[i]?).getD 0) 0 100000&&Gn l i)) false (some true) ?_ (by show SL l l.length=_;unfold SL;rw[if_neg (by simp)])]
 ·have e:(List.range l.length).all (λi=>(decide (i≠0)||((l[0]?).getD 0==0))&&(Ax ((l[i]?).getD 0) 0 100000&&Gn l i))=T2 l:=by
   have e2:(List.range l.length).all (λi=>Ax ((l[i]?).getD 0) 0 100000&&Gn l i)=((l.all λx=>Ax x 0 100000)&&(List.range l.length).all (Gn l)):=Uj l (λx=>Ax x 0 100000) (Gn l) _ λi hi=>by simp[hi]
   rw[zC7,e2];unfold T2;congr 1;rw[Bool.eq_iff_iff];simp only[Ba,List.mem_range,Bool.or_eq_true,AR];constructor
   ·intro k;rcases k 0 hn with k|k
    ·exact absurd rfl k
    ·exact k
   ·intro k i _;exact .inr k
  rw[e];cases T2 l<;>rfl
 ·intro i hi;show SL l i=_;simp only[SL,Int.ofNat_lt,hi,decide_true,if_true,As hi,Aa,Yw,BA hi (by omega:l.length<=_),AL hi,Be,Gn,AL hn];by_cases h0:i=0
  ·subst h0;cases Ax l[0] 0 100000<;>cases hz:(l[0]==0)<;>simp[bne,hz]
  ·have hp:(i:Int)>0:=by omega
   have CO:i-1<l.length:=by omega
   have hb:(i==0)=false:=by simpa using h0
   have hq:((i:Int)==0)=false:=by simp;omega
   have hd:decide (l[i]<l[i-1])= !decide (l[i-1]<=l[i]):=by
    by_cases hx:l[i-1]<=l[i]
    ·rw[decide_eq_true hx,decide_eq_false (by omega)];rfl
    ·rw[decide_eq_false hx,decide_eq_true (by omega)];rfl
   simp only[hp,hq,decide_true,if_true,JN (Nat.pos_of_ne_zero h0) (by omega:i<=2000000),As CO,Aa,AL CO,Be,hb,Bool.false_or,hd,ne_eq,h0,not_false_eq_true,Bool.true_or,Bool.true_and];cases Ax l[i] 0 100000<;>cases decide (l[i-1]<=l[i])<;>rfl
theorem zN2{a:CW}(h:a.bq.length<=2000000)(hn:0<a.bq.length):Ao (λs:Int=>LV a s) 1=if(List.range a.bq.length).all (Gn a.bq)=true then M8 a else some false:=by
 classical
 have key:∀(n q:Nat),q+n=a.bq.length->1<=q->Ao (λs:Int=>LV a s) (q:Int)=if(∀i,q<=i->i<a.bq.length->Gn a.bq i=true)then M8 a else some false:=by
  intro n
  induction n with
  |zero=>
   intro q hq h1;have e:LV a (q:Int)=some (.inr (M8 a)):=by unfold LV;rw[if_neg (by simp;omega)]
   rw[Nf (body:=λs:Int=>LV a s) e,if_pos (λi h1 h2=>by omega)]
  |succ n ih=>
   intro q hq h1;have hi:q<a.bq.length:=by omega
   have CO:q-1<a.bq.length:=by omega
   have e:LV a (q:Int)=some (if Gn a.bq q=true then .inl ((q+1:Nat):Int)else .inr (some false)):=by
    have hd:decide (a.bq[q]<a.bq[q-1])= !Gn a.bq q:=by
     unfold Gn;rw[show(q==0)=false by simp;omega,Bool.false_or,AL hi,AL CO,Be,Be];by_cases hx:a.bq[q-1]<=a.bq[q]
     ·rw[decide_eq_true hx,decide_eq_false (by omega)];rfl
     ·rw[decide_eq_false hx,decide_eq_true (by omega)];rfl
    unfold LV;rw[if_pos (by simpa using hi),As hi,Aa,JN (by omega) (by omega),As CO,Aa,BA hi (by omega),hd];cases Gn a.bq q<;>rfl
   cases hu:Gn a.bq q with
   |false=>rw[hu]at e;rw[Nf (body:=λs:Int=>LV a s) e,if_neg (λk=>by have:=k q (AB _) hi;rw[hu]at this;cases this)]
   |true=>
    rw[hu]at e;rw[T1 (body:=λs:Int=>LV a s) e,ih (q+1) (by omega) (by omega)];by_cases hk:∀i,q+1<=i->i<a.bq.length->Gn a.bq i=true
    ·rw[if_pos hk,if_pos (λi h1 h2=>by
      by_cases hq:i=q
      ·subst hq;exact hu
      ·exact hk i (by omega) h2)]
    ·rw[if_neg hk,if_neg (λk=>hk λi h1 h2=>k i (by omega) h2)]
 refine(key (a.bq.length-1) 1 (by omega) (AB _)).trans ?_;by_cases hk:∀i,1<=i->i<a.bq.length->Gn a.bq i=true
 ·rw[if_pos hk,if_pos];rw[Ba];intro i hi;by_cases hz:i=0
  ·subst hz;rfl
  ·exact hk i (by omega) (List.mem_range.1 hi)
 ·rw[if_neg hk,if_neg];intro k;rw[Ba]at k;exact hk λi _ h2=>k i (List.mem_range.2 h2)
def OG(x y:AK):Bool:=x.ah==y.ah&&(x.ab==y.ab&&(x.aw==y.aw&&(x.ic==y.ic)))
theorem zFj(x y:AK):OG x y=true↔x=y:=by
 unfold OG;simp only[Ac,Ay];constructor
 ·rintro⟨h1,h2,h3,h4⟩;obtain⟨a,b,c,d⟩:=x;obtain⟨a',b',c',d'⟩:=y;dsimp only at h1 h2 h3 h4;rw[h1,h2,h3,h4]
 ·rintro rfl;simp
theorem zEm{xs ys:List AK}(h:xs.length<=2000000):∃r,cZ xs ys=some r/\(r=true↔xs=ys):=by
 unfold cZ;by_cases hl:xs.length=ys.length
 ·rw[if_neg (by simp[hl])];exact T6 OG zFj hl (body:=λs:Int=>Sq xs ys s) (λi hi hj=>by
   show Sq xs ys i=_;unfold Sq;rw[if_pos (by simpa using hi),As hi,Aa,As hj,Aa,BA hi (by omega)];show(if(!OG xs[i] ys[i])=true then _ else _)=_;cases OG xs[i] ys[i]<;>rfl) (by
   show Sq xs ys xs.length=_;unfold Sq;rw[if_neg (by simp)])
 ·rw[if_pos (by simp;omega)];exact⟨_,rfl,by simp,λe=>absurd (congrArg List.length e) hl⟩
theorem zEw{xs ys:List AK}(h:xs.length<=2000000):∃r,aQ xs ys=some r/\(r=true↔xs=ys):=by
 unfold aQ;by_cases hl:xs.length=ys.length
 ·rw[if_neg (by simp[hl])];exact T6 OG zFj hl (body:=λs:Int=>RZ xs ys s) (λi hi hj=>by
   show RZ xs ys i=_;unfold RZ;rw[if_pos (by simpa using hi),As hi,Aa,As hj,Aa,BA hi (by omega)];show(if(!OG xs[i] ys[i])=true then _ else _)=_;cases OG xs[i] ys[i]<;>rfl) (by
   show RZ xs ys xs.length=_;unfold RZ;rw[if_neg (by simp)])
 ·rw[if_pos (by simp;omega)];exact⟨_,rfl,by simp,λe=>absurd (congrArg List.length e) hl⟩
theorem zJ4{a b:Bool}{P:Prop}(h1:a=true↔P)(h2:b=true↔P):a=b:=Bool.eq_iff_iff.2 (h1.trans h2.symm)
theorem zK1{a:CW}(h:O2 a)(hg:L1 a.cz a.ae)(ht:a.aq.cf.length=a.cq.length)(i:Nat)(hi:i<a.cq.length):∃b:Bool,M7 a (i:Int)=some (if b=true then .inl ((i+1:Nat):Int)else .inr (some false))/\Ki a (i:Int)=some (if b=true then .inl ((i+1:Nat):Int)else .inr (some false)):=by
 have hj:=h.pq _ (Au hi);have Hj:i<a.aq.cf.length:=by omega
 have hn:=h.pj;obtain⟨ops,b,e1,e2,e3,e4⟩:=zMo hg h.ways h.name hj.act hj.row;unfold M7 Ki;rw[if_pos (by simpa using hi),if_pos (by simpa using hi),As hi,Aa,Aa,e1,e2,Aa,Aa,As Hj,BA hi (by omega)];cases b with
 |false=>exact⟨false,rfl,rfl⟩
 |true=>have ho:=(h.world.o5 _ (Au Hj)).ops.1;obtain⟨r1,s1,f1⟩:=zEm (xs:=ops) (ys:=a.aq.cf[i].ef) (by omega);obtain⟨r2,s2,f2⟩:=zEw (xs:=a.aq.cf[i].ef) (ys:=ops) ho;have hr:r2=r1:=zJ4 (f2.trans eq_comm) f1;subst hr;rw[if_pos rfl,if_pos rfl,Aa,Aa,s1,Aa,e3 rfl,Aa,s2,Aa];exact⟨r2,by cases r2<;>rfl,by cases r2<;>rfl⟩
noncomputable def MP(a:CW)(i:Nat):Bool:=match Ki a (i:Int)with|some (.inl _)=>true|_=>false
theorem zI3{a:CW}(h:O2 a)(hg:L1 a.cz a.ae)(ht:a.aq.cf.length=a.cq.length):∃r,Ao (λs:Int=>M7 a s) 0=some r/\Ao (λs:Int=>Ki a s) 0=some r:=by
 have key:∀i,i<a.cq.length->M7 a (i:Int)=some (if MP a i=true then .inl ((i+1:Nat):Int)else .inr (some false))/\Ki a (i:Int)=some (if MP a i=true then .inl ((i+1:Nat):Int)else .inr (some false)):=by
  intro i hi;obtain⟨b,e1,e2⟩:=zK1 h hg ht i hi;have:MP a i=b:=by unfold MP;rw[e2];cases b<;>rfl
  rw[this];exact⟨e1,e2⟩
 refine⟨(List.range a.cq.length).all (MP a),?_,?_⟩
 ·rw[FZ (n:=a.cq.length) (body:=λs:Int=>M7 a s) (MP a) false (some true) (λi hi=>(key i hi).1) (by
   show M7 a a.cq.length=_;unfold M7;rw[if_neg (by simp)])]
  cases(List.range a.cq.length).all (MP a)<;>rfl
 ·rw[FZ (n:=a.cq.length) (body:=λs:Int=>Ki a s) (MP a) false (some true) (λi hi=>(key i hi).2) (by
   show Ki a a.cq.length=_;unfold Ki;rw[if_neg (by simp)])]
  cases(List.range a.cq.length).all (MP a)<;>rfl
theorem zHN{xs ys:List Am}(h:xs.length<=2000000):∃r,M5 xs ys=some r/\(r=true↔xs=ys):=by
 unfold M5;by_cases hl:xs.length=ys.length
 ·rw[if_neg (by simp[hl])];exact T6 (λx y:Am=>x==y) (λx y=>by simp) hl (body:=λs:Int=>LU xs ys s) (λi hi hj=>by
   show LU xs ys i=_;unfold LU;rw[if_pos (by simpa using hi),As hi,Aa,As hj,Aa,BA hi (by omega)];cases hq:(xs[i]==ys[i])<;>simp[bne,hq]) (by
   show LU xs ys xs.length=_;unfold LU;rw[if_neg (by simp)])
 ·rw[if_pos (by simp;omega)];exact⟨_,rfl,by simp,λe=>absurd (congrArg List.length e) hl⟩
theorem zHs{w:BG}(h:Kk w=true):(w.cf.length:Int)<=6:=by unfold Kk at h;simp only[Ac,AR]at h;exact h.2.2.2.2.2.2.2.2.2.2.2.2.2.1
def Wp(a:CW):Prop:=a.aq.br=[(w0 a.cz).ae++ [47]]/\a.aq.cf.length=a.cq.length/\a.aq.cc.length=0
theorem zPU{α:Type}{l:List α}(h:(l.length:Int)=1):∃k,l=[k]:=by
 match l,h with
 | [k],_=>exact⟨k,rfl⟩
 | [],h=>simp at h
 |_::_::_,h=>simp at h;omega
theorem zO7{a:CW}(h:O2 a)(hg:L1 a.cz a.ae)(hw:Kk a.aq=true):(Wp a->M8 a=Ao (λs:Int=>M7 a s) 0)/\(¬Wp a->M8 a=some false):=by
 obtain⟨g0,m0⟩:=V9 hg.1;have hnm:=(h.ways _ m0).name;have hq:((w0 a.cz).ae).length+(([47]:Ab)).length<=9223372036854775807:=by rw[AO];omega
 unfold M8;rw[zDe h.world,Aa,hw,if_pos rfl,g0];by_cases h1:(a.aq.br.length:Int)=1
 ·obtain⟨k,hk⟩:=zPU h1;have gc:Ak a.aq.br 0=some k:=by rw[hk];rfl
  rw[if_neg (by simp[h1]),gc,Aa,Aa,AI hq];refine⟨λhp=> ?_,λhp=> ?_⟩
  ·obtain⟨p1,p2,p3⟩:=hp;rw[hk]at p1;have p1:k=(w0 a.cz).ae++ [47]:=(List.cons.inj p1).1;rw[if_neg (by simp[p1,p2,p3])]
  ·rw[if_pos];by_cases q1:k=(w0 a.cz).ae++ [47]
   ·by_cases q2:a.aq.cf.length=a.cq.length
    ·have q3: ¬a.aq.cc.length=0:=λq3=>hp ⟨by rw[hk,q1],q2,q3⟩;have q4:decide ((a.aq.cc.length:Int)>0)=true:=by simp;omega
     rw[q4,Bool.or_true]
    ·have q4:((a.aq.cf.length:Int) !=(a.cq.length:Int))=true:=by simp;omega
     rw[q4,Bool.or_true,Bool.true_or]
   ·have q4:(k !=(w0 a.cz).ae++ [47])=true:=by simpa using q1
    rw[q4,Bool.true_or,Bool.true_or]
 ·rw[if_pos (by simpa using h1)];exact⟨λhp=>absurd (by rw[hp.1];rfl) h1,λ_=>rfl⟩
theorem zKz{a:CW}(h:O2 a)(hg:L1 a.cz a.ae):∃o,((Ak a.cz 0).bind λy5=>
      Ar ((y5.ae).length+(([47]:Ab)).length<=9223372036854775807)<|
      (M5 a.aq.br ([(y5.ae++([47]:Ab))]:List (Ab))).bind λv6=>
      if(((!v6)||(decide ((a.aq.cc.length:Int)>0)))||((a.aq.cf.length:Int) !=(a.cq.length:Int)))then
       some false
      else
       Ao (λs:Int=>Ki a s) 0)=o/\(Wp a->o=Ao (λs:Int=>Ki a s) 0)/\(¬Wp a->o=some false):=by
 obtain⟨g0,m0⟩:=V9 hg.1;have hnm:=(h.ways _ m0).name;have hq:((w0 a.cz).ae).length+(([47]:Ab)).length<=9223372036854775807:=by rw[AO];omega
 obtain⟨rc,c1,c2⟩:=zHN (xs:=a.aq.br) (ys:=[(w0 a.cz).ae++ [47]]) h.world.mj.1;rw[g0,Aa,AI hq,c1,Aa];refine⟨_,rfl,λhp=> ?_,λhp=> ?_⟩
 ·obtain⟨p1,p2,p3⟩:=hp;have:rc=true:=c2.2 p1;rw[if_neg (by simp[this,p2,p3])]
 ·rw[if_pos];cases rc with
  |false=>rfl
  |true=>
   by_cases q2:a.aq.cf.length=a.cq.length
   ·have q3: ¬a.aq.cc.length=0:=λq3=>hp ⟨c2.1 rfl,q2,q3⟩;have q4:decide ((a.aq.cc.length:Int)>0)=true:=by simp;omega
    rw[q4,Bool.or_true,Bool.true_or]
   ·have q4:((a.aq.cf.length:Int) !=(a.cq.length:Int))=true:=by simp;omega
    rw[q4,Bool.or_true]
theorem zG7{a:CW}(h:O2 a)(hg:L1 a.cz a.ae):∃r,M8 a=some r/\(if((!true)||decide ((a.cq.length:Int)>6))=true then some false else(XA a.aq).bind λv4=>if v4=true then((Ak a.cz 0).bind λy5=>
      Ar ((y5.ae).length+(([47]:Ab)).length<=9223372036854775807)<|
      (M5 a.aq.br ([(y5.ae++([47]:Ab))]:List (Ab))).bind λv6=>
      if(((!v6)||(decide ((a.aq.cc.length:Int)>0)))||((a.aq.cf.length:Int) !=(a.cq.length:Int)))then
       some false
      else
       Ao (λs:Int=>Ki a s) 0)else some false)=some r/\(r=true->Kk a.aq=true):=by
 obtain⟨o,eo,o1,o2⟩:=zKz h hg;rw[eo,zIB h.world,Aa];cases hw:Kk a.aq with
 |false=>
  refine⟨false,?_,?_,λh=>by cases h⟩
  ·unfold M8;rw[zDe h.world,Aa,hw];rfl
  ·split<;>rfl
 |true=>
  obtain⟨k1,k2⟩:=zO7 h hg hw;have ht6:=zHs hw;by_cases hp:Wp a
  ·obtain⟨r,j1,j2⟩:=zI3 h hg hp.2.1;have hj:=hp.2.1;refine⟨r,(k1 hp).trans j1,?_,λ_=>rfl⟩;have q4:decide ((a.cq.length:Int)>6)=false:=by simp;omega
   rw[q4,if_neg (by simp),if_pos rfl,o1 hp,j2]
  ·refine⟨false,k2 hp,?_,λh=>by cases h⟩;rw[if_pos rfl,o2 hp];split<;>rfl
structure zQA(a:CW):Prop where
 ways:L1 a.cz a.ae
 low:Ax a.gi 0 2=true
 len:(a.bq.length:Int)=a.gi+1
 since:∀x∈a.bq,Ax x 0 100000=true
 world:Kk a.aq=true
theorem zER{a:CW}(h:O2 a):∃r,gG a=some r/\(eQ a=some r/\(r=true->zQA a)):=by
 obtain⟨x,e1,f1⟩:=zLd (n:=a.ae) h.ways;obtain⟨y,e2,f2⟩:=zLo (n:=a.ae) h.ways;have GY:y=x:=zJ4 f2 f1;subst GY;unfold gG eQ;rw[e1,e2,Aa,Aa];cases y with
 |false=>exact⟨_,rfl,rfl,λh=>by cases h⟩
 |true=>
  have hg:=f1.1 rfl;rw[if_pos rfl,if_pos rfl,Fl,Fx,Aa,Aa];cases PK:Ax a.gi 0 2 with
  |false=>exact⟨_,rfl,rfl,λh=>by cases h⟩
  |true=>
   have Ig:=D8.1 PK;have w:IntKind.i64.wrap (a.gi+1)=a.gi+1:=Cf (by omega) (by omega);rw[if_pos rfl,if_pos rfl,w];by_cases hs:(a.bq.length:Int)=a.gi+1
   ·have hn:0<a.bq.length:=by omega
    have hG:T2 a.bq=((a.bq[0]==0)&&((a.bq.all λx=>Ax x 0 100000)&&(List.range a.bq.length).all (Gn a.bq))):=by unfold T2;rw[AL hn,Be]
    rw[if_neg (by simp[hs]),if_neg (by simp[hs]),show Ak a.bq 0=some a.bq[0]from As hn,Aa,zJN h.since hn,Aa,qW h.since,zN2 h.since hn,hG];cases hz:(a.bq[0]==0)with
    |false=>rw[if_pos (by simp[bne,hz]),if_pos (by simp)];exact⟨_,rfl,rfl,λh=>by cases h⟩
    |true=>
     rw[if_neg (by simp[bne,hz]),Aa];cases Ck:(a.bq.all λx=>Ax x 0 100000)with
     |false=>rw[if_pos (by simp),if_pos (by simp)];exact⟨_,rfl,rfl,λh=>by cases h⟩
     |true=>
      rw[if_neg (by simp)];cases(List.range a.bq.length).all (Gn a.bq)with
      |false=>rw[if_neg (by simp),if_pos (by simp)];exact⟨_,rfl,rfl,λh=>by cases h⟩
      |true=>obtain⟨r,t1,t2,t3⟩:=zG7 h hg;rw[if_pos rfl,t1];exact⟨r,rfl,t2,λhr=>⟨hg,PK,hs,Ba.1 Ck,t3 hr⟩⟩
   ·rw[if_pos (by simpa using hs),if_pos (by simpa using hs)];exact⟨_,rfl,rfl,λh=>by cases h⟩
theorem I7{α:Type}{f:α->Option α}{d:α}{b:Int}{xs:List α}(hl:xs.length<=2000000)(h0:0<=b)(hb:b<=1000)(hx:∀x∈xs,f x=some x):toL f d b xs=some xs:=by
 unfold toL;have hq:(xs.length:Int)*b<=2000000*1000:=Int.mul_le_mul (by omega) hb h0 (by omega);rw[AI (by omega)];exact sF (λi hi v hv=>by
  show WK f xs i v=_;unfold WK;rw[if_pos (by simpa using hi),As hi,Aa,hx _ (Au hi),Aa,As (by omega),Aa,BA hi (by omega)];rfl) (λv=>by
  show WK f xs _ v=_;unfold WK;rw[if_neg (by simp)])
theorem It{α:Type}{f:α->α->Option Bool}{xs:List α}(hl:xs.length<=2000000)(hx:∀x∈xs,f x x=some true):GA f xs xs=some true:=by
 unfold GA;rw[if_neg (by simp)];exact sB (n:=xs.length) (λi hi=>by
  show WQ f xs xs i=_;unfold WQ;rw[if_pos (by simpa using hi),As hi,Aa,Aa,hx _ (Au hi),Aa,if_neg (by simp),BA hi (by omega)]) (by
  show WQ f xs xs _=_;unfold WQ;rw[if_neg (by simp)])
theorem JH{α:Type}{f:α->Int->Option Int}{tot:α->Nat}{xs:List α}{a:Int}(h0:0<=a)(h1:a<=1048576)(hl:xs.length<=9223372036854775807)(hx:∀x∈xs,∀b:Int,0<=b->b<=1048576-> ∃r,f x b=some r/\r<=b/\(0<=r->(tot x:Int)=b-r)):∃v,Iu f xs a=some v/\v<=a/\(0<=v->((xs.length+(xs.map tot).sum:Nat):Int)=a-v):=by
 unfold Iu;rw[IB h0 h1 hl];by_cases h2:a-(xs.length:Int)<0
 ·rw[if_pos (by simpa using h2)];exact⟨-1,rfl,by omega,by omega⟩
 ·rw[if_neg (by simpa using h2)];obtain⟨v,e1,e2,e3⟩:=szL (xs:=xs) (body:=λs:Int × Int=>RO f xs s.1 s.2) tot (a:=a-xs.length) (by omega) (by omega) (λx hxm b C5 CE=>by
   obtain⟨r,e1,e2,e3⟩:=hx x hxm b C5 CE;refine⟨r,e2,e3,λi hi=> ?_⟩;have BT:=(List.getElem?_eq_some_iff.1 hi).1;show RO f xs b i=_;unfold RO;rw[if_pos (by simpa using BT),show Ak xs (i:Int)=some x by simpa[Ak]using hi,Aa,e1,Aa,BA BT (by omega)];by_cases h3:r<0
   ·rw[if_pos (by simpa using h3),if_pos h3]
   ·rw[if_neg (by simpa using h3),if_neg h3]) (λb=>by
   show RO f xs b _=_;unfold RO;rw[if_neg (by simp)])
  exact⟨v,e1,by omega,λhv=>by have:=e3 hv;omega⟩
theorem Z9{k:Int}(h:0<=k):decide (k<0)=false:=by simp;omega
theorem zCr{α:Type}(tot:α->Nat){mb:Int × Int × List α->Option ((Int × Int × List α) ⊕ Option (Int × List α))}{hb:List α->Int × Int->Option ((Int × Int) ⊕ Option Int)}{B:Int}{xs:List α}{k:Int}{T:Nat}(h0:0<=k)(hT:xs.length+(xs.map tot).sum<=T)(hB:k+64*(T:Int)<=B)
  (hs:∀x∈xs,∀k:Int,0<=k->k+64*(1+(tot x:Int))<=B-> ∃(y:α) (k':Int),k<=k'/\k'<=k+64*(1+(tot x:Int))/\(∀(i:Nat) (v:List α),v[i]?=some x->i<xs.length->mb (k,(i:Int),v)=some (.inl (k',(i:Int)+1,v.set i y)))/\ ∀(i:Nat) (ys:List α),ys[i]?=some y->i<xs.length->hb ys (k,(i:Int))=some (.inl (k',(i:Int)+1)))
  (he:∀k v,v.length=xs.length->mb (k,(xs.length:Int),v)=some (.inr (some (k,v)))) (hh:∀k ys,ys.length=xs.length->hb ys (k,(xs.length:Int))=some (.inr (some k))):
  ∃(ys:List α) (k':Int),k<=k'/\k'<=k+64*(T:Int)/\ys.length=xs.length/\Ao mb (k,0,xs)=some (k',ys)/\Ao (hb ys) (k,0)=some k':=by
 have key:∀(suf pre:List α) (k:Int),pre.length+suf.length=xs.length->(∀x∈suf,x∈xs)->0<=k->k+64*((suf.length+(suf.map tot).sum:Nat):Int)<=B->
   ∃(suf':List α) (k':Int),k<=k'/\k'<=k+64*((suf.length+(suf.map tot).sum:Nat):Int)/\suf'.length=suf.length/\Ao mb (k,(pre.length:Int),pre++suf)=some (k',pre++suf')/\Ao (hb (pre++suf')) (k,(pre.length:Int))=some k':=by
  intro suf
  induction suf with
  |nil=>
   intro pre k hl _ _ _;have BP:(pre.length:Int)=(xs.length:Int):=by simp at hl;omega
   have Ig:pre.length=xs.length:=by omega
   refine⟨[],k,by omega,by omega,rfl,?_,?_⟩
   ·rw[DN,BP,he _ _ (by simpa using Ig)]
   ·rw[DN,BP,hh _ _ (by simpa using Ig)]
  |cons x t ih=>
   intro pre k hl hm h0 Cc;rw[List.map_cons,List.sum_cons,AH]at Cc ⊢;obtain⟨y,k1,a1,b1,e1,e2⟩:=hs x (hm x (by simp)) k h0 (by omega);rw[AH]at hl;obtain⟨t',k2,a2,b2,f1,f2,f3⟩:=ih (pre++ [y]) k1 (by simp;omega) (λz hz=>hm z (by simp[hz])) (by omega) (by omega);have ea:pre++y::t'=pre++ [y]++t':=by simp
   have eb:(pre++x::t).set pre.length y=pre++ [y]++t:=by simp
   have ec:(((pre++ [y]).length:Nat):Int)=(pre.length:Int)+1:=by simp
   refine⟨y::t',k2,by omega,by omega,by simp[f1],?_,?_⟩
   ·rw[DN,e1 pre.length _ (by simp) (by omega),eb];show Ao mb (k1,(pre.length:Int)+1,pre++ [y]++t)=_;rw[<-ec,f2,ea]
   ·rw[DN,e2 pre.length _ (by simp) (by omega),ea];show Ao (hb (pre++ [y]++t')) (k1,(pre.length:Int)+1)=_;rw[<-ec,f3]
 obtain⟨ys,k',a,b,c,d,e⟩:=key xs [] k (by simp) (λ_ h=>h) h0 (by omega);exact⟨ys,k',a,by omega,c,by simpa using d,by simpa using e⟩
theorem IA{α:Type}(tot:α->Nat){mb:Int × Int × List α->Option ((Int × Int × List α) ⊕ Option (Int × List α))}{B:Int}{xs:List α}{k:Int}{T:Nat}(h0:0<=k)(hT:xs.length+(xs.map tot).sum<=T)(hB:k+64*(T:Int)<=B)
  (hs:∀x∈xs,∀k:Int,0<=k->k+64*(1+(tot x:Int))<=B-> ∃(y:α) (k':Int),k<=k'/\k'<=k+64*(1+(tot x:Int))/\ ∀(i:Nat) (v:List α),v[i]?=some x->i<xs.length->mb (k,(i:Int),v)=some (.inl (k',(i:Int)+1,v.set i y)))
  (he:∀k v,v.length=xs.length->mb (k,(xs.length:Int),v)=some (.inr (some (k,v)))):
  ∃(ys:List α) (k':Int),k<=k'/\k'<=k+64*(T:Int)/\ys.length=xs.length/\Ao mb (k,0,xs)=some (k',ys):=by
 have key:∀(suf pre:List α) (k:Int),pre.length+suf.length=xs.length->(∀x∈suf,x∈xs)->0<=k->k+64*((suf.length+(suf.map tot).sum:Nat):Int)<=B->
   ∃(suf':List α) (k':Int),k<=k'/\k'<=k+64*((suf.length+(suf.map tot).sum:Nat):Int)/\suf'.length=suf.length/\Ao mb (k,(pre.length:Int),pre++suf)=some (k',pre++suf'):=by
  intro suf
  induction suf with
  |nil=>
   intro pre k hl _ _ _;have BP:(pre.length:Int)=(xs.length:Int):=by simp at hl;omega
   have Ig:pre.length=xs.length:=by omega
   exact⟨[],k,by omega,by omega,rfl,by rw[DN,BP,he _ _ (by simpa using Ig)]⟩
  |cons x t ih=>
   intro pre k hl hm h0 Cc;rw[List.map_cons,List.sum_cons,AH]at Cc ⊢;obtain⟨y,k1,a1,b1,e1⟩:=hs x (hm x (by simp)) k h0 (by omega);rw[AH]at hl;obtain⟨t',k2,a2,b2,f1,f2⟩:=ih (pre++ [y]) k1 (by simp;omega) (λz hz=>hm z (by simp[hz])) (by omega) (by omega);have ea:pre++y::t'=pre++ [y]++t':=by simp
   have eb:(pre++x::t).set pre.length y=pre++ [y]++t:=by simp
   have ec:(((pre++ [y]).length:Nat):Int)=(pre.length:Int)+1:=by simp
   refine⟨y::t',k2,by omega,by omega,by simp[f1],?_⟩;rw[DN,e1 pre.length _ (by simp) (by omega),eb];show Ao mb (k1,(pre.length:Int)+1,pre++ [y]++t)=_;rw[<-ec,f2,ea]
 obtain⟨ys,k',a,b,c,d⟩:=key xs [] k (by simp) (λ_ h=>h) h0 (by omega);exact⟨ys,k',a,by omega,c,by simpa using d⟩
theorem FY{α:Type}{xs:List α}{i:Nat}{x:α}(h:xs[i]?=some x):Ak xs (i:Int)=some x:=by simp[Ak,h]
noncomputable def mt(n:Int):Ab:=(Ht n).getD []
theorem OX{n:Int}(h:n<=4611686018427387904):Ht n=some (mt n):=by
 have key:∃t,Ht n=some t:=by
  unfold Ht;by_cases h0:n<=0
  ·rw[if_pos (by simpa using h0)];exact⟨_,rfl⟩
  ·rw[if_neg (by simpa using h0)];have go:∀(f:Nat) (n:Int) (s:Ab),n.toNat<=f->0<=n->n+s.length<=4611686018427387905-> ∃t,Ao (λs:Int × Ab=>OH s.1 s.2) (n,s)=some t:=by
    intro f;have stop:∀(n:Int) (s:Ab),¬n>0->s.length<=4611686018427387905->Ao (λs:Int × Ab=>OH s.1 s.2) (n,s)=some ([109]++s):=λn s hz hs=>by refine Nf (?_:OH n s=_);unfold OH;rw[if_neg (by simpa using hz)];unfold znU;rw[AI (by rw[AO];omega)]
    induction f with
    |zero=>intro n s hf hn hs;exact⟨_,stop n s (by omega) (by omega)⟩
    |succ f ih=>
     intro n s hf hn hs;by_cases hz:n>0
     ·have hd:Int.tdiv n 10<n/\0<=Int.tdiv n 10:=by
       rw[Int.tdiv_eq_ediv_of_nonneg hn];omega
      obtain⟨t,ht⟩:=ih (Int.tdiv n 10) ([(IntKind.u8.wrap (IntKind.i64.wrap ((48:Int)+(Int.tmod n 10))))].map (λn=>UInt8.ofNat n.toNat)++s) (by omega) (by omega) (by simp only[Av,List.length_map,AO];omega);have e:OH n s=some (.inl (Int.tdiv n 10,[(IntKind.u8.wrap (IntKind.i64.wrap ((48:Int)+(Int.tmod n 10))))].map (λn=>UInt8.ofNat n.toNat)++s)):=by unfold OH;rw[if_pos (by simpa using hz),AI (by simp),AI (by rw[List.length_map,AO];omega),Cf (n:=Int.tdiv n 10) (by omega) (by omega)]
      exact⟨t,(T1 (body:=λs:Int × Ab=>OH s.1 s.2) e).trans ht⟩
     ·exact⟨_,stop n s hz (by omega)⟩
   exact go n.toNat n [] (AB _) (by omega) (by simp;omega)
 obtain⟨t,ht⟩:=key;rw[mt,ht];rfl
def DU(l:List (Ab)):Nat:=l.length+(l.map (λx:Ab=>x.length)).sum
theorem X3{xs:List (Ab)}(h:DU xs<=2000000):OO xs=some xs:=by
 have hl:xs.length<=2000000:=by unfold DU at h;omega
 have hx:∀x∈xs,x.length<=2000000:=λx hx=>by have:=CQ (tot:=(λx:Ab=>x.length)) hx;unfold DU at h;omega
 unfold OO;rw[AI (by omega)];exact sF (λi hi v hv=>by
  show Xg xs i v=_;unfold Xg;rw[if_pos (by simpa using hi),As hi,Aa,As (by omega),Aa,BA hi (by omega)];rfl) (λv=>by
  show Xg xs _ v=_;unfold Xg;rw[if_neg (by simp)])
theorem X9{xs:List (Ab)}(h:DU xs<=2000000):ON xs xs=some true:=by
 have hl:xs.length<=2000000:=by unfold DU at h;omega
 have hx:∀x∈xs,x.length<=2000000:=λx hx=>by have:=CQ (tot:=(λx:Ab=>x.length)) hx;unfold DU at h;omega
 unfold ON;rw[if_neg (by simp)];exact sB (n:=xs.length) (λi hi=>by
  show Xc xs xs i=_;unfold Xc;rw[if_pos (by simpa using hi),As hi,Aa,Aa,if_neg (by simp),BA hi (by omega)]) (by
  show Xc xs xs _=_;unfold Xc;rw[if_neg (by simp)])
theorem X4{xs:List (Ab)}{a:Int}(h0:0<=a)(h1:a<=1048576)(h:(B5 Gj) xs):∃v,OL xs a=some v/\v<=a/\(0<=v->(DU xs:Int)=a-v):=by
 have hl:xs.length<=9223372036854775807:=h.1;unfold OL DU;rw[IB h0 h1 hl];by_cases h2:a-(xs.length:Int)<0
 ·rw[if_pos (by simpa using h2)];exact⟨-1,rfl,by omega,by omega⟩
 ·rw[if_neg (by simpa using h2)];obtain⟨v,e1,e2,e3⟩:=szL (xs:=xs) (body:=λs:Int × Int=>Sh xs s.1 s.2) (λx:Ab=>x.length) (a:=a-xs.length) (by omega) (by omega) (λx hx b C5 CE=>by
   refine⟨b-(x.length:Int),by omega,λ_=>by show(x.length:Int)=_;omega,λi hi=> ?_⟩;have BT:=(List.getElem?_eq_some_iff.1 hi).1;show Sh xs b i=_;unfold Sh;rw[if_pos (by simpa using BT),FY hi,Aa,IB C5 CE (h.2 _ hx),BA BT (by omega)];by_cases h3:b-(x.length:Int)<0
   ·rw[if_pos (by simpa using h3),if_pos h3]
   ·rw[if_neg (by simpa using h3),if_neg h3]) (λb=>by
   show Sh xs b _=_;unfold Sh;rw[if_neg (by simp)])
  exact⟨v,e1,by omega,λhv=>by have:=e3 hv;omega⟩
theorem OV{xs:List (Ab)}{k:Int}(h0:0<=k)(hk:k+64*(DU xs:Int)<=4611686018427387904):∃(ys:List (Ab)) (k':Int),k<=k'/\k'<=k+64*(DU xs:Int)/\ys.length=xs.length/\LW xs k=some (k',ys)/\uX ys k=some k':=by
 have hl:xs.length<=DU xs:=by unfold DU;omega
 refine zCr (λx:Ab=>x.length) (mb:=λs:Int × Int × List (Ab)=>Sz s.1 s.2.1 s.2.2) (hb:=λys s=>SB ys s.1 s.2) h0 (by simp[DU]) hk (λx hx k h0 hB=> ?_) (λk v hv=> ?_) (λk ys hy=> ?_)
 ·have hB:k+64*(1+(x.length:Int))<=4611686018427387904:=hB;refine⟨?y,k+1,by omega,by omega,λi v hv hi=> ?_,λi ys hy hi=> ?_⟩
  rotate_left
  ·have BT:=(List.getElem?_eq_some_iff.1 hv).1;show Sz k i v=_;unfold Sz;rw[if_pos (by simpa using BT)];simp(disch:=omega) only[FY hv,Cf,Bl,List.set_set,Aa,OX]<;>rfl
  ·have BT:=(List.getElem?_eq_some_iff.1 hy).1;show SB ys k i=_;unfold SB;rw[if_pos (by simpa using BT)];simp(disch:=omega) only[FY hy,bne_self_eq_false,A7,if_false,Z9,Cf,Bl,List.set_set,Aa,OX]<;>rfl
 ·show Sz k _ v=_;unfold Sz;rw[if_neg (by simp[hv])]
 ·show SB ys k _=_;unfold SB;rw[if_neg (by simp[hy])]
def HF(x:A5):Nat:=x.ae.length
theorem zPj{x:A5}(h:HF x<=2000000):zS x=some x:=rfl
theorem zPH{x:A5}(h:HF x<=2000000):iV x x=some true:=by unfold iV;simp[]
theorem zP1{x:A5}{a:Int}(h0:0<=a)(h1:a<=1048576)(h:Wy x):∃v,iW x a=some v/\v<=a/\(0<=v->(HF x:Int)=a-v):=by
 unfold iW HF;rw[IB (a:=a) (by omega) (by omega) h.1];by_cases q0:a-(x.ae.length:Int)<0
 ·rw[if_pos (by simpa using q0)];exact⟨-1,rfl,by omega,by omega⟩
 rw[if_neg (by simpa using q0)];exact⟨(a-(x.ae.length:Int)),rfl,by omega,λ_=>by omega⟩
def ID(l:List A5):Nat:=l.length+(l.map HF).sum
theorem zNv{xs:List A5}(h:ID xs<=2000000):zD xs=some xs:=by
 have hl:xs.length<=2000000:=by unfold ID at h;omega
 have hx:∀x∈xs,HF x<=2000000:=λx hx=>by have:=CQ (tot:=HF) hx;unfold ID at h;omega
 exact I7 hl (by omega) (by omega) λx hm=>zPj (hx x hm)
theorem zNY{xs:List A5}(h:ID xs<=2000000):z8 xs xs=some true:=by
 have hl:xs.length<=2000000:=by unfold ID at h;omega
 have hx:∀x∈xs,HF x<=2000000:=λx hx=>by have:=CQ (tot:=HF) hx;unfold ID at h;omega
 exact It hl λx hm=>zPH (hx x hm)
theorem zN1{xs:List A5}{a:Int}(h0:0<=a)(h1:a<=1048576)(h:(B5 Wy) xs):∃v,zC xs a=some v/\v<=a/\(0<=v->(ID xs:Int)=a-v):=by have hl:xs.length<=9223372036854775807:=h.1;exact JH (tot:=HF) h0 h1 hl λx hx b C5 CE=>zP1 (x:=x) C5 CE (h.2 _ hx)
theorem zIX{xs:List A5}{k:Int}(h0:0<=k)(hk:k+64*(ID xs:Int)<=4611686018427387904):∃(ys:List A5) (k':Int),k<=k'/\k'<=k+64*(ID xs:Int)/\ys.length=xs.length/\xS xs k=some (k',ys):=by
 have hl:xs.length<=ID xs:=by unfold ID;omega
 refine IA HF (mb:=λs:Int × Int × List A5=>SZ s.1 s.2.1 s.2.2) h0 (by simp[ID]) hk (λx hx k h0 hB=> ?_) (λk v hv=> ?_)
 ·have hT:HF x=x.ae.length:=rfl;refine⟨?y,k+1+1+1,by omega,by omega,λi v hv hi=> ?_⟩
  rotate_left
  ·have BT:=(List.getElem?_eq_some_iff.1 hv).1;show SZ k i v=_;unfold SZ;rw[if_pos (by simpa using BT)];simp(disch:=omega) only[FY hv,Cf,Bl,List.set_set,Aa,OX]<;>rfl
 ·show SZ k _ v=_;unfold SZ;rw[if_neg (by simp[hv])]
def Gg(x:An):Nat:=x.ae.length+DU x.bf+ID x.aj
theorem zMc{x:An}(h:Gg x<=2000000):fP x=some x:=by unfold fP;simp only[X3 (xs:=x.bf) (by unfold Gg at h;omega),zNv (xs:=x.aj) (by unfold Gg at h;omega),Aa]
theorem zMx{x:An}(h:Gg x<=2000000):gE x x=some true:=by unfold gE;simp[X9 (xs:=x.bf) (by unfold Gg at h;omega),zNY (xs:=x.aj) (by unfold Gg at h;omega)]
theorem zMq{x:An}{a:Int}(h0:0<=a)(h1:a<=1048576)(h:YT x):∃v,gI x a=some v/\v<=a/\(0<=v->(Gg x:Int)=a-v):=by
 unfold gI Gg;rw[IB (a:=a) (by omega) (by omega) h.1];by_cases q0:a-(x.ae.length:Int)<0
 ·rw[if_pos (by simpa using q0)];exact⟨-1,rfl,by omega,by omega⟩
 rw[if_neg (by simpa using q0)];obtain⟨b1,e1,g1,r1⟩:=X4 (xs:=x.bf) (a:=(a-(x.ae.length:Int))) (by omega) (by omega) h.2.1;rw[e1,Aa];by_cases q1:b1<0
 ·rw[if_pos (by simpa using q1)];exact⟨-1,rfl,by omega,by omega⟩
 rw[if_neg (by simpa using q1)];have s1:=r1 (by omega);obtain⟨b2,e2,g2,r2⟩:=zN1 (xs:=x.aj) (a:=b1) (by omega) (by omega) h.2.2;rw[e2,Aa];by_cases q2:b2<0
 ·rw[if_pos (by simpa using q2)];exact⟨-1,rfl,by omega,by omega⟩
 rw[if_neg (by simpa using q2)];have s2:=r2 (by omega);exact⟨b2,rfl,by omega,λ_=>by omega⟩
def Ix(l:List An):Nat:=l.length+(l.map Gg).sum
theorem zJU{xs:List An}(h:Ix xs<=2000000):yV xs=some xs:=by
 have hl:xs.length<=2000000:=by unfold Ix at h;omega
 have hx:∀x∈xs,Gg x<=2000000:=λx hx=>by have:=CQ (tot:=Gg) hx;unfold Ix at h;omega
 exact I7 hl (by omega) (by omega) λx hm=>zMc (hx x hm)
theorem zJ3{xs:List An}(h:Ix xs<=2000000):xY xs xs=some true:=by
 have hl:xs.length<=2000000:=by unfold Ix at h;omega
 have hx:∀x∈xs,Gg x<=2000000:=λx hx=>by have:=CQ (tot:=Gg) hx;unfold Ix at h;omega
 exact It hl λx hm=>zMx (hx x hm)
theorem zIE{xs:List An}{a:Int}(h0:0<=a)(h1:a<=1048576)(h:(B5 YT) xs):∃v,yA xs a=some v/\v<=a/\(0<=v->(Ix xs:Int)=a-v):=by have hl:xs.length<=9223372036854775807:=h.1;exact JH (tot:=Gg) h0 h1 hl λx hx b C5 CE=>zMq (x:=x) C5 CE (h.2 _ hx)
theorem zD1{xs:List An}{k:Int}(h0:0<=k)(hk:k+64*(Ix xs:Int)<=4611686018427387904):∃(ys:List An) (k':Int),k<=k'/\k'<=k+64*(Ix xs:Int)/\ys.length=xs.length/\wH xs k=some (k',ys):=by
 have hl:xs.length<=Ix xs:=by unfold Ix;omega
 refine IA Gg (mb:=λs:Int × Int × List An=>Sp s.1 s.2.1 s.2.2) h0 (by simp[Ix]) hk (λx hx k h0 hB=> ?_) (λk v hv=> ?_)
 ·have hT:Gg x=x.ae.length+DU x.bf+ID x.aj:=rfl;obtain⟨r0,k0,a0,b0, -,m0,g0⟩:=OV (xs:=x.bf) (k:=k+1) (by omega) (by omega);obtain⟨r1,k1,a1,b1, -,m1⟩:=zIX (xs:=x.aj) (k:=k0) (by omega) (by omega);refine⟨?y,k1,by omega,by omega,λi v hv hi=> ?_⟩
  rotate_left
  ·have BT:=(List.getElem?_eq_some_iff.1 hv).1;show Sp k i v=_;unfold Sp;rw[if_pos (by simpa using BT)];simp(disch:=omega) only[FY hv,Cf,Bl,List.set_set,Aa,OX,m0,m1]<;>rfl
 ·show Sp k _ v=_;unfold Sp;rw[if_neg (by simp[hv])]
def Fy(l:List Int):Nat:=l.length
theorem rH{xs:List Int}(h:Fy xs<=2000000):TI xs=some xs:=by
 have hl:xs.length<=2000000:=by unfold Fy at h;omega
 unfold TI;rw[AI (by omega)];exact sF (λi hi v hv=>by
  show Xu xs i v=_;unfold Xu;rw[if_pos (by simpa using hi),As hi,Aa,As (by omega),Aa,BA hi (by omega)];rfl) (λv=>by
  show Xu xs _ v=_;unfold Xu;rw[if_neg (by simp)])
theorem qX{xs:List Int}(h:Fy xs<=2000000):TJ xs xs=some true:=by
 have hl:xs.length<=2000000:=by unfold Fy at h;omega
 unfold TJ;rw[if_neg (by simp)];exact sB (n:=xs.length) (λi hi=>by
  show XE xs xs i=_;unfold XE;rw[if_pos (by simpa using hi),As hi,Aa,Aa,if_neg (by simp),BA hi (by omega)]) (by
  show XE xs xs _=_;unfold XE;rw[if_neg (by simp)])
theorem rR{xs:List Int}{a:Int}(h0:0<=a)(h1:a<=1048576)(h:(B5 Dp) xs):∃v,TK xs a=some v/\v<=a/\(0<=v->(Fy xs:Int)=a-v):=by
 have hl:xs.length<=9223372036854775807:=h.1;unfold TK Fy;rw[IB h0 h1 hl];by_cases h2:a-(xs.length:Int)<0
 ·rw[if_pos (by simpa using h2)];exact⟨-1,rfl,by omega,by omega⟩
 ·rw[if_neg (by simpa using h2)];exact⟨_,rfl,by omega,λ_=>by omega⟩
theorem zw4{xs:List Int}{k:Int}(h0:0<=k)(hk:k+64*(Fy xs:Int)<=4611686018427387904):∃(ys:List Int) (k':Int),k<=k'/\k'<=k+64*(Fy xs:Int)/\ys.length=xs.length/\Xn xs k=some (k',ys):=by
 have hl:xs.length<=Fy xs:=by unfold Fy;omega
 refine IA (λ_=>0) (mb:=λs:Int × Int × List Int=>SX s.1 s.2.1 s.2.2) h0 (by rw[zC2];unfold Fy;omega) hk (λx hx k h0 hB=> ?_) (λk v hv=> ?_)
 ·refine⟨?y,k+1,by omega,by omega,λi v hv hi=> ?_⟩
  rotate_left
  ·have BT:=(List.getElem?_eq_some_iff.1 hv).1;show SX k i v=_;unfold SX;rw[if_pos (by simpa using BT)];simp(disch:=omega) only[FY hv,Cf,Bl,List.set_set,Aa]<;>rfl
 ·show SX k _ v=_;unfold SX;rw[if_neg (by simp[hv])]
def Gu(x:A4):Nat:=DU x.ay
theorem sD{x:A4}(h:Gu x<=2000000):TN x=some x:=by unfold TN;simp only[X3 (xs:=x.ay) (by unfold Gu at h;omega),Aa]
theorem ZM{x:A4}(h:Gu x<=2000000):QO x x=some true:=by unfold QO;simp[X9 (xs:=x.ay) (by unfold Gu at h;omega)]
theorem rZ{x:A4}{a:Int}(h0:0<=a)(h1:a<=1048576)(h:Wr x):∃v,TQ x a=some v/\v<=a/\(0<=v->(Gu x:Int)=a-v):=by
 unfold TQ Gu;obtain⟨b0,e0,g0,r0⟩:=X4 (xs:=x.ay) (a:=a) (by omega) (by omega) h;rw[e0,Aa];by_cases q0:b0<0
 ·rw[if_pos (by simpa using q0)];exact⟨-1,rfl,by omega,by omega⟩
 rw[if_neg (by simpa using q0)];have s0:=r0 (by omega);exact⟨b0,rfl,by omega,λ_=>by omega⟩
def LX(x:Cv):Nat:=Gu x.cu+Gu x.c9
theorem zHD{x:Cv}(h:LX x<=2000000):dJ x=some x:=by unfold dJ;simp only[sD (x:=x.cu) (by unfold LX at h;omega),sD (x:=x.c9) (by unfold LX at h;omega),Aa]
theorem zJz{x:Cv}(h:LX x<=2000000):eK x x=some true:=by unfold eK;simp[ZM (x:=x.cu) (by unfold LX at h;omega),ZM (x:=x.c9) (by unfold LX at h;omega)]
theorem zHQ{x:Cv}{a:Int}(h0:0<=a)(h1:a<=1048576)(h:pY x):∃v,eS x a=some v/\v<=a/\(0<=v->(LX x:Int)=a-v):=by
 unfold eS LX;obtain⟨b1,e1,g1,r1⟩:=rZ (x:=x.cu) (a:=a) (by omega) (by omega) h.2.1;rw[e1,Aa];by_cases q1:b1<0
 ·rw[if_pos (by simpa using q1)];exact⟨-1,rfl,by omega,by omega⟩
 rw[if_neg (by simpa using q1)];have s1:=r1 (by omega);obtain⟨b2,e2,g2,r2⟩:=rZ (x:=x.c9) (a:=b1) (by omega) (by omega) h.2.2;rw[e2,Aa];by_cases q2:b2<0
 ·rw[if_pos (by simpa using q2)];exact⟨-1,rfl,by omega,by omega⟩
 rw[if_neg (by simpa using q2)];have s2:=r2 (by omega);exact⟨b2,rfl,by omega,λ_=>by omega⟩
def Gf(x:Db):Nat:=LX x.fAct+Gu x.fRow
theorem zGi{x:Db}(h:Gf x<=2000000):cP x=some x:=by unfold cP;simp only[zHD (x:=x.fAct) (by unfold Gf at h;omega),sD (x:=x.fRow) (by unfold Gf at h;omega),Aa]
theorem zGG{x:Db}(h:Gf x<=2000000):dY x x=some true:=by unfold dY;simp[zJz (x:=x.fAct) (by unfold Gf at h;omega),ZM (x:=x.fRow) (by unfold Gf at h;omega)]
theorem zHf{x:Db}{a:Int}(h0:0<=a)(h1:a<=1048576)(h:Yj x):∃v,cM x a=some v/\v<=a/\(0<=v->(Gf x:Int)=a-v):=by
 unfold cM Gf;obtain⟨b2,e2,g2,r2⟩:=zHQ (x:=x.fAct) (a:=a) (by omega) (by omega) h.2.2.1;rw[e2,Aa];by_cases q2:b2<0
 ·rw[if_pos (by simpa using q2)];exact⟨-1,rfl,by omega,by omega⟩
 rw[if_neg (by simpa using q2)];have s2:=r2 (by omega);obtain⟨b3,e3,g3,r3⟩:=rZ (x:=x.fRow) (a:=b2) (by omega) (by omega) h.2.2.2;rw[e3,Aa];by_cases q3:b3<0
 ·rw[if_pos (by simpa using q3)];exact⟨-1,rfl,by omega,by omega⟩
 rw[if_neg (by simpa using q3)];have s3:=r3 (by omega);exact⟨b3,rfl,by omega,λ_=>by omega⟩
def Iw(l:List Db):Nat:=l.length+(l.map Gf).sum
theorem zEl{xs:List Db}(h:Iw xs<=2000000):xB xs=some xs:=by
 have hl:xs.length<=2000000:=by unfold Iw at h;omega
 have hx:∀x∈xs,Gf x<=2000000:=λx hx=>by have:=CQ (tot:=Gf) hx;unfold Iw at h;omega
 exact I7 hl (by omega) (by omega) λx hm=>zGi (hx x hm)
theorem zEj{xs:List Db}(h:Iw xs<=2000000):wJ xs xs=some true:=by
 have hl:xs.length<=2000000:=by unfold Iw at h;omega
 have hx:∀x∈xs,Gf x<=2000000:=λx hx=>by have:=CQ (tot:=Gf) hx;unfold Iw at h;omega
 exact It hl λx hm=>zGG (hx x hm)
theorem zE3{xs:List Db}{a:Int}(h0:0<=a)(h1:a<=1048576)(h:(B5 Yj) xs):∃v,wZ xs a=some v/\v<=a/\(0<=v->(Iw xs:Int)=a-v):=by have hl:xs.length<=9223372036854775807:=h.1;exact JH (tot:=Gf) h0 h1 hl λx hx b C5 CE=>zHf (x:=x) C5 CE (h.2 _ hx)
theorem zBV{xs:List Db}{k:Int}(h0:0<=k)(hk:k+64*(Iw xs:Int)<=4611686018427387904):∃(ys:List Db) (k':Int),k<=k'/\k'<=k+64*(Iw xs:Int)/\ys.length=xs.length/\vE xs k=some (k',ys):=by
 have hl:xs.length<=Iw xs:=by unfold Iw;omega
 refine IA Gf (mb:=λs:Int × Int × List Db=>R6 s.1 s.2.1 s.2.2) h0 (by simp[Iw]) hk (λx hx k h0 hB=> ?_) (λk v hv=> ?_)
 ·have hT:Gf x=((DU x.fAct.cu.ay)+(DU x.fAct.c9.ay))+(DU x.fRow.ay):=rfl;obtain⟨r0,k0,a0,b0, -,m0,g0⟩:=OV (xs:=x.fAct.cu.ay) (k:=k+1+1+1) (by omega) (by omega);obtain⟨r1,k1,a1,b1, -,m1,g1⟩:=OV (xs:=x.fAct.c9.ay) (k:=k0) (by omega) (by omega);obtain⟨r2,k2,a2,b2, -,m2,g2⟩:=OV (xs:=x.fRow.ay) (k:=k1) (by omega) (by omega);refine⟨?y,k2,by omega,by omega,λi v hv hi=> ?_⟩
  rotate_left
  ·have BT:=(List.getElem?_eq_some_iff.1 hv).1;show R6 k i v=_;unfold R6;rw[if_pos (by simpa using BT)];simp(disch:=omega) only[FY hv,Cf,Bl,List.set_set,Aa,m0,m1,m2]<;>rfl
 ·show R6 k _ v=_;unfold R6;rw[if_neg (by simp[hv])]
theorem zKt{x:DB}:yF x=some x:=rfl
theorem zLC{x:DB}:eX x x=some true:=by unfold eX;simp[]
def Hy(l:List DB):Nat:=l.length
theorem zJB{xs:List DB}(h:Hy xs<=2000000):xX xs=some xs:=by
 have hl:xs.length<=2000000:=by unfold Hy at h;omega
 exact I7 hl (by omega) (by omega) λx hm=>zKt
theorem zIJ{xs:List DB}(h:Hy xs<=2000000):yB xs xs=some true:=by
 have hl:xs.length<=2000000:=by unfold Hy at h;omega
 exact It hl λx hm=>zLC
theorem zH9{xs:List DB}{a:Int}(h0:0<=a)(h1:a<=1048576)(h:(B5 ZB) xs):∃v,eP xs a=some v/\v<=a/\(0<=v->(Hy xs:Int)=a-v):=by
 have hl:xs.length<=9223372036854775807:=h.1;unfold eP Hy;rw[IB h0 h1 hl];by_cases h2:a-(xs.length:Int)<0
 ·rw[if_pos (by simpa using h2)];exact⟨-1,rfl,by omega,by omega⟩
 ·rw[if_neg (by simpa using h2)];exact⟨_,rfl,by omega,λ_=>by omega⟩
theorem zEX{xs:List DB}{k:Int}(h0:0<=k)(hk:k+64*(Hy xs:Int)<=4611686018427387904):∃(ys:List DB) (k':Int),k<=k'/\k'<=k+64*(Hy xs:Int)/\ys.length=xs.length/\wX xs k=some (k',ys):=by
 have hl:xs.length<=Hy xs:=by unfold Hy;omega
 refine IA (λ_=>0) (mb:=λs:Int × Int × List DB=>Sn s.1 s.2.1 s.2.2) h0 (by rw[zC2];unfold Hy;omega) hk (λx hx k h0 hB=> ?_) (λk v hv=> ?_)
 ·refine⟨?y,k+1,by omega,by omega,λi v hv hi=> ?_⟩
  rotate_left
  ·have BT:=(List.getElem?_eq_some_iff.1 hv).1;show Sn k i v=_;unfold Sn;rw[if_pos (by simpa using BT)];simp(disch:=omega) only[FY hv,Cf,Bl,List.set_set,Aa]<;>rfl
 ·show Sn k _ v=_;unfold Sn;rw[if_neg (by simp[hv])]
def Iy(x:Ah):Nat:=x.ab.length+x.aw.length
theorem zLa{x:Ah}(h:Iy x<=2000000):zK x=some x:=rfl
theorem zKS{x:Ah}(h:Iy x<=2000000):fK x x=some true:=by unfold fK;simp[]
theorem zKT{x:Ah}{a:Int}(h0:0<=a)(h1:a<=1048576)(h:YE x):∃v,fU x a=some v/\v<=a/\(0<=v->(Iy x:Int)=a-v):=by
 unfold fU Iy;rw[IB (a:=a) (by omega) (by omega) h.1];by_cases q0:a-(x.ab.length:Int)<0
 ·rw[if_pos (by simpa using q0)];exact⟨-1,rfl,by omega,by omega⟩
 rw[if_neg (by simpa using q0)];rw[IB (a:=(a-(x.ab.length:Int))) (by omega) (by omega) h.2.1];by_cases q1:(a-(x.ab.length:Int))-(x.aw.length:Int)<0
 ·rw[if_pos (by simpa using q1)];exact⟨-1,rfl,by omega,by omega⟩
 rw[if_neg (by simpa using q1)];exact⟨((a-(x.ab.length:Int))-(x.aw.length:Int)),rfl,by omega,λ_=>by omega⟩
def Hv(l:List Ah):Nat:=l.length+(l.map Iy).sum
theorem zHR{xs:List Ah}(h:Hv xs<=2000000):yT xs=some xs:=by
 have hl:xs.length<=2000000:=by unfold Hv at h;omega
 have hx:∀x∈xs,Iy x<=2000000:=λx hx=>by have:=CQ (tot:=Iy) hx;unfold Hv at h;omega
 exact I7 hl (by omega) (by omega) λx hm=>zLa (hx x hm)
theorem zHV{xs:List Ah}(h:Hv xs<=2000000):yX xs xs=some true:=by
 have hl:xs.length<=2000000:=by unfold Hv at h;omega
 have hx:∀x∈xs,Iy x<=2000000:=λx hx=>by have:=CQ (tot:=Iy) hx;unfold Hv at h;omega
 exact It hl λx hm=>zKS (hx x hm)
theorem zJT{xs:List Ah}{a:Int}(h0:0<=a)(h1:a<=1048576)(h:(B5 YE) xs):∃v,yQ xs a=some v/\v<=a/\(0<=v->(Hv xs:Int)=a-v):=by have hl:xs.length<=9223372036854775807:=h.1;exact JH (tot:=Iy) h0 h1 hl λx hx b C5 CE=>zKT (x:=x) C5 CE (h.2 _ hx)
theorem zEh{xs:List Ah}{k:Int}(h0:0<=k)(hk:k+64*(Hv xs:Int)<=4611686018427387904):∃(ys:List Ah) (k':Int),k<=k'/\k'<=k+64*(Hv xs:Int)/\ys.length=xs.length/\wO xs k=some (k',ys):=by
 have hl:xs.length<=Hv xs:=by unfold Hv;omega
 refine IA Iy (mb:=λs:Int × Int × List Ah=>Ss s.1 s.2.1 s.2.2) h0 (by simp[Hv]) hk (λx hx k h0 hB=> ?_) (λk v hv=> ?_)
 ·have hT:Iy x=x.ab.length+x.aw.length:=rfl;refine⟨?y,k+1+1+1,by omega,by omega,λi v hv hi=> ?_⟩
  rotate_left
  ·have BT:=(List.getElem?_eq_some_iff.1 hv).1;show Ss k i v=_;unfold Ss;rw[if_pos (by simpa using BT)];simp(disch:=omega) only[FY hv,Cf,Bl,List.set_set,Aa,OX]<;>rfl
 ·show Ss k _ v=_;unfold Ss;rw[if_neg (by simp[hv])]
def Lm(x:BH):Nat:=DU x.bc+Hv x.af
theorem zPx{x:BH}(h:Lm x<=2000000):iQ x=some x:=by unfold iQ;simp only[X3 (xs:=x.bc) (by unfold Lm at h;omega),zHR (xs:=x.af) (by unfold Lm at h;omega),Aa]
theorem zP3{x:BH}(h:Lm x<=2000000):jG x x=some true:=by unfold jG;simp[X9 (xs:=x.bc) (by unfold Lm at h;omega),zHV (xs:=x.af) (by unfold Lm at h;omega)]
theorem zPb{x:BH}{a:Int}(h0:0<=a)(h1:a<=1048576)(h:sX x):∃v,jD x a=some v/\v<=a/\(0<=v->(Lm x:Int)=a-v):=by
 unfold jD Lm;obtain⟨b4,e4,g4,r4⟩:=X4 (xs:=x.bc) (a:=a) (by omega) (by omega) h.2.2.2.2.1;rw[e4,Aa];by_cases q4:b4<0
 ·rw[if_pos (by simpa using q4)];exact⟨-1,rfl,by omega,by omega⟩
 rw[if_neg (by simpa using q4)];have s4:=r4 (by omega);obtain⟨b5,e5,g5,r5⟩:=zJT (xs:=x.af) (a:=b4) (by omega) (by omega) h.2.2.2.2.2.1;rw[e5,Aa];by_cases q5:b5<0
 ·rw[if_pos (by simpa using q5)];exact⟨-1,rfl,by omega,by omega⟩
 rw[if_neg (by simpa using q5)];have s5:=r5 (by omega);exact⟨b5,rfl,by omega,λ_=>by omega⟩
def Hz(x:B8):Nat:=Lm x.fRec
theorem zL9{x:B8}(h:Hz x<=2000000):gB x=some x:=by unfold gB;simp only[zPx (x:=x.fRec) (by unfold Hz at h;omega),Aa]
theorem zKJ{x:B8}(h:Hz x<=2000000):gC x x=some true:=by unfold gC;simp[zP3 (x:=x.fRec) (by unfold Hz at h;omega)]
theorem zLF{x:B8}{a:Int}(h0:0<=a)(h1:a<=1048576)(h:YL x):∃v,gH x a=some v/\v<=a/\(0<=v->(Hz x:Int)=a-v):=by
 unfold gH Hz;obtain⟨b1,e1,g1,r1⟩:=zPb (x:=x.fRec) (a:=a) (by omega) (by omega) h.2;rw[e1,Aa];by_cases q1:b1<0
 ·rw[if_pos (by simpa using q1)];exact⟨-1,rfl,by omega,by omega⟩
 rw[if_neg (by simpa using q1)];have s1:=r1 (by omega);exact⟨b1,rfl,by omega,λ_=>by omega⟩
def Hx(l:List B8):Nat:=l.length+(l.map Hz).sum
theorem zHP{xs:List B8}(h:Hx xs<=2000000):xZ xs=some xs:=by
 have hl:xs.length<=2000000:=by unfold Hx at h;omega
 have hx:∀x∈xs,Hz x<=2000000:=λx hx=>by have:=CQ (tot:=Hz) hx;unfold Hx at h;omega
 exact I7 hl (by omega) (by omega) λx hm=>zL9 (hx x hm)
theorem zJd{xs:List B8}(h:Hx xs<=2000000):xW xs xs=some true:=by
 have hl:xs.length<=2000000:=by unfold Hx at h;omega
 have hx:∀x∈xs,Hz x<=2000000:=λx hx=>by have:=CQ (tot:=Hz) hx;unfold Hx at h;omega
 exact It hl λx hm=>zKJ (hx x hm)
theorem zIf{xs:List B8}{a:Int}(h0:0<=a)(h1:a<=1048576)(h:(B5 YL) xs):∃v,xT xs a=some v/\v<=a/\(0<=v->(Hx xs:Int)=a-v):=by have hl:xs.length<=9223372036854775807:=h.1;exact JH (tot:=Hz) h0 h1 hl λx hx b C5 CE=>zLF (x:=x) C5 CE (h.2 _ hx)
theorem zD5{xs:List B8}{k:Int}(h0:0<=k)(hk:k+64*(Hx xs:Int)<=4611686018427387904):∃(ys:List B8) (k':Int),k<=k'/\k'<=k+64*(Hx xs:Int)/\ys.length=xs.length/\wQ xs k=some (k',ys):=by
 have hl:xs.length<=Hx xs:=by unfold Hx;omega
 refine IA Hz (mb:=λs:Int × Int × List B8=>Sr s.1 s.2.1 s.2.2) h0 (by simp[Hx]) hk (λx hx k h0 hB=> ?_) (λk v hv=> ?_)
 ·have hT:Hz x=(DU x.fRec.bc+Hv x.fRec.af):=rfl;obtain⟨r0,k0,a0,b0, -,m0,g0⟩:=OV (xs:=x.fRec.bc) (k:=k+1+1+1+1+1) (by omega) (by omega);obtain⟨r1,k1,a1,b1, -,m1⟩:=zEh (xs:=x.fRec.af) (k:=k0) (by omega) (by omega);refine⟨?y,k1+1,by omega,by omega,λi v hv hi=> ?_⟩
  rotate_left
  ·have BT:=(List.getElem?_eq_some_iff.1 hv).1;show Sr k i v=_;unfold Sr;rw[if_pos (by simpa using BT)];simp(disch:=omega) only[FY hv,Cf,Bl,List.set_set,Aa,m0,m1]<;>rfl
 ·show Sr k _ v=_;unfold Sr;rw[if_neg (by simp[hv])]
def Hu(x:Cu):Nat:=Hx x.cr
theorem zHg{x:Cu}(h:Hu x<=2000000):dS x=some x:=by unfold dS;simp only[zHP (xs:=x.cr) (by unfold Hu at h;omega),Aa]
theorem zGv{x:Cu}(h:Hu x<=2000000):dQ x x=some true:=by unfold dQ;simp[zJd (xs:=x.cr) (by unfold Hu at h;omega)]
theorem zHo{x:Cu}{a:Int}(h0:0<=a)(h1:a<=1048576)(h:Yl x):∃v,dZ x a=some v/\v<=a/\(0<=v->(Hu x:Int)=a-v):=by
 unfold dZ Hu;obtain⟨b1,e1,g1,r1⟩:=zIf (xs:=x.cr) (a:=a) (by omega) (by omega) h.2.1;rw[e1,Aa];by_cases q1:b1<0
 ·rw[if_pos (by simpa using q1)];exact⟨-1,rfl,by omega,by omega⟩
 rw[if_neg (by simpa using q1)];have s1:=r1 (by omega);exact⟨b1,rfl,by omega,λ_=>by omega⟩
def Iv(l:List Cu):Nat:=l.length+(l.map Hu).sum
theorem zD2{xs:List Cu}(h:Iv xs<=2000000):wR xs=some xs:=by
 have hl:xs.length<=2000000:=by unfold Iv at h;omega
 have hx:∀x∈xs,Hu x<=2000000:=λx hx=>by have:=CQ (tot:=Hu) hx;unfold Iv at h;omega
 exact I7 hl (by omega) (by omega) λx hm=>zHg (hx x hm)
theorem zE9{xs:List Cu}(h:Iv xs<=2000000):wM xs xs=some true:=by
 have hl:xs.length<=2000000:=by unfold Iv at h;omega
 have hx:∀x∈xs,Hu x<=2000000:=λx hx=>by have:=CQ (tot:=Hu) hx;unfold Iv at h;omega
 exact It hl λx hm=>zGv (hx x hm)
theorem zEL{xs:List Cu}{a:Int}(h0:0<=a)(h1:a<=1048576)(h:(B5 Yl) xs):∃v,wB xs a=some v/\v<=a/\(0<=v->(Iv xs:Int)=a-v):=by have hl:xs.length<=9223372036854775807:=h.1;exact JH (tot:=Hu) h0 h1 hl λx hx b C5 CE=>zHo (x:=x) C5 CE (h.2 _ hx)
theorem zAu{xs:List Cu}{k:Int}(h0:0<=k)(hk:k+64*(Iv xs:Int)<=4611686018427387904):∃(ys:List Cu) (k':Int),k<=k'/\k'<=k+64*(Iv xs:Int)/\ys.length=xs.length/\zip xs k=some (k',ys):=by
 have hl:xs.length<=Iv xs:=by unfold Iv;omega
 refine IA Hu (mb:=λs:Int × Int × List Cu=>R4 s.1 s.2.1 s.2.2) h0 (by simp[Iv]) hk (λx hx k h0 hB=> ?_) (λk v hv=> ?_)
 ·have hT:Hu x=Hx x.cr:=rfl;obtain⟨r0,k0,a0,b0, -,m0⟩:=zD5 (xs:=x.cr) (k:=k+1) (by omega) (by omega);refine⟨?y,k0+1,by omega,by omega,λi v hv hi=> ?_⟩
  rotate_left
  ·have BT:=(List.getElem?_eq_some_iff.1 hv).1;show R4 k i v=_;unfold R4;rw[if_pos (by simpa using BT)];simp(disch:=omega) only[FY hv,Cf,Bl,List.set_set,Aa,m0]<;>rfl
 ·show R4 k _ v=_;unfold R4;rw[if_neg (by simp[hv])]
def G7(x:BZ):Nat:=Iv x.ar
theorem zLR{x:BZ}(h:G7 x<=2000000):gJ x=some x:=by unfold gJ;simp only[zD2 (xs:=x.ar) (by unfold G7 at h;omega),Aa]
theorem zMu{x:BZ}(h:G7 x<=2000000):fX x x=some true:=by unfold fX;simp[zE9 (xs:=x.ar) (by unfold G7 at h;omega)]
theorem zKB{x:BZ}{a:Int}(h0:0<=a)(h1:a<=1048576)(h:YR x):∃v,fW x a=some v/\v<=a/\(0<=v->(G7 x:Int)=a-v):=by
 unfold fW G7;obtain⟨b0,e0,g0,r0⟩:=zEL (xs:=x.ar) (a:=a) (by omega) (by omega) h.1;rw[e0,Aa];by_cases q0:b0<0
 ·rw[if_pos (by simpa using q0)];exact⟨-1,rfl,by omega,by omega⟩
 rw[if_neg (by simpa using q0)];have s0:=r0 (by omega);exact⟨b0,rfl,by omega,λ_=>by omega⟩
def G5(l:List BZ):Nat:=l.length+(l.map G7).sum
theorem zJC{xs:List BZ}(h:G5 xs<=2000000):xU xs=some xs:=by
 have hl:xs.length<=2000000:=by unfold G5 at h;omega
 have hx:∀x∈xs,G7 x<=2000000:=λx hx=>by have:=CQ (tot:=G7) hx;unfold G5 at h;omega
 exact I7 hl (by omega) (by omega) λx hm=>zLR (hx x hm)
theorem zJ7{xs:List BZ}(h:G5 xs<=2000000):yN xs xs=some true:=by
 have hl:xs.length<=2000000:=by unfold G5 at h;omega
 have hx:∀x∈xs,G7 x<=2000000:=λx hx=>by have:=CQ (tot:=G7) hx;unfold G5 at h;omega
 exact It hl λx hm=>zMu (hx x hm)
theorem zIV{xs:List BZ}{a:Int}(h0:0<=a)(h1:a<=1048576)(h:(B5 YR) xs):∃v,yR xs a=some v/\v<=a/\(0<=v->(G5 xs:Int)=a-v):=by have hl:xs.length<=9223372036854775807:=h.1;exact JH (tot:=G7) h0 h1 hl λx hx b C5 CE=>zKB (x:=x) C5 CE (h.2 _ hx)
theorem zE8{xs:List BZ}{k:Int}(h0:0<=k)(hk:k+64*(G5 xs:Int)<=4611686018427387904):∃(ys:List BZ) (k':Int),k<=k'/\k'<=k+64*(G5 xs:Int)/\ys.length=xs.length/\wK xs k=some (k',ys):=by
 have hl:xs.length<=G5 xs:=by unfold G5;omega
 refine IA G7 (mb:=λs:Int × Int × List BZ=>Sv s.1 s.2.1 s.2.2) h0 (by simp[G5]) hk (λx hx k h0 hB=> ?_) (λk v hv=> ?_)
 ·have hT:G7 x=Iv x.ar:=rfl;obtain⟨r0,k0,a0,b0, -,m0⟩:=zAu (xs:=x.ar) (k:=k) (by omega) (by omega);refine⟨?y,k0+1+1,by omega,by omega,λi v hv hi=> ?_⟩
  rotate_left
  ·have BT:=(List.getElem?_eq_some_iff.1 hv).1;show Sv k i v=_;unfold Sv;rw[if_pos (by simpa using BT)];simp(disch:=omega) only[FY hv,Cf,Bl,List.set_set,Aa,m0]<;>rfl
 ·show Sv k _ v=_;unfold Sv;rw[if_neg (by simp[hv])]
def Ja(x:Bh):Nat:=x.ab.length
theorem zOr{x:Bh}(h:Ja x<=2000000):zpl x=some x:=rfl
theorem zOK{x:Bh}(h:Ja x<=2000000):iN x x=some true:=by unfold iN;simp[]
theorem zNo{x:Bh}{a:Int}(h0:0<=a)(h1:a<=1048576)(h:Q9 x):∃v,gV x a=some v/\v<=a/\(0<=v->(Ja x:Int)=a-v):=by
 unfold gV Ja;rw[IB (a:=a) (by omega) (by omega) h.1];by_cases q0:a-(x.ab.length:Int)<0
 ·rw[if_pos (by simpa using q0)];exact⟨-1,rfl,by omega,by omega⟩
 rw[if_neg (by simpa using q0)];exact⟨(a-(x.ab.length:Int)),rfl,by omega,λ_=>by omega⟩
def Fv(l:List Bh):Nat:=l.length+(l.map Ja).sum
theorem zLK{xs:List Bh}(h:Fv xs<=2000000):zF xs=some xs:=by
 have hl:xs.length<=2000000:=by unfold Fv at h;omega
 have hx:∀x∈xs,Ja x<=2000000:=λx hx=>by have:=CQ (tot:=Ja) hx;unfold Fv at h;omega
 exact I7 hl (by omega) (by omega) λx hm=>zOr (hx x hm)
theorem zLf{xs:List Bh}(h:Fv xs<=2000000):yH xs xs=some true:=by
 have hl:xs.length<=2000000:=by unfold Fv at h;omega
 have hx:∀x∈xs,Ja x<=2000000:=λx hx=>by have:=CQ (tot:=Ja) hx;unfold Fv at h;omega
 exact It hl λx hm=>zOK (hx x hm)
theorem zL5{xs:List Bh}{a:Int}(h0:0<=a)(h1:a<=1048576)(h:(B5 Q9) xs):∃v,zG xs a=some v/\v<=a/\(0<=v->(Fv xs:Int)=a-v):=by have hl:xs.length<=9223372036854775807:=h.1;exact JH (tot:=Ja) h0 h1 hl λx hx b C5 CE=>zNo (x:=x) C5 CE (h.2 _ hx)
theorem zHa{xs:List Bh}{k:Int}(h0:0<=k)(hk:k+64*(Fv xs:Int)<=4611686018427387904):∃(ys:List Bh) (k':Int),k<=k'/\k'<=k+64*(Fv xs:Int)/\ys.length=xs.length/\xP xs k=some (k',ys):=by
 have hl:xs.length<=Fv xs:=by unfold Fv;omega
 refine IA Ja (mb:=λs:Int × Int × List Bh=>Sl s.1 s.2.1 s.2.2) h0 (by simp[Fv]) hk (λx hx k h0 hB=> ?_) (λk v hv=> ?_)
 ·have hT:Ja x=x.ab.length:=rfl;refine⟨?y,k+1+1+1,by omega,by omega,λi v hv hi=> ?_⟩
  rotate_left
  ·have BT:=(List.getElem?_eq_some_iff.1 hv).1;show Sl k i v=_;unfold Sl;rw[if_pos (by simpa using BT)];simp(disch:=omega) only[FY hv,Cf,Bl,List.set_set,Aa,OX]<;>rfl
 ·show Sl k _ v=_;unfold Sl;rw[if_neg (by simp[hv])]
def G6(l:List (List Bh)):Nat:=l.length+(l.map Fv).sum
theorem zIU{xs:List (List Bh)}(h:G6 xs<=2000000):yW xs=some xs:=by
 have hl:xs.length<=2000000:=by unfold G6 at h;omega
 have hx:∀x∈xs,Fv x<=2000000:=λx hx=>by have:=CQ (tot:=Fv) hx;unfold G6 at h;omega
 exact I7 hl (by omega) (by omega) λx hm=>zLK (hx x hm)
theorem zJm{xs:List (List Bh)}(h:G6 xs<=2000000):yM xs xs=some true:=by
 have hl:xs.length<=2000000:=by unfold G6 at h;omega
 have hx:∀x∈xs,Fv x<=2000000:=λx hx=>by have:=CQ (tot:=Fv) hx;unfold G6 at h;omega
 exact It hl λx hm=>zLf (hx x hm)
theorem zJl{xs:List (List Bh)}{a:Int}(h0:0<=a)(h1:a<=1048576)(h:(B5 (B5 Q9)) xs):∃v,xR xs a=some v/\v<=a/\(0<=v->(G6 xs:Int)=a-v):=by have hl:xs.length<=9223372036854775807:=h.1;exact JH (tot:=Fv) h0 h1 hl λx hx b C5 CE=>zL5 (xs:=x) C5 CE (h.2 _ hx)
theorem zEF{xs:List (List Bh)}{k:Int}(h0:0<=k)(hk:k+64*(G6 xs:Int)<=4611686018427387904):∃(ys:List (List Bh)) (k':Int),k<=k'/\k'<=k+64*(G6 xs:Int)/\ys.length=xs.length/\wC xs k=some (k',ys):=by
 have hl:xs.length<=G6 xs:=by unfold G6;omega
 refine IA Fv (mb:=λs:Int × Int × List (List Bh)=>Su s.1 s.2.1 s.2.2) h0 (by simp[G6]) hk (λx hx k h0 hB=> ?_) (λk v hv=> ?_)
 ·obtain⟨r0,k0,a0,b0, -,m0⟩:=zHa (xs:=x) (k:=k) (by omega) (by omega);refine⟨?y,k0,by omega,by omega,λi v hv hi=> ?_⟩
  rotate_left
  ·have BT:=(List.getElem?_eq_some_iff.1 hv).1;show Su k i v=_;unfold Su;rw[if_pos (by simpa using BT)];simp(disch:=omega) only[FY hv,Cf,Bl,List.set_set,Aa,m0]<;>rfl
 ·show Su k _ v=_;unfold Su;rw[if_neg (by simp[hv])]
def II(x:AK):Nat:=x.ab.length+x.aw.length
theorem zQv{x:AK}(h:II x<=2000000):zrZ x=some x:=rfl
theorem zQx{x:AK}(h:II x<=2000000):jM x x=some true:=by unfold jM;simp[]
theorem zQM{x:AK}{a:Int}(h0:0<=a)(h1:a<=1048576)(h:WL x):∃v,jK x a=some v/\v<=a/\(0<=v->(II x:Int)=a-v):=by
 unfold jK II;rw[IB (a:=a) (by omega) (by omega) h.2.1];by_cases q1:a-(x.ab.length:Int)<0
 ·rw[if_pos (by simpa using q1)];exact⟨-1,rfl,by omega,by omega⟩
 rw[if_neg (by simpa using q1)];rw[IB (a:=(a-(x.ab.length:Int))) (by omega) (by omega) h.2.2.1];by_cases q2:(a-(x.ab.length:Int))-(x.aw.length:Int)<0
 ·rw[if_pos (by simpa using q2)];exact⟨-1,rfl,by omega,by omega⟩
 rw[if_neg (by simpa using q2)];exact⟨((a-(x.ab.length:Int))-(x.aw.length:Int)),rfl,by omega,λ_=>by omega⟩
def HG(l:List AK):Nat:=l.length+(l.map II).sum
theorem zPv{xs:List AK}(h:HG xs<=2000000):zqH xs=some xs:=by
 have hl:xs.length<=2000000:=by unfold HG at h;omega
 have hx:∀x∈xs,II x<=2000000:=λx hx=>by have:=CQ (tot:=II) hx;unfold HG at h;omega
 exact I7 hl (by omega) (by omega) λx hm=>zQv (hx x hm)
theorem zPh{xs:List AK}(h:HG xs<=2000000):zqf xs xs=some true:=by
 have hl:xs.length<=2000000:=by unfold HG at h;omega
 have hx:∀x∈xs,II x<=2000000:=λx hx=>by have:=CQ (tot:=II) hx;unfold HG at h;omega
 exact It hl λx hm=>zQx (hx x hm)
theorem zPw{xs:List AK}{a:Int}(h0:0<=a)(h1:a<=1048576)(h:(B5 WL) xs):∃v,zqp xs a=some v/\v<=a/\(0<=v->(HG xs:Int)=a-v):=by have hl:xs.length<=9223372036854775807:=h.1;exact JH (tot:=II) h0 h1 hl λx hx b C5 CE=>zQM (x:=x) C5 CE (h.2 _ hx)
theorem zKw{xs:List AK}{k:Int}(h0:0<=k)(hk:k+64*(HG xs:Int)<=4611686018427387904):∃(ys:List AK) (k':Int),k<=k'/\k'<=k+64*(HG xs:Int)/\ys.length=xs.length/\zP xs k=some (k',ys):=by
 have hl:xs.length<=HG xs:=by unfold HG;omega
 refine IA II (mb:=λs:Int × Int × List AK=>SP s.1 s.2.1 s.2.2) h0 (by simp[HG]) hk (λx hx k h0 hB=> ?_) (λk v hv=> ?_)
 ·have hT:II x=x.ab.length+x.aw.length:=rfl;refine⟨?y,k+1+1+1+1,by omega,by omega,λi v hv hi=> ?_⟩
  rotate_left
  ·have BT:=(List.getElem?_eq_some_iff.1 hv).1;show SP k i v=_;unfold SP;rw[if_pos (by simpa using BT)];simp(disch:=omega) only[FY hv,Cf,Bl,List.set_set,Aa,OX]<;>rfl
 ·show SP k _ v=_;unfold SP;rw[if_neg (by simp[hv])]
def IF(x:Cd):Nat:=x.ab.length+x.aw.length
theorem zPc{x:Cd}(h:IF x<=2000000):zqt x=some x:=rfl
theorem zPd{x:Cd}(h:IF x<=2000000):iP x x=some true:=by unfold iP;simp[]
theorem zPf{x:Cd}{a:Int}(h0:0<=a)(h1:a<=1048576)(h:RE x):∃v,iT x a=some v/\v<=a/\(0<=v->(IF x:Int)=a-v):=by
 unfold iT IF;rw[IB (a:=a) (by omega) (by omega) h.1];by_cases q0:a-(x.ab.length:Int)<0
 ·rw[if_pos (by simpa using q0)];exact⟨-1,rfl,by omega,by omega⟩
 rw[if_neg (by simpa using q0)];rw[IB (a:=(a-(x.ab.length:Int))) (by omega) (by omega) h.2.1];by_cases q1:(a-(x.ab.length:Int))-(x.aw.length:Int)<0
 ·rw[if_pos (by simpa using q1)];exact⟨-1,rfl,by omega,by omega⟩
 rw[if_neg (by simpa using q1)];exact⟨((a-(x.ab.length:Int))-(x.aw.length:Int)),rfl,by omega,λ_=>by omega⟩
def Gq(l:List Cd):Nat:=l.length+(l.map IF).sum
theorem zIr{xs:List Cd}(h:Gq xs<=2000000):iH xs=some xs:=by
 have hl:xs.length<=2000000:=by unfold Gq at h;omega
 have hx:∀x∈xs,IF x<=2000000:=λx hx=>by have:=CQ (tot:=IF) hx;unfold Gq at h;omega
 exact I7 hl (by omega) (by omega) λx hm=>zPc (hx x hm)
theorem zIc{xs:List Cd}(h:Gq xs<=2000000):iC xs xs=some true:=by
 have hl:xs.length<=2000000:=by unfold Gq at h;omega
 have hx:∀x∈xs,IF x<=2000000:=λx hx=>by have:=CQ (tot:=IF) hx;unfold Gq at h;omega
 exact It hl λx hm=>zPd (hx x hm)
theorem zIv{xs:List Cd}{a:Int}(h0:0<=a)(h1:a<=1048576)(h:(B5 RE) xs):∃v,iA xs a=some v/\v<=a/\(0<=v->(Gq xs:Int)=a-v):=by have hl:xs.length<=9223372036854775807:=h.1;exact JH (tot:=IF) h0 h1 hl λx hx b C5 CE=>zPf (x:=x) C5 CE (h.2 _ hx)
theorem zCN{xs:List Cd}{k:Int}(h0:0<=k)(hk:k+64*(Gq xs:Int)<=4611686018427387904):∃(ys:List Cd) (k':Int),k<=k'/\k'<=k+64*(Gq xs:Int)/\ys.length=xs.length/\eH xs k=some (k',ys):=by
 have hl:xs.length<=Gq xs:=by unfold Gq;omega
 refine IA IF (mb:=λs:Int × Int × List Cd=>S2 s.1 s.2.1 s.2.2) h0 (by simp[Gq]) hk (λx hx k h0 hB=> ?_) (λk v hv=> ?_)
 ·have hT:IF x=x.ab.length+x.aw.length:=rfl;refine⟨?y,k+1+1+1,by omega,by omega,λi v hv hi=> ?_⟩
  rotate_left
  ·have BT:=(List.getElem?_eq_some_iff.1 hv).1;show S2 k i v=_;unfold S2;rw[if_pos (by simpa using BT)];simp(disch:=omega) only[FY hv,Cf,Bl,List.set_set,Aa,OX]<;>rfl
 ·show S2 k _ v=_;unfold S2;rw[if_neg (by simp[hv])]
def FH(x:CU):Nat:=HG x.ef+Gq x.cm+Fy x.c6
theorem zEA{x:CU}(h:FH x<=2000000):dC x=some x:=by unfold dC;simp only[zPv (xs:=x.ef) (by unfold FH at h;omega),zIr (xs:=x.cm) (by unfold FH at h;omega),rH (xs:=x.c6) (by unfold FH at h;omega),Aa]
theorem zDT{x:CU}(h:FH x<=2000000):dE x x=some true:=by unfold dE;simp[zPh (xs:=x.ef) (by unfold FH at h;omega),zIc (xs:=x.cm) (by unfold FH at h;omega),qX (xs:=x.c6) (by unfold FH at h;omega)]
theorem zEU{x:CU}{a:Int}(h0:0<=a)(h1:a<=1048576)(h:X6 x):∃v,dB x a=some v/\v<=a/\(0<=v->(FH x:Int)=a-v):=by
 unfold dB FH;obtain⟨b0,e0,g0,r0⟩:=zPw (xs:=x.ef) (a:=a) (by omega) (by omega) h.1;rw[e0,Aa];by_cases q0:b0<0
 ·rw[if_pos (by simpa using q0)];exact⟨-1,rfl,by omega,by omega⟩
 rw[if_neg (by simpa using q0)];have s0:=r0 (by omega);obtain⟨b1,e1,g1,r1⟩:=zIv (xs:=x.cm) (a:=b0) (by omega) (by omega) h.2.1;rw[e1,Aa];by_cases q1:b1<0
 ·rw[if_pos (by simpa using q1)];exact⟨-1,rfl,by omega,by omega⟩
 rw[if_neg (by simpa using q1)];have s1:=r1 (by omega);obtain⟨b2,e2,g2,r2⟩:=rR (xs:=x.c6) (a:=b1) (by omega) (by omega) h.2.2.1;rw[e2,Aa];by_cases q2:b2<0
 ·rw[if_pos (by simpa using q2)];exact⟨-1,rfl,by omega,by omega⟩
 rw[if_neg (by simpa using q2)];have s2:=r2 (by omega);exact⟨b2,rfl,by omega,λ_=>by omega⟩
def G4(l:List CU):Nat:=l.length+(l.map FH).sum
theorem zCo{xs:List CU}(h:G4 xs<=2000000):vO xs=some xs:=by
 have hl:xs.length<=2000000:=by unfold G4 at h;omega
 have hx:∀x∈xs,FH x<=2000000:=λx hx=>by have:=CQ (tot:=FH) hx;unfold G4 at h;omega
 exact I7 hl (by omega) (by omega) λx hm=>zEA (hx x hm)
theorem zCV{xs:List CU}(h:G4 xs<=2000000):vQ xs xs=some true:=by
 have hl:xs.length<=2000000:=by unfold G4 at h;omega
 have hx:∀x∈xs,FH x<=2000000:=λx hx=>by have:=CQ (tot:=FH) hx;unfold G4 at h;omega
 exact It hl λx hm=>zDT (hx x hm)
theorem zDA{xs:List CU}{a:Int}(h0:0<=a)(h1:a<=1048576)(h:(B5 X6) xs):∃v,vL xs a=some v/\v<=a/\(0<=v->(G4 xs:Int)=a-v):=by have hl:xs.length<=9223372036854775807:=h.1;exact JH (tot:=FH) h0 h1 hl λx hx b C5 CE=>zEU (x:=x) C5 CE (h.2 _ hx)
theorem zyf{xs:List CU}{k:Int}(h0:0<=k)(hk:k+64*(G4 xs:Int)<=4611686018427387904):∃(ys:List CU) (k':Int),k<=k'/\k'<=k+64*(G4 xs:Int)/\ys.length=xs.length/\uL xs k=some (k',ys):=by
 have hl:xs.length<=G4 xs:=by unfold G4;omega
 refine IA FH (mb:=λs:Int × Int × List CU=>Se s.1 s.2.1 s.2.2) h0 (by simp[G4]) hk (λx hx k h0 hB=> ?_) (λk v hv=> ?_)
 ·have hT:FH x=HG x.ef+Gq x.cm+Fy x.c6:=rfl;obtain⟨r0,k0,a0,b0, -,m0⟩:=zKw (xs:=x.ef) (k:=k) (by omega) (by omega);obtain⟨r1,k1,a1,b1, -,m1⟩:=zCN (xs:=x.cm) (k:=k0) (by omega) (by omega);obtain⟨r2,k2,a2,b2, -,m2⟩:=zw4 (xs:=x.c6) (k:=k1) (by omega) (by omega);refine⟨?y,k2+1+1+1+1+1+1+1,by omega,by omega,λi v hv hi=> ?_⟩
  rotate_left
  ·have BT:=(List.getElem?_eq_some_iff.1 hv).1;show Se k i v=_;unfold Se;rw[if_pos (by simpa using BT)];simp(disch:=omega) only[FY hv,Cf,Bl,List.set_set,Aa,m0,m1,m2]<;>rfl
 ·show Se k _ v=_;unfold Se;rw[if_neg (by simp[hv])]
def Ge(x:Cw):Nat:=DU x.ch+Gq x.cm
theorem zDn{x:Cw}(h:Ge x<=2000000):bZ x=some x:=by unfold bZ;simp only[X3 (xs:=x.ch) (by unfold Ge at h;omega),zIr (xs:=x.cm) (by unfold Ge at h;omega),Aa]
theorem zDy{x:Cw}(h:Ge x<=2000000):cF x x=some true:=by unfold cF;simp[X9 (xs:=x.ch) (by unfold Ge at h;omega),zIc (xs:=x.cm) (by unfold Ge at h;omega)]
theorem zDR{x:Cw}{a:Int}(h0:0<=a)(h1:a<=1048576)(h:X0 x):∃v,cB x a=some v/\v<=a/\(0<=v->(Ge x:Int)=a-v):=by
 unfold cB Ge;obtain⟨b1,e1,g1,r1⟩:=X4 (xs:=x.ch) (a:=a) (by omega) (by omega) h.2.1;rw[e1,Aa];by_cases q1:b1<0
 ·rw[if_pos (by simpa using q1)];exact⟨-1,rfl,by omega,by omega⟩
 rw[if_neg (by simpa using q1)];have s1:=r1 (by omega);obtain⟨b2,e2,g2,r2⟩:=zIv (xs:=x.cm) (a:=b1) (by omega) (by omega) h.2.2.1;rw[e2,Aa];by_cases q2:b2<0
 ·rw[if_pos (by simpa using q2)];exact⟨-1,rfl,by omega,by omega⟩
 rw[if_neg (by simpa using q2)];have s2:=r2 (by omega);exact⟨b2,rfl,by omega,λ_=>by omega⟩
def G3(l:List Cw):Nat:=l.length+(l.map Ge).sum
theorem zAZ{xs:List Cw}(h:G3 xs<=2000000):vF xs=some xs:=by
 have hl:xs.length<=2000000:=by unfold G3 at h;omega
 have hx:∀x∈xs,Ge x<=2000000:=λx hx=>by have:=CQ (tot:=Ge) hx;unfold G3 at h;omega
 exact I7 hl (by omega) (by omega) λx hm=>zDn (hx x hm)
theorem zA3{xs:List Cw}(h:G3 xs<=2000000):vD xs xs=some true:=by
 have hl:xs.length<=2000000:=by unfold G3 at h;omega
 have hx:∀x∈xs,Ge x<=2000000:=λx hx=>by have:=CQ (tot:=Ge) hx;unfold G3 at h;omega
 exact It hl λx hm=>zDy (hx x hm)
theorem zAh{xs:List Cw}{a:Int}(h0:0<=a)(h1:a<=1048576)(h:(B5 X0) xs):∃v,vA xs a=some v/\v<=a/\(0<=v->(G3 xs:Int)=a-v):=by have hl:xs.length<=9223372036854775807:=h.1;exact JH (tot:=Ge) h0 h1 hl λx hx b C5 CE=>zDR (x:=x) C5 CE (h.2 _ hx)
theorem zxS{xs:List Cw}{k:Int}(h0:0<=k)(hk:k+64*(G3 xs:Int)<=4611686018427387904):∃(ys:List Cw) (k':Int),k<=k'/\k'<=k+64*(G3 xs:Int)/\ys.length=xs.length/\uE xs k=some (k',ys):=by
 have hl:xs.length<=G3 xs:=by unfold G3;omega
 refine IA Ge (mb:=λs:Int × Int × List Cw=>R9 s.1 s.2.1 s.2.2) h0 (by simp[G3]) hk (λx hx k h0 hB=> ?_) (λk v hv=> ?_)
 ·have hT:Ge x=DU x.ch+Gq x.cm:=rfl;obtain⟨r0,k0,a0,b0, -,m0,g0⟩:=OV (xs:=x.ch) (k:=k+1) (by omega) (by omega);obtain⟨r1,k1,a1,b1, -,m1⟩:=zCN (xs:=x.cm) (k:=k0) (by omega) (by omega);refine⟨?y,k1+1+1+1,by omega,by omega,λi v hv hi=> ?_⟩
  rotate_left
  ·have BT:=(List.getElem?_eq_some_iff.1 hv).1;show R9 k i v=_;unfold R9;rw[if_pos (by simpa using BT)];simp(disch:=omega) only[FY hv,Cf,Bl,List.set_set,Aa,m0,m1]<;>rfl
 ·show R9 k _ v=_;unfold R9;rw[if_neg (by simp[hv])]
def EP(x:BG):Nat:=Hy x.bh+DU x.br+G5 x.az+G6 x.cj+Fy x.bj+G4 x.cf+G3 x.cc
theorem zKE{x:BG}(h:EP x<=2000000):gK x=some x:=by unfold gK;simp only[zJB (xs:=x.bh) (by unfold EP at h;omega),X3 (xs:=x.br) (by unfold EP at h;omega),zJC (xs:=x.az) (by unfold EP at h;omega),zIU (xs:=x.cj) (by unfold EP at h;omega),rH (xs:=x.bj) (by unfold EP at h;omega),zCo (xs:=x.cf) (by unfold EP at h;omega),zAZ (xs:=x.cc) (by unfold EP at h;omega),Aa]
theorem zMk{x:BG}(h:EP x<=2000000):fZ x x=some true:=by unfold fZ;simp[zIJ (xs:=x.bh) (by unfold EP at h;omega),X9 (xs:=x.br) (by unfold EP at h;omega),zJ7 (xs:=x.az) (by unfold EP at h;omega),zJm (xs:=x.cj) (by unfold EP at h;omega),qX (xs:=x.bj) (by unfold EP at h;omega),zCV (xs:=x.cf) (by unfold EP at h;omega),zA3 (xs:=x.cc) (by unfold EP at h;omega)]
theorem zKW{x:BG}{a:Int}(h0:0<=a)(h1:a<=1048576)(h:qZ x):∃v,eZ x a=some v/\v<=a/\(0<=v->(EP x:Int)=a-v):=by
 unfold eZ EP;obtain⟨b2,e2,g2,r2⟩:=zH9 (xs:=x.bh) (a:=a) (by omega) (by omega) h.2.2.1;rw[e2,Aa];by_cases q2:b2<0
 ·rw[if_pos (by simpa using q2)];exact⟨-1,rfl,by omega,by omega⟩
 rw[if_neg (by simpa using q2)];have s2:=r2 (by omega);obtain⟨b3,e3,g3,r3⟩:=X4 (xs:=x.br) (a:=b2) (by omega) (by omega) h.2.2.2.1;rw[e3,Aa];by_cases q3:b3<0
 ·rw[if_pos (by simpa using q3)];exact⟨-1,rfl,by omega,by omega⟩
 rw[if_neg (by simpa using q3)];have s3:=r3 (by omega);obtain⟨b4,e4,g4,r4⟩:=zIV (xs:=x.az) (a:=b3) (by omega) (by omega) h.2.2.2.2.1;rw[e4,Aa];by_cases q4:b4<0
 ·rw[if_pos (by simpa using q4)];exact⟨-1,rfl,by omega,by omega⟩
 rw[if_neg (by simpa using q4)];have s4:=r4 (by omega);obtain⟨b5,e5,g5,r5⟩:=zJl (xs:=x.cj) (a:=b4) (by omega) (by omega) h.2.2.2.2.2.1;rw[e5,Aa];by_cases q5:b5<0
 ·rw[if_pos (by simpa using q5)];exact⟨-1,rfl,by omega,by omega⟩
 rw[if_neg (by simpa using q5)];have s5:=r5 (by omega);obtain⟨b6,e6,g6,r6⟩:=rR (xs:=x.bj) (a:=b5) (by omega) (by omega) h.2.2.2.2.2.2.1;rw[e6,Aa];by_cases q6:b6<0
 ·rw[if_pos (by simpa using q6)];exact⟨-1,rfl,by omega,by omega⟩
 rw[if_neg (by simpa using q6)];have s6:=r6 (by omega);obtain⟨b7,e7,g7,r7⟩:=zDA (xs:=x.cf) (a:=b6) (by omega) (by omega) h.2.2.2.2.2.2.2.1;rw[e7,Aa];by_cases q7:b7<0
 ·rw[if_pos (by simpa using q7)];exact⟨-1,rfl,by omega,by omega⟩
 rw[if_neg (by simpa using q7)];have s7:=r7 (by omega);obtain⟨b8,e8,g8,r8⟩:=zAh (xs:=x.cc) (a:=b7) (by omega) (by omega) h.2.2.2.2.2.2.2.2;rw[e8,Aa];by_cases q8:b8<0
 ·rw[if_pos (by simpa using q8)];exact⟨-1,rfl,by omega,by omega⟩
 rw[if_neg (by simpa using q8)];have s8:=r8 (by omega);exact⟨b8,rfl,by omega,λ_=>by omega⟩
theorem zGL{x:BG}{k:Int}(h0:0<=k)(hk:k+64*(EP x:Int)<=4611686018427387904):∃(y:BG) (k':Int),k<=k'/\k'<=k+64*(EP x:Int)/\dM x k=some (k',y):=by
 have hT:EP x=Hy x.bh+DU x.br+G5 x.az+G6 x.cj+Fy x.bj+G4 x.cf+G3 x.cc:=rfl;obtain⟨r0,k0,a0,b0, -,m0⟩:=zEX (xs:=x.bh) (k:=k) (by omega) (by omega);obtain⟨r1,k1,a1,b1, -,m1,g1⟩:=OV (xs:=x.br) (k:=k0) (by omega) (by omega);obtain⟨r2,k2,a2,b2, -,m2⟩:=zE8 (xs:=x.az) (k:=k1) (by omega) (by omega);obtain⟨r3,k3,a3,b3, -,m3⟩:=zEF (xs:=x.cj) (k:=k2) (by omega) (by omega);obtain⟨r4,k4,a4,b4, -,m4⟩:=zw4 (xs:=x.bj) (k:=k3) (by omega) (by omega);obtain⟨r5,k5,a5,b5, -,m5⟩:=zyf (xs:=x.cf) (k:=k4) (by omega) (by omega);obtain⟨r6,k6,a6,b6, -,m6⟩:=zxS (xs:=x.cc) (k:=k5) (by omega) (by omega);refine⟨?y,k6,by omega,by omega,?_⟩
 rotate_left
 ·unfold dM;simp only[m0,m1,m2,m3,m4,m5,m6,Aa]<;>rfl
def Gs(x:CW):Nat:=x.ae.length+Ix x.cz+Fy x.bq+Iw x.cq+EP x.aq
theorem zND{x:CW}(h:Gs x<=2000000):QM x=some x:=by unfold QM;simp only[zJU (xs:=x.cz) (by unfold Gs at h;omega),rH (xs:=x.bq) (by unfold Gs at h;omega),zEl (xs:=x.cq) (by unfold Gs at h;omega),zKE (x:=x.aq) (by unfold Gs at h;omega),Aa]
theorem zNw{x:CW}(h:Gs x<=2000000):iD x x=some true:=by unfold iD;simp[zJ3 (xs:=x.cz) (by unfold Gs at h;omega),qX (xs:=x.bq) (by unfold Gs at h;omega),zEj (xs:=x.cq) (by unfold Gs at h;omega),zMk (x:=x.aq) (by unfold Gs at h;omega)]
theorem zN5{x:CW}{a:Int}(h0:0<=a)(h1:a<=1048576)(h:rU x):∃v,gP x a=some v/\v<=a/\(0<=v->(Gs x:Int)=a-v):=by
 unfold gP Gs;rw[IB (a:=a) (by omega) (by omega) h.1];by_cases q0:a-(x.ae.length:Int)<0
 ·rw[if_pos (by simpa using q0)];exact⟨-1,rfl,by omega,by omega⟩
 rw[if_neg (by simpa using q0)];obtain⟨b1,e1,g1,r1⟩:=zIE (xs:=x.cz) (a:=(a-(x.ae.length:Int))) (by omega) (by omega) h.2.1;rw[e1,Aa];by_cases q1:b1<0
 ·rw[if_pos (by simpa using q1)];exact⟨-1,rfl,by omega,by omega⟩
 rw[if_neg (by simpa using q1)];have s1:=r1 (by omega);obtain⟨b3,e3,g3,r3⟩:=rR (xs:=x.bq) (a:=b1) (by omega) (by omega) h.2.2.2.1;rw[e3,Aa];by_cases q3:b3<0
 ·rw[if_pos (by simpa using q3)];exact⟨-1,rfl,by omega,by omega⟩
 rw[if_neg (by simpa using q3)];have s3:=r3 (by omega);obtain⟨b4,e4,g4,r4⟩:=zE3 (xs:=x.cq) (a:=b3) (by omega) (by omega) h.2.2.2.2.1;rw[e4,Aa];by_cases q4:b4<0
 ·rw[if_pos (by simpa using q4)];exact⟨-1,rfl,by omega,by omega⟩
 rw[if_neg (by simpa using q4)];have s4:=r4 (by omega);obtain⟨b5,e5,g5,r5⟩:=zKW (x:=x.aq) (a:=b4) (by omega) (by omega) h.2.2.2.2.2;rw[e5,Aa];by_cases q5:b5<0
 ·rw[if_pos (by simpa using q5)];exact⟨-1,rfl,by omega,by omega⟩
 rw[if_neg (by simpa using q5)];have s5:=r5 (by omega);exact⟨b5,rfl,by omega,λ_=>by omega⟩
theorem zH3{x:CW}{k:Int}(h0:0<=k)(hk:k+64*(Gs x:Int)<=4611686018427387904):∃(y:CW) (k':Int),k<=k'/\k'<=k+64*(Gs x:Int)/\dI x k=some (k',y):=by
 have hT:Gs x=x.ae.length+Ix x.cz+Fy x.bq+Iw x.cq+(Hy x.aq.bh+DU x.aq.br+G5 x.aq.az+G6 x.aq.cj+Fy x.aq.bj+G4 x.aq.cf+G3 x.aq.cc):=rfl;obtain⟨r0,k0,a0,b0, -,m0⟩:=zD1 (xs:=x.cz) (k:=k) (by omega) (by omega);obtain⟨r1,k1,a1,b1, -,m1⟩:=zw4 (xs:=x.bq) (k:=k0) (by omega) (by omega);obtain⟨r2,k2,a2,b2, -,m2⟩:=zBV (xs:=x.cq) (k:=k1) (by omega) (by omega);have hT3:EP x.aq=Hy x.aq.bh+DU x.aq.br+G5 x.aq.az+G6 x.aq.cj+Fy x.aq.bj+G4 x.aq.cf+G3 x.aq.cc:=rfl;obtain⟨r3,k3,a3,b3,m3⟩:=zGL (x:=x.aq) (k:=k2) (by omega) (by omega);refine⟨?y,k3,by omega,by omega,?_⟩
 rotate_left
 ·unfold dI;simp only[m0,m1,m2,m3,Aa]<;>rfl
def JL(l:List A4):Nat:=l.length+(l.map Gu).sum
theorem zOo{xs:List A4}(h:JL xs<=2000000):XN xs xs=some true:=by
 have hl:xs.length<=2000000:=by unfold JL at h;omega
 have hx:∀x∈xs,Gu x<=2000000:=λx hx=>by have:=CQ (tot:=Gu) hx;unfold JL at h;omega
 exact It hl λx hm=>ZM (hx x hm)
theorem zIw{xs:List A4}{k:Int}(h0:0<=k)(hk:k+64*(JL xs:Int)<=4611686018427387904):∃(ys:List A4) (k':Int),k<=k'/\k'<=k+64*(JL xs:Int)/\ys.length=xs.length/\yL xs k=some (k',ys)/\eO ys k=some k':=by
 have hl:xs.length<=JL xs:=by unfold JL;omega
 refine zCr Gu (mb:=λs:Int × Int × List A4=>S1 s.1 s.2.1 s.2.2) (hb:=λys s=>S4 ys s.1 s.2) h0 (by simp[JL]) hk (λx hx k h0 hB=> ?_) (λk v hv=> ?_) (λk ys hy=> ?_)
 ·have hT:Gu x=DU x.ay:=rfl;obtain⟨r0,k0,a0,b0, -,m0,g0⟩:=OV (xs:=x.ay) (k:=k) (by omega) (by omega);refine⟨?y,k0,by omega,by omega,λi v hv hi=> ?_,λi ys hy hi=> ?_⟩
  rotate_left
  ·have BT:=(List.getElem?_eq_some_iff.1 hv).1;show S1 k i v=_;unfold S1;rw[if_pos (by simpa using BT)];simp(disch:=omega) only[FY hv,Cf,Bl,List.set_set,Aa,m0]<;>rfl
  ·have BT:=(List.getElem?_eq_some_iff.1 hy).1;show S4 ys k i=_;unfold S4;rw[if_pos (by simpa using BT)];simp(disch:=omega) only[FY hy,bne_self_eq_false,A7,if_false,Z9,Cf,Bl,List.set_set,Aa,g0]<;>rfl
 ·show S1 k _ v=_;unfold S1;rw[if_neg (by simp[hv])]
 ·show S4 ys k _=_;unfold S4;rw[if_neg (by simp[hy])]
theorem T8{l:List Am}(h:DU l<=2000000):Small l:=by
 unfold DU at h;have:Et l=(l.map (λx:Ab=>x.length)).sum:=by
  clear h
  induction l with
  |nil=>rfl
  |cons x l ih=>rw[Et,List.map_cons,List.sum_cons,ih]
 exact⟨by omega,by omega⟩
theorem ztQ{l:List Am}(h:DU l<=2000000):Md l:=⟨(T8 h).1,(T8 h).each⟩
theorem zHv{t:An}(h:Gg t<=2000000):Eu t:=by
 unfold Gg ID at h;have hs:Small t.bf:=T8 (by omega);exact⟨by omega,hs.1,hs.each,by omega,λx hx=>by
  have:=CQ (tot:=HF) hx;unfold HF at this;have h2:(t.aj.map HF).sum<=2000000:=by omega
  unfold HF at h2;omega⟩
theorem zGo{l:List Ah}(h:Hv l<=2000000):UA l:=by
 unfold Hv at h;exact⟨by omega,λw hw=>by
  have:=CQ (tot:=Iy) hw;have h2:Iy w<=2000000:=by omega
  unfold Iy at h2;omega⟩
theorem zEd{r:BH}(h:Lm r<=2000000):Yp r:=by unfold Lm at h;exact⟨ztQ (by omega),zGo (by omega)⟩
theorem zDZ{l:List B8}(h:Hx l<=2000000):Yq l:=by
 unfold Hx at h;exact⟨by omega,λe he=>zEd (by
  have:=CQ (tot:=Hz) he;have h2:Hz e<=2000000:=by omega
  exact h2)⟩
theorem zHt{g:BZ}(h:G7 g<=2000000):lJ g:=by
 unfold G7 Iv at h;exact⟨by omega,λr hr=>zDZ (by
  have:=CQ (tot:=Hu) hr;have h2:Hu r<=2000000:=by omega
  exact h2)⟩
theorem zGn{l:List Bh}(h:Fv l<=2000000):Zz l:=by
 unfold Fv at h;exact⟨by omega,λx hx=>by
  have:=CQ (tot:=Ja) hx;have h2:Ja x<=2000000:=by omega
  exact h2⟩
theorem zEO{l:List AK}(h:HG l<=2000000):lB l:=by
 unfold HG at h;exact⟨by omega,λx hx=>by
  have:=CQ (tot:=II) hx;have h2:II x<=2000000:=by omega
  unfold II at h2;exact⟨by omega,by omega⟩⟩
theorem zxi{l:List Cd}(h:Gq l<=2000000):Wk l:=by
 unfold Gq at h;exact⟨by omega,λx hx=>by
  have:=CQ (tot:=IF) hx;have h2:IF x<=2000000:=by omega
  unfold IF at h2;exact⟨by omega,by omega⟩⟩
theorem zG3{t:CU}(h:FH t<=2000000):ZF t:=by unfold FH Fy at h;exact⟨zEO (by omega),zxi (by omega),by omega⟩
theorem zCm{l:Cw}(h:Ge l<=2000000):kA l:=by unfold Ge at h;exact⟨ztQ (by omega),zxi (by omega)⟩
theorem zGH{w:BG}(h:EP w<=2000000):YP w:=by
 unfold EP Hy G5 G6 Fy G4 G3 at h;exact{
  mj:=ztQ (by omega)
  nu:=by omega
  group:=λg hg=>zHt (by have:=CQ (tot:=G7) hg;omega)
  oj:=λl hl=>zGn (by have:=CQ (tot:=Fv) hl;omega)
  oi:=by omega
  nk:=by omega
  pc:=by omega
  o5:=λt ht=>zG3 (by have:=CQ (tot:=FH) ht;omega)
  looks:=by omega
  look:=λl hl=>zCm (by have:=CQ (tot:=Ge) hl;omega)}
theorem zFc{j:Db}(h:Gf j<=2000000):zGe j:=by unfold Gf LX Gu at h;exact⟨⟨T8 (by omega),T8 (by omega)⟩,T8 (by omega)⟩
theorem zDQ{a:CW}(h:Gs a<=2000000):O2 a:=by
 unfold Gs Ix Fy Iw at h;exact{
  name:=by omega
  ways:=λt ht=>zHv (by have:=CQ (tot:=Gg) ht;omega)
  since:=by omega
  pj:=by omega
  pq:=λj hj=>zFc (by have:=CQ (tot:=Gf) hj;omega)
  world:=zGH (by omega)}
end
end Go.Proofs.YtlmjpjceiefpoaaGreatDoor

/- Parts of a proof, joined: NGB, NGC, NGD, NGE, N17, N18, N19, N20, N21, N22, NR, NGF, NGG, NGH, QLL, QLM, QE, NGI. -/
import Derived.Test.YtlmjpjceiefpoaaGreatK11
set_option linter.unusedVariables false
set_option linter.unusedSimpArgs false
namespace Go.Proofs.YtlmjpjceiefpoaaGreat
open Go.RowKit
section
set_option maxRecDepth 100000
set_option maxHeartbeats 1000000
structure YL(l:List Cb):Prop where
 len:l.length<=2000000
 recs:∀e∈l,YK e.fRec
def LU(l:List Cb)(i:Nat):Bool:=i==0||decide (((l[i-1]?).map (·.cd)).getD 0<=((l[i]?).map (·.cd)).getD 0)
def Lz(t:Int)(e:Cb):Bool:=Aw e.cd 1 t&&Hc e.fRec
def UG(l:List Cb)(t:Int):Bool:=decide ((l.length:Int)<=60)&&(l.all (Lz t)&&(List.range l.length).all (LU l))
theorem zO2{l:List Cb}{t:Int}(h:YL l):jO l t=some (UG l t):=by
 have hn:=h.len;unfold jO;rw[F2 (n:=l.length) (body:=λs:Int=>TJ l t s) (λi=>((l[i]?).map (Lz t)).getD true&&LU l i) false (yW l) ?_ (by show TJ l t l.length=_;unfold TJ;rw[if_neg (by simp)]),UN l (Lz t) (LU l) _ λi hi=>by simp[hi]]
 ·unfold yW UG;cases(l.all (Lz t)&&(List.range l.length).all (LU l))<;>simp
 ·intro i hi;have hr:=h.recs _ (Au hi);show TJ l t i=_;simp only[TJ,Int.ofNat_lt,hi,decide_true,if_true,Av hi,Aa,Fm,zNW hr,BE hi (by omega:l.length<=_),AM hi,Option.map_some,Be,Lz,LU];by_cases h0:i=0
  ·subst h0;cases Aw l[0].cd 1 t<;>cases Hc l[0].fRec<;>simp
  ·have hp:(i:Int)>0:=by omega
   have CR:i-1<l.length:=by omega
   have hb:(i==0)=false:=by simpa using h0
   have hd:decide (l[i].cd<l[i-1].cd)= !decide (l[i-1].cd<=l[i].cd):=by
    by_cases hx:l[i-1].cd<=l[i].cd
    ·simp[hx]
    ·simp[hx];omega
   simp only[hp,decide_true,if_true,JV (Nat.pos_of_ne_zero h0) (by omega:i<=2000000),Av CR,Aa,AM CR,Option.map_some,Be,hb,Bool.false_or,hd];cases Aw l[i].cd 1 t<;>cases Hc l[i].fRec<;>cases decide (l[i-1].cd<=l[i].cd)<;>rfl
def Hd(r:Ct)(t:Int):Bool:=UG r.ct t&&Aw r.cx 0 (r.ct.length:Int)
def LB(l:List Cb)(i:Nat):Int:=if i=0 then 1 else((l[i-1]?).map (·.cd)).getD 0
def Mi(l:List Cb)(t:Int)(i:Nat):Bool:=Aw (((l[i]?).map (·.cd)).getD 0) (LB l i) t&&((l[i]?).map λe=>Hc e.fRec).getD true
theorem zLy(l:List Cb)(t:Int):(List.range l.length).all (Mi l t)=(l.all (Lz t)&&(List.range l.length).all (LU l)):=by
 rw[<-UN l (Lz t) (LU l) (λi=>((l[i]?).map (Lz t)).getD true&&LU l i) λi hi=>by simp[hi]];rw[Bool.eq_iff_iff];simp only[Bd,List.mem_range];constructor
 ·intro h;have key:∀i,i<l.length->1<=((l[i]?).map (·.cd)).getD 0:=by
   intro i
   induction i with
   |zero=>intro hi;have:=h 0 hi;unfold Mi LB at this;rw[Ac]at this;exact(DV.1 this.1).1
   |succ i ih=>intro hi;have h1:=h (i+1) hi;have h2:=ih (by omega);unfold Mi LB at h1;rw[Ac,if_neg (by omega)]at h1;have:=(DV.1 h1.1).1;rw[show i+1-1=i from rfl]at this;omega
  intro i hi;have h1:=h i hi;have h2:=key i hi;unfold Mi LB at h1;simp only[Ac,AM hi,Option.map_some,Be]at h1 h2 ⊢;have h3:=DV.1 h1.1;refine⟨?_,?_⟩
  ·unfold Lz;rw[Ac];exact⟨DV.2 ⟨h2,h3.2⟩,h1.2⟩
  ·unfold LU;by_cases h0:i=0
   ·simp[h0]
   ·rw[if_neg h0]at h3;simp only[Bool.or_eq_true,AS,AM hi,Option.map_some,Be];exact .inr h3.1
 ·intro h i hi;have h1:=h i hi;simp only[Ac,AM hi,Option.map_some,Be]at h1;unfold Lz at h1;rw[Ac]at h1;have h3:=DV.1 h1.1.1;unfold Mi LB;simp only[Ac,AM hi,Option.map_some,Be];refine⟨DV.2 ⟨?_,h3.2⟩,h1.1.2⟩;by_cases h0:i=0
  ·rw[if_pos h0];exact h3.1
  ·rw[if_neg h0];have h2:=h1.2;unfold LU at h2;simp only[Bool.or_eq_true,AS,AM hi,Option.map_some,Be,Az]at h2;rcases h2 with h2|h2
   ·exact absurd h2 h0
   ·exact h2
theorem zJp{r:Ct}{t:Int}(h:YL r.ct):XT r t=some (Hd r t):=by
 have hn:=h.len;unfold XT Hd UG;by_cases hl:(r.ct.length:Int)<=60
 ·rw[if_neg (by simpa using hl),ER,Aa];cases hs:Aw r.cx 0 (r.ct.length:Int)with
  |false=>rw[if_pos (by simp),Bool.and_false]
  |true=>
   rw[if_neg (by simp),Bool.and_true,show decide ((r.ct.length:Int)<=60)=true by simpa using hl,Bool.true_and,<-zLy r.ct t];have h1:=lI (xs:=List.range r.ct.length) (body:=λs:Int × Int=>S6 r t s.1 s.2) (λi (_:Unit)=>(LB r.ct i.toNat,i)) (λi _=>some (if Mi r.ct t i=true then .inl ()else .inr (some false))) (λ_=>some true)
    (λi hi s=>by
     rw[List.length_range]at hi;have hr:=h.recs _ (Au hi);rw[List.getElem_range,Bz];have ep:LB r.ct (i+1)=r.ct[i].cd:=by unfold LB;rw[if_neg (by omega)];simp[hi]
     show S6 r t (LB r.ct i) i=_;unfold S6;rw[if_pos (by simpa using hi),Av hi,Aa,ER,Aa,zO1 hr,BE hi (by omega:r.ct.length<=_)];have es:Mi r.ct t i=(Aw r.ct[i].cd (LB r.ct i) t&&Hc r.ct[i].fRec):=by unfold Mi;simp only[AM hi,Option.map_some,Be]
     rw[es];cases Aw r.ct[i].cd (LB r.ct i) t<;>cases Hc r.ct[i].fRec<;>simp[MT,ep]) (λs=>by
     rw[List.length_range];show S6 r t _ r.ct.length=_;unfold S6;rw[if_neg (by simp)]) ()
   rw[rT (Mi r.ct t) false λx _ s=>rfl]at h1;refine(h1:Ao _ _=_).trans ?_;cases(List.range r.ct.length).all (Mi r.ct t)<;>rfl
 ·rw[if_pos (by simpa using hl),show decide ((r.ct.length:Int)<=60)=false by simpa using hl];rfl
theorem zOo{r:Ct}{g:BZ}(h:YL r.ct):Ta r g=some (!Hd r g.cd):=by
 unfold Ta Hd;rw[zO2 h,Aa];cases UG r.ct g.cd with
 |false=>rfl
 |true=>rw[if_pos rfl,Fm,Aa,Bool.true_and]
structure ZZ(g:BZ):Prop where
 len:g.ar.length<=2000000
 n8:∀r∈g.ar,YL r.ct
def NI(g:BZ):Bool:=if g.br<0 then true else((g.ar[g.br.toNat]?).map (·.ju)).getD false
def Nh(g:BZ):Bool:=(((g.ar.length:Int)==3)||((g.ar.length:Int)==5))&&(Aw g.cd 0 200&&(Aw g.br (-1) ((g.ar.length:Int)-1)&&(g.ar.all (λr=>Hd r g.cd)&&NI g)))
theorem rM{g:BZ}(h0:0<=g.br)(h1:g.br<=(g.ar.length:Int)-1):∃r,Ak g.ar g.br=some r/\NI g=r.ju:=by obtain⟨r,e,_,e2⟩:=sQ (xs:=g.ar) h0 (by omega);refine⟨r,e,?_⟩;unfold NI;rw[if_neg (by omega),e2];rfl
theorem zIm{g:BZ}(h:ZZ g):eO g=some (Nh g):=by
 have hn:=h.len;have w:IntKind.i64.wrap ((g.ar.length:Int)-1)=(g.ar.length:Int)-1:=Cv (by omega) (by omega);have tail:∀{body:Int->Option (Int ⊕ Option Bool)} {fin:Option Bool},(∀i (hi:i<g.ar.length),body (i:Int)=some (if Hd g.ar[i] g.cd=true then .inl ((i+1:Nat):Int)else .inr (some false)))->body (g.ar.length:Int)=some (.inr fin)->Ao body 0=if(g.ar.all λr=>Hd r g.cd)=true then fin else some false:=
  λ{body fin} hs he=>Jd (xs:=g.ar) (λr=>Hd r g.cd) false fin hs he
 unfold eO Nh;have rest:∀{body:Int->Option (Int ⊕ Option Bool)} {fin:Option Bool},(∀i (hi:i<g.ar.length),body (i:Int)=some (if Hd g.ar[i] g.cd=true then .inl ((i+1:Nat):Int)else .inr (some false)))->body (g.ar.length:Int)=some (.inr fin)->(Aw g.br (-1) ((g.ar.length:Int)-1)=true->fin=some (NI g))->
   ((Dd g.cd 0 200).bind λv1=>if v1=true then(Dd g.br (-1) (IntKind.i64.wrap ((g.ar.length:Int)-1))).bind λv2=>if(!v2)=true then some false else Ao body 0 else some false)=some (Aw g.cd 0 200&&(Aw g.br (-1) ((g.ar.length:Int)-1)&&(g.ar.all (λr=>Hd r g.cd)&&NI g))):=by
  intro body fin hs he hf;rw[ER,Aa,ER,w];cases Aw g.cd 0 200 with
  |false=>rfl
  |true=>
   rw[if_pos rfl,Aa];cases hi:Aw g.br (-1) ((g.ar.length:Int)-1)with
   |false=>rfl
   |true=>rw[if_neg (by simp),tail hs he,hf hi];cases(g.ar.all λr=>Hd r g.cd)<;>simp
 by_cases h3:(g.ar.length:Int)=3
 ·rw[if_neg (by simp[h3]),show((g.ar.length:Int)==3)=true by simpa using h3,Bool.true_or,Bool.true_and];refine rest (fin:=wK g) (λi hi=>by
   show Xx g i=_;unfold Xx;rw[if_pos (by simpa using hi),Av hi,Aa,zJp (h.n8 _ (Au hi)),Aa,BE hi (by omega:g.ar.length<=_)];cases Hd g.ar[i] g.cd<;>rfl) (by
   show Xx g g.ar.length=_;unfold Xx;rw[if_neg (by simp)]) (λhi=> ?_)
  have hb:=DV.1 hi;unfold wK;by_cases hl:g.br<0
  ·rw[if_pos (by simpa using hl)];unfold NI;rw[if_pos hl]
  ·rw[if_neg (by simpa using hl)];obtain⟨r,e1,e2⟩:=rM (g:=g) (by omega) hb.2;rw[e1,Aa,e2]
 ·by_cases h5:(g.ar.length:Int)=5
  ·rw[if_pos (by simpa using h3),if_neg (by simp[h5]),show((g.ar.length:Int)==5)=true by simpa using h5,Bool.or_true,Bool.true_and];refine rest (fin:=wM g) (λi hi=>by
    show XA g i=_;unfold XA;rw[if_pos (by simpa using hi),Av hi,Aa,zJp (h.n8 _ (Au hi)),Aa,BE hi (by omega:g.ar.length<=_)];cases Hd g.ar[i] g.cd<;>rfl) (by
    show XA g g.ar.length=_;unfold XA;rw[if_neg (by simp)]) (λhi=> ?_)
   have hb:=DV.1 hi;unfold wM;by_cases hl:g.br<0
   ·rw[if_pos (by simpa using hl)];unfold NI;rw[if_pos hl]
   ·rw[if_neg (by simpa using hl)];obtain⟨r,e1,e2⟩:=rM (g:=g) (by omega) hb.2;rw[e1,Aa,e2]
  ·rw[if_pos (by simpa using h3),if_pos (by simpa using h5),show((g.ar.length:Int)==3)=false by simpa using h3,show((g.ar.length:Int)==5)=false by simpa using h5];rfl
theorem zID{g:BZ}(h:ZZ g):eQ g=some (Nh g):=by
 have hn:=h.len;have w:IntKind.i64.wrap ((g.ar.length:Int)-1)=(g.ar.length:Int)-1:=Cv (by omega) (by omega);have ha:DB g.ar (λy0_=>Ta y0_ g)=some (g.ar.any λr=> !Hd r g.cd):=Ks _ (λr hr=>zOo (h.n8 r hr)) (by omega);have hb:(!(g.ar.any λr=> !Hd r g.cd))=g.ar.all λr=>Hd r g.cd:=by rw[<-List.not_all_eq_any_not,Bool.not_not]
 unfold eQ zpQ vM Nh;rw[Aa,ha];cases(((g.ar.length:Int)==3)||((g.ar.length:Int)==5))with
 |false=>rfl
 |true=>
  rw[if_pos rfl,Fm,Aa,Bool.true_and];cases Aw g.cd 0 200 with
  |false=>by_cases hl:g.br= -1<;>simp[hl]
  |true=>
   by_cases hl:g.br= -1
   ·have e1:Aw g.br (-1) ((g.ar.length:Int)-1)=true:=DV.2 ⟨by omega,by omega⟩;have e2:NI g=true:=by unfold NI;rw[if_pos (by omega)]
    rw[if_neg (by simp[hl]),if_neg (by simp),Aa,hb,e1,e2,Bool.and_true];rfl
   ·rw[if_pos (by simpa using hl),if_pos rfl,Fm,Aa,Aa,w];cases hi:Aw g.br 0 ((g.ar.length:Int)-1)with
    |false=>
     have e1:Aw g.br (-1) ((g.ar.length:Int)-1)=false:=by rw[<-Bool.not_eq_true]at hi ⊢;rw[DV]at hi ⊢;omega
     rw[e1];rfl
    |true=>
     have FE:=DV.1 hi;have e1:Aw g.br (-1) ((g.ar.length:Int)-1)=true:=DV.2 ⟨by omega,FE.2⟩;obtain⟨r,e2,e3⟩:=rM (g:=g) FE.1 FE.2;rw[if_pos rfl,e2,Aa,e1,e3];cases r.ju with
     |false=>simp
     |true=>rw[if_neg (by simp),Aa,hb];simp
def rZ(o:AL):Prop:=o.ab.length<=2000000/\o.bf.length<=2000000
def Ji(o:AL):Bool:=Aw o.ah 1 7&&(CP o.ab&&(Kr o.bf&&(((o.ah==2||o.ah==7)||o.bf==[])&&(Aw o.ie (-9999) 9999&&((o.ah==4||o.ah==5)||o.ie==0)))))
theorem zOg{o:AL}(h:rZ o):kM o=some (Ji o):=by unfold kM zpd kA Ji;rw[Fm,Aa,aH h.1,Aa,zNf h.2,Aa,Fm];simp only[Aa];cases Aw o.ah 1 7<;>cases CP o.ab<;>cases Kr o.bf<;>cases(o.ah==2||o.ah==7)<;>cases(o.bf==[])<;>cases Aw o.ie (-9999) 9999<;>rfl
theorem zQX{o:AL}(h:rZ o):kL o=some (Ji o):=by
 have e0:Kr ([]:Ah)=true:=by decide
 have b0:Aw 0 (-9999) 9999=true:=by decide
 unfold kL;rw[Lr h.1,Aa];unfold Ji;cases hk:CP o.ab with
 |false=>simp
 |true=>
  rw[if_neg (by simp)];have hj:∀b,(b=true↔(o.ah=2\/o.ah=7))->hZ o b=some (Ji o):=by
   intro b hb;unfold hZ;rw[tQ h.2,ER];simp only[Aa];cases b with
   |true=>
    have:=hb.1 rfl;have h1:Aw o.ah 1 7=true:=DV.2 (by omega);have h2:(o.ah==2||o.ah==7)=true:=by simpa using this
    have h3:(o.ah==4||o.ah==5)=false:=by simp;omega
    rw[if_pos rfl];unfold Ji;rw[h1,h2,h3,hk];by_cases hB:o.ie=0
    ·rw[hB,b0];simp
    ·have:(o.ie==0)=false:=by simpa using hB
     rw[this];simp
   |false=>
    have Cd: ¬(o.ah=2\/o.ah=7):=λx=>by simpa using hb.2 x
    rw[if_neg (by simp)];unfold Ji;have h2:(o.ah==2||o.ah==7)=false:=by simp;omega
    rw[h2,hk];by_cases hv:o.bf=[]
    ·rw[hv,e0];by_cases k4:o.ah=4
     ·rw[k4];simp[show Aw 4 1 7=true by decide]
     ·by_cases k5:o.ah=5
      ·rw[k5];simp[show Aw 5 1 7=true by decide]
      ·have h3:(o.ah==4||o.ah==5)=false:=by simp;omega
       have q4:(o.ah==4)=false:=by simpa using k4
       have q5:(o.ah==5)=false:=by simpa using k5
       rw[q4,q5];simp only[A6,if_false];by_cases hB:o.ie=0
       ·rw[hB,b0];have:(((o.ah==1)||(o.ah==3))||(o.ah==6))=Aw o.ah 1 7:=by
         rw[Bool.eq_iff_iff];simp only[Bool.or_eq_true,Az,DV];omega
        rw[this];simp
       ·have:(o.ie==0)=false:=by simpa using hB
        rw[this];simp
    ·have Wg:(o.bf==[])=false:=by simpa using hv
     rw[Wg];simp<;>(split<;>(try split)<;>simp_all)
  by_cases k2:o.ah=2
  ·rw[if_pos (by simpa using k2),hj _ (by simp[k2])];unfold Ji;rw[hk]
  ·rw[if_neg (by simpa using k2),hj _ (by simp[k2])];unfold Ji;rw[hk]
def Q5(l:List AL):Bool:=decide ((l.length:Int)<=8)&&l.all Ji
def lX(l:List AL):Prop:=l.length<=2000000/\ ∀o∈l,rZ o
theorem zHJ{l:List AL}(h:lX l):gJ l=some (Q5 l):=by
 have e1:DB l (λy0_=>eF y0_)=some (l.any λo=> !Ji o):=Ks _ (λo ho=>by unfold eF;rw[zOg (h.2 o ho)];rfl) (by have:=h.1;omega)
 unfold gJ Q5;by_cases hl:(l.length:Int)<=8
 ·rw[if_pos (by simpa using hl),e1,Aa,<-List.not_all_eq_any_not];simp[hl]
 ·rw[if_neg (by simpa using hl)];simp[hl]
theorem zHD{l:List AL}(h:lX l):iP l=some (Q5 l):=by
 have hn:=h.1;unfold iP;rw[Jd (xs:=l) (body:=λs:Int=>Tl l s) Ji false (zA l) (λi hi=>by
  show Tl l i=_;unfold Tl;rw[if_pos (by simpa using hi),Av hi,Aa,zQX (h.2 _ (Au hi)),Aa,BE hi (by omega)];cases Ji l[i]<;>rfl) (by
  show Tl l l.length=_;unfold Tl;rw[if_neg (by simp)])]
 unfold zA Q5;cases l.all Ji<;>simp
def Wz(l:List Ce):Prop:=l.length<=2000000/\ ∀g∈l,g.ab.length<=2000000/\g.bf.length<=2000000
def Qe(l:List Ce)(i:Nat):Bool:=match l[i]? with|some g=>CP g.ab&&(Fq g.bf (!g.dz)&& !((l.take i).any λh=>h.ab==g.ab))|none=>true
def L4(l:List Ce):Bool:=(List.range l.length).all (Qe l)&&decide ((l.length:Int)<=8)
theorem zFX{l:List Ce}{i:Nat}(hi:i<l.length):Qe l i=(CP l[i].ab&&(Fq l[i].bf (!l[i].dz)&& !((l.take i).any λh=>h.ab==l[i].ab))):=by unfold Qe;rw[AM hi]
theorem RW{α:Type}(l:List α)(i:Nat):A1 l 0 (i:Int)=l.take i:=by unfold A1;simp
theorem zI3{l:List Ce}(h:Wz l):X7 l=some (L4 l):=by
 have hn:=h.1;unfold X7;rw[F2 (n:=l.length) (body:=λs:Int=>Te l s) (Qe l) false (yY l) (λi hi=>by
  show Te l i=_;have hm:=h.2 _ (Au hi);rw[zFX hi];unfold Te;rw[if_pos (by simpa using hi),Av hi,Aa,aH hm.1,Aa];cases CP l[i].ab with
  |false=>rfl
  |true=>
   rw[if_pos rfl,lR hm.2,Aa];cases Fq l[i].bf (!l[i].dz)with
   |false=>rfl
   |true=>rw[if_pos rfl,AJ (by omega),RW,Ks (p:=λy0_=>yX y0_ l[i]) (λx:Ce=>x.ab==l[i].ab) (λx _=>rfl) (by rw[AI];omega),Aa,BE hi (by omega)];cases(l.take i).any (λx:Ce=>x.ab==l[i].ab)<;>rfl) (by
  show Te l l.length=_;unfold Te;rw[if_neg (by simp)])]
 unfold yY L4;cases(List.range l.length).all (Qe l)<;>simp
theorem zJy{l:List Ce}(h:Wz l):Yb l=some (L4 l):=by
 have hn:=h.1;unfold Yb;rw[F2 (n:=l.length) (body:=λs:Int=>Tj l s) (Qe l) false (yQ l) (λi hi=>by
  show Tj l i=_;have hm:=h.2 _ (Au hi);rw[zFX hi];unfold Tj;rw[if_pos (by simpa using hi),Av hi,Aa,Lr hm.1,Aa];cases CP l[i].ab with
  |false=>rfl
  |true=>
   rw[if_pos rfl,tQ hm.2,Aa];have est:((!Kr l[i].bf)||((!l[i].dz)&&(l[i].bf !=([]:Ab))))= !Fq l[i].bf (!l[i].dz):=by unfold Fq;cases Kr l[i].bf<;>cases l[i].dz<;>simp[bne]
   rw[est];cases Fq l[i].bf (!l[i].dz)with
   |false=>rfl
   |true=>
    rw[if_neg (by simp),AJ (by omega)];have hit:(l.take i).length=i:=by rw[AI];omega
    have e4:Ao (λs:Int=>QG l i l[i] s) 0=if(l.take i).all (λx:Ce=> !(l[i].ab==x.ab))=true then eD (i:Int)else some (.inr (some false)):=by
     refine Jd (xs:=l.take i) (body:=λs:Int=>QG l i l[i] s) (λx:Ce=> !(l[i].ab==x.ab)) (.inr (some false)) (eD (i:Int)) (λj hj=> ?_) ?_
     ·show QG l i l[i] j=_;unfold QG;rw[RW,if_pos (by simpa using hj),Av hj,Aa,BE hj (by omega)];cases(l[i].ab==(l.take i)[j].ab)<;>rfl
     ·show QG l i l[i] (l.take i).length=_;unfold QG;rw[RW,if_neg (by simp)]
    rw[e4];unfold eD;have ea:(l.take i).all (λx:Ce=> !(l[i].ab==x.ab))= !((l.take i).any λh=>h.ab==l[i].ab):=by rw[Bool.eq_iff_iff];simp only[Bd,Bk,List.any_eq_false,beq_eq_false_iff_ne,Az];exact⟨λq x hx e=>q x hx e.symm,λq x hx e=>q x hx e.symm⟩
    rw[ea,BE hi (by omega)];cases(l.take i).any (λh=>h.ab==l[i].ab)<;>rfl) (by
  show Tj l l.length=_;unfold Tj;rw[if_neg (by simp)])]
 unfold yQ L4;cases(List.range l.length).all (Qe l)<;>simp
def ZV(l:List Bh):Prop:=l.length<=2000000/\ ∀x∈l,x.ab.length<=2000000
def Oz(x:Bh):Bool:=CP x.ab&&Aw x.bc 1 60
def zM4(a b:Bh):Bool:=((a.ab==b.ab)&&(a.bc !=b.bc))&&(a.ei||b.ei)
def Mk(a b:Bh):Bool:=zM4 a b||((a.ab==b.ab)&&(a.bc==b.bc))
def Rj(l:List Bh)(i:Nat):Bool:=match l[i]? with|some x=>Oz x&& !((l.take i).any λy=>Mk x y)|none=>true
def O2(l:List Bh):Bool:=(List.range l.length).all (Rj l)&&decide ((l.length:Int)<=60)
theorem zCr{l:List Bh}{i:Nat}(hi:i<l.length):Rj l i=(Oz l[i]&& !((l.take i).any λy=>Mk l[i] y)):=by unfold Rj;rw[AM hi]
theorem zJY{l:List Bh}(h:ZV l):eV l=some (O2 l):=by
 have hn:=h.1;unfold eV;rw[F2 (n:=l.length) (body:=λs:Int=>Sn l s) (Rj l) false (wL l) (λi hi=>by
  show Sn l i=_;have hm:=h.2 _ (Au hi);rw[zCr hi];have e1:iT l[i]=some (Oz l[i]):=by unfold iT Oz;rw[aH hm,Aa,sJ,Aa];cases CP l[i].ab<;>rfl
  unfold Sn;rw[if_pos (by simpa using hi),Av hi,Aa,e1,Aa];cases Oz l[i]with
  |false=>rfl
  |true=>rw[if_pos rfl,AJ (by omega),RW,Ks (p:=λy0_=>xV y0_ l[i]) (λy:Bh=>Mk l[i] y) (λx _=>rfl) (by rw[AI];omega),Aa,BE hi (by omega)];cases(l.take i).any (λy:Bh=>Mk l[i] y)<;>rfl) (by
  show Sn l l.length=_;unfold Sn;rw[if_neg (by simp)])]
 unfold wL O2;cases(List.range l.length).all (Rj l)<;>simp
theorem zIz{l:List Bh}(h:ZV l):fV l=some (O2 l):=by
 have hn:=h.1;unfold fV;rw[F2 (n:=l.length) (body:=λs:Int=>TA l s) (Rj l) false (xH l) (λi hi=>by
  show TA l i=_;have hm:=h.2 _ (Au hi);rw[zCr hi];have e1:gA l[i]=some (Oz l[i]):=by unfold gA Oz;rw[Lr hm,Aa,ER,Aa];cases CP l[i].ab<;>rfl
  unfold TA;rw[if_pos (by simpa using hi),Av hi,Aa,e1,Aa];cases Oz l[i]with
  |false=>rfl
  |true=>
   rw[if_neg (by simp),AJ (by omega)];have hit:(l.take i).length=i:=by rw[AI];omega
   have e4:Ao (λs:Int=>QD l i l[i] s) 0=if(l.take i).all (λy:Bh=> !Mk l[i] y)=true then dR (i:Int)else some (.inr (some false)):=by
    refine Jd (xs:=l.take i) (body:=λs:Int=>QD l i l[i] s) (λy:Bh=> !Mk l[i] y) (.inr (some false)) (dR (i:Int)) (λj hj=> ?_) ?_
    ·show QD l i l[i] j=_;unfold QD fC Mk zM4;rw[RW,if_pos (by simpa using hj),Av hj,Aa,BE hj (by omega),Aa];generalize (l.take i)[j]=y;by_cases hk:l[i].ab=y.ab
     ·by_cases ht:l[i].bc=y.bc
      ·rw[if_pos (by simpa using hk),if_pos (by simpa using ht)];simp[hk,ht]
      ·rw[if_pos (by simpa using hk),if_neg (by simpa using ht)];cases l[i].ei<;>cases y.ei<;>simp[hk,ht]
     ·rw[if_neg (by simpa using hk)];simp[hk]
    ·show QD l i l[i] (l.take i).length=_;unfold QD;rw[RW,if_neg (by simp)]
   rw[e4];unfold dR;have ea:(l.take i).all (λy:Bh=> !Mk l[i] y)= !((l.take i).any λy=>Mk l[i] y):=by rw[List.not_any_eq_all_not]
   rw[ea,BE hi (by omega)];cases(l.take i).any (λy=>Mk l[i] y)<;>rfl) (by
  show TA l l.length=_;unfold TA;rw[if_neg (by simp)])]
 unfold xH O2;cases(List.range l.length).all (Rj l)<;>simp
structure aB(t:CV):Prop where
 ops:lX t.ef
 got:Wz t.cm
 ox:t.c6.length<=2000000
structure lP(l:Cw):Prop where
 keys:Mf l.ch
 got:Wz l.cm
structure Zf(w:BA):Prop where
 mn:Mf w.bq
 ny:w.aw.length<=2000000
 group:∀g∈w.aw,ZZ g
 oo:∀l∈w.cj,ZV l
 oj:w.bm.length<=2000000
 nq:w.bj.length<=2000000
 pd:w.cf.length<=2000000
 o6:∀t∈w.cf,aB t
 looks:w.cc.length<=2000000
 look:∀l∈w.cc,lP l
theorem rV{l:List Int}{a b:Int}(h:l.length<=2000000):T4 l a b=some (l.all λx=>Aw x a b):=by
 unfold T4;rw[Jd (xs:=l) (body:=λs:Int=>TI l a b s) (λx=>Aw x a b) false (some true) (λi hi=>by
  show TI l a b i=_;unfold TI;rw[if_pos (by simpa using hi),Av hi,Aa,ER,Aa,BE hi (by omega)];cases Aw l[i] a b<;>rfl) (by
  show TI l a b l.length=_;unfold TI;rw[if_neg (by simp)])]
 cases(l.all λx=>Aw x a b)<;>rfl
def Lp(w:BA)(t:CV):Bool:=Q5 t.ef&&(decide ((t.ef.length:Int)>0)&&(L4 t.cm&&(((t.c6.length:Int)==(w.aw.length:Int))&&((t.c6.all λx=>Aw x 0 200)&&(Aw t.di (-1) w.cz&&(Aw t.ga (-1) w.cz&&Aw t.ak 0 100000))))))
theorem zOU{w:BA}{t:CV}(h:aB t):iJ w t=some (Lp w t):=by unfold iJ Lp;simp only[zHD h.ops,zJy h.got,rV h.ox,ER,rP,Aa];cases Q5 t.ef<;>cases decide ((t.ef.length:Int)>0)<;>cases L4 t.cm<;>cases((t.c6.length:Int)==(w.aw.length:Int))<;>cases(t.c6.all λx=>Aw x 0 200)<;>cases Aw t.di (-1) w.cz<;>cases Aw t.ga (-1) w.cz<;>rfl
theorem zK1{w:BA}{t:CV}(h:aB t):cD w t=some (Lp w t):=by
 have ha:DB t.c6 (λy0_=>vC y0_)=some (t.c6.any λx=> !Aw x 0 200):=Ks _ (λx _=>rfl) (by have:=h.ox;omega);have hb:(t.c6.any λx=> !Aw x 0 200)= !(t.c6.all λx=>Aw x 0 200):=by rw[<-List.not_all_eq_any_not]
 unfold cD yM QB Lp;simp only[zHJ h.ops,zI3 h.got,ha,hb,Fm,YQ,Aa];cases Q5 t.ef<;>cases decide ((t.ef.length:Int)>0)<;>cases L4 t.cm<;>cases((t.c6.length:Int)==(w.aw.length:Int))<;>cases(t.c6.all λx=>Aw x 0 200)<;>cases Aw t.di (-1) w.cz<;>cases Aw t.ga (-1) w.cz<;>rfl
def UZ(l:Cw)(i:Nat):Bool:=match l.cm[i]?,l.ch[i]? with|some g,some k=>g.ab==k|_,_=>true
def Lj(w:BA)(l:Cw):Bool:=Aw l.fg 0 ((w.bj.length:Int)-1)&&(FA l.ch&&(Aw (l.ch.length:Int) 1 8&&(decide ((l.cm.length:Int)<=(l.ch.length:Int))&&(L4 l.cm&&((List.range l.cm.length).all (UZ l)&&(Aw l.ak 0 100000&&(Aw l.di (-1) w.cz&&Aw l.ga (-1) w.cz)))))))
theorem zK5{ks:List Ah}(h:Mf ks):gX ks=some (FA ks&&Aw (ks.length:Int) 1 8):=by
 have hn:=h.1;unfold gX;rw[zxD (body:=λs:Int=>Tz ks s) (fin:=xQ ks) h (λhi=>by
  simp only[Tz,hi,decide_true,if_true,show((0:Int)<(ks.length:Int))from by omega,show Ak ks 0=some ks[0]from Av hi,Aa,Lr (h.2 _ (Au hi))];cases CP ks[0]<;>rfl) (λi hi hp=>by
  have CR:i-1<ks.length:=by omega
  have PZ:(i:Int)>0:=by omega
  simp only[Tz,Int.ofNat_lt,hi,PZ,decide_true,if_true,Av hi,Aa,Lr (h.2 _ (Au hi)),BE hi (by omega:ks.length<=_),JV hp (by omega:i<=2000000),Av CR];cases CP ks[i]<;>cases Op.bytesLess ks[i-1] ks[i]<;>rfl) (by
  show Tz ks ks.length=_;unfold Tz;rw[if_neg (by simp)])]
 unfold xQ;cases FA ks<;>rfl
theorem zzS{l:Cw}{body:Int->Option (Int ⊕ Option Bool)}{fin:Option Bool}(hl:l.cm.length<=l.ch.length)(hs:∀i (hi:i<l.cm.length) (hk:i<l.ch.length),body (i:Int)=some (if(l.cm[i].ab==l.ch[i])=true then .inl ((i+1:Nat):Int)else .inr (some false)))(he:body (l.cm.length:Int)=some (.inr fin)):Ao body 0=if(List.range l.cm.length).all (UZ l)=true then fin else some false:=
 F2 (n:=l.cm.length) (UZ l) false fin (λi hi=>by
  have hk:i<l.ch.length:=by omega
  rw[hs i hi hk];unfold UZ;rw[AM hi,AM hk]) he
theorem zMm{w:BA}{l:Cw}(hc:w.bj.length<=2000000)(h:lP l):iC w l=some (Lj w l):=by
 have hk:=h.keys.1;have ZA:=h.got.1;have ww:IntKind.i64.wrap ((w.bj.length:Int)-1)=(w.bj.length:Int)-1:=Cv (by omega) (by omega);unfold iC Lj;rw[zK5 h.keys,Aa,zJy h.got];have hg:decide ((l.cm.length:Int)>(l.ch.length:Int))= !decide ((l.cm.length:Int)<=(l.ch.length:Int)):=by
  by_cases hx:(l.cm.length:Int)<=(l.ch.length:Int)
  ·rw[decide_eq_true hx,decide_eq_false (by omega)];rfl
  ·rw[decide_eq_false hx,decide_eq_true (by omega)];rfl
 cases FA l.ch with
 |false=>cases Aw l.fg 0 ((w.bj.length:Int)-1)<;>rfl
 |true=>
  cases Aw (l.ch.length:Int) 1 8 with
  |false=>cases Aw l.fg 0 ((w.bj.length:Int)-1)<;>rfl
  |true=>
   rw[if_pos (by rfl),hg];cases hd:decide ((l.cm.length:Int)<=(l.ch.length:Int))with
   |false=>cases Aw l.fg 0 ((w.bj.length:Int)-1)<;>rfl
   |true=>
    have hd:(l.cm.length:Int)<=(l.ch.length:Int):=by simpa using hd
    rw[if_neg (by simp),Aa];cases L4 l.cm with
    |false=>cases Aw l.fg 0 ((w.bj.length:Int)-1)<;>rfl
    |true=>
     rw[if_neg (by simp),zzS (l:=l) (body:=λs:Int=>SQ w l s) (fin:=xP w l) (by omega) (λi hi hk=>by
      show SQ w l i=_;unfold SQ;rw[if_pos (by simpa using hi),Av hi,Aa,Av hk,Aa,BE hi (by omega)];cases hq:(l.cm[i].ab==l.ch[i])<;>simp[bne,hq]) (by
      show SQ w l l.cm.length=_;unfold SQ;rw[if_neg (by simp)])]
     unfold xP;rw[ER,ww];simp only[ER,rP,Aa];cases(List.range l.cm.length).all (UZ l)<;>cases Aw l.fg 0 ((w.bj.length:Int)-1)<;>cases Aw l.ak 0 100000<;>cases Aw l.di (-1) w.cz<;>rfl
theorem zMB{w:BA}{l:Cw}(hc:w.bj.length<=2000000)(h:lP l):bZ w l=some (Lj w l):=by
 have hk:=h.keys.1;have ZA:=h.got.1;have ww:IntKind.i64.wrap ((w.bj.length:Int)-1)=(w.bj.length:Int)-1:=Cv (by omega) (by omega);have ek:cY l.ch=some (FA l.ch&&Aw (l.ch.length:Int) 1 8):=by unfold cY;rw[Fm,Aa,zwz h.keys];cases Aw (l.ch.length:Int) 1 8<;>cases FA l.ch<;>rfl
 unfold bZ vG Lj;rw[Fm,ww,Aa,Aa,ek,zI3 h.got];have hg:decide ((l.cm.length:Int)>(l.ch.length:Int))= !decide ((l.cm.length:Int)<=(l.ch.length:Int)):=by
  by_cases hx:(l.cm.length:Int)<=(l.ch.length:Int)
  ·rw[decide_eq_true hx,decide_eq_false (by omega)];rfl
  ·rw[decide_eq_false hx,decide_eq_true (by omega)];rfl
 cases Aw l.fg 0 ((w.bj.length:Int)-1)with
 |false=>rfl
 |true=>
  rw[if_pos rfl,Aa];cases FA l.ch with
  |false=>rfl
  |true=>
   cases Aw (l.ch.length:Int) 1 8 with
   |false=>rfl
   |true=>
    rw[if_pos (by rfl),hg];cases hd:decide ((l.cm.length:Int)<=(l.ch.length:Int))with
    |false=>rfl
    |true=>
     have hd:(l.cm.length:Int)<=(l.ch.length:Int):=by simpa using hd
     rw[if_neg (by simp),Aa];cases L4 l.cm with
     |false=>rfl
     |true=>
      rw[if_neg (by simp),zzS (l:=l) (body:=λs:Int=>Sk w l s) (fin:=vA w l) (by omega) (λi hi hk=>by
       show Sk w l i=_;unfold Sk;rw[if_pos (by simpa using hi),Av hi,Aa,Av hk,Aa,BE hi (by omega)];cases hq:(l.cm[i].ab==l.ch[i])<;>simp[bne,hq]) (by
       show Sk w l l.cm.length=_;unfold Sk;rw[if_neg (by simp)])]
      unfold vA QB;simp only[Fm,YQ,Aa];cases(List.range l.cm.length).all (UZ l)<;>cases Aw l.ak 0 100000<;>cases Aw l.di (-1) w.cz<;>rfl
def Qk(w:BA)(i:Nat):Bool:=match w.aw[i]?,w.cj[i]? with|some g,some l=>Nh g&&(((g.ar.length:Int)==3)&&O2 l)|_,_=>true
theorem qE{w:BA}{i:Nat}(hi:i<w.aw.length)(Hn:i<w.cj.length):Qk w i=(Nh w.aw[i]&&(((w.aw[i].ar.length:Int)==3)&&O2 w.cj[i])):=by unfold Qk;rw[AM hi,AM Hn]
def Ko(w:BA):Bool:=FA w.bq&&(decide ((w.bq.length:Int)<=2)&&(((w.aw.length:Int)==(w.bq.length:Int)+1)&&(((w.bj.length:Int)==3*((w.bq.length:Int)+1))&&(((w.cj.length:Int)==(w.bq.length:Int)+1)&&(((w.bm.length:Int)==(w.bq.length:Int)+1)&&((w.bm.all λx=>Aw x 0 100000)&&((List.range w.aw.length).all (Qk w)&&((w.bj.all λc=>Aw c.gp (-5) 5)&&((w.cf.all (Lp w))&&((w.cc.all (Lj w))&&(Aw w.gr 0 100000&&(Aw w.cz 0 1000000&&(decide ((w.cf.length:Int)<=6)&&decide ((w.cc.length:Int)<=4))))))))))))))
theorem zxz{w:BA}(h:Zf w):QQ w=some (Ko w):=by
 have AG:=h.mn.1;have w1:IntKind.i64.wrap ((w.bq.length:Int)+1)=(w.bq.length:Int)+1:=Cv (by omega) (by omega);have w2:IntKind.i64.wrap ((3:Int)*((w.bq.length:Int)+1))=3*((w.bq.length:Int)+1):=Cv (by omega) (by omega);unfold QQ Ko;rw[zLJ h.mn,Aa,w1,w2,rV h.oj];cases FA w.bq with
 |false=>rfl
 |true=>
  by_cases hc:(w.bq.length:Int)<=2
  ·have e1:decide ((w.bq.length:Int)<4)=true:=by simp;omega
   have e2:decide ((w.bq.length:Int)+1>3)=false:=by simp;omega
   have e3:decide ((w.bq.length:Int)<=2)=true:=by simpa using hc
   rw[e1,e2,e3,if_pos (by rfl),if_neg (by simp)];cases hg:((w.aw.length:Int)==(w.bq.length:Int)+1)with
   |false=>simp[bne,hg]
   |true=>
    cases hk:((w.bj.length:Int)==3*((w.bq.length:Int)+1))with
    |false=>simp[bne,hg,hk]
    |true=>
     cases hl:((w.cj.length:Int)==(w.bq.length:Int)+1)with
     |false=>simp[bne,hg,hk,hl]
     |true=>
      cases hp:((w.bm.length:Int)==(w.bq.length:Int)+1)with
      |false=>simp[bne,hg,hk,hl,hp]
      |true=>
       rw[if_neg (by simp[bne,hg]),if_neg (by simp[bne,hk]),if_neg (by simp[bne,hl]),if_neg (by simp[bne,hp]),Aa];cases(w.bm.all λx=>Aw x 0 100000)with
       |false=>rfl
       |true=>
        have ZA:w.aw.length=w.cj.length:=by simp only[Az]at hg hl;omega
        have Pz:w.bj.length<=2000000:=h.nq;rw[if_neg (by simp),F2 (n:=w.aw.length) (body:=λs:Int=>Tp w s) (Qk w) false (xW w) (λi hi=>by
         have Hn:i<w.cj.length:=by omega
         show Tp w i=_;unfold Tp;rw[if_pos (by simpa using hi),Av hi,Aa,zIm (h.group _ (Au hi)),Aa,Av Hn,qE hi Hn,Aa,zIz (h.oo _ (Au Hn)),Aa,BE hi (by have:=h.ny;omega)];cases Nh w.aw[i]with
         |false=>rfl
         |true=>
          cases h3:((w.aw[i].ar.length:Int)==3)with
          |false=>simp[bne,h3]
          |true=>cases O2 w.cj[i]<;>simp[bne,h3]) (by
         show Tp w w.aw.length=_;unfold Tp;rw[if_neg (by simp)])]
        cases(List.range w.aw.length).all (Qk w)with
        |false=>rfl
        |true=>
         rw[if_pos rfl];unfold xW;rw[Jd (xs:=w.bj) (body:=λs:Int=>Tv w s) (λc=>Aw c.gp (-5) 5) false (xK w) (λi hi=>by
          show Tv w i=_;unfold Tv;rw[if_pos (by simpa using hi),Av hi,Aa,zKg,Aa,BE hi (by omega)];cases Aw w.bj[i].gp (-5) 5<;>rfl) (by
          show Tv w w.bj.length=_;unfold Tv;rw[if_neg (by simp)])]
         cases(w.bj.all λc=>Aw c.gp (-5) 5)with
         |false=>rfl
         |true=>
          rw[if_pos rfl];unfold xK;rw[Jd (xs:=w.cf) (body:=λs:Int=>SP w s) (Lp w) false (xC w) (λi hi=>by
           show SP w i=_;unfold SP;rw[if_pos (by simpa using hi),Av hi,Aa,zOU (h.o6 _ (Au hi)),Aa,BE hi (by have:=h.pd;omega)];cases Lp w w.cf[i]<;>rfl) (by
           show SP w w.cf.length=_;unfold SP;rw[if_neg (by simp)])]
          cases w.cf.all (Lp w)with
          |false=>rfl
          |true=>
           rw[if_pos rfl];unfold xC;rw[Jd (xs:=w.cc) (body:=λs:Int=>Tu w s) (Lj w) false (yF w) (λi hi=>by
            show Tu w i=_;unfold Tu;rw[if_pos (by simpa using hi),Av hi,Aa,zMm Pz (h.look _ (Au hi)),Aa,BE hi (by have:=h.looks;omega)];cases Lj w w.cc[i]<;>rfl) (by
            show Tu w w.cc.length=_;unfold Tu;rw[if_neg (by simp)])]
           cases w.cc.all (Lj w)with
           |false=>rfl
           |true=>rw[if_pos rfl];unfold yF;simp only[ER,rP,Aa];cases Aw w.gr 0 100000<;>cases Aw w.cz 0 1000000<;>rfl
  ·have e2:decide ((w.bq.length:Int)+1>3)=true:=by simp;omega
   have e3:decide ((w.bq.length:Int)<=2)=false:=by simpa using hc
   rw[e2,e3];cases decide ((w.bq.length:Int)<4)<;>rfl
theorem zDk(n:Nat)(p q:Nat->Bool):(List.range n).all (λi=>p i&&q i)=((List.range n).all p&&(List.range n).all q):=by rw[Bool.eq_iff_iff];simp only[Ac,Bd,List.mem_range];exact⟨λh=>⟨λi hi=>(h i hi).1,λi hi=>(h i hi).2⟩,λh i hi=>⟨h.1 i hi,h.2 i hi⟩⟩
theorem zIW{w:BA}(h:Zf w):XK w=some (Ko w):=by
 have AG:=h.mn.1;have w1:IntKind.i64.wrap ((w.bq.length:Int)+1)=(w.bq.length:Int)+1:=Cv (by omega) (by omega);have w2:IntKind.i64.wrap ((3:Int)*((w.bq.length:Int)+1))=3*((w.bq.length:Int)+1):=Cv (by omega) (by omega);have Pz:w.bj.length<=2000000:=h.nq;unfold XK Ko;rw[w1,w2,zK8 h.mn,Aa];by_cases hc:(w.bq.length:Int)<=2
 ·have e1:decide ((w.bq.length:Int)<4)=true:=by simp;omega
  have e2:decide ((w.bq.length:Int)>2)=false:=by simp;omega
  have e3:decide ((w.bq.length:Int)<=2)=true:=by simpa using hc
  rw[e1,e2,e3,if_neg (by simp),Bool.and_true,Bool.true_and];cases hu:FA w.bq with
  |false=>simp
  |true=>
   cases hg:((w.aw.length:Int)==(w.bq.length:Int)+1)with
   |false=>simp[bne,hg]
   |true=>
    cases hl:((w.cj.length:Int)==(w.bq.length:Int)+1)with
    |false=>simp[bne,hg,hl]
    |true=>
     cases hp:((w.bm.length:Int)==(w.bq.length:Int)+1)with
     |false=>simp[bne,hg,hl,hp]
     |true=>
      cases hk:((w.bj.length:Int)==3*((w.bq.length:Int)+1))with
      |false=>simp[bne,hg,hl,hp,hk]
      |true=>
       have ZA:w.aw.length=w.cj.length/\w.aw.length=w.bm.length:=by simp only[Az]at hg hl hp;omega
       rw[if_neg (by simp[bne,hg,hl,hp,hk]),F2 (n:=w.aw.length) (body:=λs:Int=>S8 w s) (λi=>Qk w i&&Aw ((w.bm[i]?).getD 0) 0 100000) false (wA w) (λi hi=>by
        have Hn:i<w.cj.length:=by omega
        have hi3:i<w.bm.length:=by omega
        show S8 w i=_;unfold S8;rw[if_pos (by simpa using hi),Av hi,Aa,zID (h.group _ (Au hi)),Aa,Av Hn,qE hi Hn,Aa,zJY (h.oo _ (Au Hn)),Aa,Av hi3,Aa,YQ,Aa,BE hi (by have:=h.ny;omega),AM hi3,Be];cases Nh w.aw[i]with
        |false=>rfl
        |true=>
         cases h3:((w.aw[i].ar.length:Int)==3)with
         |false=>simp[bne,h3]
         |true=>cases O2 w.cj[i]<;>cases Aw w.bm[i] 0 100000<;>simp[bne,h3]) (by
        show S8 w w.aw.length=_;unfold S8;rw[if_neg (by simp)]),zDk]
       have er:(List.range w.aw.length).all (λi=>Aw ((w.bm[i]?).getD 0) 0 100000)=w.bm.all λx=>Aw x 0 100000:=by rw[ZA.2];exact zyf w.bm (λx=>Aw x 0 100000) _ λi hi=>by simp[hi]
       rw[er];have c1:DB w.bj (λy0_=>dD y0_)=some (!(w.bj.all λc=>Aw c.gp (-5) 5)):=by rw[Ks (xs:=w.bj) (p:=λy0_=>dD y0_) (λc:DG=> !Aw c.gp (-5) 5) (λc _=>rfl) (by omega),<-List.not_all_eq_any_not]
       have c2:DB w.cf (λy0_=>XH y0_ w)=some (!(w.cf.all (Lp w))):=by
        rw[Ks (xs:=w.cf) (p:=λy0_=>XH y0_ w) (λt:CV=> !Lp w t) (λt ht=>by unfold XH;rw[zK1 (h.o6 t ht)];rfl) (by have:=h.pd;omega),<-List.not_all_eq_any_not]
       have c3:DB w.cc (λy0_=>XG y0_ w)=some (!(w.cc.all (Lj w))):=by
        rw[Ks (xs:=w.cc) (p:=λy0_=>XG y0_ w) (λl:Cw=> !Lj w l) (λl hl=>by unfold XG;rw[zMB Pz (h.look l hl)];rfl) (by have:=h.looks;omega),<-List.not_all_eq_any_not]
       cases(List.range w.aw.length).all (Qk w)with
       |false=>simp
       |true=>
        cases(w.bm.all λx=>Aw x 0 100000)with
        |false=>simp
        |true=>
         rw[if_pos (by rfl)];unfold wA;simp only[YQ,Fm,Aa,c1,c2,c3];cases Aw w.gr 0 100000 with
         |false=>simp
         |true=>
          cases Aw w.cz 0 1000000 with
          |false=>simp
          |true=>
           cases decide ((w.cf.length:Int)<=6)with
           |false=>simp
           |true=>
            cases decide ((w.cc.length:Int)<=4)with
            |false=>simp
            |true=>cases(w.bj.all λc=>Aw c.gp (-5) 5)<;>cases w.cf.all (Lp w)<;>cases w.cc.all (Lj w)<;>rfl
 ·have e2:decide ((w.bq.length:Int)>2)=true:=by simp;omega
  have e3:decide ((w.bq.length:Int)<=2)=false:=by simpa using hc
  rw[e2,e3,if_pos rfl];cases FA w.bq<;>rfl
structure zRV(t:An):Prop where
 name:t.ae.length<=9223372036854775807
 ji:t.bd.length<=9223372036854775807
 pg:∀c∈t.bd,c.length<=9223372036854775807
 idxs:t.aj.length<=9223372036854775807
 idx:∀x∈t.aj,x.ae.length<=9223372036854775807
theorem sA{α:Type}{xs:List α}{i:Int}{x:α}(h:Ak xs i=some x):0<=i/\xs[i.toNat]?=some x/\i<xs.length:=by
 unfold Ak at h;split at h
 ·rename_i h0;have:=(List.getElem?_eq_some_iff.1 h).1;exact⟨h0,h,by omega⟩
 ·cases h
def GF(t:An)(k c:Int):An:=⟨t.ae,t.bd,t.aj.set k.toNat {((t.aj[k.toNat]?).getD ⟨[],0,0⟩)with bh:=c}⟩
def Hf(a b:Int):Int:=if a<b then a+1 else a-1
def MZ:Nat->Int->Int->List Int
 |0,_,_=> []
 |f+1,a,b=>if a=b then []else Hf a b::MZ f (Hf a b) b
def G4(t:An)(k a b:Int):List An:=t::(MZ 3 a b).map (GF t k)
theorem rA:∀(f:Nat) {a b:Int},0<=a->a<=3->0<=b->b<=3-> ∀c∈MZ f a b,0<=c/\c<=3
 |0,_,_,_,_,_,_,c,hc=>by simp[MZ]at hc
 |f+1,a,b,h1,h2,h3,h4,c,hc=>by
  unfold MZ at hc;split at hc
  ·simp at hc
  ·have hn:0<=Hf a b/\Hf a b<=3:=by unfold Hf;split<;>omega
   rcases Ag.1 hc with rfl|hc
   ·exact hn
   ·exact rA f hn.1 hn.2 h3 h4 c hc
theorem qV{t:An}{k b:Int}{body:Int × List An->Option ((Int × List An) ⊕ Option (List An))}(C6:0<=b)(GK:b<=3)
  (hs:∀a o,0<=a->a<=3->a≠b->o.length<=100->body (a,o)=some (.inl (Hf a b,o++ [GF t k (Hf a b)]))) (he:∀o,body (b,o)=some (.inr (some o))):
  ∀(f:Nat) (a:Int) (o:List An),0<=a->a<=3->(a-b).natAbs<=f->o.length+f<=100->Ao body (a,o)=some (o++(MZ f a b).map (GF t k))
 |0,a,o,_,_,hf,_=>by
  have:a=b:=by omega
  subst this;rw[D2,he];simp[MZ]
 |f+1,a,o,h0,h3,hf,ho=>by
  by_cases KK:a=b
  ·subst KK;rw[D2,he];simp[MZ]
  ·rw[D2,hs a o h0 h3 KK (by omega)];have hn:0<=Hf a b/\Hf a b<=3/\(Hf a b-b).natAbs<=f:=by unfold Hf;split<;>omega
   have:=qV C6 GK hs he f (Hf a b) (o++ [GF t k (Hf a b)]) hn.1 hn.2.1 hn.2.2 (by simp;omega);simp only[this,MZ,if_neg KK,List.map_cons,List.append_assoc,List.singleton_append]
theorem zNu{t:An}(h:D3 t):Yf t=some t:=by unfold Yf;have h1:=h.ji;have h2:=h.idxs;rw[AJ (by simp;omega),AJ (by simp;omega)]
theorem zJ4{t:An}(h:D3 t):XS t=some t:=by unfold XS Qt u7;have h1:=h.ji;have h2:=h.idxs;rw[O9 (by omega) (by omega),Aa,O9 (by omega) (by omega),Aa]
theorem zMX{t:An}{n:Ah}{x:A5}{c:Int}(h:D3 t)(hx:Ku t n x):Ya t n c=some (GF t (Cy (λy:A5=>y.ae==n) t.aj) c):=by unfold Ya GF;rw[zNu h,Aa,UQ h,Aa,hx.at_,Aa,(sA hx.at_).2.1];rfl
theorem zNw{t:An}{n:Ah}{x:A5}{c:Int}(h:D3 t)(hx:Ku t n x):Xr t n c=some (GF t (Cy (λy:A5=>y.ae==n) t.aj) c):=by unfold Xr GF;rw[zJ4 h,Aa,WD h,Aa,hx.at_,Aa,(sA hx.at_).2.1];rfl
theorem zPD{t:An}{n:Ah}{x:A5}{b:Int}(h:D3 t)(hx:Ku t n x)(h0:0<=x.bh)(h3:x.bh<=3)(C6:0<=b)(GK:b<=3):iS t n b=some (G4 t (Cy (λy:A5=>y.ae==n) t.aj) x.bh b):=by
 unfold iS;rw[zNu h,Aa,UQ h,Aa,hx.at_,Aa];refine(qV (t:=t) (k:=Cy (λy:A5=>y.ae==n) t.aj) C6 GK ?_ ?_ 3 x.bh [t] h0 h3 (by omega) (by simp)).trans (by simp[G4])
 ·intro a o Pw Vh KK ho;show XM t n b a o=_;unfold XM;rw[if_pos (by simpa using KK)];have w1:IntKind.i64.wrap (a+1)=a+1:=Cv (by omega) (by omega);have w2:IntKind.i64.wrap (a-1)=a-1:=Cv (by omega) (by omega);by_cases AQ:a<b
  ·rw[if_pos (by simpa using AQ),w1,zMX h hx,Aa,AJ (by simp;omega)];simp[Hf,AQ]
  ·rw[if_neg (by simpa using AQ),w2,zMX h hx,Aa,AJ (by simp;omega)];simp[Hf,AQ]
 ·intro o;show XM t n b b o=_;unfold XM;rw[if_neg (by simp)]
theorem zPN{t:An}{n:Ah}{x:A5}{b:Int}(h:D3 t)(hx:Ku t n x)(h0:0<=x.bh)(h3:x.bh<=3)(C6:0<=b)(GK:b<=3):cU t n b=some (G4 t (Cy (λy:A5=>y.ae==n) t.aj) x.bh b):=by
 unfold cU M9;rw[WD h,Aa,hx.at_,Aa,Aa,zJ4 h,Aa];refine(qV (t:=t) (k:=Cy (λy:A5=>y.ae==n) t.aj) C6 GK ?_ ?_ 3 x.bh [t] h0 h3 (by omega) (by simp)).trans (by simp[G4])
 ·intro a o Pw Vh KK ho;show Xs t n b a o=_;unfold Xs;rw[if_pos (by simpa using KK)];have w1:IntKind.i64.wrap (a+1)=a+1:=Cv (by omega) (by omega);have w2:IntKind.i64.wrap (a-1)=a-1:=Cv (by omega) (by omega);by_cases AQ:a<b
  ·rw[if_pos (by simpa using AQ),w1,zNw h hx,Aa,AJ (by simp;omega)];simp[Hf,AQ]
  ·rw[if_neg (by simpa using AQ),w2,zNw h hx,Aa,AJ (by simp;omega)];simp[Hf,AQ]
 ·intro o;show Xs t n b b o=_;unfold Xs;rw[if_neg (by simp)]
theorem lD{α β:Type}{xs ys:List α}(hl:xs.length=ys.length){body:Int->Option (Int ⊕ Option β)}(p:α->α->Bool)(b:β)(fin:Option β)
  (hs:∀(i:Nat) (hi:i<xs.length) (hj:i<ys.length),body i=some (if p xs[i] ys[i]=true then .inl ((i+1:Nat):Int)else .inr (some b))) (he:body xs.length=some (.inr fin)):Ao body 0=if((xs.zip ys).all λz=>p z.1 z.2)=true then fin else some b:=by
 have hz:(xs.zip ys).length=xs.length:=by simp[hl]
 have h1:=lI (xs:=xs.zip ys) (body:=body) (λi (_:Unit)=>i) (λz _=>some (if p z.1 z.2=true then .inl ()else .inr (some b))) (λ_=>fin)
  (λi hi s=>by
   have CR:i<xs.length:=by omega
   have Hn:i<ys.length:=by omega
   rw[hs i CR Hn,List.getElem_zip];cases p xs[i] ys[i]<;>simp[MT]) (λs=>by rw[hz];exact he) ()
 rw[rT (λz:α × α=>p z.1 z.2) b λx _ s=>rfl]at h1;exact h1
theorem Zg{α γ:Type}{p:α->α->Bool}{f:α->γ}(h:∀x y,p x y=true↔f x=f y):∀{xs ys:List α},xs.length=ys.length->(((xs.zip ys).all λz=>p z.1 z.2)=true↔xs.map f=ys.map f)
 | [],[],_=>by simp
 | [],_::_,h=>by simp at h
 |_::_,[],h=>by simp at h
 |x::xs,y::ys,hl=>by have:=Zg h (xs:=xs) (ys:=ys) (by simpa using hl);simp only[List.zip_cons_cons,List.all_cons,Ac,List.map_cons,List.cons.injEq,this,h]
def nc(x:A5):Ah × Int:=(x.ae,x.dk)
theorem rX{x y:A5}(h1:nc x=nc y)(h2:x.bh=y.bh):x=y:=by cases x;cases y;simp[nc]at h1 h2;simp[h1,h2]
theorem zFK:∀{xs ys:List A5},xs.map nc=ys.map nc->xs.map (·.bh)=ys.map (·.bh)->xs=ys
 | [],[],_,_=>rfl
 | [],_::_,h,_=>by simp at h
 |_::_,[],h,_=>by simp at h
 |x::xs,y::ys,h1,h2=>by simp only[List.map_cons,List.cons.injEq]at h1 h2;rw[rX h1.1 h2.1,zFK h1.2 h2.2]
theorem zwo{a b:An}(h1:a.ae=b.ae)(h2:a.bd=b.bd)(h3:a.aj=b.aj):a=b:=by cases a;cases b;simp at h1 h2 h3;simp[h1,h2,h3]
structure W7(t:An):Prop where
 len:t.aj.length<=3
 pq:∀x∈t.aj,0<=x.bh/\x.bh<=3
def LF(a b:An):Bool:=a.ae==b.ae&&(a.bd==b.bd&&(a.aj.map nc==b.aj.map nc&&a.aj.map (·.bh)==b.aj.map (·.bh)))
theorem ZU{a b:An}:LF a b=true↔a=b:=by
 unfold LF;simp only[Ac,Az];constructor
 ·rintro⟨h1,h2,h3,h4⟩;exact zwo h1 h2 (zFK h3 h4)
 ·rintro rfl;simp
theorem zLK{a b:An}(ha:D3 a):OO a b=some (LF a b):=by
 have key:∃r,OO a b=some r/\(r=true↔a=b):=by
  unfold OO;by_cases h1:(a.ae==b.ae)=true
  ·rw[if_pos h1];have IS:a.ae=b.ae:=by simpa using h1
   have e1:∃r,M7 a.bd b.bd=some r/\(r=true↔a.bd=b.bd):=by
    unfold M7;by_cases h2:((a.bd.length:Int) !=(b.bd.length:Int))=true
    ·rw[if_pos h2];exact⟨_,rfl,by simp,λh=>by rw[h]at h2;simp at h2⟩
    ·rw[if_neg h2];have Zl:a.bd.length=b.bd.length:=by
      have:(a.bd.length:Int)=b.bd.length:=by simpa using h2
      omega
     rw[lD (xs:=a.bd) (ys:=b.bd) Zl (λx y=>x==y) false (some true) ?_ ?_]
     ·have z1:=Zg (p:=λx y:Ah=>x==y) (f:=id) (by simp) Zl;rw[List.map_id,List.map_id]at z1;rw[<-z1];cases hz:((a.bd.zip b.bd).all λz=>z.1==z.2)<;>exact⟨_,rfl,by simp⟩
     ·intro i CR JG;show LX a.bd b.bd i=_;unfold LX;have:=ha.ji;rw[if_pos (by simpa using CR),Av CR,Aa,Av JG,Aa,BE CR (by omega)];by_cases hq:a.bd[i]=b.bd[i]
      ·rw[if_neg (by simp[hq]),if_pos (by simpa using hq)]
      ·rw[if_pos (by simpa using hq),if_neg (by simpa using hq)]
     ·show LX a.bd b.bd a.bd.length=_;unfold LX;rw[if_neg (by simp)]
   obtain⟨r1,e1,f1⟩:=e1;rw[e1,Aa];by_cases h2:r1=true
   ·rw[if_pos h2];have Zl:=f1.1 h2;have e2:∃r,bX a.aj b.aj=some r/\(r=true↔a.aj=b.aj):=by
     unfold bX;by_cases h3:((a.aj.length:Int) !=(b.aj.length:Int))=true
     ·rw[if_pos h3];exact⟨_,rfl,by simp,λh=>by rw[h]at h3;simp at h3⟩
     ·rw[if_neg h3];have U6:a.aj.length=b.aj.length:=by
       have:(a.aj.length:Int)=b.aj.length:=by simpa using h3
       omega
      rw[lD (xs:=a.aj) (ys:=b.aj) U6 (λx y=>x.ae==y.ae&&(x.dk==y.dk&&(x.bh==y.bh))) false (some true) ?_ ?_]
      ·have z1:=Zg (p:=λx y:A5=>x.ae==y.ae&&(x.dk==y.dk&&(x.bh==y.bh))) (f:=id) (λx y=>by
        simp only[Ac,Az,id];constructor
        ·rintro⟨k1,k2,k3⟩;exact rX (by simp[nc,k1,k2]) k3
        ·rintro rfl;simp) U6
       rw[List.map_id,List.map_id]at z1;rw[<-z1];cases((a.aj.zip b.aj).all λz=>z.1.ae==z.2.ae&&(z.1.dk==z.2.dk&&(z.1.bh==z.2.bh)))<;>exact⟨_,rfl,by simp⟩
      ·intro i CR JG;show Xl a.aj b.aj i=_;unfold Xl;have:=ha.idxs;rw[if_pos (by simpa using CR),Av CR,Aa,Av JG,Aa,BE CR (by omega)];cases(a.aj[i].ae==b.aj[i].ae&&(a.aj[i].dk==b.aj[i].dk&&(a.aj[i].bh==b.aj[i].bh)))<;>rfl
      ·show Xl a.aj b.aj a.aj.length=_;unfold Xl;rw[if_neg (by simp)]
    obtain⟨r2,e2,f2⟩:=e2;rw[e2,Aa];exact⟨_,rfl,by rw[f2];exact⟨λh=>zwo IS Zl h,λh=>by rw[h]⟩⟩
   ·rw[if_neg h2];exact⟨_,rfl,by simp,λh=>absurd (f1.2 (by rw[h])) h2⟩
  ·rw[if_neg h1];exact⟨_,rfl,by simp,λh=>by rw[h]at h1;simp at h1⟩
 obtain⟨r,e,f⟩:=key;rw[e];congr 1;rw[Bool.eq_iff_iff,f,ZU]
theorem zNj{t:An}(h:Eu t=true):W7 t:=by unfold Eu at h;simp only[Ac,AS]at h;refine⟨by omega,λx hx=> ?_⟩;obtain⟨i,hi,rfl⟩:=List.mem_iff_getElem.1 hx;have h1:=Bd.1 h.2 i (List.mem_range.2 hi);unfold Jl at h1;simp only[Ac,AM hi,Be]at h1;exact DV.1 h1.1.2
theorem zF9{α γ:Type}(f:α->γ):∀(l:List α) (k:Nat) (d y:α),f y=f ((l[k]?).getD d)->(l.set k y).map f=l.map f
 | [],k,d,y,_=>rfl
 |x::l,0,d,y,h=>by simp only[List.getElem?_cons_zero,Be]at h;simp[h]
 |x::l,k+1,d,y,h=>by simp only[List.getElem?_cons_succ]at h;simp[zF9 f l k d y h]
theorem zrW(t:An)(k c:Int):(GF t k c).aj.map (·.ae)=t.aj.map (·.ae):=zF9 _ _ _ ⟨[],0,0⟩ _ rfl
theorem zIO{t:An}{k c:Int}(h:W7 t)(h0:0<=c)(h3:c<=3):W7 (GF t k c):=by
 refine⟨by unfold GF;simpa using h.len,λx hx=> ?_⟩;rcases List.mem_or_eq_of_mem_set hx with hx|rfl
 ·exact h.pq x hx
 ·exact⟨h0,h3⟩
theorem zEr{t:An}{k c:Int}(h:D3 t):D3 (GF t k c):=by refine⟨h.name,h.ji,h.pg,by unfold GF;simpa using h.idxs,λx hx=> ?_⟩;have h1:x.ae∈(GF t k c).aj.map (·.ae):=List.mem_map.2 ⟨x,hx,rfl⟩;rw[zrW]at h1;obtain⟨y,hy,e⟩:=List.mem_map.1 h1;rw[<-e];exact h.idx y hy
theorem zOH{t:An}{k a b:Int}(hS:D3 t)(h:W7 t)(Pw:0<=a)(Vh:a<=3)(C6:0<=b)(GK:b<=3):∀w∈G4 t k a b,w.aj.map (·.ae)=t.aj.map (·.ae)/\W7 w/\D3 w:=by
 intro w hw;rcases Ag.1 hw with rfl|hw
 ·exact⟨rfl,h,hS⟩
 ·obtain⟨c,hc,rfl⟩:=List.mem_map.1 hw;have:=rA 3 Pw Vh C6 GK c hc;exact⟨zrW t k c,zIO h this.1 this.2,zEr hS⟩
theorem zKh{xs ys:List A5}{n:Ah}(h:xs.map (·.ae)=ys.map (·.ae)):decide (Cy (λx:A5=>x.ae==n) xs>=0)=decide (Cy (λx:A5=>x.ae==n) ys>=0):=by
 rw[Uv,Uv];have e:∀l:List A5,(l.any λx=>x.ae==n)=(l.map (·.ae)).any (· ==n):=λl=>by rw[List.any_map];rfl
 rw[e,e,h]
def noT:An:=⟨[],[],[]⟩
def JP(t:An)(n:Ah):Int:=Cy (λy:A5=>y.ae==n) t.aj
def aU(t:An)(n:Ah):Int:=((t.aj[(JP t n).toNat]?).getD ⟨[],0,0⟩).bh
theorem zLi{t:An}{n:Ah}{x:A5}(h:Ku t n x):aU t n=x.bh:=by unfold aU JP;rw[(sA h.at_).2.1];rfl
theorem sB{t:An}{n:Ah}(h:EY t n=true):∃x,Ku t n x/\aU t n=x.bh/\0<=x.bh/\x.bh<=3/\Eu t=true:=by
 obtain⟨x,hx,_⟩:=tI h;have hg:Eu t=true:=by unfold EY at h;simp only[Ac]at h;exact h.1
 have:=(zNj hg).pq x (zLL hx.at_);exact⟨x,hx,zLi hx,this.1,this.2,hg⟩
theorem zJz{xs ys:List An}(h:∀t∈xs,D3 t)(hl:xs.length<=2000000):∃r,bP xs ys (λa b=>OO a b)=some r/\(r=true↔xs=ys):=by
 unfold bP;by_cases h3:((xs.length:Int) !=(ys.length:Int))=true
 ·rw[if_pos h3];exact⟨_,rfl,by simp,λh=>by rw[h]at h3;simp at h3⟩
 ·rw[if_neg h3];have U6:xs.length=ys.length:=by
   have:(xs.length:Int)=ys.length:=by simpa using h3
   omega
  rw[lD (xs:=xs) (ys:=ys) U6 LF false (some true) ?_ ?_]
  ·have z1:=Zg (p:=LF) (f:=id) (λx y=>ZU) U6;rw[List.map_id,List.map_id]at z1;rw[<-z1];cases((xs.zip ys).all λz=>LF z.1 z.2)<;>exact⟨_,rfl,by simp⟩
  ·intro i CR JG;show Xm xs ys (λa b=>OO a b) i=_;unfold Xm;rw[if_pos (by simpa using CR),Av CR,Aa,Av JG,Aa,BE CR (by omega)];dsimp only;rw[zLK (h _ (Au CR)),Aa];cases LF xs[i] ys[i]<;>rfl
  ·show Xm xs ys (λa b=>OO a b) xs.length=_;unfold Xm;rw[if_neg (by simp)]
theorem Uh{α:Type}{xs ys:List α}(p:α->α->Bool)(hp:∀x y,p x y=true↔x=y)(hl:xs.length=ys.length){body:Int->Option (Int ⊕ Option Bool)}
  (hs:∀(i:Nat) (hi:i<xs.length) (hj:i<ys.length),body i=some (if p xs[i] ys[i]=true then .inl ((i+1:Nat):Int)else .inr (some false))) (he:body xs.length=some (.inr (some true))):∃r,Ao body 0=some r/\(r=true↔xs=ys):=by
 rw[lD hl p false (some true) hs he];have z1:=Zg (p:=p) (f:=id) (λx y=>hp x y) hl;rw[List.map_id,List.map_id]at z1;rw[<-z1];cases((xs.zip ys).all λz=>p z.1 z.2)<;>exact⟨_,rfl,by simp⟩
theorem zMO{xs ys:List Ah}(hl:xs.length<=2000000):∃r,fX xs ys=some r/\(r=true↔xs=ys):=by
 unfold fX;by_cases h:((xs.length:Int) !=(ys.length:Int))=true
 ·rw[if_pos h];exact⟨_,rfl,by simp,λe=>by rw[e]at h;simp at h⟩
 ·rw[if_neg h];have h':xs.length=ys.length:=by
   have:(xs.length:Int)=ys.length:=by simpa using h
   omega
  refine Uh (λx y=>x==y) (by simp) h' (λi hi hj=> ?_) ?_
  ·show XI xs ys i=_;unfold XI;rw[if_pos (by simpa using hi),Av hi,Aa,Av hj,Aa,BE hi (by omega)];by_cases hq:xs[i]=ys[i]
   ·rw[if_neg (by simp[hq]),if_pos (by simpa using hq)]
   ·rw[if_pos (by simpa using hq),if_neg (by simpa using hq)]
  ·show XI xs ys xs.length=_;unfold XI;rw[if_neg (by simp)]
theorem zMf{a b:An}(ha:D3 a):XB a b=some (LF a b):=by
 have key:∃r,XB a b=some r/\(r=true↔a=b):=by
  unfold XB;by_cases h1:(a.ae !=b.ae)=true
  ·rw[if_pos h1];exact⟨_,rfl,by simp,λh=>by rw[h]at h1;simp at h1⟩
  rw[if_neg h1];have IS:a.ae=b.ae:=by simpa using h1
  obtain⟨r,e,f⟩:=zMO (ys:=b.bd) ha.ji;rw[e,Aa];by_cases h2:((!r)||((a.aj.length:Int) !=(b.aj.length:Int)))=true
  ·rw[if_pos h2];refine⟨_,rfl,by simp,λh=> ?_⟩;have:=f.2 (by rw[h]);rw[this,h]at h2;simp at h2
  rw[if_neg h2];simp only[Bool.or_eq_true,Bk,bne_iff_ne,ne_eq,not_or,Bool.not_eq_false,Decidable.not_not,Int.natCast_inj]at h2;have hi:=ha.idxs;obtain⟨q,e2,f2⟩:=Uh (xs:=a.aj) (ys:=b.aj) (body:=λs:Int=>SC a b s) (λx y=>x.ae==y.ae&&(x.dk==y.dk&&(x.bh==y.bh))) (λx y=>by
   simp only[Ac,Az];constructor
   ·rintro⟨k1,k2,k3⟩;exact rX (by simp[nc,k1,k2]) k3
   ·rintro rfl;simp) h2.2 (λi hi hj=>by
    show SC a b i=_;unfold SC;rw[if_pos (by simpa using hi),Av hi,Aa,Av hj,Aa,BE hi (by omega)];cases(a.aj[i].ae==b.aj[i].ae&&(a.aj[i].dk==b.aj[i].dk&&(a.aj[i].bh==b.aj[i].bh)))<;>rfl) (by
    show SC a b a.aj.length=_;unfold SC;rw[if_neg (by simp)])
  exact⟨q,e2,f2.trans ⟨λh=>zwo IS (f.1 h2.1) h,λh=>by rw[h]⟩⟩
 obtain⟨r,e,f⟩:=key;rw[e];congr 1;rw[Bool.eq_iff_iff,f,ZU]
theorem zCX(t:An)(k c:Int)(j:Nat):∃s,((GF t k c).aj[j]?).getD ⟨[],0,0⟩={((t.aj[j]?).getD ⟨[],0,0⟩)with bh:=s}/\(s=((t.aj[j]?).getD ⟨[],0,0⟩).bh\/s=c):=by
 unfold GF;simp only;rw[List.getElem?_set];by_cases h:k.toNat=j
 ·subst h;rw[if_pos rfl];by_cases hl:k.toNat<t.aj.length
  ·rw[if_pos hl];exact⟨c,rfl, .inr rfl⟩
  ·rw[if_neg hl,List.getElem?_eq_none (by omega)];exact⟨0,rfl, .inl rfl⟩
 ·rw[if_neg h];exact⟨_,rfl, .inl rfl⟩
theorem zHC{t:An}{k c:Int}(h:Eu t=true)(h0:0<=c)(h3:c<=3):Eu (GF t k c)=true:=by
 unfold Eu at h ⊢;have hl:(GF t k c).aj.length=t.aj.length:=List.length_set;simp only[Ac]at h ⊢;refine⟨⟨h.1.1,by rw[hl];exact h.1.2⟩,?_⟩;rw[hl,Bd];intro i hi;have h1:=Bd.1 h.2 i hi;unfold Jl at h1 ⊢;obtain⟨s,e,hs⟩:=zCX t k c i;obtain⟨s',e',_⟩:=zCX t k c (i-1);simp only[e,e'];simp only[Ac]at h1 ⊢;refine⟨⟨h1.1.1,?_⟩,h1.2⟩;rcases hs with hs|hs
 ·rw[hs];exact h1.1.2
 ·rw[hs];exact DV.2 ⟨h0,h3⟩
theorem zKI{t:An}{n:Ah}{k a b:Int}(h:EY t n=true)(Pw:0<=a)(Vh:a<=3)(C6:0<=b)(GK:b<=3):∀w∈G4 t k a b,EY w n=true:=by
 intro w hw;unfold G4 at hw;rcases Ag.1 hw with rfl|hw
 ·exact h
 obtain⟨c,hc,rfl⟩:=List.mem_map.1 hw;obtain⟨c0,c3⟩:=rA 3 Pw Vh C6 GK c hc;unfold EY at h ⊢;rw[Ac]at h ⊢;exact⟨zHC h.1 c0 c3,by rw[zKh (zrW t k c)];exact h.2⟩
def w0(ws:List An):An:=(ws[0]?).getD noT
def L5(ws:List An)(n:Ah):Prop:=ws.length=4/\EY (w0 ws) n=true/\aU (w0 ws) n=0/\ws=G4 (w0 ws) (JP (w0 ws) n) 0 3
theorem zFV{ws:List An}{n:Ah}(h:L5 ws n):∀t∈ws,EY t n=true:=by intro t ht;obtain⟨_,h2,_,h4⟩:=h;rw[h4]at ht;exact zKI h2 (by omega) (by omega) (by omega) (by omega) t ht
theorem WB{ws:List An}(h:ws.length=4):Ak ws 0=some (w0 ws)/\w0 ws∈ws:=by
 match ws,h with
 |t::_,_=>exact⟨rfl,by simp[w0]⟩
theorem zLG{ws:List An}{n:Ah}(h:∀t∈ws,D3 t):∃r,fZ ws n=some r/\(r=true↔L5 ws n):=by
 unfold fZ;by_cases h4:ws.length=4
 ·obtain⟨g,hm⟩:=WB h4;have hS:=h _ hm;rw[if_pos (by simp[h4]),g,Aa,zOj hS,Aa];by_cases hh:EY (w0 ws) n=true
  ·obtain⟨x,hx,FI,EU,pQ,hg⟩:=sB hh;have hi:M9 (w0 ws) n=some x:=by
    unfold M9;rw[WD hS,Aa,hx.at_];rfl
   rw[if_pos hh,hi,Aa];by_cases hs:x.bh=0
   ·rw[if_pos (by simpa using hs),zPN hS hx EU pQ (by omega) (by omega),Aa];obtain⟨r,e,f⟩:=zJz (xs:=ws) (ys:=G4 (w0 ws) (JP (w0 ws) n) x.bh 3) h (by omega);refine⟨r,(zNI e).trans rfl,?_⟩;rw[f,hs];exact⟨λk=>⟨h4,hh,by omega,k⟩,λk=>k.2.2.2⟩
   ·rw[if_neg (by simpa using hs)];exact⟨_,rfl,by simp,λk=>absurd (FI.symm.trans k.2.2.1) hs⟩
  ·rw[if_neg hh];exact⟨_,rfl,by simp,λk=>absurd k.2.1 hh⟩
 ·rw[if_neg (by simp;omega)];exact⟨_,rfl,by simp,λk=>absurd k.1 h4⟩
theorem rB{t:An}{n:Ah}(hS:D3 t):∃r,T6 t n=some r/\r.2=EY t n/\(EY t n=true->Ku t n r.1):=by
 unfold T6;rw[UQ hS,Aa,Uu hS,Aa];by_cases hh:EY t n=true
 ·obtain⟨x,hx,_⟩:=tI hh;have Gc:=hh;unfold EY at Gc;simp only[Ac,AS]at Gc;rw[if_neg (by simp only[Bool.or_eq_true,Bk,AS,not_or,Bool.not_eq_false];exact⟨Gc.1,by omega⟩),hx.at_,Aa];exact⟨_,rfl,hh.symm,λ_=>hx⟩
 ·have Gc:=hh;unfold EY at Gc;simp only[Ac,AS,not_and]at Gc;rw[if_pos (by
   simp only[Bool.or_eq_true,Bk,AS];cases hg:Eu t with
   |false=>exact .inl rfl
   |true=>exact .inr (by have:=Gc hg;omega))]
  exact⟨_,rfl,by simpa using hh,λk=>absurd k hh⟩
theorem zLv{ws:List An}{n:Ah}(h:∀t∈ws,D3 t):∃r,gP ws n=some r/\(r=true↔L5 ws n):=by
 unfold gP;by_cases h4:ws.length=4
 ·obtain⟨g,hm⟩:=WB h4;have hS:=h _ hm;rw[if_neg (by simp[h4]),g,Aa,Uu hS,Aa];by_cases hg:Eu (w0 ws)=true
  ·rw[if_neg (by simp[hg])];obtain⟨q,e1,f1,f2⟩:=rB (n:=n) hS;rw[e1,Aa];by_cases hh:EY (w0 ws) n=true
   ·obtain⟨x,hx,FI,EU,pQ,_⟩:=sB hh;have hq:q.1=x:=by
     have h1:=(f2 hh).at_;rw[hx.at_]at h1;exact(Option.some.inj h1).symm
    have hw:T2 (w0 ws) n 3=some (G4 (w0 ws) (JP (w0 ws) n) x.bh 3,true):=by
     have ha:TM (w0 ws) n 3=some true:=by unfold TM;have Gc:=hh;unfold EY at Gc;simp only[Ac,AS]at Gc;rw[Uu hS,Aa,if_pos hg,UQ hS,Aa,if_pos (by simpa using Gc.2),ER];rfl
     unfold T2;rw[ha,Aa,if_neg (by simp),zPD hS hx EU pQ (by omega) (by omega)];rfl
    rw[hw,Aa,f1,hh,hq];by_cases hs:x.bh=0
    ·rw[hs];have hl:(G4 (w0 ws) (JP (w0 ws) n) 0 3).length=4:=rfl;have JN:=λw hw=>(zOH (t:=w0 ws) (k:=JP (w0 ws) n) (a:=0) (b:=3) hS (zNj hg) (by omega) (by omega) (by omega) (by omega) w hw).2.2;rw[if_neg (by simp[hl])];obtain⟨r,e,f⟩:=Uh (xs:=G4 (w0 ws) (JP (w0 ws) n) 0 3) (ys:=ws) (body:=λs:Int=>SO ws (G4 (w0 ws) (JP (w0 ws) n) 0 3,true) s) LF (λ_ _=>ZU) (hl.trans h4.symm) (λi hi hj=>by
      show SO ws (G4 (w0 ws) (JP (w0 ws) n) 0 3,true) i=_;unfold SO;rw[if_pos (by simpa using hi),Av hi,Aa,Av hj,Aa,zMf (JN _ (Au hi)),Aa,BE hi (by omega)];cases LF (G4 (w0 ws) (JP (w0 ws) n) 0 3)[i] ws[i]<;>rfl) (by
      show SO ws (G4 (w0 ws) (JP (w0 ws) n) 0 3,true) (G4 (w0 ws) (JP (w0 ws) n) 0 3).length=_;unfold SO;rw[if_neg (by simp)])
     refine⟨r,e,?_⟩;rw[f];exact⟨λk=>⟨h4,hh,by omega,k.symm⟩,λk=>k.2.2.2.symm⟩
    ·rw[if_pos (by simp[hs])];exact⟨_,rfl,by simp,λk=>absurd (FI.symm.trans k.2.2.1) hs⟩
   ·have hw:∃q,T2 (w0 ws) n 3=some q:=by
     have ha:TM (w0 ws) n 3=some false:=by unfold TM;have Gc:=hh;unfold EY at Gc;simp only[Ac,AS,not_and]at Gc;rw[Uu hS,Aa,if_pos hg,UQ hS,Aa,if_neg (by simpa using Gc hg)]
     unfold T2;rw[ha,Aa,if_pos (by simp)];exact⟨_,rfl⟩
    obtain⟨q2,hw⟩:=hw;rw[hw,Aa,f1,if_pos (by simp[hh])];exact⟨_,rfl,by simp,λk=>absurd k.2.1 hh⟩
  ·rw[if_pos (by simpa using hg)];refine⟨_,rfl,by simp,λk=> ?_⟩;have:=k.2.1;unfold EY at this;simp only[Ac]at this;exact absurd this.1 hg
 ·rw[if_pos (by simp;omega)];exact⟨_,rfl,by simp,λk=>absurd k.1 h4⟩
theorem zOL{a:Cu}(h:UO a):fU a=Ye a:=by
 unfold fU Ye;have h1:=h.1.1;have h2:=h.2.1;rw[Cv (by omega) (by omega)];cases(a.ah==0)
 ·rfl
 congr 1;rw[Bool.eq_iff_iff];simp only[Bool.true_and,Ac,Az];omega
theorem zDI{α β:Type}{f:α->List β}(hf:∀x,(f x).length<=2):∀(xs:List α) (a:List β),(xs.foldl (λa x=>a++f x) a).length<=a.length+2*xs.length
 | [],a=>by simp
 |x::xs,a=>by have h1:=zDI hf xs (a++f x);have h2:=hf x;rw[Aq]at h1;rw[List.foldl_cons,AE];omega
theorem zMH{ws:List An}{n:Ah}{j:Dc}(hg:L5 ws n)(h:∀t∈ws,D3 t)(hn:n.length<=2000000)(hA:UO j.fAct)(hR:Small j.fRow.bb):∃ops b,iV ws n j=some (ops,b)/\jY ws j=some b/\(b=true->X8 ws n j=some ops)/\ops.length<=100:=by
 unfold iV jY;rw[ER,Fm,Aa,Aa];cases hv:Aw j.gh 0 3 with
 |false=>exact⟨_,_,rfl,rfl,(λe=>by cases e),by simp⟩
 |true=>
  have Dl:=DV.1 hv;have hl:=hg.1;obtain⟨t,gt,hm,_⟩:=sQ (xs:=ws) (i:=j.gh) Dl.1 (by omega);have hS:=h t hm;have hI:=zFV hg t hm;obtain⟨x,hx,_,_,_,MC⟩:=sB hI;have hc:=qY MC;simp only[Bool.not_true,A6,if_false,gt,Aa];cases hf:j.gz with
  |true=>
   simp only[if_true];by_cases h2:j.gh<2
   ·rw[if_pos (by simpa using h2),if_neg (by simp;omega)];exact⟨_,_,rfl,rfl,(λe=>by cases e),by simp⟩
   ·rw[if_neg (by simpa using h2),if_pos (by simp;omega),zOL hA];unfold Ye;cases hb:(((j.fAct.ah==0)&&((j.fAct.cw.bb.length:Int)==0))&&((j.fAct.c9.bb.length:Int)==0))with
    |false=>exact⟨_,_,rfl,rfl,(λe=>by cases e),by simp⟩
    |true=>
     obtain⟨q,e3,f3,f4⟩:=rB (n:=n) hS;have hq:q.1=x:=by have h1:=(f4 hI).at_;rw[hx.at_]at h1;exact(Option.some.inj h1).symm
     unfold zop X8;simp only[Aa,Bool.not_true,A6,if_false,if_true,e3,f3,hI,Yq hR,Yo hR,hf,gt];cases hr:HQ t j.fRow with
     |false=>exact⟨_,_,rfl,rfl,(λe=>by cases e),by simp⟩
     |true=>have B9:=ND hR hr;unfold zou vH;have D9:t.ae.length<=2000000:=hS.name;simp only[hq,Z7 D9 hR (NC (by omega) B9),Zb D9 hR (NC (by omega) B9),rH D9 hn hx B9,qC hS hn hx B9,Aa,Bool.not_true,A6,if_false];exact⟨_,_,rfl,rfl,λ_=>rfl,by simp⟩
  |false=>
   simp only[A6,if_false];unfold zpu zY X8;simp only[Uu hS,MC,zGP (t:=t) (a:=j.fAct) (by omega) hA,zGA (t:=t) (a:=j.fAct) (by omega) hA,Aa,if_true,hf,gt,A6,if_false];by_cases hz:j.fRow.bb.length=0
   ·rw[if_neg (by simp[hz])];cases ha:Q9 t j.fAct with
    |false=>exact⟨_,_,rfl,rfl,(λe=>by cases e),by simp⟩
    |true=>
     have hai:=zP3 hA ha;have hol:(aP t j.fAct).length<=100:=by have h1:=zDI (zuw t j.fAct) t.aj (Np t j.fAct);rw[zsr]at h1;show(t.aj.foldl (λo x=>o++Ph t j.fAct x) (Np t j.fAct)).length<=100;omega
     simp only[zQk hS MC hai,zPV hS MC hai,Aa,Bool.not_true,A6,if_false,hz,Bool.true_and];exact⟨_,_,rfl,rfl,λ_=>rfl,hol⟩
   ·rw[if_pos (by simp;omega),show((j.fRow.bb.length:Int)==0)=false by simpa using hz];simp only[Bool.and_false];exact⟨_,_,rfl,rfl,(λe=>by cases e),by simp⟩
structure zGs(j:Dc):Prop where
 act:UO j.fAct
 row:Small j.fRow.bb
structure O4(a:CI):Prop where
 name:a.ae.length<=2000000
 ways:∀t∈a.cq,D3 t
 since:a.bg.length<=2000000
 pn:a.cr.length<=2000000
 pr:∀j∈a.cr,zGs j
 world:Zf a.ao
def Gv(l:List Int)(i:Nat):Bool:=i==0||decide ((l[i-1]?).getD 0<=(l[i]?).getD 0)
def Um(l:List Int):Bool:=((l[0]?).getD 0==0)&&((l.all λx=>Aw x 0 100000)&&(List.range l.length).all (Gv l))
theorem zJ7{l:List Int}(h:l.length<=2000000)(hn:0<l.length):eZ l=some (Um l):=by
 unfold eZ;rw[F2 (n:=l.length) (body:=λs:Int=>S2 l s) (λi=>(decide (i≠0)||((l[0]?).getD 0==0))&&(Aw ((l[i]?).getD 0) 0 100000&&Gv l i)) false (some true) ?_ (by show S2 l l.length=_;unfold S2;rw[if_neg (by simp)])]
 ·have e:(List.range l.length).all (λi=>(decide (i≠0)||((l[0]?).getD 0==0))&&(Aw ((l[i]?).getD 0) 0 100000&&Gv l i))=Um l:=by
   have e2:(List.range l.length).all (λi=>Aw ((l[i]?).getD 0) 0 100000&&Gv l i)=((l.all λx=>Aw x 0 100000)&&(List.range l.length).all (Gv l)):=UN l (λx=>Aw x 0 100000) (Gv l) _ λi hi=>by simp[hi]
   rw[zDk,e2];unfold Um;congr 1;rw[Bool.eq_iff_iff];simp only[Bd,List.mem_range,Bool.or_eq_true,AS];constructor
   ·intro k;rcases k 0 hn with k|k
    ·exact absurd rfl k
    ·exact k
   ·intro k i _;exact .inr k
  rw[e];cases Um l<;>rfl
 ·intro i hi;show S2 l i=_;simp only[S2,Int.ofNat_lt,hi,decide_true,if_true,Av hi,Aa,YQ,BE hi (by omega:l.length<=_),AM hi,Be,Gv,AM hn];by_cases h0:i=0
  ·subst h0;cases Aw l[0] 0 100000<;>cases hz:(l[0]==0)<;>simp[bne,hz]
  ·have hp:(i:Int)>0:=by omega
   have CR:i-1<l.length:=by omega
   have hb:(i==0)=false:=by simpa using h0
   have hq:((i:Int)==0)=false:=by simp;omega
   have hd:decide (l[i]<l[i-1])= !decide (l[i-1]<=l[i]):=by
    by_cases hx:l[i-1]<=l[i]
    ·rw[decide_eq_true hx,decide_eq_false (by omega)];rfl
    ·rw[decide_eq_false hx,decide_eq_true (by omega)];rfl
   simp only[hp,hq,decide_true,if_true,JV (Nat.pos_of_ne_zero h0) (by omega:i<=2000000),Av CR,Aa,AM CR,Be,hb,Bool.false_or,hd,ne_eq,h0,not_false_eq_true,Bool.true_or,Bool.true_and];cases Aw l[i] 0 100000<;>cases decide (l[i-1]<=l[i])<;>rfl
theorem zOn{a:CI}(h:a.bg.length<=2000000)(hn:0<a.bg.length):Ao (λs:Int=>LY a s) 1=if(List.range a.bg.length).all (Gv a.bg)=true then M8 a else some false:=by
 classical
 have key:∀(n q:Nat),q+n=a.bg.length->1<=q->Ao (λs:Int=>LY a s) (q:Int)=if(∀i,q<=i->i<a.bg.length->Gv a.bg i=true)then M8 a else some false:=by
  intro n
  induction n with
  |zero=>
   intro q hq h1;have e:LY a (q:Int)=some (.inr (M8 a)):=by unfold LY;rw[if_neg (by simp;omega)]
   rw[Nf (body:=λs:Int=>LY a s) e,if_pos (λi h1 h2=>by omega)]
  |succ n ih=>
   intro q hq h1;have hi:q<a.bg.length:=by omega
   have CR:q-1<a.bg.length:=by omega
   have e:LY a (q:Int)=some (if Gv a.bg q=true then .inl ((q+1:Nat):Int)else .inr (some false)):=by
    have hd:decide (a.bg[q]<a.bg[q-1])= !Gv a.bg q:=by
     unfold Gv;rw[show(q==0)=false by simp;omega,Bool.false_or,AM hi,AM CR,Be,Be];by_cases hx:a.bg[q-1]<=a.bg[q]
     ·rw[decide_eq_true hx,decide_eq_false (by omega)];rfl
     ·rw[decide_eq_false hx,decide_eq_true (by omega)];rfl
    unfold LY;rw[if_pos (by simpa using hi),Av hi,Aa,JV (by omega) (by omega),Av CR,Aa,BE hi (by omega),hd];cases Gv a.bg q<;>rfl
   cases hu:Gv a.bg q with
   |false=>rw[hu]at e;rw[Nf (body:=λs:Int=>LY a s) e,if_neg (λk=>by have:=k q (AF _) hi;rw[hu]at this;cases this)]
   |true=>
    rw[hu]at e;rw[Ul (body:=λs:Int=>LY a s) e,ih (q+1) (by omega) (by omega)];by_cases hk:∀i,q+1<=i->i<a.bg.length->Gv a.bg i=true
    ·rw[if_pos hk,if_pos (λi h1 h2=>by
      by_cases hq:i=q
      ·subst hq;exact hu
      ·exact hk i (by omega) h2)]
    ·rw[if_neg hk,if_neg (λk=>hk λi h1 h2=>k i (by omega) h2)]
 refine(key (a.bg.length-1) 1 (by omega) (AF _)).trans ?_;by_cases hk:∀i,1<=i->i<a.bg.length->Gv a.bg i=true
 ·rw[if_pos hk,if_pos];rw[Bd];intro i hi;by_cases hz:i=0
  ·subst hz;rfl
  ·exact hk i (by omega) (List.mem_range.1 hi)
 ·rw[if_neg hk,if_neg];intro k;rw[Bd]at k;exact hk λi _ h2=>k i (List.mem_range.2 h2)
def OI(x y:AL):Bool:=x.ah==y.ah&&(x.ab==y.ab&&(x.bf==y.bf&&(x.ie==y.ie)))
theorem zFw(x y:AL):OI x y=true↔x=y:=by
 unfold OI;simp only[Ac,Az];constructor
 ·rintro⟨h1,h2,h3,h4⟩;obtain⟨a,b,c,d⟩:=x;obtain⟨a',b',c',d'⟩:=y;dsimp only at h1 h2 h3 h4;rw[h1,h2,h3,h4]
 ·rintro rfl;simp
theorem zEx{xs ys:List AL}(h:xs.length<=2000000):∃r,dW xs ys=some r/\(r=true↔xs=ys):=by
 unfold dW;by_cases hl:xs.length=ys.length
 ·rw[if_neg (by simp[hl])];exact Uh OI zFw hl (body:=λs:Int=>Su xs ys s) (λi hi hj=>by
   show Su xs ys i=_;unfold Su;rw[if_pos (by simpa using hi),Av hi,Aa,Av hj,Aa,BE hi (by omega)];show(if(!OI xs[i] ys[i])=true then _ else _)=_;cases OI xs[i] ys[i]<;>rfl) (by
   show Su xs ys xs.length=_;unfold Su;rw[if_neg (by simp)])
 ·rw[if_pos (by simp;omega)];exact⟨_,rfl,by simp,λe=>absurd (congrArg List.length e) hl⟩
theorem zEJ{xs ys:List AL}(h:xs.length<=2000000):∃r,bR xs ys=some r/\(r=true↔xs=ys):=by
 unfold bR;by_cases hl:xs.length=ys.length
 ·rw[if_neg (by simp[hl])];exact Uh OI zFw hl (body:=λs:Int=>R7 xs ys s) (λi hi hj=>by
   show R7 xs ys i=_;unfold R7;rw[if_pos (by simpa using hi),Av hi,Aa,Av hj,Aa,BE hi (by omega)];show(if(!OI xs[i] ys[i])=true then _ else _)=_;cases OI xs[i] ys[i]<;>rfl) (by
   show R7 xs ys xs.length=_;unfold R7;rw[if_neg (by simp)])
 ·rw[if_pos (by simp;omega)];exact⟨_,rfl,by simp,λe=>absurd (congrArg List.length e) hl⟩
theorem zKp{a b:Bool}{P:Prop}(h1:a=true↔P)(h2:b=true↔P):a=b:=Bool.eq_iff_iff.2 (h1.trans h2.symm)
theorem zLj{a:CI}(h:O4 a)(hg:L5 a.cq a.ae)(ht:a.ao.cf.length=a.cr.length)(i:Nat)(hi:i<a.cr.length):∃b:Bool,Na a (i:Int)=some (if b=true then .inl ((i+1:Nat):Int)else .inr (some false))/\Kn a (i:Int)=some (if b=true then .inl ((i+1:Nat):Int)else .inr (some false)):=by
 have hj:=h.pr _ (Au hi);have Hn:i<a.ao.cf.length:=by omega
 have hn:=h.pn;obtain⟨ops,b,e1,e2,e3,e4⟩:=zMH hg h.ways h.name hj.act hj.row;unfold Na Kn;rw[if_pos (by simpa using hi),if_pos (by simpa using hi),Av hi,Aa,Aa,e1,e2,Aa,Aa,Av Hn,BE hi (by omega)];cases b with
 |false=>exact⟨false,rfl,rfl⟩
 |true=>have ho:=(h.world.o6 _ (Au Hn)).ops.1;obtain⟨r1,s1,f1⟩:=zEx (xs:=ops) (ys:=a.ao.cf[i].ef) (by omega);obtain⟨r2,s2,f2⟩:=zEJ (xs:=a.ao.cf[i].ef) (ys:=ops) ho;have hr:r2=r1:=zKp (f2.trans eq_comm) f1;subst hr;rw[if_pos rfl,if_pos rfl,Aa,Aa,s1,Aa,e3 rfl,Aa,s2,Aa];exact⟨r2,by cases r2<;>rfl,by cases r2<;>rfl⟩
noncomputable def MR(a:CI)(i:Nat):Bool:=match Kn a (i:Int)with|some (.inl _)=>true|_=>false
theorem zJo{a:CI}(h:O4 a)(hg:L5 a.cq a.ae)(ht:a.ao.cf.length=a.cr.length):∃r,Ao (λs:Int=>Na a s) 0=some r/\Ao (λs:Int=>Kn a s) 0=some r:=by
 have key:∀i,i<a.cr.length->Na a (i:Int)=some (if MR a i=true then .inl ((i+1:Nat):Int)else .inr (some false))/\Kn a (i:Int)=some (if MR a i=true then .inl ((i+1:Nat):Int)else .inr (some false)):=by
  intro i hi;obtain⟨b,e1,e2⟩:=zLj h hg ht i hi;have:MR a i=b:=by unfold MR;rw[e2];cases b<;>rfl
  rw[this];exact⟨e1,e2⟩
 refine⟨(List.range a.cr.length).all (MR a),?_,?_⟩
 ·rw[F2 (n:=a.cr.length) (body:=λs:Int=>Na a s) (MR a) false (some true) (λi hi=>(key i hi).1) (by
   show Na a a.cr.length=_;unfold Na;rw[if_neg (by simp)])]
  cases(List.range a.cr.length).all (MR a)<;>rfl
 ·rw[F2 (n:=a.cr.length) (body:=λs:Int=>Kn a s) (MR a) false (some true) (λi hi=>(key i hi).2) (by
   show Kn a a.cr.length=_;unfold Kn;rw[if_neg (by simp)])]
  cases(List.range a.cr.length).all (MR a)<;>rfl
theorem zH7{xs ys:List Ah}(h:xs.length<=2000000):∃r,M7 xs ys=some r/\(r=true↔xs=ys):=by
 unfold M7;by_cases hl:xs.length=ys.length
 ·rw[if_neg (by simp[hl])];exact Uh (λx y:Ah=>x==y) (λx y=>by simp) hl (body:=λs:Int=>LX xs ys s) (λi hi hj=>by
   show LX xs ys i=_;unfold LX;rw[if_pos (by simpa using hi),Av hi,Aa,Av hj,Aa,BE hi (by omega)];cases hq:(xs[i]==ys[i])<;>simp[bne,hq]) (by
   show LX xs ys xs.length=_;unfold LX;rw[if_neg (by simp)])
 ·rw[if_pos (by simp;omega)];exact⟨_,rfl,by simp,λe=>absurd (congrArg List.length e) hl⟩
theorem zHL{w:BA}(h:Ko w=true):(w.cf.length:Int)<=6:=by unfold Ko at h;simp only[Ac,AS]at h;exact h.2.2.2.2.2.2.2.2.2.2.2.2.2.1
def WH(a:CI):Prop:=a.ao.bq=[(w0 a.cq).ae++ [47]]/\a.ao.cf.length=a.cr.length/\a.ao.cc.length=0
theorem zP8{α:Type}{l:List α}(h:(l.length:Int)=1):∃k,l=[k]:=by
 match l,h with
 | [k],_=>exact⟨k,rfl⟩
 | [],h=>simp at h
 |_::_::_,h=>simp at h;omega
theorem zPm{a:CI}(h:O4 a)(hg:L5 a.cq a.ae)(hw:Ko a.ao=true):(WH a->M8 a=Ao (λs:Int=>Na a s) 0)/\(¬WH a->M8 a=some false):=by
 obtain⟨g0,m0⟩:=WB hg.1;have hnm:=(h.ways _ m0).name;have hq:((w0 a.cq).ae).length+(([47]:Ab)).length<=9223372036854775807:=by rw[AO];omega
 unfold M8;rw[zxz h.world,Aa,hw,if_pos rfl,g0];by_cases h1:(a.ao.bq.length:Int)=1
 ·obtain⟨k,hk⟩:=zP8 h1;have gc:Ak a.ao.bq 0=some k:=by rw[hk];rfl
  rw[if_neg (by simp[h1]),gc,Aa,Aa,AJ hq];refine⟨λhp=> ?_,λhp=> ?_⟩
  ·obtain⟨p1,p2,p3⟩:=hp;rw[hk]at p1;have p1:k=(w0 a.cq).ae++ [47]:=(List.cons.inj p1).1;rw[if_neg (by simp[p1,p2,p3])]
  ·rw[if_pos];by_cases q1:k=(w0 a.cq).ae++ [47]
   ·by_cases q2:a.ao.cf.length=a.cr.length
    ·have q3: ¬a.ao.cc.length=0:=λq3=>hp ⟨by rw[hk,q1],q2,q3⟩;have q4:decide ((a.ao.cc.length:Int)>0)=true:=by simp;omega
     rw[q4,Bool.or_true]
    ·have q4:((a.ao.cf.length:Int) !=(a.cr.length:Int))=true:=by simp;omega
     rw[q4,Bool.or_true,Bool.true_or]
   ·have q4:(k !=(w0 a.cq).ae++ [47])=true:=by simpa using q1
    rw[q4,Bool.true_or,Bool.true_or]
 ·rw[if_pos (by simpa using h1)];exact⟨λhp=>absurd (by rw[hp.1];rfl) h1,λ_=>rfl⟩
theorem zKT{a:CI}(h:O4 a)(hg:L5 a.cq a.ae):∃o,((Ak a.cq 0).bind λy5=>
      Ax ((y5.ae).length+(([47]:Ab)).length<=9223372036854775807)<|
      (M7 a.ao.bq ([(y5.ae++([47]:Ab))]:List (Ab))).bind λv6=>
      if(((!v6)||(decide ((a.ao.cc.length:Int)>0)))||((a.ao.cf.length:Int) !=(a.cr.length:Int)))then
       some false
      else
       Ao (λs:Int=>Kn a s) 0)=o/\(WH a->o=Ao (λs:Int=>Kn a s) 0)/\(¬WH a->o=some false):=by
 obtain⟨g0,m0⟩:=WB hg.1;have hnm:=(h.ways _ m0).name;have hq:((w0 a.cq).ae).length+(([47]:Ab)).length<=9223372036854775807:=by rw[AO];omega
 obtain⟨rc,c1,c2⟩:=zH7 (xs:=a.ao.bq) (ys:=[(w0 a.cq).ae++ [47]]) h.world.mn.1;rw[g0,Aa,AJ hq,c1,Aa];refine⟨_,rfl,λhp=> ?_,λhp=> ?_⟩
 ·obtain⟨p1,p2,p3⟩:=hp;have:rc=true:=c2.2 p1;rw[if_neg (by simp[this,p2,p3])]
 ·rw[if_pos];cases rc with
  |false=>rfl
  |true=>
   by_cases q2:a.ao.cf.length=a.cr.length
   ·have q3: ¬a.ao.cc.length=0:=λq3=>hp ⟨c2.1 rfl,q2,q3⟩;have q4:decide ((a.ao.cc.length:Int)>0)=true:=by simp;omega
    rw[q4,Bool.or_true,Bool.true_or]
   ·have q4:((a.ao.cf.length:Int) !=(a.cr.length:Int))=true:=by simp;omega
    rw[q4,Bool.or_true]
theorem zHo{a:CI}(h:O4 a)(hg:L5 a.cq a.ae):∃r,M8 a=some r/\(if((!true)||decide ((a.cr.length:Int)>6))=true then some false else(XK a.ao).bind λv4=>if v4=true then((Ak a.cq 0).bind λy5=>
      Ax ((y5.ae).length+(([47]:Ab)).length<=9223372036854775807)<|
      (M7 a.ao.bq ([(y5.ae++([47]:Ab))]:List (Ab))).bind λv6=>
      if(((!v6)||(decide ((a.ao.cc.length:Int)>0)))||((a.ao.cf.length:Int) !=(a.cr.length:Int)))then
       some false
      else
       Ao (λs:Int=>Kn a s) 0)else some false)=some r/\(r=true->Ko a.ao=true):=by
 obtain⟨o,eo,o1,o2⟩:=zKT h hg;rw[eo,zIW h.world,Aa];cases hw:Ko a.ao with
 |false=>
  refine⟨false,?_,?_,λh=>by cases h⟩
  ·unfold M8;rw[zxz h.world,Aa,hw];rfl
  ·split<;>rfl
 |true=>
  obtain⟨k1,k2⟩:=zPm h hg hw;have ht6:=zHL hw;by_cases hp:WH a
  ·obtain⟨r,j1,j2⟩:=zJo h hg hp.2.1;have hj:=hp.2.1;refine⟨r,(k1 hp).trans j1,?_,λ_=>rfl⟩;have q4:decide ((a.cr.length:Int)>6)=false:=by simp;omega
   rw[q4,if_neg (by simp),if_pos rfl,o1 hp,j2]
  ·refine⟨false,k2 hp,?_,λh=>by cases h⟩;rw[if_pos rfl,o2 hp];split<;>rfl
structure zQQ(a:CI):Prop where
 ways:L5 a.cq a.ae
 low:Aw a.fw 0 2=true
 len:(a.bg.length:Int)=a.fw+1
 since:∀x∈a.bg,Aw x 0 100000=true
 world:Ko a.ao=true
theorem zE5{a:CI}(h:O4 a):∃r,gE a=some r/\(fF a=some r/\(r=true->zQQ a)):=by
 obtain⟨x,e1,f1⟩:=zLv (n:=a.ae) h.ways;obtain⟨y,e2,f2⟩:=zLG (n:=a.ae) h.ways;have Gg:y=x:=zKp f2 f1;subst Gg;unfold gE fF;rw[e1,e2,Aa,Aa];cases y with
 |false=>exact⟨_,rfl,rfl,λh=>by cases h⟩
 |true=>
  have hg:=f1.1 rfl;rw[if_pos rfl,if_pos rfl,ER,Fm,Aa,Aa];cases PL:Aw a.fw 0 2 with
  |false=>exact⟨_,rfl,rfl,λh=>by cases h⟩
  |true=>
   have Ij:=DV.1 PL;have w:IntKind.i64.wrap (a.fw+1)=a.fw+1:=Cv (by omega) (by omega);rw[if_pos rfl,if_pos rfl,w];by_cases hs:(a.bg.length:Int)=a.fw+1
   ·have hn:0<a.bg.length:=by omega
    have hG:Um a.bg=((a.bg[0]==0)&&((a.bg.all λx=>Aw x 0 100000)&&(List.range a.bg.length).all (Gv a.bg))):=by unfold Um;rw[AM hn,Be]
    rw[if_neg (by simp[hs]),if_neg (by simp[hs]),show Ak a.bg 0=some a.bg[0]from Av hn,Aa,zJ7 h.since hn,Aa,rV h.since,zOn h.since hn,hG];cases hz:(a.bg[0]==0)with
    |false=>rw[if_pos (by simp[bne,hz]),if_pos (by simp)];exact⟨_,rfl,rfl,λh=>by cases h⟩
    |true=>
     rw[if_neg (by simp[bne,hz]),Aa];cases Cj:(a.bg.all λx=>Aw x 0 100000)with
     |false=>rw[if_pos (by simp),if_pos (by simp)];exact⟨_,rfl,rfl,λh=>by cases h⟩
     |true=>
      rw[if_neg (by simp)];cases(List.range a.bg.length).all (Gv a.bg)with
      |false=>rw[if_neg (by simp),if_pos (by simp)];exact⟨_,rfl,rfl,λh=>by cases h⟩
      |true=>obtain⟨r,t1,t2,t3⟩:=zHo h hg;rw[if_pos rfl,t1];exact⟨r,rfl,t2,λhr=>⟨hg,PL,hs,Bd.1 Cj,t3 hr⟩⟩
   ·rw[if_pos (by simpa using hs),if_pos (by simpa using hs)];exact⟨_,rfl,rfl,λh=>by cases h⟩
theorem I7{α:Type}{f:α->Option α}{d:α}{b:Int}{xs:List α}(hl:xs.length<=2000000)(h0:0<=b)(hb:b<=1000)(hx:∀x∈xs,f x=some x):toL f d b xs=some xs:=by
 unfold toL;have hq:(xs.length:Int)*b<=2000000*1000:=Int.mul_le_mul (by omega) hb h0 (by omega);rw[AJ (by omega)];exact tO (λi hi v hv=>by
  show Xa f xs i v=_;unfold Xa;rw[if_pos (by simpa using hi),Av hi,Aa,hx _ (Au hi),Aa,Av (by omega),Aa,BE hi (by omega)];rfl) (λv=>by
  show Xa f xs _ v=_;unfold Xa;rw[if_neg (by simp)])
theorem I8{α:Type}{f:α->α->Option Bool}{xs:List α}(hl:xs.length<=2000000)(hx:∀x∈xs,f x x=some true):Hj f xs xs=some true:=by
 unfold Hj;rw[if_neg (by simp)];exact tK (n:=xs.length) (λi hi=>by
  show Xg f xs xs i=_;unfold Xg;rw[if_pos (by simpa using hi),Av hi,Aa,Aa,hx _ (Au hi),Aa,if_neg (by simp),BE hi (by omega)]) (by
  show Xg f xs xs _=_;unfold Xg;rw[if_neg (by simp)])
theorem JR{α:Type}{f:α->Int->Option Int}{tot:α->Nat}{xs:List α}{a:Int}(h0:0<=a)(h1:a<=1048576)(hl:xs.length<=9223372036854775807)(hx:∀x∈xs,∀b:Int,0<=b->b<=1048576-> ∃r,f x b=some r/\r<=b/\(0<=r->(tot x:Int)=b-r)):∃v,It f xs a=some v/\v<=a/\(0<=v->((xs.length+(xs.map tot).sum:Nat):Int)=a-v):=by
 unfold It;rw[IF h0 h1 hl];by_cases h2:a-(xs.length:Int)<0
 ·rw[if_pos (by simpa using h2)];exact⟨-1,rfl,by omega,by omega⟩
 ·rw[if_neg (by simpa using h2)];obtain⟨v,e1,e2,e3⟩:=szL (xs:=xs) (body:=λs:Int × Int=>RY f xs s.1 s.2) tot (a:=a-xs.length) (by omega) (by omega) (λx hxm b C6 CF=>by
   obtain⟨r,e1,e2,e3⟩:=hx x hxm b C6 CF;refine⟨r,e2,e3,λi hi=> ?_⟩;have B8:=(List.getElem?_eq_some_iff.1 hi).1;show RY f xs b i=_;unfold RY;rw[if_pos (by simpa using B8),show Ak xs (i:Int)=some x by simpa[Ak]using hi,Aa,e1,Aa,BE B8 (by omega)];by_cases h3:r<0
   ·rw[if_pos (by simpa using h3),if_pos h3]
   ·rw[if_neg (by simpa using h3),if_neg h3]) (λb=>by
   show RY f xs b _=_;unfold RY;rw[if_neg (by simp)])
  exact⟨v,e1,by omega,λhv=>by have:=e3 hv;omega⟩
theorem uP{k:Int}(h:0<=k):decide (k<0)=false:=by simp;omega
theorem zIs{α:Type}(tot:α->Nat){mb:Int × Int × List α->Option ((Int × Int × List α) ⊕ Option (Int × List α))}{hb:List α->Int × Int->Option ((Int × Int) ⊕ Option Int)}{B:Int}{xs:List α}{k:Int}{T:Nat}(h0:0<=k)(hT:xs.length+(xs.map tot).sum<=T)(hB:k+64*(T:Int)<=B)
  (hs:∀x∈xs,∀k:Int,0<=k->k+64*(1+(tot x:Int))<=B-> ∃(y:α) (k':Int),k<=k'/\k'<=k+64*(1+(tot x:Int))/\(∀(i:Nat) (v:List α),v[i]?=some x->i<xs.length->mb (k,(i:Int),v)=some (.inl (k',(i:Int)+1,v.set i y)))/\ ∀(i:Nat) (ys:List α),ys[i]?=some y->i<xs.length->hb ys (k,(i:Int))=some (.inl (k',(i:Int)+1)))
  (he:∀k v,v.length=xs.length->mb (k,(xs.length:Int),v)=some (.inr (some (k,v)))) (hh:∀k ys,ys.length=xs.length->hb ys (k,(xs.length:Int))=some (.inr (some k))):
  ∃(ys:List α) (k':Int),k<=k'/\k'<=k+64*(T:Int)/\ys.length=xs.length/\Ao mb (k,0,xs)=some (k',ys)/\Ao (hb ys) (k,0)=some k':=by
 have key:∀(suf pre:List α) (k:Int),pre.length+suf.length=xs.length->(∀x∈suf,x∈xs)->0<=k->k+64*((suf.length+(suf.map tot).sum:Nat):Int)<=B->
   ∃(suf':List α) (k':Int),k<=k'/\k'<=k+64*((suf.length+(suf.map tot).sum:Nat):Int)/\suf'.length=suf.length/\Ao mb (k,(pre.length:Int),pre++suf)=some (k',pre++suf')/\Ao (hb (pre++suf')) (k,(pre.length:Int))=some k':=by
  intro suf
  induction suf with
  |nil=>
   intro pre k hl _ _ _;have BO:(pre.length:Int)=(xs.length:Int):=by simp at hl;omega
   have Ij:pre.length=xs.length:=by omega
   refine⟨[],k,by omega,by omega,rfl,?_,?_⟩
   ·rw[D2,BO,he _ _ (by simpa using Ij)]
   ·rw[D2,BO,hh _ _ (by simpa using Ij)]
  |cons x t ih=>
   intro pre k hl hm h0 Cd;rw[List.map_cons,List.sum_cons,AE]at Cd ⊢;obtain⟨y,k1,a1,b1,e1,e2⟩:=hs x (hm x (by simp)) k h0 (by omega);rw[AE]at hl;obtain⟨t',k2,a2,b2,f1,f2,f3⟩:=ih (pre++ [y]) k1 (by simp;omega) (λz hz=>hm z (by simp[hz])) (by omega) (by omega);have ea:pre++y::t'=pre++ [y]++t':=by simp
   have eb:(pre++x::t).set pre.length y=pre++ [y]++t:=by simp
   have ec:(((pre++ [y]).length:Nat):Int)=(pre.length:Int)+1:=by simp
   refine⟨y::t',k2,by omega,by omega,by simp[f1],?_,?_⟩
   ·rw[D2,e1 pre.length _ (by simp) (by omega),eb];show Ao mb (k1,(pre.length:Int)+1,pre++ [y]++t)=_;rw[<-ec,f2,ea]
   ·rw[D2,e2 pre.length _ (by simp) (by omega),ea];show Ao (hb (pre++ [y]++t')) (k1,(pre.length:Int)+1)=_;rw[<-ec,f3]
 obtain⟨ys,k',a,b,c,d,e⟩:=key xs [] k (by simp) (λ_ h=>h) h0 (by omega);exact⟨ys,k',a,by omega,c,by simpa using d,by simpa using e⟩
theorem IE{α:Type}(tot:α->Nat){mb:Int × Int × List α->Option ((Int × Int × List α) ⊕ Option (Int × List α))}{B:Int}{xs:List α}{k:Int}{T:Nat}(h0:0<=k)(hT:xs.length+(xs.map tot).sum<=T)(hB:k+64*(T:Int)<=B)
  (hs:∀x∈xs,∀k:Int,0<=k->k+64*(1+(tot x:Int))<=B-> ∃(y:α) (k':Int),k<=k'/\k'<=k+64*(1+(tot x:Int))/\ ∀(i:Nat) (v:List α),v[i]?=some x->i<xs.length->mb (k,(i:Int),v)=some (.inl (k',(i:Int)+1,v.set i y)))
  (he:∀k v,v.length=xs.length->mb (k,(xs.length:Int),v)=some (.inr (some (k,v)))):
  ∃(ys:List α) (k':Int),k<=k'/\k'<=k+64*(T:Int)/\ys.length=xs.length/\Ao mb (k,0,xs)=some (k',ys):=by
 have key:∀(suf pre:List α) (k:Int),pre.length+suf.length=xs.length->(∀x∈suf,x∈xs)->0<=k->k+64*((suf.length+(suf.map tot).sum:Nat):Int)<=B->
   ∃(suf':List α) (k':Int),k<=k'/\k'<=k+64*((suf.length+(suf.map tot).sum:Nat):Int)/\suf'.length=suf.length/\Ao mb (k,(pre.length:Int),pre++suf)=some (k',pre++suf'):=by
  intro suf
  induction suf with
  |nil=>
   intro pre k hl _ _ _;have BO:(pre.length:Int)=(xs.length:Int):=by simp at hl;omega
   have Ij:pre.length=xs.length:=by omega
   exact⟨[],k,by omega,by omega,rfl,by rw[D2,BO,he _ _ (by simpa using Ij)]⟩
  |cons x t ih=>
   intro pre k hl hm h0 Cd;rw[List.map_cons,List.sum_cons,AE]at Cd ⊢;obtain⟨y,k1,a1,b1,e1⟩:=hs x (hm x (by simp)) k h0 (by omega);rw[AE]at hl;obtain⟨t',k2,a2,b2,f1,f2⟩:=ih (pre++ [y]) k1 (by simp;omega) (λz hz=>hm z (by simp[hz])) (by omega) (by omega);have ea:pre++y::t'=pre++ [y]++t':=by simp
   have eb:(pre++x::t).set pre.length y=pre++ [y]++t:=by simp
   have ec:(((pre++ [y]).length:Nat):Int)=(pre.length:Int)+1:=by simp
   refine⟨y::t',k2,by omega,by omega,by simp[f1],?_⟩;rw[D2,e1 pre.length _ (by simp) (by omega),eb];show Ao mb (k1,(pre.length:Int)+1,pre++ [y]++t)=_;rw[<-ec,f2,ea]
 obtain⟨ys,k',a,b,c,d⟩:=key xs [] k (by simp) (λ_ h=>h) h0 (by omega);exact⟨ys,k',a,by omega,c,by simpa using d⟩
theorem Gw{α:Type}{xs:List α}{i:Nat}{x:α}(h:xs[i]?=some x):Ak xs (i:Int)=some x:=by simp[Ak,h]
noncomputable def mt(n:Int):Ab:=(Hw n).getD []
theorem O0{n:Int}(h:n<=4611686018427387904):Hw n=some (mt n):=by
 have key:∃t,Hw n=some t:=by
  unfold Hw;by_cases h0:n<=0
  ·rw[if_pos (by simpa using h0)];exact⟨_,rfl⟩
  ·rw[if_neg (by simpa using h0)];have go:∀(f:Nat) (n:Int) (s:Ab),n.toNat<=f->0<=n->n+s.length<=4611686018427387905-> ∃t,Ao (λs:Int × Ab=>OR s.1 s.2) (n,s)=some t:=by
    intro f;have stop:∀(n:Int) (s:Ab),¬n>0->s.length<=4611686018427387905->Ao (λs:Int × Ab=>OR s.1 s.2) (n,s)=some ([109]++s):=λn s hz hs=>by refine Nf (?_:OR n s=_);unfold OR;rw[if_neg (by simpa using hz)];unfold zn5;rw[AJ (by rw[AO];omega)]
    induction f with
    |zero=>intro n s hf hn hs;exact⟨_,stop n s (by omega) (by omega)⟩
    |succ f ih=>
     intro n s hf hn hs;by_cases hz:n>0
     ·have hd:Int.tdiv n 10<n/\0<=Int.tdiv n 10:=by
       rw[Int.tdiv_eq_ediv_of_nonneg hn];omega
      obtain⟨t,ht⟩:=ih (Int.tdiv n 10) ([(IntKind.u8.wrap (IntKind.i64.wrap ((48:Int)+(Int.tmod n 10))))].map (λn=>UInt8.ofNat n.toNat)++s) (by omega) (by omega) (by simp only[Aq,List.length_map,AO];omega);have e:OR n s=some (.inl (Int.tdiv n 10,[(IntKind.u8.wrap (IntKind.i64.wrap ((48:Int)+(Int.tmod n 10))))].map (λn=>UInt8.ofNat n.toNat)++s)):=by unfold OR;rw[if_pos (by simpa using hz),AJ (by simp),AJ (by rw[List.length_map,AO];omega),Cv (n:=Int.tdiv n 10) (by omega) (by omega)]
      exact⟨t,(Ul (body:=λs:Int × Ab=>OR s.1 s.2) e).trans ht⟩
     ·exact⟨_,stop n s hz (by omega)⟩
   exact go n.toNat n [] (AF _) (by omega) (by simp;omega)
 obtain⟨t,ht⟩:=key;rw[mt,ht];rfl
def DU(l:List (Ab)):Nat:=l.length+(l.map (λx:Ab=>x.length)).sum
theorem Ys{xs:List (Ab)}(h:DU xs<=2000000):OP xs=some xs:=by
 have hl:xs.length<=2000000:=by unfold DU at h;omega
 have hx:∀x∈xs,x.length<=2000000:=λx hx=>by have:=CW (tot:=(λx:Ab=>x.length)) hx;unfold DU at h;omega
 unfold OP;rw[AJ (by omega)];exact tO (λi hi v hv=>by
  show XC xs i v=_;unfold XC;rw[if_pos (by simpa using hi),Av hi,Aa,Av (by omega),Aa,BE hi (by omega)];rfl) (λv=>by
  show XC xs _ v=_;unfold XC;rw[if_neg (by simp)])
theorem Ue{xs:List (Ab)}(h:DU xs<=2000000):Ld xs xs=some true:=by
 have hl:xs.length<=2000000:=by unfold DU at h;omega
 have hx:∀x∈xs,x.length<=2000000:=λx hx=>by have:=CW (tot:=(λx:Ab=>x.length)) hx;unfold DU at h;omega
 unfold Ld;rw[if_neg (by simp)];exact tK (n:=xs.length) (λi hi=>by
  show Xy xs xs i=_;unfold Xy;rw[if_pos (by simpa using hi),Av hi,Aa,Aa,if_neg (by simp),BE hi (by omega)]) (by
  show Xy xs xs _=_;unfold Xy;rw[if_neg (by simp)])
theorem Yt{xs:List (Ab)}{a:Int}(h0:0<=a)(h1:a<=1048576)(h:(B5 F7) xs):∃v,ON xs a=some v/\v<=a/\(0<=v->(DU xs:Int)=a-v):=by
 have hl:xs.length<=9223372036854775807:=h.1;unfold ON DU;rw[IF h0 h1 hl];by_cases h2:a-(xs.length:Int)<0
 ·rw[if_pos (by simpa using h2)];exact⟨-1,rfl,by omega,by omega⟩
 ·rw[if_neg (by simpa using h2)];obtain⟨v,e1,e2,e3⟩:=szL (xs:=xs) (body:=λs:Int × Int=>Sp xs s.1 s.2) (λx:Ab=>x.length) (a:=a-xs.length) (by omega) (by omega) (λx hx b C6 CF=>by
   refine⟨b-(x.length:Int),by omega,λ_=>by show(x.length:Int)=_;omega,λi hi=> ?_⟩;have B8:=(List.getElem?_eq_some_iff.1 hi).1;show Sp xs b i=_;unfold Sp;rw[if_pos (by simpa using B8),Gw hi,Aa,IF C6 CF (h.2 _ hx),BE B8 (by omega)];by_cases h3:b-(x.length:Int)<0
   ·rw[if_pos (by simpa using h3),if_pos h3]
   ·rw[if_neg (by simpa using h3),if_neg h3]) (λb=>by
   show Sp xs b _=_;unfold Sp;rw[if_neg (by simp)])
  exact⟨v,e1,by omega,λhv=>by have:=e3 hv;omega⟩
theorem OX{xs:List (Ab)}{k:Int}(h0:0<=k)(hk:k+64*(DU xs:Int)<=4611686018427387904):∃(ys:List (Ab)) (k':Int),k<=k'/\k'<=k+64*(DU xs:Int)/\ys.length=xs.length/\LZ xs k=some (k',ys)/\dB ys k=some k':=by
 have hl:xs.length<=DU xs:=by unfold DU;omega
 refine zIs (λx:Ab=>x.length) (mb:=λs:Int × Int × List (Ab)=>SH s.1 s.2.1 s.2.2) (hb:=λys s=>SI ys s.1 s.2) h0 (by simp[DU]) hk (λx hx k h0 hB=> ?_) (λk v hv=> ?_) (λk ys hy=> ?_)
 ·have hB:k+64*(1+(x.length:Int))<=4611686018427387904:=hB;refine⟨?y,k+1,by omega,by omega,λi v hv hi=> ?_,λi ys hy hi=> ?_⟩
  rotate_left
  ·have B8:=(List.getElem?_eq_some_iff.1 hv).1;show SH k i v=_;unfold SH;rw[if_pos (by simpa using B8)];simp(disch:=omega) only[Gw hv,Cv,Bz,List.set_set,Aa,O0]<;>rfl
  ·have B8:=(List.getElem?_eq_some_iff.1 hy).1;show SI ys k i=_;unfold SI;rw[if_pos (by simpa using B8)];simp(disch:=omega) only[Gw hy,bne_self_eq_false,A6,if_false,uP,Cv,Bz,List.set_set,Aa,O0]<;>rfl
 ·show SH k _ v=_;unfold SH;rw[if_neg (by simp[hv])]
 ·show SI ys k _=_;unfold SI;rw[if_neg (by simp[hy])]
def HO(x:A5):Nat:=x.ae.length
theorem zPx{x:A5}(h:HO x<=2000000):zqk x=some x:=rfl
theorem zPT{x:A5}(h:HO x<=2000000):jW x x=some true:=by unfold jW;simp[]
theorem zQg{x:A5}{a:Int}(h0:0<=a)(h1:a<=1048576)(h:WQ x):∃v,jX x a=some v/\v<=a/\(0<=v->(HO x:Int)=a-v):=by
 unfold jX HO;rw[IF (a:=a) (by omega) (by omega) h.1];by_cases q0:a-(x.ae.length:Int)<0
 ·rw[if_pos (by simpa using q0)];exact⟨-1,rfl,by omega,by omega⟩
 rw[if_neg (by simpa using q0)];exact⟨(a-(x.ae.length:Int)),rfl,by omega,λ_=>by omega⟩
def IC(l:List A5):Nat:=l.length+(l.map HO).sum
theorem zNP{xs:List A5}(h:IC xs<=2000000):zpg xs=some xs:=by
 have hl:xs.length<=2000000:=by unfold IC at h;omega
 have hx:∀x∈xs,HO x<=2000000:=λx hx=>by have:=CW (tot:=HO) hx;unfold IC at h;omega
 exact I7 hl (by omega) (by omega) λx hm=>zPx (hx x hm)
theorem zOk{xs:List A5}(h:IC xs<=2000000):zpw xs xs=some true:=by
 have hl:xs.length<=2000000:=by unfold IC at h;omega
 have hx:∀x∈xs,HO x<=2000000:=λx hx=>by have:=CW (tot:=HO) hx;unfold IC at h;omega
 exact I8 hl λx hm=>zPT (hx x hm)
theorem zOm{xs:List A5}{a:Int}(h0:0<=a)(h1:a<=1048576)(h:(B5 WQ) xs):∃v,zpf xs a=some v/\v<=a/\(0<=v->(IC xs:Int)=a-v):=by have hl:xs.length<=9223372036854775807:=h.1;exact JR (tot:=HO) h0 h1 hl λx hx b C6 CF=>zQg (x:=x) C6 CF (h.2 _ hx)
theorem zJh{xs:List A5}{k:Int}(h0:0<=k)(hk:k+64*(IC xs:Int)<=4611686018427387904):∃(ys:List A5) (k':Int),k<=k'/\k'<=k+64*(IC xs:Int)/\ys.length=xs.length/\zH xs k=some (k',ys):=by
 have hl:xs.length<=IC xs:=by unfold IC;omega
 refine IE HO (mb:=λs:Int × Int × List A5=>Tb s.1 s.2.1 s.2.2) h0 (by simp[IC]) hk (λx hx k h0 hB=> ?_) (λk v hv=> ?_)
 ·have hT:HO x=x.ae.length:=rfl;refine⟨?y,k+1+1+1,by omega,by omega,λi v hv hi=> ?_⟩
  rotate_left
  ·have B8:=(List.getElem?_eq_some_iff.1 hv).1;show Tb k i v=_;unfold Tb;rw[if_pos (by simpa using B8)];simp(disch:=omega) only[Gw hv,Cv,Bz,List.set_set,Aa,O0]<;>rfl
 ·show Tb k _ v=_;unfold Tb;rw[if_neg (by simp[hv])]
def Gl(x:An):Nat:=x.ae.length+DU x.bd+IC x.aj
theorem zMw{x:An}(h:Gl x<=2000000):gW x=some x:=by unfold gW;simp only[Ys (xs:=x.bd) (by unfold Gl at h;omega),zNP (xs:=x.aj) (by unfold Gl at h;omega),Aa]
theorem zMQ{x:An}(h:Gl x<=2000000):gC x x=some true:=by unfold gC;simp[Ue (xs:=x.bd) (by unfold Gl at h;omega),zOk (xs:=x.aj) (by unfold Gl at h;omega)]
theorem zMJ{x:An}{a:Int}(h0:0<=a)(h1:a<=1048576)(h:Y5 x):∃v,gG x a=some v/\v<=a/\(0<=v->(Gl x:Int)=a-v):=by
 unfold gG Gl;rw[IF (a:=a) (by omega) (by omega) h.1];by_cases q0:a-(x.ae.length:Int)<0
 ·rw[if_pos (by simpa using q0)];exact⟨-1,rfl,by omega,by omega⟩
 rw[if_neg (by simpa using q0)];obtain⟨b1,e1,g1,r1⟩:=Yt (xs:=x.bd) (a:=(a-(x.ae.length:Int))) (by omega) (by omega) h.2.1;rw[e1,Aa];by_cases q1:b1<0
 ·rw[if_pos (by simpa using q1)];exact⟨-1,rfl,by omega,by omega⟩
 rw[if_neg (by simpa using q1)];have s1:=r1 (by omega);obtain⟨b2,e2,g2,r2⟩:=zOm (xs:=x.aj) (a:=b1) (by omega) (by omega) h.2.2;rw[e2,Aa];by_cases q2:b2<0
 ·rw[if_pos (by simpa using q2)];exact⟨-1,rfl,by omega,by omega⟩
 rw[if_neg (by simpa using q2)];have s2:=r2 (by omega);exact⟨b2,rfl,by omega,λ_=>by omega⟩
def Iy(l:List An):Nat:=l.length+(l.map Gl).sum
theorem zKe{xs:List An}(h:Iy xs<=2000000):zV xs=some xs:=by
 have hl:xs.length<=2000000:=by unfold Iy at h;omega
 have hx:∀x∈xs,Gl x<=2000000:=λx hx=>by have:=CW (tot:=Gl) hx;unfold Iy at h;omega
 exact I7 hl (by omega) (by omega) λx hm=>zMw (hx x hm)
theorem zKo{xs:List An}(h:Iy xs<=2000000):yS xs xs=some true:=by
 have hl:xs.length<=2000000:=by unfold Iy at h;omega
 have hx:∀x∈xs,Gl x<=2000000:=λx hx=>by have:=CW (tot:=Gl) hx;unfold Iy at h;omega
 exact I8 hl λx hm=>zMQ (hx x hm)
theorem zIZ{xs:List An}{a:Int}(h0:0<=a)(h1:a<=1048576)(h:(B5 Y5) xs):∃v,yU xs a=some v/\v<=a/\(0<=v->(Iy xs:Int)=a-v):=by have hl:xs.length<=9223372036854775807:=h.1;exact JR (tot:=Gl) h0 h1 hl λx hx b C6 CF=>zMJ (x:=x) C6 CF (h.2 _ hx)
theorem zEd{xs:List An}{k:Int}(h0:0<=k)(hk:k+64*(Iy xs:Int)<=4611686018427387904):∃(ys:List An) (k':Int),k<=k'/\k'<=k+64*(Iy xs:Int)/\ys.length=xs.length/\w7 xs k=some (k',ys):=by
 have hl:xs.length<=Iy xs:=by unfold Iy;omega
 refine IE Gl (mb:=λs:Int × Int × List An=>Ss s.1 s.2.1 s.2.2) h0 (by simp[Iy]) hk (λx hx k h0 hB=> ?_) (λk v hv=> ?_)
 ·have hT:Gl x=x.ae.length+DU x.bd+IC x.aj:=rfl;obtain⟨r0,k0,a0,b0, -,m0,g0⟩:=OX (xs:=x.bd) (k:=k+1) (by omega) (by omega);obtain⟨r1,k1,a1,b1, -,m1⟩:=zJh (xs:=x.aj) (k:=k0) (by omega) (by omega);refine⟨?y,k1,by omega,by omega,λi v hv hi=> ?_⟩
  rotate_left
  ·have B8:=(List.getElem?_eq_some_iff.1 hv).1;show Ss k i v=_;unfold Ss;rw[if_pos (by simpa using B8)];simp(disch:=omega) only[Gw hv,Cv,Bz,List.set_set,Aa,O0,m0,m1]<;>rfl
 ·show Ss k _ v=_;unfold Ss;rw[if_neg (by simp[hv])]
def Fz(l:List Int):Nat:=l.length
theorem sL{xs:List Int}(h:Fz xs<=2000000):T0 xs=some xs:=by
 have hl:xs.length<=2000000:=by unfold Fz at h;omega
 unfold T0;rw[AJ (by omega)];exact tO (λi hi v hv=>by
  show XR xs i v=_;unfold XR;rw[if_pos (by simpa using hi),Av hi,Aa,Av (by omega),Aa,BE hi (by omega)];rfl) (λv=>by
  show XR xs _ v=_;unfold XR;rw[if_neg (by simp)])
theorem sI{xs:List Int}(h:Fz xs<=2000000):TW xs xs=some true:=by
 have hl:xs.length<=2000000:=by unfold Fz at h;omega
 unfold TW;rw[if_neg (by simp)];exact tK (n:=xs.length) (λi hi=>by
  show XN xs xs i=_;unfold XN;rw[if_pos (by simpa using hi),Av hi,Aa,Aa,if_neg (by simp),BE hi (by omega)]) (by
  show XN xs xs _=_;unfold XN;rw[if_neg (by simp)])
theorem sW{xs:List Int}{a:Int}(h0:0<=a)(h1:a<=1048576)(h:(B5 Dt) xs):∃v,TX xs a=some v/\v<=a/\(0<=v->(Fz xs:Int)=a-v):=by
 have hl:xs.length<=9223372036854775807:=h.1;unfold TX Fz;rw[IF h0 h1 hl];by_cases h2:a-(xs.length:Int)<0
 ·rw[if_pos (by simpa using h2)];exact⟨-1,rfl,by omega,by omega⟩
 ·rw[if_neg (by simpa using h2)];exact⟨_,rfl,by omega,λ_=>by omega⟩
theorem zxm{xs:List Int}{k:Int}(h0:0<=k)(hk:k+64*(Fz xs:Int)<=4611686018427387904):∃(ys:List Int) (k':Int),k<=k'/\k'<=k+64*(Fz xs:Int)/\ys.length=xs.length/\X2 xs k=some (k',ys):=by
 have hl:xs.length<=Fz xs:=by unfold Fz;omega
 refine IE (λ_=>0) (mb:=λs:Int × Int × List Int=>S9 s.1 s.2.1 s.2.2) h0 (by rw[zDf];unfold Fz;omega) hk (λx hx k h0 hB=> ?_) (λk v hv=> ?_)
 ·refine⟨?y,k+1,by omega,by omega,λi v hv hi=> ?_⟩
  rotate_left
  ·have B8:=(List.getElem?_eq_some_iff.1 hv).1;show S9 k i v=_;unfold S9;rw[if_pos (by simpa using B8)];simp(disch:=omega) only[Gw hv,Cv,Bz,List.set_set,Aa]<;>rfl
 ·show S9 k _ v=_;unfold S9;rw[if_neg (by simp[hv])]
def L7(x:CD):Nat:=DU x.bb
theorem tJ{x:CD}(h:L7 x<=2000000):T1 x=some x:=by unfold T1;simp only[Ys (xs:=x.bb) (by unfold L7 at h;omega),Aa]
theorem tF{x:CD}(h:L7 x<=2000000):T3 x x=some true:=by unfold T3;simp[Ue (xs:=x.bb) (by unfold L7 at h;omega)]
theorem sZ{x:CD}{a:Int}(h0:0<=a)(h1:a<=1048576)(h:WN x):∃v,T5 x a=some v/\v<=a/\(0<=v->(L7 x:Int)=a-v):=by
 unfold T5 L7;obtain⟨b0,e0,g0,r0⟩:=Yt (xs:=x.bb) (a:=a) (by omega) (by omega) h;rw[e0,Aa];by_cases q0:b0<0
 ·rw[if_pos (by simpa using q0)];exact⟨-1,rfl,by omega,by omega⟩
 rw[if_neg (by simpa using q0)];have s0:=r0 (by omega);exact⟨b0,rfl,by omega,λ_=>by omega⟩
def L0(x:Cu):Nat:=L7 x.cw+L7 x.c9
theorem zHX{x:Cu}(h:L0 x<=2000000):fK x=some x:=by unfold fK;simp only[tJ (x:=x.cw) (by unfold L0 at h;omega),tJ (x:=x.c9) (by unfold L0 at h;omega),Aa]
theorem zJR{x:Cu}(h:L0 x<=2000000):fA x x=some true:=by unfold fA;simp[tF (x:=x.cw) (by unfold L0 at h;omega),tF (x:=x.c9) (by unfold L0 at h;omega)]
theorem zIa{x:Cu}{a:Int}(h0:0<=a)(h1:a<=1048576)(h:qX x):∃v,fI x a=some v/\v<=a/\(0<=v->(L0 x:Int)=a-v):=by
 unfold fI L0;obtain⟨b1,e1,g1,r1⟩:=sZ (x:=x.cw) (a:=a) (by omega) (by omega) h.2.1;rw[e1,Aa];by_cases q1:b1<0
 ·rw[if_pos (by simpa using q1)];exact⟨-1,rfl,by omega,by omega⟩
 rw[if_neg (by simpa using q1)];have s1:=r1 (by omega);obtain⟨b2,e2,g2,r2⟩:=sZ (x:=x.c9) (a:=b1) (by omega) (by omega) h.2.2;rw[e2,Aa];by_cases q2:b2<0
 ·rw[if_pos (by simpa using q2)];exact⟨-1,rfl,by omega,by omega⟩
 rw[if_neg (by simpa using q2)];have s2:=r2 (by omega);exact⟨b2,rfl,by omega,λ_=>by omega⟩
def Gk(x:Dc):Nat:=L0 x.fAct+L7 x.fRow
theorem zGw{x:Dc}(h:Gk x<=2000000):eJ x=some x:=by unfold eJ;simp only[zHX (x:=x.fAct) (by unfold Gk at h;omega),tJ (x:=x.fRow) (by unfold Gk at h;omega),Aa]
theorem zGX{x:Dc}(h:Gk x<=2000000):eW x x=some true:=by unfold eW;simp[zJR (x:=x.fAct) (by unfold Gk at h;omega),tF (x:=x.fRow) (by unfold Gk at h;omega)]
theorem zHz{x:Dc}{a:Int}(h0:0<=a)(h1:a<=1048576)(h:Yz x):∃v,eG x a=some v/\v<=a/\(0<=v->(Gk x:Int)=a-v):=by
 unfold eG Gk;obtain⟨b2,e2,g2,r2⟩:=zIa (x:=x.fAct) (a:=a) (by omega) (by omega) h.2.2.1;rw[e2,Aa];by_cases q2:b2<0
 ·rw[if_pos (by simpa using q2)];exact⟨-1,rfl,by omega,by omega⟩
 rw[if_neg (by simpa using q2)];have s2:=r2 (by omega);obtain⟨b3,e3,g3,r3⟩:=sZ (x:=x.fRow) (a:=b2) (by omega) (by omega) h.2.2.2;rw[e3,Aa];by_cases q3:b3<0
 ·rw[if_pos (by simpa using q3)];exact⟨-1,rfl,by omega,by omega⟩
 rw[if_neg (by simpa using q3)];have s3:=r3 (by omega);exact⟨b3,rfl,by omega,λ_=>by omega⟩
def Ix(l:List Dc):Nat:=l.length+(l.map Gk).sum
theorem zEw{xs:List Dc}(h:Ix xs<=2000000):xM xs=some xs:=by
 have hl:xs.length<=2000000:=by unfold Ix at h;omega
 have hx:∀x∈xs,Gk x<=2000000:=λx hx=>by have:=CW (tot:=Gk) hx;unfold Ix at h;omega
 exact I7 hl (by omega) (by omega) λx hm=>zGw (hx x hm)
theorem zEu{xs:List Dc}(h:Ix xs<=2000000):xZ xs xs=some true:=by
 have hl:xs.length<=2000000:=by unfold Ix at h;omega
 have hx:∀x∈xs,Gk x<=2000000:=λx hx=>by have:=CW (tot:=Gk) hx;unfold Ix at h;omega
 exact I8 hl λx hm=>zGX (hx x hm)
theorem zFg{xs:List Dc}{a:Int}(h0:0<=a)(h1:a<=1048576)(h:(B5 Yz) xs):∃v,xG xs a=some v/\v<=a/\(0<=v->(Ix xs:Int)=a-v):=by have hl:xs.length<=9223372036854775807:=h.1;exact JR (tot:=Gk) h0 h1 hl λx hx b C6 CF=>zHz (x:=x) C6 CF (h.2 _ hx)
theorem zCa{xs:List Dc}{k:Int}(h0:0<=k)(hk:k+64*(Ix xs:Int)<=4611686018427387904):∃(ys:List Dc) (k':Int),k<=k'/\k'<=k+64*(Ix xs:Int)/\ys.length=xs.length/\wI xs k=some (k',ys):=by
 have hl:xs.length<=Ix xs:=by unfold Ix;omega
 refine IE Gk (mb:=λs:Int × Int × List Dc=>SD s.1 s.2.1 s.2.2) h0 (by simp[Ix]) hk (λx hx k h0 hB=> ?_) (λk v hv=> ?_)
 ·have hT:Gk x=((DU x.fAct.cw.bb)+(DU x.fAct.c9.bb))+(DU x.fRow.bb):=rfl;obtain⟨r0,k0,a0,b0, -,m0,g0⟩:=OX (xs:=x.fAct.cw.bb) (k:=k+1+1+1) (by omega) (by omega);obtain⟨r1,k1,a1,b1, -,m1,g1⟩:=OX (xs:=x.fAct.c9.bb) (k:=k0) (by omega) (by omega);obtain⟨r2,k2,a2,b2, -,m2,g2⟩:=OX (xs:=x.fRow.bb) (k:=k1) (by omega) (by omega);refine⟨?y,k2,by omega,by omega,λi v hv hi=> ?_⟩
  rotate_left
  ·have B8:=(List.getElem?_eq_some_iff.1 hv).1;show SD k i v=_;unfold SD;rw[if_pos (by simpa using B8)];simp(disch:=omega) only[Gw hv,Cv,Bz,List.set_set,Aa,m0,m1,m2]<;>rfl
 ·show SD k _ v=_;unfold SD;rw[if_neg (by simp[hv])]
theorem zKM{x:DG}:z6 x=some x:=rfl
theorem zLT{x:DG}:gS x x=some true:=by unfold gS;simp[]
def HF(l:List DG):Nat:=l.length
theorem zJU{xs:List DG}(h:HF xs<=2000000):zM xs=some xs:=by
 have hl:xs.length<=2000000:=by unfold HF at h;omega
 exact I7 hl (by omega) (by omega) λx hm=>zKM
theorem zI4{xs:List DG}(h:HF xs<=2000000):yV xs xs=some true:=by
 have hl:xs.length<=2000000:=by unfold HF at h;omega
 exact I8 hl λx hm=>zLT
theorem zIt{xs:List DG}{a:Int}(h0:0<=a)(h1:a<=1048576)(h:(B5 Z6) xs):∃v,fE xs a=some v/\v<=a/\(0<=v->(HF xs:Int)=a-v):=by
 have hl:xs.length<=9223372036854775807:=h.1;unfold fE HF;rw[IF h0 h1 hl];by_cases h2:a-(xs.length:Int)<0
 ·rw[if_pos (by simpa using h2)];exact⟨-1,rfl,by omega,by omega⟩
 ·rw[if_neg (by simpa using h2)];exact⟨_,rfl,by omega,λ_=>by omega⟩
theorem zFb{xs:List DG}{k:Int}(h0:0<=k)(hk:k+64*(HF xs:Int)<=4611686018427387904):∃(ys:List DG) (k':Int),k<=k'/\k'<=k+64*(HF xs:Int)/\ys.length=xs.length/\xE xs k=some (k',ys):=by
 have hl:xs.length<=HF xs:=by unfold HF;omega
 refine IE (λ_=>0) (mb:=λs:Int × Int × List DG=>Sr s.1 s.2.1 s.2.2) h0 (by rw[zDf];unfold HF;omega) hk (λx hx k h0 hB=> ?_) (λk v hv=> ?_)
 ·refine⟨?y,k+1,by omega,by omega,λi v hv hi=> ?_⟩
  rotate_left
  ·have B8:=(List.getElem?_eq_some_iff.1 hv).1;show Sr k i v=_;unfold Sr;rw[if_pos (by simpa using B8)];simp(disch:=omega) only[Gw hv,Cv,Bz,List.set_set,Aa]<;>rfl
 ·show Sr k _ v=_;unfold Sr;rw[if_neg (by simp[hv])]
def Iz(x:Ai):Nat:=x.ab.length+x.bf.length
theorem zLs{x:Ai}(h:Iz x<=2000000):zos x=some x:=rfl
theorem zLc{x:Ai}(h:Iz x<=2000000):gM x x=some true:=by unfold gM;simp[]
theorem zLd{x:Ai}{a:Int}(h0:0<=a)(h1:a<=1048576)(h:Y2 x):∃v,hP x a=some v/\v<=a/\(0<=v->(Iz x:Int)=a-v):=by
 unfold hP Iz;rw[IF (a:=a) (by omega) (by omega) h.1];by_cases q0:a-(x.ab.length:Int)<0
 ·rw[if_pos (by simpa using q0)];exact⟨-1,rfl,by omega,by omega⟩
 rw[if_neg (by simpa using q0)];rw[IF (a:=(a-(x.ab.length:Int))) (by omega) (by omega) h.2.1];by_cases q1:(a-(x.ab.length:Int))-(x.bf.length:Int)<0
 ·rw[if_pos (by simpa using q1)];exact⟨-1,rfl,by omega,by omega⟩
 rw[if_neg (by simpa using q1)];exact⟨((a-(x.ab.length:Int))-(x.bf.length:Int)),rfl,by omega,λ_=>by omega⟩
def Hy(l:List Ai):Nat:=l.length+(l.map Iz).sum
theorem zIb{xs:List Ai}(h:Hy xs<=2000000):zT xs=some xs:=by
 have hl:xs.length<=2000000:=by unfold Hy at h;omega
 have hx:∀x∈xs,Iz x<=2000000:=λx hx=>by have:=CW (tot:=Iz) hx;unfold Hy at h;omega
 exact I7 hl (by omega) (by omega) λx hm=>zLs (hx x hm)
theorem zIf{xs:List Ai}(h:Hy xs<=2000000):zD xs xs=some true:=by
 have hl:xs.length<=2000000:=by unfold Hy at h;omega
 have hx:∀x∈xs,Iz x<=2000000:=λx hx=>by have:=CW (tot:=Iz) hx;unfold Hy at h;omega
 exact I8 hl λx hm=>zLc (hx x hm)
theorem zKd{xs:List Ai}{a:Int}(h0:0<=a)(h1:a<=1048576)(h:(B5 Y2) xs):∃v,zQ xs a=some v/\v<=a/\(0<=v->(Hy xs:Int)=a-v):=by have hl:xs.length<=9223372036854775807:=h.1;exact JR (tot:=Iz) h0 h1 hl λx hx b C6 CF=>zLd (x:=x) C6 CF (h.2 _ hx)
theorem zEs{xs:List Ai}{k:Int}(h0:0<=k)(hk:k+64*(Hy xs:Int)<=4611686018427387904):∃(ys:List Ai) (k':Int),k<=k'/\k'<=k+64*(Hy xs:Int)/\ys.length=xs.length/\yE xs k=some (k',ys):=by
 have hl:xs.length<=Hy xs:=by unfold Hy;omega
 refine IE Iz (mb:=λs:Int × Int × List Ai=>Sw s.1 s.2.1 s.2.2) h0 (by simp[Hy]) hk (λx hx k h0 hB=> ?_) (λk v hv=> ?_)
 ·have hT:Iz x=x.ab.length+x.bf.length:=rfl;refine⟨?y,k+1+1+1,by omega,by omega,λi v hv hi=> ?_⟩
  rotate_left
  ·have B8:=(List.getElem?_eq_some_iff.1 hv).1;show Sw k i v=_;unfold Sw;rw[if_pos (by simpa using B8)];simp(disch:=omega) only[Gw hv,Cv,Bz,List.set_set,Aa,O0]<;>rfl
 ·show Sw k _ v=_;unfold Sw;rw[if_neg (by simp[hv])]
def Lq(x:BG):Nat:=DU x.az+Hy x.af
theorem zPK{x:BG}(h:Lq x<=2000000):kC x=some x:=by unfold kC;simp only[Ys (xs:=x.az) (by unfold Lq at h;omega),zIb (xs:=x.af) (by unfold Lq at h;omega),Aa]
theorem zQi{x:BG}(h:Lq x<=2000000):jQ x x=some true:=by unfold jQ;simp[Ue (xs:=x.az) (by unfold Lq at h;omega),zIf (xs:=x.af) (by unfold Lq at h;omega)]
theorem zPp{x:BG}{a:Int}(h0:0<=a)(h1:a<=1048576)(h:tZ x):∃v,jN x a=some v/\v<=a/\(0<=v->(Lq x:Int)=a-v):=by
 unfold jN Lq;obtain⟨b4,e4,g4,r4⟩:=Yt (xs:=x.az) (a:=a) (by omega) (by omega) h.2.2.2.2.1;rw[e4,Aa];by_cases q4:b4<0
 ·rw[if_pos (by simpa using q4)];exact⟨-1,rfl,by omega,by omega⟩
 rw[if_neg (by simpa using q4)];have s4:=r4 (by omega);obtain⟨b5,e5,g5,r5⟩:=zKd (xs:=x.af) (a:=b4) (by omega) (by omega) h.2.2.2.2.2.1;rw[e5,Aa];by_cases q5:b5<0
 ·rw[if_pos (by simpa using q5)];exact⟨-1,rfl,by omega,by omega⟩
 rw[if_neg (by simpa using q5)];have s5:=r5 (by omega);exact⟨b5,rfl,by omega,λ_=>by omega⟩
def HG(x:Cb):Nat:=Lq x.fRec
theorem zMs{x:Cb}(h:HG x<=2000000):iF x=some x:=by unfold iF;simp only[zPK (x:=x.fRec) (by unfold HG at h;omega),Aa]
theorem zK3{x:Cb}(h:HG x<=2000000):iG x x=some true:=by unfold iG;simp[zQi (x:=x.fRec) (by unfold HG at h;omega)]
theorem zLW{x:Cb}{a:Int}(h0:0<=a)(h1:a<=1048576)(h:Zh x):∃v,gF x a=some v/\v<=a/\(0<=v->(HG x:Int)=a-v):=by
 unfold gF HG;obtain⟨b1,e1,g1,r1⟩:=zPp (x:=x.fRec) (a:=a) (by omega) (by omega) h.2;rw[e1,Aa];by_cases q1:b1<0
 ·rw[if_pos (by simpa using q1)];exact⟨-1,rfl,by omega,by omega⟩
 rw[if_neg (by simpa using q1)];have s1:=r1 (by omega);exact⟨b1,rfl,by omega,λ_=>by omega⟩
def HD(l:List Cb):Nat:=l.length+(l.map HG).sum
theorem zH9{xs:List Cb}(h:HD xs<=2000000):yT xs=some xs:=by
 have hl:xs.length<=2000000:=by unfold HD at h;omega
 have hx:∀x∈xs,HG x<=2000000:=λx hx=>by have:=CW (tot:=HG) hx;unfold HD at h;omega
 exact I7 hl (by omega) (by omega) λx hm=>zMs (hx x hm)
theorem zJx{xs:List Cb}(h:HD xs<=2000000):zL xs xs=some true:=by
 have hl:xs.length<=2000000:=by unfold HD at h;omega
 have hx:∀x∈xs,HG x<=2000000:=λx hx=>by have:=CW (tot:=HG) hx;unfold HD at h;omega
 exact I8 hl λx hm=>zK3 (hx x hm)
theorem zIA{xs:List Cb}{a:Int}(h0:0<=a)(h1:a<=1048576)(h:(B5 Zh) xs):∃v,zI xs a=some v/\v<=a/\(0<=v->(HD xs:Int)=a-v):=by have hl:xs.length<=9223372036854775807:=h.1;exact JR (tot:=HG) h0 h1 hl λx hx b C6 CF=>zLW (x:=x) C6 CF (h.2 _ hx)
theorem zEh{xs:List Cb}{k:Int}(h0:0<=k)(hk:k+64*(HD xs:Int)<=4611686018427387904):∃(ys:List Cb) (k':Int),k<=k'/\k'<=k+64*(HD xs:Int)/\ys.length=xs.length/\yG xs k=some (k',ys):=by
 have hl:xs.length<=HD xs:=by unfold HD;omega
 refine IE HG (mb:=λs:Int × Int × List Cb=>Sv s.1 s.2.1 s.2.2) h0 (by simp[HD]) hk (λx hx k h0 hB=> ?_) (λk v hv=> ?_)
 ·have hT:HG x=(DU x.fRec.az+Hy x.fRec.af):=rfl;obtain⟨r0,k0,a0,b0, -,m0,g0⟩:=OX (xs:=x.fRec.az) (k:=k+1+1+1+1+1) (by omega) (by omega);obtain⟨r1,k1,a1,b1, -,m1⟩:=zEs (xs:=x.fRec.af) (k:=k0) (by omega) (by omega);refine⟨?y,k1+1,by omega,by omega,λi v hv hi=> ?_⟩
  rotate_left
  ·have B8:=(List.getElem?_eq_some_iff.1 hv).1;show Sv k i v=_;unfold Sv;rw[if_pos (by simpa using B8)];simp(disch:=omega) only[Gw hv,Cv,Bz,List.set_set,Aa,m0,m1]<;>rfl
 ·show Sv k _ v=_;unfold Sv;rw[if_neg (by simp[hv])]
def Hx(x:Ct):Nat:=HD x.ct
theorem zHA{x:Ct}(h:Hx x<=2000000):eR x=some x:=by unfold eR;simp only[zH9 (xs:=x.ct) (by unfold Hx at h;omega),Aa]
theorem zGL{x:Ct}(h:Hx x<=2000000):eP x x=some true:=by unfold eP;simp[zJx (xs:=x.ct) (by unfold Hx at h;omega)]
theorem zHH{x:Ct}{a:Int}(h0:0<=a)(h1:a<=1048576)(h:YB x):∃v,eX x a=some v/\v<=a/\(0<=v->(Hx x:Int)=a-v):=by
 unfold eX Hx;obtain⟨b1,e1,g1,r1⟩:=zIA (xs:=x.ct) (a:=a) (by omega) (by omega) h.2.1;rw[e1,Aa];by_cases q1:b1<0
 ·rw[if_pos (by simpa using q1)];exact⟨-1,rfl,by omega,by omega⟩
 rw[if_neg (by simpa using q1)];have s1:=r1 (by omega);exact⟨b1,rfl,by omega,λ_=>by omega⟩
def Iw(l:List Ct):Nat:=l.length+(l.map Hx).sum
theorem zEe{xs:List Ct}(h:Iw xs<=2000000):w8 xs=some xs:=by
 have hl:xs.length<=2000000:=by unfold Iw at h;omega
 have hx:∀x∈xs,Hx x<=2000000:=λx hx=>by have:=CW (tot:=Hx) hx;unfold Iw at h;omega
 exact I7 hl (by omega) (by omega) λx hm=>zHA (hx x hm)
theorem zFm{xs:List Ct}(h:Iw xs<=2000000):yC xs xs=some true:=by
 have hl:xs.length<=2000000:=by unfold Iw at h;omega
 have hx:∀x∈xs,Hx x<=2000000:=λx hx=>by have:=CW (tot:=Hx) hx;unfold Iw at h;omega
 exact I8 hl λx hm=>zGL (hx x hm)
theorem zE0{xs:List Ct}{a:Int}(h0:0<=a)(h1:a<=1048576)(h:(B5 YB) xs):∃v,xR xs a=some v/\v<=a/\(0<=v->(Iw xs:Int)=a-v):=by have hl:xs.length<=9223372036854775807:=h.1;exact JR (tot:=Hx) h0 h1 hl λx hx b C6 CF=>zHH (x:=x) C6 CF (h.2 _ hx)
theorem zAI{xs:List Ct}{k:Int}(h0:0<=k)(hk:k+64*(Iw xs:Int)<=4611686018427387904):∃(ys:List Ct) (k':Int),k<=k'/\k'<=k+64*(Iw xs:Int)/\ys.length=xs.length/\vZ xs k=some (k',ys):=by
 have hl:xs.length<=Iw xs:=by unfold Iw;omega
 refine IE Hx (mb:=λs:Int × Int × List Ct=>SB s.1 s.2.1 s.2.2) h0 (by simp[Iw]) hk (λx hx k h0 hB=> ?_) (λk v hv=> ?_)
 ·have hT:Hx x=HD x.ct:=rfl;obtain⟨r0,k0,a0,b0, -,m0⟩:=zEh (xs:=x.ct) (k:=k+1) (by omega) (by omega);refine⟨?y,k0+1,by omega,by omega,λi v hv hi=> ?_⟩
  rotate_left
  ·have B8:=(List.getElem?_eq_some_iff.1 hv).1;show SB k i v=_;unfold SB;rw[if_pos (by simpa using B8)];simp(disch:=omega) only[Gw hv,Cv,Bz,List.set_set,Aa,m0]<;>rfl
 ·show SB k _ v=_;unfold SB;rw[if_neg (by simp[hv])]
def Hb(x:BZ):Nat:=Iw x.ar
theorem zL9{x:BZ}(h:Hb x<=2000000):gH x=some x:=by unfold gH;simp only[zEe (xs:=x.ar) (by unfold Hb at h;omega),Aa]
theorem zMN{x:BZ}(h:Hb x<=2000000):iB x x=some true:=by unfold iB;simp[zFm (xs:=x.ar) (by unfold Hb at h;omega)]
theorem zKV{x:BZ}{a:Int}(h0:0<=a)(h1:a<=1048576)(h:Zd x):∃v,iA x a=some v/\v<=a/\(0<=v->(Hb x:Int)=a-v):=by
 unfold iA Hb;obtain⟨b0,e0,g0,r0⟩:=zE0 (xs:=x.ar) (a:=a) (by omega) (by omega) h.1;rw[e0,Aa];by_cases q0:b0<0
 ·rw[if_pos (by simpa using q0)];exact⟨-1,rfl,by omega,by omega⟩
 rw[if_neg (by simpa using q0)];have s0:=r0 (by omega);exact⟨b0,rfl,by omega,λ_=>by omega⟩
def G9(l:List BZ):Nat:=l.length+(l.map Hb).sum
theorem zJV{xs:List BZ}(h:G9 xs<=2000000):zJ xs=some xs:=by
 have hl:xs.length<=2000000:=by unfold G9 at h;omega
 have hx:∀x∈xs,Hb x<=2000000:=λx hx=>by have:=CW (tot:=Hb) hx;unfold G9 at h;omega
 exact I7 hl (by omega) (by omega) λx hm=>zL9 (hx x hm)
theorem zKs{xs:List BZ}(h:G9 xs<=2000000):zO xs xs=some true:=by
 have hl:xs.length<=2000000:=by unfold G9 at h;omega
 have hx:∀x∈xs,Hb x<=2000000:=λx hx=>by have:=CW (tot:=Hb) hx;unfold G9 at h;omega
 exact I8 hl λx hm=>zMN (hx x hm)
theorem zJf{xs:List BZ}{a:Int}(h0:0<=a)(h1:a<=1048576)(h:(B5 Zd) xs):∃v,zR xs a=some v/\v<=a/\(0<=v->(G9 xs:Int)=a-v):=by have hl:xs.length<=9223372036854775807:=h.1;exact JR (tot:=Hb) h0 h1 hl λx hx b C6 CF=>zKV (x:=x) C6 CF (h.2 _ hx)
theorem zFl{xs:List BZ}{k:Int}(h0:0<=k)(hk:k+64*(G9 xs:Int)<=4611686018427387904):∃(ys:List BZ) (k':Int),k<=k'/\k'<=k+64*(G9 xs:Int)/\ys.length=xs.length/\yA xs k=some (k',ys):=by
 have hl:xs.length<=G9 xs:=by unfold G9;omega
 refine IE Hb (mb:=λs:Int × Int × List BZ=>Sy s.1 s.2.1 s.2.2) h0 (by simp[G9]) hk (λx hx k h0 hB=> ?_) (λk v hv=> ?_)
 ·have hT:Hb x=Iw x.ar:=rfl;obtain⟨r0,k0,a0,b0, -,m0⟩:=zAI (xs:=x.ar) (k:=k) (by omega) (by omega);refine⟨?y,k0+1+1,by omega,by omega,λi v hv hi=> ?_⟩
  rotate_left
  ·have B8:=(List.getElem?_eq_some_iff.1 hv).1;show Sy k i v=_;unfold Sy;rw[if_pos (by simpa using B8)];simp(disch:=omega) only[Gw hv,Cv,Bz,List.set_set,Aa,m0]<;>rfl
 ·show Sy k _ v=_;unfold Sy;rw[if_neg (by simp[hv])]
def Jb(x:Bh):Nat:=x.ab.length
theorem zOJ{x:Bh}(h:Jb x<=2000000):zpA x=some x:=rfl
theorem zO3{x:Bh}(h:Jb x<=2000000):iO x x=some true:=by unfold iO;simp[]
theorem zNG{x:Bh}{a:Int}(h0:0<=a)(h1:a<=1048576)(h:Rf x):∃v,iX x a=some v/\v<=a/\(0<=v->(Jb x:Int)=a-v):=by
 unfold iX Jb;rw[IF (a:=a) (by omega) (by omega) h.1];by_cases q0:a-(x.ab.length:Int)<0
 ·rw[if_pos (by simpa using q0)];exact⟨-1,rfl,by omega,by omega⟩
 rw[if_neg (by simpa using q0)];exact⟨(a-(x.ab.length:Int)),rfl,by omega,λ_=>by omega⟩
def Fw(l:List Bh):Nat:=l.length+(l.map Jb).sum
theorem zL1{xs:List Bh}(h:Fw xs<=2000000):zol xs=some xs:=by
 have hl:xs.length<=2000000:=by unfold Fw at h;omega
 have hx:∀x∈xs,Jb x<=2000000:=λx hx=>by have:=CW (tot:=Jb) hx;unfold Fw at h;omega
 exact I7 hl (by omega) (by omega) λx hm=>zOJ (hx x hm)
theorem zLx{xs:List Bh}(h:Fw xs<=2000000):z8 xs xs=some true:=by
 have hl:xs.length<=2000000:=by unfold Fw at h;omega
 have hx:∀x∈xs,Jb x<=2000000:=λx hx=>by have:=CW (tot:=Jb) hx;unfold Fw at h;omega
 exact I8 hl λx hm=>zO3 (hx x hm)
theorem zMo{xs:List Bh}{a:Int}(h0:0<=a)(h1:a<=1048576)(h:(B5 Rf) xs):∃v,zom xs a=some v/\v<=a/\(0<=v->(Fw xs:Int)=a-v):=by have hl:xs.length<=9223372036854775807:=h.1;exact JR (tot:=Jb) h0 h1 hl λx hx b C6 CF=>zNG (x:=x) C6 CF (h.2 _ hx)
theorem zHr{xs:List Bh}{k:Int}(h0:0<=k)(hk:k+64*(Fw xs:Int)<=4611686018427387904):∃(ys:List Bh) (k':Int),k<=k'/\k'<=k+64*(Fw xs:Int)/\ys.length=xs.length/\yO xs k=some (k',ys):=by
 have hl:xs.length<=Fw xs:=by unfold Fw;omega
 refine IE Jb (mb:=λs:Int × Int × List Bh=>S7 s.1 s.2.1 s.2.2) h0 (by simp[Fw]) hk (λx hx k h0 hB=> ?_) (λk v hv=> ?_)
 ·have hT:Jb x=x.ab.length:=rfl;refine⟨?y,k+1+1+1,by omega,by omega,λi v hv hi=> ?_⟩
  rotate_left
  ·have B8:=(List.getElem?_eq_some_iff.1 hv).1;show S7 k i v=_;unfold S7;rw[if_pos (by simpa using B8)];simp(disch:=omega) only[Gw hv,Cv,Bz,List.set_set,Aa,O0]<;>rfl
 ·show S7 k _ v=_;unfold S7;rw[if_neg (by simp[hv])]
def Ha(l:List (List Bh)):Nat:=l.length+(l.map Fw).sum
theorem zJe{xs:List (List Bh)}(h:Ha xs<=2000000):zW xs=some xs:=by
 have hl:xs.length<=2000000:=by unfold Ha at h;omega
 have hx:∀x∈xs,Fw x<=2000000:=λx hx=>by have:=CW (tot:=Fw) hx;unfold Ha at h;omega
 exact I7 hl (by omega) (by omega) λx hm=>zL1 (hx x hm)
theorem zJF{xs:List (List Bh)}(h:Ha xs<=2000000):zN xs xs=some true:=by
 have hl:xs.length<=2000000:=by unfold Ha at h;omega
 have hx:∀x∈xs,Fw x<=2000000:=λx hx=>by have:=CW (tot:=Fw) hx;unfold Ha at h;omega
 exact I8 hl λx hm=>zLx (hx x hm)
theorem zJE{xs:List (List Bh)}{a:Int}(h0:0<=a)(h1:a<=1048576)(h:(B5 (B5 Rf)) xs):∃v,zG xs a=some v/\v<=a/\(0<=v->(Ha xs:Int)=a-v):=by have hl:xs.length<=9223372036854775807:=h.1;exact JR (tot:=Fw) h0 h1 hl λx hx b C6 CF=>zMo (xs:=x) C6 CF (h.2 _ hx)
theorem zET{xs:List (List Bh)}{k:Int}(h0:0<=k)(hk:k+64*(Ha xs:Int)<=4611686018427387904):∃(ys:List (List Bh)) (k':Int),k<=k'/\k'<=k+64*(Ha xs:Int)/\ys.length=xs.length/\xS xs k=some (k',ys):=by
 have hl:xs.length<=Ha xs:=by unfold Ha;omega
 refine IE Fw (mb:=λs:Int × Int × List (List Bh)=>Sx s.1 s.2.1 s.2.2) h0 (by simp[Ha]) hk (λx hx k h0 hB=> ?_) (λk v hv=> ?_)
 ·obtain⟨r0,k0,a0,b0, -,m0⟩:=zHr (xs:=x) (k:=k) (by omega) (by omega);refine⟨?y,k0,by omega,by omega,λi v hv hi=> ?_⟩
  rotate_left
  ·have B8:=(List.getElem?_eq_some_iff.1 hv).1;show Sx k i v=_;unfold Sx;rw[if_pos (by simpa using B8)];simp(disch:=omega) only[Gw hv,Cv,Bz,List.set_set,Aa,m0]<;>rfl
 ·show Sx k _ v=_;unfold Sx;rw[if_neg (by simp[hv])]
def IJ(x:AL):Nat:=x.ab.length+x.bf.length
theorem zQK{x:AL}(h:IJ x<=2000000):zsi x=some x:=rfl
theorem zQM{x:AL}(h:IJ x<=2000000):kF x x=some true:=by unfold kF;simp[]
theorem zQ2{x:AL}{a:Int}(h0:0<=a)(h1:a<=1048576)(h:Xb x):∃v,kK x a=some v/\v<=a/\(0<=v->(IJ x:Int)=a-v):=by
 unfold kK IJ;rw[IF (a:=a) (by omega) (by omega) h.2.1];by_cases q1:a-(x.ab.length:Int)<0
 ·rw[if_pos (by simpa using q1)];exact⟨-1,rfl,by omega,by omega⟩
 rw[if_neg (by simpa using q1)];rw[IF (a:=(a-(x.ab.length:Int))) (by omega) (by omega) h.2.2.1];by_cases q2:(a-(x.ab.length:Int))-(x.bf.length:Int)<0
 ·rw[if_pos (by simpa using q2)];exact⟨-1,rfl,by omega,by omega⟩
 rw[if_neg (by simpa using q2)];exact⟨((a-(x.ab.length:Int))-(x.bf.length:Int)),rfl,by omega,λ_=>by omega⟩
def HN(l:List AL):Nat:=l.length+(l.map IJ).sum
theorem zPI{xs:List AL}(h:HN xs<=2000000):zqY xs=some xs:=by
 have hl:xs.length<=2000000:=by unfold HN at h;omega
 have hx:∀x∈xs,IJ x<=2000000:=λx hx=>by have:=CW (tot:=IJ) hx;unfold HN at h;omega
 exact I7 hl (by omega) (by omega) λx hm=>zQK (hx x hm)
theorem zPv{xs:List AL}(h:HN xs<=2000000):zqs xs xs=some true:=by
 have hl:xs.length<=2000000:=by unfold HN at h;omega
 have hx:∀x∈xs,IJ x<=2000000:=λx hx=>by have:=CW (tot:=IJ) hx;unfold HN at h;omega
 exact I8 hl λx hm=>zQM (hx x hm)
theorem zPJ{xs:List AL}{a:Int}(h0:0<=a)(h1:a<=1048576)(h:(B5 Xb) xs):∃v,zqE xs a=some v/\v<=a/\(0<=v->(HN xs:Int)=a-v):=by have hl:xs.length<=9223372036854775807:=h.1;exact JR (tot:=IJ) h0 h1 hl λx hx b C6 CF=>zQ2 (x:=x) C6 CF (h.2 _ hx)
theorem zKQ{xs:List AL}{k:Int}(h0:0<=k)(hk:k+64*(HN xs:Int)<=4611686018427387904):∃(ys:List AL) (k':Int),k<=k'/\k'<=k+64*(HN xs:Int)/\ys.length=xs.length/\zox xs k=some (k',ys):=by
 have hl:xs.length<=HN xs:=by unfold HN;omega
 refine IE IJ (mb:=λs:Int × Int × List AL=>SL s.1 s.2.1 s.2.2) h0 (by simp[HN]) hk (λx hx k h0 hB=> ?_) (λk v hv=> ?_)
 ·have hT:IJ x=x.ab.length+x.bf.length:=rfl;refine⟨?y,k+1+1+1+1,by omega,by omega,λi v hv hi=> ?_⟩
  rotate_left
  ·have B8:=(List.getElem?_eq_some_iff.1 hv).1;show SL k i v=_;unfold SL;rw[if_pos (by simpa using B8)];simp(disch:=omega) only[Gw hv,Cv,Bz,List.set_set,Aa,O0]<;>rfl
 ·show SL k _ v=_;unfold SL;rw[if_neg (by simp[hv])]
def IH(x:Ce):Nat:=x.ab.length+x.bf.length
theorem zPq{x:Ce}(h:IH x<=2000000):zqH x=some x:=rfl
theorem zPr{x:Ce}(h:IH x<=2000000):kB x x=some true:=by unfold kB;simp[]
theorem zPt{x:Ce}{a:Int}(h0:0<=a)(h1:a<=1048576)(h:RU x):∃v,jU x a=some v/\v<=a/\(0<=v->(IH x:Int)=a-v):=by
 unfold jU IH;rw[IF (a:=a) (by omega) (by omega) h.1];by_cases q0:a-(x.ab.length:Int)<0
 ·rw[if_pos (by simpa using q0)];exact⟨-1,rfl,by omega,by omega⟩
 rw[if_neg (by simpa using q0)];rw[IF (a:=(a-(x.ab.length:Int))) (by omega) (by omega) h.2.1];by_cases q1:(a-(x.ab.length:Int))-(x.bf.length:Int)<0
 ·rw[if_pos (by simpa using q1)];exact⟨-1,rfl,by omega,by omega⟩
 rw[if_neg (by simpa using q1)];exact⟨((a-(x.ab.length:Int))-(x.bf.length:Int)),rfl,by omega,λ_=>by omega⟩
def GA(l:List Ce):Nat:=l.length+(l.map IH).sum
theorem zIN{xs:List Ce}(h:GA xs<=2000000):iI xs=some xs:=by
 have hl:xs.length<=2000000:=by unfold GA at h;omega
 have hx:∀x∈xs,IH x<=2000000:=λx hx=>by have:=CW (tot:=IH) hx;unfold GA at h;omega
 exact I7 hl (by omega) (by omega) λx hm=>zPq (hx x hm)
theorem zIw{xs:List Ce}(h:GA xs<=2000000):jE xs xs=some true:=by
 have hl:xs.length<=2000000:=by unfold GA at h;omega
 have hx:∀x∈xs,IH x<=2000000:=λx hx=>by have:=CW (tot:=IH) hx;unfold GA at h;omega
 exact I8 hl λx hm=>zPr (hx x hm)
theorem zIR{xs:List Ce}{a:Int}(h0:0<=a)(h1:a<=1048576)(h:(B5 RU) xs):∃v,jD xs a=some v/\v<=a/\(0<=v->(GA xs:Int)=a-v):=by have hl:xs.length<=9223372036854775807:=h.1;exact JR (tot:=IH) h0 h1 hl λx hx b C6 CF=>zPt (x:=x) C6 CF (h.2 _ hx)
theorem zCY{xs:List Ce}{k:Int}(h0:0<=k)(hk:k+64*(GA xs:Int)<=4611686018427387904):∃(ys:List Ce) (k':Int),k<=k'/\k'<=k+64*(GA xs:Int)/\ys.length=xs.length/\gB xs k=some (k',ys):=by
 have hl:xs.length<=GA xs:=by unfold GA;omega
 refine IE IH (mb:=λs:Int × Int × List Ce=>SY s.1 s.2.1 s.2.2) h0 (by simp[GA]) hk (λx hx k h0 hB=> ?_) (λk v hv=> ?_)
 ·have hT:IH x=x.ab.length+x.bf.length:=rfl;refine⟨?y,k+1+1+1,by omega,by omega,λi v hv hi=> ?_⟩
  rotate_left
  ·have B8:=(List.getElem?_eq_some_iff.1 hv).1;show SY k i v=_;unfold SY;rw[if_pos (by simpa using B8)];simp(disch:=omega) only[Gw hv,Cv,Bz,List.set_set,Aa,O0]<;>rfl
 ·show SY k _ v=_;unfold SY;rw[if_neg (by simp[hv])]
def FJ(x:CV):Nat:=HN x.ef+GA x.cm+Fz x.c6
theorem zEN{x:CV}(h:FJ x<=2000000):dZ x=some x:=by unfold dZ;simp only[zPI (xs:=x.ef) (by unfold FJ at h;omega),zIN (xs:=x.cm) (by unfold FJ at h;omega),sL (xs:=x.c6) (by unfold FJ at h;omega),Aa]
theorem zD5{x:CV}(h:FJ x<=2000000):dQ x x=some true:=by unfold dQ;simp[zPv (xs:=x.ef) (by unfold FJ at h;omega),zIw (xs:=x.cm) (by unfold FJ at h;omega),sI (xs:=x.c6) (by unfold FJ at h;omega)]
theorem zE8{x:CV}{a:Int}(h0:0<=a)(h1:a<=1048576)(h:Yv x):∃v,dY x a=some v/\v<=a/\(0<=v->(FJ x:Int)=a-v):=by
 unfold dY FJ;obtain⟨b0,e0,g0,r0⟩:=zPJ (xs:=x.ef) (a:=a) (by omega) (by omega) h.1;rw[e0,Aa];by_cases q0:b0<0
 ·rw[if_pos (by simpa using q0)];exact⟨-1,rfl,by omega,by omega⟩
 rw[if_neg (by simpa using q0)];have s0:=r0 (by omega);obtain⟨b1,e1,g1,r1⟩:=zIR (xs:=x.cm) (a:=b0) (by omega) (by omega) h.2.1;rw[e1,Aa];by_cases q1:b1<0
 ·rw[if_pos (by simpa using q1)];exact⟨-1,rfl,by omega,by omega⟩
 rw[if_neg (by simpa using q1)];have s1:=r1 (by omega);obtain⟨b2,e2,g2,r2⟩:=sW (xs:=x.c6) (a:=b1) (by omega) (by omega) h.2.2.1;rw[e2,Aa];by_cases q2:b2<0
 ·rw[if_pos (by simpa using q2)];exact⟨-1,rfl,by omega,by omega⟩
 rw[if_neg (by simpa using q2)];have s2:=r2 (by omega);exact⟨b2,rfl,by omega,λ_=>by omega⟩
def G8(l:List CV):Nat:=l.length+(l.map FJ).sum
theorem zCB{xs:List CV}(h:G8 xs<=2000000):wZ xs=some xs:=by
 have hl:xs.length<=2000000:=by unfold G8 at h;omega
 have hx:∀x∈xs,FJ x<=2000000:=λx hx=>by have:=CW (tot:=FJ) hx;unfold G8 at h;omega
 exact I7 hl (by omega) (by omega) λx hm=>zEN (hx x hm)
theorem zC7{xs:List CV}(h:G8 xs<=2000000):w5 xs xs=some true:=by
 have hl:xs.length<=2000000:=by unfold G8 at h;omega
 have hx:∀x∈xs,FJ x<=2000000:=λx hx=>by have:=CW (tot:=FJ) hx;unfold G8 at h;omega
 exact I8 hl λx hm=>zD5 (hx x hm)
theorem zDL{xs:List CV}{a:Int}(h0:0<=a)(h1:a<=1048576)(h:(B5 Yv) xs):∃v,wP xs a=some v/\v<=a/\(0<=v->(G8 xs:Int)=a-v):=by have hl:xs.length<=9223372036854775807:=h.1;exact JR (tot:=FJ) h0 h1 hl λx hx b C6 CF=>zE8 (x:=x) C6 CF (h.2 _ hx)
theorem zyx{xs:List CV}{k:Int}(h0:0<=k)(hk:k+64*(G8 xs:Int)<=4611686018427387904):∃(ys:List CV) (k':Int),k<=k'/\k'<=k+64*(G8 xs:Int)/\ys.length=xs.length/\vO xs k=some (k',ys):=by
 have hl:xs.length<=G8 xs:=by unfold G8;omega
 refine IE FJ (mb:=λs:Int × Int × List CV=>Sd s.1 s.2.1 s.2.2) h0 (by simp[G8]) hk (λx hx k h0 hB=> ?_) (λk v hv=> ?_)
 ·have hT:FJ x=HN x.ef+GA x.cm+Fz x.c6:=rfl;obtain⟨r0,k0,a0,b0, -,m0⟩:=zKQ (xs:=x.ef) (k:=k) (by omega) (by omega);obtain⟨r1,k1,a1,b1, -,m1⟩:=zCY (xs:=x.cm) (k:=k0) (by omega) (by omega);obtain⟨r2,k2,a2,b2, -,m2⟩:=zxm (xs:=x.c6) (k:=k1) (by omega) (by omega);refine⟨?y,k2+1+1+1+1+1+1+1,by omega,by omega,λi v hv hi=> ?_⟩
  rotate_left
  ·have B8:=(List.getElem?_eq_some_iff.1 hv).1;show Sd k i v=_;unfold Sd;rw[if_pos (by simpa using B8)];simp(disch:=omega) only[Gw hv,Cv,Bz,List.set_set,Aa,m0,m1,m2]<;>rfl
 ·show Sd k _ v=_;unfold Sd;rw[if_neg (by simp[hv])]
def Gj(x:Cw):Nat:=DU x.ch+GA x.cm
theorem zDz{x:Cw}(h:Gj x<=2000000):dC x=some x:=by unfold dC;simp only[Ys (xs:=x.ch) (by unfold Gj at h;omega),zIN (xs:=x.cm) (by unfold Gj at h;omega),Aa]
theorem zDJ{x:Cw}(h:Gj x<=2000000):dA x x=some true:=by unfold dA;simp[Ue (xs:=x.ch) (by unfold Gj at h;omega),zIw (xs:=x.cm) (by unfold Gj at h;omega)]
theorem zD3{x:Cw}{a:Int}(h0:0<=a)(h1:a<=1048576)(h:Ym x):∃v,dE x a=some v/\v<=a/\(0<=v->(Gj x:Int)=a-v):=by
 unfold dE Gj;obtain⟨b1,e1,g1,r1⟩:=Yt (xs:=x.ch) (a:=a) (by omega) (by omega) h.2.1;rw[e1,Aa];by_cases q1:b1<0
 ·rw[if_pos (by simpa using q1)];exact⟨-1,rfl,by omega,by omega⟩
 rw[if_neg (by simpa using q1)];have s1:=r1 (by omega);obtain⟨b2,e2,g2,r2⟩:=zIR (xs:=x.cm) (a:=b1) (by omega) (by omega) h.2.2.1;rw[e2,Aa];by_cases q2:b2<0
 ·rw[if_pos (by simpa using q2)];exact⟨-1,rfl,by omega,by omega⟩
 rw[if_neg (by simpa using q2)];have s2:=r2 (by omega);exact⟨b2,rfl,by omega,λ_=>by omega⟩
def G7(l:List Cw):Nat:=l.length+(l.map Gj).sum
theorem zBc{xs:List Cw}(h:G7 xs<=2000000):wJ xs=some xs:=by
 have hl:xs.length<=2000000:=by unfold G7 at h;omega
 have hx:∀x∈xs,Gj x<=2000000:=λx hx=>by have:=CW (tot:=Gj) hx;unfold G7 at h;omega
 exact I7 hl (by omega) (by omega) λx hm=>zDz (hx x hm)
theorem zBj{xs:List Cw}(h:G7 xs<=2000000):wH xs xs=some true:=by
 have hl:xs.length<=2000000:=by unfold G7 at h;omega
 have hx:∀x∈xs,Gj x<=2000000:=λx hx=>by have:=CW (tot:=Gj) hx;unfold G7 at h;omega
 exact I8 hl λx hm=>zDJ (hx x hm)
theorem zAu{xs:List Cw}{a:Int}(h0:0<=a)(h1:a<=1048576)(h:(B5 Ym) xs):∃v,wF xs a=some v/\v<=a/\(0<=v->(G7 xs:Int)=a-v):=by have hl:xs.length<=9223372036854775807:=h.1;exact JR (tot:=Gj) h0 h1 hl λx hx b C6 CF=>zD3 (x:=x) C6 CF (h.2 _ hx)
theorem zyb{xs:List Cw}{k:Int}(h0:0<=k)(hk:k+64*(G7 xs:Int)<=4611686018427387904):∃(ys:List Cw) (k':Int),k<=k'/\k'<=k+64*(G7 xs:Int)/\ys.length=xs.length/\vX xs k=some (k',ys):=by
 have hl:xs.length<=G7 xs:=by unfold G7;omega
 refine IE Gj (mb:=λs:Int × Int × List Cw=>Sh s.1 s.2.1 s.2.2) h0 (by simp[G7]) hk (λx hx k h0 hB=> ?_) (λk v hv=> ?_)
 ·have hT:Gj x=DU x.ch+GA x.cm:=rfl;obtain⟨r0,k0,a0,b0, -,m0,g0⟩:=OX (xs:=x.ch) (k:=k+1) (by omega) (by omega);obtain⟨r1,k1,a1,b1, -,m1⟩:=zCY (xs:=x.cm) (k:=k0) (by omega) (by omega);refine⟨?y,k1+1+1+1,by omega,by omega,λi v hv hi=> ?_⟩
  rotate_left
  ·have B8:=(List.getElem?_eq_some_iff.1 hv).1;show Sh k i v=_;unfold Sh;rw[if_pos (by simpa using B8)];simp(disch:=omega) only[Gw hv,Cv,Bz,List.set_set,Aa,m0,m1]<;>rfl
 ·show Sh k _ v=_;unfold Sh;rw[if_neg (by simp[hv])]
def EP(x:BA):Nat:=HF x.bj+DU x.bq+G9 x.aw+Ha x.cj+Fz x.bm+G8 x.cf+G7 x.cc
theorem zKY{x:BA}(h:EP x<=2000000):gI x=some x:=by unfold gI;simp only[zJU (xs:=x.bj) (by unfold EP at h;omega),Ys (xs:=x.bq) (by unfold EP at h;omega),zJV (xs:=x.aw) (by unfold EP at h;omega),zJe (xs:=x.cj) (by unfold EP at h;omega),sL (xs:=x.bm) (by unfold EP at h;omega),zCB (xs:=x.cf) (by unfold EP at h;omega),zBc (xs:=x.cc) (by unfold EP at h;omega),Aa]
theorem zME{x:BA}(h:EP x<=2000000):iD x x=some true:=by unfold iD;simp[zI4 (xs:=x.bj) (by unfold EP at h;omega),Ue (xs:=x.bq) (by unfold EP at h;omega),zKs (xs:=x.aw) (by unfold EP at h;omega),zJF (xs:=x.cj) (by unfold EP at h;omega),sI (xs:=x.bm) (by unfold EP at h;omega),zC7 (xs:=x.cf) (by unfold EP at h;omega),zBj (xs:=x.cc) (by unfold EP at h;omega)]
theorem zLe{x:BA}{a:Int}(h0:0<=a)(h1:a<=1048576)(h:sS x):∃v,gU x a=some v/\v<=a/\(0<=v->(EP x:Int)=a-v):=by
 unfold gU EP;obtain⟨b2,e2,g2,r2⟩:=zIt (xs:=x.bj) (a:=a) (by omega) (by omega) h.2.2.1;rw[e2,Aa];by_cases q2:b2<0
 ·rw[if_pos (by simpa using q2)];exact⟨-1,rfl,by omega,by omega⟩
 rw[if_neg (by simpa using q2)];have s2:=r2 (by omega);obtain⟨b3,e3,g3,r3⟩:=Yt (xs:=x.bq) (a:=b2) (by omega) (by omega) h.2.2.2.1;rw[e3,Aa];by_cases q3:b3<0
 ·rw[if_pos (by simpa using q3)];exact⟨-1,rfl,by omega,by omega⟩
 rw[if_neg (by simpa using q3)];have s3:=r3 (by omega);obtain⟨b4,e4,g4,r4⟩:=zJf (xs:=x.aw) (a:=b3) (by omega) (by omega) h.2.2.2.2.1;rw[e4,Aa];by_cases q4:b4<0
 ·rw[if_pos (by simpa using q4)];exact⟨-1,rfl,by omega,by omega⟩
 rw[if_neg (by simpa using q4)];have s4:=r4 (by omega);obtain⟨b5,e5,g5,r5⟩:=zJE (xs:=x.cj) (a:=b4) (by omega) (by omega) h.2.2.2.2.2.1;rw[e5,Aa];by_cases q5:b5<0
 ·rw[if_pos (by simpa using q5)];exact⟨-1,rfl,by omega,by omega⟩
 rw[if_neg (by simpa using q5)];have s5:=r5 (by omega);obtain⟨b6,e6,g6,r6⟩:=sW (xs:=x.bm) (a:=b5) (by omega) (by omega) h.2.2.2.2.2.2.1;rw[e6,Aa];by_cases q6:b6<0
 ·rw[if_pos (by simpa using q6)];exact⟨-1,rfl,by omega,by omega⟩
 rw[if_neg (by simpa using q6)];have s6:=r6 (by omega);obtain⟨b7,e7,g7,r7⟩:=zDL (xs:=x.cf) (a:=b6) (by omega) (by omega) h.2.2.2.2.2.2.2.1;rw[e7,Aa];by_cases q7:b7<0
 ·rw[if_pos (by simpa using q7)];exact⟨-1,rfl,by omega,by omega⟩
 rw[if_neg (by simpa using q7)];have s7:=r7 (by omega);obtain⟨b8,e8,g8,r8⟩:=zAu (xs:=x.cc) (a:=b7) (by omega) (by omega) h.2.2.2.2.2.2.2.2;rw[e8,Aa];by_cases q8:b8<0
 ·rw[if_pos (by simpa using q8)];exact⟨-1,rfl,by omega,by omega⟩
 rw[if_neg (by simpa using q8)];have s8:=r8 (by omega);exact⟨b8,rfl,by omega,λ_=>by omega⟩
theorem zG1{x:BA}{k:Int}(h0:0<=k)(hk:k+64*(EP x:Int)<=4611686018427387904):∃(y:BA) (k':Int),k<=k'/\k'<=k+64*(EP x:Int)/\eM x k=some (k',y):=by
 have hT:EP x=HF x.bj+DU x.bq+G9 x.aw+Ha x.cj+Fz x.bm+G8 x.cf+G7 x.cc:=rfl;obtain⟨r0,k0,a0,b0, -,m0⟩:=zFb (xs:=x.bj) (k:=k) (by omega) (by omega);obtain⟨r1,k1,a1,b1, -,m1,g1⟩:=OX (xs:=x.bq) (k:=k0) (by omega) (by omega);obtain⟨r2,k2,a2,b2, -,m2⟩:=zFl (xs:=x.aw) (k:=k1) (by omega) (by omega);obtain⟨r3,k3,a3,b3, -,m3⟩:=zET (xs:=x.cj) (k:=k2) (by omega) (by omega);obtain⟨r4,k4,a4,b4, -,m4⟩:=zxm (xs:=x.bm) (k:=k3) (by omega) (by omega);obtain⟨r5,k5,a5,b5, -,m5⟩:=zyx (xs:=x.cf) (k:=k4) (by omega) (by omega);obtain⟨r6,k6,a6,b6, -,m6⟩:=zyb (xs:=x.cc) (k:=k5) (by omega) (by omega);refine⟨?y,k6,by omega,by omega,?_⟩
 rotate_left
 ·unfold eM;simp only[m0,m1,m2,m3,m4,m5,m6,Aa]<;>rfl
def Gy(x:CI):Nat:=x.ae.length+Iy x.cq+Fz x.bg+Ix x.cr+EP x.ao
theorem zNX{x:CI}(h:Gy x<=2000000):QT x=some x:=by unfold QT;simp only[zKe (xs:=x.cq) (by unfold Gy at h;omega),sL (xs:=x.bg) (by unfold Gy at h;omega),zEw (xs:=x.cr) (by unfold Gy at h;omega),zKY (x:=x.ao) (by unfold Gy at h;omega),Aa]
theorem zNQ{x:CI}(h:Gy x<=2000000):jF x x=some true:=by unfold jF;simp[zKo (xs:=x.cq) (by unfold Gy at h;omega),sI (xs:=x.bg) (by unfold Gy at h;omega),zEu (xs:=x.cr) (by unfold Gy at h;omega),zME (x:=x.ao) (by unfold Gy at h;omega)]
theorem zOq{x:CI}{a:Int}(h0:0<=a)(h1:a<=1048576)(h:sX x):∃v,iR x a=some v/\v<=a/\(0<=v->(Gy x:Int)=a-v):=by
 unfold iR Gy;rw[IF (a:=a) (by omega) (by omega) h.1];by_cases q0:a-(x.ae.length:Int)<0
 ·rw[if_pos (by simpa using q0)];exact⟨-1,rfl,by omega,by omega⟩
 rw[if_neg (by simpa using q0)];obtain⟨b1,e1,g1,r1⟩:=zIZ (xs:=x.cq) (a:=(a-(x.ae.length:Int))) (by omega) (by omega) h.2.1;rw[e1,Aa];by_cases q1:b1<0
 ·rw[if_pos (by simpa using q1)];exact⟨-1,rfl,by omega,by omega⟩
 rw[if_neg (by simpa using q1)];have s1:=r1 (by omega);obtain⟨b3,e3,g3,r3⟩:=sW (xs:=x.bg) (a:=b1) (by omega) (by omega) h.2.2.2.1;rw[e3,Aa];by_cases q3:b3<0
 ·rw[if_pos (by simpa using q3)];exact⟨-1,rfl,by omega,by omega⟩
 rw[if_neg (by simpa using q3)];have s3:=r3 (by omega);obtain⟨b4,e4,g4,r4⟩:=zFg (xs:=x.cr) (a:=b3) (by omega) (by omega) h.2.2.2.2.1;rw[e4,Aa];by_cases q4:b4<0
 ·rw[if_pos (by simpa using q4)];exact⟨-1,rfl,by omega,by omega⟩
 rw[if_neg (by simpa using q4)];have s4:=r4 (by omega);obtain⟨b5,e5,g5,r5⟩:=zLe (x:=x.ao) (a:=b4) (by omega) (by omega) h.2.2.2.2.2;rw[e5,Aa];by_cases q5:b5<0
 ·rw[if_pos (by simpa using q5)];exact⟨-1,rfl,by omega,by omega⟩
 rw[if_neg (by simpa using q5)];have s5:=r5 (by omega);exact⟨b5,rfl,by omega,λ_=>by omega⟩
theorem zIn{x:CI}{k:Int}(h0:0<=k)(hk:k+64*(Gy x:Int)<=4611686018427387904):∃(y:CI) (k':Int),k<=k'/\k'<=k+64*(Gy x:Int)/\fR x k=some (k',y):=by
 have hT:Gy x=x.ae.length+Iy x.cq+Fz x.bg+Ix x.cr+(HF x.ao.bj+DU x.ao.bq+G9 x.ao.aw+Ha x.ao.cj+Fz x.ao.bm+G8 x.ao.cf+G7 x.ao.cc):=rfl;obtain⟨r0,k0,a0,b0, -,m0⟩:=zEd (xs:=x.cq) (k:=k) (by omega) (by omega);obtain⟨r1,k1,a1,b1, -,m1⟩:=zxm (xs:=x.bg) (k:=k0) (by omega) (by omega);obtain⟨r2,k2,a2,b2, -,m2⟩:=zCa (xs:=x.cr) (k:=k1) (by omega) (by omega);have hT3:EP x.ao=HF x.ao.bj+DU x.ao.bq+G9 x.ao.aw+Ha x.ao.cj+Fz x.ao.bm+G8 x.ao.cf+G7 x.ao.cc:=rfl;obtain⟨r3,k3,a3,b3,m3⟩:=zG1 (x:=x.ao) (k:=k2) (by omega) (by omega);refine⟨?y,k3,by omega,by omega,?_⟩
 rotate_left
 ·unfold fR;simp only[m0,m1,m2,m3,Aa]<;>rfl
theorem Uj{l:List Ah}(h:DU l<=2000000):Small l:=by
 unfold DU at h;have:FB l=(l.map (λx:Ab=>x.length)).sum:=by
  clear h
  induction l with
  |nil=>rfl
  |cons x l ih=>rw[FB,List.map_cons,List.sum_cons,ih]
 exact⟨by omega,by omega⟩
theorem zue{l:List Ah}(h:DU l<=2000000):Mf l:=⟨(Uj h).1,(Uj h).each⟩
theorem zHO{t:An}(h:Gl t<=2000000):D3 t:=by
 unfold Gl IC at h;have hs:Small t.bd:=Uj (by omega);exact⟨by omega,hs.1,hs.each,by omega,λx hx=>by
  have:=CW (tot:=HO) hx;unfold HO at this;have h2:(t.aj.map HO).sum<=2000000:=by omega
  unfold HO at h2;omega⟩
theorem zGC{l:List Ai}(h:Hy l<=2000000):Rk l:=by
 unfold Hy at h;exact⟨by omega,λw hw=>by
  have:=CW (tot:=Iz) hw;have h2:Iz w<=2000000:=by omega
  unfold Iz at h2;omega⟩
theorem zEo{r:BG}(h:Lq r<=2000000):YK r:=by unfold Lq at h;exact⟨zue (by omega),zGC (by omega)⟩
theorem zEb{l:List Cb}(h:HD l<=2000000):YL l:=by
 unfold HD at h;exact⟨by omega,λe he=>zEo (by
  have:=CW (tot:=HG) he;have h2:HG e<=2000000:=by omega
  exact h2)⟩
theorem zHM{g:BZ}(h:Hb g<=2000000):ZZ g:=by
 unfold Hb Iw at h;exact⟨by omega,λr hr=>zEb (by
  have:=CW (tot:=Hx) hr;have h2:Hx r<=2000000:=by omega
  exact h2)⟩
theorem zGB{l:List Bh}(h:Fw l<=2000000):ZV l:=by
 unfold Fw at h;exact⟨by omega,λx hx=>by
  have:=CW (tot:=Jb) hx;have h2:Jb x<=2000000:=by omega
  exact h2⟩
theorem zE3{l:List AL}(h:HN l<=2000000):lX l:=by
 unfold HN at h;exact⟨by omega,λx hx=>by
  have:=CW (tot:=IJ) hx;have h2:IJ x<=2000000:=by omega
  unfold IJ at h2;exact⟨by omega,by omega⟩⟩
theorem zxx{l:List Ce}(h:GA l<=2000000):Wz l:=by
 unfold GA at h;exact⟨by omega,λx hx=>by
  have:=CW (tot:=IH) hx;have h2:IH x<=2000000:=by omega
  unfold IH at h2;exact⟨by omega,by omega⟩⟩
theorem zHj{t:CV}(h:FJ t<=2000000):aB t:=by unfold FJ Fz at h;exact⟨zE3 (by omega),zxx (by omega),by omega⟩
theorem zCz{l:Cw}(h:Gj l<=2000000):lP l:=by unfold Gj at h;exact⟨zue (by omega),zxx (by omega)⟩
theorem zGY{w:BA}(h:EP w<=2000000):Zf w:=by
 unfold EP HF G9 Ha Fz G8 G7 at h;exact{
  mn:=zue (by omega)
  ny:=by omega
  group:=λg hg=>zHM (by have:=CW (tot:=Hb) hg;omega)
  oo:=λl hl=>zGB (by have:=CW (tot:=Fw) hl;omega)
  oj:=by omega
  nq:=by omega
  pd:=by omega
  o6:=λt ht=>zHj (by have:=CW (tot:=FJ) ht;omega)
  looks:=by omega
  look:=λl hl=>zCz (by have:=CW (tot:=Gj) hl;omega)}
theorem zFp{j:Dc}(h:Gk j<=2000000):zGs j:=by unfold Gk L0 L7 at h;exact⟨⟨Uj (by omega),Uj (by omega)⟩,Uj (by omega)⟩
theorem zD2{a:CI}(h:Gy a<=2000000):O4 a:=by
 unfold Gy Iy Fz Ix at h;exact{
  name:=by omega
  ways:=λt ht=>zHO (by have:=CW (tot:=Gl) ht;omega)
  since:=by omega
  pn:=by omega
  pr:=λj hj=>zFp (by have:=CW (tot:=Gk) hj;omega)
  world:=zGY (by omega)}
end
end Go.Proofs.YtlmjpjceiefpoaaGreat

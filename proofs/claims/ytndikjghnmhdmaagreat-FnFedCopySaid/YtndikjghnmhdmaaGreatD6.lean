/- Parts of a proof, joined: WSa, WSb, WT, WU, WV, WW. -/
import Derived.Test.YtndikjghnmhdmaaGreatD5
set_option linter.unusedVariables false
set_option linter.unusedSimpArgs false
namespace Go.Proofs.YtndikjghnmhdmaaGreat
open Go.RowKit
section
theorem Bt.{u}{α:Type u}{a:α}:[a].length=1:=rfl
section
variable {P:Program} {c:Cx} {n nx:Nat} {sl sl0:Nat->SV} {hp hp0:Nat->Option Ae} {a:Act} {o:Oper} {gs:Gd} {e:A3} {sg:BN} {nv:Nat}
theorem Rel.ik(h:Rel c n sl hp a){sl':Nat->SV}(hs:∀i,sl' i=sl i\/SR c [sl' i] [a.tmps.getD i undef]):Rel c n sl' hp a:=
 ⟨h.defers,h.size,h.base,λi=>by
  rcases hs i with hh|hh
  ·rw[hh];exact h.ct i
  ·exact hh,h.ents,h.off,h.gw,h.bd,h.ch⟩
theorem SN{u:Nat}:∀{l:List Operand} {t T v m:Nat} {p:E × Nat × Nat} {s:SV},KR sl0 u l=some (t,T,v,m,p,s)->Operand.tmp t∈l/\((∃y,sl0 t= .via T v m (some p) y/\s= .own u 0)\/ ∃y k z q,sl0 t= .vptr T v m (some p) y k z q/\s= .cf u 0 k z q)
 | [],_,_,_,_,_,_,h=>by simp[KR]at h
 |x::l,t,T,v,m,p,s,h=>by
  cases x with
  |tmp i=>
   simp only[KR]at h;split at h
   ·rename_i hs;simp only[Ac,AP]at h;obtain⟨rfl,rfl,rfl,rfl,rfl,rfl⟩:=h;exact⟨by simp, .inl ⟨_,hs,rfl⟩⟩
   ·rename_i hs;simp only[Ac,AP]at h;obtain⟨rfl,rfl,rfl,rfl,rfl,rfl⟩:=h;exact⟨by simp, .inr ⟨_,_,_,_,hs,rfl⟩⟩
   ·obtain⟨h1,h2⟩:=SN h;exact⟨by simp[h1],h2⟩
  |const v9=>simp only[KR]at h;obtain⟨h1,h2⟩:=SN h;exact⟨by simp[h1],h2⟩
  |func f=>simp only[KR]at h;obtain⟨h1,h2⟩:=SN h;exact⟨by simp[h1],h2⟩
  |global g=>simp only[KR]at h;obtain⟨h1,h2⟩:=SN h;exact⟨by simp[h1],h2⟩
theorem Rel.split(h:Rel c n sl hp a){T v m u:Nat}{p:E × Nat × Nat}{hl inn:Ae}(hs:Tn hp0 T v m u p=some (hl,inn))(BT:∀t e,hp0 t=some e->hp t=some e)(hu: ¬c.U u){vv:Value}(IX:c.E T=m->HU c T v (some p) vv):
  ∃recs c1,c1=c.dd c.w recs/\Rel c1 n sl (A9 hp [(T,hl),(u,inn)]) a/\DE c c1/\c1.K u 0/\c1.H u 0=vv/\(∃q n r,vv= .slice q n r/\(q=none\/n=0\/ ∃g,q=some ⟨g,0,none⟩))/\(∀t,c1.U t->c.U t\/t=u)/\c.K T v/\c.E T=m/\c1.E T=m+1/\T≠u:=by
 have eh:EH c hp0:=λt e hr=>h.ents t e (K0 BT hr);obtain⟨pi,z,po⟩:=p;unfold Tn at hs;split at hs
 ·rename_i e z0 l g ep c0 u5;split at hs
  ·rename_i As;obtain⟨rfl,rfl,iE⟩:=As;simp only at iE;subst iE;split at hs
   ·rename_i e2 z2 l2 BQ;simp only[Ac,AP]at hs;obtain⟨rfl,rfl⟩:=hs;simp only at BQ;obtain⟨q1,q2,q3,q4,q5⟩:=eh T _ (Cu u5 (ED _));obtain⟨b,n9,cap,C,ty,fz,kk,k,p1,p2,p3,p4,p5,p6,p7⟩:=IX q3;obtain⟨d1,d2,⟨a9,d3,_⟩|⟨g9,cap9,C9,ys,N,d3,d4,d5,d6,d7,d8,d9,d10,d11,d12⟩⟩:=q4.inv
    ·rw[p1]at d3;cases d3;omega
    ·rw[p1]at d3;cases d3;rw[d6]at p3;cases p3;rw[AH.ar]at d2 d12;have vL:po<z:=by
      rcases Nat.lt_or_ge po l.length with hh|hh
      ·omega
      ·rw[List.getElem?_eq_none hh]at BQ;cases BQ
     have Hr:k.toNat<ys.length:=by omega
     have hmul:(k.toNat+1)*z<=ys.length*z:=Bf _ (by omega);have Et:ys.length*z<=cap*z:=Bf _ d7;rw[Nat.add_mul]at hmul;have Dw:C.toList.length=cap*z:=by simpa using d9
     have AL:k.toNat*z+po<C.size:=by omega
     obtain⟨N1,N2,N3,rfl,s1,s2,s3⟩:=d12.split (k.toNat*z+po) 1;have Bh:((C.toList.take (ys.length*z)).drop (k.toNat*z+po)).take 1=[vv]:=by have hv:C[k.toNat*z+po]?=some vv:=p7;rw[List.drop_take,List.take_take,Nat.min_eq_left (by omega),Be (by simpa using AL),List.take_succ_cons,List.take_zero];rw[Array.getElem?_eq_getElem AL]at hv;simpa using hv
     have Ia:=Mg Hr;generalize Np:(AV.sl ys).nth k.toNat=yk at Ia;have Fo:=d10 yk (List.mem_of_getElem? Ia);have C6:((Ap ys).drop (k.toNat*z+po)).take 1=[(E.fld (.idx c0 pi) po 1 false).den c.ρ]:=by rw[S6 ys d10 _ _ Ia po 1 (by omega),Be (by omega),List.take_succ_cons,List.take_zero];simp only[E.den,d4,p4,AV.idx,Np,AV.fld];simp[show po<yk.cells.length by omega]
     have Bc:((B5 ys.length l).drop (k.toNat*z+po)).take 1=[.row e2 z2 l2]:=by
      rw[<-d2,SY l _ _ _ _ Hr (by omega)];have IS:po<l.length:=by omega
      rw[Be IS,List.take_succ_cons,List.take_zero];rw[BH IS]at BQ;simpa using BQ
     rw[Bh,C6,Bc]at s2;have F4:=h.bd _ _ q1;have IA:T≠u:=λhh=>hu (hh▸F4);have BZ:=h.gw.nodup T;simp only[GI.own,q5,AB,d5]at BZ;have AT:∀r∈([⟨T,none,b::(N1++N3), .hol e z l g (ep+1) c0 pi po u⟩,⟨u,some vv,N2,if l2.toList.all DT.bg then .row e2 z2 0 (.fld (.idx c0 pi) po 1 false) true else .deep e2 z2 l2.toList 0 0 (.fld (.idx c0 pi) po 1 false)⟩]:List AN),r.new.isSome=true-> ¬c.U r.tag:=λr hr hs=>by
      simp only[Ad,List.not_mem_nil,or_false]at hr;rcases hr with rfl|rfl
      ·cases hs
      ·exact hu
     refine⟨[⟨T,none,b::(N1++N3), .hol e z l g (ep+1) c0 pi po u⟩,⟨u,some vv,N2,if l2.toList.all DT.bg then .row e2 z2 0 (.fld (.idx c0 pi) po 1 false) true else .deep e2 z2 l2.toList 0 0 (.fld (.idx c0 pi) po 1 false)⟩],_,rfl,?_⟩;generalize AY:([⟨T,none,b::(N1++N3), .hol e z l g (ep+1) c0 pi po u⟩,⟨u,some vv,N2,if l2.toList.all DT.bg then .row e2 z2 0 (.fld (.idx c0 pi) po 1 false) true else .deep e2 z2 l2.toList 0 0 (.fld (.idx c0 pi) po 1 false)⟩]:List AN)=recs at AT;have hn:(recs.map AN.tag).Nodup:=by rw[<-AY];simp[IA]
     have aft:=Cx.da (w':=c.w) h.bd hn AT;have DK:(⟨T,none,b::(N1++N3), .hol e z l g (ep+1) c0 pi po u⟩:AN)∈recs:=by rw[<-AY];simp
     have Dn:(⟨u,some vv,N2,if l2.toList.all DT.bg then .row e2 z2 0 (.fld (.idx c0 pi) po 1 false) true else .deep e2 z2 l2.toList 0 0 (.fld (.idx c0 pi) po 1 false)⟩:AN)∈recs:=by rw[<-AY];simp
     obtain⟨k1,k2,k3⟩:=aft.new _ Dn vv rfl;have kgT:=aft.G _ DK;have keT:=aft.fm _ DK rfl;have kgu:=aft.G _ Dn;have keu:=aft.ic _ Dn rfl;obtain⟨kT1,kT2⟩:=aft.K T g q1;simp only at k1 k2 k3 kgT keT kgu keu;have LG:∀q,q∈b::(N1++N3)\/q∈N2->q∈(c.G T).top:=λq hq=>by rw[d5];simp only[Ad,Af]at hq ⊢;rcases hq with(hq|hq|hq)|hq<;>simp[hq]
     obtain⟨hrel,BX⟩:=h.changes (recs:=recs) (gs:=[]) (hs:=(c.G T).top) (ED _) (Mod.refl _ c.w) hn AT (λq hq=>⟨_,DK,hq⟩) (by
       rw[<-AY];simp only[List.flatMap_cons,List.flatMap_nil,AB];rw[List.nodup_cons]at BZ;obtain⟨n1,n2⟩:=BZ;rw[List.append_assoc,List.nodup_append,List.nodup_append]at n2;obtain⟨a1,⟨a2,a3,a4⟩,a5⟩:=n2;rw[List.cons_append,List.nodup_cons,List.nodup_append,List.nodup_append];refine⟨λhh=>n1 ?_,⟨a1,a3,λx hx y hy=>a5 x hx y (Af.2 (.inr hy))⟩,a2,λx hx y hy Fw=> ?_⟩
       ·simp only[Af]at hh ⊢;rcases hh with(hh|hh)|hh<;>simp[hh]
       ·rcases Af.1 hx with hx|hx
        ·exact a5 x hx y (Af.2 (.inl hy)) Fw
        ·exact a4 y hy x hx Fw.symm)
      (λr hr q hq=>by
       have:q∈(c.G T).top:=by
        rw[<-AY]at hr;simp only[Ad,List.not_mem_nil,or_false]at hr;rcases hr with rfl|rfl
        ·exact LG q (.inl hq)
        ·exact LG q (.inr hq)
       exact⟨.inl this,h.gw.inb T q (by simp[GI.own,this])⟩)
      (λr hr=>by
       rw[<-AY]at hr;simp only[Ad,List.not_mem_nil,or_false]at hr;rcases hr with rfl|rfl
       ·intros;simp
       ·intros;simp only;split<;>simp)
      (λhk r hr=>by
       rw[<-AY]at hr;simp only[Ad,List.not_mem_nil,or_false]at hr;rcases hr with rfl|rfl
       ·refine⟨kT1,λg' Cf=>q2 g' (aft.old T F4 g' Cf),by rw[keT,q3],?_,by rw[kgT]⟩;rw[kT2,p1,kgT];exact⟨b,cap,C,ys,kk,k,N1,N3,rfl,d4,p4,p5,p6,vL,d1,d2,d6,d7,d8,d9,d10,d11,rfl,k1,by rw[k3];exact p7,s1,s3⟩
       ·simp only;split
        ·rename_i hf;have Bd:=s2.lr hf;refine⟨k1,k2,[],?_,by simp,λ_=>⟨rfl,by rw[kgu]⟩,λ_=>by rw[kgu]⟩;rw[k3,kgu];exact Bd
        ·refine⟨k1,k2,keu,?_,by rw[kgu]⟩;rw[k3,kgu,AH.cm];exact s2)
     refine⟨?_,BX,k1,k3,?_,λt ht=> ?_,q1,q3,by rw[keT,q3],IA⟩
     ·have:(recs.map λr=>(r.tag,CB [] r.bc))=[(T, .hol e z l g (ep+1) c0 pi po u),(u,if l2.toList.all DT.bg then .row e2 z2 0 (.fld (.idx c0 pi) po 1 false) true else .deep e2 z2 l2.toList 0 0 (.fld (.idx c0 pi) po 1 false))]:=by
       rw[<-AY];simp[CB]
      rw[this]at hrel;exact hrel
     ·obtain⟨_,_,⟨a9,h1,_⟩|⟨g9,cap9,C9,ys9,N9,h1,_⟩⟩:=s2.inv
      ·exact⟨a9,0,0,h1, .inr (.inl rfl)⟩
      ·exact⟨_,_,_,h1, .inr (.inr ⟨g9,rfl⟩)⟩
     ·rcases ht with ht|⟨r,hr,rfl⟩
      ·exact .inl ht
      ·rw[<-AY]at hr;simp only[Ad,List.not_mem_nil,or_false]at hr;rcases hr with rfl|rfl
       ·exact .inl F4
       ·exact .inr rfl
   ·cases hs
  ·cases hs
 ·cases hs
theorem Rel.close(h:Rel c n sl hp a){T u:Nat}{hl r d:Ae}(hT:hp T=some hl)(hu:hp u=some r)(hr:Tm P hl r=some d)(KB:∃q1 q2 q3 q4 q5 q6 q7 q8,hl= .hol q1 q2 q3 q4 q5 q6 q7 q8 u)(IA:T≠u):
  ∃recs c1,c1=c.dd c.w recs/\Rel c1 n sl (A9 hp [(T,d),(u, .dead)]) a/\(∀t,c1.U t->c.U t)/\c.E T<c1.E T:=by
 obtain⟨e,z,l,g,ep,c0,i,o',rfl⟩:=KB;have key:∀(e2 z2:Nat) (l2:AH) (x:E),l[o']?=some (.row e2 z2 l2)->DC c.w [.row e2 z2 l2] [c.H u 0] [x.den c.ρ] (c.G u).top->c.U u->d= .deep e z l g (ep+1) (.set c0 i (.put (.idx c0 i) o' x (Aj P e)))->(Aj P e=false->z=1)->
   ∃recs c1,c1=c.dd c.w recs/\Rel c1 n sl (A9 hp [(T,d),(u, .dead)]) a/\(∀t,c1.U t->c.U t)/\c.E T<c1.E T:=by
  rintro e2 z2 l2 x BQ Rb T6 rfl Hi;obtain⟨q1,q2,q3,⟨b,cap,C,ys,kk,k,N1,N2,p1,p2,p3,p4,p5,p6,p7,p7',p8,p9,p10,p11,p12,p13,p14,p15,p16,p17,p18⟩,q5⟩:=h.ents T _ (by rw[hT];rfl);have F4:=h.bd _ _ q1;have Hr:k.toNat<ys.length:=by omega
  have hmul:(k.toNat+1)*z<=ys.length*z:=Bf _ (by omega);have Et:ys.length*z<=cap*z:=Bf _ p9;rw[Nat.add_mul]at hmul;have Dw:C.toList.length=cap*z:=by simpa using p11
  have AL:k.toNat*z+o'<C.size:=by omega
  have Ia:=Mg Hr;generalize Np:(AV.sl ys).nth k.toNat=yk at Ia;have Fo:=p12 yk (List.mem_of_getElem? Ia);obtain⟨zs,Dr⟩:∃zs,x.den c.ρ= .sl zs:=by
   obtain⟨_,_,⟨_,_,hx,_⟩|⟨_,_,_,_,_,_,hx,_⟩⟩:=Rb.inv
   ·exact⟨_,hx⟩
   ·exact⟨_,hx⟩
  have F8:(x.den c.ρ).cells=[x.den c.ρ]:=by rw[Dr];rfl
  have hz:(yk.cz o' (x.den c.ρ) (Aj P e)).cells=setVs yk.cells o' (x.den c.ρ).cells:=by
   refine bU ?_ (λhg=> ?_)
   ·cases hg:Aj P e with
    |true=>exact .inr rfl
    |false=>left;rw[Dr];intro cs hh;cases hh
   ·have:=Hi hg;exact⟨by omega,by omega,F8⟩
  have Eo:Ap (ys.set k.toNat (yk.cz o' (x.den c.ρ) (Aj P e)))=setVs (Ap ys) (k.toNat*z+o') (x.den c.ρ).cells:=
   Wm ys _ _ yk o' _ p12 Ia (by rw[F8];simp;omega) hz
  have Gp:((B5 ys.length l).drop (k.toNat*z+o')).take 1=[.row e2 z2 l2]:=by
   rw[<-p7',SY l _ _ _ _ Hr (by omega)];have IS:o'<l.length:=by omega
   rw[Be IS,List.take_succ_cons,List.take_zero];rw[BH IS]at BQ;simpa using BQ
  have RN:setVs (C.toList.take (ys.length*z)) (k.toNat*z+o') [c.H u 0]=C.toList.take (ys.length*z):=by
   apply List.ext_getElem?;intro j;have uY:(C.toList.take (ys.length*z)).length=ys.length*z:=by rw[Ax,Dw];exact Nat.min_eq_left Et
   rw[PH _ _ _ (by rw[uY];show k.toNat*z+o'+1<=_;omega)];split
   ·rename_i hj;simp only[AR,List.length_nil]at hj;have:j=k.toNat*z+o':=by omega
    subst this;rw[Nat.sub_self,List.getElem?_take,if_pos (by omega)];have:=p16;simpa using this.symm
   ·rfl
  have A0:DC c.w [.row e z (AH.of l)] [c.H T g] [(E.set c0 i (.put (.idx c0 i) o' x (Aj P e))).den c.ρ] (b::(N1++((c.G u).top++N2))):=by
   have Ca:(E.set c0 i (.put (.idx c0 i) o' x (Aj P e))).den c.ρ= .sl (ys.set k.toNat (yk.cz o' (x.den c.ρ) (Aj P e))):=by simp only[E.den,p2,p3,AV.idx,Np,AV.cx]
   rw[Ca,p1];have DJ:(ys.set k.toNat (yk.cz o' (x.den c.ρ) (Aj P e))).length=ys.length:=List.length_set;have:=DC.row (w:=c.w) (e:=e) (z:=z) (l:=AH.of l) (g:=b) (cap:=cap) (C:=C) (ys:=ys.set k.toNat (yk.cz o' (x.den c.ρ) (Aj P e))) (N1:=N1++((c.G u).top++N2)) (ts:=[]) (vs:=[]) (xs:=[]) (N:=[]) p7 (by rw[AH.ar];exact p7') p8 (by rw[DJ];exact p9) p10 p11 (λw hw=>by
     rcases List.mem_or_eq_of_mem_set hw with hw|rfl
     ·exact p12 w hw
     ·rw[hz,PK _ _ _ (by rw[F8,Fo];simp;omega)];exact Fo) (by rw[DJ];exact p13) (by
     rw[DJ,AH.ar,Eo,<-RN];refine DC.setVs p17 ?_ ?_
     ·exact p18
     ·rw[Bt,Gp,F8];exact Rb) .nil
   rw[DJ]at this;simpa using this
  have hTK:=q1;have AT:∀r∈([⟨T,none,b::(N1++((c.G u).top++N2)), .deep e z l g (ep+1) (.set c0 i (.put (.idx c0 i) o' x (Aj P e)))⟩,⟨u,none,[], .dead⟩]:List AN),r.new.isSome=true-> ¬c.U r.tag:=λr hr hs=>by simp only[Ad,List.not_mem_nil,or_false]at hr;rcases hr with rfl|rfl<;>cases hs
  refine⟨[⟨T,none,b::(N1++((c.G u).top++N2)), .deep e z l g (ep+1) (.set c0 i (.put (.idx c0 i) o' x (Aj P e)))⟩,⟨u,none,[], .dead⟩],_,rfl,?_⟩;generalize AY:([⟨T,none,b::(N1++((c.G u).top++N2)), .deep e z l g (ep+1) (.set c0 i (.put (.idx c0 i) o' x (Aj P e)))⟩,⟨u,none,[], .dead⟩]:List AN)=recs at AT;have hn:(recs.map AN.tag).Nodup:=by rw[<-AY];simp[IA]
  have aft:=Cx.da (w':=c.w) h.bd hn AT;have DK:(⟨T,none,b::(N1++((c.G u).top++N2)), .deep e z l g (ep+1) (.set c0 i (.put (.idx c0 i) o' x (Aj P e)))⟩:AN)∈recs:=by rw[<-AY];simp
  have Dn:(⟨u,none,[], .dead⟩:AN)∈recs:=by rw[<-AY];simp
  have kgT:=aft.G _ DK;have keT:=aft.fm _ DK rfl;have kgu:=aft.G _ Dn;obtain⟨kT1,kT2⟩:=aft.K T g q1;simp only at kgT keT kgu;have Cc:∀q,q∈b::(N1++((c.G u).top++N2))->q∈(c.G T).top\/q∈(c.G u).top:=λq hq=>by rw[p14];simp only[Ad,Af]at hq ⊢;rcases hq with hq|hq|hq|hq<;>simp[hq]
  have M9:=h.gw.nodup T;simp only[GI.own,q5,AB,p14]at M9;have YC:(c.G u).top.Nodup:=by have:=h.gw.nodup u;simp only[GI.own]at this;exact(List.nodup_append.1 this).1
  have FH:∀q∈(c.G u).top,q∉b::(N1++N2):=λq hq hh=>h.gw.cd u T (Ne.symm IA) q (by simp[GI.own,hq]) (by rw[<-p14]at hh;simp[GI.own,hh]);obtain⟨hrel,BX⟩:=h.changes (recs:=recs) (gs:=[]) (hs:=(c.G T).top++(c.G u).top) (ED _) (Mod.refl _ c.w) hn AT (λq hq=>by
    rcases Af.1 hq with hq|hq
    ·exact⟨_,DK,hq⟩
    ·exact⟨_,Dn,hq⟩) (by
    rw[<-AY];simp only[List.flatMap_cons,List.flatMap_nil,AB];rw[List.nodup_cons,List.nodup_append]at M9;obtain⟨n1,a1,a2,a3⟩:=M9;rw[List.nodup_cons,List.nodup_append,List.nodup_append];refine⟨λhh=> ?_,a1,⟨YC,a2,λx hx y hy Fw=>FH x hx (by rw[Fw];simp[hy])⟩,λx hx y hy Fw=> ?_⟩
    ·simp only[Af]at hh n1;rcases hh with hh|hh|hh
     ·exact n1 (.inl hh)
     ·exact FH b hh (by simp)
     ·exact n1 (.inr hh)
    ·rcases Af.1 hy with hy|hy
     ·exact FH y hy (by rw[<-Fw];simp[hx])
     ·exact a3 x hx y hy Fw)
   (λr hr q hq=>by
    have:q∈(c.G T).top\/q∈(c.G u).top:=by
     rw[<-AY]at hr;simp only[Ad,List.not_mem_nil,or_false]at hr;rcases hr with rfl|rfl
     ·exact Cc q hq
     ·simp at hq
    refine⟨.inl (Af.2 this),?_⟩;rcases this with hh|hh
    ·exact h.gw.inb T q (by simp[GI.own,hh])
    ·exact h.gw.inb u q (by simp[GI.own,hh]))
   (λr hr=>by rw[<-AY]at hr;simp only[Ad,List.not_mem_nil,or_false]at hr;rcases hr with rfl|rfl<;>(intros;simp))
   (λhk r hr=>by
    rw[<-AY]at hr;simp only[Ad,List.not_mem_nil,or_false]at hr;rcases hr with rfl|rfl
    ·exact⟨kT1,λg' Cf=>q2 g' (aft.old T F4 g' Cf),by rw[keT,q3],by rw[kT2,kgT];exact A0,by rw[kgT]⟩
    ·exact⟨by rw[kgu],by rw[kgu]⟩)
  refine⟨?_,λt ht=> ?_,by rw[keT];omega⟩
  ·have:(recs.map λr=>(r.tag,CB [] r.bc))=[(T, .deep e z l g (ep+1) (.set c0 i (.put (.idx c0 i) o' x (Aj P e)))),(u, .dead)]:=by
    rw[<-AY];simp[CB]
   rw[this]at hrel;exact hrel
  ·rcases ht with ht|⟨r,hr,rfl⟩
   ·exact ht
   ·rw[<-AY]at hr;simp only[Ad,List.not_mem_nil,or_false]at hr;rcases hr with rfl|rfl
    ·exact F4
    ·exact T6
 have T6:c.U u:=h.ch u r hu;unfold Tm at hr;simp only at hr;split at hr
 ·rename_i e2 z2 l2 e3 z3 x BQ;split at hr
  ·rename_i hh;obtain⟨hf,rfl,rfl,hlen,Ay⟩:=hh;simp only[Ac]at hr;obtain⟨q1,q2,N,q4,q5,q6,q7⟩:=h.ents u _ (by rw[hu];rfl);obtain⟨hN,_⟩:=q6 rfl;have hN:N=[]:=hN;subst hN;exact key _ _ _ _ BQ (DC.jz q4 hf hlen) T6 hr.symm (by rcases Ay with hh|hh;(rw[hh];simp);exact λ_=>hh)
  ·cases hr
 ·rename_i e2 z2 l2 e3 z3 l3 x BQ;split at hr
  ·rename_i hh;obtain⟨rfl,rfl,hb,Ay⟩:=hh;simp only[Ac]at hr;have hb:=AH.of_eq hb;subst hb;obtain⟨q1,q2,q3,q4,q5⟩:=h.ents u _ (by rw[hu];rfl);rw[AH.cm]at q4;exact key _ _ _ _ BQ q4 T6 hr.symm (by rcases Ay with hh|hh;(rw[hh];simp);exact λ_=>hh)
  ·cases hr
 ·cases hr
end
section
variable {P:Program} {c:Cx} {n nx:Nat} {sl sl0:Nat->SV} {hp hp0:Nat->Option Ae} {a:Act} {o:Oper} {gs:Gd} {e:A3} {sg:BN} {nv:Nat}
theorem PO(hp:Nat->Option Ae):∀(l:List (Nat × Ae)) (t:Nat),A9 hp l t=match KX l t with|some f=>some f|none=>hp t
 | [],t=>rfl
 |(u,e)::l,t=>by
  have:=PO (λv=>if v=u then some e else hp v) l t;simp only[A9,List.foldl_cons,KX]at this ⊢;rw[this];cases KX l t with
  |some f=>rfl
  |none=>
   simp only;by_cases h:u=t
   ·rw[if_pos h.symm,if_pos h]
   ·rw[if_neg (Ne.symm h),if_neg h]
theorem zqg{hp:Nat->Option Ae}{T v m u:Nat}{p:E × Nat × Nat}{h r:Ae}(hs:Tn hp T v m u p=some (h,r)):∃e z l ep c0 i o',h= .hol e z l v (m+1) c0 i o' u/\CT hp [] T=some (.deep e z l v ep c0)/\ep=m:=by
 unfold Tn at hs;split at hs
 ·rename_i hl;split at hs
  ·rename_i hh;obtain⟨rfl,rfl,_⟩:=hh;split at hs
   ·simp only[Ac,AP]at hs;obtain⟨rfl,_⟩:=hs;exact⟨_,_,_,_,_,_,_,rfl,hl,rfl⟩
   ·cases hs
  ·cases hs
 ·cases hs
theorem zqC{h r d:Ae}{e z:Nat}{l:List DT}{g ep:Nat}{c0 i:E}{o' u:Nat}(hh:h= .hol e z l g ep c0 i o' u)(hc:Tm P h r=some d):∃x,d= .deep e z l g (ep+1) x:=by
 subst hh;unfold Tm at hc;simp only at hc;split at hc
 ·split at hc
  ·simp only[Ac]at hc;exact⟨_,hc.symm⟩
  ·cases hc
 ·split at hc
  ·simp only[Ac]at hc;exact⟨_,hc.symm⟩
  ·cases hc
 ·cases hc
theorem zzL(I0:∀f s,sg f=some s->f<1000000)(h:Bk P c n nx sl hp a sl0 hp0 o [])(hu: ¬c.U (nx+999))(he:Tx P sg sl0 hp0 nv nx o=some e)
  (hc:∀q∈e.bu,q.den c.ρ) (Bb:∀cl,e.call=some cl-> ∃r,c.ρ[nv]?=some r/\HH (Cg P sg) cl.fn ((EL.of cl.args).den c.ρ) c.ρ r):Aw P o c n nx sl hp [] a e:=by
 unfold Tx at he;simp only at he;split at he
 ·cases he
 rename_i t T v m p s Lr;split at he
 ·cases he
 rename_i hl inn RO;split at he
 ·cases he
 rename_i e0 Kk;split at he
 ·cases he
 rename_i CI;have CI:e0.bm=none:=by cases hh:e0.bm with|none=>rfl|some x=>rw[hh]at CI;simp at CI
 obtain⟨CE,AX⟩:=SN Lr;have CE:Operand.tmp t∈o.op.operands:=by simpa using CE
 obtain⟨fe,fz,fl,fep,fc0,fi,fo,rfl,GZ,rfl⟩:=zqg RO;have hE:c.E T=fep:=(h.eh T _ (Cu GZ (ED _))).2.2.1;have Ey:=h.rel.ct t;rw[<-h.sl t CE]at Ey;obtain⟨vv,IX,A1⟩:∃vv,HU c T v (some p) vv/\ ∀c1:Cx,c1.ρ=c.ρ->c1.K (nx+999) 0->c1.H (nx+999) 0=vv->(∃q n r,vv= .slice q n r/\(q=none\/n=0\/ ∃g,q=some ⟨g,0,none⟩))->SR c1 [s] [a.tmps.getD t undef]:=by
  rcases AX with⟨y,CU,rfl⟩|⟨y,k,z,q,CU,rfl⟩
  ·rw[CU]at Ey;generalize a.tmps.getD t undef=av at Ey ⊢;cases Ey with
   |via h1 h2 h3 _=>obtain⟨_,hp⟩:=h3 hE;refine⟨_,hp,λc1 e1 k1 k2 k3=> ?_⟩;obtain⟨q,n,r,rfl,_⟩:=k3;exact .own k1 k2 .nil
  ·rw[CU]at Ey;generalize a.tmps.getD t undef=av at Ey ⊢;cases Ey with
   |vptr h1 h2 h3 _=>
    obtain⟨b,off,len,cap,kk,kv,g1,g2,g3,g4,g5,g6,rfl⟩:=h3 hE;refine⟨_,g2,λc1 e1 k1 k2 k3=> ?_⟩;obtain⟨q9,n9,r9,hv,hq⟩:=k3;cases hv;have FQ:off=0:=by
     rcases hq with hq|hq|⟨g,hq⟩
     ·cases hq
     ·omega
     ·cases hq;rfl
    subst FQ;have:=SR.cf (c:=c1) (i:=k) (sz:=z) (o:=q) k1 k2 (by rw[e1];exact g3) g4 g5 .nil;simpa using this
 obtain⟨recs,c1,rfl,C7,M0,Oy,Ka,wF,XM,hKT,_,gB,IA⟩:=h.rel.split RO h.hp hu (λ_=>IX);have Kw:=A1 _ M0.ρ Oy Ka wF;have E2:=C7.ik (sl':=λi=>if i=t then s else sl i) (λi=>by
  by_cases hi:i=t
  ·subst hi;right;simpa using Kw
  ·left;simp[hi])
 have DM:∀x,A9 hp [(T, .hol fe fz fl v (fep+1) fc0 fi fo (nx+999)),(nx+999,inn)] x=if x=nx+999 then some inn else if x=T then some (.hol fe fz fl v (fep+1) fc0 fi fo (nx+999))else hp x:=λx=>rfl;have pre1:Bk P (c.dd c.w recs) n nx (λi=>if i=t then s else sl i) (A9 hp [(T, .hol fe fz fl v (fep+1) fc0 fi fo (nx+999)),(nx+999,inn)]) a (λi=>if i=t then s else sl0 i) (λw=>if w=T then some (.hol fe fz fl v (fep+1) fc0 fi fo (nx+999))else if w=nx+999 then some inn else hp0 w) o []:=by
  refine⟨E2,ED _,λi hi=> ?_,λx f hf=> ?_,λx h1 h2 hx=> ?_⟩
  ·by_cases Lx:i=t
   ·simp[Lx]
   ·simp only[if_neg Lx];exact h.sl i hi
  ·rw[DM];by_cases h1:x=T
   ·rw[if_pos h1]at hf;rw[if_neg (by rw[h1];exact IA),if_pos h1];exact hf
   ·rw[if_neg h1]at hf;by_cases h2:x=nx+999
    ·rw[if_pos h2]at hf ⊢;exact hf
    ·rw[if_neg h2]at hf;rw[if_neg h2,if_neg h1];exact h.hp x f hf
  ·rcases XM x hx with hx|hx
   ·exact h.new x h1 h2 hx
   ·omega
 have uL:∀(c':Cx) (a':Act) (w9:SV),Rel c' n (Cz n (λi=>if i=t then s else sl i) o.dst w9) (λ_=>none) a'->True:=λ_ _ _ _=>trivial;have stale:∀(c':Cx) (v':Value),c'.K T v->fep<c'.E T->SR c' [sl t] [v']:=by
  intro c' v' hk AL;rw[<-h.sl t CE];rcases AX with⟨y,CU,_⟩|⟨y,k,z,q,CU,_⟩
  ·rw[CU];exact .via hk (by omega) (λhh=>by omega) .nil
  ·rw[CU];exact .vptr hk (by omega) (λhh=>by omega) .nil
 have back:∀{c':Cx} {hp':Nat->Option Ae} {a':Act} {w9:SV},Rel c' n (Cz n (λi=>if i=t then s else sl i) o.dst w9) hp' a'->c'.K T v->fep<c'.E T->Rel c' n (Cz n sl o.dst w9) hp' a':=by
  intro c' hp' a' w9 hr hk AL;refine hr.ik λi=> ?_;unfold Cz;by_cases h1:o.dst=some i/\i<n
  ·left;rw[if_pos h1,if_pos h1]
  ·rw[if_neg h1,if_neg h1];by_cases h2:i=t
   ·subst h2;right;exact stale _ _ hk AL
   ·left;show sl i=if i=t then s else sl i;rw[if_neg h2]
 split at he
 ·
  split at he
  ·rename_i Dm;simp only[Ac]at he;subst he;have IF:=fC I0 pre1 Kk hc Bb (λx hx=>by rw[CI]at hx;cases hx);intro next Q hk
   refine IF next Q λa' c' A4 hr=> ?_
   have XK:A9 (A9 hp [(T, .hol fe fz fl v (fep+1) fc0 fi fo (nx+999)),(nx+999,inn)]) e0.bc T=some (.hol fe fz fl v (fep+1) fc0 fi fo (nx+999)):=by rw[PO,Dm,DM,if_neg IA,if_pos rfl]
   obtain⟨g1,_,g3,_⟩:=hr.ents T _ (by rw[XK];rfl);refine hk a' c' ⟨A4.ρ,A4.A,A4.w0,A4.Mu,λx hx=> ?_⟩ (back hr g1 (by omega));rcases A4.U x hx with hx|hx
   ·rcases XM x hx with hx|hx
    ·exact .inl hx
    ·exact .inr ⟨by omega,by simp only[BJ];omega⟩
   ·exact .inr hx
  ·cases he
 ·split at he
  ·rename_i r' u6 u0;obtain⟨d,hd,rfl⟩:=An.1 he;have IF:=fC I0 pre1 Kk hc Bb (λx hx=>by rw[CI]at hx;cases hx);intro next Q hk
   refine IF next Q λa' c' A4 hr=> ?_
   have XK:A9 (A9 hp [(T, .hol fe fz fl v (fep+1) fc0 fi fo (nx+999)),(nx+999,inn)]) e0.bc T=some (.hol fe fz fl v (fep+1) fc0 fi fo (nx+999)):=by rw[PO,u0,DM,if_neg IA,if_pos rfl]
   have wB:A9 (A9 hp [(T, .hol fe fz fl v (fep+1) fc0 fi fo (nx+999)),(nx+999,inn)]) e0.bc (nx+999)=some r':=by rw[PO,u6]
   obtain⟨recs2,c2,rfl,Dz,tW,hE2⟩:=hr.close XK wB hd ⟨_,_,_,_,_,_,_,_,rfl⟩ IA;obtain⟨x9,rfl⟩:=zqC rfl hd;have XL:A9 (A9 (A9 hp [(T, .hol fe fz fl v (fep+1) fc0 fi fo (nx+999)),(nx+999,inn)]) e0.bc) [(T, .deep fe fz fl v (fep+1+1) x9),(nx+999, .dead)] T=some (.deep fe fz fl v (fep+1+1) x9):=by show(if T=nx+999 then _ else if T=T then _ else _)=_;rw[if_neg IA,if_pos rfl]
   obtain⟨g1,_,g3,_⟩:=Dz.ents T _ (by rw[XL];rfl);have DI:=back Dz g1 (by omega);have Bu:A9 hp ((T, .hol fe fz fl v (fep+1) fc0 fi fo (nx+999))::(nx+999,inn)::e0.bc++ [(T, .deep fe fz fl v (fep+1+1) x9),(nx+999, .dead)])=A9 (A9 (A9 hp [(T, .hol fe fz fl v (fep+1) fc0 fi fo (nx+999)),(nx+999,inn)]) e0.bc) [(T, .deep fe fz fl v (fep+1+1) x9),(nx+999, .dead)]:=by rw[<-NW,<-NW];rfl
   refine hk a' (c'.dd c'.w recs2) ⟨A4.ρ,A4.A,A4.w0,A4.Mu,λx hx=> ?_⟩ ?_
   ·rcases A4.U x (tW x hx)with hx|hx
    ·rcases XM x hx with hx|hx
     ·exact .inl hx
     ·exact .inr ⟨by omega,by simp only[BJ];omega⟩
    ·exact .inr hx
   ·have:=DI;rw[<-Bu]at this;exact this
  ·cases he
theorem zvI(h:Bk P c n nx sl hp a sl0 hp0 o gs){e:A3}(dp:Bool)(hd:Aw P o c n nx sl hp gs a e):Aw P o c n nx sl hp gs a (Jk dp hp0 gs e):=by
 unfold Jk;split
 ·exact hd
 ·split
  ·rename_i l hl;intro next Q hk
   refine hd next Q λa' c' hs hr=> ?_
   have e1:A9 hp0 e.bc=λt=>match KX e.bc t with|some f=>some f|none=>hp0 t:=funext (PO hp0 e.bc)
   have hl:DB (A9 hp0 e.bc) [] (pL e.bc)=some l:=by rw[e1];exact hl
   have H2:=hr.freeze (hp0:=A9 hp0 e.bc) (λt e' h'=>by
    rw[PO]at h' ⊢;split at h'
    ·exact h'
    ·exact h.hp t e' h') (ED _) hl
   refine hk a' (c'.bf (l.map (·.1))) ⟨hs.ρ,hs.A,hs.w0,hs.Mu,hs.U⟩ ?_;show Rel _ _ _ (A9 hp (e.bc++l)) a';rw[NW];exact H2
  ·exact hd
theorem ztO(dp:Bool)(e:A3):(Jk dp hp0 gs e).call=e.call:=by
 unfold Jk;split
 ·rfl
 ·split<;>rfl
theorem zv8(dp:Bool)(e:A3):(Jk dp hp0 gs e).bu=e.bu:=by
 unfold Jk;split
 ·rfl
 ·split<;>rfl
theorem bZ(dp:Bool)(e:A3):(Jk dp hp0 gs e).bm=e.bm:=by
 unfold Jk;split
 ·rfl
 ·split<;>rfl
theorem zuF{dp:Bool}{e:A3}{x:E}(h:e.bm=some x):Jk dp hp0 gs e=e:=by unfold Jk;rw[if_pos (by simp[h])]
theorem zxj(h:Bk P c n nx sl hp a sl0 hp0 o gs){e:A3}(fz:Bool)(hd:Aw P o c n nx sl hp gs a e):Aw P o c n nx sl hp gs a (Jr fz hp0 gs e):=by
 unfold Jr;split
 ·exact hd
 ·rename_i Jv;simp only[Bool.or_eq_true,not_or]at Jv;have uM:e.bc=[]:=by simpa using Jv.2
  split
  ·rename_i t g m p x hv;split
   ·rename_i y l hy hl;split
    ·rename_i Ht;intro next Q hk
     refine hd next Q λa' c' hs hr=> ?_
     rw[uM]at hr;have Yi:gs=[]:=by simpa using Jv.1.1.1.2
     subst Yi;have hr:Rel c' n (Cz n sl o.dst e.val) hp a':=hr;have eh:EH c' hp0:=λt e CW=>hr.ents t e (K0 h.hp CW);have H2:=hr.freeze h.hp (ED _) hl;refine hk a' (c'.bf (l.map (·.1))) ⟨hs.ρ,hs.A,hs.w0,hs.Mu,hs.U⟩ ?_;refine{H2 with ct:=λi=> ?_};have h1:=hr.ct i;have h2:=H2.ct i;unfold Cz at h1 h2 ⊢;split
     ·rename_i hi;rw[if_pos hi]at h1;obtain⟨f,q1,q2⟩:=G8 eh (ED _) AZ hy h1 AZ (Av _);exact .e q1 (λb hb=>SU hr eh (ED _) hl Ht (q2 b hb)) .nil
     ·rename_i hi;rw[if_neg hi]at h2;exact h2
    ·exact hd
   ·exact hd
  ·exact hd
theorem zvM(fz:Bool)(e:A3):(Jr fz hp0 gs e).call=e.call:=by
 unfold Jr;split
 ·rfl
 ·split
  ·split
   ·split<;>rfl
   ·rfl
  ·rfl
theorem zwC(fz:Bool)(e:A3):(Jr fz hp0 gs e).bu=e.bu:=by
 unfold Jr;split
 ·rfl
 ·split
  ·split
   ·split<;>rfl
   ·rfl
  ·rfl
theorem nW(fz:Bool)(e:A3):(Jr fz hp0 gs e).bm=e.bm:=by
 unfold Jr;split
 ·rfl
 ·split
  ·split
   ·split<;>rfl
   ·rfl
  ·rfl
theorem zwB{fz:Bool}{e:A3}{x:E}(h:e.bm=some x):Jr fz hp0 gs e=e:=by unfold Jr;rw[if_pos (by simp[h])]
theorem xL(I0:∀f s,sg f=some s->f<1000000):On P sg (Cg P sg):=by
 intro c n nx sl hp a sl0 hp0 o gs e nv h hu he hc Bb CI;unfold K7 at he;split at he
 ·rename_i e' EI;simp only[Ac]at he;subst he;rw[zwC,zv8]at hc;rw[zvM,ztO]at Bb;rw[nW,bZ]at CI;exact zxj h _ (zvI h _ (fC I0 h EI hc Bb CI))
 ·split at he
  ·exact zzL I0 h hu he hc Bb
  ·cases he
theorem zrR{x:E}(he:Tx P sg sl0 hp0 nv nx o=some e)(hq:e.bm=some x):False:=by
 unfold Tx at he;simp only at he;split at he
 ·cases he
 split at he
 ·cases he
 split at he
 ·cases he
 rename_i e0 Kk;split at he
 ·cases he
 rename_i CI;have CI:e0.bm=none:=by cases hh:e0.bm with|none=>rfl|some x=>rw[hh]at CI;simp at CI
 split at he
 ·split at he
  ·simp only[Ac]at he;subst he;rw[CI]at hq;cases hq
  ·cases he
 ·split at he
  ·obtain⟨d,hd,rfl⟩:=An.1 he;rw[CI]at hq;cases hq
  ·cases he
theorem zrF{x:E}(he:K7 P sg sl0 hp0 nv nx gs o=some e)(hq:e.bm=some x):BL P sg sl0 hp0 nv nx gs o=some e:=by
 unfold K7 at he;split at he
 ·rename_i e' EI;simp only[Ac]at he;subst he;rw[nW,bZ]at hq;rw[zwB (by rw[bZ];exact hq),zuF hq];exact EI
 ·split at he
  ·exact(zrR he hq).elim
  ·cases he
theorem zzU:TK P sg:=by
 intro c n nx sl hp a sl0 hp0 o gs e nv x h he hq hb;unfold JP at hb;cases AQ:o.op with
 |binOp op t y z ty=>
  rw[AQ]at hb;simp only at hb;have he:=zrF he hq;simp only[BL,AQ,Ao]at he;obtain⟨s1,BE,s2,A1,he⟩:=he;have key:∀xq,Bp hp0 gs AZ s1=some xq->xq.den c.ρ= .sl []:=by
   intro xq I4;obtain⟨f,q1,_⟩:=h.ji BE (by simp[AQ,Op.operands]) I4;generalize a.eval y=v at q1 hb;split at hb
   ·generalize xq.den c.ρ=d at q1;cases q1 with
    |dn _=>rfl
   ·cases hb
  unfold Qn at he;split at he
  ·split at he
   ·simp at he;subst he;cases hq
   ·simp at he;subst he;cases hq
   ·obtain⟨xq,I4,rfl⟩:=An.1 he;cases hq;exact key _ I4
   ·obtain⟨xq,I4,rfl⟩:=An.1 he;cases hq;exact key _ I4
   ·cases he
  ·split at he
   ·simp at he;subst he;cases hq
   ·cases he
  ·split at he
   ·simp at he;subst he;cases hq
   ·cases he
  ·split at he
   ·simp at he;subst he;cases hq
   ·cases he
  ·split at he
   ·cases he
   ·split at he
    ·split at he
     ·simp at he;subst he;cases hq
     ·simp at he;subst he;cases hq
     ·cases he
    ·cases he
  ·cases he
 |_=>rw[AQ]at hb;simp at hb
end
def GM(ms:List PM)(vs:List Value)(t:Nat):Option Value:=
 if Mm t then(match vs[t/1000]?,(ms[t/1000]?).getD .ro with
  |some v, .bx .. =>if t % 1000=0 then some v else none
  |some v, .mu _=>if 500<=t % 1000 then v.cells[t % 1000-500]? else none
  |_,_=>none)
 else none
section
variable {P:Program} {c:Cx} {w:World}
theorem Cj.gp{ts:List TypeId}{fl:List Bool}{us:List Value}{ys:List AV}{rf hs:List Nat}(h:Cj P w ts fl us ys rf hs){nx:Nat}{mk:Nat->E}{j:Nat}:∀(k:Nat) (u:Value),us[k]?=some u->(∃e,(nx+j+k,e)∈(CJ P nx mk j ts fl).2)->u.cells= #[u]:=by
 induction h generalizing j with
 |nil=>intro k u hu _;simp at hu
 | @deep t ts fl el e9 z9 l9 u us y ys top rf hs h1 h2 QO Ow h3 _ ih=>
  intro k u' hu he;cases k with
  |zero=>simp at hu;subst hu;obtain⟨p,q,r,rfl⟩:=h3.head;rfl
  |succ k=>
   refine ih (j:=j+1) k u' (by simpa using hu) ?_;obtain⟨e,he⟩:=he;simp only[CJ,h1,h2,Ad,AP]at he;rcases he with⟨he,_⟩|he
   ·omega
   ·exact⟨e,by rw[show nx+(j+1)+k=nx+j+(k+1)from by omega];exact he⟩
 | @own t ts fl el u us y ys top N rf hs h1 h2 Iy h3 _ ih=>
  intro k u' hu he;cases k with
  |zero=>simp at hu;subst hu;obtain⟨xs,_,_,_,⟨_,⟨a,rfl⟩,_⟩|⟨g,cap,C,rfl,_⟩⟩:=h3<;>rfl
  |succ k=>
   refine ih (j:=j+1) k u' (by simpa using hu) ?_;obtain⟨e,he⟩:=he;simp only[CJ,h1,h2,Ad,AP]at he;rcases he with⟨he,_⟩|he
   ·omega
   ·exact⟨e,by rw[show nx+(j+1)+k=nx+j+(k+1)from by omega];exact he⟩
 | @rd t ts fl u us y ys f rf hs h1 h3 _ ih=>
  intro k u' hu he;obtain⟨e,he⟩:=he;have Ya:(CJ P nx mk j (t::ts) fl).2=(CJ P nx mk (j+1) ts fl.tail).2:=by
   simp only[CJ];split
   ·rename_i h8 h9;rw[h1 h8]at h9;cases h9
   ·rfl
  rw[Ya]at he;cases k with
  |zero=>
   exfalso;have key:∀(ts:List TypeId) (fl:List Bool) (j' t':Nat) (e':Ae),(t',e')∈(CJ P nx mk j' ts fl).2->nx+j'<=t':=by
    intro ts
    induction ts with
    |nil=>intro fl j' t' e' h;simp[CJ]at h
    |cons a ts ih2=>
     intro fl j' t' e' h;simp only[CJ]at h;split at h
     ·simp only[Ad,AP]at h;rcases h with⟨h,_⟩|h
      ·omega
      ·have:=ih2 _ _ _ _ h;omega
     ·have:=ih2 _ _ _ _ h;omega
   have:=key _ _ _ _ _ he;omega
  |succ k=>exact ih (j:=j+1) k u' (by simpa using hu) ⟨e,by rw[show nx+(j+1)+k=nx+j+(k+1)from by omega];exact he⟩
theorem lT{i b:Nat}(hb:b+400<=1000){t:TypeId}{own:List Bool}{s:SV}{l:List (Nat × Ae)}{v:Value}{x:AV}{rf hs:List Nat}(h:Qm P i b t own=some (s,l))(hv:Oi P w t own v x rf hs)(hx:(E.var i).den c.ρ=x):
  ∃recs:List AN,l=recs.map AN.pair/\recs.flatMap AN.top=hs/\(∀r∈recs,1000*i+b<=r.tag/\r.tag<1000*i+1000/\r.new.isSome)/\(recs.map AN.tag).Nodup/\(∀r∈recs,r.new=v.cells[r.tag-(1000*i+b)]?)/\
   ∀c',EO c c' w recs->(∀b∈rf,c'.ok b)->SR c' [s] [v]/\ ∀r∈recs,C5 c' r.tag r.bc:=by
 obtain⟨us,ys,hg,hc⟩:=hv;unfold Qm at h;simp only at h;split at h
 ·cases h
 rename_i hle;split at hg
 ·rename_i Ay;obtain⟨rfl,rfl,Cw⟩:=hg;obtain⟨recs,e1,e2,e3,e4,e4',e5⟩:=Pn (c:=c) (nx:=1000*i+b) (mk:=Du (.var i) (Aj P t)) hc 0 (by rw[Ay];exact S5 hx);rw[if_pos Ay]at h;simp only[Ac,AP]at h;obtain⟨rfl,rfl⟩:=h;refine⟨recs,e1,e2,λr hr=>by have:=e3 r hr;exact⟨by omega,by omega,this.2.2⟩,e4,λr hr=>by rw[e4' r hr];simp[Value.cells],λc' ha AS=> ?_⟩;obtain⟨q1,q2⟩:=e5 c' ha AS;exact⟨.agg Cw (by rw[BD.ar];exact q1) .nil,q2⟩
 ·rename_i Ay;obtain⟨rfl,rfl⟩:=hg;have Gm:Aj P t=false:=by simpa using Ay
  obtain⟨recs,e1,e2,e3,e4,e4',e5⟩:=Pn (c:=c) (nx:=1000*i+b) (mk:=Du (.var i) (Aj P t)) hc 0 (by
   intro k z hz;cases k with
   |zero=>simp at hz;subst hz;rw[Gm];simpa[Du]using hx
   |succ k=>simp at hz)
  rw[if_neg Ay]at h;split at h
  ·rename_i s' Ba;simp only[Ac,AP]at h;obtain⟨rfl,rfl⟩:=h;refine⟨recs,e1,e2,λr hr=>by have:=e3 r hr;exact⟨by omega,by omega,this.2.2⟩,e4,λr hr=> ?_,λc' ha AS=> ?_⟩
   ·have CW:=e4' r hr;have h3:=e3 r hr;rw[CW,Nat.add_zero];have hlen:=hc.len;have Jw:r.tag-(1000*i+b)=0:=by
     have:=hlen.1;simp at this;omega
    rw[Jw];have:=hc.gp (nx:=1000*i+b) (mk:=Du (.var i) (Aj P t)) (j:=0) 0 v rfl ⟨r.bc,by rw[e1];exact List.mem_map.2 ⟨r,hr,by simp[AN.pair];omega⟩⟩;rw[this];rfl
   ·obtain⟨q1,q2⟩:=e5 c' ha AS;rw[Ba]at q1;exact⟨q1,q2⟩
  ·cases h
theorem mZ{ms0:List PM}{vs0:List Value}:∀(ts:List TypeId) (i:Nat) {ms:List PM} {lo:List Bool} {ss:List SV} {l:List (Nat × Ae)} {vs:List Value} {xs:List AV} {rf lf hs:List Nat},L8 P i ts ms lo=some (ss,l)->Dt P w ts ms lo vs xs rf lf hs->(∀k x,xs[k]?=some x->(E.var (i+k)).den c.ρ=x)->(∀k,ms[k]?=ms0[i+k]?)->(∀k,vs[k]?=vs0[i+k]?)->
  ∃recs:List AN,l=recs.map AN.pair/\recs.flatMap AN.top=hs/\(∀r∈recs,1000*i<=r.tag/\r.tag<1000*(i+ts.length)/\r.new.isSome)/\(recs.map AN.tag).Nodup/\(∀r∈recs,∀v,GM ms0 vs0 r.tag=some v->r.new=some v)/\ss.length=ts.length/\ts.length<=vs.length/\
   ∀c',EO c c' w recs->(∀b∈rf,c'.ok b)->(∀(k:Nat) (v:Value) (x:AV),(ms[k]?).getD .ro= .ro->vs[k]?=some v->xs[k]?=some x->c'.A.lo v x)->SR c' (ss++(List.range (vs.length-ts.length)).map λj=>SV.e (.var (i+ts.length+j))) vs/\ ∀r∈recs,C5 c' r.tag r.bc
 | [],i,ms,lo,ss,l,vs,xs,rf,lf,hs,h,ha,hx,_,_=>by
  simp[L8]at h;obtain⟨rfl,rfl⟩:=h;have key:∀{ms:List PM} {lo:List Bool} {vs:List Value} {xs:List AV} {rf lf hs:List Nat},Dt P w [] ms lo vs xs rf lf hs->hs=[]/\Rd w vs xs rf:=by
   intro ms lo vs
   induction vs generalizing ms lo with
   |nil=>intro xs rf lf hs h;cases h;exact⟨rfl, .nil⟩
   |cons v vs ih=>
    intro xs rf lf hs h;cases h with
    |free h1 h2=>obtain⟨rfl,h3⟩:=ih h2;exact⟨rfl,h1.app h3⟩
  obtain⟨rfl,Db⟩:=key ha;refine⟨[],rfl,rfl,by simp,by simp,by simp,rfl,by simp,λc' Fg AS _=>⟨?_,by simp⟩⟩;have frees:∀(vs:List Value) {xs:List AV} {rf:List Nat} (j:Nat),Rd w vs xs rf->(∀k x,xs[k]?=some x->(E.var (i+j+k)).den c.ρ=x)->(∀b∈rf,c'.ok b)->SR c' ((List.range vs.length).map λq=>SV.e (.var (i+j+q))) vs:=by
   intro vs
   induction vs with
   |nil=>intro xs rf j h _ _;simpa using SR.nil
   |cons v vs ih=>
    intro xs rf j h hx AS;cases xs with
    |nil=>have:=h.len;simp at this
    |cons x xs=>
     obtain⟨f1,f2,rfl,h1,h2⟩:=h.br;have h3:=ih (j+1) h2 (λk y hy=>by rw[show i+(j+1)+k=i+j+(k+1)from by omega];exact hx (k+1) y (by simpa using hy)) λb hb=>AS b (by simp[hb]);rw[AR,List.range_succ_eq_map,List.map_cons,List.map_map];refine SR.cons (.e (f:=f1) (by rw[Fg.w,Fg.ρ];have:=hx 0 x rfl;simp only[Nat.add_zero]at this ⊢;rw[this];exact h1) (λb hb=>AS b (by simp[hb])) .nil) ?_;have e:((λq=>SV.e (.var (i+j+q)))∘Nat.succ)=λq=>SV.e (.var (i+(j+1)+q)):=by funext q;simp only[Function.comp_apply];rw[show i+j+q.succ=i+(j+1)+q from by omega]
     rw[e];exact h3
  simpa using frees vs 0 Db (by simpa using hx) AS
 |t::ts,i,ms,lo,ss,l,vs,xs,rf,lf,hs,h,ha,hx,Es,JB=>by
  unfold L8 at h;split at h
  ·rename_i s l1 ss' l2 h1 h2;simp only[Ac,AP]at h;obtain⟨rfl,rfl⟩:=h;obtain⟨v,vs,x,xs,f,hh,rf,lf,hs,rfl,rfl,rfl,rfl,Ex,A5⟩:∃v vs' x xs' f hh rf' lf' Ba,vs=v::vs'/\xs=x::xs'/\rf=f++rf'/\hs=hh++Ba/\Dt P w ts ms.tail lo.tail vs' xs' rf' lf' Ba/\(Zl P w t (ms.headD .ro) v x f hh\/(lo.headD false=true/\ms.headD .ro= .ro/\f=[]/\hh=[])):=by
    cases ha with
    |cons h1 h2=>exact⟨_,_,_,_,_,_,_,_,_,rfl,rfl,rfl,rfl,h2, .inl h1⟩
    |lent h1 h2 h3 h4=>exact⟨_,_,_,_,[],[],_,_,_,rfl,rfl,by simp,by simp,h4, .inr ⟨h1,h2,rfl,rfl⟩⟩
   have Dy:ms.headD .ro=(ms0[i]?).getD .ro:=by have:=Es 0;rw[Nat.add_zero]at this;rw[<-this];cases ms<;>rfl
   have H8:vs0[i]?=some v:=by have:=JB 0;simpa using this.symm
   have E9:(E.var i).den c.ρ=x:=by simpa using hx 0 x rfl
   obtain⟨r2,b1,b2,b3,b4,b4',b6,b7,b5⟩:=mZ ts (i+1) h2 Ex (λk y hy=>by rw[show i+1+k=i+(k+1)from by omega];exact hx (k+1) y (by simpa using hy)) (λk=>by rw[show i+1+k=i+(k+1)from by omega,<-Es (k+1)];cases ms<;>simp) (λk=>by rw[show i+1+k=i+(k+1)from by omega,<-JB (k+1)];simp);have fin:∀(r1:List AN),l1=r1.map AN.pair->r1.flatMap AN.top=hh->(∀r∈r1,1000*i<=r.tag/\r.tag<1000*i+1000/\r.new.isSome)->(r1.map AN.tag).Nodup->(∀r∈r1,∀v,GM ms0 vs0 r.tag=some v->r.new=some v)->
     (∀c',EO c c' w r1->(∀b∈f,c'.ok b)->(ms.headD .ro= .ro->c'.A.lo v x)->SR c' [s] [v]/\ ∀r∈r1,C5 c' r.tag r.bc)->
     ∃recs:List AN,l1++l2=recs.map AN.pair/\recs.flatMap AN.top=hh++hs/\(∀r∈recs,1000*i<=r.tag/\r.tag<1000*(i+(t::ts).length)/\r.new.isSome)/\(recs.map AN.tag).Nodup/\(∀r∈recs,∀v,GM ms0 vs0 r.tag=some v->r.new=some v)/\(s::ss').length=(t::ts).length/\(t::ts).length<=(v::vs).length/\
      ∀c',EO c c' w recs->(∀b∈f++rf,c'.ok b)->(∀(k:Nat) (v':Value) (x':AV),(ms[k]?).getD .ro= .ro->(v::vs)[k]?=some v'->(x::xs)[k]?=some x'->c'.A.lo v' x')->SR c' ((s::ss')++(List.range ((v::vs).length-(t::ts).length)).map λj=>SV.e (.var (i+(t::ts).length+j))) (v::vs)/\ ∀r∈recs,C5 c' r.tag r.bc:=by
    intro r1 a1 a2 a3 a4 a4' a5;refine⟨r1++r2,by simp[a1,b1],by simp[a2,b2],λr hr=> ?_,?_,λr hr=> ?_,by simp[b6],by simp[b7],λc' Fg AS BQ=> ?_⟩
    ·simp only[AR];rcases Af.1 hr with hr|hr
     ·have:=a3 r hr;exact⟨this.1,by omega,this.2.2⟩
     ·have:=b3 r hr;exact⟨by omega,by omega,this.2.2⟩
    ·rw[List.map_append,List.nodup_append];refine⟨a4,b4,λt1 LQ t2 JA he=> ?_⟩;obtain⟨q1,OD,rfl⟩:=List.mem_map.1 LQ;obtain⟨q2,H6,rfl⟩:=List.mem_map.1 JA;have:=a3 q1 OD;have:=b3 q2 H6;omega
    ·rcases Af.1 hr with hr|hr
     ·exact a4' r hr
     ·exact b4' r hr
    ·obtain⟨p1,p2⟩:=a5 c' (Fg.mono λr hr=>by simp[hr]) (λb hb=>AS b (by simp[hb])) λhl=>BQ 0 v x (by cases ms<;>exact hl) rfl rfl;obtain⟨q1,q2⟩:=b5 c' (Fg.mono λr hr=>by simp[hr]) (λb hb=>AS b (by simp[hb])) λk v' x' k1 k2 k3=>BQ (k+1) v' x' (by cases ms with|nil=>rfl|cons b l=>simpa using k1) (by simpa using k2) (by simpa using k3);refine⟨?_,λr hr=> ?_⟩
     ·have:=p1.cons q1;have e:(λj=>SV.e (.var (i+1+ts.length+j)))=λj=>SV.e (.var (i+(t::ts).length+j)):=by
       funext j;simp only[AR];rw[show i+1+ts.length+j=i+(ts.length+1)+j from by omega]
      rw[e]at this;simpa using this
     ·rcases Af.1 hr with hr|hr
      ·exact p2 r hr
      ·exact q2 r hr
   have pinMu:∀{own:List Bool} {r:AN},ms.headD .ro= .mu own->1000*i+500<=r.tag->r.tag<1000*i+1000->r.new=v.cells[r.tag-(1000*i+500)]?-> ∀v',GM ms0 vs0 r.tag=some v'->r.new=some v':=by
    intro own r hm t1 t2 hn v' hp;unfold GM at hp;split at hp
    ·rw[show r.tag/1000=i from by omega,H8,<-Dy,hm]at hp;simp only at hp;split at hp
     ·rw[hn,show r.tag-(1000*i+500)=r.tag % 1000-500 from by omega];exact hp
     ·cases hp
    ·cases hp
   have pinVa:∀{own:List Bool} {r:AN},ms.headD .ro= .va own->1000*i<=r.tag->r.tag<1000*i+1000-> ∀v',GM ms0 vs0 r.tag=some v'->r.new=some v':=by
    intro own r hm t1 t2 v' hp;unfold GM at hp;split at hp
    ·rw[show r.tag/1000=i from by omega,H8,<-Dy,hm]at hp;simp at hp
    ·cases hp
   cases hm:ms.headD .ro with
   |ro=>
    rw[hm]at h1 A5;simp only[Xb,Ac,AP]at h1;obtain⟨rfl,rfl⟩:=h1;have uN:hh=[]:=by rcases A5 with⟨_,h⟩|⟨_,_,_,h⟩<;>exact h
    subst uN;by_cases BQ:lo.headD false=true
    ·exact fin [] rfl rfl (by simp) (by simp) (by simp) λc' Fg AS hl=>⟨by rw[if_pos BQ];exact .lent (by rw[Fg.ρ,E9];exact hl hm) .nil,by simp⟩
    ·rcases A5 with⟨g1,_⟩|⟨h,_⟩
     ·exact fin [] rfl rfl (by simp) (by simp) (by simp) λc' Fg AS _=>⟨by rw[if_neg BQ];exact .e (f:=f) (by rw[Fg.w,Fg.ρ,E9];exact g1) AS .nil,by simp⟩
     ·exact absurd h BQ
   |va own=>
    rw[hm]at h1 A5
    replace A5:=A5.resolve_right λh=>by cases h.2.1
    obtain⟨r1,a1,a2,a3,a4,a4',a5⟩:=lT (c:=c) (by omega) h1 A5 E9;exact fin r1 a1 a2 (λr hr=>by have:=a3 r hr;exact⟨by omega,this.2⟩) a4 (λr hr=>by have:=a3 r hr;exact pinVa hm (by omega) this.2.1) λc' Fg AS _=>a5 c' Fg AS
   |mu own=>
    rw[hm]at h1 A5
    replace A5:=A5.resolve_right λh=>by cases h.2.1
    obtain⟨r1,a1,a2,a3,a4,a4',a5⟩:=lT (c:=c) (by omega) h1 A5 E9;exact fin r1 a1 a2 (λr hr=>by have:=a3 r hr;exact⟨by omega,this.2⟩) a4 (λr hr=>by have:=a3 r hr;exact pinMu hm this.1 this.2.1 (a4' r hr)) λc' Fg AS _=>a5 c' Fg AS
   |bx own own'=>
    rw[hm]at h1 A5
    replace A5:=A5.resolve_right λh=>by cases h.2.1
    obtain⟨ty,b,C,ys,h9,g1,rfl,g3,g4,rfl,g6,rfl⟩:=A5;simp only[Xb,g1]at h1;split at h1
    ·cases h1
    rename_i hle;simp only[Ac,AP]at h1;obtain⟨rfl,rfl⟩:=h1;obtain⟨recs,e1,e2,e3,e4,e4',e5⟩:=Pn (c:=c) (nx:=1000*i+1) (mk:=Du (.deref (.var i)) true) g6 0 (S5 (by simp only[E.den]at E9 ⊢;rw[E9];rfl));refine fin (⟨1000*i,some (.pointer (some ⟨b,0,none⟩)),[b], .box ty (Aj P ty) (CJ P (1000*i+1) (Du (.deref (.var i)) true) 0 (A2 P ty) own).1⟩::recs) (by simp[e1,AN.pair]) (by simp[e2]) (λr hr=> ?_) ?_ (λr hr v' hp=> ?_) λc' Fg AS _=> ?_
    ·rcases Ad.1 hr with rfl|hr
     ·simp
     ·have:=e3 r hr;exact⟨by omega,by omega,this.2.2⟩
    ·simp only[List.map_cons,List.nodup_cons];refine⟨λhm=> ?_,e4⟩;obtain⟨r,hr,IZ⟩:=List.mem_map.1 hm;have:=e3 r hr;omega
    ·rcases Ad.1 hr with rfl|hr
     ·unfold GM at hp;simp only at hp;split at hp
      ·rw[show 1000*i/1000=i from by omega,H8,<-Dy,hm]at hp;simp at hp;simpa using hp
      ·cases hp
     ·have h3:=e3 r hr;unfold GM at hp;split at hp
      ·rw[show r.tag/1000=i from by omega,H8,<-Dy,hm]at hp;simp only at hp;split at hp
       ·omega
       ·cases hp
      ·cases hp
    ·obtain⟨q1,q2⟩:=e5 c' (Fg.mono λr hr=>by simp[hr]) AS;obtain⟨k1,k2,k3⟩:=Fg.new _ (List.mem_cons_self ..) _ rfl;have kg:=Fg.G _ (List.mem_cons_self ..);simp only at k1 k3 kg;refine⟨.ca k1 k3 .nil,λr hr=> ?_⟩;rcases Ad.1 hr with rfl|hr
     ·exact⟨b,C,k1,k3,by rw[kg],by rw[kg],by rw[Fg.w];exact g3,g4,q1⟩
     ·exact q2 r hr
  ·cases h
end
section
variable {P:Program} {c:Cx} {n:Nat} {a:Act} {τ:St}
theorem jI(h:Rel c n (BI τ) (AA τ.hp) a):EH c (AA τ.hp):=λt e hr=>h.ents t e hr
theorem qG{hp:Nat->Option Ae}{t:Nat}{e:Ae}(h:hp t=some e)(hn:∀hs f,e≠ .gd hs f):CT hp [] t=some e:=by
 simp only[CT,h,Aa,JZ]
 all_goals (cases e<;>first|rfl|exact absurd rfl (hn _ _))
theorem lM(h:Rel c n (BI τ) (AA τ.hp) a){u g:Nat}{e z:Nat}{x:E}{d:Bool}(hu:AA τ.hp u=some (.row e z g x d)):c.K u g/\ ∃N,CA c.w e z (c.H u g) (x.den c.ρ) (c.G u).top N/\(∀b∈N,c.ok b)/\(d=true->N=[]):=by obtain⟨p1,p2,N,p3,p4,p5,_⟩:=h.ents u _ (by rw[hu];rfl);exact⟨p1,N,p3,p4,λhd=>(p5 hd).1⟩
theorem qO{t e:TypeId}{d:Bool}{N:List Nat}(hd:d=true->N=[])(h:B4 P e=true/\d=true\/B4 P e=false/\(DO P t).isNone=true):B4 P e=true/\N=[]\/B4 P e=false/\DO P t=none:=by
 rcases h with⟨h1,h2⟩|⟨h1,h2⟩
 ·exact .inl ⟨h1,hd h2⟩
 ·exact .inr ⟨h1,by simpa using h2⟩
theorem V3(h:Rel c n (BI τ) (AA τ.hp) a):∀(ts:List TypeId) {fl:List Bool} {cs:List SV} {l:List Nat} {us:List Value} {xs:EL} {m:Nat},K1 P τ ts fl cs=some l->SR c cs us->Cp (AA τ.hp) [] m cs=some xs->m<=AZ->
  ∃f,Cj P c.w ts fl us (xs.den c.ρ) f (l.flatMap λt=>(c.G t).top)/\ ∀b∈f,c.dr (Jl P τ ts fl cs) b
 | [],fl,[],l,us,xs,m,ho,hs,hx,hm=>by
  simp[K1]at ho;subst ho;cases hs;cases m with
  |zero=>simp[Cp]at hx
  |succ m=>simp[Cp]at hx;subst hx;exact⟨[], .nil,by simp⟩
 | [],fl,s::cs,l,us,xs,m,ho,hs,hx,hm=>by simp[K1]at ho
 |t::ts,fl,[],l,us,xs,m,ho,hs,hx,hm=>by simp[K1]at ho
 |t::ts,fl,s::cs,l,[],xs,m,ho,hs,hx,hm=>by have:=hs.len;simp at this
 |t::ts,fl,s::cs,l,v::us,xs,m,ho,hs,hx,hm=>by
  obtain⟨j,y,ys,rfl,hy,CY,rfl⟩:=JH hx;obtain⟨r1,r2⟩:=hs.br;unfold K1 at ho;split at ho
  ·cases ho
  rename_i l' CX;obtain⟨f,q1,q2⟩:=V3 h ts CX r2 CY (by omega);split at ho
  ·rename_i e hf Bm;have FI:Jl P τ (t::ts) fl (s::cs)=Jl P τ ts fl.tail cs:=by
    simp only[Jl,hf,Bm,Option.isSome_some,Bool.and_self,if_true,List.nil_append]
   split at ho
   ·cases ho
   rename_i hz;split at ho
   ·simp only[Ac]at ho;subst ho;cases r1 with
    |bq _=>refine⟨f,?_,by rw[FI];exact q2⟩;rw[EL.den,KL hy];exact Cj.void hf Bm (by omega) q1
   ·rename_i u g;split at ho
    ·rename_i e' z g' x d hu;split at ho
     ·rename_i hh;obtain⟨rfl,rfl,rfl,Gs⟩:=hh;simp only[Ac]at ho;subst ho;obtain⟨p1,N,p2,p3,p4⟩:=lM h hu;have Gs:=qO p4 Gs;have hl:=qG hu (by simp);have GA:y=x:=by
       cases j with
       |zero=>simp[Bp]at hy
       |succ j=>simp[Bp,HD,hl]at hy;exact hy.symm
      subst GA;have hv:c.H u g=v:=by
       cases r1 with
       |own _ k2 _=>exact k2
      rw[hv]at p2;refine⟨N++f,Cj.own hf Bm Gs p2 q1,λb hb=> ?_⟩;rw[FI];rcases Af.1 hb with hb|hb
      ·exact .inl (p3 b hb)
      ·exact q2 b hb
     ·cases ho
    ·rename_i e' z dl g' ep x hu;split at ho
     ·rename_i hh;obtain⟨rfl,FM,Dl⟩:=hh;have Dl:=V9 Dl;simp only[Ac]at ho;subst ho;obtain⟨p1,_,_,p2,_⟩:=h.ents u _ (by rw[hu];rfl);have hl:=qG hu (by simp);have GA:y=x:=by
       cases j with
       |zero=>simp[Bp]at hy
       |succ j=>simp[Bp,HD,hl]at hy;exact hy.symm
      subst GA;have hv:c.H u g=v:=by
       cases r1 with
       |own _ k2 _=>exact k2
      rw[hv]at p2;exact⟨f,Cj.deep hf Bm FM Dl p2 q1,by rw[FI];exact q2⟩
     ·cases ho
    ·cases ho
   ·cases ho
  ·rename_i DQ;simp only[Ac]at ho;subst ho;have hn:fl.headD false=true->Co P t=none:=λhf=>by
    cases Bm:Co P t with
    |none=>rfl
    |some e=>exact absurd Bm (DQ e hf)
   obtain⟨f1,p1,p2⟩:=G8 (jI h) (ED _) j hy r1 AZ (by omega);refine⟨f1++f,Cj.rd hn p1 q1,λb hb=> ?_⟩;have FI:Jl P τ (t::ts) fl (s::cs)=BV (AA τ.hp) [] (AZ+1) [s]++Jl P τ ts fl.tail cs:=by
    have:(fl.headD false&&(Co P t).isSome)=false:=by
     cases hf:fl.headD false with
     |false=>rfl
     |true=>rw[hn hf];rfl
    simp only[Jl,this,Bv,if_false]
   rw[FI];rcases Af.1 hb with hb|hb
   ·exact(p2 b hb).mono λt ht=>by simp[ht]
   ·exact(q2 b hb).mono λt ht=>by simp[ht]
theorem zr3(h:Rel c n (BI τ) (AA τ.hp) a){t:TypeId}{fl:List Bool}{s:SV}{l:List Nat}{v:Value}{x:E}{m:Nat}(ho:eU P τ t fl s=some l)(hs:SR c [s] [v])(hx:Bp (AA τ.hp) [] m s=some x)(hm:m<AZ):
  ∃f,Eb P c.w t fl v (x.den c.ρ) f (l.flatMap λt=>(c.G t).top)/\ ∀b∈f,c.dr (fT P τ t fl s) b:=by
 unfold eU at ho;unfold Eb fT;split at ho
 ·rename_i hf;simp only[hf,if_true];split at ho
  ·rename_i Ay;split at ho
   ·rename_i cs;obtain⟨k,lx,rfl,hl,rfl⟩:=Tc hx;cases hs with
    |agg h9 h1 h8=>rename_i as_;obtain⟨f,q1,q2⟩:=V3 (P:=P) h (A2 P t) ho h1 hl (by omega);exact⟨f,⟨as_,lx.den c.ρ,by rw[if_pos Ay];exact⟨rfl,rfl,h9⟩,q1⟩,by rw[if_pos Ay];exact q2⟩
   ·cases ho
  ·rename_i Ay;have IP:Cp (AA τ.hp) [] (m+1) [s]=some (.cons x .nil):=by
    cases m with
    |zero=>simp[Bp]at hx
    |succ m=>simp only[Cp,hx]
   obtain⟨f,q1,q2⟩:=V3 (P:=P) h (A2 P t) ho hs IP (by omega);exact⟨f,⟨[v],[x.den c.ρ],by rw[if_neg Ay];exact⟨rfl,rfl⟩,q1⟩,by rw[if_neg Ay];exact q2⟩
 ·rename_i hf;simp only[hf,if_false,Bv];simp only[Ac]at ho;subst ho;obtain⟨f,p1,p2⟩:=G8 (jI h) (ED _) m hx hs AZ (by omega);exact⟨f,⟨p1,rfl⟩,p2⟩
theorem kZ(h:Rel c n (BI τ) (AA τ.hp) a):∀(ts:List TypeId) {fl:List Bool} {ss:List SV} {l:List Nat} {vs:List Value} {xs:EL} {m:Nat},N7 P τ ts fl ss=some l->SR c ss vs->Cp (AA τ.hp) [] m ss=some xs->m<=AZ->
  ∃f,Jn P c.w ts fl vs (xs.den c.ρ) f (l.flatMap λt=>(c.G t).top)/\ ∀b∈f,c.dr (Tw P τ ts fl ss) b
 | [],fl,[],l,vs,xs,m,ho,hs,hx,hm=>by
  simp[N7]at ho;subst ho;cases hs;cases m with
  |zero=>simp[Cp]at hx
  |succ m=>simp[Cp]at hx;subst hx;exact⟨[], .nil,by simp⟩
 | [],fl,s::cs,l,us,xs,m,ho,hs,hx,hm=>by simp[N7]at ho
 |t::ts,fl,[],l,us,xs,m,ho,hs,hx,hm=>by simp[N7]at ho
 |t::ts,fl,s::cs,l,[],xs,m,ho,hs,hx,hm=>by have:=hs.len;simp at this
 |t::ts,fl,s::cs,l,v::us,xs,m,ho,hs,hx,hm=>by
  obtain⟨j,y,ys,rfl,hy,CY,rfl⟩:=JH hx;obtain⟨r1,r2⟩:=hs.br;unfold N7 at ho;split at ho
  ·rename_i a1 b1 h1 h2;simp only[Ac]at ho;subst ho;obtain⟨f1,p1,p2⟩:=zr3 (P:=P) h h1 r1 hy (by omega);obtain⟨f2,q1,q2⟩:=kZ h ts h2 r2 CY (by omega);refine⟨f1++f2,by rw[List.flatMap_append];exact .cons p1 q1,λb hb=> ?_⟩;simp only[Tw];rcases Af.1 hb with hb|hb
   ·exact(p2 b hb).mono λt ht=>by simp[ht]
   ·exact(q2 b hb).mono λt ht=>by simp[ht]
  ·cases ho
end
section
variable {P:Program} {c:Cx} {n:Nat} {a:Act} {τ:St}
theorem zw0(h:Rel c n (BI τ) (AA τ.hp) a){t:TypeId}{b o:Nat}{ty:TypeId}{g:Bool}{cs:List SV}{s:SV}{v:Value}(Bc:C4 P t=true)(hl:AA τ.hp b=some (.box ty g cs))(A1:Oh P t cs o=some s)(hr:SR c [.ca b o] [v]):
  ∃q u,v= .pointer (some ⟨q,o,none⟩)/\(loadVar t ⟨q,o,none⟩).run P c.w= .ok u c.w/\SR c [s] [u]:=by
 cases hr with
 |ca h1 h2 h8=>
  rename_i q;obtain⟨q',C,_,e2,e3,e4,e5,e5',e6⟩:=h.ents b _ (by rw[hl];rfl);rw[h2]at e2;cases e2;have key:∀vs:List Value,(Aj P t=true->vs.length=P.cellsOf t)->(Aj P t=false->vs.length=1)->(∀j u,vs[j]?=some u->c.w.cell? ⟨q,o+j,none⟩=some u)->(loadVar t ⟨q,o,none⟩).run P c.w= .ok (if Aj P t then .agg vs.toArray else vs.headD undef) c.w:=λvs k1 k2 k3=>by have:=PB (P:=P) (w:=c.w) (b:=q) (off:=o) Bc vs k1 k2 k3;simpa[Instr.loadAt,Instr.sureAddr]using this
  unfold Oh at A1;have hlen:=e6.len;split at A1
  ·rename_i Ay;split at A1
   ·rename_i hle;simp at A1;subst A1;obtain⟨r1,r2⟩:=e6.split o;obtain⟨r3,r4⟩:=r2.split (P.cellsOf t);have:=SR.agg (cs:=BD.of ((cs.drop o).take (P.cellsOf t))) (λu hu=>e5' u (B1 (Bw hu))) (by rw[BD.ar];exact r3) .nil;refine⟨q, .agg ((C.toList.drop o).take (P.cellsOf t)).toArray,rfl,?_,this⟩;rw[key ((C.toList.drop o).take (P.cellsOf t)) (λ_=>by simp at hlen ⊢;omega) (λh=>by rw[Ay]at h;cases h) (λj u hu=>by
     rw[Ef e5];rw[List.getElem?_take]at hu;split at hu
     ·simpa using hu
     ·cases hu)]
    simp[Ay]
   ·cases A1
  ·rename_i Ay;have Ay:Aj P t=false:=by simpa using Ay
   obtain⟨u,hu,r⟩:=e6.get A1;refine⟨q,u,rfl,?_,r⟩;rw[key [u] (λh=>by rw[Ay]at h;cases h) (λ_=>rfl) (λj z hz=>by
    cases j with
    |zero=>simp at hz;subst hz;rw[Ef e5];simpa using hu
    |succ j=>simp at hz)]
   simp[Ay]
theorem kL{α:Type}{g:α->Sem Value}{w:World}:∀(l:List α) (us:List Value),l.length=us.length->(∀(i:Nat) (x:α) (u:Value),l[i]?=some x->us[i]?=some u->(g x).run P w= .ok u w)->(l.mapM g).run P w= .ok us w
 | [],[],_,_=>by simp
 | [],_::_,h,_=>by simp at h
 |_::_,[],h,_=>by simp at h
 |x::l,u::us,h,hg=>by have h0:=hg 0 x u rfl rfl;have ih:=kL l us (by simpa using h) λi y z hy hz=>hg (i+1) y z (by simpa using hy) (by simpa using hz);simp[List.mapM_cons,h0,ih]
theorem zqG(h:Rel c n (BI τ) (AA τ.hp) a)(fn:Func){rs:List SV}(E5:fn.results.toList.mapM (PS P τ)=some rs):
  ∃us,SR c rs us/\rs.length=us.length/\(results fn a.tmps).run P c.w= .ok (match us with| [u]=>u|us=> .tuple us.toArray) c.w:=by
 have one:∀(r:ResultVar) (s:SV),PS P τ r=some s-> ∃u,SR c [s] [u]/\(match r with| .tmp t=>(pure (a.tmps.getD t undef):Sem Value)| .cell b t=>do loadVar t (<-asAddr (a.tmps.getD b undef))).run P c.w= .ok u c.w:=by
  intro r s hr;cases r with
  |tmp t=>simp only[PS,Ac]at hr;subst hr;exact⟨_,h.ct t,by simp⟩
  |cell b ty=>
   simp only[PS]at hr;split at hr
   ·rename_i b' o CU;split at hr
    ·rename_i ty' g cs hl;split at hr
     ·rename_i Bc;have hs:=h.ct b;rw[CU]at hs;obtain⟨q,u,hv,AI,Kw⟩:=zw0 h Bc hl hr hs;exact⟨u,Kw,by simp only[hv];simp[asAddr,AI]⟩
     ·cases hr
    ·cases hr
   ·cases hr
 have list:∀(l:List ResultVar) (rs:List SV),l.mapM (PS P τ)=some rs-> ∃us,SR c rs us/\l.length=us.length/\ ∀(i:Nat) (x:ResultVar) (u:Value),l[i]?=some x->us[i]?=some u->(match x with| .tmp t=>(pure (a.tmps.getD t undef):Sem Value)| .cell b t=>do loadVar t (<-asAddr (a.tmps.getD b undef))).run P c.w= .ok u c.w:=by
  intro l
  induction l with
  |nil=>intro rs E5;simp at E5;subst E5;exact⟨[], .nil,rfl,by simp⟩
  |cons r l ih=>
   intro rs E5;rw[List.mapM_cons]at E5;simp only[Option.bind_eq_bind,Ao,Option.pure_def,Ac]at E5;obtain⟨s,hs,rs',YQ,rfl⟩:=E5;obtain⟨u,h1,h2⟩:=one r s hs;obtain⟨us,h3,h4,h5⟩:=ih rs' YQ;refine⟨u::us,h1.cons h3,by simp[h4],λi x v hx hv=> ?_⟩;cases i with
   |zero=>simp at hx hv;subst hx;subst hv;exact h2
   |succ i=>exact h5 i x v (by simpa using hx) (by simpa using hv)
 obtain⟨us,h1,h2,h3⟩:=list _ _ E5;refine⟨us,h1,h1.len,?_⟩;have hm:=kL (P:=P) (w:=c.w) fn.results.toList us h2 h3;simp only[results,Array.mapM_eq_mapM_toList,map_eq_pure_bind,Sem.run_bind]
 erw [hm]
 simp only[Result.andThen_ok,Sem.run_pure]
 match us with
 | []=>simp
 | [u]=>simp
 |u::v::us=>simp
theorem cD(h:Rel c n (BI τ) (AA τ.hp) a){w0:World}{v:Value}{ms:List PM}{vs:List Value}(Eu:∀t,c.A.pin t=GM ms vs t){i:Nat}(hi:i<=99){own0:List Bool}(hv:vs[i]?=some v)(hm:(ms[i]?).getD .ro= .mu own0){mk:Nat->E}:∀(ts:List TypeId) (j:Nat) {fl:List Bool} {us:List Value} {ys:List AV} {rf hs:List Nat} {es:List E} {l:List Nat},
  Cj P w0 ts fl us ys rf hs->j+ts.length<=400->(∀k u,us[k]?=some u->(∃e,(0+j+k,e)∈(CJ P 0 (Du (.var 0) true) j ts fl).2)->v.cells[j+k]?=some u)->TI P τ i mk j ts fl=some (es,l)-> ∃f o,Ec P c.w ts fl us (es.map (E.den c.ρ)) f o/\(o=l.flatMap λt=>(c.G t).top)/\ ∀b∈f,c.ok b
 | [],j,fl,us,ys,rf,hs,es,l,hc,hle,Bh,he=>by simp[TI]at he;obtain⟨rfl,rfl⟩:=he;cases hc;exact⟨[],[], .nil,rfl,by simp⟩
 |t::ts,j,fl,us,ys,rf,hs,es,l,hc,hle,Bh,he=>by
  unfold TI at he;split at he
  ·cases he
  rename_i xs us' CX;simp only[AR]at hle;have sub:∀{u:Value} {us1:List Value},us=u::us1-> ∀k z,us1[k]?=some z->(∃e,(0+(j+1)+k,e)∈(CJ P 0 (Du (.var 0) true) (j+1) ts fl.tail).2)->v.cells[j+1+k]?=some z:=by
   rintro u us1 rfl k z hz ⟨e,he⟩;have:=Bh (k+1) z (by simpa using hz) ⟨e,by
    simp only[CJ];split
    ·rw[show 0+j+(k+1)=0+(j+1)+k from by omega];exact List.mem_cons_of_mem _ he
    ·rw[show 0+j+(k+1)=0+(j+1)+k from by omega];exact he⟩
   rw[show j+1+k=j+(k+1)from by omega];exact this
  have fin:∀{u:Value} {us1:List Value} {ys1:List AV} {rf1 BE:List Nat} {el:TypeId},us=u::us1->fl.headD false=true->Co P t=some el->Cj P w0 ts fl.tail us1 ys1 rf1 BE-> ∃f o,Ec P c.w (t::ts) fl us (es.map (E.den c.ρ)) f o/\(o=l.flatMap λt=>(c.G t).top)/\ ∀b∈f,c.ok b:=by
   rintro u us1 ys1 rf1 BE el rfl h1 h2 h4;obtain⟨f0,o,q1,q2,q3⟩:=cD h Eu hi hv hm ts (j+1) h4 (by omega) (sub rfl) CX;rw[h1,h2]at he;simp only at he;have X3:v.cells[j]?=some u:=by have:=Bh 0 u rfl ⟨_,by simp only[CJ,h1,h2,Nat.zero_add,Nat.add_zero];exact List.mem_cons_self ..⟩;simpa using this
   have Uh:c.A.pin (1000*i+500+j)=some u:=by
    rw[Eu];unfold GM;have e1:(1000*i+500+j)/1000=i:=by omega
    have e2:(1000*i+500+j) % 1000=500+j:=by omega
    rw[if_pos (by unfold Mm;simp only[e2,Ab,Aq,Bool.or_eq_true];omega),e1,e2,hv,hm];simp only;rw[if_pos (by omega),show 500+j-500=j from by omega];exact X3
   split at he
   ·rename_i e' z y' d hu;split at he
    ·rename_i hh;obtain⟨rfl,rfl,Gs⟩:=hh;simp only[Ac,AP]at he;obtain⟨rfl,rfl⟩:=he;obtain⟨p1,N,p2,p3,p4⟩:=lM h hu;have hH:=(h.base.pins _ u Uh).2 p1;rw[hH]at p2;refine⟨_,_, .own h1 h2 (qO p4 Gs) p2 q1,by simp[q2],λb hb=> ?_⟩;rcases Af.1 hb with hb|hb
     ·exact p3 b hb
     ·exact q3 b hb
    ·cases he
   ·rename_i e' z dl ep y' hu;split at he
    ·rename_i hh;obtain⟨FM,Dl⟩:=hh;have Dl:=V9 Dl;simp only[Ac,AP]at he;obtain⟨rfl,rfl⟩:=he;obtain⟨p1,_,_,p2,_⟩:=h.ents _ _ (by rw[hu];rfl);have hH:=(h.base.pins _ u Uh).2 p1;rw[hH]at p2;refine⟨_,_, .deep h1 h2 FM Dl p2 q1,by simp[q2],q3⟩
    ·cases he
   ·cases he
  cases hc with
  |own h1 h2 _ _ h4=>exact fin rfl h1 h2 h4
  |deep h1 h2 _ _ _ h4=>exact fin rfl h1 h2 h4
  | @rd _ _ _ u us1 y ys1 f rf1 BE h1 h3 h4=>
   obtain⟨f0,o,q1,q2,q3⟩:=cD h Eu hi hv hm ts (j+1) h4 (by omega) (sub rfl) CX;split at he
   ·rename_i e hf Bm;rw[h1 hf]at Bm;cases Bm
   ·simp only[Ac,AP]at he;obtain⟨rfl,rfl⟩:=he;exact⟨f0,o, .skip h1 q1,q2,q3⟩
end
section
variable {P:Program} {c:Cx} {n:Nat} {a:Act} {τ:St}
theorem lF(h:Rel c n (BI τ) (AA τ.hp) a){w0:World}{ms0:List PM}{vs0:List Value}(Eu:∀t,c.A.pin t=GM ms0 vs0 t):∀(ts:List TypeId) (i:Nat) {ms:List PM} {lo:List Bool} {vs:List Value} {xs:List AV} {rf lf hs:List Nat} {bx:List E} {us:List Nat},Tq P τ i ts ms=some (bx,us)->Dt P w0 ts ms lo vs xs rf lf hs->
  (∀k,ms[k]?=ms0[i+k]?)->(∀k,vs[k]?=vs0[i+k]?)-> ∃f o,Dg P c.w ts ms vs (bx.map (E.den c.ρ)) f o/\o=us.flatMap (λt=>(c.G t).top)/\ ∀b∈f,c.dr (Oj P τ i ts ms) b
 | [],i,ms,lo,vs,xs,rf,lf,hs,bx,us,he,ha,_,_=>by simp[Tq]at he;obtain⟨rfl,rfl⟩:=he;exact⟨[],[], .nil,rfl,by simp⟩
 |t::ts,i,ms,lo,vs,xs,rf,lf,hs,bx,us,he,ha,Es,JB=>by
  obtain⟨v,vs,x,xs,f,hh,rf,lf,hs,rfl,Ex,A5⟩:∃v vs' x xs' f hh rf' lf' Ba,vs=v::vs'/\Dt P w0 ts ms.tail lo.tail vs' xs' rf' lf' Ba/\(Zl P w0 t (ms.headD .ro) v x f hh\/ms.headD .ro= .ro):=by
   cases ha with
   |cons h1 h2=>exact⟨_,_,_,_,_,_,_,_,_,rfl,h2, .inl h1⟩
   | @lent _ _ _ _ _ _ x _ _ _ _ _ h1 h2 h3 h4=>exact⟨_,_,x,_,[],[],_,_,_,rfl,h4, .inr h2⟩
  have Dy:ms.headD .ro=(ms0[i]?).getD .ro:=by have:=Es 0;rw[Nat.add_zero]at this;rw[<-this];cases ms<;>rfl
  have H8:vs0[i]?=some v:=by have:=JB 0;simpa using this.symm
  unfold Tq at he;split at he
  ·cases he
  rename_i bx' us' CX;obtain⟨f2,o2,b1,b2,b3⟩:=lF h Eu ts (i+1) CX Ex (λk=>by rw[show i+1+k=i+(k+1)from by omega,<-Es (k+1)];cases ms<;>simp) (λk=>by rw[show i+1+k=i+(k+1)from by omega,<-JB (k+1)];simp);have see2:∀b∈f2,c.dr (Oj P τ i (t::ts) ms) b:=λb hb=>(b3 b hb).mono λt ht=>by simp only[Oj,Af];exact .inr ht
  split at he
  ·cases he
  rename_i hi;split at he
  ·rename_i hm;simp only[Ac,AP]at he;obtain⟨rfl,rfl⟩:=he;exact⟨f2,o2, .ro hm b1,b2,see2⟩
  ·rename_i own hm;simp only[Ac,AP]at he;obtain⟨rfl,rfl⟩:=he;exact⟨f2,o2, .va hm b1,b2,see2⟩
  ·rename_i own hm;split at he
   ·cases he
   rename_i hle;split at he
   ·rename_i es l EU;simp only[Ac,AP]at he;obtain⟨rfl,rfl⟩:=he;rw[hm]at A5;obtain⟨us0,ys0,hg,hc⟩:=A5.resolve_right λh=>by cases h
    obtain⟨f1,o1,q1,q2,q3⟩:=cD h Eu (i:=i) (by omega) H8 (by rw[<-Dy];exact hm) (A2 P t) 0 hc (by omega) (λk u hu he=>by
     rw[Nat.zero_add];split at hg
     ·obtain⟨rfl,_,_⟩:=hg;simpa[Value.cells]using hu
     ·obtain⟨rfl,_⟩:=hg;cases k with
      |zero=>simp at hu;subst hu;rw[hc.gp (nx:=0) (mk:=Du (.var 0) true) (j:=0) 0 v rfl he];rfl
      |succ k=>simp at hu) EU
    refine⟨f1++f2,o1++o2,Dg.mu (us:=us0) (ys:=es.map (E.den c.ρ)) hm ?_ q1 b1,by rw[q2,b2,List.flatMap_append],λb hb=>(Af.1 hb).elim (λhb=> .inl (q3 b hb)) (see2 b)⟩;split at hg
    ·rename_i Ay;rw[if_pos Ay,if_pos Ay];exact⟨hg.1,by simp only[E.den,EL.c8]⟩
    ·rename_i Ay;rw[if_neg Ay,if_neg Ay];obtain⟨rfl,_⟩:=hg;refine⟨rfl,?_⟩;have mlen:∀{ts:List TypeId} {fl:List Bool} {us:List Value} {ys:List AV} {f o:List Nat},Ec P c.w ts fl us ys f o->us.length=ys.length:=by
      intro ts fl us ys f o Rv
      induction Rv<;>simp_all
     have:=mlen q1
     match es,this with
     | [e],_=>rfl
   ·cases he
  ·rename_i own own' hm;rw[hm]at A5;obtain⟨ty,b,C0,ys0,h9,g1,rfl,g3,g4,rfl,g6,rfl⟩:=A5.resolve_right λh=>by cases h
   split at he
   ·rename_i ty1 ty2 g cs D3 Hk;rw[g1]at D3;cases D3;split at he
    ·cases he
    rename_i BM;have BM:ty2=ty:=by simpa using BM
    subst BM;split at he
    ·rename_i es vs' Hm Y2;simp only[Ac,AP]at he;obtain⟨rfl,rfl⟩:=he;obtain⟨b',C,p1,p2,p3,p4,p5,p6,p7⟩:=h.ents _ _ (by rw[Hk];rfl);have Uh:c.A.pin (1000*i)=some (.pointer (some ⟨b,0,none⟩)):=by
      rw[Eu];unfold GM;have e1:(1000*i)/1000=i:=by omega
      have e2:(1000*i) % 1000=0:=by omega
      rw[if_pos (by unfold Mm;simp only[e2,Ab,Aq,Bool.or_eq_true];simp;omega),e1,e2,H8,<-Dy,hm];rfl
     have hH:=(h.base.pins _ _ Uh).2 p1;rw[p2]at hH;cases hH;obtain⟨f1,q1,q2⟩:=V3 (P:=P) h (A2 P ty2) Y2 p7 Hm (Av _);refine⟨f1++f2,_,Dg.bx hm g1 rfl p5 p6 (by simp only[E.den]) q1 b1,by rw[b2];simp[p3],λx hx=> ?_⟩;rcases Af.1 hx with hx|hx
     ·refine(q2 x hx).mono λt ht=> ?_;simp only[Oj,hm,g1,Hk,Af];exact .inl ht
     ·exact see2 x hx
    ·cases he
   ·cases he
end
theorem bM{P:Program}:∀(ts:List TypeId) (i:Nat) (ms:List PM) (lo:List Bool) (ss:List SV) (l:List (Nat × Ae)),L8 P i ts ms lo=some (ss,l)-> ∀t x,(t,x)∈l-> ∀gs f,x≠ .gd gs f
 | [],i,ms,lo,ss,l,h,t,x,hx=>by simp[L8]at h;obtain⟨_,rfl⟩:=h;simp at hx
 |t0::ts,i,ms,lo,ss,l,h,t,x,hx=>by
  unfold L8 at h;split at h
  ·rename_i s1 l1 ss1 l2 q1 q2;simp only[Ac,AP]at h;obtain⟨_,rfl⟩:=h;rcases Af.1 hx with hx|hx
   ·have hV:∀(b:Nat) (own:List Bool),Qm P i b t0 own=some (s1,l1)-> ∀gs f,x≠ .gd gs f:=by
     intro b own hh;unfold Qm at hh;simp only at hh;split at hh
     ·cases hh
     ·split at hh
      ·simp only[Ac,AP]at hh;obtain⟨_,rfl⟩:=hh;intro gs f;exact NM _ _ _ _ _ hx
      ·split at hh
       ·simp only[Ac,AP]at hh;obtain⟨_,rfl⟩:=hh;intro gs f;exact NM _ _ _ _ _ hx
       ·cases hh
    unfold Xb at q1;split at q1
    ·simp only[Ac,AP]at q1;rw[<-q1.2]at hx;simp at hx
    ·exact hV _ _ q1
    ·exact hV _ _ q1
    ·split at q1
     ·simp only at q1;split at q1
      ·cases q1
      ·simp only[Ac,AP]at q1;obtain⟨_,rfl⟩:=q1;rcases Ad.1 hx with hx|hx
       ·cases hx;simp
       ·intro gs f;exact NM _ _ _ _ _ hx
     ·cases q1
   ·exact bM _ _ _ _ _ _ q2 t x hx
  ·cases h
theorem zw1{P:Program}{sg:BN}(Ud:P.follows .mixedOrders=true)(I0:∀f s,sg f=some s->f<1000000){f:Nat}{s:GR}{fn:Func}{t:Tr}{xs:List AV}{r:AV}(Hn:P.funcs[f]?=some fn)(hs:sg f=some s) (FK:(fn.name== "runtime.NumGoroutine")=false)
  (Em:TW P sg f=some t) (BP:JN P fn s r=true) (hlen:xs.length=fn.params.size+fn.nfree) (hd:t.den (Cg P sg) (λr'=>r'=r) (λ_ _ _ _=>False) [] xs):QL P s f xs r:=by
 unfold TW at Em;simp only[Hn,hs]at Em;split at Em
 ·rename_i code σ DP Bu;split at Em
  ·rename_i t0 hex;have Cr:s.ft.length<=fn.nfree:=by
    have Bu:=Bu;unfold eR at Bu;split at Bu
    ·cases Bu
    ·simp only at Bu;split at Bu
     ·cases Bu
     ·rename_i As;simp only[Bool.or_eq_true,Aq,not_or,Nat.not_lt]at As;exact As.2
   refine⟨fn,Hn,by rw[DP];rfl,FK,BP,hlen,Cr,λw vs rf lf Ba Ah FH IE Gw DR=> ?_⟩;unfold eR at Bu;split at Bu
   ·cases Bu
   rename_i ss l CD;simp only at Bu;split at Bu
   ·cases Bu
   rename_i As;simp only[Bool.or_eq_true,Aq,not_or,Nat.not_lt]at As;simp only[Ac]at Bu;subst Bu;let pin:Nat->Option Value:=GM s.bj vs;let LO:Value->AV->Prop:=λv y=> ∃f,Rd w [v] [y] f/\ ∀b∈f,¬b∈Ba;let c0:Cx:={ρ:=xs,w:=w,G:=λ_=>⟨[],[]⟩,K:=λ_ _=>False,H:=λ_ _=>undef,A:=⟨λb=>b∈rf,pin,LO⟩,w0:=w,Mu:=λb=>b∈Ba,U:=λ_=>False,E:=λ_=>0}
   have D4:vs.length=xs.length:=by
    have:∀{ts:List TypeId} {ms:List PM} {lo:List Bool} {vs:List Value} {xs:List AV} {rf lf hs:List Nat},Dt P w ts ms lo vs xs rf lf hs->vs.length=xs.length:=by
     intro ts ms lo vs xs rf lf hs h
     induction h<;>simp_all
    exact this Ah
   obtain⟨recs,e1,e2,e3,e4,e5,e6,e7,e8⟩:=mZ (c:=c0) (ms0:=s.bj) (vs0:=vs) (fn.params.toList++s.ft) 0 CD Ah (λk x hx=>by simp only[E.den,Nat.zero_add];show(xs[k]?).getD .undef=x;rw[hx];rfl) (λk=>by simp) (λk=>by simp);have aft:=Cx.da (c:=c0) (w':=w) (recs:=recs) (λt g hk=>hk.elim) e4 (λr _ _ h=>h);have gL:∀r∈recs,r.tag<100000:=λr hr=>by have:=e3 r hr;simp only[Nat.zero_add,AE,BG]at this;omega
   let c:Cx:={c0.dd w recs with U:=λt=>t<100000}
   have Q4:∀b∈rf,(c0.dd w recs).ok b:=by
    intro b hb;refine⟨λ⟨t,ht⟩=> ?_, .inl hb⟩;by_cases hT:∃r∈recs,r.tag=t
    ·obtain⟨r,hr,rfl⟩:=hT;rw[Cx.df e4 hr]at ht;exact FH b (by rw[<-e2];exact List.mem_flatMap.2 ⟨r,hr,ht⟩) hb
    ·rw[Cx.cy λr hr hh=>hT ⟨r,hr,hh⟩]at ht;simp[c0]at ht
   have BQ:∀(k:Nat) (v:Value) (x:AV),(s.bj[k]?).getD .ro= .ro->vs[k]?=some v->xs[k]?=some x->LO v x:=by
    have key:∀{ts:List TypeId} {ms:List PM} {lo:List Bool} {vs:List Value} {xs:List AV} {rf lf hs:List Nat},Dt P w ts ms lo vs xs rf lf hs-> ∀(k:Nat) (v:Value) (x:AV),(ms[k]?).getD .ro= .ro->vs[k]?=some v->xs[k]?=some x-> ∃f,Rd w [v] [x] f/\ ∀b∈f,b∈rf\/b∈lf:=by
     intro ts ms lo vs xs rf lf hs h
     induction h with
     |nil=>intro k v x _ h _;simp at h
     | @cons t ts ms lo v vs x xs f h rf lf hs A5 _ ih=>
      intro k v' x' h1 h2 h3;cases k with
      |zero=>
       have hm:ms.headD .ro= .ro:=by cases ms<;>exact h1
       rw[hm]at A5;simp at h2 h3;subst h2;subst h3;exact⟨f,A5.1,λb hb=> .inl (by simp[hb])⟩
      |succ k=>obtain⟨f',q1,q2⟩:=ih k v' x' (by cases ms with|nil=>rfl|cons _ _=>simpa using h1) (by simpa using h2) (by simpa using h3);exact⟨f',q1,λb hb=>(q2 b hb).imp (λh=>by simp[h]) id⟩
     | @lent t ts ms lo v vs x xs f rf lf hs _ _ hr _ ih=>
      intro k v' x' h1 h2 h3;cases k with
      |zero=>simp at h2 h3;subst h2;subst h3;exact⟨f,hr,λb hb=> .inr (by simp[hb])⟩
      |succ k=>obtain⟨f',q1,q2⟩:=ih k v' x' (by cases ms with|nil=>rfl|cons _ _=>simpa using h1) (by simpa using h2) (by simpa using h3);exact⟨f',q1,λb hb=>(q2 b hb).imp id (λh=>by simp[h])⟩
     | @free ms lo v vs x xs f rf lf hs hr _ ih=>
      intro k v' x' h1 h2 h3;cases k with
      |zero=>simp at h2 h3;subst h2;subst h3;exact⟨f,hr,λb hb=> .inl (by simp[hb])⟩
      |succ k=>obtain⟨f',q1,q2⟩:=ih k v' x' (by cases ms with|nil=>rfl|cons _ _=>simpa using h1) (by simpa using h2) (by simpa using h3);exact⟨f',q1,λb hb=>(q2 b hb).imp (λh=>by simp[h]) id⟩
    intro k v x h1 h2 h3;obtain⟨f,q1,q2⟩:=key Ah k v x h1 h2 h3;exact⟨f,q1,λb hb hh=>(q2 b hb).elim (FH b hh) (IE b hh)⟩
   obtain⟨g1,g2⟩:=e8 _ aft Q4 BQ;have kc:DE (c0.dd w recs) c:=⟨rfl,rfl,λ_ _ hb=>hb,λ_ _ _=>rfl,λ_ _ hk=>⟨hk,rfl⟩,λ_ _ _=>⟨Av _,λ_=>⟨rfl,λ_ _ _=>rfl⟩⟩⟩
   have H2:fn.params.size+fn.nfree=vs.length:=by rw[D4,hlen]
   have FR:(ss++(List.range (fn.nfree-s.ft.length)).map λj=>SV.e (.var (fn.params.size+s.ft.length+j))).length=vs.length:=by rw[AE,e6,List.length_map,List.length_range,AE,BG];omega
   have g1':SR c (ss++(List.range (fn.nfree-s.ft.length)).map λj=>SV.e (.var (fn.params.size+s.ft.length+j))) vs:=by
    have:=g1.keep kc;have Ev:(fn.params.toList++s.ft).length=fn.params.size+s.ft.length:=by rw[AE,BG]
    rw[show vs.length-(fn.params.toList++s.ft).length=fn.nfree-s.ft.length from by omega]at this;simpa using this
   have hG:∀t,(∃r∈recs,r.tag=t/\c.G t=⟨r.top,[]⟩)\/c.G t=⟨[],[]⟩:=λt=>by
    by_cases hT:∃r∈recs,r.tag=t
    ·obtain⟨r,hr,rfl⟩:=hT;exact .inl ⟨r,hr,rfl,Cx.df (w':=w) e4 hr⟩
    ·exact .inr (Cx.cy (w':=w) λr hr hh=>hT ⟨r,hr,hh⟩)
   have Gv:∀r∈recs,∀b∈r.top,b∈Ba:=λr hr b hb=>by rw[<-e2];exact List.mem_flatMap.2 ⟨r,hr,hb⟩
   have Er:∀b∈Ba,b<w.heap.size:=by
    have:∀{ts:List TypeId} {ms:List PM} {lo:List Bool} {vs:List Value} {xs:List AV} {rf lf hs:List Nat},Dt P w ts ms lo vs xs rf lf hs-> ∀b∈hs,b<w.heap.size:=by
     intro ts ms lo vs xs rf lf hs h
     induction h with
     |nil=>simp
     |lent _ _ _ _ ih=>exact ih
     | @cons t ts ms lo v vs x xs f h rf lf hs A5 _ ih=>
      intro b hb;rcases Af.1 hb with hb|hb
      ·cases hm:ms.headD .ro with
       |ro=>rw[hm]at A5;rw[A5.2]at hb;simp at hb
       |va own=>rw[hm]at A5;obtain⟨_,_,_,hc⟩:=A5;exact hc.inb.2 b hb
       |mu own=>rw[hm]at A5;obtain⟨_,_,_,hc⟩:=A5;exact hc.inb.2 b hb
       |bx own own'=>
        rw[hm]at A5;obtain⟨_,b0,_,_,_,_,_,hh,_,_,hc,rfl⟩:=A5;rcases Ad.1 hb with rfl|hb
        ·exact De hh
        ·exact hc.inb.2 b hb
      ·exact ih b hb
     |free _ _ ih=>exact ih
    exact this Ah
   have AY:∀t e,AA l t=some e-> ∃r∈recs,r.tag=t/\r.bc=e:=λt e he=>by have:=Ih he;rw[e1]at this;obtain⟨r,hr,RJ⟩:=List.mem_map.1 this;simp only[AN.pair,AP]at RJ;exact⟨r,hr,RJ.1,RJ.2⟩
   let F:Fix:=⟨w,⟨λb=>b∈rf,pin,LO⟩,λb=>b∈Ba,λt v h=>by
    simp only[pin,GM]at h;split at h
    ·assumption
    ·cases h⟩
   have hrel:Rel c fn.ntmps (BI {sl:=ss++(List.range (fn.nfree-s.ft.length)).map (λj=>SV.e (.var (fn.params.size+s.ft.length+j)))++List.replicate (fn.ntmps-(fn.params.size+fn.nfree)) .undef,hp:=l,nx:=100000,nv:=fn.params.size+fn.nfree}) (AA l) {tmps:=vs.toArray++Array.replicate (fn.ntmps-vs.toArray.size) undef,defers:=[]}:=by
    refine⟨rfl,by simp;omega,⟨rfl,rfl,rfl,Av _,λt v hp=>⟨?_,λhk=> ?_⟩,λb _ _=>rfl,DR,λv y h=>h⟩,λi=> ?_,λt e hr=> ?_,λt hn=> ?_,⟨λt=> ?_,λt u LR b hb BS=> ?_,λt b hb=> ?_,λt b hb=> ?_⟩,λt g hk=> ?_,λt e he=> ?_⟩
    ·have:=F.lq t v hp;unfold Mm at this;simp only[Ab,Aq]at this;exact this.1
    ·rcases hk with hk|⟨r,hr,rfl,A0,_⟩
     ·exact hk.elim
     ·exact(aft.new r hr v (e5 r hr v hp)).2.2
    ·have XU:SR c (ss++(List.range (fn.nfree-s.ft.length)).map (λj=>SV.e (.var (fn.params.size+s.ft.length+j)))++List.replicate (fn.ntmps-(fn.params.size+fn.nfree)) .undef) (vs++List.replicate (fn.ntmps-(fn.params.size+fn.nfree)) undef):=by
      refine g1'.app ?_;have:∀k,SR c (List.replicate k SV.undef) (List.replicate k undef):=by
       intro k
       induction k with
       |zero=>exact .nil
       |succ k ih=>exact .undef ih
      exact this _
     unfold BI;simp only;cases hq:(ss++(List.range (fn.nfree-s.ft.length)).map (λj=>SV.e (.var (fn.params.size+s.ft.length+j)))++List.replicate (fn.ntmps-(fn.params.size+fn.nfree)) SV.undef)[i]? with
     |none=>exact .undef .nil
     |some s'=>
      obtain⟨v',Y1,Kw⟩:=XU.get hq;have:(vs.toArray++Array.replicate (fn.ntmps-vs.toArray.size) undef).getD i undef=v':=by
       rw[Array.getD_eq_getD_getElem?];have e:(vs.toArray++Array.replicate (fn.ntmps-vs.toArray.size) undef)[i]?=(vs++List.replicate (fn.ntmps-(fn.params.size+fn.nfree)) undef)[i]?:=by rw[<-Array.getElem?_toList];simp[H2]
       rw[e,Y1];rfl
      rw[this];exact Kw
    ·cases hh:AA l t with
     |none=>rw[hh]at hr;exact hr.elim
     |some e0=>
      obtain⟨r,CW,rfl,rfl⟩:=AY t e0 hh;have Bu:=(g2 r CW).keep kc rfl rfl (λg hg=>hg) (λb _=>rfl);rw[hh]at hr;cases he:r.bc with
      |gd gs e'=>rw[he]at Bu hr;obtain⟨_,rfl⟩:=hr;have A0:=(e3 r CW).2.2;exfalso;exact bM _ _ _ _ _ _ CD r.tag r.bc (by rw[e1];exact List.mem_map.2 ⟨r,CW,rfl⟩) _ _ he
      |_=>rw[he]at Bu hr;simp only[Cq]at hr;subst hr;exact Bu
    ·rcases hG t with⟨r,hr,rfl,hg⟩|hg
     ·exfalso;have CE:(r.tag,r.bc)∈l:=by rw[e1];exact List.mem_map.2 ⟨r,hr,rfl⟩
      have:∃e,AA l r.tag=some e:=by
       have:∀(l:List (Nat × Ae)),(r.tag,r.bc)∈l-> ∃e,AA l r.tag=some e:=by
        intro l
        induction l with
        |nil=>intro h;simp at h
        |cons p l ih=>
         obtain⟨u,f'⟩:=p;intro h;simp only[AA];split
         ·exact⟨_,rfl⟩
         ·rename_i hu;rcases Ad.1 h with h|h
          ·cases h;exact absurd rfl hu
          ·exact ih h
       exact this l CE
      obtain⟨e,he⟩:=this;obtain⟨r',CW,LN,rfl⟩:=AY _ _ he;have OB:∀gs f',r'.bc≠ .gd gs f':=by intro gs f' Cf;exact bM _ _ _ _ _ _ CD r'.tag r'.bc (by rw[e1];exact List.mem_map.2 ⟨r',CW,rfl⟩) _ _ Cf
      apply hn r'.bc;rw[he];cases YO:r'.bc with
      |gd gs f'=>exact absurd YO (OB gs f')
      |_=>simp[Cq]
     ·rw[hg];simp
    ·rcases hG t with⟨r,hr,rfl,hg⟩|hg
     ·rw[hg];rw[<-e2]at Gw;simpa[GI.own]using(SS Gw).1 r hr
     ·rw[hg];simp[GI.own]
    ·rcases hG t with⟨r,hr,rfl,hg⟩|hg
     ·rcases hG u with⟨q,hq,rfl,Cf⟩|Cf
      ·rw[hg]at hb;rw[Cf]at BS;simp only[GI.own,AB]at hb BS;rw[<-e2]at Gw;obtain⟨i,hi⟩:=List.getElem?_of_mem hr;obtain⟨j,hj⟩:=List.getElem?_of_mem hq;have:=(SS Gw).2 i j r q b hi hj hb BS;subst this;rw[hi]at hj;cases hj;exact LR rfl
      ·rw[Cf]at BS;simp[GI.own]at BS
     ·rw[hg]at hb;simp[GI.own]at hb
    ·rcases hG t with⟨r,hr,rfl,hg⟩|hg
     ·rw[hg]at hb;simp only[GI.own,AB]at hb;exact .inr (Gv r hr b hb)
     ·rw[hg]at hb;simp[GI.own]at hb
    ·rcases hG t with⟨r,hr,rfl,hg⟩|hg
     ·rw[hg]at hb;simp only[GI.own,AB]at hb;exact Er b (Gv r hr b hb)
     ·rw[hg]at hb;simp[GI.own]at hb
    ·rcases hk with hk|⟨r,hr,rfl,_⟩
     ·exact hk.elim
     ·exact gL r hr
    ·obtain⟨r,hr,rfl,_⟩:=AY t e he;exact gL r hr
   have QY:Gj F xs {sl:=ss++(List.range (fn.nfree-s.ft.length)).map (λj=>SV.e (.var (fn.params.size+s.ft.length+j)))++List.replicate (fn.ntmps-(fn.params.size+fn.nfree)) .undef,hp:=l,nx:=100000,nv:=fn.params.size+fn.nfree} {tmps:=vs.toArray++Array.replicate (fn.ntmps-vs.toArray.size) undef,defers:=[]} w:=by
    refine⟨c,rfl,rfl,rfl,rfl,rfl,hlen,λt ht=>ht,?_⟩;have hl:(ss++(List.range (fn.nfree-s.ft.length)).map (λj=>SV.e (.var (fn.params.size+s.ft.length+j)))++List.replicate (fn.ntmps-(fn.params.size+fn.nfree)) SV.undef).length=fn.ntmps:=by rw[AE,FR,List.length_replicate];omega
    show Rel c (ss++(List.range (fn.nfree-s.ft.length)).map (λj=>SV.e (.var (fn.params.size+s.ft.length+j)))++List.replicate (fn.ntmps-(fn.params.size+fn.nfree)) SV.undef).length _ _ _;rw[hl];exact hrel
   refine calls_of_wp Hn DP ?_;have gH:Jj (λ_ _ _ _=>False):=λ_ _ _ _ _ _ h=>h;have X4:=Tr.du _ gH t0 Em hd;refine ztZ (zwa Ud (xL (sg:={sg with dp:=s.dp,wn:=s.wn,fz:=s.fz}) I0) zzU) zwG code [] _ _ t0 hex F (λr'=>r'=r) _ [] xs _ w (S3 gH _ _) X4 QY _ λi x τ ρ' a' w' hp hl CO=> ?_;obtain⟨tr,d',q1,q2,q3⟩:=hl;have main:Xj P fn s τ=some tr->a'.defers=[]/\ ∃v,(results fn a'.tmps).run P w'= .ok v w'/\ ∃v',Ending.returned v= .returned v'/\Zf P fn s w vs rf Ba r v' w':=by
    intro D1;obtain⟨c2,rfl,rfl,k1,k2,k3,k4,k5,k6⟩:=CO;unfold Xj at D1;split at D1
    ·rename_i rs bx us E5 Lm;split at D1
     ·rename_i es vs' Hm YH;split at D1
      ·cases D1
      rename_i Q6;simp only[Bool.or_eq_true,Br,not_or,Bool.not_eq_false,Bool.not_eq_true]at Q6;obtain⟨BZ,Ll⟩:=Q6;have BZ:=PL BZ;simp only[Ac]at D1;subst D1;have hr:_=r:=q3;obtain⟨rvs,z1,z2,z3⟩:=zqG k6 fn E5;obtain⟨f1,y1,y2⟩:=kZ (P:=P) k6 fn.resultTypes.toList YH z1 Hm (Av _);obtain⟨f2,o2,x1,x2,x3⟩:=lF (P:=P) k6 (w0:=w) (ms0:=s.bj) (vs0:=vs) (λt=>by rw[k2]) (fn.params.toList++s.ft) 0 Lm Ah (λk=>by simp) (λk=>by simp);refine⟨k6.defers,_,z3,_,rfl,⟨?_,?_⟩⟩
      ·
       have hR:∃R,R=(match es with| .cons x .nil=>x|es=>E.tup es).den c2.ρ/\Jq P c2.w fn.resultTypes.toList s.res (match rvs with| [u]=>u|us=> .tuple us.toArray) R f1 (vs'.flatMap λt=>(c2.G t).top):=by
        refine⟨_,rfl,?_⟩;have yl:es.den c2.ρ=es.den c2.ρ:=rfl;generalize RV:fn.resultTypes.toList=ts at y1 ⊢;generalize B3:es.den c2.ρ=ys at y1;generalize (vs'.flatMap λt=>(c2.G t).top)=o1 at y1 ⊢;cases y1 with
        |nil=>
         cases es with
         |nil=>exact⟨[],[],rfl,by simp[E.den,EL.den], .nil⟩
         |cons e es=>simp[EL.den]at B3
        | @cons t ts fl v vs2 x xs2 f h rf2 A1 w1 w2=>
         cases w2 with
         |nil=>
          cases es with
          |nil=>simp[EL.den]at B3
          |cons e es=>
           cases es with
           |nil=>simp only[EL.den,List.cons.injEq,and_true]at B3;subst B3;simpa[Jq]using w1
           |cons e2 es=>simp[EL.den]at B3
         | @cons t2 ts2 fl2 v2 vs3 x2 xs3 f2' h2 rf3 Hu w3 w4=>
          cases es with
          |nil=>simp[EL.den]at B3
          |cons e es=>
           cases es with
           |nil=>simp[EL.den]at B3
           |cons e2 es=>refine⟨v::v2::vs3,x::x2::xs3,rfl,?_, .cons w1 (.cons w3 w4)⟩;simp only[E.den,B3]
       obtain⟨R,tS,QX⟩:=hR;have Bd:∀b∈(vs'.flatMap λt=>(c2.G t).top)++o2,∃t∈vs'++us,b∈(c2.G t).top:=λb hb=>by
        rcases Af.1 hb with hb|hb
        ·obtain⟨t,ht,Cv⟩:=List.mem_flatMap.1 hb;exact⟨t,by simp[ht],Cv⟩
        ·rw[x2]at hb;obtain⟨t,ht,Cv⟩:=List.mem_flatMap.1 hb;exact⟨t,by simp[ht],Cv⟩
       have IB:∀b t,b∈(c2.G t).top->b∈Ba\/w.heap.size<=b:=λb t hb=>by
        rcases k6.gw.allow t b (by simp[GI.own,hb])with h|h
        ·simp only[Cx.B,k1]at h;exact .inr h
        ·rw[k3]at h;exact .inl h
       refine⟨R,bx.map (E.den c2.ρ),f1,_,f2,o2,?_,QX,x1,?_,λb hb=> ?_,λb hb=> ?_⟩
       ·rw[<-hr,tS];cases bx with
        |nil=>rfl
        |cons b bx=>simp only[List.isEmpty_cons,Bv,if_false,E.den,EL.c8,List.map_cons];rfl
       ·rw[x2,<-List.flatMap_append];have:∀l:List Nat,l.Nodup->(l.flatMap λt=>(c2.G t).top).Nodup:=by
         intro l
         induction l with
         |nil=>intro _;simp
         |cons t l ih=>intro hl;rw[List.nodup_cons]at hl;rw[List.flatMap_cons,List.nodup_append];refine⟨(List.nodup_append.1 (k6.gw.nodup t)).1,ih hl.2,λx hx y hy Fw=> ?_⟩;subst Fw;obtain⟨u,hu,Y6⟩:=List.mem_flatMap.1 hy;exact k6.gw.cd t u (λhh=>hl.1 (hh▸hu)) x (by simp[GI.own,hx]) (by simp[GI.own,Y6])
        exact this _ BZ
       ·obtain⟨t,ht,Cv⟩:=Bd b hb;exact⟨IB b t Cv,k6.gw.inb t b (by simp[GI.own,Cv])⟩
       ·have Hv:c2.dr (Tw P τ fn.resultTypes.toList s.res rs++Oj P τ 0 (fn.params.toList++s.ft) s.bj) b:=by
         rcases Af.1 hb with hb|hb
         ·exact(y2 b hb).mono λt ht=>by simp[ht]
         ·exact(x3 b hb).mono λt ht=>by simp[ht]
        rcases Hv with AS|⟨t,ht,Cv⟩
        ·refine⟨λho=> ?_,?_⟩
         ·obtain⟨u,_,Hl⟩:=Bd b ho;exact AS.1 ⟨u,Hl⟩
         ·rcases AS.2 with h|h|h
          ·rw[k2]at h;exact .inl h
          ·simp only[Cx.B,k1]at h;exact .inr (.inr h)
          ·rw[k3]at h;exact .inr (.inl h)
        ·refine⟨λho=> ?_, .inr (IB b t Cv)⟩;obtain⟨u,hu,Hl⟩:=Bd b ho;have LR:t≠u:=by
          rintro rfl;rw[List.any_eq_false]at Ll;have:=Ll t ht;simp only[List.contains_eq_mem,Aq]at this;exact this hu
         exact k6.gw.cd t u LR b (by simp[GI.own,Cv]) (by simp[GI.own,Hl])
      ·have hb:=k6.base;refine⟨?_,?_,?_,?_,λk hk hn=> ?_⟩
       ·rw[hb.os,k1]
       ·rw[hb.tape,k1]
       ·rw[hb.output,k1]
       ·have:=hb.size;rw[k1]at this;exact this
       ·have:=hb.block k (by rw[k1];exact hk) (by rw[k3];exact hn);rw[k1]at this;exact this
     ·cases D1
    ·cases D1
   cases x with
   |normal=>exact main q1
   |ret=>exact main q1
   |exit id=>cases q1
  ·cases Em
 ·cases Em
end
end Go.Proofs.YtndikjghnmhdmaaGreat

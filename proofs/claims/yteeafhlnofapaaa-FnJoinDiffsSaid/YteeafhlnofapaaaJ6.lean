/- Parts of a proof, joined: WSa, WSb, WT, WU, WV, WW. -/
import Derived.Test.YteeafhlnofapaaaJ5
set_option linter.unusedVariables false
set_option linter.unusedSimpArgs false
namespace Go.Proofs.Yteeafhlnofapaaa
open Go.RowKit
section
theorem FH.{u}{α:Type u}{a:α}:[a].length=1:=rfl
section
variable {P:Program} {c:Cx} {n nx:Nat} {sl sl0:Nat->SV} {hp hp0:Nat->Option Ab} {a:Act} {o:Oper} {gs:Gd} {e:AO} {sg:Br} {nv:Nat}
theorem Rel.gb(h:Rel c n sl hp a){sl':Nat->SV}(hs:∀i,sl' i=sl i\/SR c [sl' i] [a.tmps.getD i undef]):Rel c n sl' hp a:=
 ⟨h.defers,h.size,h.base,λi=>by
  rcases hs i with hh|hh
  ·rw[hh];exact h.cb i
  ·exact hh,h.ents,h.off,h.gw,h.az,h.bw⟩
theorem OW{u:Nat}:∀{l:List Operand} {t T v m:Nat} {p:E × Nat × Nat} {s:SV},I5 sl0 u l=some (t,T,v,m,p,s)->Operand.tmp t∈l/\((∃y,sl0 t= .via T v m (some p) y/\s= .own u 0)\/ ∃y k z q,sl0 t= .vptr T v m (some p) y k z q/\s= .br u 0 k z q)
 | [],_,_,_,_,_,_,h=>by simp[I5]at h
 |x::l,t,T,v,m,p,s,h=>by
  cases x with
  |tmp i=>
   simp only[I5]at h;split at h
   ·rename_i hs;simp only[Aa,AB]at h;obtain⟨rfl,rfl,rfl,rfl,rfl,rfl⟩:=h;exact⟨by simp, .inl ⟨_,hs,rfl⟩⟩
   ·rename_i hs;simp only[Aa,AB]at h;obtain⟨rfl,rfl,rfl,rfl,rfl,rfl⟩:=h;exact⟨by simp, .inr ⟨_,_,_,_,hs,rfl⟩⟩
   ·obtain⟨h1,h2⟩:=OW h;exact⟨by simp[h1],h2⟩
  |const v9=>simp only[I5]at h;obtain⟨h1,h2⟩:=OW h;exact⟨by simp[h1],h2⟩
  |func f=>simp only[I5]at h;obtain⟨h1,h2⟩:=OW h;exact⟨by simp[h1],h2⟩
  |global g=>simp only[I5]at h;obtain⟨h1,h2⟩:=OW h;exact⟨by simp[h1],h2⟩
theorem Rel.split(h:Rel c n sl hp a){T v m u:Nat}{p:E × Nat × Nat}{hl inn:Ab}(hs:Ph hp0 T v m u p=some (hl,inn))(Bu:∀t e,hp0 t=some e->hp t=some e)(hu: ¬c.U u){vv:Value}(Hs:c.E T=m->GL c T v (some p) vv):
  ∃recs c1,c1=c.cr c.w recs/\Rel c1 n sl (AT hp [(T,hl),(u,inn)]) a/\C6 c c1/\c1.K u 0/\c1.H u 0=vv/\(∃q n r,vv= .slice q n r/\(q=none\/n=0\/ ∃g,q=some ⟨g,0,none⟩))/\(∀t,c1.U t->c.U t\/t=u)/\c.K T v/\c.E T=m/\c1.E T=m+1/\T≠u:=by
 have eh:EH c hp0:=λt e hr=>h.ents t e (I4 Bu hr);obtain⟨pi,z,po⟩:=p;unfold Ph at hs;split at hs
 ·rename_i e z0 l g ep c0 cN;split at hs
  ·rename_i An;obtain⟨rfl,rfl,W9⟩:=An;simp only at W9;subst W9;split at hs
   ·rename_i e2 z2 l2 BH;simp only[Aa,AB]at hs;obtain⟨rfl,rfl⟩:=hs;simp only at BH;obtain⟨q1,q2,q3,q4,q5⟩:=eh T _ (Cc cN (DY _));obtain⟨b,n9,cap,C,ty,fz,kk,k,p1,p2,p3,p4,p5,p6,p7⟩:=Hs q3;obtain⟨d1,d2,⟨a9,d3,_⟩|⟨g9,cap9,C9,ys,N,d3,d4,d5,d6,d7,d8,d9,d10,d11,d12⟩⟩:=q4.inv
    ·rw[p1]at d3;cases d3;omega
    ·rw[p1]at d3;cases d3;rw[d6]at p3;cases p3;rw[Av.aj]at d2 d12;have cZ:po<z:=by
      rcases Nat.lt_or_ge po l.length with hh|hh
      ·omega
      ·rw[List.getElem?_eq_none hh]at BH;cases BH
     have Gv:k.toNat<ys.length:=by omega
     have hmul:(k.toNat+1)*z<=ys.length*z:=Bo _ (by omega);have DM:ys.length*z<=cap*z:=Bo _ d7;rw[Nat.add_mul]at hmul;have CX:C.toList.length=cap*z:=by simpa using d9
     have AE:k.toNat*z+po<C.size:=by omega
     obtain⟨N1,N2,N3,rfl,s1,s2,s3⟩:=d12.split (k.toNat*z+po) 1;have BL:((C.toList.take (ys.length*z)).drop (k.toNat*z+po)).take 1=[vv]:=by have hv:C[k.toNat*z+po]?=some vv:=p7;rw[List.drop_take,List.take_take,Nat.min_eq_left (by omega),A7 (by simpa using AE),List.take_succ_cons,List.take_zero];rw[Array.getElem?_eq_getElem AE]at hv;simpa using hv
     have GX:=J5 Gv;generalize K1:(AV.sl ys).nth k.toNat=yk at GX;have EG:=d10 yk (List.mem_of_getElem? GX);have Ej:((Ar ys).drop (k.toNat*z+po)).take 1=[(E.fld (.idx c0 pi) po 1 false).den c.ρ]:=by rw[O3 ys d10 _ _ GX po 1 (by omega),A7 (by omega),List.take_succ_cons,List.take_zero];simp only[E.den,d4,p4,AV.idx,K1,AV.fld];simp[show po<yk.cells.length by omega]
     have AX:((BX ys.length l).drop (k.toNat*z+po)).take 1=[.row e2 z2 l2]:=by
      rw[<-d2,O5 l _ _ _ _ Gv (by omega)];have Ho:po<l.length:=by omega
      rw[A7 Ho,List.take_succ_cons,List.take_zero];rw[CS Ho]at BH;simpa using BH
     rw[BL,Ej,AX]at s2;have Fh:=h.az _ _ q1;have Ha:T≠u:=λhh=>hu (hh▸Fh);have BP:=h.gw.nodup T;simp only[GI.own,q5,AG,d5]at BP;have AK:∀r∈([⟨T,none,b::(N1++N3), .hol e z l g (ep+1) c0 pi po u⟩,⟨u,some vv,N2,if l2.toList.all DT.a7 then .row e2 z2 0 (.fld (.idx c0 pi) po 1 false) true else .deep e2 z2 l2.toList 0 0 (.fld (.idx c0 pi) po 1 false)⟩]:List Az),r.new.isSome=true-> ¬c.U r.tag:=λr hr hs=>by
      simp only[Ac,List.not_mem_nil,or_false]at hr;rcases hr with rfl|rfl
      ·cases hs
      ·exact hu
     refine⟨[⟨T,none,b::(N1++N3), .hol e z l g (ep+1) c0 pi po u⟩,⟨u,some vv,N2,if l2.toList.all DT.a7 then .row e2 z2 0 (.fld (.idx c0 pi) po 1 false) true else .deep e2 z2 l2.toList 0 0 (.fld (.idx c0 pi) po 1 false)⟩],_,rfl,?_⟩;generalize AI:([⟨T,none,b::(N1++N3), .hol e z l g (ep+1) c0 pi po u⟩,⟨u,some vv,N2,if l2.toList.all DT.a7 then .row e2 z2 0 (.fld (.idx c0 pi) po 1 false) true else .deep e2 z2 l2.toList 0 0 (.fld (.idx c0 pi) po 1 false)⟩]:List Az)=recs at AK;have hn:(recs.map Az.tag).Nodup:=by rw[<-AI];simp[Ha]
     have aft:=Cx.cm (w':=c.w) h.az hn AK;have Dc:(⟨T,none,b::(N1++N3), .hol e z l g (ep+1) c0 pi po u⟩:Az)∈recs:=by rw[<-AI];simp
     have CQ:(⟨u,some vv,N2,if l2.toList.all DT.a7 then .row e2 z2 0 (.fld (.idx c0 pi) po 1 false) true else .deep e2 z2 l2.toList 0 0 (.fld (.idx c0 pi) po 1 false)⟩:Az)∈recs:=by rw[<-AI];simp
     obtain⟨k1,k2,k3⟩:=aft.new _ CQ vv rfl;have kgT:=aft.G _ Dc;have keT:=aft.ej _ Dc rfl;have kgu:=aft.G _ CQ;have keu:=aft.fw _ CQ rfl;obtain⟨kT1,kT2⟩:=aft.K T g q1;simp only at k1 k2 k3 kgT keT kgu keu;have JE:∀q,q∈b::(N1++N3)\/q∈N2->q∈(c.G T).top:=λq hq=>by rw[d5];simp only[Ac,Ae]at hq ⊢;rcases hq with(hq|hq|hq)|hq<;>simp[hq]
     obtain⟨hrel,By⟩:=h.changes (recs:=recs) (gs:=[]) (hs:=(c.G T).top) (DY _) (Mod.refl _ c.w) hn AK (λq hq=>⟨_,Dc,hq⟩) (by
       rw[<-AI];simp only[List.flatMap_cons,List.flatMap_nil,AG];rw[List.nodup_cons]at BP;obtain⟨n1,n2⟩:=BP;rw[List.append_assoc,List.nodup_append,List.nodup_append]at n2;obtain⟨a1,⟨a2,a3,a4⟩,a5⟩:=n2;rw[List.cons_append,List.nodup_cons,List.nodup_append,List.nodup_append];refine⟨λhh=>n1 ?_,⟨a1,a3,λx hx y hy=>a5 x hx y (Ae.2 (.inr hy))⟩,a2,λx hx y hy EP=> ?_⟩
       ·simp only[Ae]at hh ⊢;rcases hh with(hh|hh)|hh<;>simp[hh]
       ·rcases Ae.1 hx with hx|hx
        ·exact a5 x hx y (Ae.2 (.inl hy)) EP
        ·exact a4 y hy x hx EP.symm)
      (λr hr q hq=>by
       have:q∈(c.G T).top:=by
        rw[<-AI]at hr;simp only[Ac,List.not_mem_nil,or_false]at hr;rcases hr with rfl|rfl
        ·exact JE q (.inl hq)
        ·exact JE q (.inr hq)
       exact⟨.inl this,h.gw.inb T q (by simp[GI.own,this])⟩)
      (λr hr=>by
       rw[<-AI]at hr;simp only[Ac,List.not_mem_nil,or_false]at hr;rcases hr with rfl|rfl
       ·intros;simp
       ·intros;simp only;split<;>simp)
      (λhk r hr=>by
       rw[<-AI]at hr;simp only[Ac,List.not_mem_nil,or_false]at hr;rcases hr with rfl|rfl
       ·refine⟨kT1,λg' BW=>q2 g' (aft.old T Fh g' BW),by rw[keT,q3],?_,by rw[kgT]⟩;rw[kT2,p1,kgT];exact⟨b,cap,C,ys,kk,k,N1,N3,rfl,d4,p4,p5,p6,cZ,d1,d2,d6,d7,d8,d9,d10,d11,rfl,k1,by rw[k3];exact p7,s1,s3⟩
       ·simp only;split
        ·rename_i hf;have A9:=s2.ki hf;refine⟨k1,k2,[],?_,by simp,λ_=>⟨rfl,by rw[kgu]⟩,λ_=>by rw[kgu]⟩;rw[k3,kgu];exact A9
        ·refine⟨k1,k2,keu,?_,by rw[kgu]⟩;rw[k3,kgu,Av.b8];exact s2)
     refine⟨?_,By,k1,k3,?_,λt ht=> ?_,q1,q3,by rw[keT,q3],Ha⟩
     ·have:(recs.map λr=>(r.tag,Cj [] r.au))=[(T, .hol e z l g (ep+1) c0 pi po u),(u,if l2.toList.all DT.a7 then .row e2 z2 0 (.fld (.idx c0 pi) po 1 false) true else .deep e2 z2 l2.toList 0 0 (.fld (.idx c0 pi) po 1 false))]:=by
       rw[<-AI];simp[Cj]
      rw[this]at hrel;exact hrel
     ·obtain⟨_,_,⟨a9,h1,_⟩|⟨g9,cap9,C9,ys9,N9,h1,_⟩⟩:=s2.inv
      ·exact⟨a9,0,0,h1, .inr (.inl rfl)⟩
      ·exact⟨_,_,_,h1, .inr (.inr ⟨g9,rfl⟩)⟩
     ·rcases ht with ht|⟨r,hr,rfl⟩
      ·exact .inl ht
      ·rw[<-AI]at hr;simp only[Ac,List.not_mem_nil,or_false]at hr;rcases hr with rfl|rfl
       ·exact .inl Fh
       ·exact .inr rfl
   ·cases hs
  ·cases hs
 ·cases hs
theorem Rel.close(h:Rel c n sl hp a){T u:Nat}{hl r d:Ab}(hT:hp T=some hl)(hu:hp u=some r)(hr:Pp P hl r=some d)(IT:∃q1 q2 q3 q4 q5 q6 q7 q8,hl= .hol q1 q2 q3 q4 q5 q6 q7 q8 u)(Ha:T≠u):
  ∃recs c1,c1=c.cr c.w recs/\Rel c1 n sl (AT hp [(T,d),(u, .dead)]) a/\(∀t,c1.U t->c.U t)/\c.E T<c1.E T:=by
 obtain⟨e,z,l,g,ep,c0,i,o',rfl⟩:=IT;have key:∀(e2 z2:Nat) (l2:Av) (x:E),l[o']?=some (.row e2 z2 l2)->DC c.w [.row e2 z2 l2] [c.H u 0] [x.den c.ρ] (c.G u).top->c.U u->d= .deep e z l g (ep+1) (.set c0 i (.put (.idx c0 i) o' x (Ag P e)))->(Ag P e=false->z=1)->
   ∃recs c1,c1=c.cr c.w recs/\Rel c1 n sl (AT hp [(T,d),(u, .dead)]) a/\(∀t,c1.U t->c.U t)/\c.E T<c1.E T:=by
  rintro e2 z2 l2 x BH Nv P7 rfl Gl;obtain⟨q1,q2,q3,⟨b,cap,C,ys,kk,k,N1,N2,p1,p2,p3,p4,p5,p6,p7,p7',p8,p9,p10,p11,p12,p13,p14,p15,p16,p17,p18⟩,q5⟩:=h.ents T _ (by rw[hT];rfl);have Fh:=h.az _ _ q1;have Gv:k.toNat<ys.length:=by omega
  have hmul:(k.toNat+1)*z<=ys.length*z:=Bo _ (by omega);have DM:ys.length*z<=cap*z:=Bo _ p9;rw[Nat.add_mul]at hmul;have CX:C.toList.length=cap*z:=by simpa using p11
  have AE:k.toNat*z+o'<C.size:=by omega
  have GX:=J5 Gv;generalize K1:(AV.sl ys).nth k.toNat=yk at GX;have EG:=p12 yk (List.mem_of_getElem? GX);obtain⟨zs,Du⟩:∃zs,x.den c.ρ= .sl zs:=by
   obtain⟨_,_,⟨_,_,hx,_⟩|⟨_,_,_,_,_,_,hx,_⟩⟩:=Nv.inv
   ·exact⟨_,hx⟩
   ·exact⟨_,hx⟩
  have Fk:(x.den c.ρ).cells=[x.den c.ρ]:=by rw[Du];rfl
  have hz:(yk.ct o' (x.den c.ρ) (Ag P e)).cells=setVs yk.cells o' (x.den c.ρ).cells:=by
   refine UR ?_ (λhg=> ?_)
   ·cases hg:Ag P e with
    |true=>exact .inr rfl
    |false=>left;rw[Du];intro cs hh;cases hh
   ·have:=Gl hg;exact⟨by omega,by omega,Fk⟩
  have DI:Ar (ys.set k.toNat (yk.ct o' (x.den c.ρ) (Ag P e)))=setVs (Ar ys) (k.toNat*z+o') (x.den c.ρ).cells:=
   Rz ys _ _ yk o' _ p12 GX (by rw[Fk];simp;omega) hz
  have Fu:((BX ys.length l).drop (k.toNat*z+o')).take 1=[.row e2 z2 l2]:=by
   rw[<-p7',O5 l _ _ _ _ Gv (by omega)];have Ho:o'<l.length:=by omega
   rw[A7 Ho,List.take_succ_cons,List.take_zero];rw[CS Ho]at BH;simpa using BH
  have N8:setVs (C.toList.take (ys.length*z)) (k.toNat*z+o') [c.H u 0]=C.toList.take (ys.length*z):=by
   apply List.ext_getElem?;intro j;have cI:(C.toList.take (ys.length*z)).length=ys.length*z:=by rw[AU,CX];exact Nat.min_eq_left DM
   rw[Ml _ _ _ (by rw[cI];show k.toNat*z+o'+1<=_;omega)];split
   ·rename_i hj;simp only[AQ,List.length_nil]at hj;have:j=k.toNat*z+o':=by omega
    subst this;rw[Nat.sub_self,List.getElem?_take,if_pos (by omega)];have:=p16;simpa using this.symm
   ·rfl
  have AM:DC c.w [.row e z (Av.of l)] [c.H T g] [(E.set c0 i (.put (.idx c0 i) o' x (Ag P e))).den c.ρ] (b::(N1++((c.G u).top++N2))):=by
   have BN:(E.set c0 i (.put (.idx c0 i) o' x (Ag P e))).den c.ρ= .sl (ys.set k.toNat (yk.ct o' (x.den c.ρ) (Ag P e))):=by simp only[E.den,p2,p3,AV.idx,K1,AV.cu]
   rw[BN,p1];have Db:(ys.set k.toNat (yk.ct o' (x.den c.ρ) (Ag P e))).length=ys.length:=List.length_set;have:=DC.row (w:=c.w) (e:=e) (z:=z) (l:=Av.of l) (g:=b) (cap:=cap) (C:=C) (ys:=ys.set k.toNat (yk.ct o' (x.den c.ρ) (Ag P e))) (N1:=N1++((c.G u).top++N2)) (ts:=[]) (vs:=[]) (xs:=[]) (N:=[]) p7 (by rw[Av.aj];exact p7') p8 (by rw[Db];exact p9) p10 p11 (λw hw=>by
     rcases List.mem_or_eq_of_mem_set hw with hw|rfl
     ·exact p12 w hw
     ·rw[hz,Mh _ _ _ (by rw[Fk,EG];simp;omega)];exact EG) (by rw[Db];exact p13) (by
     rw[Db,Av.aj,DI,<-N8];refine DC.setVs p17 ?_ ?_
     ·exact p18
     ·rw[FH,Fu,Fk];exact Nv) .nil
   rw[Db]at this;simpa using this
  have rQ:=q1;have AK:∀r∈([⟨T,none,b::(N1++((c.G u).top++N2)), .deep e z l g (ep+1) (.set c0 i (.put (.idx c0 i) o' x (Ag P e)))⟩,⟨u,none,[], .dead⟩]:List Az),r.new.isSome=true-> ¬c.U r.tag:=λr hr hs=>by simp only[Ac,List.not_mem_nil,or_false]at hr;rcases hr with rfl|rfl<;>cases hs
  refine⟨[⟨T,none,b::(N1++((c.G u).top++N2)), .deep e z l g (ep+1) (.set c0 i (.put (.idx c0 i) o' x (Ag P e)))⟩,⟨u,none,[], .dead⟩],_,rfl,?_⟩;generalize AI:([⟨T,none,b::(N1++((c.G u).top++N2)), .deep e z l g (ep+1) (.set c0 i (.put (.idx c0 i) o' x (Ag P e)))⟩,⟨u,none,[], .dead⟩]:List Az)=recs at AK;have hn:(recs.map Az.tag).Nodup:=by rw[<-AI];simp[Ha]
  have aft:=Cx.cm (w':=c.w) h.az hn AK;have Dc:(⟨T,none,b::(N1++((c.G u).top++N2)), .deep e z l g (ep+1) (.set c0 i (.put (.idx c0 i) o' x (Ag P e)))⟩:Az)∈recs:=by rw[<-AI];simp
  have CQ:(⟨u,none,[], .dead⟩:Az)∈recs:=by rw[<-AI];simp
  have kgT:=aft.G _ Dc;have keT:=aft.ej _ Dc rfl;have kgu:=aft.G _ CQ;obtain⟨kT1,kT2⟩:=aft.K T g q1;simp only at kgT keT kgu;have Cm:∀q,q∈b::(N1++((c.G u).top++N2))->q∈(c.G T).top\/q∈(c.G u).top:=λq hq=>by rw[p14];simp only[Ac,Ae]at hq ⊢;rcases hq with hq|hq|hq|hq<;>simp[hq]
  have KM:=h.gw.nodup T;simp only[GI.own,q5,AG,p14]at KM;have TE:(c.G u).top.Nodup:=by have:=h.gw.nodup u;simp only[GI.own]at this;exact(List.nodup_append.1 this).1
  have EY:∀q∈(c.G u).top,q∉b::(N1++N2):=λq hq hh=>h.gw.bm u T (Ne.symm Ha) q (by simp[GI.own,hq]) (by rw[<-p14]at hh;simp[GI.own,hh]);obtain⟨hrel,By⟩:=h.changes (recs:=recs) (gs:=[]) (hs:=(c.G T).top++(c.G u).top) (DY _) (Mod.refl _ c.w) hn AK (λq hq=>by
    rcases Ae.1 hq with hq|hq
    ·exact⟨_,Dc,hq⟩
    ·exact⟨_,CQ,hq⟩) (by
    rw[<-AI];simp only[List.flatMap_cons,List.flatMap_nil,AG];rw[List.nodup_cons,List.nodup_append]at KM;obtain⟨n1,a1,a2,a3⟩:=KM;rw[List.nodup_cons,List.nodup_append,List.nodup_append];refine⟨λhh=> ?_,a1,⟨TE,a2,λx hx y hy EP=>EY x hx (by rw[EP];simp[hy])⟩,λx hx y hy EP=> ?_⟩
    ·simp only[Ae]at hh n1;rcases hh with hh|hh|hh
     ·exact n1 (.inl hh)
     ·exact EY b hh (by simp)
     ·exact n1 (.inr hh)
    ·rcases Ae.1 hy with hy|hy
     ·exact EY y hy (by rw[<-EP];simp[hx])
     ·exact a3 x hx y hy EP)
   (λr hr q hq=>by
    have:q∈(c.G T).top\/q∈(c.G u).top:=by
     rw[<-AI]at hr;simp only[Ac,List.not_mem_nil,or_false]at hr;rcases hr with rfl|rfl
     ·exact Cm q hq
     ·simp at hq
    refine⟨.inl (Ae.2 this),?_⟩;rcases this with hh|hh
    ·exact h.gw.inb T q (by simp[GI.own,hh])
    ·exact h.gw.inb u q (by simp[GI.own,hh]))
   (λr hr=>by rw[<-AI]at hr;simp only[Ac,List.not_mem_nil,or_false]at hr;rcases hr with rfl|rfl<;>(intros;simp))
   (λhk r hr=>by
    rw[<-AI]at hr;simp only[Ac,List.not_mem_nil,or_false]at hr;rcases hr with rfl|rfl
    ·exact⟨kT1,λg' BW=>q2 g' (aft.old T Fh g' BW),by rw[keT,q3],by rw[kT2,kgT];exact AM,by rw[kgT]⟩
    ·exact⟨by rw[kgu],by rw[kgu]⟩)
  refine⟨?_,λt ht=> ?_,by rw[keT];omega⟩
  ·have:(recs.map λr=>(r.tag,Cj [] r.au))=[(T, .deep e z l g (ep+1) (.set c0 i (.put (.idx c0 i) o' x (Ag P e)))),(u, .dead)]:=by
    rw[<-AI];simp[Cj]
   rw[this]at hrel;exact hrel
  ·rcases ht with ht|⟨r,hr,rfl⟩
   ·exact ht
   ·rw[<-AI]at hr;simp only[Ac,List.not_mem_nil,or_false]at hr;rcases hr with rfl|rfl
    ·exact Fh
    ·exact P7
 have P7:c.U u:=h.bw u r hu;unfold Pp at hr;simp only at hr;split at hr
 ·rename_i e2 z2 l2 e3 z3 x BH;split at hr
  ·rename_i hh;obtain⟨hf,rfl,rfl,hlen,Ap⟩:=hh;simp only[Aa]at hr;obtain⟨q1,q2,N,q4,q5,q6,q7⟩:=h.ents u _ (by rw[hu];rfl);obtain⟨hN,_⟩:=q6 rfl;have hN:N=[]:=hN;subst hN;exact key _ _ _ _ BH (DC.iw q4 hf hlen) P7 hr.symm (by rcases Ap with hh|hh;(rw[hh];simp);exact λ_=>hh)
  ·cases hr
 ·rename_i e2 z2 l2 e3 z3 l3 x BH;split at hr
  ·rename_i hh;obtain⟨rfl,rfl,hb,Ap⟩:=hh;simp only[Aa]at hr;have hb:=Av.of_eq hb;subst hb;obtain⟨q1,q2,q3,q4,q5⟩:=h.ents u _ (by rw[hu];rfl);rw[Av.b8]at q4;exact key _ _ _ _ BH q4 P7 hr.symm (by rcases Ap with hh|hh;(rw[hh];simp);exact λ_=>hh)
  ·cases hr
 ·cases hr
end
section
variable {P:Program} {c:Cx} {n nx:Nat} {sl sl0:Nat->SV} {hp hp0:Nat->Option Ab} {a:Act} {o:Oper} {gs:Gd} {e:AO} {sg:Br} {nv:Nat}
theorem Mk(hp:Nat->Option Ab):∀(l:List (Nat × Ab)) (t:Nat),AT hp l t=match I1 l t with|some f=>some f|none=>hp t
 | [],t=>rfl
 |(u,e)::l,t=>by
  have:=Mk (λv=>if v=u then some e else hp v) l t;simp only[AT,List.foldl_cons,I1]at this ⊢;rw[this];cases I1 l t with
  |some f=>rfl
  |none=>
   simp only;by_cases h:u=t
   ·rw[if_pos h.symm,if_pos h]
   ·rw[if_neg (Ne.symm h),if_neg h]
theorem gW{hp:Nat->Option Ab}{T v m u:Nat}{p:E × Nat × Nat}{h r:Ab}(hs:Ph hp T v m u p=some (h,r)):∃e z l ep c0 i o',h= .hol e z l v (m+1) c0 i o' u/\Cw hp [] T=some (.deep e z l v ep c0)/\ep=m:=by
 unfold Ph at hs;split at hs
 ·rename_i hl;split at hs
  ·rename_i hh;obtain⟨rfl,rfl,_⟩:=hh;split at hs
   ·simp only[Aa,AB]at hs;obtain⟨rfl,_⟩:=hs;exact⟨_,_,_,_,_,_,_,rfl,hl,rfl⟩
   ·cases hs
  ·cases hs
 ·cases hs
theorem iT{h r d:Ab}{e z:Nat}{l:List DT}{g ep:Nat}{c0 i:E}{o' u:Nat}(hh:h= .hol e z l g ep c0 i o' u)(hc:Pp P h r=some d):∃x,d= .deep e z l g (ep+1) x:=by
 subst hh;unfold Pp at hc;simp only at hc;split at hc
 ·split at hc
  ·simp only[Aa]at hc;exact⟨_,hc.symm⟩
  ·cases hc
 ·split at hc
  ·simp only[Aa]at hc;exact⟨_,hc.symm⟩
  ·cases hc
 ·cases hc
theorem qO(Hx:∀f s,sg f=some s->f<1000000)(h:A1 P c n nx sl hp a sl0 hp0 o [])(hu: ¬c.U (nx+999))(he:Px P sg sl0 hp0 nv nx o=some e)
  (hc:∀q∈e.bu,q.den c.ρ) (AW:∀cl,e.call=some cl-> ∃r,c.ρ[nv]?=some r/\GG (CI P sg) cl.fn ((EL.of cl.args).den c.ρ) c.ρ r):Ao P o c n nx sl hp [] a e:=by
 unfold Px at he;simp only at he;split at he
 ·cases he
 rename_i t T v m p s Jt;split at he
 ·cases he
 rename_i hl inn Oa;split at he
 ·cases he
 rename_i e0 IC;split at he
 ·cases he
 rename_i Co;have Co:e0.bc=none:=by cases hh:e0.bc with|none=>rfl|some x=>rw[hh]at Co;simp at Co
 obtain⟨CJ,AH⟩:=OW Jt;have CJ:Operand.tmp t∈o.op.operands:=by simpa using CJ
 obtain⟨fe,fz,fl,fep,fc0,fi,fo,rfl,FY,rfl⟩:=gW Oa;have hE:c.E T=fep:=(h.eh T _ (Cc FY (DY _))).2.2.1;have DR:=h.rel.cb t;rw[<-h.sl t CJ]at DR;obtain⟨vv,Hs,AN⟩:∃vv,GL c T v (some p) vv/\ ∀c1:Cx,c1.ρ=c.ρ->c1.K (nx+999) 0->c1.H (nx+999) 0=vv->(∃q n r,vv= .slice q n r/\(q=none\/n=0\/ ∃g,q=some ⟨g,0,none⟩))->SR c1 [s] [a.tmps.getD t undef]:=by
  rcases AH with⟨y,Cy,rfl⟩|⟨y,k,z,q,Cy,rfl⟩
  ·rw[Cy]at DR;generalize a.tmps.getD t undef=av at DR ⊢;cases DR with
   |via h1 h2 h3 _=>obtain⟨_,hp⟩:=h3 hE;refine⟨_,hp,λc1 e1 k1 k2 k3=> ?_⟩;obtain⟨q,n,r,rfl,_⟩:=k3;exact .own k1 k2 .nil
  ·rw[Cy]at DR;generalize a.tmps.getD t undef=av at DR ⊢;cases DR with
   |vptr h1 h2 h3 _=>
    obtain⟨b,off,len,cap,kk,kv,g1,g2,g3,g4,g5,g6,rfl⟩:=h3 hE;refine⟨_,g2,λc1 e1 k1 k2 k3=> ?_⟩;obtain⟨q9,n9,r9,hv,hq⟩:=k3;cases hv;have E7:off=0:=by
     rcases hq with hq|hq|⟨g,hq⟩
     ·cases hq
     ·omega
     ·cases hq;rfl
    subst E7;have:=SR.br (c:=c1) (i:=k) (sz:=z) (o:=q) k1 k2 (by rw[e1];exact g3) g4 g5 .nil;simpa using this
 obtain⟨recs,c1,rfl,CG,KG,bC,Is,dN,SH,rP,_,rN,Ha⟩:=h.rel.split Oa h.hp hu (λ_=>Hs);have IM:=AN _ KG.ρ bC Is dN;have Em:=CG.gb (sl':=λi=>if i=t then s else sl i) (λi=>by
  by_cases hi:i=t
  ·subst hi;right;simpa using IM
  ·left;simp[hi])
 have Df:∀x,AT hp [(T, .hol fe fz fl v (fep+1) fc0 fi fo (nx+999)),(nx+999,inn)] x=if x=nx+999 then some inn else if x=T then some (.hol fe fz fl v (fep+1) fc0 fi fo (nx+999))else hp x:=λx=>rfl;have pre1:A1 P (c.cr c.w recs) n nx (λi=>if i=t then s else sl i) (AT hp [(T, .hol fe fz fl v (fep+1) fc0 fi fo (nx+999)),(nx+999,inn)]) a (λi=>if i=t then s else sl0 i) (λw=>if w=T then some (.hol fe fz fl v (fep+1) fc0 fi fo (nx+999))else if w=nx+999 then some inn else hp0 w) o []:=by
  refine⟨Em,DY _,λi hi=> ?_,λx f hf=> ?_,λx h1 h2 hx=> ?_⟩
  ·by_cases Qc:i=t
   ·simp[Qc]
   ·simp only[if_neg Qc];exact h.sl i hi
  ·rw[Df];by_cases h1:x=T
   ·rw[if_pos h1]at hf;rw[if_neg (by rw[h1];exact Ha),if_pos h1];exact hf
   ·rw[if_neg h1]at hf;by_cases h2:x=nx+999
    ·rw[if_pos h2]at hf ⊢;exact hf
    ·rw[if_neg h2]at hf;rw[if_neg h2,if_neg h1];exact h.hp x f hf
  ·rcases SH x hx with hx|hx
   ·exact h.new x h1 h2 hx
   ·omega
 have bW:∀(c':Cx) (a':Act) (w9:SV),Rel c' n (Ch n (λi=>if i=t then s else sl i) o.dst w9) (λ_=>none) a'->True:=λ_ _ _ _=>trivial;have stale:∀(c':Cx) (v':Value),c'.K T v->fep<c'.E T->SR c' [sl t] [v']:=by
  intro c' v' hk AE;rw[<-h.sl t CJ];rcases AH with⟨y,Cy,_⟩|⟨y,k,z,q,Cy,_⟩
  ·rw[Cy];exact .via hk (by omega) (λhh=>by omega) .nil
  ·rw[Cy];exact .vptr hk (by omega) (λhh=>by omega) .nil
 have back:∀{c':Cx} {hp':Nat->Option Ab} {a':Act} {w9:SV},Rel c' n (Ch n (λi=>if i=t then s else sl i) o.dst w9) hp' a'->c'.K T v->fep<c'.E T->Rel c' n (Ch n sl o.dst w9) hp' a':=by
  intro c' hp' a' w9 hr hk AE;refine hr.gb λi=> ?_;unfold Ch;by_cases h1:o.dst=some i/\i<n
  ·left;rw[if_pos h1,if_pos h1]
  ·rw[if_neg h1,if_neg h1];by_cases h2:i=t
   ·subst h2;right;exact stale _ _ hk AE
   ·left;show sl i=if i=t then s else sl i;rw[if_neg h2]
 split at he
 ·
  split at he
  ·rename_i NK;simp only[Aa]at he;subst he;have He:=Wa Hx pre1 IC hc AW (λx hx=>by rw[Co]at hx;cases hx);intro next Q hk
   refine He next Q λa' c' AP hr=> ?_
   have SF:AT (AT hp [(T, .hol fe fz fl v (fep+1) fc0 fi fo (nx+999)),(nx+999,inn)]) e0.au T=some (.hol fe fz fl v (fep+1) fc0 fi fo (nx+999)):=by rw[Mk,NK,Df,if_neg Ha,if_pos rfl]
   obtain⟨g1,_,g3,_⟩:=hr.ents T _ (by rw[SF];rfl);refine hk a' c' ⟨AP.ρ,AP.A,AP.w0,AP.Mu,λx hx=> ?_⟩ (back hr g1 (by omega));rcases AP.U x hx with hx|hx
   ·rcases SH x hx with hx|hx
    ·exact .inl hx
    ·exact .inr ⟨by omega,by simp only[Bl];omega⟩
   ·exact .inr hx
  ·cases he
 ·split at he
  ·rename_i r' cO cK;obtain⟨d,hd,rfl⟩:=Aj.1 he;have He:=Wa Hx pre1 IC hc AW (λx hx=>by rw[Co]at hx;cases hx);intro next Q hk
   refine He next Q λa' c' AP hr=> ?_
   have SF:AT (AT hp [(T, .hol fe fz fl v (fep+1) fc0 fi fo (nx+999)),(nx+999,inn)]) e0.au T=some (.hol fe fz fl v (fep+1) fc0 fi fo (nx+999)):=by rw[Mk,cK,Df,if_neg Ha,if_pos rfl]
   have dL:AT (AT hp [(T, .hol fe fz fl v (fep+1) fc0 fi fo (nx+999)),(nx+999,inn)]) e0.au (nx+999)=some r':=by rw[Mk,cO]
   obtain⟨recs2,c2,rfl,Dy,bJ,rO⟩:=hr.close SF dL hd ⟨_,_,_,_,_,_,_,_,rfl⟩ Ha;obtain⟨x9,rfl⟩:=iT rfl hd;have SG:AT (AT (AT hp [(T, .hol fe fz fl v (fep+1) fc0 fi fo (nx+999)),(nx+999,inn)]) e0.au) [(T, .deep fe fz fl v (fep+1+1) x9),(nx+999, .dead)] T=some (.deep fe fz fl v (fep+1+1) x9):=by show(if T=nx+999 then _ else if T=T then _ else _)=_;rw[if_neg Ha,if_pos rfl]
   obtain⟨g1,_,g3,_⟩:=Dy.ents T _ (by rw[SG];rfl);have Da:=back Dy g1 (by omega);have A8:AT hp ((T, .hol fe fz fl v (fep+1) fc0 fi fo (nx+999))::(nx+999,inn)::e0.au++ [(T, .deep fe fz fl v (fep+1+1) x9),(nx+999, .dead)])=AT (AT (AT hp [(T, .hol fe fz fl v (fep+1) fc0 fi fo (nx+999)),(nx+999,inn)]) e0.au) [(T, .deep fe fz fl v (fep+1+1) x9),(nx+999, .dead)]:=by rw[<-Ll,<-Ll];rfl
   refine hk a' (c'.cr c'.w recs2) ⟨AP.ρ,AP.A,AP.w0,AP.Mu,λx hx=> ?_⟩ ?_
   ·rcases AP.U x (bJ x hx)with hx|hx
    ·rcases SH x hx with hx|hx
     ·exact .inl hx
     ·exact .inr ⟨by omega,by simp only[Bl];omega⟩
    ·exact .inr hx
   ·have:=Da;rw[<-A8]at this;exact this
  ·cases he
theorem lA(h:A1 P c n nx sl hp a sl0 hp0 o gs){e:AO}(dp:Bool)(hd:Ao P o c n nx sl hp gs a e):Ao P o c n nx sl hp gs a (HO dp hp0 gs e):=by
 unfold HO;split
 ·exact hd
 ·split
  ·rename_i l hl;intro next Q hk
   refine hd next Q λa' c' hs hr=> ?_
   have e1:AT hp0 e.au=λt=>match I1 e.au t with|some f=>some f|none=>hp0 t:=funext (Mk hp0 e.au)
   have hl:C3 (AT hp0 e.au) [] (Zh e.au)=some l:=by rw[e1];exact hl
   have Js:=hr.freeze (hp0:=AT hp0 e.au) (λt e' h'=>by
    rw[Mk]at h' ⊢;split at h'
    ·exact h'
    ·exact h.hp t e' h') (DY _) hl
   refine hk a' (c'.a6 (l.map (·.1))) ⟨hs.ρ,hs.A,hs.w0,hs.Mu,hs.U⟩ ?_;show Rel _ _ _ (AT hp (e.au++l)) a';rw[Ll];exact Js
  ·exact hd
theorem kZ(dp:Bool)(e:AO):(HO dp hp0 gs e).call=e.call:=by
 unfold HO;split
 ·rfl
 ·split<;>rfl
theorem nN(dp:Bool)(e:AO):(HO dp hp0 gs e).bu=e.bu:=by
 unfold HO;split
 ·rfl
 ·split<;>rfl
theorem UP(dp:Bool)(e:AO):(HO dp hp0 gs e).bc=e.bc:=by
 unfold HO;split
 ·rfl
 ·split<;>rfl
theorem lT{dp:Bool}{e:AO}{x:E}(h:e.bc=some x):HO dp hp0 gs e=e:=by unfold HO;rw[if_pos (by simp[h])]
theorem oM(h:A1 P c n nx sl hp a sl0 hp0 o gs){e:AO}(fz:Bool)(hd:Ao P o c n nx sl hp gs a e):Ao P o c n nx sl hp gs a (HR fz hp0 gs e):=by
 unfold HR;split
 ·exact hd
 ·rename_i SQ;simp only[Bool.or_eq_true,not_or]at SQ;have bX:e.au=[]:=by simpa using SQ.2
  split
  ·rename_i t g m p x hv;split
   ·rename_i y l hy hl;split
    ·rename_i Gx;intro next Q hk
     refine hd next Q λa' c' hs hr=> ?_
     rw[bX]at hr;have Te:gs=[]:=by simpa using SQ.1.1.1.2
     subst Te;have hr:Rel c' n (Ch n sl o.dst e.val) hp a':=hr;have eh:EH c' hp0:=λt e Dd=>hr.ents t e (I4 h.hp Dd);have Js:=hr.freeze h.hp (DY _) hl;refine hk a' (c'.a6 (l.map (·.1))) ⟨hs.ρ,hs.A,hs.w0,hs.Mu,hs.U⟩ ?_;refine{Js with cb:=λi=> ?_};have h1:=hr.cb i;have h2:=Js.cb i;unfold Ch at h1 h2 ⊢;split
     ·rename_i hi;rw[if_pos hi]at h1;obtain⟨f,q1,q2⟩:=Gb eh (DY _) AJ hy h1 AJ (Ax _);exact .e q1 (λb hb=>O4 hr eh (DY _) hl Gx (q2 b hb)) .nil
     ·rename_i hi;rw[if_neg hi]at h2;exact h2
    ·exact hd
   ·exact hd
  ·exact hd
theorem lC(fz:Bool)(e:AO):(HR fz hp0 gs e).call=e.call:=by
 unfold HR;split
 ·rfl
 ·split
  ·split
   ·split<;>rfl
   ·rfl
  ·rfl
theorem mW(fz:Bool)(e:AO):(HR fz hp0 gs e).bu=e.bu:=by
 unfold HR;split
 ·rfl
 ·split
  ·split
   ·split<;>rfl
   ·rfl
  ·rfl
theorem YP(fz:Bool)(e:AO):(HR fz hp0 gs e).bc=e.bc:=by
 unfold HR;split
 ·rfl
 ·split
  ·split
   ·split<;>rfl
   ·rfl
  ·rfl
theorem mV{fz:Bool}{e:AO}{x:E}(h:e.bc=some x):HR fz hp0 gs e=e:=by unfold HR;rw[if_pos (by simp[h])]
theorem rG(Hx:∀f s,sg f=some s->f<1000000):LI P sg (CI P sg):=by
 intro c n nx sl hp a sl0 hp0 o gs e nv h hu he hc AW Co;unfold Jd at he;split at he
 ·rename_i e' D3;simp only[Aa]at he;subst he;rw[mW,nN]at hc;rw[lC,kZ]at AW;rw[YP,UP]at Co;exact oM h _ (lA h _ (Wa Hx h D3 hc AW Co))
 ·split at he
  ·exact qO Hx h hu he hc AW
  ·cases he
theorem jA{x:E}(he:Px P sg sl0 hp0 nv nx o=some e)(hq:e.bc=some x):False:=by
 unfold Px at he;simp only at he;split at he
 ·cases he
 split at he
 ·cases he
 split at he
 ·cases he
 rename_i e0 IC;split at he
 ·cases he
 rename_i Co;have Co:e0.bc=none:=by cases hh:e0.bc with|none=>rfl|some x=>rw[hh]at Co;simp at Co
 split at he
 ·split at he
  ·simp only[Aa]at he;subst he;rw[Co]at hq;cases hq
  ·cases he
 ·split at he
  ·obtain⟨d,hd,rfl⟩:=Aj.1 he;rw[Co]at hq;cases hq
  ·cases he
theorem iS{x:E}(he:Jd P sg sl0 hp0 nv nx gs o=some e)(hq:e.bc=some x):Bk P sg sl0 hp0 nv nx gs o=some e:=by
 unfold Jd at he;split at he
 ·rename_i e' D3;simp only[Aa]at he;subst he;rw[YP,UP]at hq;rw[mV (by rw[UP];exact hq),lT hq];exact D3
 ·split at he
  ·exact(jA he hq).elim
  ·cases he
theorem qS:PL P sg:=by
 intro c n nx sl hp a sl0 hp0 o gs e nv x h he hq hb;unfold Ib at hb;cases AD:o.op with
 |binOp op t y z ty=>
  rw[AD]at hb;simp only at hb;have he:=iS he hq;simp only[Bk,AD,Ak]at he;obtain⟨s1,Bj,s2,AN,he⟩:=he;have key:∀xq,A5 hp0 gs AJ s1=some xq->xq.den c.ρ= .sl []:=by
   intro xq HA;obtain⟨f,q1,_⟩:=h.gz Bj (by simp[AD,Op.operands]) HA;generalize a.eval y=v at q1 hb;split at hb
   ·generalize xq.den c.ρ=d at q1;cases q1 with
    |c7 _=>rfl
   ·cases hb
  unfold MJ at he;split at he
  ·split at he
   ·simp at he;subst he;cases hq
   ·simp at he;subst he;cases hq
   ·obtain⟨xq,HA,rfl⟩:=Aj.1 he;cases hq;exact key _ HA
   ·obtain⟨xq,HA,rfl⟩:=Aj.1 he;cases hq;exact key _ HA
   ·cases he
  ·split at he
   ·simp at he;subst he;cases hq
   ·cases he
  ·split at he
   ·simp at he;subst he;cases hq
   ·cases he
  ·split at he
   ·simp at he;subst he;cases hq
   ·cases he
  ·split at he
   ·cases he
   ·split at he
    ·split at he
     ·simp at he;subst he;cases hq
     ·simp at he;subst he;cases hq
     ·cases he
    ·cases he
  ·cases he
 |_=>rw[AD]at hb;simp at hb
end
def FO(ms:List PM)(vs:List Value)(t:Nat):Option Value:=
 if Ka t then(match vs[t/1000]?,(ms[t/1000]?).getD .ro with
  |some v, .bx .. =>if t % 1000=0 then some v else none
  |some v, .mu _=>if 500<=t % 1000 then v.cells[t % 1000-500]? else none
  |_,_=>none)
 else none
section
variable {P:Program} {c:Cx} {w:World}
theorem B5.fc{ts:List TypeId}{fl:List Bool}{us:List Value}{ys:List AV}{rf hs:List Nat}(h:B5 P w ts fl us ys rf hs){nx:Nat}{mk:Nat->E}{j:Nat}:∀(k:Nat) (u:Value),us[k]?=some u->(∃e,(nx+j+k,e)∈(Cq P nx mk j ts fl).2)->u.cells= #[u]:=by
 induction h generalizing j with
 |nil=>intro k u hu _;simp at hu
 | @deep t ts fl el e9 z9 l9 u us y ys top rf hs h1 h2 Nb LM h3 _ ih=>
  intro k u' hu he;cases k with
  |zero=>simp at hu;subst hu;obtain⟨p,q,r,rfl⟩:=h3.head;rfl
  |succ k=>
   refine ih (j:=j+1) k u' (by simpa using hu) ?_;obtain⟨e,he⟩:=he;simp only[Cq,h1,h2,Ac,AB]at he;rcases he with⟨he,_⟩|he
   ·omega
   ·exact⟨e,by rw[show nx+(j+1)+k=nx+j+(k+1)from by omega];exact he⟩
 | @own t ts fl el u us y ys top N rf hs h1 h2 Nc h3 _ ih=>
  intro k u' hu he;cases k with
  |zero=>simp at hu;subst hu;obtain⟨xs,_,_,_,⟨_,⟨a,rfl⟩,_⟩|⟨g,cap,C,rfl,_⟩⟩:=h3<;>rfl
  |succ k=>
   refine ih (j:=j+1) k u' (by simpa using hu) ?_;obtain⟨e,he⟩:=he;simp only[Cq,h1,h2,Ac,AB]at he;rcases he with⟨he,_⟩|he
   ·omega
   ·exact⟨e,by rw[show nx+(j+1)+k=nx+j+(k+1)from by omega];exact he⟩
 | @rd t ts fl u us y ys f rf hs h1 h3 _ ih=>
  intro k u' hu he;obtain⟨e,he⟩:=he;have S7:(Cq P nx mk j (t::ts) fl).2=(Cq P nx mk (j+1) ts fl.tail).2:=by
   simp only[Cq];split
   ·rename_i h8 h9;rw[h1 h8]at h9;cases h9
   ·rfl
  rw[S7]at he;cases k with
  |zero=>
   exfalso;have key:∀(ts:List TypeId) (fl:List Bool) (j' t':Nat) (e':Ab),(t',e')∈(Cq P nx mk j' ts fl).2->nx+j'<=t':=by
    intro ts
    induction ts with
    |nil=>intro fl j' t' e' h;simp[Cq]at h
    |cons a ts ih2=>
     intro fl j' t' e' h;simp only[Cq]at h;split at h
     ·simp only[Ac,AB]at h;rcases h with⟨h,_⟩|h
      ·omega
      ·have:=ih2 _ _ _ _ h;omega
     ·have:=ih2 _ _ _ _ h;omega
   have:=key _ _ _ _ _ he;omega
  |succ k=>exact ih (j:=j+1) k u' (by simpa using hu) ⟨e,by rw[show nx+(j+1)+k=nx+j+(k+1)from by omega];exact he⟩
theorem X2{i b:Nat}(hb:b+400<=1000){t:TypeId}{own:List Bool}{s:SV}{l:List (Nat × Ab)}{v:Value}{x:AV}{rf hs:List Nat}(h:MI P i b t own=some (s,l))(hv:Lz P w t own v x rf hs)(hx:(E.var i).den c.ρ=x):
  ∃recs:List Az,l=recs.map Az.pair/\recs.flatMap Az.top=hs/\(∀r∈recs,1000*i+b<=r.tag/\r.tag<1000*i+1000/\r.new.isSome)/\(recs.map Az.tag).Nodup/\(∀r∈recs,r.new=v.cells[r.tag-(1000*i+b)]?)/\
   ∀c',D6 c c' w recs->(∀b∈rf,c'.ok b)->SR c' [s] [v]/\ ∀r∈recs,CF c' r.tag r.au:=by
 obtain⟨us,ys,hg,hc⟩:=hv;unfold MI at h;simp only at h;split at h
 ·cases h
 rename_i hle;split at hg
 ·rename_i Ap;obtain⟨rfl,rfl,Cf⟩:=hg;obtain⟨recs,e1,e2,e3,e4,e4',e5⟩:=L5 (c:=c) (nx:=1000*i+b) (mk:=CW (.var i) (Ag P t)) hc 0 (by rw[Ap];exact O2 hx);rw[if_pos Ap]at h;simp only[Aa,AB]at h;obtain⟨rfl,rfl⟩:=h;refine⟨recs,e1,e2,λr hr=>by have:=e3 r hr;exact⟨by omega,by omega,this.2.2⟩,e4,λr hr=>by rw[e4' r hr];simp[Value.cells],λc' ha AF=> ?_⟩;obtain⟨q1,q2⟩:=e5 c' ha AF;exact⟨.agg Cf (by rw[Bf.aj];exact q1) .nil,q2⟩
 ·rename_i Ap;obtain⟨rfl,rfl⟩:=hg;have Fq:Ag P t=false:=by simpa using Ap
  obtain⟨recs,e1,e2,e3,e4,e4',e5⟩:=L5 (c:=c) (nx:=1000*i+b) (mk:=CW (.var i) (Ag P t)) hc 0 (by
   intro k z hz;cases k with
   |zero=>simp at hz;subst hz;rw[Fq];simpa[CW]using hx
   |succ k=>simp at hz)
  rw[if_neg Ap]at h;split at h
  ·rename_i s' AY;simp only[Aa,AB]at h;obtain⟨rfl,rfl⟩:=h;refine⟨recs,e1,e2,λr hr=>by have:=e3 r hr;exact⟨by omega,by omega,this.2.2⟩,e4,λr hr=> ?_,λc' ha AF=> ?_⟩
   ·have Dd:=e4' r hr;have h3:=e3 r hr;rw[Dd,Nat.add_zero];have hlen:=hc.len;have To:r.tag-(1000*i+b)=0:=by
     have:=hlen.1;simp at this;omega
    rw[To];have:=hc.fc (nx:=1000*i+b) (mk:=CW (.var i) (Ag P t)) (j:=0) 0 v rfl ⟨r.au,by rw[e1];exact List.mem_map.2 ⟨r,hr,by simp[Az.pair];omega⟩⟩;rw[this];rfl
   ·obtain⟨q1,q2⟩:=e5 c' ha AF;rw[AY]at q1;exact⟨q1,q2⟩
  ·cases h
theorem Yj{ms0:List PM}{vs0:List Value}:∀(ts:List TypeId) (i:Nat) {ms:List PM} {lo:List Bool} {ss:List SV} {l:List (Nat × Ab)} {vs:List Value} {xs:List AV} {rf lf hs:List Nat},JX P i ts ms lo=some (ss,l)->CV P w ts ms lo vs xs rf lf hs->(∀k x,xs[k]?=some x->(E.var (i+k)).den c.ρ=x)->(∀k,ms[k]?=ms0[i+k]?)->(∀k,vs[k]?=vs0[i+k]?)->
  ∃recs:List Az,l=recs.map Az.pair/\recs.flatMap Az.top=hs/\(∀r∈recs,1000*i<=r.tag/\r.tag<1000*(i+ts.length)/\r.new.isSome)/\(recs.map Az.tag).Nodup/\(∀r∈recs,∀v,FO ms0 vs0 r.tag=some v->r.new=some v)/\ss.length=ts.length/\ts.length<=vs.length/\
   ∀c',D6 c c' w recs->(∀b∈rf,c'.ok b)->(∀(k:Nat) (v:Value) (x:AV),(ms[k]?).getD .ro= .ro->vs[k]?=some v->xs[k]?=some x->c'.A.lo v x)->SR c' (ss++(List.range (vs.length-ts.length)).map λj=>SV.e (.var (i+ts.length+j))) vs/\ ∀r∈recs,CF c' r.tag r.au
 | [],i,ms,lo,ss,l,vs,xs,rf,lf,hs,h,ha,hx,_,_=>by
  simp[JX]at h;obtain⟨rfl,rfl⟩:=h;have key:∀{ms:List PM} {lo:List Bool} {vs:List Value} {xs:List AV} {rf lf hs:List Nat},CV P w [] ms lo vs xs rf lf hs->hs=[]/\Rd w vs xs rf:=by
   intro ms lo vs
   induction vs generalizing ms lo with
   |nil=>intro xs rf lf hs h;cases h;exact⟨rfl, .nil⟩
   |cons v vs ih=>
    intro xs rf lf hs h;cases h with
    |free h1 h2=>obtain⟨rfl,h3⟩:=ih h2;exact⟨rfl,h1.app h3⟩
  obtain⟨rfl,CR⟩:=key ha;refine⟨[],rfl,rfl,by simp,by simp,by simp,rfl,by simp,λc' Ez AF _=>⟨?_,by simp⟩⟩;have frees:∀(vs:List Value) {xs:List AV} {rf:List Nat} (j:Nat),Rd w vs xs rf->(∀k x,xs[k]?=some x->(E.var (i+j+k)).den c.ρ=x)->(∀b∈rf,c'.ok b)->SR c' ((List.range vs.length).map λq=>SV.e (.var (i+j+q))) vs:=by
   intro vs
   induction vs with
   |nil=>intro xs rf j h _ _;simpa using SR.nil
   |cons v vs ih=>
    intro xs rf j h hx AF;cases xs with
    |nil=>have:=h.len;simp at this
    |cons x xs=>
     obtain⟨f1,f2,rfl,h1,h2⟩:=h.bd;have h3:=ih (j+1) h2 (λk y hy=>by rw[show i+(j+1)+k=i+j+(k+1)from by omega];exact hx (k+1) y (by simpa using hy)) λb hb=>AF b (by simp[hb]);rw[AQ,List.range_succ_eq_map,List.map_cons,List.map_map];refine SR.cons (.e (f:=f1) (by rw[Ez.w,Ez.ρ];have:=hx 0 x rfl;simp only[Nat.add_zero]at this ⊢;rw[this];exact h1) (λb hb=>AF b (by simp[hb])) .nil) ?_;have e:((λq=>SV.e (.var (i+j+q)))∘Nat.succ)=λq=>SV.e (.var (i+(j+1)+q)):=by funext q;simp only[Function.comp_apply];rw[show i+j+q.succ=i+(j+1)+q from by omega]
     rw[e];exact h3
  simpa using frees vs 0 CR (by simpa using hx) AF
 |t::ts,i,ms,lo,ss,l,vs,xs,rf,lf,hs,h,ha,hx,DL,HZ=>by
  unfold JX at h;split at h
  ·rename_i s l1 ss' l2 h1 h2;simp only[Aa,AB]at h;obtain⟨rfl,rfl⟩:=h;obtain⟨v,vs,x,xs,f,hh,rf,lf,hs,rfl,rfl,rfl,rfl,DQ,AS⟩:∃v vs' x xs' f hh rf' lf' AY,vs=v::vs'/\xs=x::xs'/\rf=f++rf'/\hs=hh++AY/\CV P w ts ms.tail lo.tail vs' xs' rf' lf' AY/\(Wz P w t (ms.headD .ro) v x f hh\/(lo.headD false=true/\ms.headD .ro= .ro/\f=[]/\hh=[])):=by
    cases ha with
    |cons h1 h2=>exact⟨_,_,_,_,_,_,_,_,_,rfl,rfl,rfl,rfl,h2, .inl h1⟩
    |lent h1 h2 h3 h4=>exact⟨_,_,_,_,[],[],_,_,_,rfl,rfl,by simp,by simp,h4, .inr ⟨h1,h2,rfl,rfl⟩⟩
   have CZ:ms.headD .ro=(ms0[i]?).getD .ro:=by have:=DL 0;rw[Nat.add_zero]at this;rw[<-this];cases ms<;>rfl
   have KZ:vs0[i]?=some v:=by have:=HZ 0;simpa using this.symm
   have Et:(E.var i).den c.ρ=x:=by simpa using hx 0 x rfl
   obtain⟨r2,b1,b2,b3,b4,b4',b6,b7,b5⟩:=Yj ts (i+1) h2 DQ (λk y hy=>by rw[show i+1+k=i+(k+1)from by omega];exact hx (k+1) y (by simpa using hy)) (λk=>by rw[show i+1+k=i+(k+1)from by omega,<-DL (k+1)];cases ms<;>simp) (λk=>by rw[show i+1+k=i+(k+1)from by omega,<-HZ (k+1)];simp);have fin:∀(r1:List Az),l1=r1.map Az.pair->r1.flatMap Az.top=hh->(∀r∈r1,1000*i<=r.tag/\r.tag<1000*i+1000/\r.new.isSome)->(r1.map Az.tag).Nodup->(∀r∈r1,∀v,FO ms0 vs0 r.tag=some v->r.new=some v)->
     (∀c',D6 c c' w r1->(∀b∈f,c'.ok b)->(ms.headD .ro= .ro->c'.A.lo v x)->SR c' [s] [v]/\ ∀r∈r1,CF c' r.tag r.au)->
     ∃recs:List Az,l1++l2=recs.map Az.pair/\recs.flatMap Az.top=hh++hs/\(∀r∈recs,1000*i<=r.tag/\r.tag<1000*(i+(t::ts).length)/\r.new.isSome)/\(recs.map Az.tag).Nodup/\(∀r∈recs,∀v,FO ms0 vs0 r.tag=some v->r.new=some v)/\(s::ss').length=(t::ts).length/\(t::ts).length<=(v::vs).length/\
      ∀c',D6 c c' w recs->(∀b∈f++rf,c'.ok b)->(∀(k:Nat) (v':Value) (x':AV),(ms[k]?).getD .ro= .ro->(v::vs)[k]?=some v'->(x::xs)[k]?=some x'->c'.A.lo v' x')->SR c' ((s::ss')++(List.range ((v::vs).length-(t::ts).length)).map λj=>SV.e (.var (i+(t::ts).length+j))) (v::vs)/\ ∀r∈recs,CF c' r.tag r.au:=by
    intro r1 a1 a2 a3 a4 a4' a5;refine⟨r1++r2,by simp[a1,b1],by simp[a2,b2],λr hr=> ?_,?_,λr hr=> ?_,by simp[b6],by simp[b7],λc' Ez AF BH=> ?_⟩
    ·simp only[AQ];rcases Ae.1 hr with hr|hr
     ·have:=a3 r hr;exact⟨this.1,by omega,this.2.2⟩
     ·have:=b3 r hr;exact⟨by omega,by omega,this.2.2⟩
    ·rw[List.map_append,List.nodup_append];refine⟨a4,b4,λt1 Oc t2 Od he=> ?_⟩;obtain⟨q1,Hu,rfl⟩:=List.mem_map.1 Oc;obtain⟨q2,GQ,rfl⟩:=List.mem_map.1 Od;have:=a3 q1 Hu;have:=b3 q2 GQ;omega
    ·rcases Ae.1 hr with hr|hr
     ·exact a4' r hr
     ·exact b4' r hr
    ·obtain⟨p1,p2⟩:=a5 c' (Ez.mono λr hr=>by simp[hr]) (λb hb=>AF b (by simp[hb])) λhl=>BH 0 v x (by cases ms<;>exact hl) rfl rfl;obtain⟨q1,q2⟩:=b5 c' (Ez.mono λr hr=>by simp[hr]) (λb hb=>AF b (by simp[hb])) λk v' x' k1 k2 k3=>BH (k+1) v' x' (by cases ms with|nil=>rfl|cons b l=>simpa using k1) (by simpa using k2) (by simpa using k3);refine⟨?_,λr hr=> ?_⟩
     ·have:=p1.cons q1;have e:(λj=>SV.e (.var (i+1+ts.length+j)))=λj=>SV.e (.var (i+(t::ts).length+j)):=by
       funext j;simp only[AQ];rw[show i+1+ts.length+j=i+(ts.length+1)+j from by omega]
      rw[e]at this;simpa using this
     ·rcases Ae.1 hr with hr|hr
      ·exact p2 r hr
      ·exact q2 r hr
   have pinMu:∀{own:List Bool} {r:Az},ms.headD .ro= .mu own->1000*i+500<=r.tag->r.tag<1000*i+1000->r.new=v.cells[r.tag-(1000*i+500)]?-> ∀v',FO ms0 vs0 r.tag=some v'->r.new=some v':=by
    intro own r hm t1 t2 hn v' hp;unfold FO at hp;split at hp
    ·rw[show r.tag/1000=i from by omega,KZ,<-CZ,hm]at hp;simp only at hp;split at hp
     ·rw[hn,show r.tag-(1000*i+500)=r.tag % 1000-500 from by omega];exact hp
     ·cases hp
    ·cases hp
   have pinVa:∀{own:List Bool} {r:Az},ms.headD .ro= .va own->1000*i<=r.tag->r.tag<1000*i+1000-> ∀v',FO ms0 vs0 r.tag=some v'->r.new=some v':=by
    intro own r hm t1 t2 v' hp;unfold FO at hp;split at hp
    ·rw[show r.tag/1000=i from by omega,KZ,<-CZ,hm]at hp;simp at hp
    ·cases hp
   cases hm:ms.headD .ro with
   |ro=>
    rw[hm]at h1 AS;simp only[R6,Aa,AB]at h1;obtain⟨rfl,rfl⟩:=h1;have bY:hh=[]:=by rcases AS with⟨_,h⟩|⟨_,_,_,h⟩<;>exact h
    subst bY;by_cases BH:lo.headD false=true
    ·exact fin [] rfl rfl (by simp) (by simp) (by simp) λc' Ez AF hl=>⟨by rw[if_pos BH];exact .lent (by rw[Ez.ρ,Et];exact hl hm) .nil,by simp⟩
    ·rcases AS with⟨g1,_⟩|⟨h,_⟩
     ·exact fin [] rfl rfl (by simp) (by simp) (by simp) λc' Ez AF _=>⟨by rw[if_neg BH];exact .e (f:=f) (by rw[Ez.w,Ez.ρ,Et];exact g1) AF .nil,by simp⟩
     ·exact absurd h BH
   |va own=>
    rw[hm]at h1 AS
    replace AS:=AS.resolve_right λh=>by cases h.2.1
    obtain⟨r1,a1,a2,a3,a4,a4',a5⟩:=X2 (c:=c) (by omega) h1 AS Et;exact fin r1 a1 a2 (λr hr=>by have:=a3 r hr;exact⟨by omega,this.2⟩) a4 (λr hr=>by have:=a3 r hr;exact pinVa hm (by omega) this.2.1) λc' Ez AF _=>a5 c' Ez AF
   |mu own=>
    rw[hm]at h1 AS
    replace AS:=AS.resolve_right λh=>by cases h.2.1
    obtain⟨r1,a1,a2,a3,a4,a4',a5⟩:=X2 (c:=c) (by omega) h1 AS Et;exact fin r1 a1 a2 (λr hr=>by have:=a3 r hr;exact⟨by omega,this.2⟩) a4 (λr hr=>by have:=a3 r hr;exact pinMu hm this.1 this.2.1 (a4' r hr)) λc' Ez AF _=>a5 c' Ez AF
   |bx own own'=>
    rw[hm]at h1 AS
    replace AS:=AS.resolve_right λh=>by cases h.2.1
    obtain⟨ty,b,C,ys,h9,g1,rfl,g3,g4,rfl,g6,rfl⟩:=AS;simp only[R6,g1]at h1;split at h1
    ·cases h1
    rename_i hle;simp only[Aa,AB]at h1;obtain⟨rfl,rfl⟩:=h1;obtain⟨recs,e1,e2,e3,e4,e4',e5⟩:=L5 (c:=c) (nx:=1000*i+1) (mk:=CW (.deref (.var i)) true) g6 0 (O2 (by simp only[E.den]at Et ⊢;rw[Et];rfl));refine fin (⟨1000*i,some (.pointer (some ⟨b,0,none⟩)),[b], .box ty (Ag P ty) (Cq P (1000*i+1) (CW (.deref (.var i)) true) 0 (AR P ty) own).1⟩::recs) (by simp[e1,Az.pair]) (by simp[e2]) (λr hr=> ?_) ?_ (λr hr v' hp=> ?_) λc' Ez AF _=> ?_
    ·rcases Ac.1 hr with rfl|hr
     ·simp
     ·have:=e3 r hr;exact⟨by omega,by omega,this.2.2⟩
    ·simp only[List.map_cons,List.nodup_cons];refine⟨λhm=> ?_,e4⟩;obtain⟨r,hr,Hv⟩:=List.mem_map.1 hm;have:=e3 r hr;omega
    ·rcases Ac.1 hr with rfl|hr
     ·unfold FO at hp;simp only at hp;split at hp
      ·rw[show 1000*i/1000=i from by omega,KZ,<-CZ,hm]at hp;simp at hp;simpa using hp
      ·cases hp
     ·have h3:=e3 r hr;unfold FO at hp;split at hp
      ·rw[show r.tag/1000=i from by omega,KZ,<-CZ,hm]at hp;simp only at hp;split at hp
       ·omega
       ·cases hp
      ·cases hp
    ·obtain⟨q1,q2⟩:=e5 c' (Ez.mono λr hr=>by simp[hr]) AF;obtain⟨k1,k2,k3⟩:=Ez.new _ (List.mem_cons_self ..) _ rfl;have kg:=Ez.G _ (List.mem_cons_self ..);simp only at k1 k3 kg;refine⟨.bj k1 k3 .nil,λr hr=> ?_⟩;rcases Ac.1 hr with rfl|hr
     ·exact⟨b,C,k1,k3,by rw[kg],by rw[kg],by rw[Ez.w];exact g3,g4,q1⟩
     ·exact q2 r hr
  ·cases h
end
section
variable {P:Program} {c:Cx} {n:Nat} {a:Act} {τ:St}
theorem aQ(h:Rel c n (Bi τ) (Aq τ.hp) a):EH c (Aq τ.hp):=λt e hr=>h.ents t e hr
theorem Y8{hp:Nat->Option Ab}{t:Nat}{e:Ab}(h:hp t=some e)(hn:∀hs f,e≠ .gd hs f):Cw hp [] t=some e:=by
 simp only[Cw,h,Af,Ik]
 all_goals (cases e<;>first|rfl|exact absurd rfl (hn _ _))
theorem XK(h:Rel c n (Bi τ) (Aq τ.hp) a){u g:Nat}{e z:Nat}{x:E}{d:Bool}(hu:Aq τ.hp u=some (.row e z g x d)):c.K u g/\ ∃N,Cp c.w e z (c.H u g) (x.den c.ρ) (c.G u).top N/\(∀b∈N,c.ok b)/\(d=true->N=[]):=by obtain⟨p1,p2,N,p3,p4,p5,_⟩:=h.ents u _ (by rw[hu];rfl);exact⟨p1,N,p3,p4,λhd=>(p5 hd).1⟩
theorem Y4{t e:TypeId}{d:Bool}{N:List Nat}(hd:d=true->N=[])(h:BI P e=true/\d=true\/BI P e=false/\(Dg P t).isNone=true):BI P e=true/\N=[]\/BI P e=false/\Dg P t=none:=by
 rcases h with⟨h1,h2⟩|⟨h1,h2⟩
 ·exact .inl ⟨h1,hd h2⟩
 ·exact .inr ⟨h1,by simpa using h2⟩
theorem Ri(h:Rel c n (Bi τ) (Aq τ.hp) a):∀(ts:List TypeId) {fl:List Bool} {cs:List SV} {l:List Nat} {us:List Value} {xs:EL} {m:Nat},I9 P τ ts fl cs=some l->SR c cs us->B8 (Aq τ.hp) [] m cs=some xs->m<=AJ->
  ∃f,B5 P c.w ts fl us (xs.den c.ρ) f (l.flatMap λt=>(c.G t).top)/\ ∀b∈f,c.c9 (HK P τ ts fl cs) b
 | [],fl,[],l,us,xs,m,ho,hs,hx,hm=>by
  simp[I9]at ho;subst ho;cases hs;cases m with
  |zero=>simp[B8]at hx
  |succ m=>simp[B8]at hx;subst hx;exact⟨[], .nil,by simp⟩
 | [],fl,s::cs,l,us,xs,m,ho,hs,hx,hm=>by simp[I9]at ho
 |t::ts,fl,[],l,us,xs,m,ho,hs,hx,hm=>by simp[I9]at ho
 |t::ts,fl,s::cs,l,[],xs,m,ho,hs,hx,hm=>by have:=hs.len;simp at this
 |t::ts,fl,s::cs,l,v::us,xs,m,ho,hs,hx,hm=>by
  obtain⟨j,y,ys,rfl,hy,CC,rfl⟩:=H7 hx;obtain⟨r1,r2⟩:=hs.bd;unfold I9 at ho;split at ho
  ·cases ho
  rename_i l' CA;obtain⟨f,q1,q2⟩:=Ri h ts CA r2 CC (by omega);split at ho
  ·rename_i e hf A2;have EZ:HK P τ (t::ts) fl (s::cs)=HK P τ ts fl.tail cs:=by
    simp only[HK,hf,A2,Option.isSome_some,Bool.and_self,if_true,List.nil_append]
   split at ho
   ·cases ho
   rename_i hz;split at ho
   ·simp only[Aa]at ho;subst ho;cases r1 with
    |bb _=>refine⟨f,?_,by rw[EZ];exact q2⟩;rw[EL.den,IX hy];exact B5.void hf A2 (by omega) q1
   ·rename_i u g;split at ho
    ·rename_i e' z g' x d hu;split at ho
     ·rename_i hh;obtain⟨rfl,rfl,rfl,Fw⟩:=hh;simp only[Aa]at ho;subst ho;obtain⟨p1,N,p2,p3,p4⟩:=XK h hu;have Fw:=Y4 p4 Fw;have hl:=Y8 hu (by simp);have FF:y=x:=by
       cases j with
       |zero=>simp[A5]at hy
       |succ j=>simp[A5,GA,hl]at hy;exact hy.symm
      subst FF;have hv:c.H u g=v:=by
       cases r1 with
       |own _ k2 _=>exact k2
      rw[hv]at p2;refine⟨N++f,B5.own hf A2 Fw p2 q1,λb hb=> ?_⟩;rw[EZ];rcases Ae.1 hb with hb|hb
      ·exact .inl (p3 b hb)
      ·exact q2 b hb
     ·cases ho
    ·rename_i e' z dl g' ep x hu;split at ho
     ·rename_i hh;obtain⟨rfl,E4,CP⟩:=hh;have CP:=Rn CP;simp only[Aa]at ho;subst ho;obtain⟨p1,_,_,p2,_⟩:=h.ents u _ (by rw[hu];rfl);have hl:=Y8 hu (by simp);have FF:y=x:=by
       cases j with
       |zero=>simp[A5]at hy
       |succ j=>simp[A5,GA,hl]at hy;exact hy.symm
      subst FF;have hv:c.H u g=v:=by
       cases r1 with
       |own _ k2 _=>exact k2
      rw[hv]at p2;exact⟨f,B5.deep hf A2 E4 CP p2 q1,by rw[EZ];exact q2⟩
     ·cases ho
    ·cases ho
   ·cases ho
  ·rename_i Di;simp only[Aa]at ho;subst ho;have hn:fl.headD false=true->Cb P t=none:=λhf=>by
    cases A2:Cb P t with
    |none=>rfl
    |some e=>exact absurd A2 (Di e hf)
   obtain⟨f1,p1,p2⟩:=Gb (aQ h) (DY _) j hy r1 AJ (by omega);refine⟨f1++f,B5.rd hn p1 q1,λb hb=> ?_⟩;have EZ:HK P τ (t::ts) fl (s::cs)=Bw (Aq τ.hp) [] (AJ+1) [s]++HK P τ ts fl.tail cs:=by
    have:(fl.headD false&&(Cb P t).isSome)=false:=by
     cases hf:fl.headD false with
     |false=>rfl
     |true=>rw[hn hf];rfl
    simp only[HK,this,B1,if_false]
   rw[EZ];rcases Ae.1 hb with hb|hb
   ·exact(p2 b hb).mono λt ht=>by simp[ht]
   ·exact(q2 b hb).mono λt ht=>by simp[ht]
theorem jG(h:Rel c n (Bi τ) (Aq τ.hp) a){t:TypeId}{fl:List Bool}{s:SV}{l:List Nat}{v:Value}{x:E}{m:Nat}(ho:V1 P τ t fl s=some l)(hs:SR c [s] [v])(hx:A5 (Aq τ.hp) [] m s=some x)(hm:m<AJ):
  ∃f,EN P c.w t fl v (x.den c.ρ) f (l.flatMap λt=>(c.G t).top)/\ ∀b∈f,c.c9 (Wm P τ t fl s) b:=by
 unfold V1 at ho;unfold EN Wm;split at ho
 ·rename_i hf;simp only[hf,if_true];split at ho
  ·rename_i Ap;split at ho
   ·rename_i cs;obtain⟨k,lx,rfl,hl,rfl⟩:=Pe hx;cases hs with
    |agg h9 h1 h8=>rename_i as_;obtain⟨f,q1,q2⟩:=Ri (P:=P) h (AR P t) ho h1 hl (by omega);exact⟨f,⟨as_,lx.den c.ρ,by rw[if_pos Ap];exact⟨rfl,rfl,h9⟩,q1⟩,by rw[if_pos Ap];exact q2⟩
   ·cases ho
  ·rename_i Ap;have IG:B8 (Aq τ.hp) [] (m+1) [s]=some (.cons x .nil):=by
    cases m with
    |zero=>simp[A5]at hx
    |succ m=>simp only[B8,hx]
   obtain⟨f,q1,q2⟩:=Ri (P:=P) h (AR P t) ho hs IG (by omega);exact⟨f,⟨[v],[x.den c.ρ],by rw[if_neg Ap];exact⟨rfl,rfl⟩,q1⟩,by rw[if_neg Ap];exact q2⟩
 ·rename_i hf;simp only[hf,if_false,B1];simp only[Aa]at ho;subst ho;obtain⟨f,p1,p2⟩:=Gb (aQ h) (DY _) m hx hs AJ (by omega);exact⟨f,⟨p1,rfl⟩,p2⟩
theorem XR(h:Rel c n (Bi τ) (Aq τ.hp) a):∀(ts:List TypeId) {fl:List Bool} {ss:List SV} {l:List Nat} {vs:List Value} {xs:EL} {m:Nat},Lp P τ ts fl ss=some l->SR c ss vs->B8 (Aq τ.hp) [] m ss=some xs->m<=AJ->
  ∃f,Jf P c.w ts fl vs (xs.den c.ρ) f (l.flatMap λt=>(c.G t).top)/\ ∀b∈f,c.c9 (PE P τ ts fl ss) b
 | [],fl,[],l,vs,xs,m,ho,hs,hx,hm=>by
  simp[Lp]at ho;subst ho;cases hs;cases m with
  |zero=>simp[B8]at hx
  |succ m=>simp[B8]at hx;subst hx;exact⟨[], .nil,by simp⟩
 | [],fl,s::cs,l,us,xs,m,ho,hs,hx,hm=>by simp[Lp]at ho
 |t::ts,fl,[],l,us,xs,m,ho,hs,hx,hm=>by simp[Lp]at ho
 |t::ts,fl,s::cs,l,[],xs,m,ho,hs,hx,hm=>by have:=hs.len;simp at this
 |t::ts,fl,s::cs,l,v::us,xs,m,ho,hs,hx,hm=>by
  obtain⟨j,y,ys,rfl,hy,CC,rfl⟩:=H7 hx;obtain⟨r1,r2⟩:=hs.bd;unfold Lp at ho;split at ho
  ·rename_i a1 b1 h1 h2;simp only[Aa]at ho;subst ho;obtain⟨f1,p1,p2⟩:=jG (P:=P) h h1 r1 hy (by omega);obtain⟨f2,q1,q2⟩:=XR h ts h2 r2 CC (by omega);refine⟨f1++f2,by rw[List.flatMap_append];exact .cons p1 q1,λb hb=> ?_⟩;simp only[PE];rcases Ae.1 hb with hb|hb
   ·exact(p2 b hb).mono λt ht=>by simp[ht]
   ·exact(q2 b hb).mono λt ht=>by simp[ht]
  ·cases ho
end
section
variable {P:Program} {c:Cx} {n:Nat} {a:Act} {τ:St}
theorem mJ(h:Rel c n (Bi τ) (Aq τ.hp) a){t:TypeId}{b o:Nat}{ty:TypeId}{g:Bool}{cs:List SV}{s:SV}{v:Value}(AX:CE P t=true)(hl:Aq τ.hp b=some (.box ty g cs))(AN:LF P t cs o=some s)(hr:SR c [.bj b o] [v]):
  ∃q u,v= .pointer (some ⟨q,o,none⟩)/\(loadVar t ⟨q,o,none⟩).run P c.w= .ok u c.w/\SR c [s] [u]:=by
 cases hr with
 |bj h1 h2 h8=>
  rename_i q;obtain⟨q',C,_,e2,e3,e4,e5,e5',e6⟩:=h.ents b _ (by rw[hl];rfl);rw[h2]at e2;cases e2;have key:∀vs:List Value,(Ag P t=true->vs.length=P.cellsOf t)->(Ag P t=false->vs.length=1)->(∀j u,vs[j]?=some u->c.w.cell? ⟨q,o+j,none⟩=some u)->(loadVar t ⟨q,o,none⟩).run P c.w= .ok (if Ag P t then .agg vs.toArray else vs.headD undef) c.w:=λvs k1 k2 k3=>by have:=L8 (P:=P) (w:=c.w) (b:=q) (off:=o) AX vs k1 k2 k3;simpa[Instr.loadAt,Instr.sureAddr]using this
  unfold LF at AN;have hlen:=e6.len;split at AN
  ·rename_i Ap;split at AN
   ·rename_i hle;simp at AN;subst AN;obtain⟨r1,r2⟩:=e6.split o;obtain⟨r3,r4⟩:=r2.split (P.cellsOf t);have:=SR.agg (cs:=Bf.of ((cs.drop o).take (P.cellsOf t))) (λu hu=>e5' u (B2 (BA hu))) (by rw[Bf.aj];exact r3) .nil;refine⟨q, .agg ((C.toList.drop o).take (P.cellsOf t)).toArray,rfl,?_,this⟩;rw[key ((C.toList.drop o).take (P.cellsOf t)) (λ_=>by simp at hlen ⊢;omega) (λh=>by rw[Ap]at h;cases h) (λj u hu=>by
     rw[DZ e5];rw[List.getElem?_take]at hu;split at hu
     ·simpa using hu
     ·cases hu)]
    simp[Ap]
   ·cases AN
  ·rename_i Ap;have Ap:Ag P t=false:=by simpa using Ap
   obtain⟨u,hu,r⟩:=e6.get AN;refine⟨q,u,rfl,?_,r⟩;rw[key [u] (λh=>by rw[Ap]at h;cases h) (λ_=>rfl) (λj z hz=>by
    cases j with
    |zero=>simp at hz;subst hz;rw[DZ e5];simpa using hu
    |succ j=>simp at hz)]
   simp[Ap]
theorem Xw{α:Type}{g:α->Sem Value}{w:World}:∀(l:List α) (us:List Value),l.length=us.length->(∀(i:Nat) (x:α) (u:Value),l[i]?=some x->us[i]?=some u->(g x).run P w= .ok u w)->(l.mapM g).run P w= .ok us w
 | [],[],_,_=>by simp
 | [],_::_,h,_=>by simp at h
 |_::_,[],h,_=>by simp at h
 |x::l,u::us,h,hg=>by have h0:=hg 0 x u rfl rfl;have ih:=Xw l us (by simpa using h) λi y z hy hz=>hg (i+1) y z (by simpa using hy) (by simpa using hz);simp[List.mapM_cons,h0,ih]
theorem iU(h:Rel c n (Bi τ) (Aq τ.hp) a)(fn:Func){rs:List SV}(Ep:fn.results.toList.mapM (Mt P τ)=some rs):
  ∃us,SR c rs us/\rs.length=us.length/\(results fn a.tmps).run P c.w= .ok (match us with| [u]=>u|us=> .tuple us.toArray) c.w:=by
 have one:∀(r:ResultVar) (s:SV),Mt P τ r=some s-> ∃u,SR c [s] [u]/\(match r with| .tmp t=>(pure (a.tmps.getD t undef):Sem Value)| .cell b t=>do loadVar t (<-asAddr (a.tmps.getD b undef))).run P c.w= .ok u c.w:=by
  intro r s hr;cases r with
  |tmp t=>simp only[Mt,Aa]at hr;subst hr;exact⟨_,h.cb t,by simp⟩
  |cell b ty=>
   simp only[Mt]at hr;split at hr
   ·rename_i b' o Cy;split at hr
    ·rename_i ty' g cs hl;split at hr
     ·rename_i AX;have hs:=h.cb b;rw[Cy]at hs;obtain⟨q,u,hv,Aw,IM⟩:=mJ h AX hl hr hs;exact⟨u,IM,by simp only[hv];simp[asAddr,Aw]⟩
     ·cases hr
    ·cases hr
   ·cases hr
 have list:∀(l:List ResultVar) (rs:List SV),l.mapM (Mt P τ)=some rs-> ∃us,SR c rs us/\l.length=us.length/\ ∀(i:Nat) (x:ResultVar) (u:Value),l[i]?=some x->us[i]?=some u->(match x with| .tmp t=>(pure (a.tmps.getD t undef):Sem Value)| .cell b t=>do loadVar t (<-asAddr (a.tmps.getD b undef))).run P c.w= .ok u c.w:=by
  intro l
  induction l with
  |nil=>intro rs Ep;simp at Ep;subst Ep;exact⟨[], .nil,rfl,by simp⟩
  |cons r l ih=>
   intro rs Ep;rw[List.mapM_cons]at Ep;simp only[Option.bind_eq_bind,Ak,Option.pure_def,Aa]at Ep;obtain⟨s,hs,rs',TP,rfl⟩:=Ep;obtain⟨u,h1,h2⟩:=one r s hs;obtain⟨us,h3,h4,h5⟩:=ih rs' TP;refine⟨u::us,h1.cons h3,by simp[h4],λi x v hx hv=> ?_⟩;cases i with
   |zero=>simp at hx hv;subst hx;subst hv;exact h2
   |succ i=>exact h5 i x v (by simpa using hx) (by simpa using hv)
 obtain⟨us,h1,h2,h3⟩:=list _ _ Ep;refine⟨us,h1,h1.len,?_⟩;have hm:=Xw (P:=P) (w:=c.w) fn.results.toList us h2 h3;simp only[results,Array.mapM_eq_mapM_toList,map_eq_pure_bind,Sem.run_bind]
 erw [hm]
 simp only[Result.andThen_ok,Sem.run_pure]
 match us with
 | []=>simp
 | [u]=>simp
 |u::v::us=>simp
theorem U8(h:Rel c n (Bi τ) (Aq τ.hp) a){w0:World}{v:Value}{ms:List PM}{vs:List Value}(DO:∀t,c.A.pin t=FO ms vs t){i:Nat}(hi:i<=99){own0:List Bool}(hv:vs[i]?=some v)(hm:(ms[i]?).getD .ro= .mu own0){mk:Nat->E}:∀(ts:List TypeId) (j:Nat) {fl:List Bool} {us:List Value} {ys:List AV} {rf hs:List Nat} {es:List E} {l:List Nat},
  B5 P w0 ts fl us ys rf hs->j+ts.length<=400->(∀k u,us[k]?=some u->(∃e,(0+j+k,e)∈(Cq P 0 (CW (.var 0) true) j ts fl).2)->v.cells[j+k]?=some u)->PO P τ i mk j ts fl=some (es,l)-> ∃f o,Eh P c.w ts fl us (es.map (E.den c.ρ)) f o/\(o=l.flatMap λt=>(c.G t).top)/\ ∀b∈f,c.ok b
 | [],j,fl,us,ys,rf,hs,es,l,hc,hle,BL,he=>by simp[PO]at he;obtain⟨rfl,rfl⟩:=he;cases hc;exact⟨[],[], .nil,rfl,by simp⟩
 |t::ts,j,fl,us,ys,rf,hs,es,l,hc,hle,BL,he=>by
  unfold PO at he;split at he
  ·cases he
  rename_i xs us' CA;simp only[AQ]at hle;have sub:∀{u:Value} {us1:List Value},us=u::us1-> ∀k z,us1[k]?=some z->(∃e,(0+(j+1)+k,e)∈(Cq P 0 (CW (.var 0) true) (j+1) ts fl.tail).2)->v.cells[j+1+k]?=some z:=by
   rintro u us1 rfl k z hz ⟨e,he⟩;have:=BL (k+1) z (by simpa using hz) ⟨e,by
    simp only[Cq];split
    ·rw[show 0+j+(k+1)=0+(j+1)+k from by omega];exact List.mem_cons_of_mem _ he
    ·rw[show 0+j+(k+1)=0+(j+1)+k from by omega];exact he⟩
   rw[show j+1+k=j+(k+1)from by omega];exact this
  have fin:∀{u:Value} {us1:List Value} {ys1:List AV} {rf1 Bj:List Nat} {el:TypeId},us=u::us1->fl.headD false=true->Cb P t=some el->B5 P w0 ts fl.tail us1 ys1 rf1 Bj-> ∃f o,Eh P c.w (t::ts) fl us (es.map (E.den c.ρ)) f o/\(o=l.flatMap λt=>(c.G t).top)/\ ∀b∈f,c.ok b:=by
   rintro u us1 ys1 rf1 Bj el rfl h1 h2 h4;obtain⟨f0,o,q1,q2,q3⟩:=U8 h DO hi hv hm ts (j+1) h4 (by omega) (sub rfl) CA;rw[h1,h2]at he;simp only at he;have S0:v.cells[j]?=some u:=by have:=BL 0 u rfl ⟨_,by simp only[Cq,h1,h2,Nat.zero_add,Nat.add_zero];exact List.mem_cons_self ..⟩;simpa using this
   have Qk:c.A.pin (1000*i+500+j)=some u:=by
    rw[DO];unfold FO;have e1:(1000*i+500+j)/1000=i:=by omega
    have e2:(1000*i+500+j) % 1000=500+j:=by omega
    rw[if_pos (by unfold Ka;simp only[e2,Ad,Au,Bool.or_eq_true];omega),e1,e2,hv,hm];simp only;rw[if_pos (by omega),show 500+j-500=j from by omega];exact S0
   split at he
   ·rename_i e' z y' d hu;split at he
    ·rename_i hh;obtain⟨rfl,rfl,Fw⟩:=hh;simp only[Aa,AB]at he;obtain⟨rfl,rfl⟩:=he;obtain⟨p1,N,p2,p3,p4⟩:=XK h hu;have hH:=(h.base.pins _ u Qk).2 p1;rw[hH]at p2;refine⟨_,_, .own h1 h2 (Y4 p4 Fw) p2 q1,by simp[q2],λb hb=> ?_⟩;rcases Ae.1 hb with hb|hb
     ·exact p3 b hb
     ·exact q3 b hb
    ·cases he
   ·rename_i e' z dl ep y' hu;split at he
    ·rename_i hh;obtain⟨E4,CP⟩:=hh;have CP:=Rn CP;simp only[Aa,AB]at he;obtain⟨rfl,rfl⟩:=he;obtain⟨p1,_,_,p2,_⟩:=h.ents _ _ (by rw[hu];rfl);have hH:=(h.base.pins _ u Qk).2 p1;rw[hH]at p2;refine⟨_,_, .deep h1 h2 E4 CP p2 q1,by simp[q2],q3⟩
    ·cases he
   ·cases he
  cases hc with
  |own h1 h2 _ _ h4=>exact fin rfl h1 h2 h4
  |deep h1 h2 _ _ _ h4=>exact fin rfl h1 h2 h4
  | @rd _ _ _ u us1 y ys1 f rf1 Bj h1 h3 h4=>
   obtain⟨f0,o,q1,q2,q3⟩:=U8 h DO hi hv hm ts (j+1) h4 (by omega) (sub rfl) CA;split at he
   ·rename_i e hf A2;rw[h1 hf]at A2;cases A2
   ·simp only[Aa,AB]at he;obtain⟨rfl,rfl⟩:=he;exact⟨f0,o, .skip h1 q1,q2,q3⟩
end
section
variable {P:Program} {c:Cx} {n:Nat} {a:Act} {τ:St}
theorem XW(h:Rel c n (Bi τ) (Aq τ.hp) a){w0:World}{ms0:List PM}{vs0:List Value}(DO:∀t,c.A.pin t=FO ms0 vs0 t):∀(ts:List TypeId) (i:Nat) {ms:List PM} {lo:List Bool} {vs:List Value} {xs:List AV} {rf lf hs:List Nat} {bx:List E} {us:List Nat},Ps P τ i ts ms=some (bx,us)->CV P w0 ts ms lo vs xs rf lf hs->
  (∀k,ms[k]?=ms0[i+k]?)->(∀k,vs[k]?=vs0[i+k]?)-> ∃f o,C5 P c.w ts ms vs (bx.map (E.den c.ρ)) f o/\o=us.flatMap (λt=>(c.G t).top)/\ ∀b∈f,c.c9 (LA P τ i ts ms) b
 | [],i,ms,lo,vs,xs,rf,lf,hs,bx,us,he,ha,_,_=>by simp[Ps]at he;obtain⟨rfl,rfl⟩:=he;exact⟨[],[], .nil,rfl,by simp⟩
 |t::ts,i,ms,lo,vs,xs,rf,lf,hs,bx,us,he,ha,DL,HZ=>by
  obtain⟨v,vs,x,xs,f,hh,rf,lf,hs,rfl,DQ,AS⟩:∃v vs' x xs' f hh rf' lf' AY,vs=v::vs'/\CV P w0 ts ms.tail lo.tail vs' xs' rf' lf' AY/\(Wz P w0 t (ms.headD .ro) v x f hh\/ms.headD .ro= .ro):=by
   cases ha with
   |cons h1 h2=>exact⟨_,_,_,_,_,_,_,_,_,rfl,h2, .inl h1⟩
   | @lent _ _ _ _ _ _ x _ _ _ _ _ h1 h2 h3 h4=>exact⟨_,_,x,_,[],[],_,_,_,rfl,h4, .inr h2⟩
  have CZ:ms.headD .ro=(ms0[i]?).getD .ro:=by have:=DL 0;rw[Nat.add_zero]at this;rw[<-this];cases ms<;>rfl
  have KZ:vs0[i]?=some v:=by have:=HZ 0;simpa using this.symm
  unfold Ps at he;split at he
  ·cases he
  rename_i bx' us' CA;obtain⟨f2,o2,b1,b2,b3⟩:=XW h DO ts (i+1) CA DQ (λk=>by rw[show i+1+k=i+(k+1)from by omega,<-DL (k+1)];cases ms<;>simp) (λk=>by rw[show i+1+k=i+(k+1)from by omega,<-HZ (k+1)];simp);have see2:∀b∈f2,c.c9 (LA P τ i (t::ts) ms) b:=λb hb=>(b3 b hb).mono λt ht=>by simp only[LA,Ae];exact .inr ht
  split at he
  ·cases he
  rename_i hi;split at he
  ·rename_i hm;simp only[Aa,AB]at he;obtain⟨rfl,rfl⟩:=he;exact⟨f2,o2, .ro hm b1,b2,see2⟩
  ·rename_i own hm;simp only[Aa,AB]at he;obtain⟨rfl,rfl⟩:=he;exact⟨f2,o2, .va hm b1,b2,see2⟩
  ·rename_i own hm;split at he
   ·cases he
   rename_i hle;split at he
   ·rename_i es l E1;simp only[Aa,AB]at he;obtain⟨rfl,rfl⟩:=he;rw[hm]at AS;obtain⟨us0,ys0,hg,hc⟩:=AS.resolve_right λh=>by cases h
    obtain⟨f1,o1,q1,q2,q3⟩:=U8 h DO (i:=i) (by omega) KZ (by rw[<-CZ];exact hm) (AR P t) 0 hc (by omega) (λk u hu he=>by
     rw[Nat.zero_add];split at hg
     ·obtain⟨rfl,_,_⟩:=hg;simpa[Value.cells]using hu
     ·obtain⟨rfl,_⟩:=hg;cases k with
      |zero=>simp at hu;subst hu;rw[hc.fc (nx:=0) (mk:=CW (.var 0) true) (j:=0) 0 v rfl he];rfl
      |succ k=>simp at hu) E1
    refine⟨f1++f2,o1++o2,C5.mu (us:=us0) (ys:=es.map (E.den c.ρ)) hm ?_ q1 b1,by rw[q2,b2,List.flatMap_append],λb hb=>(Ae.1 hb).elim (λhb=> .inl (q3 b hb)) (see2 b)⟩;split at hg
    ·rename_i Ap;rw[if_pos Ap,if_pos Ap];exact⟨hg.1,by simp only[E.den,EL.ch]⟩
    ·rename_i Ap;rw[if_neg Ap,if_neg Ap];obtain⟨rfl,_⟩:=hg;refine⟨rfl,?_⟩;have mlen:∀{ts:List TypeId} {fl:List Bool} {us:List Value} {ys:List AV} {f o:List Nat},Eh P c.w ts fl us ys f o->us.length=ys.length:=by
      intro ts fl us ys f o NP
      induction NP<;>simp_all
     have:=mlen q1
     match es,this with
     | [e],_=>rfl
   ·cases he
  ·rename_i own own' hm;rw[hm]at AS;obtain⟨ty,b,C0,ys0,h9,g1,rfl,g3,g4,rfl,g6,rfl⟩:=AS.resolve_right λh=>by cases h
   split at he
   ·rename_i ty1 ty2 g cs Dt Gm;rw[g1]at Dt;cases Dt;split at he
    ·cases he
    rename_i BE;have BE:ty2=ty:=by simpa using BE
    subst BE;split at he
    ·rename_i es vs' Gp TZ;simp only[Aa,AB]at he;obtain⟨rfl,rfl⟩:=he;obtain⟨b',C,p1,p2,p3,p4,p5,p6,p7⟩:=h.ents _ _ (by rw[Gm];rfl);have Qk:c.A.pin (1000*i)=some (.pointer (some ⟨b,0,none⟩)):=by
      rw[DO];unfold FO;have e1:(1000*i)/1000=i:=by omega
      have e2:(1000*i) % 1000=0:=by omega
      rw[if_pos (by unfold Ka;simp only[e2,Ad,Au,Bool.or_eq_true];simp;omega),e1,e2,KZ,<-CZ,hm];rfl
     have hH:=(h.base.pins _ _ Qk).2 p1;rw[p2]at hH;cases hH;obtain⟨f1,q1,q2⟩:=Ri (P:=P) h (AR P ty2) TZ p7 Gp (Ax _);refine⟨f1++f2,_,C5.bx hm g1 rfl p5 p6 (by simp only[E.den]) q1 b1,by rw[b2];simp[p3],λx hx=> ?_⟩;rcases Ae.1 hx with hx|hx
     ·refine(q2 x hx).mono λt ht=> ?_;simp only[LA,hm,g1,Gm,Ae];exact .inl ht
     ·exact see2 x hx
    ·cases he
   ·cases he
end
theorem UU{P:Program}:∀(ts:List TypeId) (i:Nat) (ms:List PM) (lo:List Bool) (ss:List SV) (l:List (Nat × Ab)),JX P i ts ms lo=some (ss,l)-> ∀t x,(t,x)∈l-> ∀gs f,x≠ .gd gs f
 | [],i,ms,lo,ss,l,h,t,x,hx=>by simp[JX]at h;obtain⟨_,rfl⟩:=h;simp at hx
 |t0::ts,i,ms,lo,ss,l,h,t,x,hx=>by
  unfold JX at h;split at h
  ·rename_i s1 l1 ss1 l2 q1 q2;simp only[Aa,AB]at h;obtain⟨_,rfl⟩:=h;rcases Ae.1 hx with hx|hx
   ·have hV:∀(b:Nat) (own:List Bool),MI P i b t0 own=some (s1,l1)-> ∀gs f,x≠ .gd gs f:=by
     intro b own hh;unfold MI at hh;simp only at hh;split at hh
     ·cases hh
     ·split at hh
      ·simp only[Aa,AB]at hh;obtain⟨_,rfl⟩:=hh;intro gs f;exact La _ _ _ _ _ hx
      ·split at hh
       ·simp only[Aa,AB]at hh;obtain⟨_,rfl⟩:=hh;intro gs f;exact La _ _ _ _ _ hx
       ·cases hh
    unfold R6 at q1;split at q1
    ·simp only[Aa,AB]at q1;rw[<-q1.2]at hx;simp at hx
    ·exact hV _ _ q1
    ·exact hV _ _ q1
    ·split at q1
     ·simp only at q1;split at q1
      ·cases q1
      ·simp only[Aa,AB]at q1;obtain⟨_,rfl⟩:=q1;rcases Ac.1 hx with hx|hx
       ·cases hx;simp
       ·intro gs f;exact La _ _ _ _ _ hx
     ·cases q1
   ·exact UU _ _ _ _ _ _ q2 t x hx
  ·cases h
theorem nX{P:Program}{sg:Br}(TB:P.follows .mixedOrders=true)(Hx:∀f s,sg f=some s->f<1000000){f:Nat}{s:FT}{fn:Func}{t:Tr}{xs:List AV}{r:AV}(Gq:P.funcs[f]?=some fn)(hs:sg f=some s) (E2:(fn.name== "runtime.NumGoroutine")=false)
  (DG:PZ P sg f=some t) (BO:J1 P fn s r=true) (hlen:xs.length=fn.params.size+fn.nfree) (hd:t.den (CI P sg) (λr'=>r'=r) (λ_ _ _ _=>False) [] xs):M7 P s f xs r:=by
 unfold PZ at DG;simp only[Gq,hs]at DG;split at DG
 ·rename_i code σ Dh A8;split at DG
  ·rename_i t0 hex;have Dr:s.ft.length<=fn.nfree:=by
    have A8:=A8;unfold VS at A8;split at A8
    ·cases A8
    ·simp only at A8;split at A8
     ·cases A8
     ·rename_i An;simp only[Bool.or_eq_true,Au,not_or,Nat.not_lt]at An;exact An.2
   refine⟨fn,Gq,by rw[Dh];rfl,E2,BO,hlen,Dr,λw vs rf lf AY Ai EY Hd FB DP=> ?_⟩;unfold VS at A8;split at A8
   ·cases A8
   rename_i ss l Cl;simp only at A8;split at A8
   ·cases A8
   rename_i An;simp only[Bool.or_eq_true,Au,not_or,Nat.not_lt]at An;simp only[Aa]at A8;subst A8;let pin:Nat->Option Value:=FO s.bg vs;let LO:Value->AV->Prop:=λv y=> ∃f,Rd w [v] [y] f/\ ∀b∈f,¬b∈AY;let c0:Cx:={ρ:=xs,w:=w,G:=λ_=>⟨[],[]⟩,K:=λ_ _=>False,H:=λ_ _=>undef,A:=⟨λb=>b∈rf,pin,LO⟩,w0:=w,Mu:=λb=>b∈AY,U:=λ_=>False,E:=λ_=>0}
   have Fb:vs.length=xs.length:=by
    have:∀{ts:List TypeId} {ms:List PM} {lo:List Bool} {vs:List Value} {xs:List AV} {rf lf hs:List Nat},CV P w ts ms lo vs xs rf lf hs->vs.length=xs.length:=by
     intro ts ms lo vs xs rf lf hs h
     induction h<;>simp_all
    exact this Ai
   obtain⟨recs,e1,e2,e3,e4,e5,e6,e7,e8⟩:=Yj (c:=c0) (ms0:=s.bg) (vs0:=vs) (fn.params.toList++s.ft) 0 Cl Ai (λk x hx=>by simp only[E.den,Nat.zero_add];show(xs[k]?).getD .undef=x;rw[hx];rfl) (λk=>by simp) (λk=>by simp);have aft:=Cx.cm (c:=c0) (w':=w) (recs:=recs) (λt g hk=>hk.elim) e4 (λr _ _ h=>h);have WM:∀r∈recs,r.tag<100000:=λr hr=>by have:=e3 r hr;simp only[Nat.zero_add,AZ,BF]at this;omega
   let c:Cx:={c0.cr w recs with U:=λt=>t<100000}
   have Np:∀b∈rf,(c0.cr w recs).ok b:=by
    intro b hb;refine⟨λ⟨t,ht⟩=> ?_, .inl hb⟩;by_cases hT:∃r∈recs,r.tag=t
    ·obtain⟨r,hr,rfl⟩:=hT;rw[Cx.cw e4 hr]at ht;exact EY b (by rw[<-e2];exact List.mem_flatMap.2 ⟨r,hr,ht⟩) hb
    ·rw[Cx.cd λr hr hh=>hT ⟨r,hr,hh⟩]at ht;simp[c0]at ht
   have BH:∀(k:Nat) (v:Value) (x:AV),(s.bg[k]?).getD .ro= .ro->vs[k]?=some v->xs[k]?=some x->LO v x:=by
    have key:∀{ts:List TypeId} {ms:List PM} {lo:List Bool} {vs:List Value} {xs:List AV} {rf lf hs:List Nat},CV P w ts ms lo vs xs rf lf hs-> ∀(k:Nat) (v:Value) (x:AV),(ms[k]?).getD .ro= .ro->vs[k]?=some v->xs[k]?=some x-> ∃f,Rd w [v] [x] f/\ ∀b∈f,b∈rf\/b∈lf:=by
     intro ts ms lo vs xs rf lf hs h
     induction h with
     |nil=>intro k v x _ h _;simp at h
     | @cons t ts ms lo v vs x xs f h rf lf hs AS _ ih=>
      intro k v' x' h1 h2 h3;cases k with
      |zero=>
       have hm:ms.headD .ro= .ro:=by cases ms<;>exact h1
       rw[hm]at AS;simp at h2 h3;subst h2;subst h3;exact⟨f,AS.1,λb hb=> .inl (by simp[hb])⟩
      |succ k=>obtain⟨f',q1,q2⟩:=ih k v' x' (by cases ms with|nil=>rfl|cons _ _=>simpa using h1) (by simpa using h2) (by simpa using h3);exact⟨f',q1,λb hb=>(q2 b hb).imp (λh=>by simp[h]) id⟩
     | @lent t ts ms lo v vs x xs f rf lf hs _ _ hr _ ih=>
      intro k v' x' h1 h2 h3;cases k with
      |zero=>simp at h2 h3;subst h2;subst h3;exact⟨f,hr,λb hb=> .inr (by simp[hb])⟩
      |succ k=>obtain⟨f',q1,q2⟩:=ih k v' x' (by cases ms with|nil=>rfl|cons _ _=>simpa using h1) (by simpa using h2) (by simpa using h3);exact⟨f',q1,λb hb=>(q2 b hb).imp id (λh=>by simp[h])⟩
     | @free ms lo v vs x xs f rf lf hs hr _ ih=>
      intro k v' x' h1 h2 h3;cases k with
      |zero=>simp at h2 h3;subst h2;subst h3;exact⟨f,hr,λb hb=> .inl (by simp[hb])⟩
      |succ k=>obtain⟨f',q1,q2⟩:=ih k v' x' (by cases ms with|nil=>rfl|cons _ _=>simpa using h1) (by simpa using h2) (by simpa using h3);exact⟨f',q1,λb hb=>(q2 b hb).imp (λh=>by simp[h]) id⟩
    intro k v x h1 h2 h3;obtain⟨f,q1,q2⟩:=key Ai k v x h1 h2 h3;exact⟨f,q1,λb hb hh=>(q2 b hb).elim (EY b hh) (Hd b hh)⟩
   obtain⟨g1,g2⟩:=e8 _ aft Np BH;have kc:C6 (c0.cr w recs) c:=⟨rfl,rfl,λ_ _ hb=>hb,λ_ _ _=>rfl,λ_ _ hk=>⟨hk,rfl⟩,λ_ _ _=>⟨Ax _,λ_=>⟨rfl,λ_ _ _=>rfl⟩⟩⟩
   have Js:fn.params.size+fn.nfree=vs.length:=by rw[Fb,hlen]
   have E8:(ss++(List.range (fn.nfree-s.ft.length)).map λj=>SV.e (.var (fn.params.size+s.ft.length+j))).length=vs.length:=by rw[AZ,e6,List.length_map,List.length_range,AZ,BF];omega
   have g1':SR c (ss++(List.range (fn.nfree-s.ft.length)).map λj=>SV.e (.var (fn.params.size+s.ft.length+j))) vs:=by
    have:=g1.keep kc;have FE:(fn.params.toList++s.ft).length=fn.params.size+s.ft.length:=by rw[AZ,BF]
    rw[show vs.length-(fn.params.toList++s.ft).length=fn.nfree-s.ft.length from by omega]at this;simpa using this
   have hG:∀t,(∃r∈recs,r.tag=t/\c.G t=⟨r.top,[]⟩)\/c.G t=⟨[],[]⟩:=λt=>by
    by_cases hT:∃r∈recs,r.tag=t
    ·obtain⟨r,hr,rfl⟩:=hT;exact .inl ⟨r,hr,rfl,Cx.cw (w':=w) e4 hr⟩
    ·exact .inr (Cx.cd (w':=w) λr hr hh=>hT ⟨r,hr,hh⟩)
   have FA:∀r∈recs,∀b∈r.top,b∈AY:=λr hr b hb=>by rw[<-e2];exact List.mem_flatMap.2 ⟨r,hr,hb⟩
   have DK:∀b∈AY,b<w.heap.size:=by
    have:∀{ts:List TypeId} {ms:List PM} {lo:List Bool} {vs:List Value} {xs:List AV} {rf lf hs:List Nat},CV P w ts ms lo vs xs rf lf hs-> ∀b∈hs,b<w.heap.size:=by
     intro ts ms lo vs xs rf lf hs h
     induction h with
     |nil=>simp
     |lent _ _ _ _ ih=>exact ih
     | @cons t ts ms lo v vs x xs f h rf lf hs AS _ ih=>
      intro b hb;rcases Ae.1 hb with hb|hb
      ·cases hm:ms.headD .ro with
       |ro=>rw[hm]at AS;rw[AS.2]at hb;simp at hb
       |va own=>rw[hm]at AS;obtain⟨_,_,_,hc⟩:=AS;exact hc.inb.2 b hb
       |mu own=>rw[hm]at AS;obtain⟨_,_,_,hc⟩:=AS;exact hc.inb.2 b hb
       |bx own own'=>
        rw[hm]at AS;obtain⟨_,b0,_,_,_,_,_,hh,_,_,hc,rfl⟩:=AS;rcases Ac.1 hb with rfl|hb
        ·exact EI hh
        ·exact hc.inb.2 b hb
      ·exact ih b hb
     |free _ _ ih=>exact ih
    exact this Ai
   have AI:∀t e,Aq l t=some e-> ∃r∈recs,r.tag=t/\r.au=e:=λt e he=>by have:=GY he;rw[e1]at this;obtain⟨r,hr,N6⟩:=List.mem_map.1 this;simp only[Az.pair,AB]at N6;exact⟨r,hr,N6.1,N6.2⟩
   let F:Fix:=⟨w,⟨λb=>b∈rf,pin,LO⟩,λb=>b∈AY,λt v h=>by
    simp only[pin,FO]at h;split at h
    ·assumption
    ·cases h⟩
   have hrel:Rel c fn.ntmps (Bi {sl:=ss++(List.range (fn.nfree-s.ft.length)).map (λj=>SV.e (.var (fn.params.size+s.ft.length+j)))++List.replicate (fn.ntmps-(fn.params.size+fn.nfree)) .undef,hp:=l,nx:=100000,nv:=fn.params.size+fn.nfree}) (Aq l) {tmps:=vs.toArray++Array.replicate (fn.ntmps-vs.toArray.size) undef,defers:=[]}:=by
    refine⟨rfl,by simp;omega,⟨rfl,rfl,rfl,Ax _,λt v hp=>⟨?_,λhk=> ?_⟩,λb _ _=>rfl,DP,λv y h=>h⟩,λi=> ?_,λt e hr=> ?_,λt hn=> ?_,⟨λt=> ?_,λt u JO b hb Bt=> ?_,λt b hb=> ?_,λt b hb=> ?_⟩,λt g hk=> ?_,λt e he=> ?_⟩
    ·have:=F.j9 t v hp;unfold Ka at this;simp only[Ad,Au]at this;exact this.1
    ·rcases hk with hk|⟨r,hr,rfl,AM,_⟩
     ·exact hk.elim
     ·exact(aft.new r hr v (e5 r hr v hp)).2.2
    ·have SU:SR c (ss++(List.range (fn.nfree-s.ft.length)).map (λj=>SV.e (.var (fn.params.size+s.ft.length+j)))++List.replicate (fn.ntmps-(fn.params.size+fn.nfree)) .undef) (vs++List.replicate (fn.ntmps-(fn.params.size+fn.nfree)) undef):=by
      refine g1'.app ?_;have:∀k,SR c (List.replicate k SV.undef) (List.replicate k undef):=by
       intro k
       induction k with
       |zero=>exact .nil
       |succ k ih=>exact .undef ih
      exact this _
     unfold Bi;simp only;cases hq:(ss++(List.range (fn.nfree-s.ft.length)).map (λj=>SV.e (.var (fn.params.size+s.ft.length+j)))++List.replicate (fn.ntmps-(fn.params.size+fn.nfree)) SV.undef)[i]? with
     |none=>exact .undef .nil
     |some s'=>
      obtain⟨v',TY,IM⟩:=SU.get hq;have:(vs.toArray++Array.replicate (fn.ntmps-vs.toArray.size) undef).getD i undef=v':=by
       rw[Array.getD_eq_getD_getElem?];have e:(vs.toArray++Array.replicate (fn.ntmps-vs.toArray.size) undef)[i]?=(vs++List.replicate (fn.ntmps-(fn.params.size+fn.nfree)) undef)[i]?:=by rw[<-Array.getElem?_toList];simp[Js]
       rw[e,TY];rfl
      rw[this];exact IM
    ·cases hh:Aq l t with
     |none=>rw[hh]at hr;exact hr.elim
     |some e0=>
      obtain⟨r,Dd,rfl,rfl⟩:=AI t e0 hh;have A8:=(g2 r Dd).keep kc rfl rfl (λg hg=>hg) (λb _=>rfl);rw[hh]at hr;cases he:r.au with
      |gd gs e'=>rw[he]at A8 hr;obtain⟨_,rfl⟩:=hr;have AM:=(e3 r Dd).2.2;exfalso;exact UU _ _ _ _ _ _ Cl r.tag r.au (by rw[e1];exact List.mem_map.2 ⟨r,Dd,rfl⟩) _ _ he
      |_=>rw[he]at A8 hr;simp only[B9]at hr;subst hr;exact A8
    ·rcases hG t with⟨r,hr,rfl,hg⟩|hg
     ·exfalso;have CJ:(r.tag,r.au)∈l:=by rw[e1];exact List.mem_map.2 ⟨r,hr,rfl⟩
      have:∃e,Aq l r.tag=some e:=by
       have:∀(l:List (Nat × Ab)),(r.tag,r.au)∈l-> ∃e,Aq l r.tag=some e:=by
        intro l
        induction l with
        |nil=>intro h;simp at h
        |cons p l ih=>
         obtain⟨u,f'⟩:=p;intro h;simp only[Aq];split
         ·exact⟨_,rfl⟩
         ·rename_i hu;rcases Ac.1 h with h|h
          ·cases h;exact absurd rfl hu
          ·exact ih h
       exact this l CJ
      obtain⟨e,he⟩:=this;obtain⟨r',Dd,JL,rfl⟩:=AI _ _ he;have Qa:∀gs f',r'.au≠ .gd gs f':=by intro gs f' BW;exact UU _ _ _ _ _ _ Cl r'.tag r'.au (by rw[e1];exact List.mem_map.2 ⟨r',Dd,rfl⟩) _ _ BW
      apply hn r'.au;rw[he];cases TO:r'.au with
      |gd gs f'=>exact absurd TO (Qa gs f')
      |_=>simp[B9]
     ·rw[hg];simp
    ·rcases hG t with⟨r,hr,rfl,hg⟩|hg
     ·rw[hg];rw[<-e2]at FB;simpa[GI.own]using(O6 FB).1 r hr
     ·rw[hg];simp[GI.own]
    ·rcases hG t with⟨r,hr,rfl,hg⟩|hg
     ·rcases hG u with⟨q,hq,rfl,BW⟩|BW
      ·rw[hg]at hb;rw[BW]at Bt;simp only[GI.own,AG]at hb Bt;rw[<-e2]at FB;obtain⟨i,hi⟩:=List.getElem?_of_mem hr;obtain⟨j,hj⟩:=List.getElem?_of_mem hq;have:=(O6 FB).2 i j r q b hi hj hb Bt;subst this;rw[hi]at hj;cases hj;exact JO rfl
      ·rw[BW]at Bt;simp[GI.own]at Bt
     ·rw[hg]at hb;simp[GI.own]at hb
    ·rcases hG t with⟨r,hr,rfl,hg⟩|hg
     ·rw[hg]at hb;simp only[GI.own,AG]at hb;exact .inr (FA r hr b hb)
     ·rw[hg]at hb;simp[GI.own]at hb
    ·rcases hG t with⟨r,hr,rfl,hg⟩|hg
     ·rw[hg]at hb;simp only[GI.own,AG]at hb;exact DK b (FA r hr b hb)
     ·rw[hg]at hb;simp[GI.own]at hb
    ·rcases hk with hk|⟨r,hr,rfl,_⟩
     ·exact hk.elim
     ·exact WM r hr
    ·obtain⟨r,hr,rfl,_⟩:=AI t e he;exact WM r hr
   have Nj:Fo F xs {sl:=ss++(List.range (fn.nfree-s.ft.length)).map (λj=>SV.e (.var (fn.params.size+s.ft.length+j)))++List.replicate (fn.ntmps-(fn.params.size+fn.nfree)) .undef,hp:=l,nx:=100000,nv:=fn.params.size+fn.nfree} {tmps:=vs.toArray++Array.replicate (fn.ntmps-vs.toArray.size) undef,defers:=[]} w:=by
    refine⟨c,rfl,rfl,rfl,rfl,rfl,hlen,λt ht=>ht,?_⟩;have hl:(ss++(List.range (fn.nfree-s.ft.length)).map (λj=>SV.e (.var (fn.params.size+s.ft.length+j)))++List.replicate (fn.ntmps-(fn.params.size+fn.nfree)) SV.undef).length=fn.ntmps:=by rw[AZ,E8,List.length_replicate];omega
    show Rel c (ss++(List.range (fn.nfree-s.ft.length)).map (λj=>SV.e (.var (fn.params.size+s.ft.length+j)))++List.replicate (fn.ntmps-(fn.params.size+fn.nfree)) SV.undef).length _ _ _;rw[hl];exact hrel
   refine calls_of_wp Gq Dh ?_;have WJ:HN (λ_ _ _ _=>False):=λ_ _ _ _ _ _ h=>h;have S1:=Tr.dc _ WJ t0 DG hd;refine jV (nO TB (rG (sg:={sg with dp:=s.dp,wn:=s.wn,fz:=s.fz}) Hx) qS) mZ code [] _ _ t0 hex F (λr'=>r'=r) _ [] xs _ w (OZ WJ _ _) S1 Nj _ λi x τ ρ' a' w' hp hl Ct=> ?_;obtain⟨tr,d',q1,q2,q3⟩:=hl;have main:Si P fn s τ=some tr->a'.defers=[]/\ ∃v,(results fn a'.tmps).run P w'= .ok v w'/\ ∃v',Ending.returned v= .returned v'/\aR P fn s w vs rf AY r v' w':=by
    intro Dq;obtain⟨c2,rfl,rfl,k1,k2,k3,k4,k5,k6⟩:=Ct;unfold Si at Dq;split at Dq
    ·rename_i rs bx us Ep SO;split at Dq
     ·rename_i es vs' Gp cY;split at Dq
      ·cases Dq
      rename_i Nr;simp only[Bool.or_eq_true,Bn,not_or,Bool.not_eq_false,Bool.not_eq_true]at Nr;obtain⟨BP,LQ⟩:=Nr;have BP:=Mj BP;simp only[Aa]at Dq;subst Dq;have hr:_=r:=q3;obtain⟨rvs,z1,z2,z3⟩:=iU k6 fn Ep;obtain⟨f1,y1,y2⟩:=XR (P:=P) k6 fn.resultTypes.toList cY z1 Gp (Ax _);obtain⟨f2,o2,x1,x2,x3⟩:=XW (P:=P) k6 (w0:=w) (ms0:=s.bg) (vs0:=vs) (λt=>by rw[k2]) (fn.params.toList++s.ft) 0 SO Ai (λk=>by simp) (λk=>by simp);refine⟨k6.defers,_,z3,_,rfl,⟨?_,?_⟩⟩
      ·
       have hR:∃R,R=(match es with| .cons x .nil=>x|es=>E.tup es).den c2.ρ/\Io P c2.w fn.resultTypes.toList s.res (match rvs with| [u]=>u|us=> .tuple us.toArray) R f1 (vs'.flatMap λt=>(c2.G t).top):=by
        refine⟨_,rfl,?_⟩;have yl:es.den c2.ρ=es.den c2.ρ:=rfl;generalize Oi:fn.resultTypes.toList=ts at y1 ⊢;generalize BS:es.den c2.ρ=ys at y1;generalize (vs'.flatMap λt=>(c2.G t).top)=o1 at y1 ⊢;cases y1 with
        |nil=>
         cases es with
         |nil=>exact⟨[],[],rfl,by simp[E.den,EL.den], .nil⟩
         |cons e es=>simp[EL.den]at BS
        | @cons t ts fl v vs2 x xs2 f h rf2 AN w1 w2=>
         cases w2 with
         |nil=>
          cases es with
          |nil=>simp[EL.den]at BS
          |cons e es=>
           cases es with
           |nil=>simp only[EL.den,List.cons.injEq,and_true]at BS;subst BS;simpa[Io]using w1
           |cons e2 es=>simp[EL.den]at BS
         | @cons t2 ts2 fl2 v2 vs3 x2 xs3 f2' h2 rf3 GR w3 w4=>
          cases es with
          |nil=>simp[EL.den]at BS
          |cons e es=>
           cases es with
           |nil=>simp[EL.den]at BS
           |cons e2 es=>refine⟨v::v2::vs3,x::x2::xs3,rfl,?_, .cons w1 (.cons w3 w4)⟩;simp only[E.den,BS]
       obtain⟨R,bE,bF⟩:=hR;have A9:∀b∈(vs'.flatMap λt=>(c2.G t).top)++o2,∃t∈vs'++us,b∈(c2.G t).top:=λb hb=>by
        rcases Ae.1 hb with hb|hb
        ·obtain⟨t,ht,Ce⟩:=List.mem_flatMap.1 hb;exact⟨t,by simp[ht],Ce⟩
        ·rw[x2]at hb;obtain⟨t,ht,Ce⟩:=List.mem_flatMap.1 hb;exact⟨t,by simp[ht],Ce⟩
       have Hb:∀b t,b∈(c2.G t).top->b∈AY\/w.heap.size<=b:=λb t hb=>by
        rcases k6.gw.allow t b (by simp[GI.own,hb])with h|h
        ·simp only[Cx.B,k1]at h;exact .inr h
        ·rw[k3]at h;exact .inl h
       refine⟨R,bx.map (E.den c2.ρ),f1,_,f2,o2,?_,bF,x1,?_,λb hb=> ?_,λb hb=> ?_⟩
       ·rw[<-hr,bE];cases bx with
        |nil=>rfl
        |cons b bx=>simp only[List.isEmpty_cons,B1,if_false,E.den,EL.ch,List.map_cons];rfl
       ·rw[x2,<-List.flatMap_append];have:∀l:List Nat,l.Nodup->(l.flatMap λt=>(c2.G t).top).Nodup:=by
         intro l
         induction l with
         |nil=>intro _;simp
         |cons t l ih=>intro hl;rw[List.nodup_cons]at hl;rw[List.flatMap_cons,List.nodup_append];refine⟨(List.nodup_append.1 (k6.gw.nodup t)).1,ih hl.2,λx hx y hy EP=> ?_⟩;subst EP;obtain⟨u,hu,T3⟩:=List.mem_flatMap.1 hy;exact k6.gw.bm t u (λhh=>hl.1 (hh▸hu)) x (by simp[GI.own,hx]) (by simp[GI.own,T3])
        exact this _ BP
       ·obtain⟨t,ht,Ce⟩:=A9 b hb;exact⟨Hb b t Ce,k6.gw.inb t b (by simp[GI.own,Ce])⟩
       ·have Gy:c2.c9 (PE P τ fn.resultTypes.toList s.res rs++LA P τ 0 (fn.params.toList++s.ft) s.bg) b:=by
         rcases Ae.1 hb with hb|hb
         ·exact(y2 b hb).mono λt ht=>by simp[ht]
         ·exact(x3 b hb).mono λt ht=>by simp[ht]
        rcases Gy with AF|⟨t,ht,Ce⟩
        ·refine⟨λho=> ?_,?_⟩
         ·obtain⟨u,_,Gn⟩:=A9 b ho;exact AF.1 ⟨u,Gn⟩
         ·rcases AF.2 with h|h|h
          ·rw[k2]at h;exact .inl h
          ·simp only[Cx.B,k1]at h;exact .inr (.inr h)
          ·rw[k3]at h;exact .inr (.inl h)
        ·refine⟨λho=> ?_, .inr (Hb b t Ce)⟩;obtain⟨u,hu,Gn⟩:=A9 b ho;have JO:t≠u:=by
          rintro rfl;rw[List.any_eq_false]at LQ;have:=LQ t ht;simp only[List.contains_eq_mem,Au]at this;exact this hu
         exact k6.gw.bm t u JO b (by simp[GI.own,Ce]) (by simp[GI.own,Gn])
      ·have hb:=k6.base;refine⟨?_,?_,?_,?_,λk hk hn=> ?_⟩
       ·rw[hb.os,k1]
       ·rw[hb.tape,k1]
       ·rw[hb.output,k1]
       ·have:=hb.size;rw[k1]at this;exact this
       ·have:=hb.block k (by rw[k1];exact hk) (by rw[k3];exact hn);rw[k1]at this;exact this
     ·cases Dq
    ·cases Dq
   cases x with
   |normal=>exact main q1
   |ret=>exact main q1
   |exit id=>cases q1
  ·cases DG
 ·cases DG
end
end Go.Proofs.Yteeafhlnofapaaa

/- Parts of a proof, joined: WSa, WSb, WT, WU, WV, WW. -/
import Derived.Test.YtkpifpljpoochaaGreatDoorK5
set_option linter.unusedVariables false
set_option linter.unusedSimpArgs false
namespace Go.Proofs.YtkpifpljpoochaaGreatDoor
open Go.RowKit
section
theorem AL.{u}{α:Type u}{a:α}:[a].length=1:=rfl
section
variable {P:Program} {c:Cx} {n nx:Nat} {sl sl0:Nat->SV} {hp hp0:Nat->Option Ah} {a:Act} {o:Oper} {gs:Gd} {e:A2} {sg:BR} {nv:Nat}
theorem Rel.ig(h:Rel c n sl hp a){sl':Nat->SV}(hs:∀i,sl' i=sl i\/SR c [sl' i] [a.tmps.getD i undef]):Rel c n sl' hp a:=
 ⟨h.defers,h.size,h.base,λi=>by
  rcases hs i with hh|hh
  ·rw[hh];exact h.cv i
  ·exact hh,h.ents,h.off,h.gw,h.bc,h.cg⟩
theorem RB{u:Nat}:∀{l:List Operand} {t T v m:Nat} {p:E × Nat × Nat} {s:SV},KI sl0 u l=some (t,T,v,m,p,s)->Operand.tmp t∈l/\((∃y,sl0 t= .via T v m (some p) y/\s= .own u 0)\/ ∃y k z q,sl0 t= .vptr T v m (some p) y k z q/\s= .cd u 0 k z q)
 | [],_,_,_,_,_,_,h=>by simp[KI]at h
 |x::l,t,T,v,m,p,s,h=>by
  cases x with
  |tmp i=>
   simp only[KI]at h;split at h
   ·rename_i hs;simp only[Af,AO]at h;obtain⟨rfl,rfl,rfl,rfl,rfl,rfl⟩:=h;exact⟨by simp, .inl ⟨_,hs,rfl⟩⟩
   ·rename_i hs;simp only[Af,AO]at h;obtain⟨rfl,rfl,rfl,rfl,rfl,rfl⟩:=h;exact⟨by simp, .inr ⟨_,_,_,_,hs,rfl⟩⟩
   ·obtain⟨h1,h2⟩:=RB h;exact⟨by simp[h1],h2⟩
  |const v9=>simp only[KI]at h;obtain⟨h1,h2⟩:=RB h;exact⟨by simp[h1],h2⟩
  |func f=>simp only[KI]at h;obtain⟨h1,h2⟩:=RB h;exact⟨by simp[h1],h2⟩
  |global g=>simp only[KI]at h;obtain⟨h1,h2⟩:=RB h;exact⟨by simp[h1],h2⟩
theorem Rel.split(h:Rel c n sl hp a){T v m u:Nat}{p:E × Nat × Nat}{hl inn:Ah}(hs:R9 hp0 T v m u p=some (hl,inn))(BJ:∀t e,hp0 t=some e->hp t=some e)(hu: ¬c.U u){vv:Value}(IH:c.E T=m->HO c T v (some p) vv):
  ∃recs c1,c1=c.dc c.w recs/\Rel c1 n sl (A8 hp [(T,hl),(u,inn)]) a/\DD c c1/\c1.K u 0/\c1.H u 0=vv/\(∃q n r,vv= .slice q n r/\(q=none\/n=0\/ ∃g,q=some ⟨g,0,none⟩))/\(∀t,c1.U t->c.U t\/t=u)/\c.K T v/\c.E T=m/\c1.E T=m+1/\T≠u:=by
 have eh:EH c hp0:=λt e hr=>h.ents t e (KH BJ hr);obtain⟨pi,z,po⟩:=p;unfold R9 at hs;split at hs
 ·rename_i e z0 l g ep c0 qN;split at hs
  ·rename_i Av;obtain⟨rfl,rfl,dG⟩:=Av;simp only at dG;subst dG;split at hs
   ·rename_i e2 z2 l2 BO;simp only[Af,AO]at hs;obtain⟨rfl,rfl⟩:=hs;simp only at BO;obtain⟨q1,q2,q3,q4,q5⟩:=eh T _ (Cv qN (Et _));obtain⟨b,n9,cap,C,ty,fz,kk,k,p1,p2,p3,p4,p5,p6,p7⟩:=IH q3;obtain⟨d1,d2,⟨a9,d3,_⟩|⟨g9,cap9,C9,ys,N,d3,d4,d5,d6,d7,d8,d9,d10,d11,d12⟩⟩:=q4.inv
    ·rw[p1]at d3;cases d3;omega
    ·rw[p1]at d3;cases d3;rw[d6]at p3;cases p3;rw[AG.ak]at d2 d12;have rB:po<z:=by
      rcases Nat.lt_or_ge po l.length with hh|hh
      ·omega
      ·rw[List.getElem?_eq_none hh]at BO;cases BO
     have Hx:k.toNat<ys.length:=by omega
     have hmul:(k.toNat+1)*z<=ys.length*z:=BB _ (by omega);have Eh:ys.length*z<=cap*z:=BB _ d7;rw[Nat.add_mul]at hmul;have Du:C.toList.length=cap*z:=by simpa using d9
     have AI:k.toNat*z+po<C.size:=by omega
     obtain⟨N1,N2,N3,rfl,s1,s2,s3⟩:=d12.split (k.toNat*z+po) 1;have B2:((C.toList.take (ys.length*z)).drop (k.toNat*z+po)).take 1=[vv]:=by have hv:C[k.toNat*z+po]?=some vv:=p7;rw[List.drop_take,List.take_take,Nat.min_eq_left (by omega),BL (by simpa using AI),List.take_succ_cons,List.take_zero];rw[Array.getElem?_eq_getElem AI]at hv;simpa using hv
     have HZ:=LL Hx;generalize MR:(AV.sl ys).nth k.toNat=yk at HZ;have Fu:=d10 yk (List.mem_of_getElem? HZ);have F3:((AA ys).drop (k.toNat*z+po)).take 1=[(E.fld (.idx c0 pi) po 1 false).den c.ρ]:=by rw[RO ys d10 _ _ HZ po 1 (by omega),BL (by omega),List.take_succ_cons,List.take_zero];simp only[E.den,d4,p4,AV.idx,MR,AV.fld];simp[show po<yk.cells.length by omega]
     have Bb:((Ci ys.length l).drop (k.toNat*z+po)).take 1=[.row e2 z2 l2]:=by
      rw[<-d2,RC l _ _ _ _ Hx (by omega)];have Gt:po<l.length:=by omega
      rw[BL Gt,List.take_succ_cons,List.take_zero];rw[Bl Gt]at BO;simpa using BO
     rw[B2,F3,Bb]at s2;have F1:=h.bc _ _ q1;have Il:T≠u:=λhh=>hu (hh▸F1);have B8:=h.gw.nodup T;simp only[GI.own,q5,AJ,d5]at B8;have AQ:∀r∈([⟨T,none,b::(N1++N3), .hol e z l g (ep+1) c0 pi po u⟩,⟨u,some vv,N2,if l2.toList.all DT.bj then .row e2 z2 0 (.fld (.idx c0 pi) po 1 false) true else .deep e2 z2 l2.toList 0 0 (.fld (.idx c0 pi) po 1 false)⟩]:List AM),r.new.isSome=true-> ¬c.U r.tag:=λr hr hs=>by
      simp only[Ad,List.not_mem_nil,or_false]at hr;rcases hr with rfl|rfl
      ·cases hs
      ·exact hu
     refine⟨[⟨T,none,b::(N1++N3), .hol e z l g (ep+1) c0 pi po u⟩,⟨u,some vv,N2,if l2.toList.all DT.bj then .row e2 z2 0 (.fld (.idx c0 pi) po 1 false) true else .deep e2 z2 l2.toList 0 0 (.fld (.idx c0 pi) po 1 false)⟩],_,rfl,?_⟩;generalize AU:([⟨T,none,b::(N1++N3), .hol e z l g (ep+1) c0 pi po u⟩,⟨u,some vv,N2,if l2.toList.all DT.bj then .row e2 z2 0 (.fld (.idx c0 pi) po 1 false) true else .deep e2 z2 l2.toList 0 0 (.fld (.idx c0 pi) po 1 false)⟩]:List AM)=recs at AQ;have hn:(recs.map AM.tag).Nodup:=by rw[<-AU];simp[Il]
     have aft:=Cx.c9 (w':=c.w) h.bc hn AQ;have DK:(⟨T,none,b::(N1++N3), .hol e z l g (ep+1) c0 pi po u⟩:AM)∈recs:=by rw[<-AU];simp
     have Dl:(⟨u,some vv,N2,if l2.toList.all DT.bj then .row e2 z2 0 (.fld (.idx c0 pi) po 1 false) true else .deep e2 z2 l2.toList 0 0 (.fld (.idx c0 pi) po 1 false)⟩:AM)∈recs:=by rw[<-AU];simp
     obtain⟨k1,k2,k3⟩:=aft.new _ Dl vv rfl;have kgT:=aft.G _ DK;have keT:=aft.fu _ DK rfl;have kgu:=aft.G _ Dl;have keu:=aft.ia _ Dl rfl;obtain⟨kT1,kT2⟩:=aft.K T g q1;simp only at k1 k2 k3 kgT keT kgu keu;have Lc:∀q,q∈b::(N1++N3)\/q∈N2->q∈(c.G T).top:=λq hq=>by rw[d5];simp only[Ad,Ag]at hq ⊢;rcases hq with(hq|hq|hq)|hq<;>simp[hq]
     obtain⟨hrel,BQ⟩:=h.changes (recs:=recs) (gs:=[]) (hs:=(c.G T).top) (Et _) (Mod.refl _ c.w) hn AQ (λq hq=>⟨_,DK,hq⟩) (by
       rw[<-AU];simp only[List.flatMap_cons,List.flatMap_nil,AJ];rw[List.nodup_cons]at B8;obtain⟨n1,n2⟩:=B8;rw[List.append_assoc,List.nodup_append,List.nodup_append]at n2;obtain⟨a1,⟨a2,a3,a4⟩,a5⟩:=n2;rw[List.cons_append,List.nodup_cons,List.nodup_append,List.nodup_append];refine⟨λhh=>n1 ?_,⟨a1,a3,λx hx y hy=>a5 x hx y (Ag.2 (.inr hy))⟩,a2,λx hx y hy Gy=> ?_⟩
       ·simp only[Ag]at hh ⊢;rcases hh with(hh|hh)|hh<;>simp[hh]
       ·rcases Ag.1 hx with hx|hx
        ·exact a5 x hx y (Ag.2 (.inl hy)) Gy
        ·exact a4 y hy x hx Gy.symm)
      (λr hr q hq=>by
       have:q∈(c.G T).top:=by
        rw[<-AU]at hr;simp only[Ad,List.not_mem_nil,or_false]at hr;rcases hr with rfl|rfl
        ·exact Lc q (.inl hq)
        ·exact Lc q (.inr hq)
       exact⟨.inl this,h.gw.inb T q (by simp[GI.own,this])⟩)
      (λr hr=>by
       rw[<-AU]at hr;simp only[Ad,List.not_mem_nil,or_false]at hr;rcases hr with rfl|rfl
       ·intros;simp
       ·intros;simp only;split<;>simp)
      (λhk r hr=>by
       rw[<-AU]at hr;simp only[Ad,List.not_mem_nil,or_false]at hr;rcases hr with rfl|rfl
       ·refine⟨kT1,λg' Cg=>q2 g' (aft.old T F1 g' Cg),by rw[keT,q3],?_,by rw[kgT]⟩;rw[kT2,p1,kgT];exact⟨b,cap,C,ys,kk,k,N1,N3,rfl,d4,p4,p5,p6,rB,d1,d2,d6,d7,d8,d9,d10,d11,rfl,k1,by rw[k3];exact p7,s1,s3⟩
       ·simp only;split
        ·rename_i hf;have Br:=s2.lu hf;refine⟨k1,k2,[],?_,by simp,λ_=>⟨rfl,by rw[kgu]⟩,λ_=>by rw[kgu]⟩;rw[k3,kgu];exact Br
        ·refine⟨k1,k2,keu,?_,by rw[kgu]⟩;rw[k3,kgu,AG.cj];exact s2)
     refine⟨?_,BQ,k1,k3,?_,λt ht=> ?_,q1,q3,by rw[keT,q3],Il⟩
     ·have:(recs.map λr=>(r.tag,CC [] r.a6))=[(T, .hol e z l g (ep+1) c0 pi po u),(u,if l2.toList.all DT.bj then .row e2 z2 0 (.fld (.idx c0 pi) po 1 false) true else .deep e2 z2 l2.toList 0 0 (.fld (.idx c0 pi) po 1 false))]:=by
       rw[<-AU];simp[CC]
      rw[this]at hrel;exact hrel
     ·obtain⟨_,_,⟨a9,h1,_⟩|⟨g9,cap9,C9,ys9,N9,h1,_⟩⟩:=s2.inv
      ·exact⟨a9,0,0,h1, .inr (.inl rfl)⟩
      ·exact⟨_,_,_,h1, .inr (.inr ⟨g9,rfl⟩)⟩
     ·rcases ht with ht|⟨r,hr,rfl⟩
      ·exact .inl ht
      ·rw[<-AU]at hr;simp only[Ad,List.not_mem_nil,or_false]at hr;rcases hr with rfl|rfl
       ·exact .inl F1
       ·exact .inr rfl
   ·cases hs
  ·cases hs
 ·cases hs
theorem Rel.close(h:Rel c n sl hp a){T u:Nat}{hl r d:Ah}(hT:hp T=some hl)(hu:hp u=some r)(hr:R8 P hl r=some d)(Ki:∃q1 q2 q3 q4 q5 q6 q7 q8,hl= .hol q1 q2 q3 q4 q5 q6 q7 q8 u)(Il:T≠u):
  ∃recs c1,c1=c.dc c.w recs/\Rel c1 n sl (A8 hp [(T,d),(u, .dead)]) a/\(∀t,c1.U t->c.U t)/\c.E T<c1.E T:=by
 obtain⟨e,z,l,g,ep,c0,i,o',rfl⟩:=Ki;have key:∀(e2 z2:Nat) (l2:AG) (x:E),l[o']?=some (.row e2 z2 l2)->DC c.w [.row e2 z2 l2] [c.H u 0] [x.den c.ρ] (c.G u).top->c.U u->d= .deep e z l g (ep+1) (.set c0 i (.put (.idx c0 i) o' x (An P e)))->(An P e=false->z=1)->
   ∃recs c1,c1=c.dc c.w recs/\Rel c1 n sl (A8 hp [(T,d),(u, .dead)]) a/\(∀t,c1.U t->c.U t)/\c.E T<c1.E T:=by
  rintro e2 z2 l2 x BO Qk SZ rfl Hn;obtain⟨q1,q2,q3,⟨b,cap,C,ys,kk,k,N1,N2,p1,p2,p3,p4,p5,p6,p7,p7',p8,p9,p10,p11,p12,p13,p14,p15,p16,p17,p18⟩,q5⟩:=h.ents T _ (by rw[hT];rfl);have F1:=h.bc _ _ q1;have Hx:k.toNat<ys.length:=by omega
  have hmul:(k.toNat+1)*z<=ys.length*z:=BB _ (by omega);have Eh:ys.length*z<=cap*z:=BB _ p9;rw[Nat.add_mul]at hmul;have Du:C.toList.length=cap*z:=by simpa using p11
  have AI:k.toNat*z+o'<C.size:=by omega
  have HZ:=LL Hx;generalize MR:(AV.sl ys).nth k.toNat=yk at HZ;have Fu:=p12 yk (List.mem_of_getElem? HZ);obtain⟨zs,Eo⟩:∃zs,x.den c.ρ= .sl zs:=by
   obtain⟨_,_,⟨_,_,hx,_⟩|⟨_,_,_,_,_,_,hx,_⟩⟩:=Qk.inv
   ·exact⟨_,hx⟩
   ·exact⟨_,hx⟩
  have F9:(x.den c.ρ).cells=[x.den c.ρ]:=by rw[Eo];rfl
  have hz:(yk.cx o' (x.den c.ρ) (An P e)).cells=setVs yk.cells o' (x.den c.ρ).cells:=by
   refine Zf ?_ (λhg=> ?_)
   ·cases hg:An P e with
    |true=>exact .inr rfl
    |false=>left;rw[Eo];intro cs hh;cases hh
   ·have:=Hn hg;exact⟨by omega,by omega,F9⟩
  have Ed:AA (ys.set k.toNat (yk.cx o' (x.den c.ρ) (An P e)))=setVs (AA ys) (k.toNat*z+o') (x.den c.ρ).cells:=
   Vc ys _ _ yk o' _ p12 HZ (by rw[F9];simp;omega) hz
  have Gl:((Ci ys.length l).drop (k.toNat*z+o')).take 1=[.row e2 z2 l2]:=by
   rw[<-p7',RC l _ _ _ _ Hx (by omega)];have Gt:o'<l.length:=by omega
   rw[BL Gt,List.take_succ_cons,List.take_zero];rw[Bl Gt]at BO;simpa using BO
  have QR:setVs (C.toList.take (ys.length*z)) (k.toNat*z+o') [c.H u 0]=C.toList.take (ys.length*z):=by
   apply List.ext_getElem?;intro j;have qI:(C.toList.take (ys.length*z)).length=ys.length*z:=by rw[A1,Du];exact Nat.min_eq_left Eh
   rw[O3 _ _ _ (by rw[qI];show k.toNat*z+o'+1<=_;omega)];split
   ·rename_i hj;simp only[Ao,List.length_nil]at hj;have:j=k.toNat*z+o':=by omega
    subst this;rw[Nat.sub_self,List.getElem?_take,if_pos (by omega)];have:=p16;simpa using this.symm
   ·rfl
  have AZ:DC c.w [.row e z (AG.of l)] [c.H T g] [(E.set c0 i (.put (.idx c0 i) o' x (An P e))).den c.ρ] (b::(N1++((c.G u).top++N2))):=by
   have B4:(E.set c0 i (.put (.idx c0 i) o' x (An P e))).den c.ρ= .sl (ys.set k.toNat (yk.cx o' (x.den c.ρ) (An P e))):=by simp only[E.den,p2,p3,AV.idx,MR,AV.cr]
   rw[B4,p1];have DJ:(ys.set k.toNat (yk.cx o' (x.den c.ρ) (An P e))).length=ys.length:=List.length_set;have:=DC.row (w:=c.w) (e:=e) (z:=z) (l:=AG.of l) (g:=b) (cap:=cap) (C:=C) (ys:=ys.set k.toNat (yk.cx o' (x.den c.ρ) (An P e))) (N1:=N1++((c.G u).top++N2)) (ts:=[]) (vs:=[]) (xs:=[]) (N:=[]) p7 (by rw[AG.ak];exact p7') p8 (by rw[DJ];exact p9) p10 p11 (λw hw=>by
     rcases List.mem_or_eq_of_mem_set hw with hw|rfl
     ·exact p12 w hw
     ·rw[hz,O8 _ _ _ (by rw[F9,Fu];simp;omega)];exact Fu) (by rw[DJ];exact p13) (by
     rw[DJ,AG.ak,Ed,<-QR];refine DC.setVs p17 ?_ ?_
     ·exact p18
     ·rw[AL,Gl,F9];exact Qk) .nil
   rw[DJ]at this;simpa using this
  have hTK:=q1;have AQ:∀r∈([⟨T,none,b::(N1++((c.G u).top++N2)), .deep e z l g (ep+1) (.set c0 i (.put (.idx c0 i) o' x (An P e)))⟩,⟨u,none,[], .dead⟩]:List AM),r.new.isSome=true-> ¬c.U r.tag:=λr hr hs=>by simp only[Ad,List.not_mem_nil,or_false]at hr;rcases hr with rfl|rfl<;>cases hs
  refine⟨[⟨T,none,b::(N1++((c.G u).top++N2)), .deep e z l g (ep+1) (.set c0 i (.put (.idx c0 i) o' x (An P e)))⟩,⟨u,none,[], .dead⟩],_,rfl,?_⟩;generalize AU:([⟨T,none,b::(N1++((c.G u).top++N2)), .deep e z l g (ep+1) (.set c0 i (.put (.idx c0 i) o' x (An P e)))⟩,⟨u,none,[], .dead⟩]:List AM)=recs at AQ;have hn:(recs.map AM.tag).Nodup:=by rw[<-AU];simp[Il]
  have aft:=Cx.c9 (w':=c.w) h.bc hn AQ;have DK:(⟨T,none,b::(N1++((c.G u).top++N2)), .deep e z l g (ep+1) (.set c0 i (.put (.idx c0 i) o' x (An P e)))⟩:AM)∈recs:=by rw[<-AU];simp
  have Dl:(⟨u,none,[], .dead⟩:AM)∈recs:=by rw[<-AU];simp
  have kgT:=aft.G _ DK;have keT:=aft.fu _ DK rfl;have kgu:=aft.G _ Dl;obtain⟨kT1,kT2⟩:=aft.K T g q1;simp only at kgT keT kgu;have BS:∀q,q∈b::(N1++((c.G u).top++N2))->q∈(c.G T).top\/q∈(c.G u).top:=λq hq=>by rw[p14];simp only[Ad,Ag]at hq ⊢;rcases hq with hq|hq|hq|hq<;>simp[hq]
  have ME:=h.gw.nodup T;simp only[GI.own,q5,AJ,p14]at ME;have Xa:(c.G u).top.Nodup:=by have:=h.gw.nodup u;simp only[GI.own]at this;exact(List.nodup_append.1 this).1
  have FI:∀q∈(c.G u).top,q∉b::(N1++N2):=λq hq hh=>h.gw.cc u T (Ne.symm Il) q (by simp[GI.own,hq]) (by rw[<-p14]at hh;simp[GI.own,hh]);obtain⟨hrel,BQ⟩:=h.changes (recs:=recs) (gs:=[]) (hs:=(c.G T).top++(c.G u).top) (Et _) (Mod.refl _ c.w) hn AQ (λq hq=>by
    rcases Ag.1 hq with hq|hq
    ·exact⟨_,DK,hq⟩
    ·exact⟨_,Dl,hq⟩) (by
    rw[<-AU];simp only[List.flatMap_cons,List.flatMap_nil,AJ];rw[List.nodup_cons,List.nodup_append]at ME;obtain⟨n1,a1,a2,a3⟩:=ME;rw[List.nodup_cons,List.nodup_append,List.nodup_append];refine⟨λhh=> ?_,a1,⟨Xa,a2,λx hx y hy Gy=>FI x hx (by rw[Gy];simp[hy])⟩,λx hx y hy Gy=> ?_⟩
    ·simp only[Ag]at hh n1;rcases hh with hh|hh|hh
     ·exact n1 (.inl hh)
     ·exact FI b hh (by simp)
     ·exact n1 (.inr hh)
    ·rcases Ag.1 hy with hy|hy
     ·exact FI y hy (by rw[<-Gy];simp[hx])
     ·exact a3 x hx y hy Gy)
   (λr hr q hq=>by
    have:q∈(c.G T).top\/q∈(c.G u).top:=by
     rw[<-AU]at hr;simp only[Ad,List.not_mem_nil,or_false]at hr;rcases hr with rfl|rfl
     ·exact BS q hq
     ·simp at hq
    refine⟨.inl (Ag.2 this),?_⟩;rcases this with hh|hh
    ·exact h.gw.inb T q (by simp[GI.own,hh])
    ·exact h.gw.inb u q (by simp[GI.own,hh]))
   (λr hr=>by rw[<-AU]at hr;simp only[Ad,List.not_mem_nil,or_false]at hr;rcases hr with rfl|rfl<;>(intros;simp))
   (λhk r hr=>by
    rw[<-AU]at hr;simp only[Ad,List.not_mem_nil,or_false]at hr;rcases hr with rfl|rfl
    ·exact⟨kT1,λg' Cg=>q2 g' (aft.old T F1 g' Cg),by rw[keT,q3],by rw[kT2,kgT];exact AZ,by rw[kgT]⟩
    ·exact⟨by rw[kgu],by rw[kgu]⟩)
  refine⟨?_,λt ht=> ?_,by rw[keT];omega⟩
  ·have:(recs.map λr=>(r.tag,CC [] r.a6))=[(T, .deep e z l g (ep+1) (.set c0 i (.put (.idx c0 i) o' x (An P e)))),(u, .dead)]:=by
    rw[<-AU];simp[CC]
   rw[this]at hrel;exact hrel
  ·rcases ht with ht|⟨r,hr,rfl⟩
   ·exact ht
   ·rw[<-AU]at hr;simp only[Ad,List.not_mem_nil,or_false]at hr;rcases hr with rfl|rfl
    ·exact F1
    ·exact SZ
 have SZ:c.U u:=h.cg u r hu;unfold R8 at hr;simp only at hr;split at hr
 ·rename_i e2 z2 l2 e3 z3 x BO;split at hr
  ·rename_i hh;obtain⟨hf,rfl,rfl,hlen,Az⟩:=hh;simp only[Af]at hr;obtain⟨q1,q2,N,q4,q5,q6,q7⟩:=h.ents u _ (by rw[hu];rfl);obtain⟨hN,_⟩:=q6 rfl;have hN:N=[]:=hN;subst hN;exact key _ _ _ _ BO (DC.jy q4 hf hlen) SZ hr.symm (by rcases Az with hh|hh;(rw[hh];simp);exact λ_=>hh)
  ·cases hr
 ·rename_i e2 z2 l2 e3 z3 l3 x BO;split at hr
  ·rename_i hh;obtain⟨rfl,rfl,hb,Az⟩:=hh;simp only[Af]at hr;have hb:=AG.of_eq hb;subst hb;obtain⟨q1,q2,q3,q4,q5⟩:=h.ents u _ (by rw[hu];rfl);rw[AG.cj]at q4;exact key _ _ _ _ BO q4 SZ hr.symm (by rcases Az with hh|hh;(rw[hh];simp);exact λ_=>hh)
  ·cases hr
 ·cases hr
end
section
variable {P:Program} {c:Cx} {n nx:Nat} {sl sl0:Nat->SV} {hp hp0:Nat->Option Ah} {a:Act} {o:Oper} {gs:Gd} {e:A2} {sg:BR} {nv:Nat}
theorem O2(hp:Nat->Option Ah):∀(l:List (Nat × Ah)) (t:Nat),A8 hp l t=match KB l t with|some f=>some f|none=>hp t
 | [],t=>rfl
 |(u,e)::l,t=>by
  have:=O2 (λv=>if v=u then some e else hp v) l t;simp only[A8,List.foldl_cons,KB]at this ⊢;rw[this];cases KB l t with
  |some f=>rfl
  |none=>
   simp only;by_cases h:u=t
   ·rw[if_pos h.symm,if_pos h]
   ·rw[if_neg (Ne.symm h),if_neg h]
theorem xC{hp:Nat->Option Ah}{T v m u:Nat}{p:E × Nat × Nat}{h r:Ah}(hs:R9 hp T v m u p=some (h,r)):∃e z l ep c0 i o',h= .hol e z l v (m+1) c0 i o' u/\CR hp [] T=some (.deep e z l v ep c0)/\ep=m:=by
 unfold R9 at hs;split at hs
 ·rename_i hl;split at hs
  ·rename_i hh;obtain⟨rfl,rfl,_⟩:=hh;split at hs
   ·simp only[Af,AO]at hs;obtain⟨rfl,_⟩:=hs;exact⟨_,_,_,_,_,_,_,rfl,hl,rfl⟩
   ·cases hs
  ·cases hs
 ·cases hs
theorem yL{h r d:Ah}{e z:Nat}{l:List DT}{g ep:Nat}{c0 i:E}{o' u:Nat}(hh:h= .hol e z l g ep c0 i o' u)(hc:R8 P h r=some d):∃x,d= .deep e z l g (ep+1) x:=by
 subst hh;unfold R8 at hc;simp only at hc;split at hc
 ·split at hc
  ·simp only[Af]at hc;exact⟨_,hc.symm⟩
  ·cases hc
 ·split at hc
  ·simp only[Af]at hc;exact⟨_,hc.symm⟩
  ·cases hc
 ·cases hc
theorem zyG(IJ:∀f s,sg f=some s->f<1000000)(h:Bh P c n nx sl hp a sl0 hp0 o [])(hu: ¬c.U (nx+999))(he:Sj P sg sl0 hp0 nv nx o=some e)
  (hc:∀q∈e.bg,q.den c.ρ) (A9:∀cl,e.call=some cl-> ∃r,c.ρ[nv]?=some r/\HG (Cw P sg) cl.fn ((EL.of cl.args).den c.ρ) c.ρ r):Aw P o c n nx sl hp [] a e:=by
 unfold Sj at he;simp only at he;split at he
 ·cases he
 rename_i t T v m p s K3;split at he
 ·cases he
 rename_i hl inn Kd;split at he
 ·cases he
 rename_i e0 J2;split at he
 ·cases he
 rename_i CH;have CH:e0.br=none:=by cases hh:e0.br with|none=>rfl|some x=>rw[hh]at CH;simp at CH
 obtain⟨Db,AT⟩:=RB K3;have Db:Operand.tmp t∈o.op.operands:=by simpa using Db
 obtain⟨fe,fz,fl,fep,fc0,fi,fo,rfl,GQ,rfl⟩:=xC Kd;have hE:c.E T=fep:=(h.eh T _ (Cv GQ (Et _))).2.2.1;have El:=h.rel.cv t;rw[<-h.sl t Db]at El;obtain⟨vv,IH,AY⟩:∃vv,HO c T v (some p) vv/\ ∀c1:Cx,c1.ρ=c.ρ->c1.K (nx+999) 0->c1.H (nx+999) 0=vv->(∃q n r,vv= .slice q n r/\(q=none\/n=0\/ ∃g,q=some ⟨g,0,none⟩))->SR c1 [s] [a.tmps.getD t undef]:=by
  rcases AT with⟨y,CS,rfl⟩|⟨y,k,z,q,CS,rfl⟩
  ·rw[CS]at El;generalize a.tmps.getD t undef=av at El ⊢;cases El with
   |via h1 h2 h3 _=>obtain⟨_,hp⟩:=h3 hE;refine⟨_,hp,λc1 e1 k1 k2 k3=> ?_⟩;obtain⟨q,n,r,rfl,_⟩:=k3;exact .own k1 k2 .nil
  ·rw[CS]at El;generalize a.tmps.getD t undef=av at El ⊢;cases El with
   |vptr h1 h2 h3 _=>
    obtain⟨b,off,len,cap,kk,kv,g1,g2,g3,g4,g5,g6,rfl⟩:=h3 hE;refine⟨_,g2,λc1 e1 k1 k2 k3=> ?_⟩;obtain⟨q9,n9,r9,hv,hq⟩:=k3;cases hv;have FT:off=0:=by
     rcases hq with hq|hq|⟨g,hq⟩
     ·cases hq
     ·omega
     ·cases hq;rfl
    subst FT;have:=SR.cd (c:=c1) (i:=k) (sz:=z) (o:=q) k1 k2 (by rw[e1];exact g3) g4 g5 .nil;simpa using this
 obtain⟨recs,c1,rfl,C4,My,o5,JS,rQ,Wf,hKT,_,hE1,Il⟩:=h.rel.split Kd h.hp hu (λ_=>IH);have Ke:=AY _ My.ρ o5 JS rQ;have E0:=C4.ig (sl':=λi=>if i=t then s else sl i) (λi=>by
  by_cases hi:i=t
  ·subst hi;right;simpa using Ke
  ·left;simp[hi])
 have DN:∀x,A8 hp [(T, .hol fe fz fl v (fep+1) fc0 fi fo (nx+999)),(nx+999,inn)] x=if x=nx+999 then some inn else if x=T then some (.hol fe fz fl v (fep+1) fc0 fi fo (nx+999))else hp x:=λx=>rfl;have pre1:Bh P (c.dc c.w recs) n nx (λi=>if i=t then s else sl i) (A8 hp [(T, .hol fe fz fl v (fep+1) fc0 fi fo (nx+999)),(nx+999,inn)]) a (λi=>if i=t then s else sl0 i) (λw=>if w=T then some (.hol fe fz fl v (fep+1) fc0 fi fo (nx+999))else if w=nx+999 then some inn else hp0 w) o []:=by
  refine⟨E0,Et _,λi hi=> ?_,λx f hf=> ?_,λx h1 h2 hx=> ?_⟩
  ·by_cases hit:i=t
   ·simp[hit]
   ·simp only[if_neg hit];exact h.sl i hi
  ·rw[DN];by_cases h1:x=T
   ·rw[if_pos h1]at hf;rw[if_neg (by rw[h1];exact Il),if_pos h1];exact hf
   ·rw[if_neg h1]at hf;by_cases h2:x=nx+999
    ·rw[if_pos h2]at hf ⊢;exact hf
    ·rw[if_neg h2]at hf;rw[if_neg h2,if_neg h1];exact h.hp x f hf
  ·rcases Wf x hx with hx|hx
   ·exact h.new x h1 h2 hx
   ·omega
 have pT:∀(c':Cx) (a':Act) (w9:SV),Rel c' n (zip n (λi=>if i=t then s else sl i) o.dst w9) (λ_=>none) a'->True:=λ_ _ _ _=>trivial;have stale:∀(c':Cx) (v':Value),c'.K T v->fep<c'.E T->SR c' [sl t] [v']:=by
  intro c' v' hk AI;rw[<-h.sl t Db];rcases AT with⟨y,CS,_⟩|⟨y,k,z,q,CS,_⟩
  ·rw[CS];exact .via hk (by omega) (λhh=>by omega) .nil
  ·rw[CS];exact .vptr hk (by omega) (λhh=>by omega) .nil
 have back:∀{c':Cx} {hp':Nat->Option Ah} {a':Act} {w9:SV},Rel c' n (zip n (λi=>if i=t then s else sl i) o.dst w9) hp' a'->c'.K T v->fep<c'.E T->Rel c' n (zip n sl o.dst w9) hp' a':=by
  intro c' hp' a' w9 hr hk AI;refine hr.ig λi=> ?_;unfold zip;by_cases h1:o.dst=some i/\i<n
  ·left;rw[if_pos h1,if_pos h1]
  ·rw[if_neg h1,if_neg h1];by_cases h2:i=t
   ·subst h2;right;exact stale _ _ hk AI
   ·left;show sl i=if i=t then s else sl i;rw[if_neg h2]
 split at he
 ·
  split at he
  ·rename_i Qx;simp only[Af]at he;subst he;have Ir:=bE IJ pre1 J2 hc A9 (λx hx=>by rw[CH]at hx;cases hx);intro next Q hk
   refine Ir next Q λa' c' A3 hr=> ?_
   have Wc:A8 (A8 hp [(T, .hol fe fz fl v (fep+1) fc0 fi fo (nx+999)),(nx+999,inn)]) e0.a6 T=some (.hol fe fz fl v (fep+1) fc0 fi fo (nx+999)):=by rw[O2,Qx,DN,if_neg Il,if_pos rfl]
   obtain⟨g1,_,g3,_⟩:=hr.ents T _ (by rw[Wc];rfl);refine hk a' c' ⟨A3.ρ,A3.A,A3.w0,A3.Mu,λx hx=> ?_⟩ (back hr g1 (by omega));rcases A3.U x hx with hx|hx
   ·rcases Wf x hx with hx|hx
    ·exact .inl hx
    ·exact .inr ⟨by omega,by simp only[Bx];omega⟩
   ·exact .inr hx
  ·cases he
 ·split at he
  ·rename_i r' qO qK;obtain⟨d,hd,rfl⟩:=Aq.1 he;have Ir:=bE IJ pre1 J2 hc A9 (λx hx=>by rw[CH]at hx;cases hx);intro next Q hk
   refine Ir next Q λa' c' A3 hr=> ?_
   have Wc:A8 (A8 hp [(T, .hol fe fz fl v (fep+1) fc0 fi fo (nx+999)),(nx+999,inn)]) e0.a6 T=some (.hol fe fz fl v (fep+1) fc0 fi fo (nx+999)):=by rw[O2,qK,DN,if_neg Il,if_pos rfl]
   have rN:A8 (A8 hp [(T, .hol fe fz fl v (fep+1) fc0 fi fo (nx+999)),(nx+999,inn)]) e0.a6 (nx+999)=some r':=by rw[O2,qO]
   obtain⟨recs2,c2,rfl,Dy,pF,hE2⟩:=hr.close Wc rN hd ⟨_,_,_,_,_,_,_,_,rfl⟩ Il;obtain⟨x9,rfl⟩:=yL rfl hd;have We:A8 (A8 (A8 hp [(T, .hol fe fz fl v (fep+1) fc0 fi fo (nx+999)),(nx+999,inn)]) e0.a6) [(T, .deep fe fz fl v (fep+1+1) x9),(nx+999, .dead)] T=some (.deep fe fz fl v (fep+1+1) x9):=by show(if T=nx+999 then _ else if T=T then _ else _)=_;rw[if_neg Il,if_pos rfl]
   obtain⟨g1,_,g3,_⟩:=Dy.ents T _ (by rw[We];rfl);have DI:=back Dy g1 (by omega);have Bk:A8 hp ((T, .hol fe fz fl v (fep+1) fc0 fi fo (nx+999))::(nx+999,inn)::e0.a6++ [(T, .deep fe fz fl v (fep+1+1) x9),(nx+999, .dead)])=A8 (A8 (A8 hp [(T, .hol fe fz fl v (fep+1) fc0 fi fo (nx+999)),(nx+999,inn)]) e0.a6) [(T, .deep fe fz fl v (fep+1+1) x9),(nx+999, .dead)]:=by rw[<-Ng,<-Ng];rfl
   refine hk a' (c'.dc c'.w recs2) ⟨A3.ρ,A3.A,A3.w0,A3.Mu,λx hx=> ?_⟩ ?_
   ·rcases A3.U x (pF x hx)with hx|hx
    ·rcases Wf x hx with hx|hx
     ·exact .inl hx
     ·exact .inr ⟨by omega,by simp only[Bx];omega⟩
    ·exact .inr hx
   ·have:=DI;rw[<-Bk]at this;exact this
  ·cases he
theorem zva(h:Bh P c n nx sl hp a sl0 hp0 o gs){e:A2}(dp:Bool)(hd:Aw P o c n nx sl hp gs a e):Aw P o c n nx sl hp gs a (Jg dp hp0 gs e):=by
 unfold Jg;split
 ·exact hd
 ·split
  ·rename_i l hl;intro next Q hk
   refine hd next Q λa' c' hs hr=> ?_
   have e1:A8 hp0 e.a6=λt=>match KB e.a6 t with|some f=>some f|none=>hp0 t:=funext (O2 hp0 e.a6)
   have hl:Dz (A8 hp0 e.a6) [] (kY e.a6)=some l:=by rw[e1];exact hl
   have K2:=hr.freeze (hp0:=A8 hp0 e.a6) (λt e' h'=>by
    rw[O2]at h' ⊢;split at h'
    ·exact h'
    ·exact h.hp t e' h') (Et _) hl
   refine hk a' (c'.bh (l.map (·.1))) ⟨hs.ρ,hs.A,hs.w0,hs.Mu,hs.U⟩ ?_;show Rel _ _ _ (A8 hp (e.a6++l)) a';rw[Ng];exact K2
  ·exact hd
theorem ztc(dp:Bool)(e:A2):(Jg dp hp0 gs e).call=e.call:=by
 unfold Jg;split
 ·rfl
 ·split<;>rfl
theorem zvv(dp:Bool)(e:A2):(Jg dp hp0 gs e).bg=e.bg:=by
 unfold Jg;split
 ·rfl
 ·split<;>rfl
theorem Zn(dp:Bool)(e:A2):(Jg dp hp0 gs e).br=e.br:=by
 unfold Jg;split
 ·rfl
 ·split<;>rfl
theorem zt1{dp:Bool}{e:A2}{x:E}(h:e.br=some x):Jg dp hp0 gs e=e:=by unfold Jg;rw[if_pos (by simp[h])]
theorem zwA(h:Bh P c n nx sl hp a sl0 hp0 o gs){e:A2}(fz:Bool)(hd:Aw P o c n nx sl hp gs a e):Aw P o c n nx sl hp gs a (Jj fz hp0 gs e):=by
 unfold Jj;split
 ·exact hd
 ·rename_i Wl;simp only[Bool.or_eq_true,not_or]at Wl;have pU:e.a6=[]:=by simpa using Wl.2
  split
  ·rename_i t g m p x hv;split
   ·rename_i y l hy hl;split
    ·rename_i Hz;intro next Q hk
     refine hd next Q λa' c' hs hr=> ?_
     rw[pU]at hr;have WK:gs=[]:=by simpa using Wl.1.1.1.2
     subst WK;have hr:Rel c' n (zip n sl o.dst e.val) hp a':=hr;have eh:EH c' hp0:=λt e CL=>hr.ents t e (KH h.hp CL);have K2:=hr.freeze h.hp (Et _) hl;refine hk a' (c'.bh (l.map (·.1))) ⟨hs.ρ,hs.A,hs.w0,hs.Mu,hs.U⟩ ?_;refine{K2 with cv:=λi=> ?_};have h1:=hr.cv i;have h2:=K2.cv i;unfold zip at h1 h2 ⊢;split
     ·rename_i hi;rw[if_pos hi]at h1;obtain⟨f,q1,q2⟩:=Hd eh (Et _) AW hy h1 AW (Ay _);exact .e q1 (λb hb=>RH hr eh (Et _) hl Hz (q2 b hb)) .nil
     ·rename_i hi;rw[if_neg hi]at h2;exact h2
    ·exact hd
   ·exact hd
  ·exact hd
theorem zvc(fz:Bool)(e:A2):(Jj fz hp0 gs e).call=e.call:=by
 unfold Jj;split
 ·rfl
 ·split
  ·split
   ·split<;>rfl
   ·rfl
  ·rfl
theorem zvU(fz:Bool)(e:A2):(Jj fz hp0 gs e).bg=e.bg:=by
 unfold Jj;split
 ·rfl
 ·split
  ·split
   ·split<;>rfl
   ·rfl
  ·rfl
theorem jW(fz:Bool)(e:A2):(Jj fz hp0 gs e).br=e.br:=by
 unfold Jj;split
 ·rfl
 ·split
  ·split
   ·split<;>rfl
   ·rfl
  ·rfl
theorem zvS{fz:Bool}{e:A2}{x:E}(h:e.br=some x):Jj fz hp0 gs e=e:=by unfold Jj;rw[if_pos (by simp[h])]
theorem zzO(IJ:∀f s,sg f=some s->f<1000000):NF P sg (Cw P sg):=by
 intro c n nx sl hp a sl0 hp0 o gs e nv h hu he hc A9 CH;unfold KK at he;split at he
 ·rename_i e' Ey;simp only[Af]at he;subst he;rw[zvU,zvv]at hc;rw[zvc,ztc]at A9;rw[jW,Zn]at CH;exact zwA h _ (zva h _ (bE IJ h Ey hc A9 CH))
 ·split at he
  ·exact zyG IJ h hu he hc A9
  ·cases he
theorem zG{x:E}(he:Sj P sg sl0 hp0 nv nx o=some e)(hq:e.br=some x):False:=by
 unfold Sj at he;simp only at he;split at he
 ·cases he
 split at he
 ·cases he
 split at he
 ·cases he
 rename_i e0 J2;split at he
 ·cases he
 rename_i CH;have CH:e0.br=none:=by cases hh:e0.br with|none=>rfl|some x=>rw[hh]at CH;simp at CH
 split at he
 ·split at he
  ·simp only[Af]at he;subst he;rw[CH]at hq;cases hq
  ·cases he
 ·split at he
  ·obtain⟨d,hd,rfl⟩:=Aq.1 he;rw[CH]at hq;cases hq
  ·cases he
theorem yX{x:E}(he:KK P sg sl0 hp0 nv nx gs o=some e)(hq:e.br=some x):Bz P sg sl0 hp0 nv nx gs o=some e:=by
 unfold KK at he;split at he
 ·rename_i e' Ey;simp only[Af]at he;subst he;rw[jW,Zn]at hq;rw[zvS (by rw[Zn];exact hq),zt1 hq];exact Ey
 ·split at he
  ·exact(zG he hq).elim
  ·cases he
theorem zyT:Sv P sg:=by
 intro c n nx sl hp a sl0 hp0 o gs e nv x h he hq hb;unfold JD at hb;cases AP:o.op with
 |binOp op t y z ty=>
  rw[AP]at hb;simp only at hb;have he:=yX he hq;simp only[Bz,AP,As]at he;obtain⟨s1,BA,s2,AY,he⟩:=he;have key:∀xq,Bj hp0 gs AW s1=some xq->xq.den c.ρ= .sl []:=by
   intro xq IP;obtain⟨f,q1,_⟩:=h.jg BA (by simp[AP,Op.operands]) IP;generalize a.eval y=v at q1 hb;split at hb
   ·generalize xq.den c.ρ=d at q1;cases q1 with
    |di _=>rfl
   ·cases hb
  unfold PG at he;split at he
  ·split at he
   ·simp at he;subst he;cases hq
   ·simp at he;subst he;cases hq
   ·obtain⟨xq,IP,rfl⟩:=Aq.1 he;cases hq;exact key _ IP
   ·obtain⟨xq,IP,rfl⟩:=Aq.1 he;cases hq;exact key _ IP
   ·cases he
  ·split at he
   ·simp at he;subst he;cases hq
   ·cases he
  ·split at he
   ·simp at he;subst he;cases hq
   ·cases he
  ·split at he
   ·simp at he;subst he;cases hq
   ·cases he
  ·split at he
   ·cases he
   ·split at he
    ·split at he
     ·simp at he;subst he;cases hq
     ·simp at he;subst he;cases hq
     ·cases he
    ·cases he
  ·cases he
 |_=>rw[AP]at hb;simp at hb
end
def GF(ms:List PM)(vs:List Value)(t:Nat):Option Value:=
 if LU t then(match vs[t/1000]?,(ms[t/1000]?).getD .ro with
  |some v, .bx .. =>if t % 1000=0 then some v else none
  |some v, .mu _=>if 500<=t % 1000 then v.cells[t % 1000-500]? else none
  |_,_=>none)
 else none
section
variable {P:Program} {c:Cx} {w:World}
theorem Cs.gk{ts:List TypeId}{fl:List Bool}{us:List Value}{ys:List AV}{rf hs:List Nat}(h:Cs P w ts fl us ys rf hs){nx:Nat}{mk:Nat->E}{j:Nat}:∀(k:Nat) (u:Value),us[k]?=some u->(∃e,(nx+j+k,e)∈(CI P nx mk j ts fl).2)->u.cells= #[u]:=by
 induction h generalizing j with
 |nil=>intro k u hu _;simp at hu
 | @deep t ts fl el e9 z9 l9 u us y ys top rf hs h1 h2 P2 NM h3 _ ih=>
  intro k u' hu he;cases k with
  |zero=>simp at hu;subst hu;obtain⟨p,q,r,rfl⟩:=h3.head;rfl
  |succ k=>
   refine ih (j:=j+1) k u' (by simpa using hu) ?_;obtain⟨e,he⟩:=he;simp only[CI,h1,h2,Ad,AO]at he;rcases he with⟨he,_⟩|he
   ·omega
   ·exact⟨e,by rw[show nx+(j+1)+k=nx+j+(k+1)from by omega];exact he⟩
 | @own t ts fl el u us y ys top N rf hs h1 h2 P3 h3 _ ih=>
  intro k u' hu he;cases k with
  |zero=>simp at hu;subst hu;obtain⟨xs,_,_,_,⟨_,⟨a,rfl⟩,_⟩|⟨g,cap,C,rfl,_⟩⟩:=h3<;>rfl
  |succ k=>
   refine ih (j:=j+1) k u' (by simpa using hu) ?_;obtain⟨e,he⟩:=he;simp only[CI,h1,h2,Ad,AO]at he;rcases he with⟨he,_⟩|he
   ·omega
   ·exact⟨e,by rw[show nx+(j+1)+k=nx+j+(k+1)from by omega];exact he⟩
 | @rd t ts fl u us y ys f rf hs h1 h3 _ ih=>
  intro k u' hu he;obtain⟨e,he⟩:=he;have Wz:(CI P nx mk j (t::ts) fl).2=(CI P nx mk (j+1) ts fl.tail).2:=by
   simp only[CI];split
   ·rename_i h8 h9;rw[h1 h8]at h9;cases h9
   ·rfl
  rw[Wz]at he;cases k with
  |zero=>
   exfalso;have key:∀(ts:List TypeId) (fl:List Bool) (j' t':Nat) (e':Ah),(t',e')∈(CI P nx mk j' ts fl).2->nx+j'<=t':=by
    intro ts
    induction ts with
    |nil=>intro fl j' t' e' h;simp[CI]at h
    |cons a ts ih2=>
     intro fl j' t' e' h;simp only[CI]at h;split at h
     ·simp only[Ad,AO]at h;rcases h with⟨h,_⟩|h
      ·omega
      ·have:=ih2 _ _ _ _ h;omega
     ·have:=ih2 _ _ _ _ h;omega
   have:=key _ _ _ _ _ he;omega
  |succ k=>exact ih (j:=j+1) k u' (by simpa using hu) ⟨e,by rw[show nx+(j+1)+k=nx+j+(k+1)from by omega];exact he⟩
theorem gM{i b:Nat}(hb:b+400<=1000){t:TypeId}{own:List Bool}{s:SV}{l:List (Nat × Ah)}{v:Value}{x:AV}{rf hs:List Nat}(h:PE P i b t own=some (s,l))(hv:Ny P w t own v x rf hs)(hx:(E.var i).den c.ρ=x):
  ∃recs:List AM,l=recs.map AM.pair/\recs.flatMap AM.top=hs/\(∀r∈recs,1000*i+b<=r.tag/\r.tag<1000*i+1000/\r.new.isSome)/\(recs.map AM.tag).Nodup/\(∀r∈recs,r.new=v.cells[r.tag-(1000*i+b)]?)/\
   ∀c',EJ c c' w recs->(∀b∈rf,c'.ok b)->SR c' [s] [v]/\ ∀r∈recs,C3 c' r.tag r.a6:=by
 obtain⟨us,ys,hg,hc⟩:=hv;unfold PE at h;simp only at h;split at h
 ·cases h
 rename_i hle;split at hg
 ·rename_i Az;obtain⟨rfl,rfl,CA⟩:=hg;obtain⟨recs,e1,e2,e3,e4,e4',e5⟩:=Oq (c:=c) (nx:=1000*i+b) (mk:=Dt (.var i) (An P t)) hc 0 (by rw[Az];exact RN hx);rw[if_pos Az]at h;simp only[Af,AO]at h;obtain⟨rfl,rfl⟩:=h;refine⟨recs,e1,e2,λr hr=>by have:=e3 r hr;exact⟨by omega,by omega,this.2.2⟩,e4,λr hr=>by rw[e4' r hr];simp[Value.cells],λc' ha AR=> ?_⟩;obtain⟨q1,q2⟩:=e5 c' ha AR;exact⟨.agg CA (by rw[Bp.ak];exact q1) .nil,q2⟩
 ·rename_i Az;obtain⟨rfl,rfl⟩:=hg;have Gj:An P t=false:=by simpa using Az
  obtain⟨recs,e1,e2,e3,e4,e4',e5⟩:=Oq (c:=c) (nx:=1000*i+b) (mk:=Dt (.var i) (An P t)) hc 0 (by
   intro k z hz;cases k with
   |zero=>simp at hz;subst hz;rw[Gj];simpa[Dt]using hx
   |succ k=>simp at hz)
  rw[if_neg Az]at h;split at h
  ·rename_i s' Bd;simp only[Af,AO]at h;obtain⟨rfl,rfl⟩:=h;refine⟨recs,e1,e2,λr hr=>by have:=e3 r hr;exact⟨by omega,by omega,this.2.2⟩,e4,λr hr=> ?_,λc' ha AR=> ?_⟩
   ·have CL:=e4' r hr;have h3:=e3 r hr;rw[CL,Nat.add_zero];have hlen:=hc.len;have J6:r.tag-(1000*i+b)=0:=by
     have:=hlen.1;simp at this;omega
    rw[J6];have:=hc.gk (nx:=1000*i+b) (mk:=Dt (.var i) (An P t)) (j:=0) 0 v rfl ⟨r.a6,by rw[e1];exact List.mem_map.2 ⟨r,hr,by simp[AM.pair];omega⟩⟩;rw[this];rfl
   ·obtain⟨q1,q2⟩:=e5 c' ha AR;rw[Bd]at q1;exact⟨q1,q2⟩
  ·cases h
theorem iS{ms0:List PM}{vs0:List Value}:∀(ts:List TypeId) (i:Nat) {ms:List PM} {lo:List Bool} {ss:List SV} {l:List (Nat × Ah)} {vs:List Value} {xs:List AV} {rf lf hs:List Nat},Ly P i ts ms lo=some (ss,l)->Dr P w ts ms lo vs xs rf lf hs->(∀k x,xs[k]?=some x->(E.var (i+k)).den c.ρ=x)->(∀k,ms[k]?=ms0[i+k]?)->(∀k,vs[k]?=vs0[i+k]?)->
  ∃recs:List AM,l=recs.map AM.pair/\recs.flatMap AM.top=hs/\(∀r∈recs,1000*i<=r.tag/\r.tag<1000*(i+ts.length)/\r.new.isSome)/\(recs.map AM.tag).Nodup/\(∀r∈recs,∀v,GF ms0 vs0 r.tag=some v->r.new=some v)/\ss.length=ts.length/\ts.length<=vs.length/\
   ∀c',EJ c c' w recs->(∀b∈rf,c'.ok b)->(∀(k:Nat) (v:Value) (x:AV),(ms[k]?).getD .ro= .ro->vs[k]?=some v->xs[k]?=some x->c'.A.lo v x)->SR c' (ss++(List.range (vs.length-ts.length)).map λj=>SV.e (.var (i+ts.length+j))) vs/\ ∀r∈recs,C3 c' r.tag r.a6
 | [],i,ms,lo,ss,l,vs,xs,rf,lf,hs,h,ha,hx,_,_=>by
  simp[Ly]at h;obtain⟨rfl,rfl⟩:=h;have key:∀{ms:List PM} {lo:List Bool} {vs:List Value} {xs:List AV} {rf lf hs:List Nat},Dr P w [] ms lo vs xs rf lf hs->hs=[]/\Rd w vs xs rf:=by
   intro ms lo vs
   induction vs generalizing ms lo with
   |nil=>intro xs rf lf hs h;cases h;exact⟨rfl, .nil⟩
   |cons v vs ih=>
    intro xs rf lf hs h;cases h with
    |free h1 h2=>obtain⟨rfl,h3⟩:=ih h2;exact⟨rfl,h1.app h3⟩
  obtain⟨rfl,Dm⟩:=key ha;refine⟨[],rfl,rfl,by simp,by simp,by simp,rfl,by simp,λc' Fj AR _=>⟨?_,by simp⟩⟩;have frees:∀(vs:List Value) {xs:List AV} {rf:List Nat} (j:Nat),Rd w vs xs rf->(∀k x,xs[k]?=some x->(E.var (i+j+k)).den c.ρ=x)->(∀b∈rf,c'.ok b)->SR c' ((List.range vs.length).map λq=>SV.e (.var (i+j+q))) vs:=by
   intro vs
   induction vs with
   |nil=>intro xs rf j h _ _;simpa using SR.nil
   |cons v vs ih=>
    intro xs rf j h hx AR;cases xs with
    |nil=>have:=h.len;simp at this
    |cons x xs=>
     obtain⟨f1,f2,rfl,h1,h2⟩:=h.bu;have h3:=ih (j+1) h2 (λk y hy=>by rw[show i+(j+1)+k=i+j+(k+1)from by omega];exact hx (k+1) y (by simpa using hy)) λb hb=>AR b (by simp[hb]);rw[Ao,List.range_succ_eq_map,List.map_cons,List.map_map];refine SR.cons (.e (f:=f1) (by rw[Fj.w,Fj.ρ];have:=hx 0 x rfl;simp only[Nat.add_zero]at this ⊢;rw[this];exact h1) (λb hb=>AR b (by simp[hb])) .nil) ?_;have e:((λq=>SV.e (.var (i+j+q)))∘Nat.succ)=λq=>SV.e (.var (i+(j+1)+q)):=by funext q;simp only[Function.comp_apply];rw[show i+j+q.succ=i+(j+1)+q from by omega]
     rw[e];exact h3
  simpa using frees vs 0 Dm (by simpa using hx) AR
 |t::ts,i,ms,lo,ss,l,vs,xs,rf,lf,hs,h,ha,hx,Eg,Jn=>by
  unfold Ly at h;split at h
  ·rename_i s l1 ss' l2 h1 h2;simp only[Af,AO]at h;obtain⟨rfl,rfl⟩:=h;obtain⟨v,vs,x,xs,f,hh,rf,lf,hs,rfl,rfl,rfl,rfl,C5,A6⟩:∃v vs' x xs' f hh rf' lf' Bd,vs=v::vs'/\xs=x::xs'/\rf=f++rf'/\hs=hh++Bd/\Dr P w ts ms.tail lo.tail vs' xs' rf' lf' Bd/\(bZ P w t (ms.headD .ro) v x f hh\/(lo.headD false=true/\ms.headD .ro= .ro/\f=[]/\hh=[])):=by
    cases ha with
    |cons h1 h2=>exact⟨_,_,_,_,_,_,_,_,_,rfl,rfl,rfl,rfl,h2, .inl h1⟩
    |lent h1 h2 h3 h4=>exact⟨_,_,_,_,[],[],_,_,_,rfl,rfl,by simp,by simp,h4, .inr ⟨h1,h2,rfl,rfl⟩⟩
   have Dw:ms.headD .ro=(ms0[i]?).getD .ro:=by have:=Eg 0;rw[Nat.add_zero]at this;rw[<-this];cases ms<;>rfl
   have Kj:vs0[i]?=some v:=by have:=Jn 0;simpa using this.symm
   have E6:(E.var i).den c.ρ=x:=by simpa using hx 0 x rfl
   obtain⟨r2,b1,b2,b3,b4,b4',b6,b7,b5⟩:=iS ts (i+1) h2 C5 (λk y hy=>by rw[show i+1+k=i+(k+1)from by omega];exact hx (k+1) y (by simpa using hy)) (λk=>by rw[show i+1+k=i+(k+1)from by omega,<-Eg (k+1)];cases ms<;>simp) (λk=>by rw[show i+1+k=i+(k+1)from by omega,<-Jn (k+1)];simp);have fin:∀(r1:List AM),l1=r1.map AM.pair->r1.flatMap AM.top=hh->(∀r∈r1,1000*i<=r.tag/\r.tag<1000*i+1000/\r.new.isSome)->(r1.map AM.tag).Nodup->(∀r∈r1,∀v,GF ms0 vs0 r.tag=some v->r.new=some v)->
     (∀c',EJ c c' w r1->(∀b∈f,c'.ok b)->(ms.headD .ro= .ro->c'.A.lo v x)->SR c' [s] [v]/\ ∀r∈r1,C3 c' r.tag r.a6)->
     ∃recs:List AM,l1++l2=recs.map AM.pair/\recs.flatMap AM.top=hh++hs/\(∀r∈recs,1000*i<=r.tag/\r.tag<1000*(i+(t::ts).length)/\r.new.isSome)/\(recs.map AM.tag).Nodup/\(∀r∈recs,∀v,GF ms0 vs0 r.tag=some v->r.new=some v)/\(s::ss').length=(t::ts).length/\(t::ts).length<=(v::vs).length/\
      ∀c',EJ c c' w recs->(∀b∈f++rf,c'.ok b)->(∀(k:Nat) (v':Value) (x':AV),(ms[k]?).getD .ro= .ro->(v::vs)[k]?=some v'->(x::xs)[k]?=some x'->c'.A.lo v' x')->SR c' ((s::ss')++(List.range ((v::vs).length-(t::ts).length)).map λj=>SV.e (.var (i+(t::ts).length+j))) (v::vs)/\ ∀r∈recs,C3 c' r.tag r.a6:=by
    intro r1 a1 a2 a3 a4 a4' a5;refine⟨r1++r2,by simp[a1,b1],by simp[a2,b2],λr hr=> ?_,?_,λr hr=> ?_,by simp[b6],by simp[b7],λc' Fj AR BO=> ?_⟩
    ·simp only[Ao];rcases Ag.1 hr with hr|hr
     ·have:=a3 r hr;exact⟨this.1,by omega,this.2.2⟩
     ·have:=b3 r hr;exact⟨by omega,by omega,this.2.2⟩
    ·rw[List.map_append,List.nodup_append];refine⟨a4,b4,λt1 QT t2 QU he=> ?_⟩;obtain⟨q1,F6,rfl⟩:=List.mem_map.1 QT;obtain⟨q2,FA,rfl⟩:=List.mem_map.1 QU;have:=a3 q1 F6;have:=b3 q2 FA;omega
    ·rcases Ag.1 hr with hr|hr
     ·exact a4' r hr
     ·exact b4' r hr
    ·obtain⟨p1,p2⟩:=a5 c' (Fj.mono λr hr=>by simp[hr]) (λb hb=>AR b (by simp[hb])) λhl=>BO 0 v x (by cases ms<;>exact hl) rfl rfl;obtain⟨q1,q2⟩:=b5 c' (Fj.mono λr hr=>by simp[hr]) (λb hb=>AR b (by simp[hb])) λk v' x' k1 k2 k3=>BO (k+1) v' x' (by cases ms with|nil=>rfl|cons b l=>simpa using k1) (by simpa using k2) (by simpa using k3);refine⟨?_,λr hr=> ?_⟩
     ·have:=p1.cons q1;have e:(λj=>SV.e (.var (i+1+ts.length+j)))=λj=>SV.e (.var (i+(t::ts).length+j)):=by
       funext j;simp only[Ao];rw[show i+1+ts.length+j=i+(ts.length+1)+j from by omega]
      rw[e]at this;simpa using this
     ·rcases Ag.1 hr with hr|hr
      ·exact p2 r hr
      ·exact q2 r hr
   have pinMu:∀{own:List Bool} {r:AM},ms.headD .ro= .mu own->1000*i+500<=r.tag->r.tag<1000*i+1000->r.new=v.cells[r.tag-(1000*i+500)]?-> ∀v',GF ms0 vs0 r.tag=some v'->r.new=some v':=by
    intro own r hm t1 t2 hn v' hp;unfold GF at hp;split at hp
    ·rw[show r.tag/1000=i from by omega,Kj,<-Dw,hm]at hp;simp only at hp;split at hp
     ·rw[hn,show r.tag-(1000*i+500)=r.tag % 1000-500 from by omega];exact hp
     ·cases hp
    ·cases hp
   have pinVa:∀{own:List Bool} {r:AM},ms.headD .ro= .va own->1000*i<=r.tag->r.tag<1000*i+1000-> ∀v',GF ms0 vs0 r.tag=some v'->r.new=some v':=by
    intro own r hm t1 t2 v' hp;unfold GF at hp;split at hp
    ·rw[show r.tag/1000=i from by omega,Kj,<-Dw,hm]at hp;simp at hp
    ·cases hp
   cases hm:ms.headD .ro with
   |ro=>
    rw[hm]at h1 A6;simp only[VN,Af,AO]at h1;obtain⟨rfl,rfl⟩:=h1;have pZ:hh=[]:=by rcases A6 with⟨_,h⟩|⟨_,_,_,h⟩<;>exact h
    subst pZ;by_cases BO:lo.headD false=true
    ·exact fin [] rfl rfl (by simp) (by simp) (by simp) λc' Fj AR hl=>⟨by rw[if_pos BO];exact .lent (by rw[Fj.ρ,E6];exact hl hm) .nil,by simp⟩
    ·rcases A6 with⟨g1,_⟩|⟨h,_⟩
     ·exact fin [] rfl rfl (by simp) (by simp) (by simp) λc' Fj AR _=>⟨by rw[if_neg BO];exact .e (f:=f) (by rw[Fj.w,Fj.ρ,E6];exact g1) AR .nil,by simp⟩
     ·exact absurd h BO
   |va own=>
    rw[hm]at h1 A6
    replace A6:=A6.resolve_right λh=>by cases h.2.1
    obtain⟨r1,a1,a2,a3,a4,a4',a5⟩:=gM (c:=c) (by omega) h1 A6 E6;exact fin r1 a1 a2 (λr hr=>by have:=a3 r hr;exact⟨by omega,this.2⟩) a4 (λr hr=>by have:=a3 r hr;exact pinVa hm (by omega) this.2.1) λc' Fj AR _=>a5 c' Fj AR
   |mu own=>
    rw[hm]at h1 A6
    replace A6:=A6.resolve_right λh=>by cases h.2.1
    obtain⟨r1,a1,a2,a3,a4,a4',a5⟩:=gM (c:=c) (by omega) h1 A6 E6;exact fin r1 a1 a2 (λr hr=>by have:=a3 r hr;exact⟨by omega,this.2⟩) a4 (λr hr=>by have:=a3 r hr;exact pinMu hm this.1 this.2.1 (a4' r hr)) λc' Fj AR _=>a5 c' Fj AR
   |bx own own'=>
    rw[hm]at h1 A6
    replace A6:=A6.resolve_right λh=>by cases h.2.1
    obtain⟨ty,b,C,ys,h9,g1,rfl,g3,g4,rfl,g6,rfl⟩:=A6;simp only[VN,g1]at h1;split at h1
    ·cases h1
    rename_i hle;simp only[Af,AO]at h1;obtain⟨rfl,rfl⟩:=h1;obtain⟨recs,e1,e2,e3,e4,e4',e5⟩:=Oq (c:=c) (nx:=1000*i+1) (mk:=Dt (.deref (.var i)) true) g6 0 (RN (by simp only[E.den]at E6 ⊢;rw[E6];rfl));refine fin (⟨1000*i,some (.pointer (some ⟨b,0,none⟩)),[b], .box ty (An P ty) (CI P (1000*i+1) (Dt (.deref (.var i)) true) 0 (A5 P ty) own).1⟩::recs) (by simp[e1,AM.pair]) (by simp[e2]) (λr hr=> ?_) ?_ (λr hr v' hp=> ?_) λc' Fj AR _=> ?_
    ·rcases Ad.1 hr with rfl|hr
     ·simp
     ·have:=e3 r hr;exact⟨by omega,by omega,this.2.2⟩
    ·simp only[List.map_cons,List.nodup_cons];refine⟨λhm=> ?_,e4⟩;obtain⟨r,hr,GZ⟩:=List.mem_map.1 hm;have:=e3 r hr;omega
    ·rcases Ad.1 hr with rfl|hr
     ·unfold GF at hp;simp only at hp;split at hp
      ·rw[show 1000*i/1000=i from by omega,Kj,<-Dw,hm]at hp;simp at hp;simpa using hp
      ·cases hp
     ·have h3:=e3 r hr;unfold GF at hp;split at hp
      ·rw[show r.tag/1000=i from by omega,Kj,<-Dw,hm]at hp;simp only at hp;split at hp
       ·omega
       ·cases hp
      ·cases hp
    ·obtain⟨q1,q2⟩:=e5 c' (Fj.mono λr hr=>by simp[hr]) AR;obtain⟨k1,k2,k3⟩:=Fj.new _ (List.mem_cons_self ..) _ rfl;have kg:=Fj.G _ (List.mem_cons_self ..);simp only at k1 k3 kg;refine⟨.ca k1 k3 .nil,λr hr=> ?_⟩;rcases Ad.1 hr with rfl|hr
     ·exact⟨b,C,k1,k3,by rw[kg],by rw[kg],by rw[Fj.w];exact g3,g4,q1⟩
     ·exact q2 r hr
  ·cases h
end
section
variable {P:Program} {c:Cx} {n:Nat} {a:Act} {τ:St}
theorem dU(h:Rel c n (Bv τ) (AD τ.hp) a):EH c (AD τ.hp):=λt e hr=>h.ents t e hr
theorem jY{hp:Nat->Option Ah}{t:Nat}{e:Ah}(h:hp t=some e)(hn:∀hs f,e≠ .gd hs f):CR hp [] t=some e:=by
 simp only[CR,h,Aa,JI]
 all_goals (cases e<;>first|rfl|exact absurd rfl (hn _ _))
theorem gG(h:Rel c n (Bv τ) (AD τ.hp) a){u g:Nat}{e z:Nat}{x:E}{d:Bool}(hu:AD τ.hp u=some (.row e z g x d)):c.K u g/\ ∃N,CQ c.w e z (c.H u g) (x.den c.ρ) (c.G u).top N/\(∀b∈N,c.ok b)/\(d=true->N=[]):=by obtain⟨p1,p2,N,p3,p4,p5,_⟩:=h.ents u _ (by rw[hu];rfl);exact⟨p1,N,p3,p4,λhd=>(p5 hd).1⟩
theorem kO{t e:TypeId}{d:Bool}{N:List Nat}(hd:d=true->N=[])(h:B1 P e=true/\d=true\/B1 P e=false/\(DF P t).isNone=true):B1 P e=true/\N=[]\/B1 P e=false/\DF P t=none:=by
 rcases h with⟨h1,h2⟩|⟨h1,h2⟩
 ·exact .inl ⟨h1,hd h2⟩
 ·exact .inr ⟨h1,by simpa using h2⟩
theorem UM(h:Rel c n (Bv τ) (AD τ.hp) a):∀(ts:List TypeId) {fl:List Bool} {cs:List SV} {l:List Nat} {us:List Value} {xs:EL} {m:Nat},KM P τ ts fl cs=some l->SR c cs us->Cm (AD τ.hp) [] m cs=some xs->m<=AW->
  ∃f,Cs P c.w ts fl us (xs.den c.ρ) f (l.flatMap λt=>(c.G t).top)/\ ∀b∈f,c.dq (Jf P τ ts fl cs) b
 | [],fl,[],l,us,xs,m,ho,hs,hx,hm=>by
  simp[KM]at ho;subst ho;cases hs;cases m with
  |zero=>simp[Cm]at hx
  |succ m=>simp[Cm]at hx;subst hx;exact⟨[], .nil,by simp⟩
 | [],fl,s::cs,l,us,xs,m,ho,hs,hx,hm=>by simp[KM]at ho
 |t::ts,fl,[],l,us,xs,m,ho,hs,hx,hm=>by simp[KM]at ho
 |t::ts,fl,s::cs,l,[],xs,m,ho,hs,hx,hm=>by have:=hs.len;simp at this
 |t::ts,fl,s::cs,l,v::us,xs,m,ho,hs,hx,hm=>by
  obtain⟨j,y,ys,rfl,hy,CX,rfl⟩:=Jw hx;obtain⟨r1,r2⟩:=hs.bu;unfold KM at ho;split at ho
  ·cases ho
  rename_i l' CW;obtain⟨f,q1,q2⟩:=UM h ts CW r2 CX (by omega);split at ho
  ·rename_i e hf Ba;have FK:Jf P τ (t::ts) fl (s::cs)=Jf P τ ts fl.tail cs:=by
    simp only[Jf,hf,Ba,Option.isSome_some,Bool.and_self,if_true,List.nil_append]
   split at ho
   ·cases ho
   rename_i hz;split at ho
   ·simp only[Af]at ho;subst ho;cases r1 with
    |bq _=>refine⟨f,?_,by rw[FK];exact q2⟩;rw[EL.den,Kw hy];exact Cs.void hf Ba (by omega) q1
   ·rename_i u g;split at ho
    ·rename_i e' z g' x d hu;split at ho
     ·rename_i hh;obtain⟨rfl,rfl,rfl,Gn⟩:=hh;simp only[Af]at ho;subst ho;obtain⟨p1,N,p2,p3,p4⟩:=gG h hu;have Gn:=kO p4 Gn;have hl:=jY hu (by simp);have HC:y=x:=by
       cases j with
       |zero=>simp[Bj]at hy
       |succ j=>simp[Bj,HE,hl]at hy;exact hy.symm
      subst HC;have hv:c.H u g=v:=by
       cases r1 with
       |own _ k2 _=>exact k2
      rw[hv]at p2;refine⟨N++f,Cs.own hf Ba Gn p2 q1,λb hb=> ?_⟩;rw[FK];rcases Ag.1 hb with hb|hb
      ·exact .inl (p3 b hb)
      ·exact q2 b hb
     ·cases ho
    ·rename_i e' z dl g' ep x hu;split at ho
     ·rename_i hh;obtain⟨rfl,FP,Dk⟩:=hh;have Dk:=U5 Dk;simp only[Af]at ho;subst ho;obtain⟨p1,_,_,p2,_⟩:=h.ents u _ (by rw[hu];rfl);have hl:=jY hu (by simp);have HC:y=x:=by
       cases j with
       |zero=>simp[Bj]at hy
       |succ j=>simp[Bj,HE,hl]at hy;exact hy.symm
      subst HC;have hv:c.H u g=v:=by
       cases r1 with
       |own _ k2 _=>exact k2
      rw[hv]at p2;exact⟨f,Cs.deep hf Ba FP Dk p2 q1,by rw[FK];exact q2⟩
     ·cases ho
    ·cases ho
   ·cases ho
  ·rename_i DL;simp only[Af]at ho;subst ho;have hn:fl.headD false=true->Da P t=none:=λhf=>by
    cases Ba:Da P t with
    |none=>rfl
    |some e=>exact absurd Ba (DL e hf)
   obtain⟨f1,p1,p2⟩:=Hd (dU h) (Et _) j hy r1 AW (by omega);refine⟨f1++f,Cs.rd hn p1 q1,λb hb=> ?_⟩;have FK:Jf P τ (t::ts) fl (s::cs)=BN (AD τ.hp) [] (AW+1) [s]++Jf P τ ts fl.tail cs:=by
    have:(fl.headD false&&(Da P t).isSome)=false:=by
     cases hf:fl.headD false with
     |false=>rfl
     |true=>rw[hn hf];rfl
    simp only[Jf,this,BX,if_false]
   rw[FK];rcases Ag.1 hb with hb|hb
   ·exact(p2 b hb).mono λt ht=>by simp[ht]
   ·exact(q2 b hb).mono λt ht=>by simp[ht]
theorem yQ(h:Rel c n (Bv τ) (AD τ.hp) a){t:TypeId}{fl:List Bool}{s:SV}{l:List Nat}{v:Value}{x:E}{m:Nat}(ho:aU P τ t fl s=some l)(hs:SR c [s] [v])(hx:Bj (AD τ.hp) [] m s=some x)(hm:m<AW):
  ∃f,F0 P c.w t fl v (x.den c.ρ) f (l.flatMap λt=>(c.G t).top)/\ ∀b∈f,c.dq (bR P τ t fl s) b:=by
 unfold aU at ho;unfold F0 bR;split at ho
 ·rename_i hf;simp only[hf,if_true];split at ho
  ·rename_i Az;split at ho
   ·rename_i cs;obtain⟨k,lx,rfl,hl,rfl⟩:=RW hx;cases hs with
    |agg h9 h1 h8=>rename_i as_;obtain⟨f,q1,q2⟩:=UM (P:=P) h (A5 P t) ho h1 hl (by omega);exact⟨f,⟨as_,lx.den c.ρ,by rw[if_pos Az];exact⟨rfl,rfl,h9⟩,q1⟩,by rw[if_pos Az];exact q2⟩
   ·cases ho
  ·rename_i Az;have J7:Cm (AD τ.hp) [] (m+1) [s]=some (.cons x .nil):=by
    cases m with
    |zero=>simp[Bj]at hx
    |succ m=>simp only[Cm,hx]
   obtain⟨f,q1,q2⟩:=UM (P:=P) h (A5 P t) ho hs J7 (by omega);exact⟨f,⟨[v],[x.den c.ρ],by rw[if_neg Az];exact⟨rfl,rfl⟩,q1⟩,by rw[if_neg Az];exact q2⟩
 ·rename_i hf;simp only[hf,if_false,BX];simp only[Af]at ho;subst ho;obtain⟨f,p1,p2⟩:=Hd (dU h) (Et _) m hx hs AW (by omega);exact⟨f,⟨p1,rfl⟩,p2⟩
theorem fV(h:Rel c n (Bv τ) (AD τ.hp) a):∀(ts:List TypeId) {fl:List Bool} {ss:List SV} {l:List Nat} {vs:List Value} {xs:EL} {m:Nat},Nn P τ ts fl ss=some l->SR c ss vs->Cm (AD τ.hp) [] m ss=some xs->m<=AW->
  ∃f,KR P c.w ts fl vs (xs.den c.ρ) f (l.flatMap λt=>(c.G t).top)/\ ∀b∈f,c.dq (Sm P τ ts fl ss) b
 | [],fl,[],l,vs,xs,m,ho,hs,hx,hm=>by
  simp[Nn]at ho;subst ho;cases hs;cases m with
  |zero=>simp[Cm]at hx
  |succ m=>simp[Cm]at hx;subst hx;exact⟨[], .nil,by simp⟩
 | [],fl,s::cs,l,us,xs,m,ho,hs,hx,hm=>by simp[Nn]at ho
 |t::ts,fl,[],l,us,xs,m,ho,hs,hx,hm=>by simp[Nn]at ho
 |t::ts,fl,s::cs,l,[],xs,m,ho,hs,hx,hm=>by have:=hs.len;simp at this
 |t::ts,fl,s::cs,l,v::us,xs,m,ho,hs,hx,hm=>by
  obtain⟨j,y,ys,rfl,hy,CX,rfl⟩:=Jw hx;obtain⟨r1,r2⟩:=hs.bu;unfold Nn at ho;split at ho
  ·rename_i a1 b1 h1 h2;simp only[Af]at ho;subst ho;obtain⟨f1,p1,p2⟩:=yQ (P:=P) h h1 r1 hy (by omega);obtain⟨f2,q1,q2⟩:=fV h ts h2 r2 CX (by omega);refine⟨f1++f2,by rw[List.flatMap_append];exact .cons p1 q1,λb hb=> ?_⟩;simp only[Sm];rcases Ag.1 hb with hb|hb
   ·exact(p2 b hb).mono λt ht=>by simp[ht]
   ·exact(q2 b hb).mono λt ht=>by simp[ht]
  ·cases ho
end
section
variable {P:Program} {c:Cx} {n:Nat} {a:Act} {τ:St}
theorem zwg(h:Rel c n (Bv τ) (AD τ.hp) a){t:TypeId}{b o:Nat}{ty:TypeId}{g:Bool}{cs:List SV}{s:SV}{v:Value}(Bb:C2 P t=true)(hl:AD τ.hp b=some (.box ty g cs))(AY:Nx P t cs o=some s)(hr:SR c [.ca b o] [v]):
  ∃q u,v= .pointer (some ⟨q,o,none⟩)/\(loadVar t ⟨q,o,none⟩).run P c.w= .ok u c.w/\SR c [s] [u]:=by
 cases hr with
 |ca h1 h2 h8=>
  rename_i q;obtain⟨q',C,_,e2,e3,e4,e5,e5',e6⟩:=h.ents b _ (by rw[hl];rfl);rw[h2]at e2;cases e2;have key:∀vs:List Value,(An P t=true->vs.length=P.cellsOf t)->(An P t=false->vs.length=1)->(∀j u,vs[j]?=some u->c.w.cell? ⟨q,o+j,none⟩=some u)->(loadVar t ⟨q,o,none⟩).run P c.w= .ok (if An P t then .agg vs.toArray else vs.headD undef) c.w:=λvs k1 k2 k3=>by have:=OS (P:=P) (w:=c.w) (b:=q) (off:=o) Bb vs k1 k2 k3;simpa[Instr.loadAt,Instr.sureAddr]using this
  unfold Nx at AY;have hlen:=e6.len;split at AY
  ·rename_i Az;split at AY
   ·rename_i hle;simp at AY;subst AY;obtain⟨r1,r2⟩:=e6.split o;obtain⟨r3,r4⟩:=r2.split (P.cellsOf t);have:=SR.agg (cs:=Bp.of ((cs.drop o).take (P.cellsOf t))) (λu hu=>e5' u (Cd (BM hu))) (by rw[Bp.ak];exact r3) .nil;refine⟨q, .agg ((C.toList.drop o).take (P.cellsOf t)).toArray,rfl,?_,this⟩;rw[key ((C.toList.drop o).take (P.cellsOf t)) (λ_=>by simp at hlen ⊢;omega) (λh=>by rw[Az]at h;cases h) (λj u hu=>by
     rw[D5 e5];rw[List.getElem?_take]at hu;split at hu
     ·simpa using hu
     ·cases hu)]
    simp[Az]
   ·cases AY
  ·rename_i Az;have Az:An P t=false:=by simpa using Az
   obtain⟨u,hu,r⟩:=e6.get AY;refine⟨q,u,rfl,?_,r⟩;rw[key [u] (λh=>by rw[Az]at h;cases h) (λ_=>rfl) (λj z hz=>by
    cases j with
    |zero=>simp at hz;subst hz;rw[D5 e5];simpa using hu
    |succ j=>simp at hz)]
   simp[Az]
theorem eX{α:Type}{g:α->Sem Value}{w:World}:∀(l:List α) (us:List Value),l.length=us.length->(∀(i:Nat) (x:α) (u:Value),l[i]?=some x->us[i]?=some u->(g x).run P w= .ok u w)->(l.mapM g).run P w= .ok us w
 | [],[],_,_=>by simp
 | [],_::_,h,_=>by simp at h
 |_::_,[],h,_=>by simp at h
 |x::l,u::us,h,hg=>by have h0:=hg 0 x u rfl rfl;have ih:=eX l us (by simpa using h) λi y z hy hz=>hg (i+1) y z (by simpa using hy) (by simpa using hz);simp[List.mapM_cons,h0,ih]
theorem yM(h:Rel c n (Bv τ) (AD τ.hp) a)(fn:Func){rs:List SV}(EA:fn.results.toList.mapM (Pf P τ)=some rs):
  ∃us,SR c rs us/\rs.length=us.length/\(results fn a.tmps).run P c.w= .ok (match us with| [u]=>u|us=> .tuple us.toArray) c.w:=by
 have one:∀(r:ResultVar) (s:SV),Pf P τ r=some s-> ∃u,SR c [s] [u]/\(match r with| .tmp t=>(pure (a.tmps.getD t undef):Sem Value)| .cell b t=>do loadVar t (<-asAddr (a.tmps.getD b undef))).run P c.w= .ok u c.w:=by
  intro r s hr;cases r with
  |tmp t=>simp only[Pf,Af]at hr;subst hr;exact⟨_,h.cv t,by simp⟩
  |cell b ty=>
   simp only[Pf]at hr;split at hr
   ·rename_i b' o CS;split at hr
    ·rename_i ty' g cs hl;split at hr
     ·rename_i Bb;have hs:=h.cv b;rw[CS]at hs;obtain⟨q,u,hv,AH,Ke⟩:=zwg h Bb hl hr hs;exact⟨u,Ke,by simp only[hv];simp[asAddr,AH]⟩
     ·cases hr
    ·cases hr
   ·cases hr
 have list:∀(l:List ResultVar) (rs:List SV),l.mapM (Pf P τ)=some rs-> ∃us,SR c rs us/\l.length=us.length/\ ∀(i:Nat) (x:ResultVar) (u:Value),l[i]?=some x->us[i]?=some u->(match x with| .tmp t=>(pure (a.tmps.getD t undef):Sem Value)| .cell b t=>do loadVar t (<-asAddr (a.tmps.getD b undef))).run P c.w= .ok u c.w:=by
  intro l
  induction l with
  |nil=>intro rs EA;simp at EA;subst EA;exact⟨[], .nil,rfl,by simp⟩
  |cons r l ih=>
   intro rs EA;rw[List.mapM_cons]at EA;simp only[Option.bind_eq_bind,As,Option.pure_def,Af]at EA;obtain⟨s,hs,rs',Xm,rfl⟩:=EA;obtain⟨u,h1,h2⟩:=one r s hs;obtain⟨us,h3,h4,h5⟩:=ih rs' Xm;refine⟨u::us,h1.cons h3,by simp[h4],λi x v hx hv=> ?_⟩;cases i with
   |zero=>simp at hx hv;subst hx;subst hv;exact h2
   |succ i=>exact h5 i x v (by simpa using hx) (by simpa using hv)
 obtain⟨us,h1,h2,h3⟩:=list _ _ EA;refine⟨us,h1,h1.len,?_⟩;have hm:=eX (P:=P) (w:=c.w) fn.results.toList us h2 h3;simp only[results,Array.mapM_eq_mapM_toList,map_eq_pure_bind,Sem.run_bind]
 erw [hm]
 simp only[Result.andThen_ok,Sem.run_pure]
 match us with
 | []=>simp
 | [u]=>simp
 |u::v::us=>simp
theorem Zb(h:Rel c n (Bv τ) (AD τ.hp) a){w0:World}{v:Value}{ms:List PM}{vs:List Value}(Ek:∀t,c.A.pin t=GF ms vs t){i:Nat}(hi:i<=99){own0:List Bool}(hv:vs[i]?=some v)(hm:(ms[i]?).getD .ro= .mu own0){mk:Nat->E}:∀(ts:List TypeId) (j:Nat) {fl:List Bool} {us:List Value} {ys:List AV} {rf hs:List Nat} {es:List E} {l:List Nat},
  Cs P w0 ts fl us ys rf hs->j+ts.length<=400->(∀k u,us[k]?=some u->(∃e,(0+j+k,e)∈(CI P 0 (Dt (.var 0) true) j ts fl).2)->v.cells[j+k]?=some u)->SB P τ i mk j ts fl=some (es,l)-> ∃f o,EW P c.w ts fl us (es.map (E.den c.ρ)) f o/\(o=l.flatMap λt=>(c.G t).top)/\ ∀b∈f,c.ok b
 | [],j,fl,us,ys,rf,hs,es,l,hc,hle,B2,he=>by simp[SB]at he;obtain⟨rfl,rfl⟩:=he;cases hc;exact⟨[],[], .nil,rfl,by simp⟩
 |t::ts,j,fl,us,ys,rf,hs,es,l,hc,hle,B2,he=>by
  unfold SB at he;split at he
  ·cases he
  rename_i xs us' CW;simp only[Ao]at hle;have sub:∀{u:Value} {us1:List Value},us=u::us1-> ∀k z,us1[k]?=some z->(∃e,(0+(j+1)+k,e)∈(CI P 0 (Dt (.var 0) true) (j+1) ts fl.tail).2)->v.cells[j+1+k]?=some z:=by
   rintro u us1 rfl k z hz ⟨e,he⟩;have:=B2 (k+1) z (by simpa using hz) ⟨e,by
    simp only[CI];split
    ·rw[show 0+j+(k+1)=0+(j+1)+k from by omega];exact List.mem_cons_of_mem _ he
    ·rw[show 0+j+(k+1)=0+(j+1)+k from by omega];exact he⟩
   rw[show j+1+k=j+(k+1)from by omega];exact this
  have fin:∀{u:Value} {us1:List Value} {ys1:List AV} {rf1 BA:List Nat} {el:TypeId},us=u::us1->fl.headD false=true->Da P t=some el->Cs P w0 ts fl.tail us1 ys1 rf1 BA-> ∃f o,EW P c.w (t::ts) fl us (es.map (E.den c.ρ)) f o/\(o=l.flatMap λt=>(c.G t).top)/\ ∀b∈f,c.ok b:=by
   rintro u us1 ys1 rf1 BA el rfl h1 h2 h4;obtain⟨f0,o,q1,q2,q3⟩:=Zb h Ek hi hv hm ts (j+1) h4 (by omega) (sub rfl) CW;rw[h1,h2]at he;simp only at he;have Ws:v.cells[j]?=some u:=by have:=B2 0 u rfl ⟨_,by simp only[CI,h1,h2,Nat.zero_add,Nat.add_zero];exact List.mem_cons_self ..⟩;simpa using this
   have Te:c.A.pin (1000*i+500+j)=some u:=by
    rw[Ek];unfold GF;have e1:(1000*i+500+j)/1000=i:=by omega
    have e2:(1000*i+500+j) % 1000=500+j:=by omega
    rw[if_pos (by unfold LU;simp only[e2,Ae,AN,Bool.or_eq_true];omega),e1,e2,hv,hm];simp only;rw[if_pos (by omega),show 500+j-500=j from by omega];exact Ws
   split at he
   ·rename_i e' z y' d hu;split at he
    ·rename_i hh;obtain⟨rfl,rfl,Gn⟩:=hh;simp only[Af,AO]at he;obtain⟨rfl,rfl⟩:=he;obtain⟨p1,N,p2,p3,p4⟩:=gG h hu;have hH:=(h.base.pins _ u Te).2 p1;rw[hH]at p2;refine⟨_,_, .own h1 h2 (kO p4 Gn) p2 q1,by simp[q2],λb hb=> ?_⟩;rcases Ag.1 hb with hb|hb
     ·exact p3 b hb
     ·exact q3 b hb
    ·cases he
   ·rename_i e' z dl ep y' hu;split at he
    ·rename_i hh;obtain⟨FP,Dk⟩:=hh;have Dk:=U5 Dk;simp only[Af,AO]at he;obtain⟨rfl,rfl⟩:=he;obtain⟨p1,_,_,p2,_⟩:=h.ents _ _ (by rw[hu];rfl);have hH:=(h.base.pins _ u Te).2 p1;rw[hH]at p2;refine⟨_,_, .deep h1 h2 FP Dk p2 q1,by simp[q2],q3⟩
    ·cases he
   ·cases he
  cases hc with
  |own h1 h2 _ _ h4=>exact fin rfl h1 h2 h4
  |deep h1 h2 _ _ _ h4=>exact fin rfl h1 h2 h4
  | @rd _ _ _ u us1 y ys1 f rf1 BA h1 h3 h4=>
   obtain⟨f0,o,q1,q2,q3⟩:=Zb h Ek hi hv hm ts (j+1) h4 (by omega) (sub rfl) CW;split at he
   ·rename_i e hf Ba;rw[h1 hf]at Ba;cases Ba
   ·simp only[Af,AO]at he;obtain⟨rfl,rfl⟩:=he;exact⟨f0,o, .skip h1 q1,q2,q3⟩
end
section
variable {P:Program} {c:Cx} {n:Nat} {a:Act} {τ:St}
theorem fO(h:Rel c n (Bv τ) (AD τ.hp) a){w0:World}{ms0:List PM}{vs0:List Value}(Ek:∀t,c.A.pin t=GF ms0 vs0 t):∀(ts:List TypeId) (i:Nat) {ms:List PM} {lo:List Bool} {vs:List Value} {xs:List AV} {rf lf hs:List Nat} {bx:List E} {us:List Nat},Se P τ i ts ms=some (bx,us)->Dr P w0 ts ms lo vs xs rf lf hs->
  (∀k,ms[k]?=ms0[i+k]?)->(∀k,vs[k]?=vs0[i+k]?)-> ∃f o,DA P c.w ts ms vs (bx.map (E.den c.ρ)) f o/\o=us.flatMap (λt=>(c.G t).top)/\ ∀b∈f,c.dq (Nz P τ i ts ms) b
 | [],i,ms,lo,vs,xs,rf,lf,hs,bx,us,he,ha,_,_=>by simp[Se]at he;obtain⟨rfl,rfl⟩:=he;exact⟨[],[], .nil,rfl,by simp⟩
 |t::ts,i,ms,lo,vs,xs,rf,lf,hs,bx,us,he,ha,Eg,Jn=>by
  obtain⟨v,vs,x,xs,f,hh,rf,lf,hs,rfl,C5,A6⟩:∃v vs' x xs' f hh rf' lf' Bd,vs=v::vs'/\Dr P w0 ts ms.tail lo.tail vs' xs' rf' lf' Bd/\(bZ P w0 t (ms.headD .ro) v x f hh\/ms.headD .ro= .ro):=by
   cases ha with
   |cons h1 h2=>exact⟨_,_,_,_,_,_,_,_,_,rfl,h2, .inl h1⟩
   | @lent _ _ _ _ _ _ x _ _ _ _ _ h1 h2 h3 h4=>exact⟨_,_,x,_,[],[],_,_,_,rfl,h4, .inr h2⟩
  have Dw:ms.headD .ro=(ms0[i]?).getD .ro:=by have:=Eg 0;rw[Nat.add_zero]at this;rw[<-this];cases ms<;>rfl
  have Kj:vs0[i]?=some v:=by have:=Jn 0;simpa using this.symm
  unfold Se at he;split at he
  ·cases he
  rename_i bx' us' CW;obtain⟨f2,o2,b1,b2,b3⟩:=fO h Ek ts (i+1) CW C5 (λk=>by rw[show i+1+k=i+(k+1)from by omega,<-Eg (k+1)];cases ms<;>simp) (λk=>by rw[show i+1+k=i+(k+1)from by omega,<-Jn (k+1)];simp);have see2:∀b∈f2,c.dq (Nz P τ i (t::ts) ms) b:=λb hb=>(b3 b hb).mono λt ht=>by simp only[Nz,Ag];exact .inr ht
  split at he
  ·cases he
  rename_i hi;split at he
  ·rename_i hm;simp only[Af,AO]at he;obtain⟨rfl,rfl⟩:=he;exact⟨f2,o2, .ro hm b1,b2,see2⟩
  ·rename_i own hm;simp only[Af,AO]at he;obtain⟨rfl,rfl⟩:=he;exact⟨f2,o2, .va hm b1,b2,see2⟩
  ·rename_i own hm;split at he
   ·cases he
   rename_i hle;split at he
   ·rename_i es l FM;simp only[Af,AO]at he;obtain⟨rfl,rfl⟩:=he;rw[hm]at A6;obtain⟨us0,ys0,hg,hc⟩:=A6.resolve_right λh=>by cases h
    obtain⟨f1,o1,q1,q2,q3⟩:=Zb h Ek (i:=i) (by omega) Kj (by rw[<-Dw];exact hm) (A5 P t) 0 hc (by omega) (λk u hu he=>by
     rw[Nat.zero_add];split at hg
     ·obtain⟨rfl,_,_⟩:=hg;simpa[Value.cells]using hu
     ·obtain⟨rfl,_⟩:=hg;cases k with
      |zero=>simp at hu;subst hu;rw[hc.gk (nx:=0) (mk:=Dt (.var 0) true) (j:=0) 0 v rfl he];rfl
      |succ k=>simp at hu) FM
    refine⟨f1++f2,o1++o2,DA.mu (us:=us0) (ys:=es.map (E.den c.ρ)) hm ?_ q1 b1,by rw[q2,b2,List.flatMap_append],λb hb=>(Ag.1 hb).elim (λhb=> .inl (q3 b hb)) (see2 b)⟩;split at hg
    ·rename_i Az;rw[if_pos Az,if_pos Az];exact⟨hg.1,by simp only[E.den,EL.c8]⟩
    ·rename_i Az;rw[if_neg Az,if_neg Az];obtain⟨rfl,_⟩:=hg;refine⟨rfl,?_⟩;have mlen:∀{ts:List TypeId} {fl:List Bool} {us:List Value} {ys:List AV} {f o:List Nat},EW P c.w ts fl us ys f o->us.length=ys.length:=by
      intro ts fl us ys f o QC
      induction QC<;>simp_all
     have:=mlen q1
     match es,this with
     | [e],_=>rfl
   ·cases he
  ·rename_i own own' hm;rw[hm]at A6;obtain⟨ty,b,C0,ys0,h9,g1,rfl,g3,g4,rfl,g6,rfl⟩:=A6.resolve_right λh=>by cases h
   split at he
   ·rename_i ty1 ty2 g cs Dx Hp;rw[g1]at Dx;cases Dx;split at he
    ·cases he
    rename_i BI;have BI:ty2=ty:=by simpa using BI
    subst BI;split at he
    ·rename_i es vs' Hs XB;simp only[Af,AO]at he;obtain⟨rfl,rfl⟩:=he;obtain⟨b',C,p1,p2,p3,p4,p5,p6,p7⟩:=h.ents _ _ (by rw[Hp];rfl);have Te:c.A.pin (1000*i)=some (.pointer (some ⟨b,0,none⟩)):=by
      rw[Ek];unfold GF;have e1:(1000*i)/1000=i:=by omega
      have e2:(1000*i) % 1000=0:=by omega
      rw[if_pos (by unfold LU;simp only[e2,Ae,AN,Bool.or_eq_true];simp;omega),e1,e2,Kj,<-Dw,hm];rfl
     have hH:=(h.base.pins _ _ Te).2 p1;rw[p2]at hH;cases hH;obtain⟨f1,q1,q2⟩:=UM (P:=P) h (A5 P ty2) XB p7 Hs (Ay _);refine⟨f1++f2,_,DA.bx hm g1 rfl p5 p6 (by simp only[E.den]) q1 b1,by rw[b2];simp[p3],λx hx=> ?_⟩;rcases Ag.1 hx with hx|hx
     ·refine(q2 x hx).mono λt ht=> ?_;simp only[Nz,hm,g1,Hp,Ag];exact .inl ht
     ·exact see2 x hx
    ·cases he
   ·cases he
end
theorem Y2{P:Program}:∀(ts:List TypeId) (i:Nat) (ms:List PM) (lo:List Bool) (ss:List SV) (l:List (Nat × Ah)),Ly P i ts ms lo=some (ss,l)-> ∀t x,(t,x)∈l-> ∀gs f,x≠ .gd gs f
 | [],i,ms,lo,ss,l,h,t,x,hx=>by simp[Ly]at h;obtain⟨_,rfl⟩:=h;simp at hx
 |t0::ts,i,ms,lo,ss,l,h,t,x,hx=>by
  unfold Ly at h;split at h
  ·rename_i s1 l1 ss1 l2 q1 q2;simp only[Af,AO]at h;obtain⟨_,rfl⟩:=h;rcases Ag.1 hx with hx|hx
   ·have hV:∀(b:Nat) (own:List Bool),PE P i b t0 own=some (s1,l1)-> ∀gs f,x≠ .gd gs f:=by
     intro b own hh;unfold PE at hh;simp only at hh;split at hh
     ·cases hh
     ·split at hh
      ·simp only[Af,AO]at hh;obtain⟨_,rfl⟩:=hh;intro gs f;exact M1 _ _ _ _ _ hx
      ·split at hh
       ·simp only[Af,AO]at hh;obtain⟨_,rfl⟩:=hh;intro gs f;exact M1 _ _ _ _ _ hx
       ·cases hh
    unfold VN at q1;split at q1
    ·simp only[Af,AO]at q1;rw[<-q1.2]at hx;simp at hx
    ·exact hV _ _ q1
    ·exact hV _ _ q1
    ·split at q1
     ·simp only at q1;split at q1
      ·cases q1
      ·simp only[Af,AO]at q1;obtain⟨_,rfl⟩:=q1;rcases Ad.1 hx with hx|hx
       ·cases hx;simp
       ·intro gs f;exact M1 _ _ _ _ _ hx
     ·cases q1
   ·exact Y2 _ _ _ _ _ _ q2 t x hx
  ·cases h
theorem zwi{P:Program}{sg:BR}(W7:P.follows .mixedOrders=true)(IJ:∀f s,sg f=some s->f<1000000){f:Nat}{s:FF}{fn:Func}{t:Tr}{xs:List AV}{r:AV}(FJ:P.funcs[f]?=some fn)(hs:sg f=some s) (Ei:(fn.name== "runtime.NumGoroutine")=false)
  (Eb:SL P sg f=some t) (Bq:Nl P fn s r=true) (hlen:xs.length=fn.params.size+fn.nfree) (hd:t.den (Cw P sg) (λr'=>r'=r) (λ_ _ _ _=>False) [] xs):PY P s f xs r:=by
 unfold SL at Eb;simp only[FJ,hs]at Eb;split at Eb
 ·rename_i code σ DO Bk;split at Eb
  ·rename_i t0 hex;have EN:s.ft.length<=fn.nfree:=by
    have Bk:=Bk;unfold aB at Bk;split at Bk
    ·cases Bk
    ·simp only at Bk;split at Bk
     ·cases Bk
     ·rename_i Av;simp only[Bool.or_eq_true,AN,not_or,Nat.not_lt]at Av;exact Av.2
   refine⟨fn,FJ,by rw[DO];rfl,Ei,Bq,hlen,EN,λw vs rf lf Bd Au FI Iq Gu Ez=> ?_⟩;unfold aB at Bk;split at Bk
   ·cases Bk
   rename_i ss l Dj;simp only at Bk;split at Bk
   ·cases Bk
   rename_i Av;simp only[Bool.or_eq_true,AN,not_or,Nat.not_lt]at Av;simp only[Af]at Bk;subst Bk;let pin:Nat->Option Value:=GF s.cf vs;let LO:Value->AV->Prop:=λv y=> ∃f,Rd w [v] [y] f/\ ∀b∈f,¬b∈Bd;let c0:Cx:={ρ:=xs,w:=w,G:=λ_=>⟨[],[]⟩,K:=λ_ _=>False,H:=λ_ _=>undef,A:=⟨λb=>b∈rf,pin,LO⟩,w0:=w,Mu:=λb=>b∈Bd,U:=λ_=>False,E:=λ_=>0}
   have FB:vs.length=xs.length:=by
    have:∀{ts:List TypeId} {ms:List PM} {lo:List Bool} {vs:List Value} {xs:List AV} {rf lf hs:List Nat},Dr P w ts ms lo vs xs rf lf hs->vs.length=xs.length:=by
     intro ts ms lo vs xs rf lf hs h
     induction h<;>simp_all
    exact this Au
   obtain⟨recs,e1,e2,e3,e4,e5,e6,e7,e8⟩:=iS (c:=c0) (ms0:=s.cf) (vs0:=vs) (Ew fn s++s.ft) 0 Dj Au (λk x hx=>by simp only[E.den,Nat.zero_add];show(xs[k]?).getD .undef=x;rw[hx];rfl) (λk=>by simp) (λk=>by simp);have aft:=Cx.c9 (c:=c0) (w':=w) (recs:=recs) (λt g hk=>hk.elim) e4 (λr _ _ h=>h);have cO:∀r∈recs,r.tag<100000:=λr hr=>by have:=e3 r hr;simp only[Nat.zero_add,Ap,Pe]at this;omega
   let c:Cx:={c0.dc w recs with U:=λt=>t<100000}
   have Qe:∀b∈rf,(c0.dc w recs).ok b:=by
    intro b hb;refine⟨λ⟨t,ht⟩=> ?_, .inl hb⟩;by_cases hT:∃r∈recs,r.tag=t
    ·obtain⟨r,hr,rfl⟩:=hT;rw[Cx.de e4 hr]at ht;exact FI b (by rw[<-e2];exact List.mem_flatMap.2 ⟨r,hr,ht⟩) hb
    ·rw[Cx.cy λr hr hh=>hT ⟨r,hr,hh⟩]at ht;simp[c0]at ht
   have BO:∀(k:Nat) (v:Value) (x:AV),(s.cf[k]?).getD .ro= .ro->vs[k]?=some v->xs[k]?=some x->LO v x:=by
    have key:∀{ts:List TypeId} {ms:List PM} {lo:List Bool} {vs:List Value} {xs:List AV} {rf lf hs:List Nat},Dr P w ts ms lo vs xs rf lf hs-> ∀(k:Nat) (v:Value) (x:AV),(ms[k]?).getD .ro= .ro->vs[k]?=some v->xs[k]?=some x-> ∃f,Rd w [v] [x] f/\ ∀b∈f,b∈rf\/b∈lf:=by
     intro ts ms lo vs xs rf lf hs h
     induction h with
     |nil=>intro k v x _ h _;simp at h
     | @cons t ts ms lo v vs x xs f h rf lf hs A6 _ ih=>
      intro k v' x' h1 h2 h3;cases k with
      |zero=>
       have hm:ms.headD .ro= .ro:=by cases ms<;>exact h1
       rw[hm]at A6;simp at h2 h3;subst h2;subst h3;exact⟨f,A6.1,λb hb=> .inl (by simp[hb])⟩
      |succ k=>obtain⟨f',q1,q2⟩:=ih k v' x' (by cases ms with|nil=>rfl|cons _ _=>simpa using h1) (by simpa using h2) (by simpa using h3);exact⟨f',q1,λb hb=>(q2 b hb).imp (λh=>by simp[h]) id⟩
     | @lent t ts ms lo v vs x xs f rf lf hs _ _ hr _ ih=>
      intro k v' x' h1 h2 h3;cases k with
      |zero=>simp at h2 h3;subst h2;subst h3;exact⟨f,hr,λb hb=> .inr (by simp[hb])⟩
      |succ k=>obtain⟨f',q1,q2⟩:=ih k v' x' (by cases ms with|nil=>rfl|cons _ _=>simpa using h1) (by simpa using h2) (by simpa using h3);exact⟨f',q1,λb hb=>(q2 b hb).imp id (λh=>by simp[h])⟩
     | @free ms lo v vs x xs f rf lf hs hr _ ih=>
      intro k v' x' h1 h2 h3;cases k with
      |zero=>simp at h2 h3;subst h2;subst h3;exact⟨f,hr,λb hb=> .inl (by simp[hb])⟩
      |succ k=>obtain⟨f',q1,q2⟩:=ih k v' x' (by cases ms with|nil=>rfl|cons _ _=>simpa using h1) (by simpa using h2) (by simpa using h3);exact⟨f',q1,λb hb=>(q2 b hb).imp (λh=>by simp[h]) id⟩
    intro k v x h1 h2 h3;obtain⟨f,q1,q2⟩:=key Au k v x h1 h2 h3;exact⟨f,q1,λb hb hh=>(q2 b hb).elim (FI b hh) (Iq b hh)⟩
   obtain⟨g1,g2⟩:=e8 _ aft Qe BO;have kc:DD (c0.dc w recs) c:=⟨rfl,rfl,λ_ _ hb=>hb,λ_ _ _=>rfl,λ_ _ hk=>⟨hk,rfl⟩,λ_ _ _=>⟨Ay _,λ_=>⟨rfl,λ_ _ _=>rfl⟩⟩⟩
   have K2:fn.params.size+fn.nfree=vs.length:=by rw[FB,hlen]
   have FU:(ss++(List.range (fn.nfree-s.ft.length)).map λj=>SV.e (.var (fn.params.size+s.ft.length+j))).length=vs.length:=by rw[Ap,e6,List.length_map,List.length_range,Ap,Pe];omega
   have g1':SR c (ss++(List.range (fn.nfree-s.ft.length)).map λj=>SV.e (.var (fn.params.size+s.ft.length+j))) vs:=by
    have:=g1.keep kc;have GV:(Ew fn s++s.ft).length=fn.params.size+s.ft.length:=by rw[Ap,Pe]
    rw[show vs.length-(Ew fn s++s.ft).length=fn.nfree-s.ft.length from by omega]at this;simpa[Pe]using this
   have hG:∀t,(∃r∈recs,r.tag=t/\c.G t=⟨r.top,[]⟩)\/c.G t=⟨[],[]⟩:=λt=>by
    by_cases hT:∃r∈recs,r.tag=t
    ·obtain⟨r,hr,rfl⟩:=hT;exact .inl ⟨r,hr,rfl,Cx.de (w':=w) e4 hr⟩
    ·exact .inr (Cx.cy (w':=w) λr hr hh=>hT ⟨r,hr,hh⟩)
   have Gs:∀r∈recs,∀b∈r.top,b∈Bd:=λr hr b hb=>by rw[<-e2];exact List.mem_flatMap.2 ⟨r,hr,hb⟩
   have Ef:∀b∈Bd,b<w.heap.size:=by
    have:∀{ts:List TypeId} {ms:List PM} {lo:List Bool} {vs:List Value} {xs:List AV} {rf lf hs:List Nat},Dr P w ts ms lo vs xs rf lf hs-> ∀b∈hs,b<w.heap.size:=by
     intro ts ms lo vs xs rf lf hs h
     induction h with
     |nil=>simp
     |lent _ _ _ _ ih=>exact ih
     | @cons t ts ms lo v vs x xs f h rf lf hs A6 _ ih=>
      intro b hb;rcases Ag.1 hb with hb|hb
      ·cases hm:ms.headD .ro with
       |ro=>rw[hm]at A6;rw[A6.2]at hb;simp at hb
       |va own=>rw[hm]at A6;obtain⟨_,_,_,hc⟩:=A6;exact hc.inb.2 b hb
       |mu own=>rw[hm]at A6;obtain⟨_,_,_,hc⟩:=A6;exact hc.inb.2 b hb
       |bx own own'=>
        rw[hm]at A6;obtain⟨_,b0,_,_,_,_,_,hh,_,_,hc,rfl⟩:=A6;rcases Ad.1 hb with rfl|hb
        ·exact Fv hh
        ·exact hc.inb.2 b hb
      ·exact ih b hb
     |free _ _ ih=>exact ih
    exact this Au
   have AU:∀t e,AD l t=some e-> ∃r∈recs,r.tag=t/\r.a6=e:=λt e he=>by have:=H3 he;rw[e1]at this;obtain⟨r,hr,QO⟩:=List.mem_map.1 this;simp only[AM.pair,AO]at QO;exact⟨r,hr,QO.1,QO.2⟩
   let F:Fix:=⟨w,⟨λb=>b∈rf,pin,LO⟩,λb=>b∈Bd,λt v h=>by
    simp only[pin,GF]at h;split at h
    ·assumption
    ·cases h⟩
   have hrel:Rel c fn.ntmps (Bv {sl:=ss++(List.range (fn.nfree-s.ft.length)).map (λj=>SV.e (.var (fn.params.size+s.ft.length+j)))++List.replicate (fn.ntmps-(fn.params.size+fn.nfree)) .undef,hp:=l,nx:=100000,nv:=fn.params.size+fn.nfree}) (AD l) {tmps:=vs.toArray++Array.replicate (fn.ntmps-vs.toArray.size) undef,defers:=[]}:=by
    refine⟨rfl,by simp;omega,⟨rfl,rfl,rfl,Ay _,λt v hp=>⟨?_,λhk=> ?_⟩,λb _ _=>rfl,Ez,λv y h=>h⟩,λi=> ?_,λt e hr=> ?_,λt hn=> ?_,⟨λt=> ?_,λt u Ll b hb BF=> ?_,λt b hb=> ?_,λt b hb=> ?_⟩,λt g hk=> ?_,λt e he=> ?_⟩
    ·have:=F.lr t v hp;unfold LU at this;simp only[Ae,AN]at this;exact this.1
    ·rcases hk with hk|⟨r,hr,rfl,AZ,_⟩
     ·exact hk.elim
     ·exact(aft.new r hr v (e5 r hr v hp)).2.2
    ·have Wn:SR c (ss++(List.range (fn.nfree-s.ft.length)).map (λj=>SV.e (.var (fn.params.size+s.ft.length+j)))++List.replicate (fn.ntmps-(fn.params.size+fn.nfree)) .undef) (vs++List.replicate (fn.ntmps-(fn.params.size+fn.nfree)) undef):=by
      refine g1'.app ?_;have:∀k,SR c (List.replicate k SV.undef) (List.replicate k undef):=by
       intro k
       induction k with
       |zero=>exact .nil
       |succ k ih=>exact .undef ih
      exact this _
     unfold Bv;simp only;cases hq:(ss++(List.range (fn.nfree-s.ft.length)).map (λj=>SV.e (.var (fn.params.size+s.ft.length+j)))++List.replicate (fn.ntmps-(fn.params.size+fn.nfree)) SV.undef)[i]? with
     |none=>exact .undef .nil
     |some s'=>
      obtain⟨v',Xz,Ke⟩:=Wn.get hq;have:(vs.toArray++Array.replicate (fn.ntmps-vs.toArray.size) undef).getD i undef=v':=by
       rw[Array.getD_eq_getD_getElem?];have e:(vs.toArray++Array.replicate (fn.ntmps-vs.toArray.size) undef)[i]?=(vs++List.replicate (fn.ntmps-(fn.params.size+fn.nfree)) undef)[i]?:=by rw[<-Array.getElem?_toList];simp[K2]
       rw[e,Xz];rfl
      rw[this];exact Ke
    ·cases hh:AD l t with
     |none=>rw[hh]at hr;exact hr.elim
     |some e0=>
      obtain⟨r,CL,rfl,rfl⟩:=AU t e0 hh;have Bk:=(g2 r CL).keep kc rfl rfl (λg hg=>hg) (λb _=>rfl);rw[hh]at hr;cases he:r.a6 with
      |gd gs e'=>rw[he]at Bk hr;obtain⟨_,rfl⟩:=hr;have AZ:=(e3 r CL).2.2;exfalso;exact Y2 _ _ _ _ _ _ Dj r.tag r.a6 (by rw[e1];exact List.mem_map.2 ⟨r,CL,rfl⟩) _ _ he
      |_=>rw[he]at Bk hr;simp only[Cp]at hr;subst hr;exact Bk
    ·rcases hG t with⟨r,hr,rfl,hg⟩|hg
     ·exfalso;have Db:(r.tag,r.a6)∈l:=by rw[e1];exact List.mem_map.2 ⟨r,hr,rfl⟩
      have:∃e,AD l r.tag=some e:=by
       have:∀(l:List (Nat × Ah)),(r.tag,r.a6)∈l-> ∃e,AD l r.tag=some e:=by
        intro l
        induction l with
        |nil=>intro h;simp at h
        |cons p l ih=>
         obtain⟨u,f'⟩:=p;intro h;simp only[AD];split
         ·exact⟨_,rfl⟩
         ·rename_i hu;rcases Ad.1 h with h|h
          ·cases h;exact absurd rfl hu
          ·exact ih h
       exact this l Db
      obtain⟨e,he⟩:=this;obtain⟨r',CL,Lj,rfl⟩:=AU _ _ he;have S4:∀gs f',r'.a6≠ .gd gs f':=by intro gs f' Cg;exact Y2 _ _ _ _ _ _ Dj r'.tag r'.a6 (by rw[e1];exact List.mem_map.2 ⟨r',CL,rfl⟩) _ _ Cg
      apply hn r'.a6;rw[he];cases Xl:r'.a6 with
      |gd gs f'=>exact absurd Xl (S4 gs f')
      |_=>simp[Cp]
     ·rw[hg];simp
    ·rcases hG t with⟨r,hr,rfl,hg⟩|hg
     ·rw[hg];rw[<-e2]at Gu;simpa[GI.own]using(RG Gu).1 r hr
     ·rw[hg];simp[GI.own]
    ·rcases hG t with⟨r,hr,rfl,hg⟩|hg
     ·rcases hG u with⟨q,hq,rfl,Cg⟩|Cg
      ·rw[hg]at hb;rw[Cg]at BF;simp only[GI.own,AJ]at hb BF;rw[<-e2]at Gu;obtain⟨i,hi⟩:=List.getElem?_of_mem hr;obtain⟨j,hj⟩:=List.getElem?_of_mem hq;have:=(RG Gu).2 i j r q b hi hj hb BF;subst this;rw[hi]at hj;cases hj;exact Ll rfl
      ·rw[Cg]at BF;simp[GI.own]at BF
     ·rw[hg]at hb;simp[GI.own]at hb
    ·rcases hG t with⟨r,hr,rfl,hg⟩|hg
     ·rw[hg]at hb;simp only[GI.own,AJ]at hb;exact .inr (Gs r hr b hb)
     ·rw[hg]at hb;simp[GI.own]at hb
    ·rcases hG t with⟨r,hr,rfl,hg⟩|hg
     ·rw[hg]at hb;simp only[GI.own,AJ]at hb;exact Ef b (Gs r hr b hb)
     ·rw[hg]at hb;simp[GI.own]at hb
    ·rcases hk with hk|⟨r,hr,rfl,_⟩
     ·exact hk.elim
     ·exact cO r hr
    ·obtain⟨r,hr,rfl,_⟩:=AU t e he;exact cO r hr
   have P9:Gf F xs {sl:=ss++(List.range (fn.nfree-s.ft.length)).map (λj=>SV.e (.var (fn.params.size+s.ft.length+j)))++List.replicate (fn.ntmps-(fn.params.size+fn.nfree)) .undef,hp:=l,nx:=100000,nv:=fn.params.size+fn.nfree} {tmps:=vs.toArray++Array.replicate (fn.ntmps-vs.toArray.size) undef,defers:=[]} w:=by
    refine⟨c,rfl,rfl,rfl,rfl,rfl,hlen,λt ht=>ht,?_⟩;have hl:(ss++(List.range (fn.nfree-s.ft.length)).map (λj=>SV.e (.var (fn.params.size+s.ft.length+j)))++List.replicate (fn.ntmps-(fn.params.size+fn.nfree)) SV.undef).length=fn.ntmps:=by rw[Ap,FU,List.length_replicate];omega
    show Rel c (ss++(List.range (fn.nfree-s.ft.length)).map (λj=>SV.e (.var (fn.params.size+s.ft.length+j)))++List.replicate (fn.ntmps-(fn.params.size+fn.nfree)) SV.undef).length _ _ _;rw[hl];exact hrel
   refine calls_of_wp FJ DO ?_;have cL:Je (λ_ _ _ _=>False):=λ_ _ _ _ _ _ h=>h;have Wt:=Tr.dt _ cL t0 Eb hd;refine ztl (zvx W7 (zzO (sg:={sg with dp:=s.dp,wn:=s.wn,fz:=s.fz}) IJ) zyT) zvY code [] _ _ t0 hex F (λr'=>r'=r) _ [] xs _ w (RJ cL _ _) Wt P9 _ λi x τ ρ' a' w' hp hl CM=> ?_;obtain⟨tr,d',q1,q2,q3⟩:=hl;have main:VO P fn s τ=some tr->a'.defers=[]/\ ∃v,(results fn a'.tmps).run P w'= .ok v w'/\ ∃v',Ending.returned v= .returned v'/\dV P fn s w vs rf Bd r v' w':=by
    intro DX;obtain⟨c2,rfl,rfl,k1,k2,k3,k4,k5,k6⟩:=CM;unfold VO at DX;split at DX
    ·rename_i rs bx us EA Mi;split at DX
     ·rename_i es vs' Hs rA;split at DX
      ·cases DX
      rename_i Qg;simp only[Bool.or_eq_true,Bt,not_or,Bool.not_eq_false,Bool.not_eq_true]at Qg;obtain⟨B8,NQ⟩:=Qg;have B8:=OZ B8;simp only[Af]at DX;subst DX;have hr:_=r:=q3;obtain⟨rvs,z1,z2,z3⟩:=yM k6 fn EA;obtain⟨f1,y1,y2⟩:=fV (P:=P) k6 (DE fn s) rA z1 Hs (Ay _);obtain⟨f2,o2,x1,x2,x3⟩:=fO (P:=P) k6 (w0:=w) (ms0:=s.cf) (vs0:=vs) (λt=>by rw[k2]) (Ew fn s++s.ft) 0 Mi Au (λk=>by simp) (λk=>by simp);refine⟨k6.defers,_,z3,_,rfl,⟨?_,?_⟩⟩
      ·
       have hR:∃R,R=(match es with| .cons x .nil=>x|es=>E.tup es).den c2.ρ/\JP P c2.w (DE fn s) s.res (match rvs with| [u]=>u|us=> .tuple us.toArray) R f1 (vs'.flatMap λt=>(c2.G t).top):=by
        refine⟨_,rfl,?_⟩;have yl:es.den c2.ρ=es.den c2.ρ:=rfl;generalize QZ:(DE fn s)=ts at y1 ⊢;generalize B9:es.den c2.ρ=ys at y1;generalize (vs'.flatMap λt=>(c2.G t).top)=o1 at y1 ⊢;cases y1 with
        |nil=>
         cases es with
         |nil=>exact⟨[],[],rfl,by simp[E.den,EL.den], .nil⟩
         |cons e es=>simp[EL.den]at B9
        | @cons t ts fl v vs2 x xs2 f h rf2 AY w1 w2=>
         cases w2 with
         |nil=>
          cases es with
          |nil=>simp[EL.den]at B9
          |cons e es=>
           cases es with
           |nil=>simp only[EL.den,List.cons.injEq,and_true]at B9;subst B9;simpa[JP]using w1
           |cons e2 es=>simp[EL.den]at B9
         | @cons t2 ts2 fl2 v2 vs3 x2 xs3 f2' h2 rf3 G0 w3 w4=>
          cases es with
          |nil=>simp[EL.den]at B9
          |cons e es=>
           cases es with
           |nil=>simp[EL.den]at B9
           |cons e2 es=>refine⟨v::v2::vs3,x::x2::xs3,rfl,?_, .cons w1 (.cons w3 w4)⟩;simp only[E.den,B9]
       obtain⟨R,o8,o9⟩:=hR;have Br:∀b∈(vs'.flatMap λt=>(c2.G t).top)++o2,∃t∈vs'++us,b∈(c2.G t).top:=λb hb=>by
        rcases Ag.1 hb with hb|hb
        ·obtain⟨t,ht,Cz⟩:=List.mem_flatMap.1 hb;exact⟨t,by simp[ht],Cz⟩
        ·rw[x2]at hb;obtain⟨t,ht,Cz⟩:=List.mem_flatMap.1 hb;exact⟨t,by simp[ht],Cz⟩
       have Im:∀b t,b∈(c2.G t).top->b∈Bd\/w.heap.size<=b:=λb t hb=>by
        rcases k6.gw.allow t b (by simp[GI.own,hb])with h|h
        ·simp only[Cx.B,k1]at h;exact .inr h
        ·rw[k3]at h;exact .inl h
       refine⟨R,bx.map (E.den c2.ρ),f1,_,f2,o2,?_,o9,x1,?_,λb hb=> ?_,λb hb=> ?_⟩
       ·rw[<-hr,o8];cases bx with
        |nil=>rfl
        |cons b bx=>simp only[List.isEmpty_cons,BX,if_false,E.den,EL.c8,List.map_cons];rfl
       ·rw[x2,<-List.flatMap_append];have:∀l:List Nat,l.Nodup->(l.flatMap λt=>(c2.G t).top).Nodup:=by
         intro l
         induction l with
         |nil=>intro _;simp
         |cons t l ih=>intro hl;rw[List.nodup_cons]at hl;rw[List.flatMap_cons,List.nodup_append];refine⟨(List.nodup_append.1 (k6.gw.nodup t)).1,ih hl.2,λx hx y hy Gy=> ?_⟩;subst Gy;obtain⟨u,hu,XJ⟩:=List.mem_flatMap.1 hy;exact k6.gw.cc t u (λhh=>hl.1 (hh▸hu)) x (by simp[GI.own,hx]) (by simp[GI.own,XJ])
        exact this _ B8
       ·obtain⟨t,ht,Cz⟩:=Br b hb;exact⟨Im b t Cz,k6.gw.inb t b (by simp[GI.own,Cz])⟩
       ·have HB:c2.dq (Sm P τ (DE fn s) s.res rs++Nz P τ 0 (Ew fn s++s.ft) s.cf) b:=by
         rcases Ag.1 hb with hb|hb
         ·exact(y2 b hb).mono λt ht=>by simp[ht]
         ·exact(x3 b hb).mono λt ht=>by simp[ht]
        rcases HB with AR|⟨t,ht,Cz⟩
        ·refine⟨λho=> ?_,?_⟩
         ·obtain⟨u,_,Hq⟩:=Br b ho;exact AR.1 ⟨u,Hq⟩
         ·rcases AR.2 with h|h|h
          ·rw[k2]at h;exact .inl h
          ·simp only[Cx.B,k1]at h;exact .inr (.inr h)
          ·rw[k3]at h;exact .inr (.inl h)
        ·refine⟨λho=> ?_, .inr (Im b t Cz)⟩;obtain⟨u,hu,Hq⟩:=Br b ho;have Ll:t≠u:=by
          rintro rfl;rw[List.any_eq_false]at NQ;have:=NQ t ht;simp only[List.contains_eq_mem,AN]at this;exact this hu
         exact k6.gw.cc t u Ll b (by simp[GI.own,Cz]) (by simp[GI.own,Hq])
      ·have hb:=k6.base;refine⟨?_,?_,?_,?_,λk hk hn=> ?_⟩
       ·rw[hb.os,k1]
       ·rw[hb.tape,k1]
       ·rw[hb.output,k1]
       ·have:=hb.size;rw[k1]at this;exact this
       ·have:=hb.block k (by rw[k1];exact hk) (by rw[k3];exact hn);rw[k1]at this;exact this
     ·cases DX
    ·cases DX
   cases x with
   |normal=>exact main q1
   |ret=>exact main q1
   |exit id=>cases q1
  ·cases Eb
 ·cases Eb
end
end Go.Proofs.YtkpifpljpoochaaGreatDoor

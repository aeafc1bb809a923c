/- Parts of a proof, joined: WSa, WSb, WT, WU, WV, WW. -/
import Derived.Test.YtalagilebkaegaaGreatR5
set_option linter.unusedVariables false
set_option linter.unusedSimpArgs false
namespace Go.Proofs.YtalagilebkaegaaGreat
open Go.RowKit
section
theorem AS.{u}{α:Type u}{a:α}:[a].length=1:=rfl
section
variable {P:Program} {c:Cx} {n nx:Nat} {sl sl0:Nat->SV} {hp hp0:Nat->Option Af} {a:Act} {o:Oper} {gs:Gd} {e:Bh} {sg:BY} {nv:Nat}
theorem Rel.iy(h:Rel c n sl hp a){sl':Nat->SV}(hs:∀i,sl' i=sl i\/SR c [sl' i] [a.tmps.getD i undef]):Rel c n sl' hp a:=
 ⟨h.defers,h.size,h.base,λi=>by
  rcases hs i with hh|hh
  ·rw[hh];exact h.da i
  ·exact hh,h.ents,h.off,h.gw,h.bz,h.c6⟩
theorem VD{u:Nat}:∀{l:List Operand} {t T v m:Nat} {p:E × Nat × Nat} {s:SV},Mj sl0 u l=some (t,T,v,m,p,s)->Operand.tmp t∈l/\((∃y,sl0 t= .via T v m (some p) y/\s= .own u 0)\/ ∃y k z q,sl0 t= .vptr T v m (some p) y k z q/\s= .cz u 0 k z q)
 | [],_,_,_,_,_,_,h=>by simp[Mj]at h
 |x::l,t,T,v,m,p,s,h=>by
  cases x with
  |tmp i=>
   simp only[Mj]at h;split at h
   ·rename_i hs;simp only[Ad,AY]at h;obtain⟨rfl,rfl,rfl,rfl,rfl,rfl⟩:=h;exact⟨by simp, .inl ⟨_,hs,rfl⟩⟩
   ·rename_i hs;simp only[Ad,AY]at h;obtain⟨rfl,rfl,rfl,rfl,rfl,rfl⟩:=h;exact⟨by simp, .inr ⟨_,_,_,_,hs,rfl⟩⟩
   ·obtain⟨h1,h2⟩:=VD h;exact⟨by simp[h1],h2⟩
  |const v9=>simp only[Mj]at h;obtain⟨h1,h2⟩:=VD h;exact⟨by simp[h1],h2⟩
  |func f=>simp only[Mj]at h;obtain⟨h1,h2⟩:=VD h;exact⟨by simp[h1],h2⟩
  |global g=>simp only[Mj]at h;obtain⟨h1,h2⟩:=VD h;exact⟨by simp[h1],h2⟩
theorem Rel.split(h:Rel c n sl hp a){T v m u:Nat}{p:E × Nat × Nat}{hl inn:Af}(hs:Wi hp0 T v m u p=some (hl,inn))(B1:∀t e,hp0 t=some e->hp t=some e)(hu: ¬c.U u){vv:Value}(J0:c.E T=m->I2 c T v (some p) vv):
  ∃recs c1,c1=c.du c.w recs/\Rel c1 n sl (Bp hp [(T,hl),(u,inn)]) a/\D6 c c1/\c1.K u 0/\c1.H u 0=vv/\(∃q n r,vv= .slice q n r/\(q=none\/n=0\/ ∃g,q=some ⟨g,0,none⟩))/\(∀t,c1.U t->c.U t\/t=u)/\c.K T v/\c.E T=m/\c1.E T=m+1/\T≠u:=by
 have eh:EH c hp0:=λt e hr=>h.ents t e (Mi B1 hr);obtain⟨pi,z,po⟩:=p;unfold Wi at hs;split at hs
 ·rename_i e z0 l g ep c0 hlk;split at hs
  ·rename_i AA;obtain⟨rfl,rfl,qB⟩:=AA;simp only at qB;subst qB;split at hs
   ·rename_i e2 z2 l2 BT;simp only[Ad,AY]at hs;obtain⟨rfl,rfl⟩:=hs;simp only at BT;obtain⟨q1,q2,q3,q4,q5⟩:=eh T _ (CP hlk (E4 _));obtain⟨b,n9,cap,C,ty,fz,kk,k,p1,p2,p3,p4,p5,p6,p7⟩:=J0 q3;obtain⟨d1,d2,⟨a9,d3,_⟩|⟨g9,cap9,C9,ys,N,d3,d4,d5,d6,d7,d8,d9,d10,d11,d12⟩⟩:=q4.inv
    ·rw[p1]at d3;cases d3;omega
    ·rw[p1]at d3;cases d3;rw[d6]at p3;cases p3;rw[Av.ax]at d2 d12;have hoz:po<z:=by
      rcases Nat.lt_or_ge po l.length with hh|hh
      ·omega
      ·rw[List.getElem?_eq_none hh]at BT;cases BT
     have IH:k.toNat<ys.length:=by omega
     have hmul:(k.toNat+1)*z<=ys.length*z:=By _ (by omega);have EX:ys.length*z<=cap*z:=By _ d7;rw[Nat.add_mul]at hmul;have DL:C.toList.length=cap*z:=by simpa using d9
     have Ax:k.toNat*z+po<C.size:=by omega
     obtain⟨N1,N2,N3,rfl,s1,s2,s3⟩:=d12.split (k.toNat*z+po) 1;have B0:((C.toList.take (ys.length*z)).drop (k.toNat*z+po)).take 1=[vv]:=by have hv:C[k.toNat*z+po]?=some vv:=p7;rw[List.drop_take,List.take_take,Nat.min_eq_left (by omega),Bl (by simpa using Ax),List.take_succ_cons,List.take_zero];rw[Array.getElem?_eq_getElem Ax]at hv;simpa using hv
     have Jh:=NX IH;generalize O3:(AV.sl ys).nth k.toNat=yk at Jh;have FX:=d10 yk (List.mem_of_getElem? Jh);have B5:((Ao ys).drop (k.toNat*z+po)).take 1=[(E.fld (.idx c0 pi) po 1 false).den c.ρ]:=by rw[VY ys d10 _ _ Jh po 1 (by omega),Bl (by omega),List.take_succ_cons,List.take_zero];simp only[E.den,d4,p4,AV.idx,O3,AV.fld];simp[show po<yk.cells.length by omega]
     have Bv:((Bq ys.length l).drop (k.toNat*z+po)).take 1=[.row e2 z2 l2]:=by
      rw[<-d2,VI l _ _ _ _ IH (by omega)];have JW:po<l.length:=by omega
      rw[Bl JW,List.take_succ_cons,List.take_zero];rw[Br JW]at BT;simpa using BT
     rw[B0,B5,Bv]at s2;have GM:=h.bz _ _ q1;have JC:T≠u:=λhh=>hu (hh▸GM);have B6:=h.gw.nodup T;simp only[GI.own,q5,AB,d5]at B6;have AL:∀r∈([⟨T,none,b::(N1++N3), .hol e z l g (ep+1) c0 pi po u⟩,⟨u,some vv,N2,if l2.toList.all DT.cc then .row e2 z2 0 (.fld (.idx c0 pi) po 1 false) true else .deep e2 z2 l2.toList 0 0 (.fld (.idx c0 pi) po 1 false)⟩]:List AX),r.new.isSome=true-> ¬c.U r.tag:=λr hr hs=>by
      simp only[Ae,List.not_mem_nil,or_false]at hr;rcases hr with rfl|rfl
      ·cases hs
      ·exact hu
     refine⟨[⟨T,none,b::(N1++N3), .hol e z l g (ep+1) c0 pi po u⟩,⟨u,some vv,N2,if l2.toList.all DT.cc then .row e2 z2 0 (.fld (.idx c0 pi) po 1 false) true else .deep e2 z2 l2.toList 0 0 (.fld (.idx c0 pi) po 1 false)⟩],_,rfl,?_⟩;generalize A5:([⟨T,none,b::(N1++N3), .hol e z l g (ep+1) c0 pi po u⟩,⟨u,some vv,N2,if l2.toList.all DT.cc then .row e2 z2 0 (.fld (.idx c0 pi) po 1 false) true else .deep e2 z2 l2.toList 0 0 (.fld (.idx c0 pi) po 1 false)⟩]:List AX)=recs at AL;have hn:(recs.map AX.tag).Nodup:=by rw[<-A5];simp[JC]
     have aft:=Cx.dr (w':=c.w) h.bz hn AL;have DH:(⟨T,none,b::(N1++N3), .hol e z l g (ep+1) c0 pi po u⟩:AX)∈recs:=by rw[<-A5];simp
     have CT:(⟨u,some vv,N2,if l2.toList.all DT.cc then .row e2 z2 0 (.fld (.idx c0 pi) po 1 false) true else .deep e2 z2 l2.toList 0 0 (.fld (.idx c0 pi) po 1 false)⟩:AX)∈recs:=by rw[<-A5];simp
     obtain⟨k1,k2,k3⟩:=aft.new _ CT vv rfl;have kgT:=aft.G _ DH;have keT:=aft.gj _ DH rfl;have kgu:=aft.G _ CT;have keu:=aft.iu _ CT rfl;obtain⟨kT1,kT2⟩:=aft.K T g q1;simp only at k1 k2 k3 kgT keT kgu keu;have MX:∀q,q∈b::(N1++N3)\/q∈N2->q∈(c.G T).top:=λq hq=>by rw[d5];simp only[Ae,Ac]at hq ⊢;rcases hq with(hq|hq|hq)|hq<;>simp[hq]
     obtain⟨hrel,Ce⟩:=h.changes (recs:=recs) (gs:=[]) (hs:=(c.G T).top) (E4 _) (Mod.refl _ c.w) hn AL (λq hq=>⟨_,DH,hq⟩) (by
       rw[<-A5];simp only[List.flatMap_cons,List.flatMap_nil,AB];rw[List.nodup_cons]at B6;obtain⟨n1,n2⟩:=B6;rw[List.append_assoc,List.nodup_append,List.nodup_append]at n2;obtain⟨a1,⟨a2,a3,a4⟩,a5⟩:=n2;rw[List.cons_append,List.nodup_cons,List.nodup_append,List.nodup_append];refine⟨λhh=>n1 ?_,⟨a1,a3,λx hx y hy=>a5 x hx y (Ac.2 (.inr hy))⟩,a2,λx hx y hy Hm=> ?_⟩
       ·simp only[Ac]at hh ⊢;rcases hh with(hh|hh)|hh<;>simp[hh]
       ·rcases Ac.1 hx with hx|hx
        ·exact a5 x hx y (Ac.2 (.inl hy)) Hm
        ·exact a4 y hy x hx Hm.symm)
      (λr hr q hq=>by
       have:q∈(c.G T).top:=by
        rw[<-A5]at hr;simp only[Ae,List.not_mem_nil,or_false]at hr;rcases hr with rfl|rfl
        ·exact MX q (.inl hq)
        ·exact MX q (.inr hq)
       exact⟨.inl this,h.gw.inb T q (by simp[GI.own,this])⟩)
      (λr hr=>by
       rw[<-A5]at hr;simp only[Ae,List.not_mem_nil,or_false]at hr;rcases hr with rfl|rfl
       ·intros;simp
       ·intros;simp only;split<;>simp)
      (λhk r hr=>by
       rw[<-A5]at hr;simp only[Ae,List.not_mem_nil,or_false]at hr;rcases hr with rfl|rfl
       ·refine⟨kT1,λg' CE=>q2 g' (aft.old T GM g' CE),by rw[keT,q3],?_,by rw[kgT]⟩;rw[kT2,p1,kgT];exact⟨b,cap,C,ys,kk,k,N1,N3,rfl,d4,p4,p5,p6,hoz,d1,d2,d6,d7,d8,d9,d10,d11,rfl,k1,by rw[k3];exact p7,s1,s3⟩
       ·simp only;split
        ·rename_i hf;have Bk:=s2.mc hf;refine⟨k1,k2,[],?_,by simp,λ_=>⟨rfl,by rw[kgu]⟩,λ_=>by rw[kgu]⟩;rw[k3,kgu];exact Bk
        ·refine⟨k1,k2,keu,?_,by rw[kgu]⟩;rw[k3,kgu,Av.c8];exact s2)
     refine⟨?_,Ce,k1,k3,?_,λt ht=> ?_,q1,q3,by rw[keT,q3],JC⟩
     ·have:(recs.map λr=>(r.tag,C5 [] r.bq))=[(T, .hol e z l g (ep+1) c0 pi po u),(u,if l2.toList.all DT.cc then .row e2 z2 0 (.fld (.idx c0 pi) po 1 false) true else .deep e2 z2 l2.toList 0 0 (.fld (.idx c0 pi) po 1 false))]:=by
       rw[<-A5];simp[C5]
      rw[this]at hrel;exact hrel
     ·obtain⟨_,_,⟨a9,h1,_⟩|⟨g9,cap9,C9,ys9,N9,h1,_⟩⟩:=s2.inv
      ·exact⟨a9,0,0,h1, .inr (.inl rfl)⟩
      ·exact⟨_,_,_,h1, .inr (.inr ⟨g9,rfl⟩)⟩
     ·rcases ht with ht|⟨r,hr,rfl⟩
      ·exact .inl ht
      ·rw[<-A5]at hr;simp only[Ae,List.not_mem_nil,or_false]at hr;rcases hr with rfl|rfl
       ·exact .inl GM
       ·exact .inr rfl
   ·cases hs
  ·cases hs
 ·cases hs
theorem Rel.close(h:Rel c n sl hp a){T u:Nat}{hl r d:Af}(hT:hp T=some hl)(hu:hp u=some r)(hr:Wf P hl r=some d)(LW:∃q1 q2 q3 q4 q5 q6 q7 q8,hl= .hol q1 q2 q3 q4 q5 q6 q7 q8 u)(JC:T≠u):
  ∃recs c1,c1=c.du c.w recs/\Rel c1 n sl (Bp hp [(T,d),(u, .dead)]) a/\(∀t,c1.U t->c.U t)/\c.E T<c1.E T:=by
 obtain⟨e,z,l,g,ep,c0,i,o',rfl⟩:=LW;have key:∀(e2 z2:Nat) (l2:Av) (x:E),l[o']?=some (.row e2 z2 l2)->DC c.w [.row e2 z2 l2] [c.H u 0] [x.den c.ρ] (c.G u).top->c.U u->d= .deep e z l g (ep+1) (.set c0 i (.put (.idx c0 i) o' x (Am P e)))->(Am P e=false->z=1)->
   ∃recs c1,c1=c.du c.w recs/\Rel c1 n sl (Bp hp [(T,d),(u, .dead)]) a/\(∀t,c1.U t->c.U t)/\c.E T<c1.E T:=by
  rintro e2 z2 l2 x BT HU WW rfl Iy;obtain⟨q1,q2,q3,⟨b,cap,C,ys,kk,k,N1,N2,p1,p2,p3,p4,p5,p6,p7,p7',p8,p9,p10,p11,p12,p13,p14,p15,p16,p17,p18⟩,q5⟩:=h.ents T _ (by rw[hT];rfl);have GM:=h.bz _ _ q1;have IH:k.toNat<ys.length:=by omega
  have hmul:(k.toNat+1)*z<=ys.length*z:=By _ (by omega);have EX:ys.length*z<=cap*z:=By _ p9;rw[Nat.add_mul]at hmul;have DL:C.toList.length=cap*z:=by simpa using p11
  have Ax:k.toNat*z+o'<C.size:=by omega
  have Jh:=NX IH;generalize O3:(AV.sl ys).nth k.toNat=yk at Jh;have FX:=p12 yk (List.mem_of_getElem? Jh);obtain⟨zs,CU⟩:∃zs,x.den c.ρ= .sl zs:=by
   obtain⟨_,_,⟨_,_,hx,_⟩|⟨_,_,_,_,_,_,hx,_⟩⟩:=HU.inv
   ·exact⟨_,hx⟩
   ·exact⟨_,hx⟩
  have GU:(x.den c.ρ).cells=[x.den c.ρ]:=by rw[CU];rfl
  have hz:(yk.dg o' (x.den c.ρ) (Am P e)).cells=setVs yk.cells o' (x.den c.ρ).cells:=by
   refine lF ?_ (λhg=> ?_)
   ·cases hg:Am P e with
    |true=>exact .inr rfl
    |false=>left;rw[CU];intro cs hh;cases hh
   ·have:=Iy hg;exact⟨by omega,by omega,GU⟩
  have ER:Ao (ys.set k.toNat (yk.dg o' (x.den c.ρ) (Am P e)))=setVs (Ao ys) (k.toNat*z+o') (x.den c.ρ).cells:=
   ZR ys _ _ yk o' _ p12 Jh (by rw[GU];simp;omega) hz
  have Hb:((Bq ys.length l).drop (k.toNat*z+o')).take 1=[.row e2 z2 l2]:=by
   rw[<-p7',VI l _ _ _ _ IH (by omega)];have JW:o'<l.length:=by omega
   rw[Bl JW,List.take_succ_cons,List.take_zero];rw[Br JW]at BT;simpa using BT
  have Ui:setVs (C.toList.take (ys.length*z)) (k.toNat*z+o') [c.H u 0]=C.toList.take (ys.length*z):=by
   apply List.ext_getElem?;intro j;have hl3:(C.toList.take (ys.length*z)).length=ys.length*z:=by rw[Ar,DL];exact Nat.min_eq_left EX
   rw[Sn _ _ _ (by rw[hl3];show k.toNat*z+o'+1<=_;omega)];split
   ·rename_i hj;simp only[Bd,List.length_nil]at hj;have:j=k.toNat*z+o':=by omega
    subst this;rw[Nat.sub_self,List.getElem?_take,if_pos (by omega)];have:=p16;simpa using this.symm
   ·rfl
  have Bg:DC c.w [.row e z (Av.of l)] [c.H T g] [(E.set c0 i (.put (.idx c0 i) o' x (Am P e))).den c.ρ] (b::(N1++((c.G u).top++N2))):=by
   have Cv:(E.set c0 i (.put (.idx c0 i) o' x (Am P e))).den c.ρ= .sl (ys.set k.toNat (yk.dg o' (x.den c.ρ) (Am P e))):=by simp only[E.den,p2,p3,AV.idx,O3,AV.dd]
   rw[Cv,p1];have Ea:(ys.set k.toNat (yk.dg o' (x.den c.ρ) (Am P e))).length=ys.length:=List.length_set;have:=DC.row (w:=c.w) (e:=e) (z:=z) (l:=Av.of l) (g:=b) (cap:=cap) (C:=C) (ys:=ys.set k.toNat (yk.dg o' (x.den c.ρ) (Am P e))) (N1:=N1++((c.G u).top++N2)) (ts:=[]) (vs:=[]) (xs:=[]) (N:=[]) p7 (by rw[Av.ax];exact p7') p8 (by rw[Ea];exact p9) p10 p11 (λw hw=>by
     rcases List.mem_or_eq_of_mem_set hw with hw|rfl
     ·exact p12 w hw
     ·rw[hz,Sm _ _ _ (by rw[GU,FX];simp;omega)];exact FX) (by rw[Ea];exact p13) (by
     rw[Ea,Av.ax,ER,<-Ui];refine DC.setVs p17 ?_ ?_
     ·exact p18
     ·rw[AS,Hb,GU];exact HU) .nil
   rw[Ea]at this;simpa using this
  have hTK:=q1;have AL:∀r∈([⟨T,none,b::(N1++((c.G u).top++N2)), .deep e z l g (ep+1) (.set c0 i (.put (.idx c0 i) o' x (Am P e)))⟩,⟨u,none,[], .dead⟩]:List AX),r.new.isSome=true-> ¬c.U r.tag:=λr hr hs=>by simp only[Ae,List.not_mem_nil,or_false]at hr;rcases hr with rfl|rfl<;>cases hs
  refine⟨[⟨T,none,b::(N1++((c.G u).top++N2)), .deep e z l g (ep+1) (.set c0 i (.put (.idx c0 i) o' x (Am P e)))⟩,⟨u,none,[], .dead⟩],_,rfl,?_⟩;generalize A5:([⟨T,none,b::(N1++((c.G u).top++N2)), .deep e z l g (ep+1) (.set c0 i (.put (.idx c0 i) o' x (Am P e)))⟩,⟨u,none,[], .dead⟩]:List AX)=recs at AL;have hn:(recs.map AX.tag).Nodup:=by rw[<-A5];simp[JC]
  have aft:=Cx.dr (w':=c.w) h.bz hn AL;have DH:(⟨T,none,b::(N1++((c.G u).top++N2)), .deep e z l g (ep+1) (.set c0 i (.put (.idx c0 i) o' x (Am P e)))⟩:AX)∈recs:=by rw[<-A5];simp
  have CT:(⟨u,none,[], .dead⟩:AX)∈recs:=by rw[<-A5];simp
  have kgT:=aft.G _ DH;have keT:=aft.gj _ DH rfl;have kgu:=aft.G _ CT;obtain⟨kT1,kT2⟩:=aft.K T g q1;simp only at kgT keT kgu;have Ch:∀q,q∈b::(N1++((c.G u).top++N2))->q∈(c.G T).top\/q∈(c.G u).top:=λq hq=>by rw[p14];simp only[Ae,Ac]at hq ⊢;rcases hq with hq|hq|hq|hq<;>simp[hq]
  have OO:=h.gw.nodup T;simp only[GI.own,q5,AB,p14]at OO;have dF:(c.G u).top.Nodup:=by have:=h.gw.nodup u;simp only[GI.own]at this;exact(List.nodup_append.1 this).1
  have Gk:∀q∈(c.G u).top,q∉b::(N1++N2):=λq hq hh=>h.gw.cy u T (Ne.symm JC) q (by simp[GI.own,hq]) (by rw[<-p14]at hh;simp[GI.own,hh]);obtain⟨hrel,Ce⟩:=h.changes (recs:=recs) (gs:=[]) (hs:=(c.G T).top++(c.G u).top) (E4 _) (Mod.refl _ c.w) hn AL (λq hq=>by
    rcases Ac.1 hq with hq|hq
    ·exact⟨_,DH,hq⟩
    ·exact⟨_,CT,hq⟩) (by
    rw[<-A5];simp only[List.flatMap_cons,List.flatMap_nil,AB];rw[List.nodup_cons,List.nodup_append]at OO;obtain⟨n1,a1,a2,a3⟩:=OO;rw[List.nodup_cons,List.nodup_append,List.nodup_append];refine⟨λhh=> ?_,a1,⟨dF,a2,λx hx y hy Hm=>Gk x hx (by rw[Hm];simp[hy])⟩,λx hx y hy Hm=> ?_⟩
    ·simp only[Ac]at hh n1;rcases hh with hh|hh|hh
     ·exact n1 (.inl hh)
     ·exact Gk b hh (by simp)
     ·exact n1 (.inr hh)
    ·rcases Ac.1 hy with hy|hy
     ·exact Gk y hy (by rw[<-Hm];simp[hx])
     ·exact a3 x hx y hy Hm)
   (λr hr q hq=>by
    have:q∈(c.G T).top\/q∈(c.G u).top:=by
     rw[<-A5]at hr;simp only[Ae,List.not_mem_nil,or_false]at hr;rcases hr with rfl|rfl
     ·exact Ch q hq
     ·simp at hq
    refine⟨.inl (Ac.2 this),?_⟩;rcases this with hh|hh
    ·exact h.gw.inb T q (by simp[GI.own,hh])
    ·exact h.gw.inb u q (by simp[GI.own,hh]))
   (λr hr=>by rw[<-A5]at hr;simp only[Ae,List.not_mem_nil,or_false]at hr;rcases hr with rfl|rfl<;>(intros;simp))
   (λhk r hr=>by
    rw[<-A5]at hr;simp only[Ae,List.not_mem_nil,or_false]at hr;rcases hr with rfl|rfl
    ·exact⟨kT1,λg' CE=>q2 g' (aft.old T GM g' CE),by rw[keT,q3],by rw[kT2,kgT];exact Bg,by rw[kgT]⟩
    ·exact⟨by rw[kgu],by rw[kgu]⟩)
  refine⟨?_,λt ht=> ?_,by rw[keT];omega⟩
  ·have:(recs.map λr=>(r.tag,C5 [] r.bq))=[(T, .deep e z l g (ep+1) (.set c0 i (.put (.idx c0 i) o' x (Am P e)))),(u, .dead)]:=by
    rw[<-A5];simp[C5]
   rw[this]at hrel;exact hrel
  ·rcases ht with ht|⟨r,hr,rfl⟩
   ·exact ht
   ·rw[<-A5]at hr;simp only[Ae,List.not_mem_nil,or_false]at hr;rcases hr with rfl|rfl
    ·exact GM
    ·exact WW
 have WW:c.U u:=h.c6 u r hu;unfold Wf at hr;simp only at hr;split at hr
 ·rename_i e2 z2 l2 e3 z3 x BT;split at hr
  ·rename_i hh;obtain⟨hf,rfl,rfl,hlen,AK⟩:=hh;simp only[Ad]at hr;obtain⟨q1,q2,N,q4,q5,q6,q7⟩:=h.ents u _ (by rw[hu];rfl);obtain⟨hN,_⟩:=q6 rfl;have hN:N=[]:=hN;subst hN;exact key _ _ _ _ BT (DC.ko q4 hf hlen) WW hr.symm (by rcases AK with hh|hh;(rw[hh];simp);exact λ_=>hh)
  ·cases hr
 ·rename_i e2 z2 l2 e3 z3 l3 x BT;split at hr
  ·rename_i hh;obtain⟨rfl,rfl,hb,AK⟩:=hh;simp only[Ad]at hr;have hb:=Av.of_eq hb;subst hb;obtain⟨q1,q2,q3,q4,q5⟩:=h.ents u _ (by rw[hu];rfl);rw[Av.c8]at q4;exact key _ _ _ _ BT q4 WW hr.symm (by rcases AK with hh|hh;(rw[hh];simp);exact λ_=>hh)
  ·cases hr
 ·cases hr
end
section
variable {P:Program} {c:Cx} {n nx:Nat} {sl sl0:Nat->SV} {hp hp0:Nat->Option Af} {a:Act} {o:Oper} {gs:Gd} {e:Bh} {sg:BY} {nv:Nat}
theorem Sj(hp:Nat->Option Af):∀(l:List (Nat × Af)) (t:Nat),Bp hp l t=match Mo l t with|some f=>some f|none=>hp t
 | [],t=>rfl
 |(u,e)::l,t=>by
  have:=Sj (λv=>if v=u then some e else hp v) l t;simp only[Bp,List.foldl_cons,Mo]at this ⊢;rw[this];cases Mo l t with
  |some f=>rfl
  |none=>
   simp only;by_cases h:u=t
   ·rw[if_pos h.symm,if_pos h]
   ·rw[if_neg (Ne.symm h),if_neg h]
theorem zue{hp:Nat->Option Af}{T v m u:Nat}{p:E × Nat × Nat}{h r:Af}(hs:Wi hp T v m u p=some (h,r)):∃e z l ep c0 i o',h= .hol e z l v (m+1) c0 i o' u/\Dq hp [] T=some (.deep e z l v ep c0)/\ep=m:=by
 unfold Wi at hs;split at hs
 ·rename_i hl;split at hs
  ·rename_i hh;obtain⟨rfl,rfl,_⟩:=hh;split at hs
   ·simp only[Ad,AY]at hs;obtain⟨rfl,_⟩:=hs;exact⟨_,_,_,_,_,_,_,rfl,hl,rfl⟩
   ·cases hs
  ·cases hs
 ·cases hs
theorem zuG{h r d:Af}{e z:Nat}{l:List DT}{g ep:Nat}{c0 i:E}{o' u:Nat}(hh:h= .hol e z l g ep c0 i o' u)(hc:Wf P h r=some d):∃x,d= .deep e z l g (ep+1) x:=by
 subst hh;unfold Wf at hc;simp only at hc;split at hc
 ·split at hc
  ·simp only[Ad]at hc;exact⟨_,hc.symm⟩
  ·cases hc
 ·split at hc
  ·simp only[Ad]at hc;exact⟨_,hc.symm⟩
  ·cases hc
 ·cases hc
theorem zEx(J2:∀f s,sg f=some s->f<1000000)(h:BE P c n nx sl hp a sl0 hp0 o [])(hu: ¬c.U (nx+999))(he:Wt P sg sl0 hp0 nv nx o=some e)
  (hc:∀q∈e.cj,q.den c.ρ) (Bu:∀cl,e.call=some cl-> ∃r,c.ρ[nv]?=some r/\IZ (Co P sg) cl.fn ((EL.of cl.args).den c.ρ) c.ρ r):AD P o c n nx sl hp [] a e:=by
 unfold Wt at he;simp only at he;split at he
 ·cases he
 rename_i t T v m p s MK;split at he
 ·cases he
 rename_i hl inn Uj;split at he
 ·cases he
 rename_i e0 LB;split at he
 ·cases he
 rename_i Dc;have Dc:e0.ch=none:=by cases hh:e0.ch with|none=>rfl|some x=>rw[hh]at Dc;simp at Dc
 obtain⟨Es,A4⟩:=VD MK;have Es:Operand.tmp t∈o.op.operands:=by simpa using Es
 obtain⟨fe,fz,fl,fep,fc0,fi,fo,rfl,HY,rfl⟩:=zue Uj;have hE:c.E T=fep:=(h.eh T _ (CP HY (E4 _))).2.2.1;have E0:=h.rel.da t;rw[<-h.sl t Es]at E0;obtain⟨vv,J0,Bb⟩:∃vv,I2 c T v (some p) vv/\ ∀c1:Cx,c1.ρ=c.ρ->c1.K (nx+999) 0->c1.H (nx+999) 0=vv->(∃q n r,vv= .slice q n r/\(q=none\/n=0\/ ∃g,q=some ⟨g,0,none⟩))->SR c1 [s] [a.tmps.getD t undef]:=by
  rcases A4 with⟨y,Dr,rfl⟩|⟨y,k,z,q,Dr,rfl⟩
  ·rw[Dr]at E0;generalize a.tmps.getD t undef=av at E0 ⊢;cases E0 with
   |via h1 h2 h3 _=>obtain⟨_,hp⟩:=h3 hE;refine⟨_,hp,λc1 e1 k1 k2 k3=> ?_⟩;obtain⟨q,n,r,rfl,_⟩:=k3;exact .own k1 k2 .nil
  ·rw[Dr]at E0;generalize a.tmps.getD t undef=av at E0 ⊢;cases E0 with
   |vptr h1 h2 h3 _=>
    obtain⟨b,off,len,cap,kk,kv,g1,g2,g3,g4,g5,g6,rfl⟩:=h3 hE;refine⟨_,g2,λc1 e1 k1 k2 k3=> ?_⟩;obtain⟨q9,n9,r9,hv,hq⟩:=k3;cases hv;have Gv:off=0:=by
     rcases hq with hq|hq|⟨g,hq⟩
     ·cases hq
     ·omega
     ·cases hq;rfl
    subst Gv;have:=SR.cz (c:=c1) (i:=k) (sz:=z) (o:=q) k1 k2 (by rw[e1];exact g3) g4 g5 .nil;simpa using this
 obtain⟨recs,c1,rfl,DJ,OI,hK1,Lr,hvv,bK,hKT,_,oY,JC⟩:=h.rel.split Uj h.hp hu (λ_=>J0);have LR:=Bb _ OI.ρ hK1 Lr hvv;have Fv:=DJ.iy (sl':=λi=>if i=t then s else sl i) (λi=>by
  by_cases hi:i=t
  ·subst hi;right;simpa using LR
  ·left;simp[hi])
 have Ec:∀x,Bp hp [(T, .hol fe fz fl v (fep+1) fc0 fi fo (nx+999)),(nx+999,inn)] x=if x=nx+999 then some inn else if x=T then some (.hol fe fz fl v (fep+1) fc0 fi fo (nx+999))else hp x:=λx=>rfl;have pre1:BE P (c.du c.w recs) n nx (λi=>if i=t then s else sl i) (Bp hp [(T, .hol fe fz fl v (fep+1) fc0 fi fo (nx+999)),(nx+999,inn)]) a (λi=>if i=t then s else sl0 i) (λw=>if w=T then some (.hol fe fz fl v (fep+1) fc0 fi fo (nx+999))else if w=nx+999 then some inn else hp0 w) o []:=by
  refine⟨Fv,E4 _,λi hi=> ?_,λx f hf=> ?_,λx h1 h2 hx=> ?_⟩
  ·by_cases MQ:i=t
   ·simp[MQ]
   ·simp only[if_neg MQ];exact h.sl i hi
  ·rw[Ec];by_cases h1:x=T
   ·rw[if_pos h1]at hf;rw[if_neg (by rw[h1];exact JC),if_pos h1];exact hf
   ·rw[if_neg h1]at hf;by_cases h2:x=nx+999
    ·rw[if_pos h2]at hf ⊢;exact hf
    ·rw[if_neg h2]at hf;rw[if_neg h2,if_neg h1];exact h.hp x f hf
  ·rcases bK x hx with hx|hx
   ·exact h.new x h1 h2 hx
   ·omega
 have hdst:∀(c':Cx) (a':Act) (w9:SV),Rel c' n (CZ n (λi=>if i=t then s else sl i) o.dst w9) (λ_=>none) a'->True:=λ_ _ _ _=>trivial;have stale:∀(c':Cx) (v':Value),c'.K T v->fep<c'.E T->SR c' [sl t] [v']:=by
  intro c' v' hk Ax;rw[<-h.sl t Es];rcases A4 with⟨y,Dr,_⟩|⟨y,k,z,q,Dr,_⟩
  ·rw[Dr];exact .via hk (by omega) (λhh=>by omega) .nil
  ·rw[Dr];exact .vptr hk (by omega) (λhh=>by omega) .nil
 have back:∀{c':Cx} {hp':Nat->Option Af} {a':Act} {w9:SV},Rel c' n (CZ n (λi=>if i=t then s else sl i) o.dst w9) hp' a'->c'.K T v->fep<c'.E T->Rel c' n (CZ n sl o.dst w9) hp' a':=by
  intro c' hp' a' w9 hr hk Ax;refine hr.iy λi=> ?_;unfold CZ;by_cases h1:o.dst=some i/\i<n
  ·left;rw[if_pos h1,if_pos h1]
  ·rw[if_neg h1,if_neg h1];by_cases h2:i=t
   ·subst h2;right;exact stale _ _ hk Ax
   ·left;show sl i=if i=t then s else sl i;rw[if_neg h2]
 split at he
 ·
  split at he
  ·rename_i EV;simp only[Ad]at he;subst he;have JH:=eX J2 pre1 LB hc Bu (λx hx=>by rw[Dc]at hx;cases hx);intro next Q hk
   refine JH next Q λa' c' Bi hr=> ?_
   have bI:Bp (Bp hp [(T, .hol fe fz fl v (fep+1) fc0 fi fo (nx+999)),(nx+999,inn)]) e0.bq T=some (.hol fe fz fl v (fep+1) fc0 fi fo (nx+999)):=by rw[Sj,EV,Ec,if_neg JC,if_pos rfl]
   obtain⟨g1,_,g3,_⟩:=hr.ents T _ (by rw[bI];rfl);refine hk a' c' ⟨Bi.ρ,Bi.A,Bi.w0,Bi.Mu,λx hx=> ?_⟩ (back hr g1 (by omega));rcases Bi.U x hx with hx|hx
   ·rcases bK x hx with hx|hx
    ·exact .inl hx
    ·exact .inr ⟨by omega,by simp only[BW];omega⟩
   ·exact .inr hx
  ·cases he
 ·split at he
  ·rename_i r' hlu hlT;obtain⟨d,hd,rfl⟩:=As.1 he;have JH:=eX J2 pre1 LB hc Bu (λx hx=>by rw[Dc]at hx;cases hx);intro next Q hk
   refine JH next Q λa' c' Bi hr=> ?_
   have bI:Bp (Bp hp [(T, .hol fe fz fl v (fep+1) fc0 fi fo (nx+999)),(nx+999,inn)]) e0.bq T=some (.hol fe fz fl v (fep+1) fc0 fi fo (nx+999)):=by rw[Sj,hlT,Ec,if_neg JC,if_pos rfl]
   have hue:Bp (Bp hp [(T, .hol fe fz fl v (fep+1) fc0 fi fo (nx+999)),(nx+999,inn)]) e0.bq (nx+999)=some r':=by rw[Sj,hlu]
   obtain⟨recs2,c2,rfl,DR,hU2,hE2⟩:=hr.close bI hue hd ⟨_,_,_,_,_,_,_,_,rfl⟩ JC;obtain⟨x9,rfl⟩:=zuG rfl hd;have bJ:Bp (Bp (Bp hp [(T, .hol fe fz fl v (fep+1) fc0 fi fo (nx+999)),(nx+999,inn)]) e0.bq) [(T, .deep fe fz fl v (fep+1+1) x9),(nx+999, .dead)] T=some (.deep fe fz fl v (fep+1+1) x9):=by show(if T=nx+999 then _ else if T=T then _ else _)=_;rw[if_neg JC,if_pos rfl]
   obtain⟨g1,_,g3,_⟩:=DR.ents T _ (by rw[bJ];rfl);have D9:=back DR g1 (by omega);have BI:Bp hp ((T, .hol fe fz fl v (fep+1) fc0 fi fo (nx+999))::(nx+999,inn)::e0.bq++ [(T, .deep fe fz fl v (fep+1+1) x9),(nx+999, .dead)])=Bp (Bp (Bp hp [(T, .hol fe fz fl v (fep+1) fc0 fi fo (nx+999)),(nx+999,inn)]) e0.bq) [(T, .deep fe fz fl v (fep+1+1) x9),(nx+999, .dead)]:=by rw[<-PI,<-PI];rfl
   refine hk a' (c'.du c'.w recs2) ⟨Bi.ρ,Bi.A,Bi.w0,Bi.Mu,λx hx=> ?_⟩ ?_
   ·rcases Bi.U x (hU2 x hx)with hx|hx
    ·rcases bK x hx with hx|hx
     ·exact .inl hx
     ·exact .inr ⟨by omega,by simp only[BW];omega⟩
    ·exact .inr hx
   ·have:=D9;rw[<-BI]at this;exact this
  ·cases he
theorem zAv(h:BE P c n nx sl hp a sl0 hp0 o gs){e:Bh}(dp:Bool)(hd:AD P o c n nx sl hp gs a e):AD P o c n nx sl hp gs a (KH dp hp0 gs e):=by
 unfold KH;split
 ·exact hd
 ·split
  ·rename_i l hl;intro next Q hk
   refine hd next Q λa' c' hs hr=> ?_
   have e1:Bp hp0 e.bq=λt=>match Mo e.bq t with|some f=>some f|none=>hp0 t:=funext (Sj hp0 e.bq)
   have hl:D3 (Bp hp0 e.bq) [] (zK e.bq)=some l:=by rw[e1];exact hl
   have I8:=hr.freeze (hp0:=Bp hp0 e.bq) (λt e' h'=>by
    rw[Sj]at h' ⊢;split at h'
    ·exact h'
    ·exact h.hp t e' h') (E4 _) hl
   refine hk a' (c'.ca (l.map (·.1))) ⟨hs.ρ,hs.A,hs.w0,hs.Mu,hs.U⟩ ?_;show Rel _ _ _ (Bp hp (e.bq++l)) a';rw[PI];exact I8
  ·exact hd
theorem zyf(dp:Bool)(e:Bh):(KH dp hp0 gs e).call=e.call:=by
 unfold KH;split
 ·rfl
 ·split<;>rfl
theorem zAT(dp:Bool)(e:Bh):(KH dp hp0 gs e).cj=e.cj:=by
 unfold KH;split
 ·rfl
 ·split<;>rfl
theorem lE(dp:Bool)(e:Bh):(KH dp hp0 gs e).ch=e.ch:=by
 unfold KH;split
 ·rfl
 ·split<;>rfl
theorem zzf{dp:Bool}{e:Bh}{x:E}(h:e.ch=some x):KH dp hp0 gs e=e:=by unfold KH;rw[if_pos (by simp[h])]
theorem zCi(h:BE P c n nx sl hp a sl0 hp0 o gs){e:Bh}(fz:Bool)(hd:AD P o c n nx sl hp gs a e):AD P o c n nx sl hp gs a (KK fz hp0 gs e):=by
 unfold KK;split
 ·exact hd
 ·rename_i bP;simp only[Bool.or_eq_true,not_or]at bP;have hen:e.bq=[]:=by simpa using bP.2
  split
  ·rename_i t g m p x hv;split
   ·rename_i y l hy hl;split
    ·rename_i IK;intro next Q hk
     refine hd next Q λa' c' hs hr=> ?_
     rw[hen]at hr;have cK:gs=[]:=by simpa using bP.1.1.1.2
     subst cK;have hr:Rel c' n (CZ n sl o.dst e.val) hp a':=hr;have eh:EH c' hp0:=λt e CJ=>hr.ents t e (Mi h.hp CJ);have I8:=hr.freeze h.hp (E4 _) hl;refine hk a' (c'.ca (l.map (·.1))) ⟨hs.ρ,hs.A,hs.w0,hs.Mu,hs.U⟩ ?_;refine{I8 with da:=λi=> ?_};have h1:=hr.da i;have h2:=I8.da i;unfold CZ at h1 h2 ⊢;split
     ·rename_i hi;rw[if_pos hi]at h1;obtain⟨f,q1,q2⟩:=Ig eh (E4 _) A8 hy h1 A8 (AN _);exact .e q1 (λb hb=>VG hr eh (E4 _) hl IK (q2 b hb)) .nil
     ·rename_i hi;rw[if_neg hi]at h2;exact h2
    ·exact hd
   ·exact hd
  ·exact hd
theorem zAy(fz:Bool)(e:Bh):(KK fz hp0 gs e).call=e.call:=by
 unfold KK;split
 ·rfl
 ·split
  ·split
   ·split<;>rfl
   ·rfl
  ·rfl
theorem zBv(fz:Bool)(e:Bh):(KK fz hp0 gs e).cj=e.cj:=by
 unfold KK;split
 ·rfl
 ·split
  ·split
   ·split<;>rfl
   ·rfl
  ·rfl
theorem yH(fz:Bool)(e:Bh):(KK fz hp0 gs e).ch=e.ch:=by
 unfold KK;split
 ·rfl
 ·split
  ·split
   ·split<;>rfl
   ·rfl
  ·rfl
theorem zBu{fz:Bool}{e:Bh}{x:E}(h:e.ch=some x):KK fz hp0 gs e=e:=by unfold KK;rw[if_pos (by simp[h])]
theorem zFG(J2:∀f s,sg f=some s->f<1000000):O8 P sg (Co P sg):=by
 intro c n nx sl hp a sl0 hp0 o gs e nv h hu he hc Bu Dc;unfold Mt at he;split at he
 ·rename_i e' Fc;simp only[Ad]at he;subst he;rw[zBv,zAT]at hc;rw[zAy,zyf]at Bu;rw[yH,lE]at Dc;exact zCi h _ (zAv h _ (eX J2 h Fc hc Bu Dc))
 ·split at he
  ·exact zEx J2 h hu he hc Bu
  ·cases he
theorem zwb{x:E}(he:Wt P sg sl0 hp0 nv nx o=some e)(hq:e.ch=some x):False:=by
 unfold Wt at he;simp only at he;split at he
 ·cases he
 split at he
 ·cases he
 split at he
 ·cases he
 rename_i e0 LB;split at he
 ·cases he
 rename_i Dc;have Dc:e0.ch=none:=by cases hh:e0.ch with|none=>rfl|some x=>rw[hh]at Dc;simp at Dc
 split at he
 ·split at he
  ·simp only[Ad]at he;subst he;rw[Dc]at hq;cases hq
  ·cases he
 ·split at he
  ·obtain⟨d,hd,rfl⟩:=As.1 he;rw[Dc]at hq;cases hq
  ·cases he
theorem zvP{x:E}(he:Mt P sg sl0 hp0 nv nx gs o=some e)(hq:e.ch=some x):BX P sg sl0 hp0 nv nx gs o=some e:=by
 unfold Mt at he;split at he
 ·rename_i e' Fc;simp only[Ad]at he;subst he;rw[yH,lE]at hq;rw[zBu (by rw[lE];exact hq),zzf hq];exact Fc
 ·split at he
  ·exact(zwb he hq).elim
  ·cases he
theorem zEI:WK P sg:=by
 intro c n nx sl hp a sl0 hp0 o gs e nv x h he hq hb;unfold Li at hb;cases AW:o.op with
 |binOp op t y z ty=>
  rw[AW]at hb;simp only at hb;have he:=zvP he hq;simp only[BX,AW,Au]at he;obtain⟨s1,BL,s2,Bb,he⟩:=he;have key:∀xq,BF hp0 gs A8 s1=some xq->xq.den c.ρ= .sl []:=by
   intro xq J6;obtain⟨f,q1,_⟩:=h.jv BL (by simp[AW,Op.operands]) J6;generalize a.eval y=v at q1 hb;split at hb
   ·generalize xq.den c.ρ=d at q1;cases q1 with
    |ed _=>rfl
   ·cases hb
  unfold S8 at he;split at he
  ·split at he
   ·simp at he;subst he;cases hq
   ·simp at he;subst he;cases hq
   ·obtain⟨xq,J6,rfl⟩:=As.1 he;cases hq;exact key _ J6
   ·obtain⟨xq,J6,rfl⟩:=As.1 he;cases hq;exact key _ J6
   ·cases he
  ·split at he
   ·simp at he;subst he;cases hq
   ·cases he
  ·split at he
   ·simp at he;subst he;cases hq
   ·cases he
  ·split at he
   ·simp at he;subst he;cases hq
   ·cases he
  ·split at he
   ·cases he
   ·split at he
    ·split at he
     ·simp at he;subst he;cases hq
     ·simp at he;subst he;cases hq
     ·cases he
    ·cases he
  ·cases he
 |_=>rw[AW]at hb;simp at hb
end
def Hw(ms:List PM)(vs:List Value)(t:Nat):Option Value:=
 if Oa t then(match vs[t/1000]?,(ms[t/1000]?).getD .ro with
  |some v, .bx .. =>if t % 1000=0 then some v else none
  |some v, .mu _=>if 500<=t % 1000 then v.cells[t % 1000-500]? else none
  |_,_=>none)
 else none
section
variable {P:Program} {c:Cx} {w:World}
theorem Cz.ia{ts:List TypeId}{fl:List Bool}{us:List Value}{ys:List AV}{rf hs:List Nat}(h:Cz P w ts fl us ys rf hs){nx:Nat}{mk:Nat->E}{j:Nat}:∀(k:Nat) (u:Value),us[k]?=some u->(∃e,(nx+j+k,e)∈(Dd P nx mk j ts fl).2)->u.cells= #[u]:=by
 induction h generalizing j with
 |nil=>intro k u hu _;simp at hu
 | @deep t ts fl el e9 z9 l9 u us y ys top rf hs h1 h2 Tl Qe h3 _ ih=>
  intro k u' hu he;cases k with
  |zero=>simp at hu;subst hu;obtain⟨p,q,r,rfl⟩:=h3.head;rfl
  |succ k=>
   refine ih (j:=j+1) k u' (by simpa using hu) ?_;obtain⟨e,he⟩:=he;simp only[Dd,h1,h2,Ae,AY]at he;rcases he with⟨he,_⟩|he
   ·omega
   ·exact⟨e,by rw[show nx+(j+1)+k=nx+j+(k+1)from by omega];exact he⟩
 | @own t ts fl el u us y ys top N rf hs h1 h2 ME h3 _ ih=>
  intro k u' hu he;cases k with
  |zero=>simp at hu;subst hu;obtain⟨xs,_,_,_,⟨_,⟨a,rfl⟩,_⟩|⟨g,cap,C,rfl,_⟩⟩:=h3<;>rfl
  |succ k=>
   refine ih (j:=j+1) k u' (by simpa using hu) ?_;obtain⟨e,he⟩:=he;simp only[Dd,h1,h2,Ae,AY]at he;rcases he with⟨he,_⟩|he
   ·omega
   ·exact⟨e,by rw[show nx+(j+1)+k=nx+j+(k+1)from by omega];exact he⟩
 | @rd t ts fl u us y ys f rf hs h1 h3 _ ih=>
  intro k u' hu he;obtain⟨e,he⟩:=he;have TR:(Dd P nx mk j (t::ts) fl).2=(Dd P nx mk (j+1) ts fl.tail).2:=by
   simp only[Dd];split
   ·rename_i h8 h9;rw[h1 h8]at h9;cases h9
   ·rfl
  rw[TR]at he;cases k with
  |zero=>
   exfalso;have key:∀(ts:List TypeId) (fl:List Bool) (j' t':Nat) (e':Af),(t',e')∈(Dd P nx mk j' ts fl).2->nx+j'<=t':=by
    intro ts
    induction ts with
    |nil=>intro fl j' t' e' h;simp[Dd]at h
    |cons a ts ih2=>
     intro fl j' t' e' h;simp only[Dd]at h;split at h
     ·simp only[Ae,AY]at h;rcases h with⟨h,_⟩|h
      ·omega
      ·have:=ih2 _ _ _ _ h;omega
     ·have:=ih2 _ _ _ _ h;omega
   have:=key _ _ _ _ _ he;omega
  |succ k=>exact ih (j:=j+1) k u' (by simpa using hu) ⟨e,by rw[show nx+(j+1)+k=nx+j+(k+1)from by omega];exact he⟩
theorem wJ{i b:Nat}(hb:b+400<=1000){t:TypeId}{own:List Bool}{s:SV}{l:List (Nat × Af)}{v:Value}{x:AV}{rf hs:List Nat}(h:S7 P i b t own=some (s,l))(hv:N6 P w t own v x rf hs)(hx:(E.var i).den c.ρ=x):
  ∃recs:List AX,l=recs.map AX.pair/\recs.flatMap AX.top=hs/\(∀r∈recs,1000*i+b<=r.tag/\r.tag<1000*i+1000/\r.new.isSome)/\(recs.map AX.tag).Nodup/\(∀r∈recs,r.new=v.cells[r.tag-(1000*i+b)]?)/\
   ∀c',Fi c c' w recs->(∀b∈rf,c'.ok b)->SR c' [s] [v]/\ ∀r∈recs,DE c' r.tag r.bq:=by
 obtain⟨us,ys,hg,hc⟩:=hv;unfold S7 at h;simp only at h;split at h
 ·cases h
 rename_i hle;split at hg
 ·rename_i AK;obtain⟨rfl,rfl,Cp⟩:=hg;obtain⟨recs,e1,e2,e3,e4,e4',e5⟩:=RW (c:=c) (nx:=1000*i+b) (mk:=DW (.var i) (Am P t)) hc 0 (by rw[AK];exact VW hx);rw[if_pos AK]at h;simp only[Ad,AY]at h;obtain⟨rfl,rfl⟩:=h;refine⟨recs,e1,e2,λr hr=>by have:=e3 r hr;exact⟨by omega,by omega,this.2.2⟩,e4,λr hr=>by rw[e4' r hr];simp[Value.cells],λc' ha AZ=> ?_⟩;obtain⟨q1,q2⟩:=e5 c' ha AZ;exact⟨.agg Cp (by rw[BP.ax];exact q1) .nil,q2⟩
 ·rename_i AK;obtain⟨rfl,rfl⟩:=hg;have G9:Am P t=false:=by simpa using AK
  obtain⟨recs,e1,e2,e3,e4,e4',e5⟩:=RW (c:=c) (nx:=1000*i+b) (mk:=DW (.var i) (Am P t)) hc 0 (by
   intro k z hz;cases k with
   |zero=>simp at hz;subst hz;rw[G9];simpa[DW]using hx
   |succ k=>simp at hz)
  rw[if_neg AK]at h;split at h
  ·rename_i s' A9;simp only[Ad,AY]at h;obtain⟨rfl,rfl⟩:=h;refine⟨recs,e1,e2,λr hr=>by have:=e3 r hr;exact⟨by omega,by omega,this.2.2⟩,e4,λr hr=> ?_,λc' ha AZ=> ?_⟩
   ·have CJ:=e4' r hr;have h3:=e3 r hr;rw[CJ,Nat.add_zero];have hlen:=hc.len;have Ql:r.tag-(1000*i+b)=0:=by
     have:=hlen.1;simp at this;omega
    rw[Ql];have:=hc.ia (nx:=1000*i+b) (mk:=DW (.var i) (Am P t)) (j:=0) 0 v rfl ⟨r.bq,by rw[e1];exact List.mem_map.2 ⟨r,hr,by simp[AX.pair];omega⟩⟩;rw[this];rfl
   ·obtain⟨q1,q2⟩:=e5 c' ha AZ;rw[A9]at q1;exact⟨q1,q2⟩
  ·cases h
theorem xE{ms0:List PM}{vs0:List Value}:∀(ts:List TypeId) (i:Nat) {ms:List PM} {lo:List Bool} {ss:List SV} {l:List (Nat × Af)} {vs:List Value} {xs:List AV} {rf lf hs:List Nat},NH P i ts ms lo=some (ss,l)->DV P w ts ms lo vs xs rf lf hs->(∀k x,xs[k]?=some x->(E.var (i+k)).den c.ρ=x)->(∀k,ms[k]?=ms0[i+k]?)->(∀k,vs[k]?=vs0[i+k]?)->
  ∃recs:List AX,l=recs.map AX.pair/\recs.flatMap AX.top=hs/\(∀r∈recs,1000*i<=r.tag/\r.tag<1000*(i+ts.length)/\r.new.isSome)/\(recs.map AX.tag).Nodup/\(∀r∈recs,∀v,Hw ms0 vs0 r.tag=some v->r.new=some v)/\ss.length=ts.length/\ts.length<=vs.length/\
   ∀c',Fi c c' w recs->(∀b∈rf,c'.ok b)->(∀(k:Nat) (v:Value) (x:AV),(ms[k]?).getD .ro= .ro->vs[k]?=some v->xs[k]?=some x->c'.A.lo v x)->SR c' (ss++(List.range (vs.length-ts.length)).map λj=>SV.e (.var (i+ts.length+j))) vs/\ ∀r∈recs,DE c' r.tag r.bq
 | [],i,ms,lo,ss,l,vs,xs,rf,lf,hs,h,ha,hx,_,_=>by
  simp[NH]at h;obtain⟨rfl,rfl⟩:=h;have key:∀{ms:List PM} {lo:List Bool} {vs:List Value} {xs:List AV} {rf lf hs:List Nat},DV P w [] ms lo vs xs rf lf hs->hs=[]/\Rd w vs xs rf:=by
   intro ms lo vs
   induction vs generalizing ms lo with
   |nil=>intro xs rf lf hs h;cases h;exact⟨rfl, .nil⟩
   |cons v vs ih=>
    intro xs rf lf hs h;cases h with
    |free h1 h2=>obtain⟨rfl,h3⟩:=ih h2;exact⟨rfl,h1.app h3⟩
  obtain⟨rfl,Dj⟩:=key ha;refine⟨[],rfl,rfl,by simp,by simp,by simp,rfl,by simp,λc' FK AZ _=>⟨?_,by simp⟩⟩;have frees:∀(vs:List Value) {xs:List AV} {rf:List Nat} (j:Nat),Rd w vs xs rf->(∀k x,xs[k]?=some x->(E.var (i+j+k)).den c.ρ=x)->(∀b∈rf,c'.ok b)->SR c' ((List.range vs.length).map λq=>SV.e (.var (i+j+q))) vs:=by
   intro vs
   induction vs with
   |nil=>intro xs rf j h _ _;simpa using SR.nil
   |cons v vs ih=>
    intro xs rf j h hx AZ;cases xs with
    |nil=>have:=h.len;simp at this
    |cons x xs=>
     obtain⟨f1,f2,rfl,h1,h2⟩:=h.cr;have h3:=ih (j+1) h2 (λk y hy=>by rw[show i+(j+1)+k=i+j+(k+1)from by omega];exact hx (k+1) y (by simpa using hy)) λb hb=>AZ b (by simp[hb]);rw[Bd,List.range_succ_eq_map,List.map_cons,List.map_map];refine SR.cons (.e (f:=f1) (by rw[FK.w,FK.ρ];have:=hx 0 x rfl;simp only[Nat.add_zero]at this ⊢;rw[this];exact h1) (λb hb=>AZ b (by simp[hb])) .nil) ?_;have e:((λq=>SV.e (.var (i+j+q)))∘Nat.succ)=λq=>SV.e (.var (i+(j+1)+q)):=by funext q;simp only[Function.comp_apply];rw[show i+j+q.succ=i+(j+1)+q from by omega]
     rw[e];exact h3
  simpa using frees vs 0 Dj (by simpa using hx) AZ
 |t::ts,i,ms,lo,ss,l,vs,xs,rf,lf,hs,h,ha,hx,EW,KQ=>by
  unfold NH at h;split at h
  ·rename_i s l1 ss' l2 h1 h2;simp only[Ad,AY]at h;obtain⟨rfl,rfl⟩:=h;obtain⟨v,vs,x,xs,f,hh,rf,lf,hs,rfl,rfl,rfl,rfl,EZ,Bn⟩:∃v vs' x xs' f hh rf' lf' A9,vs=v::vs'/\xs=x::xs'/\rf=f++rf'/\hs=hh++A9/\DV P w ts ms.tail lo.tail vs' xs' rf' lf' A9/\(fS P w t (ms.headD .ro) v x f hh\/(lo.headD false=true/\ms.headD .ro= .ro/\f=[]/\hh=[])):=by
    cases ha with
    |cons h1 h2=>exact⟨_,_,_,_,_,_,_,_,_,rfl,rfl,rfl,rfl,h2, .inl h1⟩
    |lent h1 h2 h3 h4=>exact⟨_,_,_,_,[],[],_,_,_,rfl,rfl,by simp,by simp,h4, .inr ⟨h1,h2,rfl,rfl⟩⟩
   have Cr:ms.headD .ro=(ms0[i]?).getD .ro:=by have:=EW 0;rw[Nat.add_zero]at this;rw[<-this];cases ms<;>rfl
   have O1:vs0[i]?=some v:=by have:=KQ 0;simpa using this.symm
   have FC:(E.var i).den c.ρ=x:=by simpa using hx 0 x rfl
   obtain⟨r2,b1,b2,b3,b4,b4',b6,b7,b5⟩:=xE ts (i+1) h2 EZ (λk y hy=>by rw[show i+1+k=i+(k+1)from by omega];exact hx (k+1) y (by simpa using hy)) (λk=>by rw[show i+1+k=i+(k+1)from by omega,<-EW (k+1)];cases ms<;>simp) (λk=>by rw[show i+1+k=i+(k+1)from by omega,<-KQ (k+1)];simp);have fin:∀(r1:List AX),l1=r1.map AX.pair->r1.flatMap AX.top=hh->(∀r∈r1,1000*i<=r.tag/\r.tag<1000*i+1000/\r.new.isSome)->(r1.map AX.tag).Nodup->(∀r∈r1,∀v,Hw ms0 vs0 r.tag=some v->r.new=some v)->
     (∀c',Fi c c' w r1->(∀b∈f,c'.ok b)->(ms.headD .ro= .ro->c'.A.lo v x)->SR c' [s] [v]/\ ∀r∈r1,DE c' r.tag r.bq)->
     ∃recs:List AX,l1++l2=recs.map AX.pair/\recs.flatMap AX.top=hh++hs/\(∀r∈recs,1000*i<=r.tag/\r.tag<1000*(i+(t::ts).length)/\r.new.isSome)/\(recs.map AX.tag).Nodup/\(∀r∈recs,∀v,Hw ms0 vs0 r.tag=some v->r.new=some v)/\(s::ss').length=(t::ts).length/\(t::ts).length<=(v::vs).length/\
      ∀c',Fi c c' w recs->(∀b∈f++rf,c'.ok b)->(∀(k:Nat) (v':Value) (x':AV),(ms[k]?).getD .ro= .ro->(v::vs)[k]?=some v'->(x::xs)[k]?=some x'->c'.A.lo v' x')->SR c' ((s::ss')++(List.range ((v::vs).length-(t::ts).length)).map λj=>SV.e (.var (i+(t::ts).length+j))) (v::vs)/\ ∀r∈recs,DE c' r.tag r.bq:=by
    intro r1 a1 a2 a3 a4 a4' a5;refine⟨r1++r2,by simp[a1,b1],by simp[a2,b2],λr hr=> ?_,?_,λr hr=> ?_,by simp[b6],by simp[b7],λc' FK AZ BT=> ?_⟩
    ·simp only[Bd];rcases Ac.1 hr with hr|hr
     ·have:=a3 r hr;exact⟨this.1,by omega,this.2.2⟩
     ·have:=b3 r hr;exact⟨by omega,by omega,this.2.2⟩
    ·rw[List.map_append,List.nodup_append];refine⟨a4,b4,λt1 Jf t2 KP he=> ?_⟩;obtain⟨q1,GQ,rfl⟩:=List.mem_map.1 Jf;obtain⟨q2,Fu,rfl⟩:=List.mem_map.1 KP;have:=a3 q1 GQ;have:=b3 q2 Fu;omega
    ·rcases Ac.1 hr with hr|hr
     ·exact a4' r hr
     ·exact b4' r hr
    ·obtain⟨p1,p2⟩:=a5 c' (FK.mono λr hr=>by simp[hr]) (λb hb=>AZ b (by simp[hb])) λhl=>BT 0 v x (by cases ms<;>exact hl) rfl rfl;obtain⟨q1,q2⟩:=b5 c' (FK.mono λr hr=>by simp[hr]) (λb hb=>AZ b (by simp[hb])) λk v' x' k1 k2 k3=>BT (k+1) v' x' (by cases ms with|nil=>rfl|cons b l=>simpa using k1) (by simpa using k2) (by simpa using k3);refine⟨?_,λr hr=> ?_⟩
     ·have:=p1.cons q1;have e:(λj=>SV.e (.var (i+1+ts.length+j)))=λj=>SV.e (.var (i+(t::ts).length+j)):=by
       funext j;simp only[Bd];rw[show i+1+ts.length+j=i+(ts.length+1)+j from by omega]
      rw[e]at this;simpa using this
     ·rcases Ac.1 hr with hr|hr
      ·exact p2 r hr
      ·exact q2 r hr
   have pinMu:∀{own:List Bool} {r:AX},ms.headD .ro= .mu own->1000*i+500<=r.tag->r.tag<1000*i+1000->r.new=v.cells[r.tag-(1000*i+500)]?-> ∀v',Hw ms0 vs0 r.tag=some v'->r.new=some v':=by
    intro own r hm t1 t2 hn v' hp;unfold Hw at hp;split at hp
    ·rw[show r.tag/1000=i from by omega,O1,<-Cr,hm]at hp;simp only at hp;split at hp
     ·rw[hn,show r.tag-(1000*i+500)=r.tag % 1000-500 from by omega];exact hp
     ·cases hp
    ·cases hp
   have pinVa:∀{own:List Bool} {r:AX},ms.headD .ro= .va own->1000*i<=r.tag->r.tag<1000*i+1000-> ∀v',Hw ms0 vs0 r.tag=some v'->r.new=some v':=by
    intro own r hm t1 t2 v' hp;unfold Hw at hp;split at hp
    ·rw[show r.tag/1000=i from by omega,O1,<-Cr,hm]at hp;simp at hp
    ·cases hp
   cases hm:ms.headD .ro with
   |ro=>
    rw[hm]at h1 Bn;simp only[aS,Ad,AY]at h1;obtain⟨rfl,rfl⟩:=h1;have hhh:hh=[]:=by rcases Bn with⟨_,h⟩|⟨_,_,_,h⟩<;>exact h
    subst hhh;by_cases BT:lo.headD false=true
    ·exact fin [] rfl rfl (by simp) (by simp) (by simp) λc' FK AZ hl=>⟨by rw[if_pos BT];exact .lent (by rw[FK.ρ,FC];exact hl hm) .nil,by simp⟩
    ·rcases Bn with⟨g1,_⟩|⟨h,_⟩
     ·exact fin [] rfl rfl (by simp) (by simp) (by simp) λc' FK AZ _=>⟨by rw[if_neg BT];exact .e (f:=f) (by rw[FK.w,FK.ρ,FC];exact g1) AZ .nil,by simp⟩
     ·exact absurd h BT
   |va own=>
    rw[hm]at h1 Bn
    replace Bn:=Bn.resolve_right λh=>by cases h.2.1
    obtain⟨r1,a1,a2,a3,a4,a4',a5⟩:=wJ (c:=c) (by omega) h1 Bn FC;exact fin r1 a1 a2 (λr hr=>by have:=a3 r hr;exact⟨by omega,this.2⟩) a4 (λr hr=>by have:=a3 r hr;exact pinVa hm (by omega) this.2.1) λc' FK AZ _=>a5 c' FK AZ
   |mu own=>
    rw[hm]at h1 Bn
    replace Bn:=Bn.resolve_right λh=>by cases h.2.1
    obtain⟨r1,a1,a2,a3,a4,a4',a5⟩:=wJ (c:=c) (by omega) h1 Bn FC;exact fin r1 a1 a2 (λr hr=>by have:=a3 r hr;exact⟨by omega,this.2⟩) a4 (λr hr=>by have:=a3 r hr;exact pinMu hm this.1 this.2.1 (a4' r hr)) λc' FK AZ _=>a5 c' FK AZ
   |bx own own'=>
    rw[hm]at h1 Bn
    replace Bn:=Bn.resolve_right λh=>by cases h.2.1
    obtain⟨ty,b,C,ys,h9,g1,rfl,g3,g4,rfl,g6,rfl⟩:=Bn;simp only[aS,g1]at h1;split at h1
    ·cases h1
    rename_i hle;simp only[Ad,AY]at h1;obtain⟨rfl,rfl⟩:=h1;obtain⟨recs,e1,e2,e3,e4,e4',e5⟩:=RW (c:=c) (nx:=1000*i+1) (mk:=DW (.deref (.var i)) true) g6 0 (VW (by simp only[E.den]at FC ⊢;rw[FC];rfl));refine fin (⟨1000*i,some (.pointer (some ⟨b,0,none⟩)),[b], .box ty (Am P ty) (Dd P (1000*i+1) (DW (.deref (.var i)) true) 0 (Bf P ty) own).1⟩::recs) (by simp[e1,AX.pair]) (by simp[e2]) (λr hr=> ?_) ?_ (λr hr v' hp=> ?_) λc' FK AZ _=> ?_
    ·rcases Ae.1 hr with rfl|hr
     ·simp
     ·have:=e3 r hr;exact⟨by omega,by omega,this.2.2⟩
    ·simp only[List.map_cons,List.nodup_cons];refine⟨λhm=> ?_,e4⟩;obtain⟨r,hr,H6⟩:=List.mem_map.1 hm;have:=e3 r hr;omega
    ·rcases Ae.1 hr with rfl|hr
     ·unfold Hw at hp;simp only at hp;split at hp
      ·rw[show 1000*i/1000=i from by omega,O1,<-Cr,hm]at hp;simp at hp;simpa using hp
      ·cases hp
     ·have h3:=e3 r hr;unfold Hw at hp;split at hp
      ·rw[show r.tag/1000=i from by omega,O1,<-Cr,hm]at hp;simp only at hp;split at hp
       ·omega
       ·cases hp
      ·cases hp
    ·obtain⟨q1,q2⟩:=e5 c' (FK.mono λr hr=>by simp[hr]) AZ;obtain⟨k1,k2,k3⟩:=FK.new _ (List.mem_cons_self ..) _ rfl;have kg:=FK.G _ (List.mem_cons_self ..);simp only at k1 k3 kg;refine⟨.cw k1 k3 .nil,λr hr=> ?_⟩;rcases Ae.1 hr with rfl|hr
     ·exact⟨b,C,k1,k3,by rw[kg],by rw[kg],by rw[FK.w];exact g3,g4,q1⟩
     ·exact q2 r hr
  ·cases h
end
section
variable {P:Program} {c:Cx} {n:Nat} {a:Act} {τ:St}
theorem s4(h:Rel c n (BR τ) (AO τ.hp) a):EH c (AO τ.hp):=λt e hr=>h.ents t e hr
theorem zV{hp:Nat->Option Af}{t:Nat}{e:Af}(h:hp t=some e)(hn:∀hs f,e≠ .gd hs f):Dq hp [] t=some e:=by
 simp only[Dq,h,Aa,Lm]
 all_goals (cases e<;>first|rfl|exact absurd rfl (hn _ _))
theorem wI(h:Rel c n (BR τ) (AO τ.hp) a){u g:Nat}{e z:Nat}{x:E}{d:Bool}(hu:AO τ.hp u=some (.row e z g x d)):c.K u g/\ ∃N,Db c.w e z (c.H u g) (x.den c.ρ) (c.G u).top N/\(∀b∈N,c.ok b)/\(d=true->N=[]):=by obtain⟨p1,p2,N,p3,p4,p5,_⟩:=h.ents u _ (by rw[hu];rfl);exact⟨p1,N,p3,p4,λhd=>(p5 hd).1⟩
theorem zxt{t e:TypeId}{d:Bool}{N:List Nat}(hd:d=true->N=[])(h:Cc P e=true/\d=true\/Cc P e=false/\(DF P t).isNone=true):Cc P e=true/\N=[]\/Cc P e=false/\DF P t=none:=by
 rcases h with⟨h1,h2⟩|⟨h1,h2⟩
 ·exact .inl ⟨h1,hd h2⟩
 ·exact .inr ⟨h1,by simpa using h2⟩
theorem Zs(h:Rel c n (BR τ) (AO τ.hp) a):∀(ts:List TypeId) {fl:List Bool} {cs:List SV} {l:List Nat} {us:List Value} {xs:EL} {m:Nat},Mw P τ ts fl cs=some l->SR c cs us->CM (AO τ.hp) [] m cs=some xs->m<=A8->
  ∃f,Cz P c.w ts fl us (xs.den c.ρ) f (l.flatMap λt=>(c.G t).top)/\ ∀b∈f,c.ei (KJ P τ ts fl cs) b
 | [],fl,[],l,us,xs,m,ho,hs,hx,hm=>by
  simp[Mw]at ho;subst ho;cases hs;cases m with
  |zero=>simp[CM]at hx
  |succ m=>simp[CM]at hx;subst hx;exact⟨[], .nil,by simp⟩
 | [],fl,s::cs,l,us,xs,m,ho,hs,hx,hm=>by simp[Mw]at ho
 |t::ts,fl,[],l,us,xs,m,ho,hs,hx,hm=>by simp[Mw]at ho
 |t::ts,fl,s::cs,l,[],xs,m,ho,hs,hx,hm=>by have:=hs.len;simp at this
 |t::ts,fl,s::cs,l,v::us,xs,m,ho,hs,hx,hm=>by
  obtain⟨j,y,ys,rfl,hy,Dx,rfl⟩:=K2 hx;obtain⟨r1,r2⟩:=hs.cr;unfold Mw at ho;split at ho
  ·cases ho
  rename_i l' Dw;obtain⟨f,q1,q2⟩:=Zs h ts Dw r2 Dx (by omega);split at ho
  ·rename_i e hf Bx;have Gl:KJ P τ (t::ts) fl (s::cs)=KJ P τ ts fl.tail cs:=by
    simp only[KJ,hf,Bx,Option.isSome_some,Bool.and_self,if_true,List.nil_append]
   split at ho
   ·cases ho
   rename_i hz;split at ho
   ·simp only[Ad]at ho;subst ho;cases r1 with
    |cm _=>refine⟨f,?_,by rw[Gl];exact q2⟩;rw[EL.den,Md hy];exact Cz.void hf Bx (by omega) q1
   ·rename_i u g;split at ho
    ·rename_i e' z g' x d hu;split at ho
     ·rename_i hh;obtain⟨rfl,rfl,rfl,Hd⟩:=hh;simp only[Ad]at ho;subst ho;obtain⟨p1,N,p2,p3,p4⟩:=wI h hu;have Hd:=zxt p4 Hd;have hl:=zV hu (by simp);have Hn:y=x:=by
       cases j with
       |zero=>simp[BF]at hy
       |succ j=>simp[BF,IU,hl]at hy;exact hy.symm
      subst Hn;have hv:c.H u g=v:=by
       cases r1 with
       |own _ k2 _=>exact k2
      rw[hv]at p2;refine⟨N++f,Cz.own hf Bx Hd p2 q1,λb hb=> ?_⟩;rw[Gl];rcases Ac.1 hb with hb|hb
      ·exact .inl (p3 b hb)
      ·exact q2 b hb
     ·cases ho
    ·rename_i e' z dl g' ep x hu;split at ho
     ·rename_i hh;obtain⟨rfl,Gs,DQ⟩:=hh;have DQ:=Nz DQ;simp only[Ad]at ho;subst ho;obtain⟨p1,_,_,p2,_⟩:=h.ents u _ (by rw[hu];rfl);have hl:=zV hu (by simp);have Hn:y=x:=by
       cases j with
       |zero=>simp[BF]at hy
       |succ j=>simp[BF,IU,hl]at hy;exact hy.symm
      subst Hn;have hv:c.H u g=v:=by
       cases r1 with
       |own _ k2 _=>exact k2
      rw[hv]at p2;exact⟨f,Cz.deep hf Bx Gs DQ p2 q1,by rw[Gl];exact q2⟩
     ·cases ho
    ·cases ho
   ·cases ho
  ·rename_i DI;simp only[Ad]at ho;subst ho;have hn:fl.headD false=true->CX P t=none:=λhf=>by
    cases Bx:CX P t with
    |none=>rfl
    |some e=>exact absurd Bx (DI e hf)
   obtain⟨f1,p1,p2⟩:=Ig (s4 h) (E4 _) j hy r1 A8 (by omega);refine⟨f1++f,Cz.rd hn p1 q1,λb hb=> ?_⟩;have Gl:KJ P τ (t::ts) fl (s::cs)=Cb (AO τ.hp) [] (A8+1) [s]++KJ P τ ts fl.tail cs:=by
    have:(fl.headD false&&(CX P t).isSome)=false:=by
     cases hf:fl.headD false with
     |false=>rfl
     |true=>rw[hn hf];rfl
    simp only[KJ,this,Ba,if_false]
   rw[Gl];rcases Ac.1 hb with hb|hb
   ·exact(p2 b hb).mono λt ht=>by simp[ht]
   ·exact(q2 b hb).mono λt ht=>by simp[ht]
theorem zwm(h:Rel c n (BR τ) (AO τ.hp) a){t:TypeId}{fl:List Bool}{s:SV}{l:List Nat}{v:Value}{x:E}{m:Nat}(ho:oO P τ t fl s=some l)(hs:SR c [s] [v])(hx:BF (AO τ.hp) [] m s=some x)(hm:m<A8):
  ∃f,DY P c.w t fl v (x.den c.ρ) f (l.flatMap λt=>(c.G t).top)/\ ∀b∈f,c.ei (fK P τ t fl s) b:=by
 unfold oO at ho;unfold DY fK;split at ho
 ·rename_i hf;simp only[hf,if_true];split at ho
  ·rename_i AK;split at ho
   ·rename_i cs;obtain⟨k,lx,rfl,hl,rfl⟩:=V5 hx;cases hs with
    |agg h9 h1 h8=>rename_i as_;obtain⟨f,q1,q2⟩:=Zs (P:=P) h (Bf P t) ho h1 hl (by omega);exact⟨f,⟨as_,lx.den c.ρ,by rw[if_pos AK];exact⟨rfl,rfl,h9⟩,q1⟩,by rw[if_pos AK];exact q2⟩
   ·cases ho
  ·rename_i AK;have Ja:CM (AO τ.hp) [] (m+1) [s]=some (.cons x .nil):=by
    cases m with
    |zero=>simp[BF]at hx
    |succ m=>simp only[CM,hx]
   obtain⟨f,q1,q2⟩:=Zs (P:=P) h (Bf P t) ho hs Ja (by omega);exact⟨f,⟨[v],[x.den c.ρ],by rw[if_neg AK];exact⟨rfl,rfl⟩,q1⟩,by rw[if_neg AK];exact q2⟩
 ·rename_i hf;simp only[hf,if_false,Ba];simp only[Ad]at ho;subst ho;obtain⟨f,p1,p2⟩:=Ig (s4 h) (E4 _) m hx hs A8 (by omega);exact⟨f,⟨p1,rfl⟩,p2⟩
theorem vD(h:Rel c n (BR τ) (AO τ.hp) a):∀(ts:List TypeId) {fl:List Bool} {ss:List SV} {l:List Nat} {vs:List Value} {xs:EL} {m:Nat},PO P τ ts fl ss=some l->SR c ss vs->CM (AO τ.hp) [] m ss=some xs->m<=A8->
  ∃f,Mz P c.w ts fl vs (xs.den c.ρ) f (l.flatMap λt=>(c.G t).top)/\ ∀b∈f,c.ei (Wr P τ ts fl ss) b
 | [],fl,[],l,vs,xs,m,ho,hs,hx,hm=>by
  simp[PO]at ho;subst ho;cases hs;cases m with
  |zero=>simp[CM]at hx
  |succ m=>simp[CM]at hx;subst hx;exact⟨[], .nil,by simp⟩
 | [],fl,s::cs,l,us,xs,m,ho,hs,hx,hm=>by simp[PO]at ho
 |t::ts,fl,[],l,us,xs,m,ho,hs,hx,hm=>by simp[PO]at ho
 |t::ts,fl,s::cs,l,[],xs,m,ho,hs,hx,hm=>by have:=hs.len;simp at this
 |t::ts,fl,s::cs,l,v::us,xs,m,ho,hs,hx,hm=>by
  obtain⟨j,y,ys,rfl,hy,Dx,rfl⟩:=K2 hx;obtain⟨r1,r2⟩:=hs.cr;unfold PO at ho;split at ho
  ·rename_i a1 b1 h1 h2;simp only[Ad]at ho;subst ho;obtain⟨f1,p1,p2⟩:=zwm (P:=P) h h1 r1 hy (by omega);obtain⟨f2,q1,q2⟩:=vD h ts h2 r2 Dx (by omega);refine⟨f1++f2,by rw[List.flatMap_append];exact .cons p1 q1,λb hb=> ?_⟩;simp only[Wr];rcases Ac.1 hb with hb|hb
   ·exact(p2 b hb).mono λt ht=>by simp[ht]
   ·exact(q2 b hb).mono λt ht=>by simp[ht]
  ·cases ho
end
section
variable {P:Program} {c:Cx} {n:Nat} {a:Act} {τ:St}
theorem zBY(h:Rel c n (BR τ) (AO τ.hp) a){t:TypeId}{b o:Nat}{ty:TypeId}{g:Bool}{cs:List SV}{s:SV}{v:Value}(Bv:DD P t=true)(hl:AO τ.hp b=some (.box ty g cs))(Bb:Qa P t cs o=some s)(hr:SR c [.cw b o] [v]):
  ∃q u,v= .pointer (some ⟨q,o,none⟩)/\(loadVar t ⟨q,o,none⟩).run P c.w= .ok u c.w/\SR c [s] [u]:=by
 cases hr with
 |cw h1 h2 h8=>
  rename_i q;obtain⟨q',C,_,e2,e3,e4,e5,e5',e6⟩:=h.ents b _ (by rw[hl];rfl);rw[h2]at e2;cases e2;have key:∀vs:List Value,(Am P t=true->vs.length=P.cellsOf t)->(Am P t=false->vs.length=1)->(∀j u,vs[j]?=some u->c.w.cell? ⟨q,o+j,none⟩=some u)->(loadVar t ⟨q,o,none⟩).run P c.w= .ok (if Am P t then .agg vs.toArray else vs.headD undef) c.w:=λvs k1 k2 k3=>by have:=Sc (P:=P) (w:=c.w) (b:=q) (off:=o) Bv vs k1 k2 k3;simpa[Instr.loadAt,Instr.sureAddr]using this
  unfold Qa at Bb;have hlen:=e6.len;split at Bb
  ·rename_i AK;split at Bb
   ·rename_i hle;simp at Bb;subst Bb;obtain⟨r1,r2⟩:=e6.split o;obtain⟨r3,r4⟩:=r2.split (P.cellsOf t);have:=SR.agg (cs:=BP.of ((cs.drop o).take (P.cellsOf t))) (λu hu=>e5' u (BH (Bt hu))) (by rw[BP.ax];exact r3) .nil;refine⟨q, .agg ((C.toList.drop o).take (P.cellsOf t)).toArray,rfl,?_,this⟩;rw[key ((C.toList.drop o).take (P.cellsOf t)) (λ_=>by simp at hlen ⊢;omega) (λh=>by rw[AK]at h;cases h) (λj u hu=>by
     rw[ED e5];rw[List.getElem?_take]at hu;split at hu
     ·simpa using hu
     ·cases hu)]
    simp[AK]
   ·cases Bb
  ·rename_i AK;have AK:Am P t=false:=by simpa using AK
   obtain⟨u,hu,r⟩:=e6.get Bb;refine⟨q,u,rfl,?_,r⟩;rw[key [u] (λh=>by rw[AK]at h;cases h) (λ_=>rfl) (λj z hz=>by
    cases j with
    |zero=>simp at hz;subst hz;rw[ED e5];simpa using hu
    |succ j=>simp at hz)]
   simp[AK]
theorem uP{α:Type}{g:α->Sem Value}{w:World}:∀(l:List α) (us:List Value),l.length=us.length->(∀(i:Nat) (x:α) (u:Value),l[i]?=some x->us[i]?=some u->(g x).run P w= .ok u w)->(l.mapM g).run P w= .ok us w
 | [],[],_,_=>by simp
 | [],_::_,h,_=>by simp at h
 |_::_,[],h,_=>by simp at h
 |x::l,u::us,h,hg=>by have h0:=hg 0 x u rfl rfl;have ih:=uP l us (by simpa using h) λi y z hy hz=>hg (i+1) y z (by simpa using hy) (by simpa using hz);simp[List.mapM_cons,h0,ih]
theorem zuM(h:Rel c n (BR τ) (AO τ.hp) a)(fn:Func){rs:List SV}(Fy:fn.results.toList.mapM (SF P τ)=some rs):
  ∃us,SR c rs us/\rs.length=us.length/\(results fn a.tmps).run P c.w= .ok (match us with| [u]=>u|us=> .tuple us.toArray) c.w:=by
 have one:∀(r:ResultVar) (s:SV),SF P τ r=some s-> ∃u,SR c [s] [u]/\(match r with| .tmp t=>(pure (a.tmps.getD t undef):Sem Value)| .cell b t=>do loadVar t (<-asAddr (a.tmps.getD b undef))).run P c.w= .ok u c.w:=by
  intro r s hr;cases r with
  |tmp t=>simp only[SF,Ad]at hr;subst hr;exact⟨_,h.da t,by simp⟩
  |cell b ty=>
   simp only[SF]at hr;split at hr
   ·rename_i b' o Dr;split at hr
    ·rename_i ty' g cs hl;split at hr
     ·rename_i Bv;have hs:=h.da b;rw[Dr]at hs;obtain⟨q,u,hv,AR,LR⟩:=zBY h Bv hl hr hs;exact⟨u,LR,by simp only[hv];simp[asAddr,AR]⟩
     ·cases hr
    ·cases hr
   ·cases hr
 have list:∀(l:List ResultVar) (rs:List SV),l.mapM (SF P τ)=some rs-> ∃us,SR c rs us/\l.length=us.length/\ ∀(i:Nat) (x:ResultVar) (u:Value),l[i]?=some x->us[i]?=some u->(match x with| .tmp t=>(pure (a.tmps.getD t undef):Sem Value)| .cell b t=>do loadVar t (<-asAddr (a.tmps.getD b undef))).run P c.w= .ok u c.w:=by
  intro l
  induction l with
  |nil=>intro rs Fy;simp at Fy;subst Fy;exact⟨[], .nil,rfl,by simp⟩
  |cons r l ih=>
   intro rs Fy;rw[List.mapM_cons]at Fy;simp only[Option.bind_eq_bind,Au,Option.pure_def,Ad]at Fy;obtain⟨s,hs,rs',dV,rfl⟩:=Fy;obtain⟨u,h1,h2⟩:=one r s hs;obtain⟨us,h3,h4,h5⟩:=ih rs' dV;refine⟨u::us,h1.cons h3,by simp[h4],λi x v hx hv=> ?_⟩;cases i with
   |zero=>simp at hx hv;subst hx;subst hv;exact h2
   |succ i=>exact h5 i x v (by simpa using hx) (by simpa using hv)
 obtain⟨us,h1,h2,h3⟩:=list _ _ Fy;refine⟨us,h1,h1.len,?_⟩;have hm:=uP (P:=P) (w:=c.w) fn.results.toList us h2 h3;simp only[results,Array.mapM_eq_mapM_toList,map_eq_pure_bind,Sem.run_bind]
 erw [hm]
 simp only[Result.andThen_ok,Sem.run_pure]
 match us with
 | []=>simp
 | [u]=>simp
 |u::v::us=>simp
theorem kU(h:Rel c n (BR τ) (AO τ.hp) a){w0:World}{v:Value}{ms:List PM}{vs:List Value}(EY:∀t,c.A.pin t=Hw ms vs t){i:Nat}(hi:i<=99){own0:List Bool}(hv:vs[i]?=some v)(hm:(ms[i]?).getD .ro= .mu own0){mk:Nat->E}:∀(ts:List TypeId) (j:Nat) {fl:List Bool} {us:List Value} {ys:List AV} {rf hs:List Nat} {es:List E} {l:List Nat},
  Cz P w0 ts fl us ys rf hs->j+ts.length<=400->(∀k u,us[k]?=some u->(∃e,(0+j+k,e)∈(Dd P 0 (DW (.var 0) true) j ts fl).2)->v.cells[j+k]?=some u)->WH P τ i mk j ts fl=some (es,l)-> ∃f o,Fq P c.w ts fl us (es.map (E.den c.ρ)) f o/\(o=l.flatMap λt=>(c.G t).top)/\ ∀b∈f,c.ok b
 | [],j,fl,us,ys,rf,hs,es,l,hc,hle,B0,he=>by simp[WH]at he;obtain⟨rfl,rfl⟩:=he;cases hc;exact⟨[],[], .nil,rfl,by simp⟩
 |t::ts,j,fl,us,ys,rf,hs,es,l,hc,hle,B0,he=>by
  unfold WH at he;split at he
  ·cases he
  rename_i xs us' Dw;simp only[Bd]at hle;have sub:∀{u:Value} {us1:List Value},us=u::us1-> ∀k z,us1[k]?=some z->(∃e,(0+(j+1)+k,e)∈(Dd P 0 (DW (.var 0) true) (j+1) ts fl.tail).2)->v.cells[j+1+k]?=some z:=by
   rintro u us1 rfl k z hz ⟨e,he⟩;have:=B0 (k+1) z (by simpa using hz) ⟨e,by
    simp only[Dd];split
    ·rw[show 0+j+(k+1)=0+(j+1)+k from by omega];exact List.mem_cons_of_mem _ he
    ·rw[show 0+j+(k+1)=0+(j+1)+k from by omega];exact he⟩
   rw[show j+1+k=j+(k+1)from by omega];exact this
  have fin:∀{u:Value} {us1:List Value} {ys1:List AV} {rf1 BL:List Nat} {el:TypeId},us=u::us1->fl.headD false=true->CX P t=some el->Cz P w0 ts fl.tail us1 ys1 rf1 BL-> ∃f o,Fq P c.w (t::ts) fl us (es.map (E.den c.ρ)) f o/\(o=l.flatMap λt=>(c.G t).top)/\ ∀b∈f,c.ok b:=by
   rintro u us1 ys1 rf1 BL el rfl h1 h2 h4;obtain⟨f0,o,q1,q2,q3⟩:=kU h EY hi hv hm ts (j+1) h4 (by omega) (sub rfl) Dw;rw[h1,h2]at he;simp only at he;have Qj:v.cells[j]?=some u:=by have:=B0 0 u rfl ⟨_,by simp only[Dd,h1,h2,Nat.zero_add,Nat.add_zero];exact List.mem_cons_self ..⟩;simpa using this
   have W8:c.A.pin (1000*i+500+j)=some u:=by
    rw[EY];unfold Hw;have e1:(1000*i+500+j)/1000=i:=by omega
    have e2:(1000*i+500+j) % 1000=500+j:=by omega
    rw[if_pos (by unfold Oa;simp only[e2,Ab,AI,Bool.or_eq_true];omega),e1,e2,hv,hm];simp only;rw[if_pos (by omega),show 500+j-500=j from by omega];exact Qj
   split at he
   ·rename_i e' z y' d hu;split at he
    ·rename_i hh;obtain⟨rfl,rfl,Hd⟩:=hh;simp only[Ad,AY]at he;obtain⟨rfl,rfl⟩:=he;obtain⟨p1,N,p2,p3,p4⟩:=wI h hu;have hH:=(h.base.pins _ u W8).2 p1;rw[hH]at p2;refine⟨_,_, .own h1 h2 (zxt p4 Hd) p2 q1,by simp[q2],λb hb=> ?_⟩;rcases Ac.1 hb with hb|hb
     ·exact p3 b hb
     ·exact q3 b hb
    ·cases he
   ·rename_i e' z dl ep y' hu;split at he
    ·rename_i hh;obtain⟨Gs,DQ⟩:=hh;have DQ:=Nz DQ;simp only[Ad,AY]at he;obtain⟨rfl,rfl⟩:=he;obtain⟨p1,_,_,p2,_⟩:=h.ents _ _ (by rw[hu];rfl);have hH:=(h.base.pins _ u W8).2 p1;rw[hH]at p2;refine⟨_,_, .deep h1 h2 Gs DQ p2 q1,by simp[q2],q3⟩
    ·cases he
   ·cases he
  cases hc with
  |own h1 h2 _ _ h4=>exact fin rfl h1 h2 h4
  |deep h1 h2 _ _ _ h4=>exact fin rfl h1 h2 h4
  | @rd _ _ _ u us1 y ys1 f rf1 BL h1 h3 h4=>
   obtain⟨f0,o,q1,q2,q3⟩:=kU h EY hi hv hm ts (j+1) h4 (by omega) (sub rfl) Dw;split at he
   ·rename_i e hf Bx;rw[h1 hf]at Bx;cases Bx
   ·simp only[Ad,AY]at he;obtain⟨rfl,rfl⟩:=he;exact⟨f0,o, .skip h1 q1,q2,q3⟩
end
section
variable {P:Program} {c:Cx} {n:Nat} {a:Act} {τ:St}
theorem vL(h:Rel c n (BR τ) (AO τ.hp) a){w0:World}{ms0:List PM}{vs0:List Value}(EY:∀t,c.A.pin t=Hw ms0 vs0 t):∀(ts:List TypeId) (i:Nat) {ms:List PM} {lo:List Bool} {vs:List Value} {xs:List AV} {rf lf hs:List Nat} {bx:List E} {us:List Nat},Wa P τ i ts ms=some (bx,us)->DV P w0 ts ms lo vs xs rf lf hs->
  (∀k,ms[k]?=ms0[i+k]?)->(∀k,vs[k]?=vs0[i+k]?)-> ∃f o,DU P c.w ts ms vs (bx.map (E.den c.ρ)) f o/\o=us.flatMap (λt=>(c.G t).top)/\ ∀b∈f,c.ei (P1 P τ i ts ms) b
 | [],i,ms,lo,vs,xs,rf,lf,hs,bx,us,he,ha,_,_=>by simp[Wa]at he;obtain⟨rfl,rfl⟩:=he;exact⟨[],[], .nil,rfl,by simp⟩
 |t::ts,i,ms,lo,vs,xs,rf,lf,hs,bx,us,he,ha,EW,KQ=>by
  obtain⟨v,vs,x,xs,f,hh,rf,lf,hs,rfl,EZ,Bn⟩:∃v vs' x xs' f hh rf' lf' A9,vs=v::vs'/\DV P w0 ts ms.tail lo.tail vs' xs' rf' lf' A9/\(fS P w0 t (ms.headD .ro) v x f hh\/ms.headD .ro= .ro):=by
   cases ha with
   |cons h1 h2=>exact⟨_,_,_,_,_,_,_,_,_,rfl,h2, .inl h1⟩
   | @lent _ _ _ _ _ _ x _ _ _ _ _ h1 h2 h3 h4=>exact⟨_,_,x,_,[],[],_,_,_,rfl,h4, .inr h2⟩
  have Cr:ms.headD .ro=(ms0[i]?).getD .ro:=by have:=EW 0;rw[Nat.add_zero]at this;rw[<-this];cases ms<;>rfl
  have O1:vs0[i]?=some v:=by have:=KQ 0;simpa using this.symm
  unfold Wa at he;split at he
  ·cases he
  rename_i bx' us' Dw;obtain⟨f2,o2,b1,b2,b3⟩:=vL h EY ts (i+1) Dw EZ (λk=>by rw[show i+1+k=i+(k+1)from by omega,<-EW (k+1)];cases ms<;>simp) (λk=>by rw[show i+1+k=i+(k+1)from by omega,<-KQ (k+1)];simp);have see2:∀b∈f2,c.ei (P1 P τ i (t::ts) ms) b:=λb hb=>(b3 b hb).mono λt ht=>by simp only[P1,Ac];exact .inr ht
  split at he
  ·cases he
  rename_i hi;split at he
  ·rename_i hm;simp only[Ad,AY]at he;obtain⟨rfl,rfl⟩:=he;exact⟨f2,o2, .ro hm b1,b2,see2⟩
  ·rename_i own hm;simp only[Ad,AY]at he;obtain⟨rfl,rfl⟩:=he;exact⟨f2,o2, .va hm b1,b2,see2⟩
  ·rename_i own hm;split at he
   ·cases he
   rename_i hle;split at he
   ·rename_i es l Gn;simp only[Ad,AY]at he;obtain⟨rfl,rfl⟩:=he;rw[hm]at Bn;obtain⟨us0,ys0,hg,hc⟩:=Bn.resolve_right λh=>by cases h
    obtain⟨f1,o1,q1,q2,q3⟩:=kU h EY (i:=i) (by omega) O1 (by rw[<-Cr];exact hm) (Bf P t) 0 hc (by omega) (λk u hu he=>by
     rw[Nat.zero_add];split at hg
     ·obtain⟨rfl,_,_⟩:=hg;simpa[Value.cells]using hu
     ·obtain⟨rfl,_⟩:=hg;cases k with
      |zero=>simp at hu;subst hu;rw[hc.ia (nx:=0) (mk:=DW (.var 0) true) (j:=0) 0 v rfl he];rfl
      |succ k=>simp at hu) Gn
    refine⟨f1++f2,o1++o2,DU.mu (us:=us0) (ys:=es.map (E.den c.ρ)) hm ?_ q1 b1,by rw[q2,b2,List.flatMap_append],λb hb=>(Ac.1 hb).elim (λhb=> .inl (q3 b hb)) (see2 b)⟩;split at hg
    ·rename_i AK;rw[if_pos AK,if_pos AK];exact⟨hg.1,by simp only[E.den,EL.dq]⟩
    ·rename_i AK;rw[if_neg AK,if_neg AK];obtain⟨rfl,_⟩:=hg;refine⟨rfl,?_⟩;have mlen:∀{ts:List TypeId} {fl:List Bool} {us:List Value} {ys:List AV} {f o:List Nat},Fq P c.w ts fl us ys f o->us.length=ys.length:=by
      intro ts fl us ys f o T4
      induction T4<;>simp_all
     have:=mlen q1
     match es,this with
     | [e],_=>rfl
   ·cases he
  ·rename_i own own' hm;rw[hm]at Bn;obtain⟨ty,b,C0,ys0,h9,g1,rfl,g3,g4,rfl,g6,rfl⟩:=Bn.resolve_right λh=>by cases h
   split at he
   ·rename_i ty1 ty2 g cs Ev Iz;rw[g1]at Ev;cases Ev;split at he
    ·cases he
    rename_i BB;have BB:ty2=ty:=by simpa using BB
    subst BB;split at he
    ·rename_i es vs' IC eK;simp only[Ad,AY]at he;obtain⟨rfl,rfl⟩:=he;obtain⟨b',C,p1,p2,p3,p4,p5,p6,p7⟩:=h.ents _ _ (by rw[Iz];rfl);have W8:c.A.pin (1000*i)=some (.pointer (some ⟨b,0,none⟩)):=by
      rw[EY];unfold Hw;have e1:(1000*i)/1000=i:=by omega
      have e2:(1000*i) % 1000=0:=by omega
      rw[if_pos (by unfold Oa;simp only[e2,Ab,AI,Bool.or_eq_true];simp;omega),e1,e2,O1,<-Cr,hm];rfl
     have hH:=(h.base.pins _ _ W8).2 p1;rw[p2]at hH;cases hH;obtain⟨f1,q1,q2⟩:=Zs (P:=P) h (Bf P ty2) eK p7 IC (AN _);refine⟨f1++f2,_,DU.bx hm g1 rfl p5 p6 (by simp only[E.den]) q1 b1,by rw[b2];simp[p3],λx hx=> ?_⟩;rcases Ac.1 hx with hx|hx
     ·refine(q2 x hx).mono λt ht=> ?_;simp only[P1,hm,g1,Iz,Ac];exact .inl ht
     ·exact see2 x hx
    ·cases he
   ·cases he
end
theorem kO{P:Program}:∀(ts:List TypeId) (i:Nat) (ms:List PM) (lo:List Bool) (ss:List SV) (l:List (Nat × Af)),NH P i ts ms lo=some (ss,l)-> ∀t x,(t,x)∈l-> ∀gs f,x≠ .gd gs f
 | [],i,ms,lo,ss,l,h,t,x,hx=>by simp[NH]at h;obtain⟨_,rfl⟩:=h;simp at hx
 |t0::ts,i,ms,lo,ss,l,h,t,x,hx=>by
  unfold NH at h;split at h
  ·rename_i s1 l1 ss1 l2 q1 q2;simp only[Ad,AY]at h;obtain⟨_,rfl⟩:=h;rcases Ac.1 hx with hx|hx
   ·have hV:∀(b:Nat) (own:List Bool),S7 P i b t0 own=some (s1,l1)-> ∀gs f,x≠ .gd gs f:=by
     intro b own hh;unfold S7 at hh;simp only at hh;split at hh
     ·cases hh
     ·split at hh
      ·simp only[Ad,AY]at hh;obtain⟨_,rfl⟩:=hh;intro gs f;exact Ps _ _ _ _ _ hx
      ·split at hh
       ·simp only[Ad,AY]at hh;obtain⟨_,rfl⟩:=hh;intro gs f;exact Ps _ _ _ _ _ hx
       ·cases hh
    unfold aS at q1;split at q1
    ·simp only[Ad,AY]at q1;rw[<-q1.2]at hx;simp at hx
    ·exact hV _ _ q1
    ·exact hV _ _ q1
    ·split at q1
     ·simp only at q1;split at q1
      ·cases q1
      ·simp only[Ad,AY]at q1;obtain⟨_,rfl⟩:=q1;rcases Ae.1 hx with hx|hx
       ·cases hx;simp
       ·intro gs f;exact Ps _ _ _ _ _ hx
     ·cases q1
   ·exact kO _ _ _ _ _ _ q2 t x hx
  ·cases h
theorem zBZ{P:Program}{sg:BY}(dD:P.follows .mixedOrders=true)(J2:∀f s,sg f=some s->f<1000000){f:Nat}{s:G8}{fn:Func}{t:Tr}{xs:List AV}{r:AV}(ID:P.funcs[f]?=some fn)(hs:sg f=some s) (Gp:(fn.name== "runtime.NumGoroutine")=false)
  (EN:UI P sg f=some t) (B7:NN P fn s r=true) (hlen:xs.length=fn.params.size+fn.nfree) (hd:t.den (Co P sg) (λr'=>r'=r) (λ_ _ _ _=>False) [] xs):Ti P s f xs r:=by
 unfold UI at EN;simp only[ID,hs]at EN;split at EN
 ·rename_i code σ Eg BI;split at EN
  ·rename_i t0 hex;have CA:s.ft.length<=fn.nfree:=by
    have BI:=BI;unfold oA at BI;split at BI
    ·cases BI
    ·simp only at BI;split at BI
     ·cases BI
     ·rename_i AA;simp only[Bool.or_eq_true,AI,not_or,Nat.not_lt]at AA;exact AA.2
   refine⟨fn,ID,by rw[Eg];rfl,Gp,B7,hlen,CA,λw vs rf lf A9 Ah Gk JG Hi D1=> ?_⟩;unfold oA at BI;split at BI
   ·cases BI
   rename_i ss l BZ;simp only at BI;split at BI
   ·cases BI
   rename_i AA;simp only[Bool.or_eq_true,AI,not_or,Nat.not_lt]at AA;simp only[Ad]at BI;subst BI;let pin:Nat->Option Value:=Hw s.b8 vs;let LO:Value->AV->Prop:=λv y=> ∃f,Rd w [v] [y] f/\ ∀b∈f,¬b∈A9;let c0:Cx:={ρ:=xs,w:=w,G:=λ_=>⟨[],[]⟩,K:=λ_ _=>False,H:=λ_ _=>undef,A:=⟨λb=>b∈rf,pin,LO⟩,w0:=w,Mu:=λb=>b∈A9,U:=λ_=>False,E:=λ_=>0}
   have Ex:vs.length=xs.length:=by
    have:∀{ts:List TypeId} {ms:List PM} {lo:List Bool} {vs:List Value} {xs:List AV} {rf lf hs:List Nat},DV P w ts ms lo vs xs rf lf hs->vs.length=xs.length:=by
     intro ts ms lo vs xs rf lf hs h
     induction h<;>simp_all
    exact this Ah
   obtain⟨recs,e1,e2,e3,e4,e5,e6,e7,e8⟩:=xE (c:=c0) (ms0:=s.b8) (vs0:=vs) (fn.params.toList++s.ft) 0 BZ Ah (λk x hx=>by simp only[E.den,Nat.zero_add];show(xs[k]?).getD .undef=x;rw[hx];rfl) (λk=>by simp) (λk=>by simp);have aft:=Cx.dr (c:=c0) (w':=w) (recs:=recs) (λt g hk=>hk.elim) e4 (λr _ _ h=>h);have pC:∀r∈recs,r.tag<100000:=λr hr=>by have:=e3 r hr;simp only[Nat.zero_add,AH,BG]at this;omega
   let c:Cx:={c0.du w recs with U:=λt=>t<100000}
   have TC:∀b∈rf,(c0.du w recs).ok b:=by
    intro b hb;refine⟨λ⟨t,ht⟩=> ?_, .inl hb⟩;by_cases hT:∃r∈recs,r.tag=t
    ·obtain⟨r,hr,rfl⟩:=hT;rw[Cx.dw e4 hr]at ht;exact Gk b (by rw[<-e2];exact List.mem_flatMap.2 ⟨r,hr,ht⟩) hb
    ·rw[Cx.de λr hr hh=>hT ⟨r,hr,hh⟩]at ht;simp[c0]at ht
   have BT:∀(k:Nat) (v:Value) (x:AV),(s.b8[k]?).getD .ro= .ro->vs[k]?=some v->xs[k]?=some x->LO v x:=by
    have key:∀{ts:List TypeId} {ms:List PM} {lo:List Bool} {vs:List Value} {xs:List AV} {rf lf hs:List Nat},DV P w ts ms lo vs xs rf lf hs-> ∀(k:Nat) (v:Value) (x:AV),(ms[k]?).getD .ro= .ro->vs[k]?=some v->xs[k]?=some x-> ∃f,Rd w [v] [x] f/\ ∀b∈f,b∈rf\/b∈lf:=by
     intro ts ms lo vs xs rf lf hs h
     induction h with
     |nil=>intro k v x _ h _;simp at h
     | @cons t ts ms lo v vs x xs f h rf lf hs Bn _ ih=>
      intro k v' x' h1 h2 h3;cases k with
      |zero=>
       have hm:ms.headD .ro= .ro:=by cases ms<;>exact h1
       rw[hm]at Bn;simp at h2 h3;subst h2;subst h3;exact⟨f,Bn.1,λb hb=> .inl (by simp[hb])⟩
      |succ k=>obtain⟨f',q1,q2⟩:=ih k v' x' (by cases ms with|nil=>rfl|cons _ _=>simpa using h1) (by simpa using h2) (by simpa using h3);exact⟨f',q1,λb hb=>(q2 b hb).imp (λh=>by simp[h]) id⟩
     | @lent t ts ms lo v vs x xs f rf lf hs _ _ hr _ ih=>
      intro k v' x' h1 h2 h3;cases k with
      |zero=>simp at h2 h3;subst h2;subst h3;exact⟨f,hr,λb hb=> .inr (by simp[hb])⟩
      |succ k=>obtain⟨f',q1,q2⟩:=ih k v' x' (by cases ms with|nil=>rfl|cons _ _=>simpa using h1) (by simpa using h2) (by simpa using h3);exact⟨f',q1,λb hb=>(q2 b hb).imp id (λh=>by simp[h])⟩
     | @free ms lo v vs x xs f rf lf hs hr _ ih=>
      intro k v' x' h1 h2 h3;cases k with
      |zero=>simp at h2 h3;subst h2;subst h3;exact⟨f,hr,λb hb=> .inl (by simp[hb])⟩
      |succ k=>obtain⟨f',q1,q2⟩:=ih k v' x' (by cases ms with|nil=>rfl|cons _ _=>simpa using h1) (by simpa using h2) (by simpa using h3);exact⟨f',q1,λb hb=>(q2 b hb).imp (λh=>by simp[h]) id⟩
    intro k v x h1 h2 h3;obtain⟨f,q1,q2⟩:=key Ah k v x h1 h2 h3;exact⟨f,q1,λb hb hh=>(q2 b hb).elim (Gk b hh) (JG b hh)⟩
   obtain⟨g1,g2⟩:=e8 _ aft TC BT;have kc:D6 (c0.du w recs) c:=⟨rfl,rfl,λ_ _ hb=>hb,λ_ _ _=>rfl,λ_ _ hk=>⟨hk,rfl⟩,λ_ _ _=>⟨AN _,λ_=>⟨rfl,λ_ _ _=>rfl⟩⟩⟩
   have I8:fn.params.size+fn.nfree=vs.length:=by rw[Ex,hlen]
   have Gx:(ss++(List.range (fn.nfree-s.ft.length)).map λj=>SV.e (.var (fn.params.size+s.ft.length+j))).length=vs.length:=by rw[AH,e6,List.length_map,List.length_range,AH,BG];omega
   have g1':SR c (ss++(List.range (fn.nfree-s.ft.length)).map λj=>SV.e (.var (fn.params.size+s.ft.length+j))) vs:=by
    have:=g1.keep kc;have Gw:(fn.params.toList++s.ft).length=fn.params.size+s.ft.length:=by rw[AH,BG]
    rw[show vs.length-(fn.params.toList++s.ft).length=fn.nfree-s.ft.length from by omega]at this;simpa using this
   have hG:∀t,(∃r∈recs,r.tag=t/\c.G t=⟨r.top,[]⟩)\/c.G t=⟨[],[]⟩:=λt=>by
    by_cases hT:∃r∈recs,r.tag=t
    ·obtain⟨r,hr,rfl⟩:=hT;exact .inl ⟨r,hr,rfl,Cx.dw (w':=w) e4 hr⟩
    ·exact .inr (Cx.de (w':=w) λr hr hh=>hT ⟨r,hr,hh⟩)
   have Hg:∀r∈recs,∀b∈r.top,b∈A9:=λr hr b hb=>by rw[<-e2];exact List.mem_flatMap.2 ⟨r,hr,hb⟩
   have EU:∀b∈A9,b<w.heap.size:=by
    have:∀{ts:List TypeId} {ms:List PM} {lo:List Bool} {vs:List Value} {xs:List AV} {rf lf hs:List Nat},DV P w ts ms lo vs xs rf lf hs-> ∀b∈hs,b<w.heap.size:=by
     intro ts ms lo vs xs rf lf hs h
     induction h with
     |nil=>simp
     |lent _ _ _ _ ih=>exact ih
     | @cons t ts ms lo v vs x xs f h rf lf hs Bn _ ih=>
      intro b hb;rcases Ac.1 hb with hb|hb
      ·cases hm:ms.headD .ro with
       |ro=>rw[hm]at Bn;rw[Bn.2]at hb;simp at hb
       |va own=>rw[hm]at Bn;obtain⟨_,_,_,hc⟩:=Bn;exact hc.inb.2 b hb
       |mu own=>rw[hm]at Bn;obtain⟨_,_,_,hc⟩:=Bn;exact hc.inb.2 b hb
       |bx own own'=>
        rw[hm]at Bn;obtain⟨_,b0,_,_,_,_,_,hh,_,_,hc,rfl⟩:=Bn;rcases Ae.1 hb with rfl|hb
        ·exact De hh
        ·exact hc.inb.2 b hb
      ·exact ih b hb
     |free _ _ ih=>exact ih
    exact this Ah
   have A5:∀t e,AO l t=some e-> ∃r∈recs,r.tag=t/\r.bq=e:=λt e he=>by have:=Jl he;rw[e1]at this;obtain⟨r,hr,Uf⟩:=List.mem_map.1 this;simp only[AX.pair,AY]at Uf;exact⟨r,hr,Uf.1,Uf.2⟩
   let F:Fix:=⟨w,⟨λb=>b∈rf,pin,LO⟩,λb=>b∈A9,λt v h=>by
    simp only[pin,Hw]at h;split at h
    ·assumption
    ·cases h⟩
   have hrel:Rel c fn.ntmps (BR {sl:=ss++(List.range (fn.nfree-s.ft.length)).map (λj=>SV.e (.var (fn.params.size+s.ft.length+j)))++List.replicate (fn.ntmps-(fn.params.size+fn.nfree)) .undef,hp:=l,nx:=100000,nv:=fn.params.size+fn.nfree}) (AO l) {tmps:=vs.toArray++Array.replicate (fn.ntmps-vs.toArray.size) undef,defers:=[]}:=by
    refine⟨rfl,by simp;omega,⟨rfl,rfl,rfl,AN _,λt v hp=>⟨?_,λhk=> ?_⟩,λb _ _=>rfl,D1,λv y h=>h⟩,λi=> ?_,λt e hr=> ?_,λt hn=> ?_,⟨λt=> ?_,λt u M8 b hb Cl=> ?_,λt b hb=> ?_,λt b hb=> ?_⟩,λt g hk=> ?_,λt e he=> ?_⟩
    ·have:=F.mb t v hp;unfold Oa at this;simp only[Ab,AI]at this;exact this.1
    ·rcases hk with hk|⟨r,hr,rfl,Bg,_⟩
     ·exact hk.elim
     ·exact(aft.new r hr v (e5 r hr v hp)).2.2
    ·have bR:SR c (ss++(List.range (fn.nfree-s.ft.length)).map (λj=>SV.e (.var (fn.params.size+s.ft.length+j)))++List.replicate (fn.ntmps-(fn.params.size+fn.nfree)) .undef) (vs++List.replicate (fn.ntmps-(fn.params.size+fn.nfree)) undef):=by
      refine g1'.app ?_;have:∀k,SR c (List.replicate k SV.undef) (List.replicate k undef):=by
       intro k
       induction k with
       |zero=>exact .nil
       |succ k ih=>exact .undef ih
      exact this _
     unfold BR;simp only;cases hq:(ss++(List.range (fn.nfree-s.ft.length)).map (λj=>SV.e (.var (fn.params.size+s.ft.length+j)))++List.replicate (fn.ntmps-(fn.params.size+fn.nfree)) SV.undef)[i]? with
     |none=>exact .undef .nil
     |some s'=>
      obtain⟨v',eJ,LR⟩:=bR.get hq;have:(vs.toArray++Array.replicate (fn.ntmps-vs.toArray.size) undef).getD i undef=v':=by
       rw[Array.getD_eq_getD_getElem?];have e:(vs.toArray++Array.replicate (fn.ntmps-vs.toArray.size) undef)[i]?=(vs++List.replicate (fn.ntmps-(fn.params.size+fn.nfree)) undef)[i]?:=by rw[<-Array.getElem?_toList];simp[I8]
       rw[e,eJ];rfl
      rw[this];exact LR
    ·cases hh:AO l t with
     |none=>rw[hh]at hr;exact hr.elim
     |some e0=>
      obtain⟨r,CJ,rfl,rfl⟩:=A5 t e0 hh;have BI:=(g2 r CJ).keep kc rfl rfl (λg hg=>hg) (λb _=>rfl);rw[hh]at hr;cases he:r.bq with
      |gd gs e'=>rw[he]at BI hr;obtain⟨_,rfl⟩:=hr;have Bg:=(e3 r CJ).2.2;exfalso;exact kO _ _ _ _ _ _ BZ r.tag r.bq (by rw[e1];exact List.mem_map.2 ⟨r,CJ,rfl⟩) _ _ he
      |_=>rw[he]at BI hr;simp only[CN]at hr;subst hr;exact BI
    ·rcases hG t with⟨r,hr,rfl,hg⟩|hg
     ·exfalso;have Es:(r.tag,r.bq)∈l:=by rw[e1];exact List.mem_map.2 ⟨r,hr,rfl⟩
      have:∃e,AO l r.tag=some e:=by
       have:∀(l:List (Nat × Af)),(r.tag,r.bq)∈l-> ∃e,AO l r.tag=some e:=by
        intro l
        induction l with
        |nil=>intro h;simp at h
        |cons p l ih=>
         obtain⟨u,f'⟩:=p;intro h;simp only[AO];split
         ·exact⟨_,rfl⟩
         ·rename_i hu;rcases Ae.1 h with h|h
          ·cases h;exact absurd rfl hu
          ·exact ih h
       exact this l Es
      obtain⟨e,he⟩:=this;obtain⟨r',CJ,M5,rfl⟩:=A5 _ _ he;have Qk:∀gs f',r'.bq≠ .gd gs f':=by intro gs f' CE;exact kO _ _ _ _ _ _ BZ r'.tag r'.bq (by rw[e1];exact List.mem_map.2 ⟨r',CJ,rfl⟩) _ _ CE
      apply hn r'.bq;rw[he];cases dS:r'.bq with
      |gd gs f'=>exact absurd dS (Qk gs f')
      |_=>simp[CN]
     ·rw[hg];simp
    ·rcases hG t with⟨r,hr,rfl,hg⟩|hg
     ·rw[hg];rw[<-e2]at Hi;simpa[GI.own]using(VM Hi).1 r hr
     ·rw[hg];simp[GI.own]
    ·rcases hG t with⟨r,hr,rfl,hg⟩|hg
     ·rcases hG u with⟨q,hq,rfl,CE⟩|CE
      ·rw[hg]at hb;rw[CE]at Cl;simp only[GI.own,AB]at hb Cl;rw[<-e2]at Hi;obtain⟨i,hi⟩:=List.getElem?_of_mem hr;obtain⟨j,hj⟩:=List.getElem?_of_mem hq;have:=(VM Hi).2 i j r q b hi hj hb Cl;subst this;rw[hi]at hj;cases hj;exact M8 rfl
      ·rw[CE]at Cl;simp[GI.own]at Cl
     ·rw[hg]at hb;simp[GI.own]at hb
    ·rcases hG t with⟨r,hr,rfl,hg⟩|hg
     ·rw[hg]at hb;simp only[GI.own,AB]at hb;exact .inr (Hg r hr b hb)
     ·rw[hg]at hb;simp[GI.own]at hb
    ·rcases hG t with⟨r,hr,rfl,hg⟩|hg
     ·rw[hg]at hb;simp only[GI.own,AB]at hb;exact EU b (Hg r hr b hb)
     ·rw[hg]at hb;simp[GI.own]at hb
    ·rcases hk with hk|⟨r,hr,rfl,_⟩
     ·exact hk.elim
     ·exact pC r hr
    ·obtain⟨r,hr,rfl,_⟩:=A5 t e he;exact pC r hr
   have Tv:G6 F xs {sl:=ss++(List.range (fn.nfree-s.ft.length)).map (λj=>SV.e (.var (fn.params.size+s.ft.length+j)))++List.replicate (fn.ntmps-(fn.params.size+fn.nfree)) .undef,hp:=l,nx:=100000,nv:=fn.params.size+fn.nfree} {tmps:=vs.toArray++Array.replicate (fn.ntmps-vs.toArray.size) undef,defers:=[]} w:=by
    refine⟨c,rfl,rfl,rfl,rfl,rfl,hlen,λt ht=>ht,?_⟩;have hl:(ss++(List.range (fn.nfree-s.ft.length)).map (λj=>SV.e (.var (fn.params.size+s.ft.length+j)))++List.replicate (fn.ntmps-(fn.params.size+fn.nfree)) SV.undef).length=fn.ntmps:=by rw[AH,Gx,List.length_replicate];omega
    show Rel c (ss++(List.range (fn.nfree-s.ft.length)).map (λj=>SV.e (.var (fn.params.size+s.ft.length+j)))++List.replicate (fn.ntmps-(fn.params.size+fn.nfree)) SV.undef).length _ _ _;rw[hl];exact hrel
   refine calls_of_wp ID Eg ?_;have o8:KG (λ_ _ _ _=>False):=λ_ _ _ _ _ _ h=>h;have W0:=Tr.eo _ o8 t0 EN hd;refine zyn (zAX dD (zFG (sg:={sg with dp:=s.dp,wn:=s.wn,fz:=s.fz}) J2) zEI) zBx code [] _ _ t0 hex F (λr'=>r'=r) _ [] xs _ w (VU o8 _ _) W0 Tv _ λi x τ ρ' a' w' hp hl Dk=> ?_;obtain⟨tr,d',q1,q2,q3⟩:=hl;have main:Xm P fn s τ=some tr->a'.defers=[]/\ ∃v,(results fn a'.tmps).run P w'= .ok v w'/\ ∃v',Ending.returned v= .returned v'/\fU P fn s w vs rf A9 r v' w':=by
    intro Er;obtain⟨c2,rfl,rfl,k1,k2,k3,k4,k5,k6⟩:=Dk;unfold Xm at Er;split at Er
    ·rename_i rs bx us Fy WY;split at Er
     ·rename_i es vs' IC dM;split at Er
      ·cases Er
      rename_i TF;simp only[Bool.or_eq_true,Bc,not_or,Bool.not_eq_false,Bool.not_eq_true]at TF;obtain⟨B6,I7⟩:=TF;have B6:=Si B6;simp only[Ad]at Er;subst Er;have hr:_=r:=q3;obtain⟨rvs,z1,z2,z3⟩:=zuM k6 fn Fy;obtain⟨f1,y1,y2⟩:=vD (P:=P) k6 (Du fn s) dM z1 IC (AN _);obtain⟨f2,o2,x1,x2,x3⟩:=vL (P:=P) k6 (w0:=w) (ms0:=s.b8) (vs0:=vs) (λt=>by rw[k2]) (fn.params.toList++s.ft) 0 WY Ah (λk=>by simp) (λk=>by simp);refine⟨k6.defers,_,z3,_,rfl,⟨?_,?_⟩⟩
      ·
       have hR:∃R,R=(match es with| .cons x .nil=>x|es=>E.tup es).den c2.ρ/\KX P c2.w (Du fn s) s.res (match rvs with| [u]=>u|us=> .tuple us.toArray) R f1 (vs'.flatMap λt=>(c2.G t).top):=by
        refine⟨_,rfl,?_⟩;have yl:es.den c2.ρ=es.den c2.ρ:=rfl;generalize Uo:(Du fn s)=ts at y1 ⊢;generalize Cs:es.den c2.ρ=ys at y1;generalize (vs'.flatMap λt=>(c2.G t).top)=o1 at y1 ⊢;cases y1 with
        |nil=>
         cases es with
         |nil=>exact⟨[],[],rfl,by simp[E.den,EL.den], .nil⟩
         |cons e es=>simp[EL.den]at Cs
        | @cons t ts fl v vs2 x xs2 f h rf2 Bb w1 w2=>
         cases w2 with
         |nil=>
          cases es with
          |nil=>simp[EL.den]at Cs
          |cons e es=>
           cases es with
           |nil=>simp only[EL.den,List.cons.injEq,and_true]at Cs;subst Cs;simpa[KX]using w1
           |cons e2 es=>simp[EL.den]at Cs
         | @cons t2 ts2 fl2 v2 vs3 x2 xs3 f2' h2 rf3 Hl w3 w4=>
          cases es with
          |nil=>simp[EL.den]at Cs
          |cons e es=>
           cases es with
           |nil=>simp[EL.den]at Cs
           |cons e2 es=>refine⟨v::v2::vs3,x::x2::xs3,rfl,?_, .cons w1 (.cons w3 w4)⟩;simp only[E.den,Cs]
       obtain⟨R,hR1,Tu⟩:=hR;have Bk:∀b∈(vs'.flatMap λt=>(c2.G t).top)++o2,∃t∈vs'++us,b∈(c2.G t).top:=λb hb=>by
        rcases Ac.1 hb with hb|hb
        ·obtain⟨t,ht,CS⟩:=List.mem_flatMap.1 hb;exact⟨t,by simp[ht],CS⟩
        ·rw[x2]at hb;obtain⟨t,ht,CS⟩:=List.mem_flatMap.1 hb;exact⟨t,by simp[ht],CS⟩
       have JD:∀b t,b∈(c2.G t).top->b∈A9\/w.heap.size<=b:=λb t hb=>by
        rcases k6.gw.allow t b (by simp[GI.own,hb])with h|h
        ·simp only[Cx.B,k1]at h;exact .inr h
        ·rw[k3]at h;exact .inl h
       refine⟨R,bx.map (E.den c2.ρ),f1,_,f2,o2,?_,Tu,x1,?_,λb hb=> ?_,λb hb=> ?_⟩
       ·rw[<-hr,hR1];cases bx with
        |nil=>rfl
        |cons b bx=>simp only[List.isEmpty_cons,Ba,if_false,E.den,EL.dq,List.map_cons];rfl
       ·rw[x2,<-List.flatMap_append];have:∀l:List Nat,l.Nodup->(l.flatMap λt=>(c2.G t).top).Nodup:=by
         intro l
         induction l with
         |nil=>intro _;simp
         |cons t l ih=>intro hl;rw[List.nodup_cons]at hl;rw[List.flatMap_cons,List.nodup_append];refine⟨(List.nodup_append.1 (k6.gw.nodup t)).1,ih hl.2,λx hx y hy Hm=> ?_⟩;subst Hm;obtain⟨u,hu,eP⟩:=List.mem_flatMap.1 hy;exact k6.gw.cy t u (λhh=>hl.1 (hh▸hu)) x (by simp[GI.own,hx]) (by simp[GI.own,eP])
        exact this _ B6
       ·obtain⟨t,ht,CS⟩:=Bk b hb;exact⟨JD b t CS,k6.gw.inb t b (by simp[GI.own,CS])⟩
       ·have IL:c2.ei (Wr P τ (Du fn s) s.res rs++P1 P τ 0 (fn.params.toList++s.ft) s.b8) b:=by
         rcases Ac.1 hb with hb|hb
         ·exact(y2 b hb).mono λt ht=>by simp[ht]
         ·exact(x3 b hb).mono λt ht=>by simp[ht]
        rcases IL with AZ|⟨t,ht,CS⟩
        ·refine⟨λho=> ?_,?_⟩
         ·obtain⟨u,_,IA⟩:=Bk b ho;exact AZ.1 ⟨u,IA⟩
         ·rcases AZ.2 with h|h|h
          ·rw[k2]at h;exact .inl h
          ·simp only[Cx.B,k1]at h;exact .inr (.inr h)
          ·rw[k3]at h;exact .inr (.inl h)
        ·refine⟨λho=> ?_, .inr (JD b t CS)⟩;obtain⟨u,hu,IA⟩:=Bk b ho;have M8:t≠u:=by
          rintro rfl;rw[List.any_eq_false]at I7;have:=I7 t ht;simp only[List.contains_eq_mem,AI]at this;exact this hu
         exact k6.gw.cy t u M8 b (by simp[GI.own,CS]) (by simp[GI.own,IA])
      ·have hb:=k6.base;refine⟨?_,?_,?_,?_,λk hk hn=> ?_⟩
       ·rw[hb.os,k1]
       ·rw[hb.tape,k1]
       ·rw[hb.output,k1]
       ·have:=hb.size;rw[k1]at this;exact this
       ·have:=hb.block k (by rw[k1];exact hk) (by rw[k3];exact hn);rw[k1]at this;exact this
     ·cases Er
    ·cases Er
   cases x with
   |normal=>exact main q1
   |ret=>exact main q1
   |exit id=>cases q1
  ·cases EN
 ·cases EN
end
end Go.Proofs.YtalagilebkaegaaGreat

/- Parts of a proof, joined: WSa, WSb, WT, WU, WV, WW. -/
import Derived.Test.YteeafhlnofapaaaGreatC5
set_option linter.unusedVariables false
set_option linter.unusedSimpArgs false
namespace Go.Proofs.YteeafhlnofapaaaGreat
open Go.RowKit
section
theorem DI.{u}{α:Type u}{a:α}:[a].length=1:=rfl
section
variable {P:Program} {c:Cx} {n nx:Nat} {sl sl0:Nat->SV} {hp hp0:Nat->Option Ab} {a:Act} {o:Oper} {gs:Gd} {e:AS} {sg:BE} {nv:Nat}
theorem Rel.gl(h:Rel c n sl hp a){sl':Nat->SV}(hs:∀i,sl' i=sl i\/SR c [sl' i] [a.tmps.getD i undef]):Rel c n sl' hp a:=
 ⟨h.defers,h.size,h.base,λi=>by
  rcases hs i with hh|hh
  ·rw[hh];exact h.cf i
  ·exact hh,h.ents,h.off,h.gw,h.az,h.b8⟩
theorem Qh{u:Nat}:∀{l:List Operand} {t T v m:Nat} {p:E × Nat × Nat} {s:SV},JH sl0 u l=some (t,T,v,m,p,s)->Operand.tmp t∈l/\((∃y,sl0 t= .via T v m (some p) y/\s= .own u 0)\/ ∃y k z q,sl0 t= .vptr T v m (some p) y k z q/\s= .bz u 0 k z q)
 | [],_,_,_,_,_,_,h=>by simp[JH]at h
 |x::l,t,T,v,m,p,s,h=>by
  cases x with
  |tmp i=>
   simp only[JH]at h;split at h
   ·rename_i hs;simp only[Aa,AG]at h;obtain⟨rfl,rfl,rfl,rfl,rfl,rfl⟩:=h;exact⟨by simp, .inl ⟨_,hs,rfl⟩⟩
   ·rename_i hs;simp only[Aa,AG]at h;obtain⟨rfl,rfl,rfl,rfl,rfl,rfl⟩:=h;exact⟨by simp, .inr ⟨_,_,_,_,hs,rfl⟩⟩
   ·obtain⟨h1,h2⟩:=Qh h;exact⟨by simp[h1],h2⟩
  |const v9=>simp only[JH]at h;obtain⟨h1,h2⟩:=Qh h;exact⟨by simp[h1],h2⟩
  |func f=>simp only[JH]at h;obtain⟨h1,h2⟩:=Qh h;exact⟨by simp[h1],h2⟩
  |global g=>simp only[JH]at h;obtain⟨h1,h2⟩:=Qh h;exact⟨by simp[h1],h2⟩
theorem Rel.split(h:Rel c n sl hp a){T v m u:Nat}{p:E × Nat × Nat}{hl inn:Ab}(hs:QH hp0 T v m u p=some (hl,inn))(BG:∀t e,hp0 t=some e->hp t=some e)(hu: ¬c.U u){vv:Value}(H4:c.E T=m->Hc c T v (some p) vv):
  ∃recs c1,c1=c.cy c.w recs/\Rel c1 n sl (AZ hp [(T,hl),(u,inn)]) a/\Dj c c1/\c1.K u 0/\c1.H u 0=vv/\(∃q n r,vv= .slice q n r/\(q=none\/n=0\/ ∃g,q=some ⟨g,0,none⟩))/\(∀t,c1.U t->c.U t\/t=u)/\c.K T v/\c.E T=m/\c1.E T=m+1/\T≠u:=by
 have eh:EH c hp0:=λt e hr=>h.ents t e (JQ BG hr);obtain⟨pi,z,po⟩:=p;unfold QH at hs;split at hs
 ·rename_i e z0 l g ep c0 kT;split at hs
  ·rename_i Ao;obtain⟨rfl,rfl,ZA⟩:=Ao;simp only at ZA;subst ZA;split at hs
   ·rename_i e2 z2 l2 BN;simp only[Aa,AG]at hs;obtain⟨rfl,rfl⟩:=hs;simp only at BN;obtain⟨q1,q2,q3,q4,q5⟩:=eh T _ (Ci kT (Ed _));obtain⟨b,n9,cap,C,ty,fz,kk,k,p1,p2,p3,p4,p5,p6,p7⟩:=H4 q3;obtain⟨d1,d2,⟨a9,d3,_⟩|⟨g9,cap9,C9,ys,N,d3,d4,d5,d6,d7,d8,d9,d10,d11,d12⟩⟩:=q4.inv
    ·rw[p1]at d3;cases d3;omega
    ·rw[p1]at d3;cases d3;rw[d6]at p3;cases p3;rw[Ax.ak]at d2 d12;have lG:po<z:=by
      rcases Nat.lt_or_ge po l.length with hh|hh
      ·omega
      ·rw[List.getElem?_eq_none hh]at BN;cases BN
     have GV:k.toNat<ys.length:=by omega
     have hmul:(k.toNat+1)*z<=ys.length*z:=A3 _ (by omega);have D3:ys.length*z<=cap*z:=A3 _ d7;rw[Nat.add_mul]at hmul;have De:C.toList.length=cap*z:=by simpa using d9
     have AA:k.toNat*z+po<C.size:=by omega
     obtain⟨N1,N2,N3,rfl,s1,s2,s3⟩:=d12.split (k.toNat*z+po) 1;have Bz:((C.toList.take (ys.length*z)).drop (k.toNat*z+po)).take 1=[vv]:=by have hv:C[k.toNat*z+po]?=some vv:=p7;rw[List.drop_take,List.take_take,Nat.min_eq_left (by omega),A7 (by simpa using AA),List.take_succ_cons,List.take_zero];rw[Array.getElem?_eq_getElem AA]at hv;simpa using hv
     have Hn:=KR GV;generalize L0:(AV.sl ys).nth k.toNat=yk at Hn;have E0:=d10 yk (List.mem_of_getElem? Hn);have Ei:((Am ys).drop (k.toNat*z+po)).take 1=[(E.fld (.idx c0 pi) po 1 false).den c.ρ]:=by rw[Qv ys d10 _ _ Hn po 1 (by omega),A7 (by omega),List.take_succ_cons,List.take_zero];simp only[E.den,d4,p4,AV.idx,L0,AV.fld];simp[show po<yk.cells.length by omega]
     have A2:((BS ys.length l).drop (k.toNat*z+po)).take 1=[.row e2 z2 l2]:=by
      rw[<-d2,Qn l _ _ _ _ GV (by omega)];have HZ:po<l.length:=by omega
      rw[A7 HZ,List.take_succ_cons,List.take_zero];rw[CJ HZ]at BN;simpa using BN
     rw[Bz,Ei,A2]at s2;have FD:=h.az _ _ q1;have HF:T≠u:=λhh=>hu (hh▸FD);have BT:=h.gw.nodup T;simp only[GI.own,q5,AE,d5]at BT;have AJ:∀r∈([⟨T,none,b::(N1++N3), .hol e z l g (ep+1) c0 pi po u⟩,⟨u,some vv,N2,if l2.toList.all DT.a7 then .row e2 z2 0 (.fld (.idx c0 pi) po 1 false) true else .deep e2 z2 l2.toList 0 0 (.fld (.idx c0 pi) po 1 false)⟩]:List AD),r.new.isSome=true-> ¬c.U r.tag:=λr hr hs=>by
      simp only[Ac,List.not_mem_nil,or_false]at hr;rcases hr with rfl|rfl
      ·cases hs
      ·exact hu
     refine⟨[⟨T,none,b::(N1++N3), .hol e z l g (ep+1) c0 pi po u⟩,⟨u,some vv,N2,if l2.toList.all DT.a7 then .row e2 z2 0 (.fld (.idx c0 pi) po 1 false) true else .deep e2 z2 l2.toList 0 0 (.fld (.idx c0 pi) po 1 false)⟩],_,rfl,?_⟩;generalize AL:([⟨T,none,b::(N1++N3), .hol e z l g (ep+1) c0 pi po u⟩,⟨u,some vv,N2,if l2.toList.all DT.a7 then .row e2 z2 0 (.fld (.idx c0 pi) po 1 false) true else .deep e2 z2 l2.toList 0 0 (.fld (.idx c0 pi) po 1 false)⟩]:List AD)=recs at AJ;have hn:(recs.map AD.tag).Nodup:=by rw[<-AL];simp[HF]
     have aft:=Cx.cw (w':=c.w) h.az hn AJ;have Dp:(⟨T,none,b::(N1++N3), .hol e z l g (ep+1) c0 pi po u⟩:AD)∈recs:=by rw[<-AL];simp
     have C3:(⟨u,some vv,N2,if l2.toList.all DT.a7 then .row e2 z2 0 (.fld (.idx c0 pi) po 1 false) true else .deep e2 z2 l2.toList 0 0 (.fld (.idx c0 pi) po 1 false)⟩:AD)∈recs:=by rw[<-AL];simp
     obtain⟨k1,k2,k3⟩:=aft.new _ C3 vv rfl;have kgT:=aft.G _ Dp;have keT:=aft.eo _ Dp rfl;have kgu:=aft.G _ C3;have keu:=aft.gh _ C3 rfl;obtain⟨kT1,kT2⟩:=aft.K T g q1;simp only at k1 k2 k3 kgT keT kgu keu;have Ks:∀q,q∈b::(N1++N3)\/q∈N2->q∈(c.G T).top:=λq hq=>by rw[d5];simp only[Ac,Ae]at hq ⊢;rcases hq with(hq|hq|hq)|hq<;>simp[hq]
     obtain⟨hrel,BL⟩:=h.changes (recs:=recs) (gs:=[]) (hs:=(c.G T).top) (Ed _) (Mod.refl _ c.w) hn AJ (λq hq=>⟨_,Dp,hq⟩) (by
       rw[<-AL];simp only[List.flatMap_cons,List.flatMap_nil,AE];rw[List.nodup_cons]at BT;obtain⟨n1,n2⟩:=BT;rw[List.append_assoc,List.nodup_append,List.nodup_append]at n2;obtain⟨a1,⟨a2,a3,a4⟩,a5⟩:=n2;rw[List.cons_append,List.nodup_cons,List.nodup_append,List.nodup_append];refine⟨λhh=>n1 ?_,⟨a1,a3,λx hx y hy=>a5 x hx y (Ae.2 (.inr hy))⟩,a2,λx hx y hy E8=> ?_⟩
       ·simp only[Ae]at hh ⊢;rcases hh with(hh|hh)|hh<;>simp[hh]
       ·rcases Ae.1 hx with hx|hx
        ·exact a5 x hx y (Ae.2 (.inl hy)) E8
        ·exact a4 y hy x hx E8.symm)
      (λr hr q hq=>by
       have:q∈(c.G T).top:=by
        rw[<-AL]at hr;simp only[Ac,List.not_mem_nil,or_false]at hr;rcases hr with rfl|rfl
        ·exact Ks q (.inl hq)
        ·exact Ks q (.inr hq)
       exact⟨.inl this,h.gw.inb T q (by simp[GI.own,this])⟩)
      (λr hr=>by
       rw[<-AL]at hr;simp only[Ac,List.not_mem_nil,or_false]at hr;rcases hr with rfl|rfl
       ·intros;simp
       ·intros;simp only;split<;>simp)
      (λhk r hr=>by
       rw[<-AL]at hr;simp only[Ac,List.not_mem_nil,or_false]at hr;rcases hr with rfl|rfl
       ·refine⟨kT1,λg' B7=>q2 g' (aft.old T FD g' B7),by rw[keT,q3],?_,by rw[kgT]⟩;rw[kT2,p1,kgT];exact⟨b,cap,C,ys,kk,k,N1,N3,rfl,d4,p4,p5,p6,lG,d1,d2,d6,d7,d8,d9,d10,d11,rfl,k1,by rw[k3];exact p7,s1,s3⟩
       ·simp only;split
        ·rename_i hf;have Bf:=s2.ky hf;refine⟨k1,k2,[],?_,by simp,λ_=>⟨rfl,by rw[kgu]⟩,λ_=>by rw[kgu]⟩;rw[k3,kgu];exact Bf
        ·refine⟨k1,k2,keu,?_,by rw[kgu]⟩;rw[k3,kgu,Ax.cc];exact s2)
     refine⟨?_,BL,k1,k3,?_,λt ht=> ?_,q1,q3,by rw[keT,q3],HF⟩
     ·have:(recs.map λr=>(r.tag,Cq [] r.ay))=[(T, .hol e z l g (ep+1) c0 pi po u),(u,if l2.toList.all DT.a7 then .row e2 z2 0 (.fld (.idx c0 pi) po 1 false) true else .deep e2 z2 l2.toList 0 0 (.fld (.idx c0 pi) po 1 false))]:=by
       rw[<-AL];simp[Cq]
      rw[this]at hrel;exact hrel
     ·obtain⟨_,_,⟨a9,h1,_⟩|⟨g9,cap9,C9,ys9,N9,h1,_⟩⟩:=s2.inv
      ·exact⟨a9,0,0,h1, .inr (.inl rfl)⟩
      ·exact⟨_,_,_,h1, .inr (.inr ⟨g9,rfl⟩)⟩
     ·rcases ht with ht|⟨r,hr,rfl⟩
      ·exact .inl ht
      ·rw[<-AL]at hr;simp only[Ac,List.not_mem_nil,or_false]at hr;rcases hr with rfl|rfl
       ·exact .inl FD
       ·exact .inr rfl
   ·cases hs
  ·cases hs
 ·cases hs
theorem Rel.close(h:Rel c n sl hp a){T u:Nat}{hl r d:Ab}(hT:hp T=some hl)(hu:hp u=some r)(hr:QS P hl r=some d)(Jz:∃q1 q2 q3 q4 q5 q6 q7 q8,hl= .hol q1 q2 q3 q4 q5 q6 q7 q8 u)(HF:T≠u):
  ∃recs c1,c1=c.cy c.w recs/\Rel c1 n sl (AZ hp [(T,d),(u, .dead)]) a/\(∀t,c1.U t->c.U t)/\c.E T<c1.E T:=by
 obtain⟨e,z,l,g,ep,c0,i,o',rfl⟩:=Jz;have key:∀(e2 z2:Nat) (l2:Ax) (x:E),l[o']?=some (.row e2 z2 l2)->DC c.w [.row e2 z2 l2] [c.H u 0] [x.den c.ρ] (c.G u).top->c.U u->d= .deep e z l g (ep+1) (.set c0 i (.put (.idx c0 i) o' x (Ah P e)))->(Ah P e=false->z=1)->
   ∃recs c1,c1=c.cy c.w recs/\Rel c1 n sl (AZ hp [(T,d),(u, .dead)]) a/\(∀t,c1.U t->c.U t)/\c.E T<c1.E T:=by
  rintro e2 z2 l2 x BN OX Rx rfl GK;obtain⟨q1,q2,q3,⟨b,cap,C,ys,kk,k,N1,N2,p1,p2,p3,p4,p5,p6,p7,p7',p8,p9,p10,p11,p12,p13,p14,p15,p16,p17,p18⟩,q5⟩:=h.ents T _ (by rw[hT];rfl);have FD:=h.az _ _ q1;have GV:k.toNat<ys.length:=by omega
  have hmul:(k.toNat+1)*z<=ys.length*z:=A3 _ (by omega);have D3:ys.length*z<=cap*z:=A3 _ p9;rw[Nat.add_mul]at hmul;have De:C.toList.length=cap*z:=by simpa using p11
  have AA:k.toNat*z+o'<C.size:=by omega
  have Hn:=KR GV;generalize L0:(AV.sl ys).nth k.toNat=yk at Hn;have E0:=p12 yk (List.mem_of_getElem? Hn);obtain⟨zs,C5⟩:∃zs,x.den c.ρ= .sl zs:=by
   obtain⟨_,_,⟨_,_,hx,_⟩|⟨_,_,_,_,_,_,hx,_⟩⟩:=OX.inv
   ·exact⟨_,hx⟩
   ·exact⟨_,hx⟩
  have FG:(x.den c.ρ).cells=[x.den c.ρ]:=by rw[C5];rfl
  have hz:(yk.cm o' (x.den c.ρ) (Ah P e)).cells=setVs yk.cells o' (x.den c.ρ).cells:=by
   refine Xe ?_ (λhg=> ?_)
   ·cases hg:Ah P e with
    |true=>exact .inr rfl
    |false=>left;rw[C5];intro cs hh;cases hh
   ·have:=GK hg;exact⟨by omega,by omega,FG⟩
  have DZ:Am (ys.set k.toNat (yk.cm o' (x.den c.ρ) (Ah P e)))=setVs (Am ys) (k.toNat*z+o') (x.den c.ρ).cells:=
   Tm ys _ _ yk o' _ p12 Hn (by rw[FG];simp;omega) hz
  have FQ:((BS ys.length l).drop (k.toNat*z+o')).take 1=[.row e2 z2 l2]:=by
   rw[<-p7',Qn l _ _ _ _ GV (by omega)];have HZ:o'<l.length:=by omega
   rw[A7 HZ,List.take_succ_cons,List.take_zero];rw[CJ HZ]at BN;simpa using BN
  have Pt:setVs (C.toList.take (ys.length*z)) (k.toNat*z+o') [c.H u 0]=C.toList.take (ys.length*z):=by
   apply List.ext_getElem?;intro j;have kO:(C.toList.take (ys.length*z)).length=ys.length*z:=by rw[AF,De];exact Nat.min_eq_left D3
   rw[Nv _ _ _ (by rw[kO];show k.toNat*z+o'+1<=_;omega)];split
   ·rename_i hj;simp only[AM,List.length_nil]at hj;have:j=k.toNat*z+o':=by omega
    subst this;rw[Nat.sub_self,List.getElem?_take,if_pos (by omega)];have:=p16;simpa using this.symm
   ·rfl
  have AP:DC c.w [.row e z (Ax.of l)] [c.H T g] [(E.set c0 i (.put (.idx c0 i) o' x (Ah P e))).den c.ρ] (b::(N1++((c.G u).top++N2))):=by
   have BY:(E.set c0 i (.put (.idx c0 i) o' x (Ah P e))).den c.ρ= .sl (ys.set k.toNat (yk.cm o' (x.den c.ρ) (Ah P e))):=by simp only[E.den,p2,p3,AV.idx,L0,AV.ch]
   rw[BY,p1];have Dn:(ys.set k.toNat (yk.cm o' (x.den c.ρ) (Ah P e))).length=ys.length:=List.length_set;have:=DC.row (w:=c.w) (e:=e) (z:=z) (l:=Ax.of l) (g:=b) (cap:=cap) (C:=C) (ys:=ys.set k.toNat (yk.cm o' (x.den c.ρ) (Ah P e))) (N1:=N1++((c.G u).top++N2)) (ts:=[]) (vs:=[]) (xs:=[]) (N:=[]) p7 (by rw[Ax.ak];exact p7') p8 (by rw[Dn];exact p9) p10 p11 (λw hw=>by
     rcases List.mem_or_eq_of_mem_set hw with hw|rfl
     ·exact p12 w hw
     ·rw[hz,Nx _ _ _ (by rw[FG,E0];simp;omega)];exact E0) (by rw[Dn];exact p13) (by
     rw[Dn,Ax.ak,DZ,<-Pt];refine DC.setVs p17 ?_ ?_
     ·exact p18
     ·rw[DI,FQ,FG];exact OX) .nil
   rw[Dn]at this;simpa using this
  have hTK:=q1;have AJ:∀r∈([⟨T,none,b::(N1++((c.G u).top++N2)), .deep e z l g (ep+1) (.set c0 i (.put (.idx c0 i) o' x (Ah P e)))⟩,⟨u,none,[], .dead⟩]:List AD),r.new.isSome=true-> ¬c.U r.tag:=λr hr hs=>by simp only[Ac,List.not_mem_nil,or_false]at hr;rcases hr with rfl|rfl<;>cases hs
  refine⟨[⟨T,none,b::(N1++((c.G u).top++N2)), .deep e z l g (ep+1) (.set c0 i (.put (.idx c0 i) o' x (Ah P e)))⟩,⟨u,none,[], .dead⟩],_,rfl,?_⟩;generalize AL:([⟨T,none,b::(N1++((c.G u).top++N2)), .deep e z l g (ep+1) (.set c0 i (.put (.idx c0 i) o' x (Ah P e)))⟩,⟨u,none,[], .dead⟩]:List AD)=recs at AJ;have hn:(recs.map AD.tag).Nodup:=by rw[<-AL];simp[HF]
  have aft:=Cx.cw (w':=c.w) h.az hn AJ;have Dp:(⟨T,none,b::(N1++((c.G u).top++N2)), .deep e z l g (ep+1) (.set c0 i (.put (.idx c0 i) o' x (Ah P e)))⟩:AD)∈recs:=by rw[<-AL];simp
  have C3:(⟨u,none,[], .dead⟩:AD)∈recs:=by rw[<-AL];simp
  have kgT:=aft.G _ Dp;have keT:=aft.eo _ Dp rfl;have kgu:=aft.G _ C3;obtain⟨kT1,kT2⟩:=aft.K T g q1;simp only at kgT keT kgu;have B8:∀q,q∈b::(N1++((c.G u).top++N2))->q∈(c.G T).top\/q∈(c.G u).top:=λq hq=>by rw[p14];simp only[Ac,Ae]at hq ⊢;rcases hq with hq|hq|hq|hq<;>simp[hq]
  have LM:=h.gw.nodup T;simp only[GI.own,q5,AE,p14]at LM;have VD:(c.G u).top.Nodup:=by have:=h.gw.nodup u;simp only[GI.own]at this;exact(List.nodup_append.1 this).1
  have Fh:∀q∈(c.G u).top,q∉b::(N1++N2):=λq hq hh=>h.gw.br u T (Ne.symm HF) q (by simp[GI.own,hq]) (by rw[<-p14]at hh;simp[GI.own,hh]);obtain⟨hrel,BL⟩:=h.changes (recs:=recs) (gs:=[]) (hs:=(c.G T).top++(c.G u).top) (Ed _) (Mod.refl _ c.w) hn AJ (λq hq=>by
    rcases Ae.1 hq with hq|hq
    ·exact⟨_,Dp,hq⟩
    ·exact⟨_,C3,hq⟩) (by
    rw[<-AL];simp only[List.flatMap_cons,List.flatMap_nil,AE];rw[List.nodup_cons,List.nodup_append]at LM;obtain⟨n1,a1,a2,a3⟩:=LM;rw[List.nodup_cons,List.nodup_append,List.nodup_append];refine⟨λhh=> ?_,a1,⟨VD,a2,λx hx y hy E8=>Fh x hx (by rw[E8];simp[hy])⟩,λx hx y hy E8=> ?_⟩
    ·simp only[Ae]at hh n1;rcases hh with hh|hh|hh
     ·exact n1 (.inl hh)
     ·exact Fh b hh (by simp)
     ·exact n1 (.inr hh)
    ·rcases Ae.1 hy with hy|hy
     ·exact Fh y hy (by rw[<-E8];simp[hx])
     ·exact a3 x hx y hy E8)
   (λr hr q hq=>by
    have:q∈(c.G T).top\/q∈(c.G u).top:=by
     rw[<-AL]at hr;simp only[Ac,List.not_mem_nil,or_false]at hr;rcases hr with rfl|rfl
     ·exact B8 q hq
     ·simp at hq
    refine⟨.inl (Ae.2 this),?_⟩;rcases this with hh|hh
    ·exact h.gw.inb T q (by simp[GI.own,hh])
    ·exact h.gw.inb u q (by simp[GI.own,hh]))
   (λr hr=>by rw[<-AL]at hr;simp only[Ac,List.not_mem_nil,or_false]at hr;rcases hr with rfl|rfl<;>(intros;simp))
   (λhk r hr=>by
    rw[<-AL]at hr;simp only[Ac,List.not_mem_nil,or_false]at hr;rcases hr with rfl|rfl
    ·exact⟨kT1,λg' B7=>q2 g' (aft.old T FD g' B7),by rw[keT,q3],by rw[kT2,kgT];exact AP,by rw[kgT]⟩
    ·exact⟨by rw[kgu],by rw[kgu]⟩)
  refine⟨?_,λt ht=> ?_,by rw[keT];omega⟩
  ·have:(recs.map λr=>(r.tag,Cq [] r.ay))=[(T, .deep e z l g (ep+1) (.set c0 i (.put (.idx c0 i) o' x (Ah P e)))),(u, .dead)]:=by
    rw[<-AL];simp[Cq]
   rw[this]at hrel;exact hrel
  ·rcases ht with ht|⟨r,hr,rfl⟩
   ·exact ht
   ·rw[<-AL]at hr;simp only[Ac,List.not_mem_nil,or_false]at hr;rcases hr with rfl|rfl
    ·exact FD
    ·exact Rx
 have Rx:c.U u:=h.b8 u r hu;unfold QS at hr;simp only at hr;split at hr
 ·rename_i e2 z2 l2 e3 z3 x BN;split at hr
  ·rename_i hh;obtain⟨hf,rfl,rfl,hlen,As⟩:=hh;simp only[Aa]at hr;obtain⟨q1,q2,N,q4,q5,q6,q7⟩:=h.ents u _ (by rw[hu];rfl);obtain⟨hN,_⟩:=q6 rfl;have hN:N=[]:=hN;subst hN;exact key _ _ _ _ BN (DC.jf q4 hf hlen) Rx hr.symm (by rcases As with hh|hh;(rw[hh];simp);exact λ_=>hh)
  ·cases hr
 ·rename_i e2 z2 l2 e3 z3 l3 x BN;split at hr
  ·rename_i hh;obtain⟨rfl,rfl,hb,As⟩:=hh;simp only[Aa]at hr;have hb:=Ax.of_eq hb;subst hb;obtain⟨q1,q2,q3,q4,q5⟩:=h.ents u _ (by rw[hu];rfl);rw[Ax.cc]at q4;exact key _ _ _ _ BN q4 Rx hr.symm (by rcases As with hh|hh;(rw[hh];simp);exact λ_=>hh)
  ·cases hr
 ·cases hr
end
section
variable {P:Program} {c:Cx} {n nx:Nat} {sl sl0:Nat->SV} {hp hp0:Nat->Option Ab} {a:Act} {o:Oper} {gs:Gd} {e:AS} {sg:BE} {nv:Nat}
theorem Nt(hp:Nat->Option Ab):∀(l:List (Nat × Ab)) (t:Nat),AZ hp l t=match JN l t with|some f=>some f|none=>hp t
 | [],t=>rfl
 |(u,e)::l,t=>by
  have:=Nt (λv=>if v=u then some e else hp v) l t;simp only[AZ,List.foldl_cons,JN]at this ⊢;rw[this];cases JN l t with
  |some f=>rfl
  |none=>
   simp only;by_cases h:u=t
   ·rw[if_pos h.symm,if_pos h]
   ·rw[if_neg (Ne.symm h),if_neg h]
theorem qQ{hp:Nat->Option Ab}{T v m u:Nat}{p:E × Nat × Nat}{h r:Ab}(hs:QH hp T v m u p=some (h,r)):∃e z l ep c0 i o',h= .hol e z l v (m+1) c0 i o' u/\CE hp [] T=some (.deep e z l v ep c0)/\ep=m:=by
 unfold QH at hs;split at hs
 ·rename_i hl;split at hs
  ·rename_i hh;obtain⟨rfl,rfl,_⟩:=hh;split at hs
   ·simp only[Aa,AG]at hs;obtain⟨rfl,_⟩:=hs;exact⟨_,_,_,_,_,_,_,rfl,hl,rfl⟩
   ·cases hs
  ·cases hs
 ·cases hs
theorem qB{h r d:Ab}{e z:Nat}{l:List DT}{g ep:Nat}{c0 i:E}{o' u:Nat}(hh:h= .hol e z l g ep c0 i o' u)(hc:QS P h r=some d):∃x,d= .deep e z l g (ep+1) x:=by
 subst hh;unfold QS at hc;simp only at hc;split at hc
 ·split at hc
  ·simp only[Aa]at hc;exact⟨_,hc.symm⟩
  ·cases hc
 ·split at hc
  ·simp only[Aa]at hc;exact⟨_,hc.symm⟩
  ·cases hc
 ·cases hc
theorem zK(Ia:∀f s,sg f=some s->f<1000000)(h:A5 P c n nx sl hp a sl0 hp0 o [])(hu: ¬c.U (nx+999))(he:QX P sg sl0 hp0 nv nx o=some e)
  (hc:∀q∈e.bf,q.den c.ρ) (A0:∀cl,e.call=some cl-> ∃r,c.ρ[nv]?=some r/\G8 (Cr P sg) cl.fn ((EL.of cl.args).den c.ρ) c.ρ r):Ap P o c n nx sl hp [] a e:=by
 unfold QX at he;simp only at he;split at he
 ·cases he
 rename_i t T v m p s Kh;split at he
 ·cases he
 rename_i hl inn Pu;split at he
 ·cases he
 rename_i e0 Jk;split at he
 ·cases he
 rename_i Cw;have Cw:e0.bb=none:=by cases hh:e0.bb with|none=>rfl|some x=>rw[hh]at Cw;simp at Cw
 obtain⟨Cu,AK⟩:=Qh Kh;have Cu:Operand.tmp t∈o.op.operands:=by simpa using Cu
 obtain⟨fe,fz,fl,fep,fc0,fi,fo,rfl,Gi,rfl⟩:=qQ Pu;have hE:c.E T=fep:=(h.eh T _ (Ci Gi (Ed _))).2.2.1;have D8:=h.rel.cf t;rw[<-h.sl t Cu]at D8;obtain⟨vv,H4,AQ⟩:∃vv,Hc c T v (some p) vv/\ ∀c1:Cx,c1.ρ=c.ρ->c1.K (nx+999) 0->c1.H (nx+999) 0=vv->(∃q n r,vv= .slice q n r/\(q=none\/n=0\/ ∃g,q=some ⟨g,0,none⟩))->SR c1 [s] [a.tmps.getD t undef]:=by
  rcases AK with⟨y,CF,rfl⟩|⟨y,k,z,q,CF,rfl⟩
  ·rw[CF]at D8;generalize a.tmps.getD t undef=av at D8 ⊢;cases D8 with
   |via h1 h2 h3 _=>obtain⟨_,hp⟩:=h3 hE;refine⟨_,hp,λc1 e1 k1 k2 k3=> ?_⟩;obtain⟨q,n,r,rfl,_⟩:=k3;exact .own k1 k2 .nil
  ·rw[CF]at D8;generalize a.tmps.getD t undef=av at D8 ⊢;cases D8 with
   |vptr h1 h2 h3 _=>
    obtain⟨b,off,len,cap,kk,kv,g1,g2,g3,g4,g5,g6,rfl⟩:=h3 hE;refine⟨_,g2,λc1 e1 k1 k2 k3=> ?_⟩;obtain⟨q9,n9,r9,hv,hq⟩:=k3;cases hv;have Fs:off=0:=by
     rcases hq with hq|hq|⟨g,hq⟩
     ·cases hq
     ·omega
     ·cases hq;rfl
    subst Fs;have:=SR.bz (c:=c1) (i:=k) (sz:=z) (o:=q) k1 k2 (by rw[e1];exact g3) g4 g5 .nil;simpa using this
 obtain⟨recs,c1,rfl,CN,LC,MR,Ja,lX,UK,hKT,_,Y3,HF⟩:=h.rel.split Pu h.hp hu (λ_=>H4);have Ju:=AQ _ LC.ρ MR Ja lX;have ED:=CN.gl (sl':=λi=>if i=t then s else sl i) (λi=>by
  by_cases hi:i=t
  ·subst hi;right;simpa using Ju
  ·left;simp[hi])
 have Dr:∀x,AZ hp [(T, .hol fe fz fl v (fep+1) fc0 fi fo (nx+999)),(nx+999,inn)] x=if x=nx+999 then some inn else if x=T then some (.hol fe fz fl v (fep+1) fc0 fi fo (nx+999))else hp x:=λx=>rfl;have pre1:A5 P (c.cy c.w recs) n nx (λi=>if i=t then s else sl i) (AZ hp [(T, .hol fe fz fl v (fep+1) fc0 fi fo (nx+999)),(nx+999,inn)]) a (λi=>if i=t then s else sl0 i) (λw=>if w=T then some (.hol fe fz fl v (fep+1) fc0 fi fo (nx+999))else if w=nx+999 then some inn else hp0 w) o []:=by
  refine⟨ED,Ed _,λi hi=> ?_,λx f hf=> ?_,λx h1 h2 hx=> ?_⟩
  ·by_cases RD:i=t
   ·simp[RD]
   ·simp only[if_neg RD];exact h.sl i hi
  ·rw[Dr];by_cases h1:x=T
   ·rw[if_pos h1]at hf;rw[if_neg (by rw[h1];exact HF),if_pos h1];exact hf
   ·rw[if_neg h1]at hf;by_cases h2:x=nx+999
    ·rw[if_pos h2]at hf ⊢;exact hf
    ·rw[if_neg h2]at hf;rw[if_neg h2,if_neg h1];exact h.hp x f hf
  ·rcases UK x hx with hx|hx
   ·exact h.new x h1 h2 hx
   ·omega
 have jZ:∀(c':Cx) (a':Act) (w9:SV),Rel c' n (Co n (λi=>if i=t then s else sl i) o.dst w9) (λ_=>none) a'->True:=λ_ _ _ _=>trivial;have stale:∀(c':Cx) (v':Value),c'.K T v->fep<c'.E T->SR c' [sl t] [v']:=by
  intro c' v' hk AA;rw[<-h.sl t Cu];rcases AK with⟨y,CF,_⟩|⟨y,k,z,q,CF,_⟩
  ·rw[CF];exact .via hk (by omega) (λhh=>by omega) .nil
  ·rw[CF];exact .vptr hk (by omega) (λhh=>by omega) .nil
 have back:∀{c':Cx} {hp':Nat->Option Ab} {a':Act} {w9:SV},Rel c' n (Co n (λi=>if i=t then s else sl i) o.dst w9) hp' a'->c'.K T v->fep<c'.E T->Rel c' n (Co n sl o.dst w9) hp' a':=by
  intro c' hp' a' w9 hr hk AA;refine hr.gl λi=> ?_;unfold Co;by_cases h1:o.dst=some i/\i<n
  ·left;rw[if_pos h1,if_pos h1]
  ·rw[if_neg h1,if_neg h1];by_cases h2:i=t
   ·subst h2;right;exact stale _ _ hk AA
   ·left;show sl i=if i=t then s else sl i;rw[if_neg h2]
 split at he
 ·
  split at he
  ·rename_i HX;simp only[Aa]at he;subst he;have HK:=YA Ia pre1 Jk hc A0 (λx hx=>by rw[Cw]at hx;cases hx);intro next Q hk
   refine HK next Q λa' c' AU hr=> ?_
   have UI:AZ (AZ hp [(T, .hol fe fz fl v (fep+1) fc0 fi fo (nx+999)),(nx+999,inn)]) e0.ay T=some (.hol fe fz fl v (fep+1) fc0 fi fo (nx+999)):=by rw[Nt,HX,Dr,if_neg HF,if_pos rfl]
   obtain⟨g1,_,g3,_⟩:=hr.ents T _ (by rw[UI];rfl);refine hk a' c' ⟨AU.ρ,AU.A,AU.w0,AU.Mu,λx hx=> ?_⟩ (back hr g1 (by omega));rcases AU.U x hx with hx|hx
   ·rcases UK x hx with hx|hx
    ·exact .inl hx
    ·exact .inr ⟨by omega,by simp only[Bw];omega⟩
   ·exact .inr hx
  ·cases he
 ·split at he
  ·rename_i r' kU kQ;obtain⟨d,hd,rfl⟩:=Aj.1 he;have HK:=YA Ia pre1 Jk hc A0 (λx hx=>by rw[Cw]at hx;cases hx);intro next Q hk
   refine HK next Q λa' c' AU hr=> ?_
   have UI:AZ (AZ hp [(T, .hol fe fz fl v (fep+1) fc0 fi fo (nx+999)),(nx+999,inn)]) e0.ay T=some (.hol fe fz fl v (fep+1) fc0 fi fo (nx+999)):=by rw[Nt,kQ,Dr,if_neg HF,if_pos rfl]
   have lU:AZ (AZ hp [(T, .hol fe fz fl v (fep+1) fc0 fi fo (nx+999)),(nx+999,inn)]) e0.ay (nx+999)=some r':=by rw[Nt,kU]
   obtain⟨recs2,c2,rfl,Dv,jK,hE2⟩:=hr.close UI lU hd ⟨_,_,_,_,_,_,_,_,rfl⟩ HF;obtain⟨x9,rfl⟩:=qB rfl hd;have UJ:AZ (AZ (AZ hp [(T, .hol fe fz fl v (fep+1) fc0 fi fo (nx+999)),(nx+999,inn)]) e0.ay) [(T, .deep fe fz fl v (fep+1+1) x9),(nx+999, .dead)] T=some (.deep fe fz fl v (fep+1+1) x9):=by show(if T=nx+999 then _ else if T=T then _ else _)=_;rw[if_neg HF,if_pos rfl]
   obtain⟨g1,_,g3,_⟩:=Dv.ents T _ (by rw[UJ];rfl);have Dm:=back Dv g1 (by omega);have Be:AZ hp ((T, .hol fe fz fl v (fep+1) fc0 fi fo (nx+999))::(nx+999,inn)::e0.ay++ [(T, .deep fe fz fl v (fep+1+1) x9),(nx+999, .dead)])=AZ (AZ (AZ hp [(T, .hol fe fz fl v (fep+1) fc0 fi fo (nx+999)),(nx+999,inn)]) e0.ay) [(T, .deep fe fz fl v (fep+1+1) x9),(nx+999, .dead)]:=by rw[<-Ml,<-Ml];rfl
   refine hk a' (c'.cy c'.w recs2) ⟨AU.ρ,AU.A,AU.w0,AU.Mu,λx hx=> ?_⟩ ?_
   ·rcases AU.U x (jK x hx)with hx|hx
    ·rcases UK x hx with hx|hx
     ·exact .inl hx
     ·exact .inr ⟨by omega,by simp only[Bw];omega⟩
    ·exact .inr hx
   ·have:=Dm;rw[<-Be]at this;exact this
  ·cases he
theorem tK(h:A5 P c n nx sl hp a sl0 hp0 o gs){e:AS}(dp:Bool)(hd:Ap P o c n nx sl hp gs a e):Ap P o c n nx sl hp gs a (Iu dp hp0 gs e):=by
 unfold Iu;split
 ·exact hd
 ·split
  ·rename_i l hl;intro next Q hk
   refine hd next Q λa' c' hs hr=> ?_
   have e1:AZ hp0 e.ay=λt=>match JN e.ay t with|some f=>some f|none=>hp0 t:=funext (Nt hp0 e.ay)
   have hl:Di (AZ hp0 e.ay) [] (eL e.ay)=some l:=by rw[e1];exact hl
   have Hh:=hr.freeze (hp0:=AZ hp0 e.ay) (λt e' h'=>by
    rw[Nt]at h' ⊢;split at h'
    ·exact h'
    ·exact h.hp t e' h') (Ed _) hl
   refine hk a' (c'.a6 (l.map (·.1))) ⟨hs.ρ,hs.A,hs.w0,hs.Mu,hs.U⟩ ?_;show Rel _ _ _ (AZ hp (e.ay++l)) a';rw[Ml];exact Hh
  ·exact hd
theorem tF(dp:Bool)(e:AS):(Iu dp hp0 gs e).call=e.call:=by
 unfold Iu;split
 ·rfl
 ·split<;>rfl
theorem vZ(dp:Bool)(e:AS):(Iu dp hp0 gs e).bf=e.bf:=by
 unfold Iu;split
 ·rfl
 ·split<;>rfl
theorem Xi(dp:Bool)(e:AS):(Iu dp hp0 gs e).bb=e.bb:=by
 unfold Iu;split
 ·rfl
 ·split<;>rfl
theorem uD{dp:Bool}{e:AS}{x:E}(h:e.bb=some x):Iu dp hp0 gs e=e:=by unfold Iu;rw[if_pos (by simp[h])]
theorem wD(h:A5 P c n nx sl hp a sl0 hp0 o gs){e:AS}(fz:Bool)(hd:Ap P o c n nx sl hp gs a e):Ap P o c n nx sl hp gs a (IA fz hp0 gs e):=by
 unfold IA;split
 ·exact hd
 ·rename_i ID;simp only[Bool.or_eq_true,not_or]at ID;have kA:e.ay=[]:=by simpa using ID.2
  split
  ·rename_i t g m p x hv;split
   ·rename_i y l hy hl;split
    ·rename_i GY;intro next Q hk
     refine hd next Q λa' c' hs hr=> ?_
     rw[kA]at hr;have Vg:gs=[]:=by simpa using ID.1.1.1.2
     subst Vg;have hr:Rel c' n (Co n sl o.dst e.val) hp a':=hr;have eh:EH c' hp0:=λt e CP=>hr.ents t e (JQ h.hp CP);have Hh:=hr.freeze h.hp (Ed _) hl;refine hk a' (c'.a6 (l.map (·.1))) ⟨hs.ρ,hs.A,hs.w0,hs.Mu,hs.U⟩ ?_;refine{Hh with cf:=λi=> ?_};have h1:=hr.cf i;have h2:=Hh.cf i;unfold Co at h1 h2 ⊢;split
     ·rename_i hi;rw[if_pos hi]at h1;obtain⟨f,q1,q2⟩:=Gx eh (Ed _) AN hy h1 AN (Ar _);exact .e q1 (λb hb=>Qm hr eh (Ed _) hl GY (q2 b hb)) .nil
     ·rename_i hi;rw[if_neg hi]at h2;exact h2
    ·exact hd
   ·exact hd
  ·exact hd
theorem tM(fz:Bool)(e:AS):(IA fz hp0 gs e).call=e.call:=by
 unfold IA;split
 ·rfl
 ·split
  ·split
   ·split<;>rfl
   ·rfl
  ·rfl
theorem vJ(fz:Bool)(e:AS):(IA fz hp0 gs e).bf=e.bf:=by
 unfold IA;split
 ·rfl
 ·split
  ·split
   ·split<;>rfl
   ·rfl
  ·rfl
theorem dI(fz:Bool)(e:AS):(IA fz hp0 gs e).bb=e.bb:=by
 unfold IA;split
 ·rfl
 ·split
  ·split
   ·split<;>rfl
   ·rfl
  ·rfl
theorem vH{fz:Bool}{e:AS}{x:E}(h:e.bb=some x):IA fz hp0 gs e=e:=by unfold IA;rw[if_pos (by simp[h])]
theorem zvP(Ia:∀f s,sg f=some s->f<1000000):MJ P sg (Cr P sg):=by
 intro c n nx sl hp a sl0 hp0 o gs e nv h hu he hc A0 Cw;unfold JY at he;split at he
 ·rename_i e' Eh;simp only[Aa]at he;subst he;rw[vJ,vZ]at hc;rw[tM,tF]at A0;rw[dI,Xi]at Cw;exact wD h _ (tK h _ (YA Ia h Eh hc A0 Cw))
 ·split at he
  ·exact zK Ia h hu he hc A0
  ·cases he
theorem qR{x:E}(he:QX P sg sl0 hp0 nv nx o=some e)(hq:e.bb=some x):False:=by
 unfold QX at he;simp only at he;split at he
 ·cases he
 split at he
 ·cases he
 split at he
 ·cases he
 rename_i e0 Jk;split at he
 ·cases he
 rename_i Cw;have Cw:e0.bb=none:=by cases hh:e0.bb with|none=>rfl|some x=>rw[hh]at Cw;simp at Cw
 split at he
 ·split at he
  ·simp only[Aa]at he;subst he;rw[Cw]at hq;cases hq
  ·cases he
 ·split at he
  ·obtain⟨d,hd,rfl⟩:=Aj.1 he;rw[Cw]at hq;cases hq
  ·cases he
theorem rG{x:E}(he:JY P sg sl0 hp0 nv nx gs o=some e)(hq:e.bb=some x):Bv P sg sl0 hp0 nv nx gs o=some e:=by
 unfold JY at he;split at he
 ·rename_i e' Eh;simp only[Aa]at he;subst he;rw[dI,Xi]at hq;rw[vH (by rw[Xi];exact hq),uD hq];exact Eh
 ·split at he
  ·exact(qR he hq).elim
  ·cases he
theorem zO:Q8 P sg:=by
 intro c n nx sl hp a sl0 hp0 o gs e nv x h he hq hb;unfold I0 at hb;cases AH:o.op with
 |binOp op t y z ty=>
  rw[AH]at hb;simp only at hb;have he:=rG he hq;simp only[Bv,AH,Ak]at he;obtain⟨s1,Bu,s2,AQ,he⟩:=he;have key:∀xq,Ba hp0 gs AN s1=some xq->xq.den c.ρ= .sl []:=by
   intro xq Ig;obtain⟨f,q1,_⟩:=h.il Bu (by simp[AH,Op.operands]) Ig;generalize a.eval y=v at q1 hb;split at hb
   ·generalize xq.den c.ρ=d at q1;cases q1 with
    |db _=>rfl
   ·cases hb
  unfold N5 at he;split at he
  ·split at he
   ·simp at he;subst he;cases hq
   ·simp at he;subst he;cases hq
   ·obtain⟨xq,Ig,rfl⟩:=Aj.1 he;cases hq;exact key _ Ig
   ·obtain⟨xq,Ig,rfl⟩:=Aj.1 he;cases hq;exact key _ Ig
   ·cases he
  ·split at he
   ·simp at he;subst he;cases hq
   ·cases he
  ·split at he
   ·simp at he;subst he;cases hq
   ·cases he
  ·split at he
   ·simp at he;subst he;cases hq
   ·cases he
  ·split at he
   ·cases he
   ·split at he
    ·split at he
     ·simp at he;subst he;cases hq
     ·simp at he;subst he;cases hq
     ·cases he
    ·cases he
  ·cases he
 |_=>rw[AH]at hb;simp at hb
end
def F8(ms:List PM)(vs:List Value)(t:Nat):Option Value:=
 if K0 t then(match vs[t/1000]?,(ms[t/1000]?).getD .ro with
  |some v, .bx .. =>if t % 1000=0 then some v else none
  |some v, .mu _=>if 500<=t % 1000 then v.cells[t % 1000-500]? else none
  |_,_=>none)
 else none
section
variable {P:Program} {c:Cx} {w:World}
theorem Cd.fj{ts:List TypeId}{fl:List Bool}{us:List Value}{ys:List AV}{rf hs:List Nat}(h:Cd P w ts fl us ys rf hs){nx:Nat}{mk:Nat->E}{j:Nat}:∀(k:Nat) (u:Value),us[k]?=some u->(∃e,(nx+j+k,e)∈(Cz P nx mk j ts fl).2)->u.cells= #[u]:=by
 induction h generalizing j with
 |nil=>intro k u hu _;simp at hu
 | @deep t ts fl el e9 z9 l9 u us y ys top rf hs h1 h2 Oy MP h3 _ ih=>
  intro k u' hu he;cases k with
  |zero=>simp at hu;subst hu;obtain⟨p,q,r,rfl⟩:=h3.head;rfl
  |succ k=>
   refine ih (j:=j+1) k u' (by simpa using hu) ?_;obtain⟨e,he⟩:=he;simp only[Cz,h1,h2,Ac,AG]at he;rcases he with⟨he,_⟩|he
   ·omega
   ·exact⟨e,by rw[show nx+(j+1)+k=nx+j+(k+1)from by omega];exact he⟩
 | @own t ts fl el u us y ys top N rf hs h1 h2 Oz h3 _ ih=>
  intro k u' hu he;cases k with
  |zero=>simp at hu;subst hu;obtain⟨xs,_,_,_,⟨_,⟨a,rfl⟩,_⟩|⟨g,cap,C,rfl,_⟩⟩:=h3<;>rfl
  |succ k=>
   refine ih (j:=j+1) k u' (by simpa using hu) ?_;obtain⟨e,he⟩:=he;simp only[Cz,h1,h2,Ac,AG]at he;rcases he with⟨he,_⟩|he
   ·omega
   ·exact⟨e,by rw[show nx+(j+1)+k=nx+j+(k+1)from by omega];exact he⟩
 | @rd t ts fl u us y ys f rf hs h1 h3 _ ih=>
  intro k u' hu he;obtain⟨e,he⟩:=he;have U8:(Cz P nx mk j (t::ts) fl).2=(Cz P nx mk (j+1) ts fl.tail).2:=by
   simp only[Cz];split
   ·rename_i h8 h9;rw[h1 h8]at h9;cases h9
   ·rfl
  rw[U8]at he;cases k with
  |zero=>
   exfalso;have key:∀(ts:List TypeId) (fl:List Bool) (j' t':Nat) (e':Ab),(t',e')∈(Cz P nx mk j' ts fl).2->nx+j'<=t':=by
    intro ts
    induction ts with
    |nil=>intro fl j' t' e' h;simp[Cz]at h
    |cons a ts ih2=>
     intro fl j' t' e' h;simp only[Cz]at h;split at h
     ·simp only[Ac,AG]at h;rcases h with⟨h,_⟩|h
      ·omega
      ·have:=ih2 _ _ _ _ h;omega
     ·have:=ih2 _ _ _ _ h;omega
   have:=key _ _ _ _ _ he;omega
  |succ k=>exact ih (j:=j+1) k u' (by simpa using hu) ⟨e,by rw[show nx+(j+1)+k=nx+j+(k+1)from by omega];exact he⟩
theorem cD{i b:Nat}(hb:b+400<=1000){t:TypeId}{own:List Bool}{s:SV}{l:List (Nat × Ab)}{v:Value}{x:AV}{rf hs:List Nat}(h:N4 P i b t own=some (s,l))(hv:MG P w t own v x rf hs)(hx:(E.var i).den c.ρ=x):
  ∃recs:List AD,l=recs.map AD.pair/\recs.flatMap AD.top=hs/\(∀r∈recs,1000*i+b<=r.tag/\r.tag<1000*i+1000/\r.new.isSome)/\(recs.map AD.tag).Nodup/\(∀r∈recs,r.new=v.cells[r.tag-(1000*i+b)]?)/\
   ∀c',Eo c c' w recs->(∀b∈rf,c'.ok b)->SR c' [s] [v]/\ ∀r∈recs,CM c' r.tag r.ay:=by
 obtain⟨us,ys,hg,hc⟩:=hv;unfold N4 at h;simp only at h;split at h
 ·cases h
 rename_i hle;split at hg
 ·rename_i As;obtain⟨rfl,rfl,Cl⟩:=hg;obtain⟨recs,e1,e2,e3,e4,e4',e5⟩:=Nf (c:=c) (nx:=1000*i+b) (mk:=Dd (.var i) (Ah P t)) hc 0 (by rw[As];exact Qu hx);rw[if_pos As]at h;simp only[Aa,AG]at h;obtain⟨rfl,rfl⟩:=h;refine⟨recs,e1,e2,λr hr=>by have:=e3 r hr;exact⟨by omega,by omega,this.2.2⟩,e4,λr hr=>by rw[e4' r hr];simp[Value.cells],λc' ha AI=> ?_⟩;obtain⟨q1,q2⟩:=e5 c' ha AI;exact⟨.agg Cl (by rw[Bo.ak];exact q1) .nil,q2⟩
 ·rename_i As;obtain⟨rfl,rfl⟩:=hg;have FO:Ah P t=false:=by simpa using As
  obtain⟨recs,e1,e2,e3,e4,e4',e5⟩:=Nf (c:=c) (nx:=1000*i+b) (mk:=Dd (.var i) (Ah P t)) hc 0 (by
   intro k z hz;cases k with
   |zero=>simp at hz;subst hz;rw[FO];simpa[Dd]using hx
   |succ k=>simp at hz)
  rw[if_neg As]at h;split at h
  ·rename_i s' A1;simp only[Aa,AG]at h;obtain⟨rfl,rfl⟩:=h;refine⟨recs,e1,e2,λr hr=>by have:=e3 r hr;exact⟨by omega,by omega,this.2.2⟩,e4,λr hr=> ?_,λc' ha AI=> ?_⟩
   ·have CP:=e4' r hr;have h3:=e3 r hr;rw[CP,Nat.add_zero];have hlen:=hc.len;have IG:r.tag-(1000*i+b)=0:=by
     have:=hlen.1;simp at this;omega
    rw[IG];have:=hc.fj (nx:=1000*i+b) (mk:=Dd (.var i) (Ah P t)) (j:=0) 0 v rfl ⟨r.ay,by rw[e1];exact List.mem_map.2 ⟨r,hr,by simp[AD.pair];omega⟩⟩;rw[this];rfl
   ·obtain⟨q1,q2⟩:=e5 c' ha AI;rw[A1]at q1;exact⟨q1,q2⟩
  ·cases h
theorem bQ{ms0:List PM}{vs0:List Value}:∀(ts:List TypeId) (i:Nat) {ms:List PM} {lo:List Bool} {ss:List SV} {l:List (Nat × Ab)} {vs:List Value} {xs:List AV} {rf lf hs:List Nat},KM P i ts ms lo=some (ss,l)->Db P w ts ms lo vs xs rf lf hs->(∀k x,xs[k]?=some x->(E.var (i+k)).den c.ρ=x)->(∀k,ms[k]?=ms0[i+k]?)->(∀k,vs[k]?=vs0[i+k]?)->
  ∃recs:List AD,l=recs.map AD.pair/\recs.flatMap AD.top=hs/\(∀r∈recs,1000*i<=r.tag/\r.tag<1000*(i+ts.length)/\r.new.isSome)/\(recs.map AD.tag).Nodup/\(∀r∈recs,∀v,F8 ms0 vs0 r.tag=some v->r.new=some v)/\ss.length=ts.length/\ts.length<=vs.length/\
   ∀c',Eo c c' w recs->(∀b∈rf,c'.ok b)->(∀(k:Nat) (v:Value) (x:AV),(ms[k]?).getD .ro= .ro->vs[k]?=some v->xs[k]?=some x->c'.A.lo v x)->SR c' (ss++(List.range (vs.length-ts.length)).map λj=>SV.e (.var (i+ts.length+j))) vs/\ ∀r∈recs,CM c' r.tag r.ay
 | [],i,ms,lo,ss,l,vs,xs,rf,lf,hs,h,ha,hx,_,_=>by
  simp[KM]at h;obtain⟨rfl,rfl⟩:=h;have key:∀{ms:List PM} {lo:List Bool} {vs:List Value} {xs:List AV} {rf lf hs:List Nat},Db P w [] ms lo vs xs rf lf hs->hs=[]/\Rd w vs xs rf:=by
   intro ms lo vs
   induction vs generalizing ms lo with
   |nil=>intro xs rf lf hs h;cases h;exact⟨rfl, .nil⟩
   |cons v vs ih=>
    intro xs rf lf hs h;cases h with
    |free h1 h2=>obtain⟨rfl,h3⟩:=ih h2;exact⟨rfl,h1.app h3⟩
  obtain⟨rfl,CQ⟩:=key ha;refine⟨[],rfl,rfl,by simp,by simp,by simp,rfl,by simp,λc' ET AI _=>⟨?_,by simp⟩⟩;have frees:∀(vs:List Value) {xs:List AV} {rf:List Nat} (j:Nat),Rd w vs xs rf->(∀k x,xs[k]?=some x->(E.var (i+j+k)).den c.ρ=x)->(∀b∈rf,c'.ok b)->SR c' ((List.range vs.length).map λq=>SV.e (.var (i+j+q))) vs:=by
   intro vs
   induction vs with
   |nil=>intro xs rf j h _ _;simpa using SR.nil
   |cons v vs ih=>
    intro xs rf j h hx AI;cases xs with
    |nil=>have:=h.len;simp at this
    |cons x xs=>
     obtain⟨f1,f2,rfl,h1,h2⟩:=h.bd;have h3:=ih (j+1) h2 (λk y hy=>by rw[show i+(j+1)+k=i+j+(k+1)from by omega];exact hx (k+1) y (by simpa using hy)) λb hb=>AI b (by simp[hb]);rw[AM,List.range_succ_eq_map,List.map_cons,List.map_map];refine SR.cons (.e (f:=f1) (by rw[ET.w,ET.ρ];have:=hx 0 x rfl;simp only[Nat.add_zero]at this ⊢;rw[this];exact h1) (λb hb=>AI b (by simp[hb])) .nil) ?_;have e:((λq=>SV.e (.var (i+j+q)))∘Nat.succ)=λq=>SV.e (.var (i+(j+1)+q)):=by funext q;simp only[Function.comp_apply];rw[show i+j+q.succ=i+(j+1)+q from by omega]
     rw[e];exact h3
  simpa using frees vs 0 CQ (by simpa using hx) AI
 |t::ts,i,ms,lo,ss,l,vs,xs,rf,lf,hs,h,ha,hx,D2,II=>by
  unfold KM at h;split at h
  ·rename_i s l1 ss' l2 h1 h2;simp only[Aa,AG]at h;obtain⟨rfl,rfl⟩:=h;obtain⟨v,vs,x,xs,f,hh,rf,lf,hs,rfl,rfl,rfl,rfl,D7,AX⟩:∃v vs' x xs' f hh rf' lf' A1,vs=v::vs'/\xs=x::xs'/\rf=f++rf'/\hs=hh++A1/\Db P w ts ms.tail lo.tail vs' xs' rf' lf' A1/\(YX P w t (ms.headD .ro) v x f hh\/(lo.headD false=true/\ms.headD .ro= .ro/\f=[]/\hh=[])):=by
    cases ha with
    |cons h1 h2=>exact⟨_,_,_,_,_,_,_,_,_,rfl,rfl,rfl,rfl,h2, .inl h1⟩
    |lent h1 h2 h3 h4=>exact⟨_,_,_,_,[],[],_,_,_,rfl,rfl,by simp,by simp,h4, .inr ⟨h1,h2,rfl,rfl⟩⟩
   have Dg:ms.headD .ro=(ms0[i]?).getD .ro:=by have:=D2 0;rw[Nat.add_zero]at this;rw[<-this];cases ms<;>rfl
   have Hl:vs0[i]?=some v:=by have:=II 0;simpa using this.symm
   have EK:(E.var i).den c.ρ=x:=by simpa using hx 0 x rfl
   obtain⟨r2,b1,b2,b3,b4,b4',b6,b7,b5⟩:=bQ ts (i+1) h2 D7 (λk y hy=>by rw[show i+1+k=i+(k+1)from by omega];exact hx (k+1) y (by simpa using hy)) (λk=>by rw[show i+1+k=i+(k+1)from by omega,<-D2 (k+1)];cases ms<;>simp) (λk=>by rw[show i+1+k=i+(k+1)from by omega,<-II (k+1)];simp);have fin:∀(r1:List AD),l1=r1.map AD.pair->r1.flatMap AD.top=hh->(∀r∈r1,1000*i<=r.tag/\r.tag<1000*i+1000/\r.new.isSome)->(r1.map AD.tag).Nodup->(∀r∈r1,∀v,F8 ms0 vs0 r.tag=some v->r.new=some v)->
     (∀c',Eo c c' w r1->(∀b∈f,c'.ok b)->(ms.headD .ro= .ro->c'.A.lo v x)->SR c' [s] [v]/\ ∀r∈r1,CM c' r.tag r.ay)->
     ∃recs:List AD,l1++l2=recs.map AD.pair/\recs.flatMap AD.top=hh++hs/\(∀r∈recs,1000*i<=r.tag/\r.tag<1000*(i+(t::ts).length)/\r.new.isSome)/\(recs.map AD.tag).Nodup/\(∀r∈recs,∀v,F8 ms0 vs0 r.tag=some v->r.new=some v)/\(s::ss').length=(t::ts).length/\(t::ts).length<=(v::vs).length/\
      ∀c',Eo c c' w recs->(∀b∈f++rf,c'.ok b)->(∀(k:Nat) (v':Value) (x':AV),(ms[k]?).getD .ro= .ro->(v::vs)[k]?=some v'->(x::xs)[k]?=some x'->c'.A.lo v' x')->SR c' ((s::ss')++(List.range ((v::vs).length-(t::ts).length)).map λj=>SV.e (.var (i+(t::ts).length+j))) (v::vs)/\ ∀r∈recs,CM c' r.tag r.ay:=by
    intro r1 a1 a2 a3 a4 a4' a5;refine⟨r1++r2,by simp[a1,b1],by simp[a2,b2],λr hr=> ?_,?_,λr hr=> ?_,by simp[b6],by simp[b7],λc' ET AI BN=> ?_⟩
    ·simp only[AM];rcases Ae.1 hr with hr|hr
     ·have:=a3 r hr;exact⟨this.1,by omega,this.2.2⟩
     ·have:=b3 r hr;exact⟨by omega,by omega,this.2.2⟩
    ·rw[List.map_append,List.nodup_append];refine⟨a4,b4,λt1 Pw t2 Px he=> ?_⟩;obtain⟨q1,H7,rfl⟩:=List.mem_map.1 Pw;obtain⟨q2,Hj,rfl⟩:=List.mem_map.1 Px;have:=a3 q1 H7;have:=b3 q2 Hj;omega
    ·rcases Ae.1 hr with hr|hr
     ·exact a4' r hr
     ·exact b4' r hr
    ·obtain⟨p1,p2⟩:=a5 c' (ET.mono λr hr=>by simp[hr]) (λb hb=>AI b (by simp[hb])) λhl=>BN 0 v x (by cases ms<;>exact hl) rfl rfl;obtain⟨q1,q2⟩:=b5 c' (ET.mono λr hr=>by simp[hr]) (λb hb=>AI b (by simp[hb])) λk v' x' k1 k2 k3=>BN (k+1) v' x' (by cases ms with|nil=>rfl|cons b l=>simpa using k1) (by simpa using k2) (by simpa using k3);refine⟨?_,λr hr=> ?_⟩
     ·have:=p1.cons q1;have e:(λj=>SV.e (.var (i+1+ts.length+j)))=λj=>SV.e (.var (i+(t::ts).length+j)):=by
       funext j;simp only[AM];rw[show i+1+ts.length+j=i+(ts.length+1)+j from by omega]
      rw[e]at this;simpa using this
     ·rcases Ae.1 hr with hr|hr
      ·exact p2 r hr
      ·exact q2 r hr
   have pinMu:∀{own:List Bool} {r:AD},ms.headD .ro= .mu own->1000*i+500<=r.tag->r.tag<1000*i+1000->r.new=v.cells[r.tag-(1000*i+500)]?-> ∀v',F8 ms0 vs0 r.tag=some v'->r.new=some v':=by
    intro own r hm t1 t2 hn v' hp;unfold F8 at hp;split at hp
    ·rw[show r.tag/1000=i from by omega,Hl,<-Dg,hm]at hp;simp only at hp;split at hp
     ·rw[hn,show r.tag-(1000*i+500)=r.tag % 1000-500 from by omega];exact hp
     ·cases hp
    ·cases hp
   have pinVa:∀{own:List Bool} {r:AD},ms.headD .ro= .va own->1000*i<=r.tag->r.tag<1000*i+1000-> ∀v',F8 ms0 vs0 r.tag=some v'->r.new=some v':=by
    intro own r hm t1 t2 v' hp;unfold F8 at hp;split at hp
    ·rw[show r.tag/1000=i from by omega,Hl,<-Dg,hm]at hp;simp at hp
    ·cases hp
   cases hm:ms.headD .ro with
   |ro=>
    rw[hm]at h1 AX;simp only[T4,Aa,AG]at h1;obtain⟨rfl,rfl⟩:=h1;have kB:hh=[]:=by rcases AX with⟨_,h⟩|⟨_,_,_,h⟩<;>exact h
    subst kB;by_cases BN:lo.headD false=true
    ·exact fin [] rfl rfl (by simp) (by simp) (by simp) λc' ET AI hl=>⟨by rw[if_pos BN];exact .lent (by rw[ET.ρ,EK];exact hl hm) .nil,by simp⟩
    ·rcases AX with⟨g1,_⟩|⟨h,_⟩
     ·exact fin [] rfl rfl (by simp) (by simp) (by simp) λc' ET AI _=>⟨by rw[if_neg BN];exact .e (f:=f) (by rw[ET.w,ET.ρ,EK];exact g1) AI .nil,by simp⟩
     ·exact absurd h BN
   |va own=>
    rw[hm]at h1 AX
    replace AX:=AX.resolve_right λh=>by cases h.2.1
    obtain⟨r1,a1,a2,a3,a4,a4',a5⟩:=cD (c:=c) (by omega) h1 AX EK;exact fin r1 a1 a2 (λr hr=>by have:=a3 r hr;exact⟨by omega,this.2⟩) a4 (λr hr=>by have:=a3 r hr;exact pinVa hm (by omega) this.2.1) λc' ET AI _=>a5 c' ET AI
   |mu own=>
    rw[hm]at h1 AX
    replace AX:=AX.resolve_right λh=>by cases h.2.1
    obtain⟨r1,a1,a2,a3,a4,a4',a5⟩:=cD (c:=c) (by omega) h1 AX EK;exact fin r1 a1 a2 (λr hr=>by have:=a3 r hr;exact⟨by omega,this.2⟩) a4 (λr hr=>by have:=a3 r hr;exact pinMu hm this.1 this.2.1 (a4' r hr)) λc' ET AI _=>a5 c' ET AI
   |bx own own'=>
    rw[hm]at h1 AX
    replace AX:=AX.resolve_right λh=>by cases h.2.1
    obtain⟨ty,b,C,ys,h9,g1,rfl,g3,g4,rfl,g6,rfl⟩:=AX;simp only[T4,g1]at h1;split at h1
    ·cases h1
    rename_i hle;simp only[Aa,AG]at h1;obtain⟨rfl,rfl⟩:=h1;obtain⟨recs,e1,e2,e3,e4,e4',e5⟩:=Nf (c:=c) (nx:=1000*i+1) (mk:=Dd (.deref (.var i)) true) g6 0 (Qu (by simp only[E.den]at EK ⊢;rw[EK];rfl));refine fin (⟨1000*i,some (.pointer (some ⟨b,0,none⟩)),[b], .box ty (Ah P ty) (Cz P (1000*i+1) (Dd (.deref (.var i)) true) 0 (AW P ty) own).1⟩::recs) (by simp[e1,AD.pair]) (by simp[e2]) (λr hr=> ?_) ?_ (λr hr v' hp=> ?_) λc' ET AI _=> ?_
    ·rcases Ac.1 hr with rfl|hr
     ·simp
     ·have:=e3 r hr;exact⟨by omega,by omega,this.2.2⟩
    ·simp only[List.map_cons,List.nodup_cons];refine⟨λhm=> ?_,e4⟩;obtain⟨r,hr,H8⟩:=List.mem_map.1 hm;have:=e3 r hr;omega
    ·rcases Ac.1 hr with rfl|hr
     ·unfold F8 at hp;simp only at hp;split at hp
      ·rw[show 1000*i/1000=i from by omega,Hl,<-Dg,hm]at hp;simp at hp;simpa using hp
      ·cases hp
     ·have h3:=e3 r hr;unfold F8 at hp;split at hp
      ·rw[show r.tag/1000=i from by omega,Hl,<-Dg,hm]at hp;simp only at hp;split at hp
       ·omega
       ·cases hp
      ·cases hp
    ·obtain⟨q1,q2⟩:=e5 c' (ET.mono λr hr=>by simp[hr]) AI;obtain⟨k1,k2,k3⟩:=ET.new _ (List.mem_cons_self ..) _ rfl;have kg:=ET.G _ (List.mem_cons_self ..);simp only at k1 k3 kg;refine⟨.bp k1 k3 .nil,λr hr=> ?_⟩;rcases Ac.1 hr with rfl|hr
     ·exact⟨b,C,k1,k3,by rw[kg],by rw[kg],by rw[ET.w];exact g3,g4,q1⟩
     ·exact q2 r hr
  ·cases h
end
section
variable {P:Program} {c:Cx} {n:Nat} {a:Act} {τ:St}
theorem iN(h:Rel c n (Br τ) (Av τ.hp) a):EH c (Av τ.hp):=λt e hr=>h.ents t e hr
theorem fC{hp:Nat->Option Ab}{t:Nat}{e:Ab}(h:hp t=some e)(hn:∀hs f,e≠ .gd hs f):CE hp [] t=some e:=by
 simp only[CE,h,Af,I2]
 all_goals (cases e<;>first|rfl|exact absurd rfl (hn _ _))
theorem aZ(h:Rel c n (Br τ) (Av τ.hp) a){u g:Nat}{e z:Nat}{x:E}{d:Bool}(hu:Av τ.hp u=some (.row e z g x d)):c.K u g/\ ∃N,Cy c.w e z (c.H u g) (x.den c.ρ) (c.G u).top N/\(∀b∈N,c.ok b)/\(d=true->N=[]):=by obtain⟨p1,p2,N,p3,p4,p5,_⟩:=h.ents u _ (by rw[hu];rfl);exact⟨p1,N,p3,p4,λhd=>(p5 hd).1⟩
theorem eB{t e:TypeId}{d:Bool}{N:List Nat}(hd:d=true->N=[])(h:BW P e=true/\d=true\/BW P e=false/\(Ds P t).isNone=true):BW P e=true/\N=[]\/BW P e=false/\Ds P t=none:=by
 rcases h with⟨h1,h2⟩|⟨h1,h2⟩
 ·exact .inl ⟨h1,hd h2⟩
 ·exact .inr ⟨h1,by simpa using h2⟩
theorem S8(h:Rel c n (Br τ) (Av τ.hp) a):∀(ts:List TypeId) {fl:List Bool} {cs:List SV} {l:List Nat} {us:List Value} {xs:EL} {m:Nat},JS P τ ts fl cs=some l->SR c cs us->Cf (Av τ.hp) [] m cs=some xs->m<=AN->
  ∃f,Cd P c.w ts fl us (xs.den c.ρ) f (l.flatMap λt=>(c.G t).top)/\ ∀b∈f,c.de (Iw P τ ts fl cs) b
 | [],fl,[],l,us,xs,m,ho,hs,hx,hm=>by
  simp[JS]at ho;subst ho;cases hs;cases m with
  |zero=>simp[Cf]at hx
  |succ m=>simp[Cf]at hx;subst hx;exact⟨[], .nil,by simp⟩
 | [],fl,s::cs,l,us,xs,m,ho,hs,hx,hm=>by simp[JS]at ho
 |t::ts,fl,[],l,us,xs,m,ho,hs,hx,hm=>by simp[JS]at ho
 |t::ts,fl,s::cs,l,[],xs,m,ho,hs,hx,hm=>by have:=hs.len;simp at this
 |t::ts,fl,s::cs,l,v::us,xs,m,ho,hs,hx,hm=>by
  obtain⟨j,y,ys,rfl,hy,CI,rfl⟩:=IT hx;obtain⟨r1,r2⟩:=hs.bd;unfold JS at ho;split at ho
  ·cases ho
  rename_i l' CH;obtain⟨f,q1,q2⟩:=S8 h ts CH r2 CI (by omega);split at ho
  ·rename_i e hf A6;have Fi:Iw P τ (t::ts) fl (s::cs)=Iw P τ ts fl.tail cs:=by
    simp only[Iw,hf,A6,Option.isSome_some,Bool.and_self,if_true,List.nil_append]
   split at ho
   ·cases ho
   rename_i hz;split at ho
   ·simp only[Aa]at ho;subst ho;cases r1 with
    |bc _=>refine⟨f,?_,by rw[Fi];exact q2⟩;rw[EL.den,JD hy];exact Cd.void hf A6 (by omega) q1
   ·rename_i u g;split at ho
    ·rename_i e' z g' x d hu;split at ho
     ·rename_i hh;obtain⟨rfl,rfl,rfl,FT⟩:=hh;simp only[Aa]at ho;subst ho;obtain⟨p1,N,p2,p3,p4⟩:=aZ h hu;have FT:=eB p4 FT;have hl:=fC hu (by simp);have F1:y=x:=by
       cases j with
       |zero=>simp[Ba]at hy
       |succ j=>simp[Ba,G4,hl]at hy;exact hy.symm
      subst F1;have hv:c.H u g=v:=by
       cases r1 with
       |own _ k2 _=>exact k2
      rw[hv]at p2;refine⟨N++f,Cd.own hf A6 FT p2 q1,λb hb=> ?_⟩;rw[Fi];rcases Ae.1 hb with hb|hb
      ·exact .inl (p3 b hb)
      ·exact q2 b hb
     ·cases ho
    ·rename_i e' z dl g' ep x hu;split at ho
     ·rename_i hh;obtain⟨rfl,Fo,CZ⟩:=hh;have CZ:=Tl CZ;simp only[Aa]at ho;subst ho;obtain⟨p1,_,_,p2,_⟩:=h.ents u _ (by rw[hu];rfl);have hl:=fC hu (by simp);have F1:y=x:=by
       cases j with
       |zero=>simp[Ba]at hy
       |succ j=>simp[Ba,G4,hl]at hy;exact hy.symm
      subst F1;have hv:c.H u g=v:=by
       cases r1 with
       |own _ k2 _=>exact k2
      rw[hv]at p2;exact⟨f,Cd.deep hf A6 Fo CZ p2 q1,by rw[Fi];exact q2⟩
     ·cases ho
    ·cases ho
   ·cases ho
  ·rename_i Du;simp only[Aa]at ho;subst ho;have hn:fl.headD false=true->Cj P t=none:=λhf=>by
    cases A6:Cj P t with
    |none=>rfl
    |some e=>exact absurd A6 (Du e hf)
   obtain⟨f1,p1,p2⟩:=Gx (iN h) (Ed _) j hy r1 AN (by omega);refine⟨f1++f,Cd.rd hn p1 q1,λb hb=> ?_⟩;have Fi:Iw P τ (t::ts) fl (s::cs)=BI (Av τ.hp) [] (AN+1) [s]++Iw P τ ts fl.tail cs:=by
    have:(fl.headD false&&(Cj P t).isSome)=false:=by
     cases hf:fl.headD false with
     |false=>rfl
     |true=>rw[hn hf];rfl
    simp only[Iw,this,B0,if_false]
   rw[Fi];rcases Ae.1 hb with hb|hb
   ·exact(p2 b hb).mono λt ht=>by simp[ht]
   ·exact(q2 b hb).mono λt ht=>by simp[ht]
theorem rR(h:Rel c n (Br τ) (Av τ.hp) a){t:TypeId}{fl:List Bool}{s:SV}{l:List Nat}{v:Value}{x:E}{m:Nat}(ho:Yw P τ t fl s=some l)(hs:SR c [s] [v])(hx:Ba (Av τ.hp) [] m s=some x)(hm:m<AN):
  ∃f,Ee P c.w t fl v (x.den c.ρ) f (l.flatMap λt=>(c.G t).top)/\ ∀b∈f,c.de (YO P τ t fl s) b:=by
 unfold Yw at ho;unfold Ee YO;split at ho
 ·rename_i hf;simp only[hf,if_true];split at ho
  ·rename_i As;split at ho
   ·rename_i cs;obtain⟨k,lx,rfl,hl,rfl⟩:=QC hx;cases hs with
    |agg h9 h1 h8=>rename_i as_;obtain⟨f,q1,q2⟩:=S8 (P:=P) h (AW P t) ho h1 hl (by omega);exact⟨f,⟨as_,lx.den c.ρ,by rw[if_pos As];exact⟨rfl,rfl,h9⟩,q1⟩,by rw[if_pos As];exact q2⟩
   ·cases ho
  ·rename_i As;have Jo:Cf (Av τ.hp) [] (m+1) [s]=some (.cons x .nil):=by
    cases m with
    |zero=>simp[Ba]at hx
    |succ m=>simp only[Cf,hx]
   obtain⟨f,q1,q2⟩:=S8 (P:=P) h (AW P t) ho hs Jo (by omega);exact⟨f,⟨[v],[x.den c.ρ],by rw[if_neg As];exact⟨rfl,rfl⟩,q1⟩,by rw[if_neg As];exact q2⟩
 ·rename_i hf;simp only[hf,if_false,B0];simp only[Aa]at ho;subst ho;obtain⟨f,p1,p2⟩:=Gx (iN h) (Ed _) m hx hs AN (by omega);exact⟨f,⟨p1,rfl⟩,p2⟩
theorem aL(h:Rel c n (Br τ) (Av τ.hp) a):∀(ts:List TypeId) {fl:List Bool} {ss:List SV} {l:List Nat} {vs:List Value} {xs:EL} {m:Nat},Mq P τ ts fl ss=some l->SR c ss vs->Cf (Av τ.hp) [] m ss=some xs->m<=AN->
  ∃f,Is P c.w ts fl vs (xs.den c.ρ) f (l.flatMap λt=>(c.G t).top)/\ ∀b∈f,c.de (QU P τ ts fl ss) b
 | [],fl,[],l,vs,xs,m,ho,hs,hx,hm=>by
  simp[Mq]at ho;subst ho;cases hs;cases m with
  |zero=>simp[Cf]at hx
  |succ m=>simp[Cf]at hx;subst hx;exact⟨[], .nil,by simp⟩
 | [],fl,s::cs,l,us,xs,m,ho,hs,hx,hm=>by simp[Mq]at ho
 |t::ts,fl,[],l,us,xs,m,ho,hs,hx,hm=>by simp[Mq]at ho
 |t::ts,fl,s::cs,l,[],xs,m,ho,hs,hx,hm=>by have:=hs.len;simp at this
 |t::ts,fl,s::cs,l,v::us,xs,m,ho,hs,hx,hm=>by
  obtain⟨j,y,ys,rfl,hy,CI,rfl⟩:=IT hx;obtain⟨r1,r2⟩:=hs.bd;unfold Mq at ho;split at ho
  ·rename_i a1 b1 h1 h2;simp only[Aa]at ho;subst ho;obtain⟨f1,p1,p2⟩:=rR (P:=P) h h1 r1 hy (by omega);obtain⟨f2,q1,q2⟩:=aL h ts h2 r2 CI (by omega);refine⟨f1++f2,by rw[List.flatMap_append];exact .cons p1 q1,λb hb=> ?_⟩;simp only[QU];rcases Ae.1 hb with hb|hb
   ·exact(p2 b hb).mono λt ht=>by simp[ht]
   ·exact(q2 b hb).mono λt ht=>by simp[ht]
  ·cases ho
end
section
variable {P:Program} {c:Cx} {n:Nat} {a:Act} {τ:St}
theorem w7(h:Rel c n (Br τ) (Av τ.hp) a){t:TypeId}{b o:Nat}{ty:TypeId}{g:Bool}{cs:List SV}{s:SV}{v:Value}(A2:CL P t=true)(hl:Av τ.hp b=some (.box ty g cs))(AQ:MI P t cs o=some s)(hr:SR c [.bp b o] [v]):
  ∃q u,v= .pointer (some ⟨q,o,none⟩)/\(loadVar t ⟨q,o,none⟩).run P c.w= .ok u c.w/\SR c [s] [u]:=by
 cases hr with
 |bp h1 h2 h8=>
  rename_i q;obtain⟨q',C,_,e2,e3,e4,e5,e5',e6⟩:=h.ents b _ (by rw[hl];rfl);rw[h2]at e2;cases e2;have key:∀vs:List Value,(Ah P t=true->vs.length=P.cellsOf t)->(Ah P t=false->vs.length=1)->(∀j u,vs[j]?=some u->c.w.cell? ⟨q,o+j,none⟩=some u)->(loadVar t ⟨q,o,none⟩).run P c.w= .ok (if Ah P t then .agg vs.toArray else vs.headD undef) c.w:=λvs k1 k2 k3=>by have:=Nr (P:=P) (w:=c.w) (b:=q) (off:=o) A2 vs k1 k2 k3;simpa[Instr.loadAt,Instr.sureAddr]using this
  unfold MI at AQ;have hlen:=e6.len;split at AQ
  ·rename_i As;split at AQ
   ·rename_i hle;simp at AQ;subst AQ;obtain⟨r1,r2⟩:=e6.split o;obtain⟨r3,r4⟩:=r2.split (P.cellsOf t);have:=SR.agg (cs:=Bo.of ((cs.drop o).take (P.cellsOf t))) (λu hu=>e5' u (BP (BA hu))) (by rw[Bo.ak];exact r3) .nil;refine⟨q, .agg ((C.toList.drop o).take (P.cellsOf t)).toArray,rfl,?_,this⟩;rw[key ((C.toList.drop o).take (P.cellsOf t)) (λ_=>by simp at hlen ⊢;omega) (λh=>by rw[As]at h;cases h) (λj u hu=>by
     rw[DR e5];rw[List.getElem?_take]at hu;split at hu
     ·simpa using hu
     ·cases hu)]
    simp[As]
   ·cases AQ
  ·rename_i As;have As:Ah P t=false:=by simpa using As
   obtain⟨u,hu,r⟩:=e6.get AQ;refine⟨q,u,rfl,?_,r⟩;rw[key [u] (λh=>by rw[As]at h;cases h) (λ_=>rfl) (λj z hz=>by
    cases j with
    |zero=>simp at hz;subst hz;rw[DR e5];simpa using hu
    |succ j=>simp at hz)]
   simp[As]
theorem Z4{α:Type}{g:α->Sem Value}{w:World}:∀(l:List α) (us:List Value),l.length=us.length->(∀(i:Nat) (x:α) (u:Value),l[i]?=some x->us[i]?=some u->(g x).run P w= .ok u w)->(l.mapM g).run P w= .ok us w
 | [],[],_,_=>by simp
 | [],_::_,h,_=>by simp at h
 |_::_,[],h,_=>by simp at h
 |x::l,u::us,h,hg=>by have h0:=hg 0 x u rfl rfl;have ih:=Z4 l us (by simpa using h) λi y z hy hz=>hg (i+1) y z (by simpa using hy) (by simpa using hz);simp[List.mapM_cons,h0,ih]
theorem qC(h:Rel c n (Br τ) (Av τ.hp) a)(fn:Func){rs:List SV}(EG:fn.results.toList.mapM (NJ P τ)=some rs):
  ∃us,SR c rs us/\rs.length=us.length/\(results fn a.tmps).run P c.w= .ok (match us with| [u]=>u|us=> .tuple us.toArray) c.w:=by
 have one:∀(r:ResultVar) (s:SV),NJ P τ r=some s-> ∃u,SR c [s] [u]/\(match r with| .tmp t=>(pure (a.tmps.getD t undef):Sem Value)| .cell b t=>do loadVar t (<-asAddr (a.tmps.getD b undef))).run P c.w= .ok u c.w:=by
  intro r s hr;cases r with
  |tmp t=>simp only[NJ,Aa]at hr;subst hr;exact⟨_,h.cf t,by simp⟩
  |cell b ty=>
   simp only[NJ]at hr;split at hr
   ·rename_i b' o CF;split at hr
    ·rename_i ty' g cs hl;split at hr
     ·rename_i A2;have hs:=h.cf b;rw[CF]at hs;obtain⟨q,u,hv,Ay,Ju⟩:=w7 h A2 hl hr hs;exact⟨u,Ju,by simp only[hv];simp[asAddr,Ay]⟩
     ·cases hr
    ·cases hr
   ·cases hr
 have list:∀(l:List ResultVar) (rs:List SV),l.mapM (NJ P τ)=some rs-> ∃us,SR c rs us/\l.length=us.length/\ ∀(i:Nat) (x:ResultVar) (u:Value),l[i]?=some x->us[i]?=some u->(match x with| .tmp t=>(pure (a.tmps.getD t undef):Sem Value)| .cell b t=>do loadVar t (<-asAddr (a.tmps.getD b undef))).run P c.w= .ok u c.w:=by
  intro l
  induction l with
  |nil=>intro rs EG;simp at EG;subst EG;exact⟨[], .nil,rfl,by simp⟩
  |cons r l ih=>
   intro rs EG;rw[List.mapM_cons]at EG;simp only[Option.bind_eq_bind,Ak,Option.pure_def,Aa]at EG;obtain⟨s,hs,rs',VP,rfl⟩:=EG;obtain⟨u,h1,h2⟩:=one r s hs;obtain⟨us,h3,h4,h5⟩:=ih rs' VP;refine⟨u::us,h1.cons h3,by simp[h4],λi x v hx hv=> ?_⟩;cases i with
   |zero=>simp at hx hv;subst hx;subst hv;exact h2
   |succ i=>exact h5 i x v (by simpa using hx) (by simpa using hv)
 obtain⟨us,h1,h2,h3⟩:=list _ _ EG;refine⟨us,h1,h1.len,?_⟩;have hm:=Z4 (P:=P) (w:=c.w) fn.results.toList us h2 h3;simp only[results,Array.mapM_eq_mapM_toList,map_eq_pure_bind,Sem.run_bind]
 erw [hm]
 simp only[Result.andThen_ok,Sem.run_pure]
 match us with
 | []=>simp
 | [u]=>simp
 |u::v::us=>simp
theorem Xn(h:Rel c n (Br τ) (Av τ.hp) a){w0:World}{v:Value}{ms:List PM}{vs:List Value}(D5:∀t,c.A.pin t=F8 ms vs t){i:Nat}(hi:i<=99){own0:List Bool}(hv:vs[i]?=some v)(hm:(ms[i]?).getD .ro= .mu own0){mk:Nat->E}:∀(ts:List TypeId) (j:Nat) {fl:List Bool} {us:List Value} {ys:List AV} {rf hs:List Nat} {es:List E} {l:List Nat},
  Cd P w0 ts fl us ys rf hs->j+ts.length<=400->(∀k u,us[k]?=some u->(∃e,(0+j+k,e)∈(Cz P 0 (Dd (.var 0) true) j ts fl).2)->v.cells[j+k]?=some u)->Ra P τ i mk j ts fl=some (es,l)-> ∃f o,Ey P c.w ts fl us (es.map (E.den c.ρ)) f o/\(o=l.flatMap λt=>(c.G t).top)/\ ∀b∈f,c.ok b
 | [],j,fl,us,ys,rf,hs,es,l,hc,hle,Bz,he=>by simp[Ra]at he;obtain⟨rfl,rfl⟩:=he;cases hc;exact⟨[],[], .nil,rfl,by simp⟩
 |t::ts,j,fl,us,ys,rf,hs,es,l,hc,hle,Bz,he=>by
  unfold Ra at he;split at he
  ·cases he
  rename_i xs us' CH;simp only[AM]at hle;have sub:∀{u:Value} {us1:List Value},us=u::us1-> ∀k z,us1[k]?=some z->(∃e,(0+(j+1)+k,e)∈(Cz P 0 (Dd (.var 0) true) (j+1) ts fl.tail).2)->v.cells[j+1+k]?=some z:=by
   rintro u us1 rfl k z hz ⟨e,he⟩;have:=Bz (k+1) z (by simpa using hz) ⟨e,by
    simp only[Cz];split
    ·rw[show 0+j+(k+1)=0+(j+1)+k from by omega];exact List.mem_cons_of_mem _ he
    ·rw[show 0+j+(k+1)=0+(j+1)+k from by omega];exact he⟩
   rw[show j+1+k=j+(k+1)from by omega];exact this
  have fin:∀{u:Value} {us1:List Value} {ys1:List AV} {rf1 Bu:List Nat} {el:TypeId},us=u::us1->fl.headD false=true->Cj P t=some el->Cd P w0 ts fl.tail us1 ys1 rf1 Bu-> ∃f o,Ey P c.w (t::ts) fl us (es.map (E.den c.ρ)) f o/\(o=l.flatMap λt=>(c.G t).top)/\ ∀b∈f,c.ok b:=by
   rintro u us1 ys1 rf1 Bu el rfl h1 h2 h4;obtain⟨f0,o,q1,q2,q3⟩:=Xn h D5 hi hv hm ts (j+1) h4 (by omega) (sub rfl) CH;rw[h1,h2]at he;simp only at he;have U1:v.cells[j]?=some u:=by have:=Bz 0 u rfl ⟨_,by simp only[Cz,h1,h2,Nat.zero_add,Nat.add_zero];exact List.mem_cons_self ..⟩;simpa using this
   have RO:c.A.pin (1000*i+500+j)=some u:=by
    rw[D5];unfold F8;have e1:(1000*i+500+j)/1000=i:=by omega
    have e2:(1000*i+500+j) % 1000=500+j:=by omega
    rw[if_pos (by unfold K0;simp only[e2,Ad,Au,Bool.or_eq_true];omega),e1,e2,hv,hm];simp only;rw[if_pos (by omega),show 500+j-500=j from by omega];exact U1
   split at he
   ·rename_i e' z y' d hu;split at he
    ·rename_i hh;obtain⟨rfl,rfl,FT⟩:=hh;simp only[Aa,AG]at he;obtain⟨rfl,rfl⟩:=he;obtain⟨p1,N,p2,p3,p4⟩:=aZ h hu;have hH:=(h.base.pins _ u RO).2 p1;rw[hH]at p2;refine⟨_,_, .own h1 h2 (eB p4 FT) p2 q1,by simp[q2],λb hb=> ?_⟩;rcases Ae.1 hb with hb|hb
     ·exact p3 b hb
     ·exact q3 b hb
    ·cases he
   ·rename_i e' z dl ep y' hu;split at he
    ·rename_i hh;obtain⟨Fo,CZ⟩:=hh;have CZ:=Tl CZ;simp only[Aa,AG]at he;obtain⟨rfl,rfl⟩:=he;obtain⟨p1,_,_,p2,_⟩:=h.ents _ _ (by rw[hu];rfl);have hH:=(h.base.pins _ u RO).2 p1;rw[hH]at p2;refine⟨_,_, .deep h1 h2 Fo CZ p2 q1,by simp[q2],q3⟩
    ·cases he
   ·cases he
  cases hc with
  |own h1 h2 _ _ h4=>exact fin rfl h1 h2 h4
  |deep h1 h2 _ _ _ h4=>exact fin rfl h1 h2 h4
  | @rd _ _ _ u us1 y ys1 f rf1 Bu h1 h3 h4=>
   obtain⟨f0,o,q1,q2,q3⟩:=Xn h D5 hi hv hm ts (j+1) h4 (by omega) (sub rfl) CH;split at he
   ·rename_i e hf A6;rw[h1 hf]at A6;cases A6
   ·simp only[Aa,AG]at he;obtain⟨rfl,rfl⟩:=he;exact⟨f0,o, .skip h1 q1,q2,q3⟩
end
section
variable {P:Program} {c:Cx} {n:Nat} {a:Act} {τ:St}
theorem aH(h:Rel c n (Br τ) (Av τ.hp) a){w0:World}{ms0:List PM}{vs0:List Value}(D5:∀t,c.A.pin t=F8 ms0 vs0 t):∀(ts:List TypeId) (i:Nat) {ms:List PM} {lo:List Bool} {vs:List Value} {xs:List AV} {rf lf hs:List Nat} {bx:List E} {us:List Nat},QM P τ i ts ms=some (bx,us)->Db P w0 ts ms lo vs xs rf lf hs->
  (∀k,ms[k]?=ms0[i+k]?)->(∀k,vs[k]?=vs0[i+k]?)-> ∃f o,Da P c.w ts ms vs (bx.map (E.den c.ρ)) f o/\o=us.flatMap (λt=>(c.G t).top)/\ ∀b∈f,c.de (MH P τ i ts ms) b
 | [],i,ms,lo,vs,xs,rf,lf,hs,bx,us,he,ha,_,_=>by simp[QM]at he;obtain⟨rfl,rfl⟩:=he;exact⟨[],[], .nil,rfl,by simp⟩
 |t::ts,i,ms,lo,vs,xs,rf,lf,hs,bx,us,he,ha,D2,II=>by
  obtain⟨v,vs,x,xs,f,hh,rf,lf,hs,rfl,D7,AX⟩:∃v vs' x xs' f hh rf' lf' A1,vs=v::vs'/\Db P w0 ts ms.tail lo.tail vs' xs' rf' lf' A1/\(YX P w0 t (ms.headD .ro) v x f hh\/ms.headD .ro= .ro):=by
   cases ha with
   |cons h1 h2=>exact⟨_,_,_,_,_,_,_,_,_,rfl,h2, .inl h1⟩
   | @lent _ _ _ _ _ _ x _ _ _ _ _ h1 h2 h3 h4=>exact⟨_,_,x,_,[],[],_,_,_,rfl,h4, .inr h2⟩
  have Dg:ms.headD .ro=(ms0[i]?).getD .ro:=by have:=D2 0;rw[Nat.add_zero]at this;rw[<-this];cases ms<;>rfl
  have Hl:vs0[i]?=some v:=by have:=II 0;simpa using this.symm
  unfold QM at he;split at he
  ·cases he
  rename_i bx' us' CH;obtain⟨f2,o2,b1,b2,b3⟩:=aH h D5 ts (i+1) CH D7 (λk=>by rw[show i+1+k=i+(k+1)from by omega,<-D2 (k+1)];cases ms<;>simp) (λk=>by rw[show i+1+k=i+(k+1)from by omega,<-II (k+1)];simp);have see2:∀b∈f2,c.de (MH P τ i (t::ts) ms) b:=λb hb=>(b3 b hb).mono λt ht=>by simp only[MH,Ae];exact .inr ht
  split at he
  ·cases he
  rename_i hi;split at he
  ·rename_i hm;simp only[Aa,AG]at he;obtain⟨rfl,rfl⟩:=he;exact⟨f2,o2, .ro hm b1,b2,see2⟩
  ·rename_i own hm;simp only[Aa,AG]at he;obtain⟨rfl,rfl⟩:=he;exact⟨f2,o2, .va hm b1,b2,see2⟩
  ·rename_i own hm;split at he
   ·cases he
   rename_i hle;split at he
   ·rename_i es l Fk;simp only[Aa,AG]at he;obtain⟨rfl,rfl⟩:=he;rw[hm]at AX;obtain⟨us0,ys0,hg,hc⟩:=AX.resolve_right λh=>by cases h
    obtain⟨f1,o1,q1,q2,q3⟩:=Xn h D5 (i:=i) (by omega) Hl (by rw[<-Dg];exact hm) (AW P t) 0 hc (by omega) (λk u hu he=>by
     rw[Nat.zero_add];split at hg
     ·obtain⟨rfl,_,_⟩:=hg;simpa[Value.cells]using hu
     ·obtain⟨rfl,_⟩:=hg;cases k with
      |zero=>simp at hu;subst hu;rw[hc.fj (nx:=0) (mk:=Dd (.var 0) true) (j:=0) 0 v rfl he];rfl
      |succ k=>simp at hu) Fk
    refine⟨f1++f2,o1++o2,Da.mu (us:=us0) (ys:=es.map (E.den c.ρ)) hm ?_ q1 b1,by rw[q2,b2,List.flatMap_append],λb hb=>(Ae.1 hb).elim (λhb=> .inl (q3 b hb)) (see2 b)⟩;split at hg
    ·rename_i As;rw[if_pos As,if_pos As];exact⟨hg.1,by simp only[E.den,EL.ct]⟩
    ·rename_i As;rw[if_neg As,if_neg As];obtain⟨rfl,_⟩:=hg;refine⟨rfl,?_⟩;have mlen:∀{ts:List TypeId} {fl:List Bool} {us:List Value} {ys:List AV} {f o:List Nat},Ey P c.w ts fl us ys f o->us.length=ys.length:=by
      intro ts fl us ys f o Pd
      induction Pd<;>simp_all
     have:=mlen q1
     match es,this with
     | [e],_=>rfl
   ·cases he
  ·rename_i own own' hm;rw[hm]at AX;obtain⟨ty,b,C0,ys0,h9,g1,rfl,g3,g4,rfl,g6,rfl⟩:=AX.resolve_right λh=>by cases h
   split at he
   ·rename_i ty1 ty2 g cs DG GM;rw[g1]at DG;cases DG;split at he
    ·cases he
    rename_i BM;have BM:ty2=ty:=by simpa using BM
    subst BM;split at he
    ·rename_i es vs' GO V0;simp only[Aa,AG]at he;obtain⟨rfl,rfl⟩:=he;obtain⟨b',C,p1,p2,p3,p4,p5,p6,p7⟩:=h.ents _ _ (by rw[GM];rfl);have RO:c.A.pin (1000*i)=some (.pointer (some ⟨b,0,none⟩)):=by
      rw[D5];unfold F8;have e1:(1000*i)/1000=i:=by omega
      have e2:(1000*i) % 1000=0:=by omega
      rw[if_pos (by unfold K0;simp only[e2,Ad,Au,Bool.or_eq_true];simp;omega),e1,e2,Hl,<-Dg,hm];rfl
     have hH:=(h.base.pins _ _ RO).2 p1;rw[p2]at hH;cases hH;obtain⟨f1,q1,q2⟩:=S8 (P:=P) h (AW P ty2) V0 p7 GO (Ar _);refine⟨f1++f2,_,Da.bx hm g1 rfl p5 p6 (by simp only[E.den]) q1 b1,by rw[b2];simp[p3],λx hx=> ?_⟩;rcases Ae.1 hx with hx|hx
     ·refine(q2 x hx).mono λt ht=> ?_;simp only[MH,hm,g1,GM,Ae];exact .inl ht
     ·exact see2 x hx
    ·cases he
   ·cases he
end
theorem WT{P:Program}:∀(ts:List TypeId) (i:Nat) (ms:List PM) (lo:List Bool) (ss:List SV) (l:List (Nat × Ab)),KM P i ts ms lo=some (ss,l)-> ∀t x,(t,x)∈l-> ∀gs f,x≠ .gd gs f
 | [],i,ms,lo,ss,l,h,t,x,hx=>by simp[KM]at h;obtain⟨_,rfl⟩:=h;simp at hx
 |t0::ts,i,ms,lo,ss,l,h,t,x,hx=>by
  unfold KM at h;split at h
  ·rename_i s1 l1 ss1 l2 q1 q2;simp only[Aa,AG]at h;obtain⟨_,rfl⟩:=h;rcases Ae.1 hx with hx|hx
   ·have hV:∀(b:Nat) (own:List Bool),N4 P i b t0 own=some (s1,l1)-> ∀gs f,x≠ .gd gs f:=by
     intro b own hh;unfold N4 at hh;simp only at hh;split at hh
     ·cases hh
     ·split at hh
      ·simp only[Aa,AG]at hh;obtain⟨_,rfl⟩:=hh;intro gs f;exact L7 _ _ _ _ _ hx
      ·split at hh
       ·simp only[Aa,AG]at hh;obtain⟨_,rfl⟩:=hh;intro gs f;exact L7 _ _ _ _ _ hx
       ·cases hh
    unfold T4 at q1;split at q1
    ·simp only[Aa,AG]at q1;rw[<-q1.2]at hx;simp at hx
    ·exact hV _ _ q1
    ·exact hV _ _ q1
    ·split at q1
     ·simp only at q1;split at q1
      ·cases q1
      ·simp only[Aa,AG]at q1;obtain⟨_,rfl⟩:=q1;rcases Ac.1 hx with hx|hx
       ·cases hx;simp
       ·intro gs f;exact L7 _ _ _ _ _ hx
     ·cases q1
   ·exact WT _ _ _ _ _ _ q2 t x hx
  ·cases h
theorem w8{P:Program}{sg:BE}(RF:P.follows .mixedOrders=true)(Ia:∀f s,sg f=some s->f<1000000){f:Nat}{s:Gc}{fn:Func}{t:Tr}{xs:List AV}{r:AV}(GP:P.funcs[f]?=some fn)(hs:sg f=some s) (Fl:(fn.name== "runtime.NumGoroutine")=false)
  (DX:Ri P sg f=some t) (BC:JI P fn s r=true) (hlen:xs.length=fn.params.size+fn.nfree) (hd:t.den (Cr P sg) (λr'=>r'=r) (λ_ _ _ _=>False) [] xs):Ov P s f xs r:=by
 unfold Ri at DX;simp only[GP,hs]at DX;split at DX
 ·rename_i code σ Dt Be;split at DX
  ·rename_i t0 hex;have CV:s.ft.length<=fn.nfree:=by
    have Be:=Be;unfold Yb at Be;split at Be
    ·cases Be
    ·simp only at Be;split at Be
     ·cases Be
     ·rename_i Ao;simp only[Bool.or_eq_true,Au,not_or,Nat.not_lt]at Ao;exact Ao.2
   refine⟨fn,GP,by rw[Dt];rfl,Fl,BC,hlen,CV,λw vs rf lf A1 Ai Fh HI FX DO=> ?_⟩;unfold Yb at Be;split at Be
   ·cases Be
   rename_i ss l Ct;simp only at Be;split at Be
   ·cases Be
   rename_i Ao;simp only[Bool.or_eq_true,Au,not_or,Nat.not_lt]at Ao;simp only[Aa]at Be;subst Be;let pin:Nat->Option Value:=F8 s.bh vs;let LO:Value->AV->Prop:=λv y=> ∃f,Rd w [v] [y] f/\ ∀b∈f,¬b∈A1;let c0:Cx:={ρ:=xs,w:=w,G:=λ_=>⟨[],[]⟩,K:=λ_ _=>False,H:=λ_ _=>undef,A:=⟨λb=>b∈rf,pin,LO⟩,w0:=w,Mu:=λb=>b∈A1,U:=λ_=>False,E:=λ_=>0}
   have DH:vs.length=xs.length:=by
    have:∀{ts:List TypeId} {ms:List PM} {lo:List Bool} {vs:List Value} {xs:List AV} {rf lf hs:List Nat},Db P w ts ms lo vs xs rf lf hs->vs.length=xs.length:=by
     intro ts ms lo vs xs rf lf hs h
     induction h<;>simp_all
    exact this Ai
   obtain⟨recs,e1,e2,e3,e4,e5,e6,e7,e8⟩:=bQ (c:=c0) (ms0:=s.bh) (vs0:=vs) (fn.params.toList++s.ft) 0 Ct Ai (λk x hx=>by simp only[E.den,Nat.zero_add];show(xs[k]?).getD .undef=x;rw[hx];rfl) (λk=>by simp) (λk=>by simp);have aft:=Cx.cw (c:=c0) (w':=w) (recs:=recs) (λt g hk=>hk.elim) e4 (λr _ _ h=>h);have Zd:∀r∈recs,r.tag<100000:=λr hr=>by have:=e3 r hr;simp only[Nat.zero_add,AO,Bp]at this;omega
   let c:Cx:={c0.cy w recs with U:=λt=>t<100000}
   have OQ:∀b∈rf,(c0.cy w recs).ok b:=by
    intro b hb;refine⟨λ⟨t,ht⟩=> ?_, .inl hb⟩;by_cases hT:∃r∈recs,r.tag=t
    ·obtain⟨r,hr,rfl⟩:=hT;rw[Cx.c7 e4 hr]at ht;exact Fh b (by rw[<-e2];exact List.mem_flatMap.2 ⟨r,hr,ht⟩) hb
    ·rw[Cx.cj λr hr hh=>hT ⟨r,hr,hh⟩]at ht;simp[c0]at ht
   have BN:∀(k:Nat) (v:Value) (x:AV),(s.bh[k]?).getD .ro= .ro->vs[k]?=some v->xs[k]?=some x->LO v x:=by
    have key:∀{ts:List TypeId} {ms:List PM} {lo:List Bool} {vs:List Value} {xs:List AV} {rf lf hs:List Nat},Db P w ts ms lo vs xs rf lf hs-> ∀(k:Nat) (v:Value) (x:AV),(ms[k]?).getD .ro= .ro->vs[k]?=some v->xs[k]?=some x-> ∃f,Rd w [v] [x] f/\ ∀b∈f,b∈rf\/b∈lf:=by
     intro ts ms lo vs xs rf lf hs h
     induction h with
     |nil=>intro k v x _ h _;simp at h
     | @cons t ts ms lo v vs x xs f h rf lf hs AX _ ih=>
      intro k v' x' h1 h2 h3;cases k with
      |zero=>
       have hm:ms.headD .ro= .ro:=by cases ms<;>exact h1
       rw[hm]at AX;simp at h2 h3;subst h2;subst h3;exact⟨f,AX.1,λb hb=> .inl (by simp[hb])⟩
      |succ k=>obtain⟨f',q1,q2⟩:=ih k v' x' (by cases ms with|nil=>rfl|cons _ _=>simpa using h1) (by simpa using h2) (by simpa using h3);exact⟨f',q1,λb hb=>(q2 b hb).imp (λh=>by simp[h]) id⟩
     | @lent t ts ms lo v vs x xs f rf lf hs _ _ hr _ ih=>
      intro k v' x' h1 h2 h3;cases k with
      |zero=>simp at h2 h3;subst h2;subst h3;exact⟨f,hr,λb hb=> .inr (by simp[hb])⟩
      |succ k=>obtain⟨f',q1,q2⟩:=ih k v' x' (by cases ms with|nil=>rfl|cons _ _=>simpa using h1) (by simpa using h2) (by simpa using h3);exact⟨f',q1,λb hb=>(q2 b hb).imp id (λh=>by simp[h])⟩
     | @free ms lo v vs x xs f rf lf hs hr _ ih=>
      intro k v' x' h1 h2 h3;cases k with
      |zero=>simp at h2 h3;subst h2;subst h3;exact⟨f,hr,λb hb=> .inl (by simp[hb])⟩
      |succ k=>obtain⟨f',q1,q2⟩:=ih k v' x' (by cases ms with|nil=>rfl|cons _ _=>simpa using h1) (by simpa using h2) (by simpa using h3);exact⟨f',q1,λb hb=>(q2 b hb).imp (λh=>by simp[h]) id⟩
    intro k v x h1 h2 h3;obtain⟨f,q1,q2⟩:=key Ai k v x h1 h2 h3;exact⟨f,q1,λb hb hh=>(q2 b hb).elim (Fh b hh) (HI b hh)⟩
   obtain⟨g1,g2⟩:=e8 _ aft OQ BN;have kc:Dj (c0.cy w recs) c:=⟨rfl,rfl,λ_ _ hb=>hb,λ_ _ _=>rfl,λ_ _ hk=>⟨hk,rfl⟩,λ_ _ _=>⟨Ar _,λ_=>⟨rfl,λ_ _ _=>rfl⟩⟩⟩
   have Hh:fn.params.size+fn.nfree=vs.length:=by rw[DH,hlen]
   have Ft:(ss++(List.range (fn.nfree-s.ft.length)).map λj=>SV.e (.var (fn.params.size+s.ft.length+j))).length=vs.length:=by rw[AO,e6,List.length_map,List.length_range,AO,Bp];omega
   have g1':SR c (ss++(List.range (fn.nfree-s.ft.length)).map λj=>SV.e (.var (fn.params.size+s.ft.length+j))) vs:=by
    have:=g1.keep kc;have F0:(fn.params.toList++s.ft).length=fn.params.size+s.ft.length:=by rw[AO,Bp]
    rw[show vs.length-(fn.params.toList++s.ft).length=fn.nfree-s.ft.length from by omega]at this;simpa using this
   have hG:∀t,(∃r∈recs,r.tag=t/\c.G t=⟨r.top,[]⟩)\/c.G t=⟨[],[]⟩:=λt=>by
    by_cases hT:∃r∈recs,r.tag=t
    ·obtain⟨r,hr,rfl⟩:=hT;exact .inl ⟨r,hr,rfl,Cx.c7 (w':=w) e4 hr⟩
    ·exact .inr (Cx.cj (w':=w) λr hr hh=>hT ⟨r,hr,hh⟩)
   have FW:∀r∈recs,∀b∈r.top,b∈A1:=λr hr b hb=>by rw[<-e2];exact List.mem_flatMap.2 ⟨r,hr,hb⟩
   have D1:∀b∈A1,b<w.heap.size:=by
    have:∀{ts:List TypeId} {ms:List PM} {lo:List Bool} {vs:List Value} {xs:List AV} {rf lf hs:List Nat},Db P w ts ms lo vs xs rf lf hs-> ∀b∈hs,b<w.heap.size:=by
     intro ts ms lo vs xs rf lf hs h
     induction h with
     |nil=>simp
     |lent _ _ _ _ ih=>exact ih
     | @cons t ts ms lo v vs x xs f h rf lf hs AX _ ih=>
      intro b hb;rcases Ae.1 hb with hb|hb
      ·cases hm:ms.headD .ro with
       |ro=>rw[hm]at AX;rw[AX.2]at hb;simp at hb
       |va own=>rw[hm]at AX;obtain⟨_,_,_,hc⟩:=AX;exact hc.inb.2 b hb
       |mu own=>rw[hm]at AX;obtain⟨_,_,_,hc⟩:=AX;exact hc.inb.2 b hb
       |bx own own'=>
        rw[hm]at AX;obtain⟨_,b0,_,_,_,_,_,hh,_,_,hc,rfl⟩:=AX;rcases Ac.1 hb with rfl|hb
        ·exact Dy hh
        ·exact hc.inb.2 b hb
      ·exact ih b hb
     |free _ _ ih=>exact ih
    exact this Ai
   have AL:∀t e,Av l t=some e-> ∃r∈recs,r.tag=t/\r.ay=e:=λt e he=>by have:=Ht he;rw[e1]at this;obtain⟨r,hr,Pr⟩:=List.mem_map.1 this;simp only[AD.pair,AG]at Pr;exact⟨r,hr,Pr.1,Pr.2⟩
   let F:Fix:=⟨w,⟨λb=>b∈rf,pin,LO⟩,λb=>b∈A1,λt v h=>by
    simp only[pin,F8]at h;split at h
    ·assumption
    ·cases h⟩
   have hrel:Rel c fn.ntmps (Br {sl:=ss++(List.range (fn.nfree-s.ft.length)).map (λj=>SV.e (.var (fn.params.size+s.ft.length+j)))++List.replicate (fn.ntmps-(fn.params.size+fn.nfree)) .undef,hp:=l,nx:=100000,nv:=fn.params.size+fn.nfree}) (Av l) {tmps:=vs.toArray++Array.replicate (fn.ntmps-vs.toArray.size) undef,defers:=[]}:=by
    refine⟨rfl,by simp;omega,⟨rfl,rfl,rfl,Ar _,λt v hp=>⟨?_,λhk=> ?_⟩,λb _ _=>rfl,DO,λv y h=>h⟩,λi=> ?_,λt e hr=> ?_,λt hn=> ?_,⟨λt=> ?_,λt u KA b hb BF=> ?_,λt b hb=> ?_,λt b hb=> ?_⟩,λt g hk=> ?_,λt e he=> ?_⟩
    ·have:=F.kr t v hp;unfold K0 at this;simp only[Ad,Au]at this;exact this.1
    ·rcases hk with hk|⟨r,hr,rfl,AP,_⟩
     ·exact hk.elim
     ·exact(aft.new r hr v (e5 r hr v hp)).2.2
    ·have UR:SR c (ss++(List.range (fn.nfree-s.ft.length)).map (λj=>SV.e (.var (fn.params.size+s.ft.length+j)))++List.replicate (fn.ntmps-(fn.params.size+fn.nfree)) .undef) (vs++List.replicate (fn.ntmps-(fn.params.size+fn.nfree)) undef):=by
      refine g1'.app ?_;have:∀k,SR c (List.replicate k SV.undef) (List.replicate k undef):=by
       intro k
       induction k with
       |zero=>exact .nil
       |succ k ih=>exact .undef ih
      exact this _
     unfold Br;simp only;cases hq:(ss++(List.range (fn.nfree-s.ft.length)).map (λj=>SV.e (.var (fn.params.size+s.ft.length+j)))++List.replicate (fn.ntmps-(fn.params.size+fn.nfree)) SV.undef)[i]? with
     |none=>exact .undef .nil
     |some s'=>
      obtain⟨v',VZ,Ju⟩:=UR.get hq;have:(vs.toArray++Array.replicate (fn.ntmps-vs.toArray.size) undef).getD i undef=v':=by
       rw[Array.getD_eq_getD_getElem?];have e:(vs.toArray++Array.replicate (fn.ntmps-vs.toArray.size) undef)[i]?=(vs++List.replicate (fn.ntmps-(fn.params.size+fn.nfree)) undef)[i]?:=by rw[<-Array.getElem?_toList];simp[Hh]
       rw[e,VZ];rfl
      rw[this];exact Ju
    ·cases hh:Av l t with
     |none=>rw[hh]at hr;exact hr.elim
     |some e0=>
      obtain⟨r,CP,rfl,rfl⟩:=AL t e0 hh;have Be:=(g2 r CP).keep kc rfl rfl (λg hg=>hg) (λb _=>rfl);rw[hh]at hr;cases he:r.ay with
      |gd gs e'=>rw[he]at Be hr;obtain⟨_,rfl⟩:=hr;have AP:=(e3 r CP).2.2;exfalso;exact WT _ _ _ _ _ _ Ct r.tag r.ay (by rw[e1];exact List.mem_map.2 ⟨r,CP,rfl⟩) _ _ he
      |_=>rw[he]at Be hr;simp only[Cg]at hr;subst hr;exact Be
    ·rcases hG t with⟨r,hr,rfl,hg⟩|hg
     ·exfalso;have Cu:(r.tag,r.ay)∈l:=by rw[e1];exact List.mem_map.2 ⟨r,hr,rfl⟩
      have:∃e,Av l r.tag=some e:=by
       have:∀(l:List (Nat × Ab)),(r.tag,r.ay)∈l-> ∃e,Av l r.tag=some e:=by
        intro l
        induction l with
        |nil=>intro h;simp at h
        |cons p l ih=>
         obtain⟨u,f'⟩:=p;intro h;simp only[Av];split
         ·exact⟨_,rfl⟩
         ·rename_i hu;rcases Ac.1 h with h|h
          ·cases h;exact absurd rfl hu
          ·exact ih h
       exact this l Cu
      obtain⟨e,he⟩:=this;obtain⟨r',CP,Ky,rfl⟩:=AL _ _ he;have MU:∀gs f',r'.ay≠ .gd gs f':=by intro gs f' B7;exact WT _ _ _ _ _ _ Ct r'.tag r'.ay (by rw[e1];exact List.mem_map.2 ⟨r',CP,rfl⟩) _ _ B7
      apply hn r'.ay;rw[he];cases VO:r'.ay with
      |gd gs f'=>exact absurd VO (MU gs f')
      |_=>simp[Cg]
     ·rw[hg];simp
    ·rcases hG t with⟨r,hr,rfl,hg⟩|hg
     ·rw[hg];rw[<-e2]at FX;simpa[GI.own]using(Qy FX).1 r hr
     ·rw[hg];simp[GI.own]
    ·rcases hG t with⟨r,hr,rfl,hg⟩|hg
     ·rcases hG u with⟨q,hq,rfl,B7⟩|B7
      ·rw[hg]at hb;rw[B7]at BF;simp only[GI.own,AE]at hb BF;rw[<-e2]at FX;obtain⟨i,hi⟩:=List.getElem?_of_mem hr;obtain⟨j,hj⟩:=List.getElem?_of_mem hq;have:=(Qy FX).2 i j r q b hi hj hb BF;subst this;rw[hi]at hj;cases hj;exact KA rfl
      ·rw[B7]at BF;simp[GI.own]at BF
     ·rw[hg]at hb;simp[GI.own]at hb
    ·rcases hG t with⟨r,hr,rfl,hg⟩|hg
     ·rw[hg]at hb;simp only[GI.own,AE]at hb;exact .inr (FW r hr b hb)
     ·rw[hg]at hb;simp[GI.own]at hb
    ·rcases hG t with⟨r,hr,rfl,hg⟩|hg
     ·rw[hg]at hb;simp only[GI.own,AE]at hb;exact D1 b (FW r hr b hb)
     ·rw[hg]at hb;simp[GI.own]at hb
    ·rcases hk with hk|⟨r,hr,rfl,_⟩
     ·exact hk.elim
     ·exact Zd r hr
    ·obtain⟨r,hr,rfl,_⟩:=AL t e he;exact Zd r hr
   have OJ:FL F xs {sl:=ss++(List.range (fn.nfree-s.ft.length)).map (λj=>SV.e (.var (fn.params.size+s.ft.length+j)))++List.replicate (fn.ntmps-(fn.params.size+fn.nfree)) .undef,hp:=l,nx:=100000,nv:=fn.params.size+fn.nfree} {tmps:=vs.toArray++Array.replicate (fn.ntmps-vs.toArray.size) undef,defers:=[]} w:=by
    refine⟨c,rfl,rfl,rfl,rfl,rfl,hlen,λt ht=>ht,?_⟩;have hl:(ss++(List.range (fn.nfree-s.ft.length)).map (λj=>SV.e (.var (fn.params.size+s.ft.length+j)))++List.replicate (fn.ntmps-(fn.params.size+fn.nfree)) SV.undef).length=fn.ntmps:=by rw[AO,Ft,List.length_replicate];omega
    show Rel c (ss++(List.range (fn.nfree-s.ft.length)).map (λj=>SV.e (.var (fn.params.size+s.ft.length+j)))++List.replicate (fn.ntmps-(fn.params.size+fn.nfree)) SV.undef).length _ _ _;rw[hl];exact hrel
   refine calls_of_wp GP Dt ?_;have Y9:It (λ_ _ _ _=>False):=λ_ _ _ _ _ _ h=>h;have U2:=Tr.dh _ Y9 t0 DX hd;refine sG (wA RF (zvP (sg:={sg with dp:=s.dp,wn:=s.wn,fz:=s.fz}) Ia) zO) vM code [] _ _ t0 hex F (λr'=>r'=r) _ [] xs _ w (Qq Y9 _ _) U2 OJ _ λi x τ ρ' a' w' hp hl CC=> ?_;obtain⟨tr,d',q1,q2,q3⟩:=hl;have main:T6 P fn s τ=some tr->a'.defers=[]/\ ∃v,(results fn a'.tmps).run P w'= .ok v w'/\ ∃v',Ending.returned v= .returned v'/\iO P fn s w vs rf A1 r v' w':=by
    intro DF;obtain⟨c2,rfl,rfl,k1,k2,k3,k4,k5,k6⟩:=CC;unfold T6 at DF;split at DF
    ·rename_i rs bx us EG Kd;split at DF
     ·rename_i es vs' GO VI;split at DF
      ·cases DF
      rename_i OS;simp only[Bool.or_eq_true,Bh,not_or,Bool.not_eq_false,Bool.not_eq_true]at OS;obtain⟨BT,Kc⟩:=OS;have BT:=Ny BT;simp only[Aa]at DF;subst DF;have hr:_=r:=q3;obtain⟨rvs,z1,z2,z3⟩:=qC k6 fn EG;obtain⟨f1,y1,y2⟩:=aL (P:=P) k6 fn.resultTypes.toList VI z1 GO (Ar _);obtain⟨f2,o2,x1,x2,x3⟩:=aH (P:=P) k6 (w0:=w) (ms0:=s.bh) (vs0:=vs) (λt=>by rw[k2]) (fn.params.toList++s.ft) 0 Kd Ai (λk=>by simp) (λk=>by simp);refine⟨k6.defers,_,z3,_,rfl,⟨?_,?_⟩⟩
      ·
       have hR:∃R,R=(match es with| .cons x .nil=>x|es=>E.tup es).den c2.ρ/\Iz P c2.w fn.resultTypes.toList s.res (match rvs with| [u]=>u|us=> .tuple us.toArray) R f1 (vs'.flatMap λt=>(c2.G t).top):=by
        refine⟨_,rfl,?_⟩;have yl:es.den c2.ρ=es.den c2.ρ:=rfl;generalize PD:fn.resultTypes.toList=ts at y1 ⊢;generalize B3:es.den c2.ρ=ys at y1;generalize (vs'.flatMap λt=>(c2.G t).top)=o1 at y1 ⊢;cases y1 with
        |nil=>
         cases es with
         |nil=>exact⟨[],[],rfl,by simp[E.den,EL.den], .nil⟩
         |cons e es=>simp[EL.den]at B3
        | @cons t ts fl v vs2 x xs2 f h rf2 AQ w1 w2=>
         cases w2 with
         |nil=>
          cases es with
          |nil=>simp[EL.den]at B3
          |cons e es=>
           cases es with
           |nil=>simp only[EL.den,List.cons.injEq,and_true]at B3;subst B3;simpa[Iz]using w1
           |cons e2 es=>simp[EL.den]at B3
         | @cons t2 ts2 fl2 v2 vs3 x2 xs3 f2' h2 rf3 GZ w3 w4=>
          cases es with
          |nil=>simp[EL.den]at B3
          |cons e es=>
           cases es with
           |nil=>simp[EL.den]at B3
           |cons e2 es=>refine⟨v::v2::vs3,x::x2::xs3,rfl,?_, .cons w1 (.cons w3 w4)⟩;simp only[E.den,B3]
       obtain⟨R,jF,OI⟩:=hR;have Bf:∀b∈(vs'.flatMap λt=>(c2.G t).top)++o2,∃t∈vs'++us,b∈(c2.G t).top:=λb hb=>by
        rcases Ae.1 hb with hb|hb
        ·obtain⟨t,ht,Ck⟩:=List.mem_flatMap.1 hb;exact⟨t,by simp[ht],Ck⟩
        ·rw[x2]at hb;obtain⟨t,ht,Ck⟩:=List.mem_flatMap.1 hb;exact⟨t,by simp[ht],Ck⟩
       have HG:∀b t,b∈(c2.G t).top->b∈A1\/w.heap.size<=b:=λb t hb=>by
        rcases k6.gw.allow t b (by simp[GI.own,hb])with h|h
        ·simp only[Cx.B,k1]at h;exact .inr h
        ·rw[k3]at h;exact .inl h
       refine⟨R,bx.map (E.den c2.ρ),f1,_,f2,o2,?_,OI,x1,?_,λb hb=> ?_,λb hb=> ?_⟩
       ·rw[<-hr,jF];cases bx with
        |nil=>rfl
        |cons b bx=>simp only[List.isEmpty_cons,B0,if_false,E.den,EL.ct,List.map_cons];rfl
       ·rw[x2,<-List.flatMap_append];have:∀l:List Nat,l.Nodup->(l.flatMap λt=>(c2.G t).top).Nodup:=by
         intro l
         induction l with
         |nil=>intro _;simp
         |cons t l ih=>intro hl;rw[List.nodup_cons]at hl;rw[List.flatMap_cons,List.nodup_append];refine⟨(List.nodup_append.1 (k6.gw.nodup t)).1,ih hl.2,λx hx y hy E8=> ?_⟩;subst E8;obtain⟨u,hu,V4⟩:=List.mem_flatMap.1 hy;exact k6.gw.br t u (λhh=>hl.1 (hh▸hu)) x (by simp[GI.own,hx]) (by simp[GI.own,V4])
        exact this _ BT
       ·obtain⟨t,ht,Ck⟩:=Bf b hb;exact⟨HG b t Ck,k6.gw.inb t b (by simp[GI.own,Ck])⟩
       ·have G0:c2.de (QU P τ fn.resultTypes.toList s.res rs++MH P τ 0 (fn.params.toList++s.ft) s.bh) b:=by
         rcases Ae.1 hb with hb|hb
         ·exact(y2 b hb).mono λt ht=>by simp[ht]
         ·exact(x3 b hb).mono λt ht=>by simp[ht]
        rcases G0 with AI|⟨t,ht,Ck⟩
        ·refine⟨λho=> ?_,?_⟩
         ·obtain⟨u,_,GN⟩:=Bf b ho;exact AI.1 ⟨u,GN⟩
         ·rcases AI.2 with h|h|h
          ·rw[k2]at h;exact .inl h
          ·simp only[Cx.B,k1]at h;exact .inr (.inr h)
          ·rw[k3]at h;exact .inr (.inl h)
        ·refine⟨λho=> ?_, .inr (HG b t Ck)⟩;obtain⟨u,hu,GN⟩:=Bf b ho;have KA:t≠u:=by
          rintro rfl;rw[List.any_eq_false]at Kc;have:=Kc t ht;simp only[List.contains_eq_mem,Au]at this;exact this hu
         exact k6.gw.br t u KA b (by simp[GI.own,Ck]) (by simp[GI.own,GN])
      ·have hb:=k6.base;refine⟨?_,?_,?_,?_,λk hk hn=> ?_⟩
       ·rw[hb.os,k1]
       ·rw[hb.tape,k1]
       ·rw[hb.output,k1]
       ·have:=hb.size;rw[k1]at this;exact this
       ·have:=hb.block k (by rw[k1];exact hk) (by rw[k3];exact hn);rw[k1]at this;exact this
     ·cases DF
    ·cases DF
   cases x with
   |normal=>exact main q1
   |ret=>exact main q1
   |exit id=>cases q1
  ·cases DX
 ·cases DX
end
end Go.Proofs.YteeafhlnofapaaaGreat

/- Parts of a proof, joined: WSa, WSb, WT, WU, WV, WW. -/
import Derived.Test.YtalagilebkaegaaGreatE5
set_option linter.unusedVariables false
set_option linter.unusedSimpArgs false
namespace Go.Proofs.YtalagilebkaegaaGreat
open Go.RowKit
section
theorem AP.{u}{α:Type u}{a:α}:[a].length=1:=rfl
section
variable {P:Program} {c:Cx} {n nx:Nat} {sl sl0:Nat->SV} {hp hp0:Nat->Option Ah} {a:Act} {o:Oper} {gs:Gd} {e:Bn} {sg:B4} {nv:Nat}
theorem Rel.jc(h:Rel c n sl hp a){sl':Nat->SV}(hs:∀i,sl' i=sl i\/SR c [sl' i] [a.tmps.getD i undef]):Rel c n sl' hp a:=
 ⟨h.defers,h.size,h.base,λi=>by
  rcases hs i with hh|hh
  ·rw[hh];exact h.db i
  ·exact hh,h.ents,h.off,h.gw,h.ca,h.c6⟩
theorem Wx{u:Nat}:∀{l:List Operand} {t T v m:Nat} {p:E × Nat × Nat} {s:SV},MF sl0 u l=some (t,T,v,m,p,s)->Operand.tmp t∈l/\((∃y,sl0 t= .via T v m (some p) y/\s= .own u 0)\/ ∃y k z q,sl0 t= .vptr T v m (some p) y k z q/\s= .cz u 0 k z q)
 | [],_,_,_,_,_,_,h=>by simp[MF]at h
 |x::l,t,T,v,m,p,s,h=>by
  cases x with
  |tmp i=>
   simp only[MF]at h;split at h
   ·rename_i hs;simp only[Ad,A4]at h;obtain⟨rfl,rfl,rfl,rfl,rfl,rfl⟩:=h;exact⟨by simp, .inl ⟨_,hs,rfl⟩⟩
   ·rename_i hs;simp only[Ad,A4]at h;obtain⟨rfl,rfl,rfl,rfl,rfl,rfl⟩:=h;exact⟨by simp, .inr ⟨_,_,_,_,hs,rfl⟩⟩
   ·obtain⟨h1,h2⟩:=Wx h;exact⟨by simp[h1],h2⟩
  |const v9=>simp only[MF]at h;obtain⟨h1,h2⟩:=Wx h;exact⟨by simp[h1],h2⟩
  |func f=>simp only[MF]at h;obtain⟨h1,h2⟩:=Wx h;exact⟨by simp[h1],h2⟩
  |global g=>simp only[MF]at h;obtain⟨h1,h2⟩:=Wx h;exact⟨by simp[h1],h2⟩
theorem Rel.split(h:Rel c n sl hp a){T v m u:Nat}{p:E × Nat × Nat}{hl inn:Ah}(hs:Xn hp0 T v m u p=some (hl,inn))(B7:∀t e,hp0 t=some e->hp t=some e)(hu: ¬c.U u){vv:Value}(Kr:c.E T=m->Jr c T v (some p) vv):
  ∃recs c1,c1=c.du c.w recs/\Rel c1 n sl (By hp [(T,hl),(u,inn)]) a/\Ej c c1/\c1.K u 0/\c1.H u 0=vv/\(∃q n r,vv= .slice q n r/\(q=none\/n=0\/ ∃g,q=some ⟨g,0,none⟩))/\(∀t,c1.U t->c.U t\/t=u)/\c.K T v/\c.E T=m/\c1.E T=m+1/\T≠u:=by
 have eh:EH c hp0:=λt e hr=>h.ents t e (MN B7 hr);obtain⟨pi,z,po⟩:=p;unfold Xn at hs;split at hs
 ·rename_i e z0 l g ep c0 hlk;split at hs
  ·rename_i AG;obtain⟨rfl,rfl,sY⟩:=AG;simp only at sY;subst sY;split at hs
   ·rename_i e2 z2 l2 BZ;simp only[Ad,A4]at hs;obtain⟨rfl,rfl⟩:=hs;simp only at BZ;obtain⟨q1,q2,q3,q4,q5⟩:=eh T _ (CU hlk (Fj _));obtain⟨b,n9,cap,C,ty,fz,kk,k,p1,p2,p3,p4,p5,p6,p7⟩:=Kr q3;obtain⟨d1,d2,⟨a9,d3,_⟩|⟨g9,cap9,C9,ys,N,d3,d4,d5,d6,d7,d8,d9,d10,d11,d12⟩⟩:=q4.inv
    ·rw[p1]at d3;cases d3;omega
    ·rw[p1]at d3;cases d3;rw[d6]at p3;cases p3;rw[AA.ay]at d2 d12;have QX:po<z:=by
      rcases Nat.lt_or_ge po l.length with hh|hh
      ·omega
      ·rw[List.getElem?_eq_none hh]at BZ;cases BZ
     have I3:k.toNat<ys.length:=by omega
     have hmul:(k.toNat+1)*z<=ys.length*z:=BF _ (by omega);have E9:ys.length*z<=cap*z:=BF _ d7;rw[Nat.add_mul]at hmul;have DP:C.toList.length=cap*z:=by simpa using d9
     have AD:k.toNat*z+po<C.size:=by omega
     obtain⟨N1,N2,N3,rfl,s1,s2,s3⟩:=d12.split (k.toNat*z+po) 1;have B6:((C.toList.take (ys.length*z)).drop (k.toNat*z+po)).take 1=[vv]:=by have hv:C[k.toNat*z+po]?=some vv:=p7;rw[List.drop_take,List.take_take,Nat.min_eq_left (by omega),Br (by simpa using AD),List.take_succ_cons,List.take_zero];rw[Array.getElem?_eq_getElem AD]at hv;simpa using hv
     have JG:=Ot I3;generalize Py:(AV.sl ys).nth k.toNat=yk at JG;have Ga:=d10 yk (List.mem_of_getElem? JG);have Ca:((Aq ys).drop (k.toNat*z+po)).take 1=[(E.fld (.idx c0 pi) po 1 false).den c.ρ]:=by rw[WT ys d10 _ _ JG po 1 (by omega),Br (by omega),List.take_succ_cons,List.take_zero];simp only[E.den,d4,p4,AV.idx,Py,AV.fld];simp[show po<yk.cells.length by omega]
     have BC:((Bz ys.length l).drop (k.toNat*z+po)).take 1=[.row e2 z2 l2]:=by
      rw[<-d2,WH l _ _ _ _ I3 (by omega)];have Kn:po<l.length:=by omega
      rw[Br Kn,List.take_succ_cons,List.take_zero];rw[Bt Kn]at BZ;simpa using BZ
     rw[B6,Ca,BC]at s2;have G4:=h.ca _ _ q1;have J6:T≠u:=λhh=>hu (hh▸G4);have Cb:=h.gw.nodup T;simp only[GI.own,q5,AE,d5]at Cb;have AN:∀r∈([⟨T,none,b::(N1++N3), .hol e z l g (ep+1) c0 pi po u⟩,⟨u,some vv,N2,if l2.toList.all DT.ch then .row e2 z2 0 (.fld (.idx c0 pi) po 1 false) true else .deep e2 z2 l2.toList 0 0 (.fld (.idx c0 pi) po 1 false)⟩]:List A3),r.new.isSome=true-> ¬c.U r.tag:=λr hr hs=>by
      simp only[Ae,List.not_mem_nil,or_false]at hr;rcases hr with rfl|rfl
      ·cases hs
      ·exact hu
     refine⟨[⟨T,none,b::(N1++N3), .hol e z l g (ep+1) c0 pi po u⟩,⟨u,some vv,N2,if l2.toList.all DT.ch then .row e2 z2 0 (.fld (.idx c0 pi) po 1 false) true else .deep e2 z2 l2.toList 0 0 (.fld (.idx c0 pi) po 1 false)⟩],_,rfl,?_⟩;generalize Bd:([⟨T,none,b::(N1++N3), .hol e z l g (ep+1) c0 pi po u⟩,⟨u,some vv,N2,if l2.toList.all DT.ch then .row e2 z2 0 (.fld (.idx c0 pi) po 1 false) true else .deep e2 z2 l2.toList 0 0 (.fld (.idx c0 pi) po 1 false)⟩]:List A3)=recs at AN;have hn:(recs.map A3.tag).Nodup:=by rw[<-Bd];simp[J6]
     have aft:=Cx.dr (w':=c.w) h.ca hn AN;have DM:(⟨T,none,b::(N1++N3), .hol e z l g (ep+1) c0 pi po u⟩:A3)∈recs:=by rw[<-Bd];simp
     have CS:(⟨u,some vv,N2,if l2.toList.all DT.ch then .row e2 z2 0 (.fld (.idx c0 pi) po 1 false) true else .deep e2 z2 l2.toList 0 0 (.fld (.idx c0 pi) po 1 false)⟩:A3)∈recs:=by rw[<-Bd];simp
     obtain⟨k1,k2,k3⟩:=aft.new _ CS vv rfl;have kgT:=aft.G _ DM;have keT:=aft.gn _ DM rfl;have kgu:=aft.G _ CS;have keu:=aft.iz _ CS rfl;obtain⟨kT1,kT2⟩:=aft.K T g q1;simp only at k1 k2 k3 kgT keT kgu keu;have No:∀q,q∈b::(N1++N3)\/q∈N2->q∈(c.G T).top:=λq hq=>by rw[d5];simp only[Ae,Ac]at hq ⊢;rcases hq with(hq|hq|hq)|hq<;>simp[hq]
     obtain⟨hrel,Cj⟩:=h.changes (recs:=recs) (gs:=[]) (hs:=(c.G T).top) (Fj _) (Mod.refl _ c.w) hn AN (λq hq=>⟨_,DM,hq⟩) (by
       rw[<-Bd];simp only[List.flatMap_cons,List.flatMap_nil,AE];rw[List.nodup_cons]at Cb;obtain⟨n1,n2⟩:=Cb;rw[List.append_assoc,List.nodup_append,List.nodup_append]at n2;obtain⟨a1,⟨a2,a3,a4⟩,a5⟩:=n2;rw[List.cons_append,List.nodup_cons,List.nodup_append,List.nodup_append];refine⟨λhh=>n1 ?_,⟨a1,a3,λx hx y hy=>a5 x hx y (Ac.2 (.inr hy))⟩,a2,λx hx y hy HC=> ?_⟩
       ·simp only[Ac]at hh ⊢;rcases hh with(hh|hh)|hh<;>simp[hh]
       ·rcases Ac.1 hx with hx|hx
        ·exact a5 x hx y (Ac.2 (.inl hy)) HC
        ·exact a4 y hy x hx HC.symm)
      (λr hr q hq=>by
       have:q∈(c.G T).top:=by
        rw[<-Bd]at hr;simp only[Ae,List.not_mem_nil,or_false]at hr;rcases hr with rfl|rfl
        ·exact No q (.inl hq)
        ·exact No q (.inr hq)
       exact⟨.inl this,h.gw.inb T q (by simp[GI.own,this])⟩)
      (λr hr=>by
       rw[<-Bd]at hr;simp only[Ae,List.not_mem_nil,or_false]at hr;rcases hr with rfl|rfl
       ·intros;simp
       ·intros;simp only;split<;>simp)
      (λhk r hr=>by
       rw[<-Bd]at hr;simp only[Ae,List.not_mem_nil,or_false]at hr;rcases hr with rfl|rfl
       ·refine⟨kT1,λg' CG=>q2 g' (aft.old T G4 g' CG),by rw[keT,q3],?_,by rw[kgT]⟩;rw[kT2,p1,kgT];exact⟨b,cap,C,ys,kk,k,N1,N3,rfl,d4,p4,p5,p6,QX,d1,d2,d6,d7,d8,d9,d10,d11,rfl,k1,by rw[k3];exact p7,s1,s3⟩
       ·simp only;split
        ·rename_i hf;have Bq:=s2.mh hf;refine⟨k1,k2,[],?_,by simp,λ_=>⟨rfl,by rw[kgu]⟩,λ_=>by rw[kgu]⟩;rw[k3,kgu];exact Bq
        ·refine⟨k1,k2,keu,?_,by rw[kgu]⟩;rw[k3,kgu,AA.c8];exact s2)
     refine⟨?_,Cj,k1,k3,?_,λt ht=> ?_,q1,q3,by rw[keT,q3],J6⟩
     ·have:(recs.map λr=>(r.tag,Da [] r.bu))=[(T, .hol e z l g (ep+1) c0 pi po u),(u,if l2.toList.all DT.ch then .row e2 z2 0 (.fld (.idx c0 pi) po 1 false) true else .deep e2 z2 l2.toList 0 0 (.fld (.idx c0 pi) po 1 false))]:=by
       rw[<-Bd];simp[Da]
      rw[this]at hrel;exact hrel
     ·obtain⟨_,_,⟨a9,h1,_⟩|⟨g9,cap9,C9,ys9,N9,h1,_⟩⟩:=s2.inv
      ·exact⟨a9,0,0,h1, .inr (.inl rfl)⟩
      ·exact⟨_,_,_,h1, .inr (.inr ⟨g9,rfl⟩)⟩
     ·rcases ht with ht|⟨r,hr,rfl⟩
      ·exact .inl ht
      ·rw[<-Bd]at hr;simp only[Ae,List.not_mem_nil,or_false]at hr;rcases hr with rfl|rfl
       ·exact .inl G4
       ·exact .inr rfl
   ·cases hs
  ·cases hs
 ·cases hs
theorem Rel.close(h:Rel c n sl hp a){T u:Nat}{hl r d:Ah}(hT:hp T=some hl)(hu:hp u=some r)(hr:Xk P hl r=some d)(Ml:∃q1 q2 q3 q4 q5 q6 q7 q8,hl= .hol q1 q2 q3 q4 q5 q6 q7 q8 u)(J6:T≠u):
  ∃recs c1,c1=c.du c.w recs/\Rel c1 n sl (By hp [(T,d),(u, .dead)]) a/\(∀t,c1.U t->c.U t)/\c.E T<c1.E T:=by
 obtain⟨e,z,l,g,ep,c0,i,o',rfl⟩:=Ml;have key:∀(e2 z2:Nat) (l2:AA) (x:E),l[o']?=some (.row e2 z2 l2)->DC c.w [.row e2 z2 l2] [c.H u 0] [x.den c.ρ] (c.G u).top->c.U u->d= .deep e z l g (ep+1) (.set c0 i (.put (.idx c0 i) o' x (Ap P e)))->(Ap P e=false->z=1)->
   ∃recs c1,c1=c.du c.w recs/\Rel c1 n sl (By hp [(T,d),(u, .dead)]) a/\(∀t,c1.U t->c.U t)/\c.E T<c1.E T:=by
  rintro e2 z2 l2 x BZ Ii XT rfl IU;obtain⟨q1,q2,q3,⟨b,cap,C,ys,kk,k,N1,N2,p1,p2,p3,p4,p5,p6,p7,p7',p8,p9,p10,p11,p12,p13,p14,p15,p16,p17,p18⟩,q5⟩:=h.ents T _ (by rw[hT];rfl);have G4:=h.ca _ _ q1;have I3:k.toNat<ys.length:=by omega
  have hmul:(k.toNat+1)*z<=ys.length*z:=BF _ (by omega);have E9:ys.length*z<=cap*z:=BF _ p9;rw[Nat.add_mul]at hmul;have DP:C.toList.length=cap*z:=by simpa using p11
  have AD:k.toNat*z+o'<C.size:=by omega
  have JG:=Ot I3;generalize Py:(AV.sl ys).nth k.toNat=yk at JG;have Ga:=p12 yk (List.mem_of_getElem? JG);obtain⟨zs,CY⟩:∃zs,x.den c.ρ= .sl zs:=by
   obtain⟨_,_,⟨_,_,hx,_⟩|⟨_,_,_,_,_,_,hx,_⟩⟩:=Ii.inv
   ·exact⟨_,hx⟩
   ·exact⟨_,hx⟩
  have Ha:(x.den c.ρ).cells=[x.den c.ρ]:=by rw[CY];rfl
  have hz:(yk.di o' (x.den c.ρ) (Ap P e)).cells=setVs yk.cells o' (x.den c.ρ).cells:=by
   refine oD ?_ (λhg=> ?_)
   ·cases hg:Ap P e with
    |true=>exact .inr rfl
    |false=>left;rw[CY];intro cs hh;cases hh
   ·have:=IU hg;exact⟨by omega,by omega,Ha⟩
  have E3:Aq (ys.set k.toNat (yk.di o' (x.den c.ρ) (Ap P e)))=setVs (Aq ys) (k.toNat*z+o') (x.den c.ρ).cells:=
   bC ys _ _ yk o' _ p12 JG (by rw[Ha];simp;omega) hz
  have Hq:((Bz ys.length l).drop (k.toNat*z+o')).take 1=[.row e2 z2 l2]:=by
   rw[<-p7',WH l _ _ _ _ I3 (by omega)];have Kn:o'<l.length:=by omega
   rw[Br Kn,List.take_succ_cons,List.take_zero];rw[Bt Kn]at BZ;simpa using BZ
  have U3:setVs (C.toList.take (ys.length*z)) (k.toNat*z+o') [c.H u 0]=C.toList.take (ys.length*z):=by
   apply List.ext_getElem?;intro j;have hl3:(C.toList.take (ys.length*z)).length=ys.length*z:=by rw[Au,DP];exact Nat.min_eq_left E9
   rw[Tl _ _ _ (by rw[hl3];show k.toNat*z+o'+1<=_;omega)];split
   ·rename_i hj;simp only[Bk,List.length_nil]at hj;have:j=k.toNat*z+o':=by omega
    subst this;rw[Nat.sub_self,List.getElem?_take,if_pos (by omega)];have:=p16;simpa using this.symm
   ·rfl
  have Bm:DC c.w [.row e z (AA.of l)] [c.H T g] [(E.set c0 i (.put (.idx c0 i) o' x (Ap P e))).den c.ρ] (b::(N1++((c.G u).top++N2))):=by
   have Cw:(E.set c0 i (.put (.idx c0 i) o' x (Ap P e))).den c.ρ= .sl (ys.set k.toNat (yk.di o' (x.den c.ρ) (Ap P e))):=by simp only[E.den,p2,p3,AV.idx,Py,AV.de]
   rw[Cw,p1];have En:(ys.set k.toNat (yk.di o' (x.den c.ρ) (Ap P e))).length=ys.length:=List.length_set;have:=DC.row (w:=c.w) (e:=e) (z:=z) (l:=AA.of l) (g:=b) (cap:=cap) (C:=C) (ys:=ys.set k.toNat (yk.di o' (x.den c.ρ) (Ap P e))) (N1:=N1++((c.G u).top++N2)) (ts:=[]) (vs:=[]) (xs:=[]) (N:=[]) p7 (by rw[AA.ay];exact p7') p8 (by rw[En];exact p9) p10 p11 (λw hw=>by
     rcases List.mem_or_eq_of_mem_set hw with hw|rfl
     ·exact p12 w hw
     ·rw[hz,Te _ _ _ (by rw[Ha,Ga];simp;omega)];exact Ga) (by rw[En];exact p13) (by
     rw[En,AA.ay,E3,<-U3];refine DC.setVs p17 ?_ ?_
     ·exact p18
     ·rw[AP,Hq,Ha];exact Ii) .nil
   rw[En]at this;simpa using this
  have hTK:=q1;have AN:∀r∈([⟨T,none,b::(N1++((c.G u).top++N2)), .deep e z l g (ep+1) (.set c0 i (.put (.idx c0 i) o' x (Ap P e)))⟩,⟨u,none,[], .dead⟩]:List A3),r.new.isSome=true-> ¬c.U r.tag:=λr hr hs=>by simp only[Ae,List.not_mem_nil,or_false]at hr;rcases hr with rfl|rfl<;>cases hs
  refine⟨[⟨T,none,b::(N1++((c.G u).top++N2)), .deep e z l g (ep+1) (.set c0 i (.put (.idx c0 i) o' x (Ap P e)))⟩,⟨u,none,[], .dead⟩],_,rfl,?_⟩;generalize Bd:([⟨T,none,b::(N1++((c.G u).top++N2)), .deep e z l g (ep+1) (.set c0 i (.put (.idx c0 i) o' x (Ap P e)))⟩,⟨u,none,[], .dead⟩]:List A3)=recs at AN;have hn:(recs.map A3.tag).Nodup:=by rw[<-Bd];simp[J6]
  have aft:=Cx.dr (w':=c.w) h.ca hn AN;have DM:(⟨T,none,b::(N1++((c.G u).top++N2)), .deep e z l g (ep+1) (.set c0 i (.put (.idx c0 i) o' x (Ap P e)))⟩:A3)∈recs:=by rw[<-Bd];simp
  have CS:(⟨u,none,[], .dead⟩:A3)∈recs:=by rw[<-Bd];simp
  have kgT:=aft.G _ DM;have keT:=aft.gn _ DM rfl;have kgu:=aft.G _ CS;obtain⟨kT1,kT2⟩:=aft.K T g q1;simp only at kgT keT kgu;have Cm:∀q,q∈b::(N1++((c.G u).top++N2))->q∈(c.G T).top\/q∈(c.G u).top:=λq hq=>by rw[p14];simp only[Ae,Ac]at hq ⊢;rcases hq with hq|hq|hq|hq<;>simp[hq]
  have Pj:=h.gw.nodup T;simp only[GI.own,q5,AE,p14]at Pj;have fW:(c.G u).top.Nodup:=by have:=h.gw.nodup u;simp only[GI.own]at this;exact(List.nodup_append.1 this).1
  have GF:∀q∈(c.G u).top,q∉b::(N1++N2):=λq hq hh=>h.gw.cy u T (Ne.symm J6) q (by simp[GI.own,hq]) (by rw[<-p14]at hh;simp[GI.own,hh]);obtain⟨hrel,Cj⟩:=h.changes (recs:=recs) (gs:=[]) (hs:=(c.G T).top++(c.G u).top) (Fj _) (Mod.refl _ c.w) hn AN (λq hq=>by
    rcases Ac.1 hq with hq|hq
    ·exact⟨_,DM,hq⟩
    ·exact⟨_,CS,hq⟩) (by
    rw[<-Bd];simp only[List.flatMap_cons,List.flatMap_nil,AE];rw[List.nodup_cons,List.nodup_append]at Pj;obtain⟨n1,a1,a2,a3⟩:=Pj;rw[List.nodup_cons,List.nodup_append,List.nodup_append];refine⟨λhh=> ?_,a1,⟨fW,a2,λx hx y hy HC=>GF x hx (by rw[HC];simp[hy])⟩,λx hx y hy HC=> ?_⟩
    ·simp only[Ac]at hh n1;rcases hh with hh|hh|hh
     ·exact n1 (.inl hh)
     ·exact GF b hh (by simp)
     ·exact n1 (.inr hh)
    ·rcases Ac.1 hy with hy|hy
     ·exact GF y hy (by rw[<-HC];simp[hx])
     ·exact a3 x hx y hy HC)
   (λr hr q hq=>by
    have:q∈(c.G T).top\/q∈(c.G u).top:=by
     rw[<-Bd]at hr;simp only[Ae,List.not_mem_nil,or_false]at hr;rcases hr with rfl|rfl
     ·exact Cm q hq
     ·simp at hq
    refine⟨.inl (Ac.2 this),?_⟩;rcases this with hh|hh
    ·exact h.gw.inb T q (by simp[GI.own,hh])
    ·exact h.gw.inb u q (by simp[GI.own,hh]))
   (λr hr=>by rw[<-Bd]at hr;simp only[Ae,List.not_mem_nil,or_false]at hr;rcases hr with rfl|rfl<;>(intros;simp))
   (λhk r hr=>by
    rw[<-Bd]at hr;simp only[Ae,List.not_mem_nil,or_false]at hr;rcases hr with rfl|rfl
    ·exact⟨kT1,λg' CG=>q2 g' (aft.old T G4 g' CG),by rw[keT,q3],by rw[kT2,kgT];exact Bm,by rw[kgT]⟩
    ·exact⟨by rw[kgu],by rw[kgu]⟩)
  refine⟨?_,λt ht=> ?_,by rw[keT];omega⟩
  ·have:(recs.map λr=>(r.tag,Da [] r.bu))=[(T, .deep e z l g (ep+1) (.set c0 i (.put (.idx c0 i) o' x (Ap P e)))),(u, .dead)]:=by
    rw[<-Bd];simp[Da]
   rw[this]at hrel;exact hrel
  ·rcases ht with ht|⟨r,hr,rfl⟩
   ·exact ht
   ·rw[<-Bd]at hr;simp only[Ae,List.not_mem_nil,or_false]at hr;rcases hr with rfl|rfl
    ·exact G4
    ·exact XT
 have XT:c.U u:=h.c6 u r hu;unfold Xk at hr;simp only at hr;split at hr
 ·rename_i e2 z2 l2 e3 z3 x BZ;split at hr
  ·rename_i hh;obtain⟨hf,rfl,rfl,hlen,AM⟩:=hh;simp only[Ad]at hr;obtain⟨q1,q2,N,q4,q5,q6,q7⟩:=h.ents u _ (by rw[hu];rfl);obtain⟨hN,_⟩:=q6 rfl;have hN:N=[]:=hN;subst hN;exact key _ _ _ _ BZ (DC.kt q4 hf hlen) XT hr.symm (by rcases AM with hh|hh;(rw[hh];simp);exact λ_=>hh)
  ·cases hr
 ·rename_i e2 z2 l2 e3 z3 l3 x BZ;split at hr
  ·rename_i hh;obtain⟨rfl,rfl,hb,AM⟩:=hh;simp only[Ad]at hr;have hb:=AA.of_eq hb;subst hb;obtain⟨q1,q2,q3,q4,q5⟩:=h.ents u _ (by rw[hu];rfl);rw[AA.c8]at q4;exact key _ _ _ _ BZ q4 XT hr.symm (by rcases AM with hh|hh;(rw[hh];simp);exact λ_=>hh)
  ·cases hr
 ·cases hr
end
section
variable {P:Program} {c:Cx} {n nx:Nat} {sl sl0:Nat->SV} {hp hp0:Nat->Option Ah} {a:Act} {o:Oper} {gs:Gd} {e:Bn} {sg:B4} {nv:Nat}
theorem Th(hp:Nat->Option Ah):∀(l:List (Nat × Ah)) (t:Nat),By hp l t=match MK l t with|some f=>some f|none=>hp t
 | [],t=>rfl
 |(u,e)::l,t=>by
  have:=Th (λv=>if v=u then some e else hp v) l t;simp only[By,List.foldl_cons,MK]at this ⊢;rw[this];cases MK l t with
  |some f=>rfl
  |none=>
   simp only;by_cases h:u=t
   ·rw[if_pos h.symm,if_pos h]
   ·rw[if_neg (Ne.symm h),if_neg h]
theorem zvl{hp:Nat->Option Ah}{T v m u:Nat}{p:E × Nat × Nat}{h r:Ah}(hs:Xn hp T v m u p=some (h,r)):∃e z l ep c0 i o',h= .hol e z l v (m+1) c0 i o' u/\Dv hp [] T=some (.deep e z l v ep c0)/\ep=m:=by
 unfold Xn at hs;split at hs
 ·rename_i hl;split at hs
  ·rename_i hh;obtain⟨rfl,rfl,_⟩:=hh;split at hs
   ·simp only[Ad,A4]at hs;obtain⟨rfl,_⟩:=hs;exact⟨_,_,_,_,_,_,_,rfl,hl,rfl⟩
   ·cases hs
  ·cases hs
 ·cases hs
theorem zvR{h r d:Ah}{e z:Nat}{l:List DT}{g ep:Nat}{c0 i:E}{o' u:Nat}(hh:h= .hol e z l g ep c0 i o' u)(hc:Xk P h r=some d):∃x,d= .deep e z l g (ep+1) x:=by
 subst hh;unfold Xk at hc;simp only at hc;split at hc
 ·split at hc
  ·simp only[Ad]at hc;exact⟨_,hc.symm⟩
  ·cases hc
 ·split at hc
  ·simp only[Ad]at hc;exact⟨_,hc.symm⟩
  ·cases hc
 ·cases hc
theorem zF1(Kt:∀f s,sg f=some s->f<1000000)(h:BJ P c n nx sl hp a sl0 hp0 o [])(hu: ¬c.U (nx+999))(he:Xz P sg sl0 hp0 nv nx o=some e)
  (hc:∀q∈e.cq,q.den c.ρ) (BB:∀cl,e.call=some cl-> ∃r,c.ρ[nv]?=some r/\Jn (Cr P sg) cl.fn ((EL.of cl.args).den c.ρ) c.ρ r):AI P o c n nx sl hp [] a e:=by
 unfold Xz at he;simp only at he;split at he
 ·cases he
 rename_i t T v m p s M9;split at he
 ·cases he
 rename_i hl inn U4;split at he
 ·cases he
 rename_i e0 L4;split at he
 ·cases he
 rename_i Df;have Df:e0.cm=none:=by cases hh:e0.cm with|none=>rfl|some x=>rw[hh]at Df;simp at Df
 obtain⟨EF,Bc⟩:=Wx M9;have EF:Operand.tmp t∈o.op.operands:=by simpa using EF
 obtain⟨fe,fz,fl,fep,fc0,fi,fo,rfl,Im,rfl⟩:=zvl U4;have hE:c.E T=fep:=(h.eh T _ (CU Im (Fj _))).2.2.1;have Fe:=h.rel.db t;rw[<-h.sl t EF]at Fe;obtain⟨vv,Kr,Bi⟩:∃vv,Jr c T v (some p) vv/\ ∀c1:Cx,c1.ρ=c.ρ->c1.K (nx+999) 0->c1.H (nx+999) 0=vv->(∃q n r,vv= .slice q n r/\(q=none\/n=0\/ ∃g,q=some ⟨g,0,none⟩))->SR c1 [s] [a.tmps.getD t undef]:=by
  rcases Bc with⟨y,Dw,rfl⟩|⟨y,k,z,q,Dw,rfl⟩
  ·rw[Dw]at Fe;generalize a.tmps.getD t undef=av at Fe ⊢;cases Fe with
   |via h1 h2 h3 _=>obtain⟨_,hp⟩:=h3 hE;refine⟨_,hp,λc1 e1 k1 k2 k3=> ?_⟩;obtain⟨q,n,r,rfl,_⟩:=k3;exact .own k1 k2 .nil
  ·rw[Dw]at Fe;generalize a.tmps.getD t undef=av at Fe ⊢;cases Fe with
   |vptr h1 h2 h3 _=>
    obtain⟨b,off,len,cap,kk,kv,g1,g2,g3,g4,g5,g6,rfl⟩:=h3 hE;refine⟨_,g2,λc1 e1 k1 k2 k3=> ?_⟩;obtain⟨q9,n9,r9,hv,hq⟩:=k3;cases hv;have GP:off=0:=by
     rcases hq with hq|hq|⟨g,hq⟩
     ·cases hq
     ·omega
     ·cases hq;rfl
    subst GP;have:=SR.cz (c:=c1) (i:=k) (sz:=z) (o:=q) k1 k2 (by rw[e1];exact g3) g4 g5 .nil;simpa using this
 obtain⟨recs,c1,rfl,DN,Pd,hK1,LV,hvv,dV,hKT,_,rR,J6⟩:=h.rel.split U4 h.hp hu (λ_=>Kr);have Mh:=Bi _ Pd.ρ hK1 LV hvv;have FK:=DN.jc (sl':=λi=>if i=t then s else sl i) (λi=>by
  by_cases hi:i=t
  ·subst hi;right;simpa using Mh
  ·left;simp[hi])
 have Ep:∀x,By hp [(T, .hol fe fz fl v (fep+1) fc0 fi fo (nx+999)),(nx+999,inn)] x=if x=nx+999 then some inn else if x=T then some (.hol fe fz fl v (fep+1) fc0 fi fo (nx+999))else hp x:=λx=>rfl;have pre1:BJ P (c.du c.w recs) n nx (λi=>if i=t then s else sl i) (By hp [(T, .hol fe fz fl v (fep+1) fc0 fi fo (nx+999)),(nx+999,inn)]) a (λi=>if i=t then s else sl0 i) (λw=>if w=T then some (.hol fe fz fl v (fep+1) fc0 fi fo (nx+999))else if w=nx+999 then some inn else hp0 w) o []:=by
  refine⟨FK,Fj _,λi hi=> ?_,λx f hf=> ?_,λx h1 h2 hx=> ?_⟩
  ·by_cases Nh:i=t
   ·simp[Nh]
   ·simp only[if_neg Nh];exact h.sl i hi
  ·rw[Ep];by_cases h1:x=T
   ·rw[if_pos h1]at hf;rw[if_neg (by rw[h1];exact J6),if_pos h1];exact hf
   ·rw[if_neg h1]at hf;by_cases h2:x=nx+999
    ·rw[if_pos h2]at hf ⊢;exact hf
    ·rw[if_neg h2]at hf;rw[if_neg h2,if_neg h1];exact h.hp x f hf
  ·rcases dV x hx with hx|hx
   ·exact h.new x h1 h2 hx
   ·omega
 have hdst:∀(c':Cx) (a':Act) (w9:SV),Rel c' n (C4 n (λi=>if i=t then s else sl i) o.dst w9) (λ_=>none) a'->True:=λ_ _ _ _=>trivial;have stale:∀(c':Cx) (v':Value),c'.K T v->fep<c'.E T->SR c' [sl t] [v']:=by
  intro c' v' hk AD;rw[<-h.sl t EF];rcases Bc with⟨y,Dw,_⟩|⟨y,k,z,q,Dw,_⟩
  ·rw[Dw];exact .via hk (by omega) (λhh=>by omega) .nil
  ·rw[Dw];exact .vptr hk (by omega) (λhh=>by omega) .nil
 have back:∀{c':Cx} {hp':Nat->Option Ah} {a':Act} {w9:SV},Rel c' n (C4 n (λi=>if i=t then s else sl i) o.dst w9) hp' a'->c'.K T v->fep<c'.E T->Rel c' n (C4 n sl o.dst w9) hp' a':=by
  intro c' hp' a' w9 hr hk AD;refine hr.jc λi=> ?_;unfold C4;by_cases h1:o.dst=some i/\i<n
  ·left;rw[if_pos h1,if_pos h1]
  ·rw[if_neg h1,if_neg h1];by_cases h2:i=t
   ·subst h2;right;exact stale _ _ hk AD
   ·left;show sl i=if i=t then s else sl i;rw[if_neg h2]
 split at he
 ·
  split at he
  ·rename_i E7;simp only[Ad]at he;subst he;have Kb:=iP Kt pre1 L4 hc BB (λx hx=>by rw[Df]at hx;cases hx);intro next Q hk
   refine Kb next Q λa' c' Bo hr=> ?_
   have dS:By (By hp [(T, .hol fe fz fl v (fep+1) fc0 fi fo (nx+999)),(nx+999,inn)]) e0.bu T=some (.hol fe fz fl v (fep+1) fc0 fi fo (nx+999)):=by rw[Th,E7,Ep,if_neg J6,if_pos rfl]
   obtain⟨g1,_,g3,_⟩:=hr.ents T _ (by rw[dS];rfl);refine hk a' c' ⟨Bo.ρ,Bo.A,Bo.w0,Bo.Mu,λx hx=> ?_⟩ (back hr g1 (by omega));rcases Bo.U x hx with hx|hx
   ·rcases dV x hx with hx|hx
    ·exact .inl hx
    ·exact .inr ⟨by omega,by simp only[B1];omega⟩
   ·exact .inr hx
  ·cases he
 ·split at he
  ·rename_i r' hlu hlT;obtain⟨d,hd,rfl⟩:=Av.1 he;have Kb:=iP Kt pre1 L4 hc BB (λx hx=>by rw[Df]at hx;cases hx);intro next Q hk
   refine Kb next Q λa' c' Bo hr=> ?_
   have dS:By (By hp [(T, .hol fe fz fl v (fep+1) fc0 fi fo (nx+999)),(nx+999,inn)]) e0.bu T=some (.hol fe fz fl v (fep+1) fc0 fi fo (nx+999)):=by rw[Th,hlT,Ep,if_neg J6,if_pos rfl]
   have hue:By (By hp [(T, .hol fe fz fl v (fep+1) fc0 fi fo (nx+999)),(nx+999,inn)]) e0.bu (nx+999)=some r':=by rw[Th,hlu]
   obtain⟨recs2,c2,rfl,D3,hU2,hE2⟩:=hr.close dS hue hd ⟨_,_,_,_,_,_,_,_,rfl⟩ J6;obtain⟨x9,rfl⟩:=zvR rfl hd;have dU:By (By (By hp [(T, .hol fe fz fl v (fep+1) fc0 fi fo (nx+999)),(nx+999,inn)]) e0.bu) [(T, .deep fe fz fl v (fep+1+1) x9),(nx+999, .dead)] T=some (.deep fe fz fl v (fep+1+1) x9):=by show(if T=nx+999 then _ else if T=T then _ else _)=_;rw[if_neg J6,if_pos rfl]
   obtain⟨g1,_,g3,_⟩:=D3.ents T _ (by rw[dU];rfl);have Em:=back D3 g1 (by omega);have BN:By hp ((T, .hol fe fz fl v (fep+1) fc0 fi fo (nx+999))::(nx+999,inn)::e0.bu++ [(T, .deep fe fz fl v (fep+1+1) x9),(nx+999, .dead)])=By (By (By hp [(T, .hol fe fz fl v (fep+1) fc0 fi fo (nx+999)),(nx+999,inn)]) e0.bu) [(T, .deep fe fz fl v (fep+1+1) x9),(nx+999, .dead)]:=by rw[<-Qq,<-Qq];rfl
   refine hk a' (c'.du c'.w recs2) ⟨Bo.ρ,Bo.A,Bo.w0,Bo.Mu,λx hx=> ?_⟩ ?_
   ·rcases Bo.U x (hU2 x hx)with hx|hx
    ·rcases dV x hx with hx|hx
     ·exact .inl hx
     ·exact .inr ⟨by omega,by simp only[B1];omega⟩
    ·exact .inr hx
   ·have:=Em;rw[<-BN]at this;exact this
  ·cases he
theorem zBX(h:BJ P c n nx sl hp a sl0 hp0 o gs){e:Bn}(dp:Bool)(hd:AI P o c n nx sl hp gs a e):AI P o c n nx sl hp gs a (K6 dp hp0 gs e):=by
 unfold K6;split
 ·exact hd
 ·split
  ·rename_i l hl;intro next Q hk
   refine hd next Q λa' c' hs hr=> ?_
   have e1:By hp0 e.bu=λt=>match MK e.bu t with|some f=>some f|none=>hp0 t:=funext (Th hp0 e.bu)
   have hl:Ef (By hp0 e.bu) [] (zyl e.bu)=some l:=by rw[e1];exact hl
   have Jz:=hr.freeze (hp0:=By hp0 e.bu) (λt e' h'=>by
    rw[Th]at h' ⊢;split at h'
    ·exact h'
    ·exact h.hp t e' h') (Fj _) hl
   refine hk a' (c'.cg (l.map (·.1))) ⟨hs.ρ,hs.A,hs.w0,hs.Mu,hs.U⟩ ?_;show Rel _ _ _ (By hp (e.bu++l)) a';rw[Qq];exact Jz
  ·exact hd
theorem zzB(dp:Bool)(e:Bn):(K6 dp hp0 gs e).call=e.call:=by
 unfold K6;split
 ·rfl
 ·split<;>rfl
theorem zCr(dp:Bool)(e:Bn):(K6 dp hp0 gs e).cq=e.cq:=by
 unfold K6;split
 ·rfl
 ·split<;>rfl
theorem oC(dp:Bool)(e:Bn):(K6 dp hp0 gs e).cm=e.cm:=by
 unfold K6;split
 ·rfl
 ·split<;>rfl
theorem zAE{dp:Bool}{e:Bn}{x:E}(h:e.cm=some x):K6 dp hp0 gs e=e:=by unfold K6;rw[if_pos (by simp[h])]
theorem zDF(h:BJ P c n nx sl hp a sl0 hp0 o gs){e:Bn}(fz:Bool)(hd:AI P o c n nx sl hp gs a e):AI P o c n nx sl hp gs a (KC fz hp0 gs e):=by
 unfold KC;split
 ·exact hd
 ·rename_i eB;simp only[Bool.or_eq_true,not_or]at eB;have hen:e.bu=[]:=by simpa using eB.2
  split
  ·rename_i t g m p x hv;split
   ·rename_i y l hy hl;split
    ·rename_i I6;intro next Q hk
     refine hd next Q λa' c' hs hr=> ?_
     rw[hen]at hr;have eY:gs=[]:=by simpa using eB.1.1.1.2
     subst eY;have hr:Rel c' n (C4 n sl o.dst e.val) hp a':=hr;have eh:EH c' hp0:=λt e CN=>hr.ents t e (MN h.hp CN);have Jz:=hr.freeze h.hp (Fj _) hl;refine hk a' (c'.cg (l.map (·.1))) ⟨hs.ρ,hs.A,hs.w0,hs.Mu,hs.U⟩ ?_;refine{Jz with db:=λi=> ?_};have h1:=hr.db i;have h2:=Jz.db i;unfold C4 at h1 h2 ⊢;split
     ·rename_i hi;rw[if_pos hi]at h1;obtain⟨f,q1,q2⟩:=IE eh (Fj _) Bg hy h1 Bg (AQ _);exact .e q1 (λb hb=>WE hr eh (Fj _) hl I6 (q2 b hb)) .nil
     ·rename_i hi;rw[if_neg hi]at h2;exact h2
    ·exact hd
   ·exact hd
  ·exact hd
theorem zB0(fz:Bool)(e:Bn):(KC fz hp0 gs e).call=e.call:=by
 unfold KC;split
 ·rfl
 ·split
  ·split
   ·split<;>rfl
   ·rfl
  ·rfl
theorem zCW(fz:Bool)(e:Bn):(KC fz hp0 gs e).cq=e.cq:=by
 unfold KC;split
 ·rfl
 ·split
  ·split
   ·split<;>rfl
   ·rfl
  ·rfl
theorem zv6(fz:Bool)(e:Bn):(KC fz hp0 gs e).cm=e.cm:=by
 unfold KC;split
 ·rfl
 ·split
  ·split
   ·split<;>rfl
   ·rfl
  ·rfl
theorem zCV{fz:Bool}{e:Bn}{x:E}(h:e.cm=some x):KC fz hp0 gs e=e:=by unfold KC;rw[if_pos (by simp[h])]
theorem zG9(Kt:∀f s,sg f=some s->f<1000000):PD P sg (Cr P sg):=by
 intro c n nx sl hp a sl0 hp0 o gs e nv h hu he hc BB Df;unfold MP at he;split at he
 ·rename_i e' Fo;simp only[Ad]at he;subst he;rw[zCW,zCr]at hc;rw[zB0,zzB]at BB;rw[zv6,oC]at Df;exact zDF h _ (zBX h _ (iP Kt h Fo hc BB Df))
 ·split at he
  ·exact zF1 Kt h hu he hc BB
  ·cases he
theorem zxr{x:E}(he:Xz P sg sl0 hp0 nv nx o=some e)(hq:e.cm=some x):False:=by
 unfold Xz at he;simp only at he;split at he
 ·cases he
 split at he
 ·cases he
 split at he
 ·cases he
 rename_i e0 L4;split at he
 ·cases he
 rename_i Df;have Df:e0.cm=none:=by cases hh:e0.cm with|none=>rfl|some x=>rw[hh]at Df;simp at Df
 split at he
 ·split at he
  ·simp only[Ad]at he;subst he;rw[Df]at hq;cases hq
  ·cases he
 ·split at he
  ·obtain⟨d,hd,rfl⟩:=Av.1 he;rw[Df]at hq;cases hq
  ·cases he
theorem zw6{x:E}(he:MP P sg sl0 hp0 nv nx gs o=some e)(hq:e.cm=some x):B2 P sg sl0 hp0 nv nx gs o=some e:=by
 unfold MP at he;split at he
 ·rename_i e' Fo;simp only[Ad]at he;subst he;rw[zv6,oC]at hq;rw[zCV (by rw[oC];exact hq),zAE hq];exact Fo
 ·split at he
  ·exact(zxr he hq).elim
  ·cases he
theorem zGd:Vp P sg:=by
 intro c n nx sl hp a sl0 hp0 o gs e nv x h he hq hb;unfold LC at hb;cases A0:o.op with
 |binOp op t y z ty=>
  rw[A0]at hb;simp only at hb;have he:=zw6 he hq;simp only[B2,A0,Ax]at he;obtain⟨s1,BR,s2,Bi,he⟩:=he;have key:∀xq,BK hp0 gs Bg s1=some xq->xq.den c.ρ= .sl []:=by
   intro xq Kx;obtain⟨f,q1,_⟩:=h.j0 BR (by simp[A0,Op.operands]) Kx;generalize a.eval y=v at q1 hb;split at hb
   ·generalize xq.den c.ρ=d at q1;cases q1 with
    |eg _=>rfl
   ·cases hb
  unfold TY at he;split at he
  ·split at he
   ·simp at he;subst he;cases hq
   ·simp at he;subst he;cases hq
   ·obtain⟨xq,Kx,rfl⟩:=Av.1 he;cases hq;exact key _ Kx
   ·obtain⟨xq,Kx,rfl⟩:=Av.1 he;cases hq;exact key _ Kx
   ·cases he
  ·split at he
   ·simp at he;subst he;cases hq
   ·cases he
  ·split at he
   ·simp at he;subst he;cases hq
   ·cases he
  ·split at he
   ·simp at he;subst he;cases hq
   ·cases he
  ·split at he
   ·cases he
   ·split at he
    ·split at he
     ·simp at he;subst he;cases hq
     ·simp at he;subst he;cases hq
     ·cases he
    ·cases he
  ·cases he
 |_=>rw[A0]at hb;simp at hb
end
def H0(ms:List PM)(vs:List Value)(t:Nat):Option Value:=
 if OJ t then(match vs[t/1000]?,(ms[t/1000]?).getD .ro with
  |some v, .bx .. =>if t % 1000=0 then some v else none
  |some v, .mu _=>if 500<=t % 1000 then v.cells[t % 1000-500]? else none
  |_,_=>none)
 else none
section
variable {P:Program} {c:Cx} {w:World}
theorem CA.ig{ts:List TypeId}{fl:List Bool}{us:List Value}{ys:List AV}{rf hs:List Nat}(h:CA P w ts fl us ys rf hs){nx:Nat}{mk:Nat->E}{j:Nat}:∀(k:Nat) (u:Value),us[k]?=some u->(∃e,(nx+j+k,e)∈(Dg P nx mk j ts fl).2)->u.cells= #[u]:=by
 induction h generalizing j with
 |nil=>intro k u hu _;simp at hu
 | @deep t ts fl el e9 z9 l9 u us y ys top rf hs h1 h2 Ua QO h3 _ ih=>
  intro k u' hu he;cases k with
  |zero=>simp at hu;subst hu;obtain⟨p,q,r,rfl⟩:=h3.head;rfl
  |succ k=>
   refine ih (j:=j+1) k u' (by simpa using hu) ?_;obtain⟨e,he⟩:=he;simp only[Dg,h1,h2,Ae,A4]at he;rcases he with⟨he,_⟩|he
   ·omega
   ·exact⟨e,by rw[show nx+(j+1)+k=nx+j+(k+1)from by omega];exact he⟩
 | @own t ts fl el u us y ys top N rf hs h1 h2 M1 h3 _ ih=>
  intro k u' hu he;cases k with
  |zero=>simp at hu;subst hu;obtain⟨xs,_,_,_,⟨_,⟨a,rfl⟩,_⟩|⟨g,cap,C,rfl,_⟩⟩:=h3<;>rfl
  |succ k=>
   refine ih (j:=j+1) k u' (by simpa using hu) ?_;obtain⟨e,he⟩:=he;simp only[Dg,h1,h2,Ae,A4]at he;rcases he with⟨he,_⟩|he
   ·omega
   ·exact⟨e,by rw[show nx+(j+1)+k=nx+j+(k+1)from by omega];exact he⟩
 | @rd t ts fl u us y ys f rf hs h1 h3 _ ih=>
  intro k u' hu he;obtain⟨e,he⟩:=he;have UD:(Dg P nx mk j (t::ts) fl).2=(Dg P nx mk (j+1) ts fl.tail).2:=by
   simp only[Dg];split
   ·rename_i h8 h9;rw[h1 h8]at h9;cases h9
   ·rfl
  rw[UD]at he;cases k with
  |zero=>
   exfalso;have key:∀(ts:List TypeId) (fl:List Bool) (j' t':Nat) (e':Ah),(t',e')∈(Dg P nx mk j' ts fl).2->nx+j'<=t':=by
    intro ts
    induction ts with
    |nil=>intro fl j' t' e' h;simp[Dg]at h
    |cons a ts ih2=>
     intro fl j' t' e' h;simp only[Dg]at h;split at h
     ·simp only[Ae,A4]at h;rcases h with⟨h,_⟩|h
      ·omega
      ·have:=ih2 _ _ _ _ h;omega
     ·have:=ih2 _ _ _ _ h;omega
   have:=key _ _ _ _ _ he;omega
  |succ k=>exact ih (j:=j+1) k u' (by simpa using hu) ⟨e,by rw[show nx+(j+1)+k=nx+j+(k+1)from by omega];exact he⟩
theorem zsG{i b:Nat}(hb:b+400<=1000){t:TypeId}{own:List Bool}{s:SV}{l:List (Nat × Ah)}{v:Value}{x:AV}{rf hs:List Nat}(h:TX P i b t own=some (s,l))(hv:OE P w t own v x rf hs)(hx:(E.var i).den c.ρ=x):
  ∃recs:List A3,l=recs.map A3.pair/\recs.flatMap A3.top=hs/\(∀r∈recs,1000*i+b<=r.tag/\r.tag<1000*i+1000/\r.new.isSome)/\(recs.map A3.tag).Nodup/\(∀r∈recs,r.new=v.cells[r.tag-(1000*i+b)]?)/\
   ∀c',Fy c c' w recs->(∀b∈rf,c'.ok b)->SR c' [s] [v]/\ ∀r∈recs,DJ c' r.tag r.bu:=by
 obtain⟨us,ys,hg,hc⟩:=hv;unfold TX at h;simp only at h;split at h
 ·cases h
 rename_i hle;split at hg
 ·rename_i AM;obtain⟨rfl,rfl,Cs⟩:=hg;obtain⟨recs,e1,e2,e3,e4,e4',e5⟩:=SF (c:=c) (nx:=1000*i+b) (mk:=D9 (.var i) (Ap P t)) hc 0 (by rw[AM];exact WQ hx);rw[if_pos AM]at h;simp only[Ad,A4]at h;obtain⟨rfl,rfl⟩:=h;refine⟨recs,e1,e2,λr hr=>by have:=e3 r hr;exact⟨by omega,by omega,this.2.2⟩,e4,λr hr=>by rw[e4' r hr];simp[Value.cells],λc' ha A5=> ?_⟩;obtain⟨q1,q2⟩:=e5 c' ha A5;exact⟨.agg Cs (by rw[BV.ay];exact q1) .nil,q2⟩
 ·rename_i AM;obtain⟨rfl,rfl⟩:=hg;have Ho:Ap P t=false:=by simpa using AM
  obtain⟨recs,e1,e2,e3,e4,e4',e5⟩:=SF (c:=c) (nx:=1000*i+b) (mk:=D9 (.var i) (Ap P t)) hc 0 (by
   intro k z hz;cases k with
   |zero=>simp at hz;subst hz;rw[Ho];simpa[D9]using hx
   |succ k=>simp at hz)
  rw[if_neg AM]at h;split at h
  ·rename_i s' Bh;simp only[Ad,A4]at h;obtain⟨rfl,rfl⟩:=h;refine⟨recs,e1,e2,λr hr=>by have:=e3 r hr;exact⟨by omega,by omega,this.2.2⟩,e4,λr hr=> ?_,λc' ha A5=> ?_⟩
   ·have CN:=e4' r hr;have h3:=e3 r hr;rw[CN,Nat.add_zero];have hlen:=hc.len;have QV:r.tag-(1000*i+b)=0:=by
     have:=hlen.1;simp at this;omega
    rw[QV];have:=hc.ig (nx:=1000*i+b) (mk:=D9 (.var i) (Ap P t)) (j:=0) 0 v rfl ⟨r.bu,by rw[e1];exact List.mem_map.2 ⟨r,hr,by simp[A3.pair];omega⟩⟩;rw[this];rfl
   ·obtain⟨q1,q2⟩:=e5 c' ha A5;rw[Bh]at q1;exact⟨q1,q2⟩
  ·cases h
theorem ztl{ms0:List PM}{vs0:List Value}:∀(ts:List TypeId) (i:Nat) {ms:List PM} {lo:List Bool} {ss:List SV} {l:List (Nat × Ah)} {vs:List Value} {xs:List AV} {rf lf hs:List Nat},Oc P i ts ms lo=some (ss,l)->D8 P w ts ms lo vs xs rf lf hs->(∀k x,xs[k]?=some x->(E.var (i+k)).den c.ρ=x)->(∀k,ms[k]?=ms0[i+k]?)->(∀k,vs[k]?=vs0[i+k]?)->
  ∃recs:List A3,l=recs.map A3.pair/\recs.flatMap A3.top=hs/\(∀r∈recs,1000*i<=r.tag/\r.tag<1000*(i+ts.length)/\r.new.isSome)/\(recs.map A3.tag).Nodup/\(∀r∈recs,∀v,H0 ms0 vs0 r.tag=some v->r.new=some v)/\ss.length=ts.length/\ts.length<=vs.length/\
   ∀c',Fy c c' w recs->(∀b∈rf,c'.ok b)->(∀(k:Nat) (v:Value) (x:AV),(ms[k]?).getD .ro= .ro->vs[k]?=some v->xs[k]?=some x->c'.A.lo v x)->SR c' (ss++(List.range (vs.length-ts.length)).map λj=>SV.e (.var (i+ts.length+j))) vs/\ ∀r∈recs,DJ c' r.tag r.bu
 | [],i,ms,lo,ss,l,vs,xs,rf,lf,hs,h,ha,hx,_,_=>by
  simp[Oc]at h;obtain⟨rfl,rfl⟩:=h;have key:∀{ms:List PM} {lo:List Bool} {vs:List Value} {xs:List AV} {rf lf hs:List Nat},D8 P w [] ms lo vs xs rf lf hs->hs=[]/\Rd w vs xs rf:=by
   intro ms lo vs
   induction vs generalizing ms lo with
   |nil=>intro xs rf lf hs h;cases h;exact⟨rfl, .nil⟩
   |cons v vs ih=>
    intro xs rf lf hs h;cases h with
    |free h1 h2=>obtain⟨rfl,h3⟩:=ih h2;exact⟨rfl,h1.app h3⟩
  obtain⟨rfl,Dn⟩:=key ha;refine⟨[],rfl,rfl,by simp,by simp,by simp,rfl,by simp,λc' F0 A5 _=>⟨?_,by simp⟩⟩;have frees:∀(vs:List Value) {xs:List AV} {rf:List Nat} (j:Nat),Rd w vs xs rf->(∀k x,xs[k]?=some x->(E.var (i+j+k)).den c.ρ=x)->(∀b∈rf,c'.ok b)->SR c' ((List.range vs.length).map λq=>SV.e (.var (i+j+q))) vs:=by
   intro vs
   induction vs with
   |nil=>intro xs rf j h _ _;simpa using SR.nil
   |cons v vs ih=>
    intro xs rf j h hx A5;cases xs with
    |nil=>have:=h.len;simp at this
    |cons x xs=>
     obtain⟨f1,f2,rfl,h1,h2⟩:=h.ct;have h3:=ih (j+1) h2 (λk y hy=>by rw[show i+(j+1)+k=i+j+(k+1)from by omega];exact hx (k+1) y (by simpa using hy)) λb hb=>A5 b (by simp[hb]);rw[Bk,List.range_succ_eq_map,List.map_cons,List.map_map];refine SR.cons (.e (f:=f1) (by rw[F0.w,F0.ρ];have:=hx 0 x rfl;simp only[Nat.add_zero]at this ⊢;rw[this];exact h1) (λb hb=>A5 b (by simp[hb])) .nil) ?_;have e:((λq=>SV.e (.var (i+j+q)))∘Nat.succ)=λq=>SV.e (.var (i+(j+1)+q)):=by funext q;simp only[Function.comp_apply];rw[show i+j+q.succ=i+(j+1)+q from by omega]
     rw[e];exact h3
  simpa using frees vs 0 Dn (by simpa using hx) A5
 |t::ts,i,ms,lo,ss,l,vs,xs,rf,lf,hs,h,ha,hx,E8,Lg=>by
  unfold Oc at h;split at h
  ·rename_i s l1 ss' l2 h1 h2;simp only[Ad,A4]at h;obtain⟨rfl,rfl⟩:=h;obtain⟨v,vs,x,xs,f,hh,rf,lf,hs,rfl,rfl,rfl,rfl,Fc,Bu⟩:∃v vs' x xs' f hh rf' lf' Bh,vs=v::vs'/\xs=x::xs'/\rf=f++rf'/\hs=hh++Bh/\D8 P w ts ms.tail lo.tail vs' xs' rf' lf' Bh/\(jM P w t (ms.headD .ro) v x f hh\/(lo.headD false=true/\ms.headD .ro= .ro/\f=[]/\hh=[])):=by
    cases ha with
    |cons h1 h2=>exact⟨_,_,_,_,_,_,_,_,_,rfl,rfl,rfl,rfl,h2, .inl h1⟩
    |lent h1 h2 h3 h4=>exact⟨_,_,_,_,[],[],_,_,_,rfl,rfl,by simp,by simp,h4, .inr ⟨h1,h2,rfl,rfl⟩⟩
   have Ct:ms.headD .ro=(ms0[i]?).getD .ro:=by have:=E8 0;rw[Nat.add_zero]at this;rw[<-this];cases ms<;>rfl
   have Pw:vs0[i]?=some v:=by have:=Lg 0;simpa using this.symm
   have FT:(E.var i).den c.ρ=x:=by simpa using hx 0 x rfl
   obtain⟨r2,b1,b2,b3,b4,b4',b6,b7,b5⟩:=ztl ts (i+1) h2 Fc (λk y hy=>by rw[show i+1+k=i+(k+1)from by omega];exact hx (k+1) y (by simpa using hy)) (λk=>by rw[show i+1+k=i+(k+1)from by omega,<-E8 (k+1)];cases ms<;>simp) (λk=>by rw[show i+1+k=i+(k+1)from by omega,<-Lg (k+1)];simp);have fin:∀(r1:List A3),l1=r1.map A3.pair->r1.flatMap A3.top=hh->(∀r∈r1,1000*i<=r.tag/\r.tag<1000*i+1000/\r.new.isSome)->(r1.map A3.tag).Nodup->(∀r∈r1,∀v,H0 ms0 vs0 r.tag=some v->r.new=some v)->
     (∀c',Fy c c' w r1->(∀b∈f,c'.ok b)->(ms.headD .ro= .ro->c'.A.lo v x)->SR c' [s] [v]/\ ∀r∈r1,DJ c' r.tag r.bu)->
     ∃recs:List A3,l1++l2=recs.map A3.pair/\recs.flatMap A3.top=hh++hs/\(∀r∈recs,1000*i<=r.tag/\r.tag<1000*(i+(t::ts).length)/\r.new.isSome)/\(recs.map A3.tag).Nodup/\(∀r∈recs,∀v,H0 ms0 vs0 r.tag=some v->r.new=some v)/\(s::ss').length=(t::ts).length/\(t::ts).length<=(v::vs).length/\
      ∀c',Fy c c' w recs->(∀b∈f++rf,c'.ok b)->(∀(k:Nat) (v':Value) (x':AV),(ms[k]?).getD .ro= .ro->(v::vs)[k]?=some v'->(x::xs)[k]?=some x'->c'.A.lo v' x')->SR c' ((s::ss')++(List.range ((v::vs).length-(t::ts).length)).map λj=>SV.e (.var (i+(t::ts).length+j))) (v::vs)/\ ∀r∈recs,DJ c' r.tag r.bu:=by
    intro r1 a1 a2 a3 a4 a4' a5;refine⟨r1++r2,by simp[a1,b1],by simp[a2,b2],λr hr=> ?_,?_,λr hr=> ?_,by simp[b6],by simp[b7],λc' F0 A5 BZ=> ?_⟩
    ·simp only[Bk];rcases Ac.1 hr with hr|hr
     ·have:=a3 r hr;exact⟨this.1,by omega,this.2.2⟩
     ·have:=b3 r hr;exact⟨by omega,by omega,this.2.2⟩
    ·rw[List.map_append,List.nodup_append];refine⟨a4,b4,λt1 It t2 Lf he=> ?_⟩;obtain⟨q1,G8,rfl⟩:=List.mem_map.1 It;obtain⟨q2,FJ,rfl⟩:=List.mem_map.1 Lf;have:=a3 q1 G8;have:=b3 q2 FJ;omega
    ·rcases Ac.1 hr with hr|hr
     ·exact a4' r hr
     ·exact b4' r hr
    ·obtain⟨p1,p2⟩:=a5 c' (F0.mono λr hr=>by simp[hr]) (λb hb=>A5 b (by simp[hb])) λhl=>BZ 0 v x (by cases ms<;>exact hl) rfl rfl;obtain⟨q1,q2⟩:=b5 c' (F0.mono λr hr=>by simp[hr]) (λb hb=>A5 b (by simp[hb])) λk v' x' k1 k2 k3=>BZ (k+1) v' x' (by cases ms with|nil=>rfl|cons b l=>simpa using k1) (by simpa using k2) (by simpa using k3);refine⟨?_,λr hr=> ?_⟩
     ·have:=p1.cons q1;have e:(λj=>SV.e (.var (i+1+ts.length+j)))=λj=>SV.e (.var (i+(t::ts).length+j)):=by
       funext j;simp only[Bk];rw[show i+1+ts.length+j=i+(ts.length+1)+j from by omega]
      rw[e]at this;simpa using this
     ·rcases Ac.1 hr with hr|hr
      ·exact p2 r hr
      ·exact q2 r hr
   have pinMu:∀{own:List Bool} {r:A3},ms.headD .ro= .mu own->1000*i+500<=r.tag->r.tag<1000*i+1000->r.new=v.cells[r.tag-(1000*i+500)]?-> ∀v',H0 ms0 vs0 r.tag=some v'->r.new=some v':=by
    intro own r hm t1 t2 hn v' hp;unfold H0 at hp;split at hp
    ·rw[show r.tag/1000=i from by omega,Pw,<-Ct,hm]at hp;simp only at hp;split at hp
     ·rw[hn,show r.tag-(1000*i+500)=r.tag % 1000-500 from by omega];exact hp
     ·cases hp
    ·cases hp
   have pinVa:∀{own:List Bool} {r:A3},ms.headD .ro= .va own->1000*i<=r.tag->r.tag<1000*i+1000-> ∀v',H0 ms0 vs0 r.tag=some v'->r.new=some v':=by
    intro own r hm t1 t2 v' hp;unfold H0 at hp;split at hp
    ·rw[show r.tag/1000=i from by omega,Pw,<-Ct,hm]at hp;simp at hp
    ·cases hp
   cases hm:ms.headD .ro with
   |ro=>
    rw[hm]at h1 Bu;simp only[dB,Ad,A4]at h1;obtain⟨rfl,rfl⟩:=h1;have hhh:hh=[]:=by rcases Bu with⟨_,h⟩|⟨_,_,_,h⟩<;>exact h
    subst hhh;by_cases BZ:lo.headD false=true
    ·exact fin [] rfl rfl (by simp) (by simp) (by simp) λc' F0 A5 hl=>⟨by rw[if_pos BZ];exact .lent (by rw[F0.ρ,FT];exact hl hm) .nil,by simp⟩
    ·rcases Bu with⟨g1,_⟩|⟨h,_⟩
     ·exact fin [] rfl rfl (by simp) (by simp) (by simp) λc' F0 A5 _=>⟨by rw[if_neg BZ];exact .e (f:=f) (by rw[F0.w,F0.ρ,FT];exact g1) A5 .nil,by simp⟩
     ·exact absurd h BZ
   |va own=>
    rw[hm]at h1 Bu
    replace Bu:=Bu.resolve_right λh=>by cases h.2.1
    obtain⟨r1,a1,a2,a3,a4,a4',a5⟩:=zsG (c:=c) (by omega) h1 Bu FT;exact fin r1 a1 a2 (λr hr=>by have:=a3 r hr;exact⟨by omega,this.2⟩) a4 (λr hr=>by have:=a3 r hr;exact pinVa hm (by omega) this.2.1) λc' F0 A5 _=>a5 c' F0 A5
   |mu own=>
    rw[hm]at h1 Bu
    replace Bu:=Bu.resolve_right λh=>by cases h.2.1
    obtain⟨r1,a1,a2,a3,a4,a4',a5⟩:=zsG (c:=c) (by omega) h1 Bu FT;exact fin r1 a1 a2 (λr hr=>by have:=a3 r hr;exact⟨by omega,this.2⟩) a4 (λr hr=>by have:=a3 r hr;exact pinMu hm this.1 this.2.1 (a4' r hr)) λc' F0 A5 _=>a5 c' F0 A5
   |bx own own'=>
    rw[hm]at h1 Bu
    replace Bu:=Bu.resolve_right λh=>by cases h.2.1
    obtain⟨ty,b,C,ys,h9,g1,rfl,g3,g4,rfl,g6,rfl⟩:=Bu;simp only[dB,g1]at h1;split at h1
    ·cases h1
    rename_i hle;simp only[Ad,A4]at h1;obtain⟨rfl,rfl⟩:=h1;obtain⟨recs,e1,e2,e3,e4,e4',e5⟩:=SF (c:=c) (nx:=1000*i+1) (mk:=D9 (.deref (.var i)) true) g6 0 (WQ (by simp only[E.den]at FT ⊢;rw[FT];rfl));refine fin (⟨1000*i,some (.pointer (some ⟨b,0,none⟩)),[b], .box ty (Ap P ty) (Dg P (1000*i+1) (D9 (.deref (.var i)) true) 0 (Bl P ty) own).1⟩::recs) (by simp[e1,A3.pair]) (by simp[e2]) (λr hr=> ?_) ?_ (λr hr v' hp=> ?_) λc' F0 A5 _=> ?_
    ·rcases Ae.1 hr with rfl|hr
     ·simp
     ·have:=e3 r hr;exact⟨by omega,by omega,this.2.2⟩
    ·simp only[List.map_cons,List.nodup_cons];refine⟨λhm=> ?_,e4⟩;obtain⟨r,hr,Ir⟩:=List.mem_map.1 hm;have:=e3 r hr;omega
    ·rcases Ae.1 hr with rfl|hr
     ·unfold H0 at hp;simp only at hp;split at hp
      ·rw[show 1000*i/1000=i from by omega,Pw,<-Ct,hm]at hp;simp at hp;simpa using hp
      ·cases hp
     ·have h3:=e3 r hr;unfold H0 at hp;split at hp
      ·rw[show r.tag/1000=i from by omega,Pw,<-Ct,hm]at hp;simp only at hp;split at hp
       ·omega
       ·cases hp
      ·cases hp
    ·obtain⟨q1,q2⟩:=e5 c' (F0.mono λr hr=>by simp[hr]) A5;obtain⟨k1,k2,k3⟩:=F0.new _ (List.mem_cons_self ..) _ rfl;have kg:=F0.G _ (List.mem_cons_self ..);simp only at k1 k3 kg;refine⟨.cw k1 k3 .nil,λr hr=> ?_⟩;rcases Ae.1 hr with rfl|hr
     ·exact⟨b,C,k1,k3,by rw[kg],by rw[kg],by rw[F0.w];exact g3,g4,q1⟩
     ·exact q2 r hr
  ·cases h
end
section
variable {P:Program} {c:Cx} {n:Nat} {a:Act} {τ:St}
theorem wW(h:Rel c n (BX τ) (AR τ.hp) a):EH c (AR τ.hp):=λt e hr=>h.ents t e hr
theorem zxX{hp:Nat->Option Ah}{t:Nat}{e:Ah}(h:hp t=some e)(hn:∀hs f,e≠ .gd hs f):Dv hp [] t=some e:=by
 simp only[Dv,h,Aa,LL]
 all_goals (cases e<;>first|rfl|exact absurd rfl (hn _ _))
theorem zT(h:Rel c n (BX τ) (AR τ.hp) a){u g:Nat}{e z:Nat}{x:E}{d:Bool}(hu:AR τ.hp u=some (.row e z g x d)):c.K u g/\ ∃N,De c.w e z (c.H u g) (x.den c.ρ) (c.G u).top N/\(∀b∈N,c.ok b)/\(d=true->N=[]):=by obtain⟨p1,p2,N,p3,p4,p5,_⟩:=h.ents u _ (by rw[hu];rfl);exact⟨p1,N,p3,p4,λhd=>(p5 hd).1⟩
theorem zyN{t e:TypeId}{d:Bool}{N:List Nat}(hd:d=true->N=[])(h:Cg P e=true/\d=true\/Cg P e=false/\(DK P t).isNone=true):Cg P e=true/\N=[]\/Cg P e=false/\DK P t=none:=by
 rcases h with⟨h1,h2⟩|⟨h1,h2⟩
 ·exact .inl ⟨h1,hd h2⟩
 ·exact .inr ⟨h1,by simpa using h2⟩
theorem aM(h:Rel c n (BX τ) (AR τ.hp) a):∀(ts:List TypeId) {fl:List Bool} {cs:List SV} {l:List Nat} {us:List Value} {xs:EL} {m:Nat},MQ P τ ts fl cs=some l->SR c cs us->CQ (AR τ.hp) [] m cs=some xs->m<=Bg->
  ∃f,CA P c.w ts fl us (xs.den c.ρ) f (l.flatMap λt=>(c.G t).top)/\ ∀b∈f,c.ek (K7 P τ ts fl cs) b
 | [],fl,[],l,us,xs,m,ho,hs,hx,hm=>by
  simp[MQ]at ho;subst ho;cases hs;cases m with
  |zero=>simp[CQ]at hx
  |succ m=>simp[CQ]at hx;subst hx;exact⟨[], .nil,by simp⟩
 | [],fl,s::cs,l,us,xs,m,ho,hs,hx,hm=>by simp[MQ]at ho
 |t::ts,fl,[],l,us,xs,m,ho,hs,hx,hm=>by simp[MQ]at ho
 |t::ts,fl,s::cs,l,[],xs,m,ho,hs,hx,hm=>by have:=hs.len;simp at this
 |t::ts,fl,s::cs,l,v::us,xs,m,ho,hs,hx,hm=>by
  obtain⟨j,y,ys,rfl,hy,DE,rfl⟩:=Lp hx;obtain⟨r1,r2⟩:=hs.ct;unfold MQ at ho;split at ho
  ·cases ho
  rename_i l' DB;obtain⟨f,q1,q2⟩:=aM h ts DB r2 DE (by omega);split at ho
  ·rename_i e hf BE;have GG:K7 P τ (t::ts) fl (s::cs)=K7 P τ ts fl.tail cs:=by
    simp only[K7,hf,BE,Option.isSome_some,Bool.and_self,if_true,List.nil_append]
   split at ho
   ·cases ho
   rename_i hz;split at ho
   ·simp only[Ad]at ho;subst ho;cases r1 with
    |cr _=>refine⟨f,?_,by rw[GG];exact q2⟩;rw[EL.den,Mz hy];exact CA.void hf BE (by omega) q1
   ·rename_i u g;split at ho
    ·rename_i e' z g' x d hu;split at ho
     ·rename_i hh;obtain⟨rfl,rfl,rfl,Hs⟩:=hh;simp only[Ad]at ho;subst ho;obtain⟨p1,N,p2,p3,p4⟩:=zT h hu;have Hs:=zyN p4 Hs;have hl:=zxX hu (by simp);have HD:y=x:=by
       cases j with
       |zero=>simp[BK]at hy
       |succ j=>simp[BK,Jg,hl]at hy;exact hy.symm
      subst HD;have hv:c.H u g=v:=by
       cases r1 with
       |own _ k2 _=>exact k2
      rw[hv]at p2;refine⟨N++f,CA.own hf BE Hs p2 q1,λb hb=> ?_⟩;rw[GG];rcases Ac.1 hb with hb|hb
      ·exact .inl (p3 b hb)
      ·exact q2 b hb
     ·cases ho
    ·rename_i e' z dl g' ep x hu;split at ho
     ·rename_i hh;obtain⟨rfl,GM,D1⟩:=hh;have D1:=N8 D1;simp only[Ad]at ho;subst ho;obtain⟨p1,_,_,p2,_⟩:=h.ents u _ (by rw[hu];rfl);have hl:=zxX hu (by simp);have HD:y=x:=by
       cases j with
       |zero=>simp[BK]at hy
       |succ j=>simp[BK,Jg,hl]at hy;exact hy.symm
      subst HD;have hv:c.H u g=v:=by
       cases r1 with
       |own _ k2 _=>exact k2
      rw[hv]at p2;exact⟨f,CA.deep hf BE GM D1 p2 q1,by rw[GG];exact q2⟩
     ·cases ho
    ·cases ho
   ·cases ho
  ·rename_i Dl;simp only[Ad]at ho;subst ho;have hn:fl.headD false=true->C3 P t=none:=λhf=>by
    cases BE:C3 P t with
    |none=>rfl
    |some e=>exact absurd BE (Dl e hf)
   obtain⟨f1,p1,p2⟩:=IE (wW h) (Fj _) j hy r1 Bg (by omega);refine⟨f1++f,CA.rd hn p1 q1,λb hb=> ?_⟩;have GG:K7 P τ (t::ts) fl (s::cs)=Cf (AR τ.hp) [] (Bg+1) [s]++K7 P τ ts fl.tail cs:=by
    have:(fl.headD false&&(C3 P t).isSome)=false:=by
     cases hf:fl.headD false with
     |false=>rfl
     |true=>rw[hn hf];rfl
    simp only[K7,this,Bj,if_false]
   rw[GG];rcases Ac.1 hb with hb|hb
   ·exact(p2 b hb).mono λt ht=>by simp[ht]
   ·exact(q2 b hb).mono λt ht=>by simp[ht]
theorem zxC(h:Rel c n (BX τ) (AR τ.hp) a){t:TypeId}{fl:List Bool}{s:SV}{l:List Nat}{v:Value}{x:E}{m:Nat}(ho:iH P τ t fl s=some l)(hs:SR c [s] [v])(hx:BK (AR τ.hp) [] m s=some x)(hm:m<Bg):
  ∃f,Ea P c.w t fl v (x.den c.ρ) f (l.flatMap λt=>(c.G t).top)/\ ∀b∈f,c.ek (iW P τ t fl s) b:=by
 unfold iH at ho;unfold Ea iW;split at ho
 ·rename_i hf;simp only[hf,if_true];split at ho
  ·rename_i AM;split at ho
   ·rename_i cs;obtain⟨k,lx,rfl,hl,rfl⟩:=W5 hx;cases hs with
    |agg h9 h1 h8=>rename_i as_;obtain⟨f,q1,q2⟩:=aM (P:=P) h (Bl P t) ho h1 hl (by omega);exact⟨f,⟨as_,lx.den c.ρ,by rw[if_pos AM];exact⟨rfl,rfl,h9⟩,q1⟩,by rw[if_pos AM];exact q2⟩
   ·cases ho
  ·rename_i AM;have JA:CQ (AR τ.hp) [] (m+1) [s]=some (.cons x .nil):=by
    cases m with
    |zero=>simp[BK]at hx
    |succ m=>simp only[CQ,hx]
   obtain⟨f,q1,q2⟩:=aM (P:=P) h (Bl P t) ho hs JA (by omega);exact⟨f,⟨[v],[x.den c.ρ],by rw[if_neg AM];exact⟨rfl,rfl⟩,q1⟩,by rw[if_neg AM];exact q2⟩
 ·rename_i hf;simp only[hf,if_false,Bj];simp only[Ad]at ho;subst ho;obtain⟨f,p1,p2⟩:=IE (wW h) (Fj _) m hx hs Bg (by omega);exact⟨f,⟨p1,rfl⟩,p2⟩
theorem zH(h:Rel c n (BX τ) (AR τ.hp) a):∀(ts:List TypeId) {fl:List Bool} {ss:List SV} {l:List Nat} {vs:List Value} {xs:EL} {m:Nat},Qu P τ ts fl ss=some l->SR c ss vs->CQ (AR τ.hp) [] m ss=some xs->m<=Bg->
  ∃f,MV P c.w ts fl vs (xs.den c.ρ) f (l.flatMap λt=>(c.G t).top)/\ ∀b∈f,c.ek (XG P τ ts fl ss) b
 | [],fl,[],l,vs,xs,m,ho,hs,hx,hm=>by
  simp[Qu]at ho;subst ho;cases hs;cases m with
  |zero=>simp[CQ]at hx
  |succ m=>simp[CQ]at hx;subst hx;exact⟨[], .nil,by simp⟩
 | [],fl,s::cs,l,us,xs,m,ho,hs,hx,hm=>by simp[Qu]at ho
 |t::ts,fl,[],l,us,xs,m,ho,hs,hx,hm=>by simp[Qu]at ho
 |t::ts,fl,s::cs,l,[],xs,m,ho,hs,hx,hm=>by have:=hs.len;simp at this
 |t::ts,fl,s::cs,l,v::us,xs,m,ho,hs,hx,hm=>by
  obtain⟨j,y,ys,rfl,hy,DE,rfl⟩:=Lp hx;obtain⟨r1,r2⟩:=hs.ct;unfold Qu at ho;split at ho
  ·rename_i a1 b1 h1 h2;simp only[Ad]at ho;subst ho;obtain⟨f1,p1,p2⟩:=zxC (P:=P) h h1 r1 hy (by omega);obtain⟨f2,q1,q2⟩:=zH h ts h2 r2 DE (by omega);refine⟨f1++f2,by rw[List.flatMap_append];exact .cons p1 q1,λb hb=> ?_⟩;simp only[XG];rcases Ac.1 hb with hb|hb
   ·exact(p2 b hb).mono λt ht=>by simp[ht]
   ·exact(q2 b hb).mono λt ht=>by simp[ht]
  ·cases ho
end
section
variable {P:Program} {c:Cx} {n:Nat} {a:Act} {τ:St}
theorem zDn(h:Rel c n (BX τ) (AR τ.hp) a){t:TypeId}{b o:Nat}{ty:TypeId}{g:Bool}{cs:List SV}{s:SV}{v:Value}(BC:DI P t=true)(hl:AR τ.hp b=some (.box ty g cs))(Bi:QI P t cs o=some s)(hr:SR c [.cw b o] [v]):
  ∃q u,v= .pointer (some ⟨q,o,none⟩)/\(loadVar t ⟨q,o,none⟩).run P c.w= .ok u c.w/\SR c [s] [u]:=by
 cases hr with
 |cw h1 h2 h8=>
  rename_i q;obtain⟨q',C,_,e2,e3,e4,e5,e5',e6⟩:=h.ents b _ (by rw[hl];rfl);rw[h2]at e2;cases e2;have key:∀vs:List Value,(Ap P t=true->vs.length=P.cellsOf t)->(Ap P t=false->vs.length=1)->(∀j u,vs[j]?=some u->c.w.cell? ⟨q,o+j,none⟩=some u)->(loadVar t ⟨q,o,none⟩).run P c.w= .ok (if Ap P t then .agg vs.toArray else vs.headD undef) c.w:=λvs k1 k2 k3=>by have:=S4 (P:=P) (w:=c.w) (b:=q) (off:=o) BC vs k1 k2 k3;simpa[Instr.loadAt,Instr.sureAddr]using this
  unfold QI at Bi;have hlen:=e6.len;split at Bi
  ·rename_i AM;split at Bi
   ·rename_i hle;simp at Bi;subst Bi;obtain⟨r1,r2⟩:=e6.split o;obtain⟨r3,r4⟩:=r2.split (P.cellsOf t);have:=SR.agg (cs:=BV.of ((cs.drop o).take (P.cellsOf t))) (λu hu=>e5' u (BM (BA hu))) (by rw[BV.ay];exact r3) .nil;refine⟨q, .agg ((C.toList.drop o).take (P.cellsOf t)).toArray,rfl,?_,this⟩;rw[key ((C.toList.drop o).take (P.cellsOf t)) (λ_=>by simp at hlen ⊢;omega) (λh=>by rw[AM]at h;cases h) (λj u hu=>by
     rw[EU e5];rw[List.getElem?_take]at hu;split at hu
     ·simpa using hu
     ·cases hu)]
    simp[AM]
   ·cases Bi
  ·rename_i AM;have AM:Ap P t=false:=by simpa using AM
   obtain⟨u,hu,r⟩:=e6.get Bi;refine⟨q,u,rfl,?_,r⟩;rw[key [u] (λh=>by rw[AM]at h;cases h) (λ_=>rfl) (λj z hz=>by
    cases j with
    |zero=>simp at hz;subst hz;rw[EU e5];simpa using hu
    |succ j=>simp at hz)]
   simp[AM]
theorem yP{α:Type}{g:α->Sem Value}{w:World}:∀(l:List α) (us:List Value),l.length=us.length->(∀(i:Nat) (x:α) (u:Value),l[i]?=some x->us[i]?=some u->(g x).run P w= .ok u w)->(l.mapM g).run P w= .ok us w
 | [],[],_,_=>by simp
 | [],_::_,h,_=>by simp at h
 |_::_,[],h,_=>by simp at h
 |x::l,u::us,h,hg=>by have h0:=hg 0 x u rfl rfl;have ih:=yP l us (by simpa using h) λi y z hy hz=>hg (i+1) y z (by simpa using hy) (by simpa using hz);simp[List.mapM_cons,h0,ih]
theorem zvZ(h:Rel c n (BX τ) (AR τ.hp) a)(fn:Func){rs:List SV}(FO:fn.results.toList.mapM (Tq P τ)=some rs):
  ∃us,SR c rs us/\rs.length=us.length/\(results fn a.tmps).run P c.w= .ok (match us with| [u]=>u|us=> .tuple us.toArray) c.w:=by
 have one:∀(r:ResultVar) (s:SV),Tq P τ r=some s-> ∃u,SR c [s] [u]/\(match r with| .tmp t=>(pure (a.tmps.getD t undef):Sem Value)| .cell b t=>do loadVar t (<-asAddr (a.tmps.getD b undef))).run P c.w= .ok u c.w:=by
  intro r s hr;cases r with
  |tmp t=>simp only[Tq,Ad]at hr;subst hr;exact⟨_,h.db t,by simp⟩
  |cell b ty=>
   simp only[Tq]at hr;split at hr
   ·rename_i b' o Dw;split at hr
    ·rename_i ty' g cs hl;split at hr
     ·rename_i BC;have hs:=h.db b;rw[Dw]at hs;obtain⟨q,u,hv,AW,Mh⟩:=zDn h BC hl hr hs;exact⟨u,Mh,by simp only[hv];simp[asAddr,AW]⟩
     ·cases hr
    ·cases hr
   ·cases hr
 have list:∀(l:List ResultVar) (rs:List SV),l.mapM (Tq P τ)=some rs-> ∃us,SR c rs us/\l.length=us.length/\ ∀(i:Nat) (x:ResultVar) (u:Value),l[i]?=some x->us[i]?=some u->(match x with| .tmp t=>(pure (a.tmps.getD t undef):Sem Value)| .cell b t=>do loadVar t (<-asAddr (a.tmps.getD b undef))).run P c.w= .ok u c.w:=by
  intro l
  induction l with
  |nil=>intro rs FO;simp at FO;subst FO;exact⟨[], .nil,rfl,by simp⟩
  |cons r l ih=>
   intro rs FO;rw[List.mapM_cons]at FO;simp only[Option.bind_eq_bind,Ax,Option.pure_def,Ad]at FO;obtain⟨s,hs,rs',gM,rfl⟩:=FO;obtain⟨u,h1,h2⟩:=one r s hs;obtain⟨us,h3,h4,h5⟩:=ih rs' gM;refine⟨u::us,h1.cons h3,by simp[h4],λi x v hx hv=> ?_⟩;cases i with
   |zero=>simp at hx hv;subst hx;subst hv;exact h2
   |succ i=>exact h5 i x v (by simpa using hx) (by simpa using hv)
 obtain⟨us,h1,h2,h3⟩:=list _ _ FO;refine⟨us,h1,h1.len,?_⟩;have hm:=yP (P:=P) (w:=c.w) fn.results.toList us h2 h3;simp only[results,Array.mapM_eq_mapM_toList,map_eq_pure_bind,Sem.run_bind]
 erw [hm]
 simp only[Result.andThen_ok,Sem.run_pure]
 match us with
 | []=>simp
 | [u]=>simp
 |u::v::us=>simp
theorem nU(h:Rel c n (BX τ) (AR τ.hp) a){w0:World}{v:Value}{ms:List PM}{vs:List Value}(Fb:∀t,c.A.pin t=H0 ms vs t){i:Nat}(hi:i<=99){own0:List Bool}(hv:vs[i]?=some v)(hm:(ms[i]?).getD .ro= .mu own0){mk:Nat->E}:∀(ts:List TypeId) (j:Nat) {fl:List Bool} {us:List Value} {ys:List AV} {rf hs:List Nat} {es:List E} {l:List Nat},
  CA P w0 ts fl us ys rf hs->j+ts.length<=400->(∀k u,us[k]?=some u->(∃e,(0+j+k,e)∈(Dg P 0 (D9 (.var 0) true) j ts fl).2)->v.cells[j+k]?=some u)->Vo P τ i mk j ts fl=some (es,l)-> ∃f o,FG P c.w ts fl us (es.map (E.den c.ρ)) f o/\(o=l.flatMap λt=>(c.G t).top)/\ ∀b∈f,c.ok b
 | [],j,fl,us,ys,rf,hs,es,l,hc,hle,B6,he=>by simp[Vo]at he;obtain⟨rfl,rfl⟩:=he;cases hc;exact⟨[],[], .nil,rfl,by simp⟩
 |t::ts,j,fl,us,ys,rf,hs,es,l,hc,hle,B6,he=>by
  unfold Vo at he;split at he
  ·cases he
  rename_i xs us' DB;simp only[Bk]at hle;have sub:∀{u:Value} {us1:List Value},us=u::us1-> ∀k z,us1[k]?=some z->(∃e,(0+(j+1)+k,e)∈(Dg P 0 (D9 (.var 0) true) (j+1) ts fl.tail).2)->v.cells[j+1+k]?=some z:=by
   rintro u us1 rfl k z hz ⟨e,he⟩;have:=B6 (k+1) z (by simpa using hz) ⟨e,by
    simp only[Dg];split
    ·rw[show 0+j+(k+1)=0+(j+1)+k from by omega];exact List.mem_cons_of_mem _ he
    ·rw[show 0+j+(k+1)=0+(j+1)+k from by omega];exact he⟩
   rw[show j+1+k=j+(k+1)from by omega];exact this
  have fin:∀{u:Value} {us1:List Value} {ys1:List AV} {rf1 BR:List Nat} {el:TypeId},us=u::us1->fl.headD false=true->C3 P t=some el->CA P w0 ts fl.tail us1 ys1 rf1 BR-> ∃f o,FG P c.w (t::ts) fl us (es.map (E.den c.ρ)) f o/\(o=l.flatMap λt=>(c.G t).top)/\ ∀b∈f,c.ok b:=by
   rintro u us1 ys1 rf1 BR el rfl h1 h2 h4;obtain⟨f0,o,q1,q2,q3⟩:=nU h Fb hi hv hm ts (j+1) h4 (by omega) (sub rfl) DB;rw[h1,h2]at he;simp only at he;have QT:v.cells[j]?=some u:=by have:=B6 0 u rfl ⟨_,by simp only[Dg,h1,h2,Nat.zero_add,Nat.add_zero];exact List.mem_cons_self ..⟩;simpa using this
   have X3:c.A.pin (1000*i+500+j)=some u:=by
    rw[Fb];unfold H0;have e1:(1000*i+500+j)/1000=i:=by omega
    have e2:(1000*i+500+j) % 1000=500+j:=by omega
    rw[if_pos (by unfold OJ;simp only[e2,Ab,AJ,Bool.or_eq_true];omega),e1,e2,hv,hm];simp only;rw[if_pos (by omega),show 500+j-500=j from by omega];exact QT
   split at he
   ·rename_i e' z y' d hu;split at he
    ·rename_i hh;obtain⟨rfl,rfl,Hs⟩:=hh;simp only[Ad,A4]at he;obtain⟨rfl,rfl⟩:=he;obtain⟨p1,N,p2,p3,p4⟩:=zT h hu;have hH:=(h.base.pins _ u X3).2 p1;rw[hH]at p2;refine⟨_,_, .own h1 h2 (zyN p4 Hs) p2 q1,by simp[q2],λb hb=> ?_⟩;rcases Ac.1 hb with hb|hb
     ·exact p3 b hb
     ·exact q3 b hb
    ·cases he
   ·rename_i e' z dl ep y' hu;split at he
    ·rename_i hh;obtain⟨GM,D1⟩:=hh;have D1:=N8 D1;simp only[Ad,A4]at he;obtain⟨rfl,rfl⟩:=he;obtain⟨p1,_,_,p2,_⟩:=h.ents _ _ (by rw[hu];rfl);have hH:=(h.base.pins _ u X3).2 p1;rw[hH]at p2;refine⟨_,_, .deep h1 h2 GM D1 p2 q1,by simp[q2],q3⟩
    ·cases he
   ·cases he
  cases hc with
  |own h1 h2 _ _ h4=>exact fin rfl h1 h2 h4
  |deep h1 h2 _ _ _ h4=>exact fin rfl h1 h2 h4
  | @rd _ _ _ u us1 y ys1 f rf1 BR h1 h3 h4=>
   obtain⟨f0,o,q1,q2,q3⟩:=nU h Fb hi hv hm ts (j+1) h4 (by omega) (sub rfl) DB;split at he
   ·rename_i e hf BE;rw[h1 hf]at BE;cases BE
   ·simp only[Ad,A4]at he;obtain⟨rfl,rfl⟩:=he;exact⟨f0,o, .skip h1 q1,q2,q3⟩
end
section
variable {P:Program} {c:Cx} {n:Nat} {a:Act} {τ:St}
theorem zO(h:Rel c n (BX τ) (AR τ.hp) a){w0:World}{ms0:List PM}{vs0:List Value}(Fb:∀t,c.A.pin t=H0 ms0 vs0 t):∀(ts:List TypeId) (i:Nat) {ms:List PM} {lo:List Bool} {vs:List Value} {xs:List AV} {rf lf hs:List Nat} {bx:List E} {us:List Nat},Xg P τ i ts ms=some (bx,us)->D8 P w0 ts ms lo vs xs rf lf hs->
  (∀k,ms[k]?=ms0[i+k]?)->(∀k,vs[k]?=vs0[i+k]?)-> ∃f o,D7 P c.w ts ms vs (bx.map (E.den c.ρ)) f o/\o=us.flatMap (λt=>(c.G t).top)/\ ∀b∈f,c.ek (QK P τ i ts ms) b
 | [],i,ms,lo,vs,xs,rf,lf,hs,bx,us,he,ha,_,_=>by simp[Xg]at he;obtain⟨rfl,rfl⟩:=he;exact⟨[],[], .nil,rfl,by simp⟩
 |t::ts,i,ms,lo,vs,xs,rf,lf,hs,bx,us,he,ha,E8,Lg=>by
  obtain⟨v,vs,x,xs,f,hh,rf,lf,hs,rfl,Fc,Bu⟩:∃v vs' x xs' f hh rf' lf' Bh,vs=v::vs'/\D8 P w0 ts ms.tail lo.tail vs' xs' rf' lf' Bh/\(jM P w0 t (ms.headD .ro) v x f hh\/ms.headD .ro= .ro):=by
   cases ha with
   |cons h1 h2=>exact⟨_,_,_,_,_,_,_,_,_,rfl,h2, .inl h1⟩
   | @lent _ _ _ _ _ _ x _ _ _ _ _ h1 h2 h3 h4=>exact⟨_,_,x,_,[],[],_,_,_,rfl,h4, .inr h2⟩
  have Ct:ms.headD .ro=(ms0[i]?).getD .ro:=by have:=E8 0;rw[Nat.add_zero]at this;rw[<-this];cases ms<;>rfl
  have Pw:vs0[i]?=some v:=by have:=Lg 0;simpa using this.symm
  unfold Xg at he;split at he
  ·cases he
  rename_i bx' us' DB;obtain⟨f2,o2,b1,b2,b3⟩:=zO h Fb ts (i+1) DB Fc (λk=>by rw[show i+1+k=i+(k+1)from by omega,<-E8 (k+1)];cases ms<;>simp) (λk=>by rw[show i+1+k=i+(k+1)from by omega,<-Lg (k+1)];simp);have see2:∀b∈f2,c.ek (QK P τ i (t::ts) ms) b:=λb hb=>(b3 b hb).mono λt ht=>by simp only[QK,Ac];exact .inr ht
  split at he
  ·cases he
  rename_i hi;split at he
  ·rename_i hm;simp only[Ad,A4]at he;obtain⟨rfl,rfl⟩:=he;exact⟨f2,o2, .ro hm b1,b2,see2⟩
  ·rename_i own hm;simp only[Ad,A4]at he;obtain⟨rfl,rfl⟩:=he;exact⟨f2,o2, .va hm b1,b2,see2⟩
  ·rename_i own hm;split at he
   ·cases he
   rename_i hle;split at he
   ·rename_i es l GJ;simp only[Ad,A4]at he;obtain⟨rfl,rfl⟩:=he;rw[hm]at Bu;obtain⟨us0,ys0,hg,hc⟩:=Bu.resolve_right λh=>by cases h
    obtain⟨f1,o1,q1,q2,q3⟩:=nU h Fb (i:=i) (by omega) Pw (by rw[<-Ct];exact hm) (Bl P t) 0 hc (by omega) (λk u hu he=>by
     rw[Nat.zero_add];split at hg
     ·obtain⟨rfl,_,_⟩:=hg;simpa[Value.cells]using hu
     ·obtain⟨rfl,_⟩:=hg;cases k with
      |zero=>simp at hu;subst hu;rw[hc.ig (nx:=0) (mk:=D9 (.var 0) true) (j:=0) 0 v rfl he];rfl
      |succ k=>simp at hu) GJ
    refine⟨f1++f2,o1++o2,D7.mu (us:=us0) (ys:=es.map (E.den c.ρ)) hm ?_ q1 b1,by rw[q2,b2,List.flatMap_append],λb hb=>(Ac.1 hb).elim (λhb=> .inl (q3 b hb)) (see2 b)⟩;split at hg
    ·rename_i AM;rw[if_pos AM,if_pos AM];exact⟨hg.1,by simp only[E.den,EL.dq]⟩
    ·rename_i AM;rw[if_neg AM,if_neg AM];obtain⟨rfl,_⟩:=hg;refine⟨rfl,?_⟩;have mlen:∀{ts:List TypeId} {fl:List Bool} {us:List Value} {ys:List AV} {f o:List Nat},FG P c.w ts fl us ys f o->us.length=ys.length:=by
      intro ts fl us ys f o UO
      induction UO<;>simp_all
     have:=mlen q1
     match es,this with
     | [e],_=>rfl
   ·cases he
  ·rename_i own own' hm;rw[hm]at Bu;obtain⟨ty,b,C0,ys0,h9,g1,rfl,g3,g4,rfl,g6,rfl⟩:=Bu.resolve_right λh=>by cases h
   split at he
   ·rename_i ty1 ty2 g cs EJ IV;rw[g1]at EJ;cases EJ;split at he
    ·cases he
    rename_i A9;have A9:ty2=ty:=by simpa using A9
    subst A9;split at he
    ·rename_i es vs' IY gZ;simp only[Ad,A4]at he;obtain⟨rfl,rfl⟩:=he;obtain⟨b',C,p1,p2,p3,p4,p5,p6,p7⟩:=h.ents _ _ (by rw[IV];rfl);have X3:c.A.pin (1000*i)=some (.pointer (some ⟨b,0,none⟩)):=by
      rw[Fb];unfold H0;have e1:(1000*i)/1000=i:=by omega
      have e2:(1000*i) % 1000=0:=by omega
      rw[if_pos (by unfold OJ;simp only[e2,Ab,AJ,Bool.or_eq_true];simp;omega),e1,e2,Pw,<-Ct,hm];rfl
     have hH:=(h.base.pins _ _ X3).2 p1;rw[p2]at hH;cases hH;obtain⟨f1,q1,q2⟩:=aM (P:=P) h (Bl P ty2) gZ p7 IY (AQ _);refine⟨f1++f2,_,D7.bx hm g1 rfl p5 p6 (by simp only[E.den]) q1 b1,by rw[b2];simp[p3],λx hx=> ?_⟩;rcases Ac.1 hx with hx|hx
     ·refine(q2 x hx).mono λt ht=> ?_;simp only[QK,hm,g1,IV,Ac];exact .inl ht
     ·exact see2 x hx
    ·cases he
   ·cases he
end
theorem nN{P:Program}:∀(ts:List TypeId) (i:Nat) (ms:List PM) (lo:List Bool) (ss:List SV) (l:List (Nat × Ah)),Oc P i ts ms lo=some (ss,l)-> ∀t x,(t,x)∈l-> ∀gs f,x≠ .gd gs f
 | [],i,ms,lo,ss,l,h,t,x,hx=>by simp[Oc]at h;obtain⟨_,rfl⟩:=h;simp at hx
 |t0::ts,i,ms,lo,ss,l,h,t,x,hx=>by
  unfold Oc at h;split at h
  ·rename_i s1 l1 ss1 l2 q1 q2;simp only[Ad,A4]at h;obtain⟨_,rfl⟩:=h;rcases Ac.1 hx with hx|hx
   ·have hV:∀(b:Nat) (own:List Bool),TX P i b t0 own=some (s1,l1)-> ∀gs f,x≠ .gd gs f:=by
     intro b own hh;unfold TX at hh;simp only at hh;split at hh
     ·cases hh
     ·split at hh
      ·simp only[Ad,A4]at hh;obtain⟨_,rfl⟩:=hh;intro gs f;exact P9 _ _ _ _ _ hx
      ·split at hh
       ·simp only[Ad,A4]at hh;obtain⟨_,rfl⟩:=hh;intro gs f;exact P9 _ _ _ _ _ hx
       ·cases hh
    unfold dB at q1;split at q1
    ·simp only[Ad,A4]at q1;rw[<-q1.2]at hx;simp at hx
    ·exact hV _ _ q1
    ·exact hV _ _ q1
    ·split at q1
     ·simp only at q1;split at q1
      ·cases q1
      ·simp only[Ad,A4]at q1;obtain⟨_,rfl⟩:=q1;rcases Ae.1 hx with hx|hx
       ·cases hx;simp
       ·intro gs f;exact P9 _ _ _ _ _ hx
     ·cases q1
   ·exact nN _ _ _ _ _ _ q2 t x hx
  ·cases h
theorem zDo{P:Program}{sg:B4}(fU:P.follows .mixedOrders=true)(Kt:∀f s,sg f=some s->f<1000000){f:Nat}{s:Hn}{fn:Func}{t:Tr}{xs:List AV}{r:AV}(IZ:P.funcs[f]?=some fn)(hs:sg f=some s) (GK:(fn.name== "runtime.NumGoroutine")=false)
  (E0:VD P sg f=some t) (Cd:Oi P fn s r=true) (hlen:xs.length=fn.params.size+fn.nfree) (hd:t.den (Cr P sg) (λr'=>r'=r) (λ_ _ _ _=>False) [] xs):T7 P s f xs r:=by
 unfold VD at E0;simp only[IZ,hs]at E0;split at E0
 ·rename_i code σ Ev BN;split at E0
  ·rename_i t0 hex;have CB:s.ft.length<=fn.nfree:=by
    have BN:=BN;unfold rJ at BN;split at BN
    ·cases BN
    ·simp only at BN;split at BN
     ·cases BN
     ·rename_i AG;simp only[Bool.or_eq_true,AJ,not_or,Nat.not_lt]at AG;exact AG.2
   refine⟨fn,IZ,by rw[Ev];rfl,GK,Cd,hlen,CB,λw vs rf lf Bh Aj GF Ka Hx Ed=> ?_⟩;unfold rJ at BN;split at BN
   ·cases BN
   rename_i ss l B5;simp only at BN;split at BN
   ·cases BN
   rename_i AG;simp only[Bool.or_eq_true,AJ,not_or,Nat.not_lt]at AG;simp only[Ad]at BN;subst BN;let pin:Nat->Option Value:=H0 s.cf vs;let LO:Value->AV->Prop:=λv y=> ∃f,Rd w [v] [y] f/\ ∀b∈f,¬b∈Bh;let c0:Cx:={ρ:=xs,w:=w,G:=λ_=>⟨[],[]⟩,K:=λ_ _=>False,H:=λ_ _=>undef,A:=⟨λb=>b∈rf,pin,LO⟩,w0:=w,Mu:=λb=>b∈Bh,U:=λ_=>False,E:=λ_=>0}
   have EK:vs.length=xs.length:=by
    have:∀{ts:List TypeId} {ms:List PM} {lo:List Bool} {vs:List Value} {xs:List AV} {rf lf hs:List Nat},D8 P w ts ms lo vs xs rf lf hs->vs.length=xs.length:=by
     intro ts ms lo vs xs rf lf hs h
     induction h<;>simp_all
    exact this Aj
   obtain⟨recs,e1,e2,e3,e4,e5,e6,e7,e8⟩:=ztl (c:=c0) (ms0:=s.cf) (vs0:=vs) (fn.params.toList++s.ft) 0 B5 Aj (λk x hx=>by simp only[E.den,Nat.zero_add];show(xs[k]?).getD .undef=x;rw[hx];rfl) (λk=>by simp) (λk=>by simp);have aft:=Cx.dr (c:=c0) (w':=w) (recs:=recs) (λt g hk=>hk.elim) e4 (λr _ _ h=>h);have r7:∀r∈recs,r.tag<100000:=λr hr=>by have:=e3 r hr;simp only[Nat.zero_add,AF,BL]at this;omega
   let c:Cx:={c0.du w recs with U:=λt=>t<100000}
   have Up:∀b∈rf,(c0.du w recs).ok b:=by
    intro b hb;refine⟨λ⟨t,ht⟩=> ?_, .inl hb⟩;by_cases hT:∃r∈recs,r.tag=t
    ·obtain⟨r,hr,rfl⟩:=hT;rw[Cx.dy e4 hr]at ht;exact GF b (by rw[<-e2];exact List.mem_flatMap.2 ⟨r,hr,ht⟩) hb
    ·rw[Cx.df λr hr hh=>hT ⟨r,hr,hh⟩]at ht;simp[c0]at ht
   have BZ:∀(k:Nat) (v:Value) (x:AV),(s.cf[k]?).getD .ro= .ro->vs[k]?=some v->xs[k]?=some x->LO v x:=by
    have key:∀{ts:List TypeId} {ms:List PM} {lo:List Bool} {vs:List Value} {xs:List AV} {rf lf hs:List Nat},D8 P w ts ms lo vs xs rf lf hs-> ∀(k:Nat) (v:Value) (x:AV),(ms[k]?).getD .ro= .ro->vs[k]?=some v->xs[k]?=some x-> ∃f,Rd w [v] [x] f/\ ∀b∈f,b∈rf\/b∈lf:=by
     intro ts ms lo vs xs rf lf hs h
     induction h with
     |nil=>intro k v x _ h _;simp at h
     | @cons t ts ms lo v vs x xs f h rf lf hs Bu _ ih=>
      intro k v' x' h1 h2 h3;cases k with
      |zero=>
       have hm:ms.headD .ro= .ro:=by cases ms<;>exact h1
       rw[hm]at Bu;simp at h2 h3;subst h2;subst h3;exact⟨f,Bu.1,λb hb=> .inl (by simp[hb])⟩
      |succ k=>obtain⟨f',q1,q2⟩:=ih k v' x' (by cases ms with|nil=>rfl|cons _ _=>simpa using h1) (by simpa using h2) (by simpa using h3);exact⟨f',q1,λb hb=>(q2 b hb).imp (λh=>by simp[h]) id⟩
     | @lent t ts ms lo v vs x xs f rf lf hs _ _ hr _ ih=>
      intro k v' x' h1 h2 h3;cases k with
      |zero=>simp at h2 h3;subst h2;subst h3;exact⟨f,hr,λb hb=> .inr (by simp[hb])⟩
      |succ k=>obtain⟨f',q1,q2⟩:=ih k v' x' (by cases ms with|nil=>rfl|cons _ _=>simpa using h1) (by simpa using h2) (by simpa using h3);exact⟨f',q1,λb hb=>(q2 b hb).imp id (λh=>by simp[h])⟩
     | @free ms lo v vs x xs f rf lf hs hr _ ih=>
      intro k v' x' h1 h2 h3;cases k with
      |zero=>simp at h2 h3;subst h2;subst h3;exact⟨f,hr,λb hb=> .inl (by simp[hb])⟩
      |succ k=>obtain⟨f',q1,q2⟩:=ih k v' x' (by cases ms with|nil=>rfl|cons _ _=>simpa using h1) (by simpa using h2) (by simpa using h3);exact⟨f',q1,λb hb=>(q2 b hb).imp (λh=>by simp[h]) id⟩
    intro k v x h1 h2 h3;obtain⟨f,q1,q2⟩:=key Aj k v x h1 h2 h3;exact⟨f,q1,λb hb hh=>(q2 b hb).elim (GF b hh) (Ka b hh)⟩
   obtain⟨g1,g2⟩:=e8 _ aft Up BZ;have kc:Ej (c0.du w recs) c:=⟨rfl,rfl,λ_ _ hb=>hb,λ_ _ _=>rfl,λ_ _ hk=>⟨hk,rfl⟩,λ_ _ _=>⟨AQ _,λ_=>⟨rfl,λ_ _ _=>rfl⟩⟩⟩
   have Jz:fn.params.size+fn.nfree=vs.length:=by rw[EK,hlen]
   have GR:(ss++(List.range (fn.nfree-s.ft.length)).map λj=>SV.e (.var (fn.params.size+s.ft.length+j))).length=vs.length:=by rw[AF,e6,List.length_map,List.length_range,AF,BL];omega
   have g1':SR c (ss++(List.range (fn.nfree-s.ft.length)).map λj=>SV.e (.var (fn.params.size+s.ft.length+j))) vs:=by
    have:=g1.keep kc;have GQ:(fn.params.toList++s.ft).length=fn.params.size+s.ft.length:=by rw[AF,BL]
    rw[show vs.length-(fn.params.toList++s.ft).length=fn.nfree-s.ft.length from by omega]at this;simpa using this
   have hG:∀t,(∃r∈recs,r.tag=t/\c.G t=⟨r.top,[]⟩)\/c.G t=⟨[],[]⟩:=λt=>by
    by_cases hT:∃r∈recs,r.tag=t
    ·obtain⟨r,hr,rfl⟩:=hT;exact .inl ⟨r,hr,rfl,Cx.dy (w':=w) e4 hr⟩
    ·exact .inr (Cx.df (w':=w) λr hr hh=>hT ⟨r,hr,hh⟩)
   have Hv:∀r∈recs,∀b∈r.top,b∈Bh:=λr hr b hb=>by rw[<-e2];exact List.mem_flatMap.2 ⟨r,hr,hb⟩
   have E6:∀b∈Bh,b<w.heap.size:=by
    have:∀{ts:List TypeId} {ms:List PM} {lo:List Bool} {vs:List Value} {xs:List AV} {rf lf hs:List Nat},D8 P w ts ms lo vs xs rf lf hs-> ∀b∈hs,b<w.heap.size:=by
     intro ts ms lo vs xs rf lf hs h
     induction h with
     |nil=>simp
     |lent _ _ _ _ ih=>exact ih
     | @cons t ts ms lo v vs x xs f h rf lf hs Bu _ ih=>
      intro b hb;rcases Ac.1 hb with hb|hb
      ·cases hm:ms.headD .ro with
       |ro=>rw[hm]at Bu;rw[Bu.2]at hb;simp at hb
       |va own=>rw[hm]at Bu;obtain⟨_,_,_,hc⟩:=Bu;exact hc.inb.2 b hb
       |mu own=>rw[hm]at Bu;obtain⟨_,_,_,hc⟩:=Bu;exact hc.inb.2 b hb
       |bx own own'=>
        rw[hm]at Bu;obtain⟨_,b0,_,_,_,_,_,hh,_,_,hc,rfl⟩:=Bu;rcases Ae.1 hb with rfl|hb
        ·exact Dh hh
        ·exact hc.inb.2 b hb
      ·exact ih b hb
     |free _ _ ih=>exact ih
    exact this Aj
   have Bd:∀t e,AR l t=some e-> ∃r∈recs,r.tag=t/\r.bu=e:=λt e he=>by have:=JO he;rw[e1]at this;obtain⟨r,hr,U0⟩:=List.mem_map.1 this;simp only[A3.pair,A4]at U0;exact⟨r,hr,U0.1,U0.2⟩
   let F:Fix:=⟨w,⟨λb=>b∈rf,pin,LO⟩,λb=>b∈Bh,λt v h=>by
    simp only[pin,H0]at h;split at h
    ·assumption
    ·cases h⟩
   have hrel:Rel c fn.ntmps (BX {sl:=ss++(List.range (fn.nfree-s.ft.length)).map (λj=>SV.e (.var (fn.params.size+s.ft.length+j)))++List.replicate (fn.ntmps-(fn.params.size+fn.nfree)) .undef,hp:=l,nx:=100000,nv:=fn.params.size+fn.nfree}) (AR l) {tmps:=vs.toArray++Array.replicate (fn.ntmps-vs.toArray.size) undef,defers:=[]}:=by
    refine⟨rfl,by simp;omega,⟨rfl,rfl,rfl,AQ _,λt v hp=>⟨?_,λhk=> ?_⟩,λb _ _=>rfl,Ed,λv y h=>h⟩,λi=> ?_,λt e hr=> ?_,λt hn=> ?_,⟨λt=> ?_,λt u Nx b hb Cq=> ?_,λt b hb=> ?_,λt b hb=> ?_⟩,λt g hk=> ?_,λt e he=> ?_⟩
    ·have:=F.mg t v hp;unfold OJ at this;simp only[Ab,AJ]at this;exact this.1
    ·rcases hk with hk|⟨r,hr,rfl,Bm,_⟩
     ·exact hk.elim
     ·exact(aft.new r hr v (e5 r hr v hp)).2.2
    ·have eE:SR c (ss++(List.range (fn.nfree-s.ft.length)).map (λj=>SV.e (.var (fn.params.size+s.ft.length+j)))++List.replicate (fn.ntmps-(fn.params.size+fn.nfree)) .undef) (vs++List.replicate (fn.ntmps-(fn.params.size+fn.nfree)) undef):=by
      refine g1'.app ?_;have:∀k,SR c (List.replicate k SV.undef) (List.replicate k undef):=by
       intro k
       induction k with
       |zero=>exact .nil
       |succ k ih=>exact .undef ih
      exact this _
     unfold BX;simp only;cases hq:(ss++(List.range (fn.nfree-s.ft.length)).map (λj=>SV.e (.var (fn.params.size+s.ft.length+j)))++List.replicate (fn.ntmps-(fn.params.size+fn.nfree)) SV.undef)[i]? with
     |none=>exact .undef .nil
     |some s'=>
      obtain⟨v',gY,Mh⟩:=eE.get hq;have:(vs.toArray++Array.replicate (fn.ntmps-vs.toArray.size) undef).getD i undef=v':=by
       rw[Array.getD_eq_getD_getElem?];have e:(vs.toArray++Array.replicate (fn.ntmps-vs.toArray.size) undef)[i]?=(vs++List.replicate (fn.ntmps-(fn.params.size+fn.nfree)) undef)[i]?:=by rw[<-Array.getElem?_toList];simp[Jz]
       rw[e,gY];rfl
      rw[this];exact Mh
    ·cases hh:AR l t with
     |none=>rw[hh]at hr;exact hr.elim
     |some e0=>
      obtain⟨r,CN,rfl,rfl⟩:=Bd t e0 hh;have BN:=(g2 r CN).keep kc rfl rfl (λg hg=>hg) (λb _=>rfl);rw[hh]at hr;cases he:r.bu with
      |gd gs e'=>rw[he]at BN hr;obtain⟨_,rfl⟩:=hr;have Bm:=(e3 r CN).2.2;exfalso;exact nN _ _ _ _ _ _ B5 r.tag r.bu (by rw[e1];exact List.mem_map.2 ⟨r,CN,rfl⟩) _ _ he
      |_=>rw[he]at BN hr;simp only[CR]at hr;subst hr;exact BN
    ·rcases hG t with⟨r,hr,rfl,hg⟩|hg
     ·exfalso;have EF:(r.tag,r.bu)∈l:=by rw[e1];exact List.mem_map.2 ⟨r,hr,rfl⟩
      have:∃e,AR l r.tag=some e:=by
       have:∀(l:List (Nat × Ah)),(r.tag,r.bu)∈l-> ∃e,AR l r.tag=some e:=by
        intro l
        induction l with
        |nil=>intro h;simp at h
        |cons p l ih=>
         obtain⟨u,f'⟩:=p;intro h;simp only[AR];split
         ·exact⟨_,rfl⟩
         ·rename_i hu;rcases Ae.1 h with h|h
          ·cases h;exact absurd rfl hu
          ·exact ih h
       exact this l EF
      obtain⟨e,he⟩:=this;obtain⟨r',CN,Nu,rfl⟩:=Bd _ _ he;have QU:∀gs f',r'.bu≠ .gd gs f':=by intro gs f' CG;exact nN _ _ _ _ _ _ B5 r'.tag r'.bu (by rw[e1];exact List.mem_map.2 ⟨r',CN,rfl⟩) _ _ CG
      apply hn r'.bu;rw[he];cases gK:r'.bu with
      |gd gs f'=>exact absurd gK (QU gs f')
      |_=>simp[CR]
     ·rw[hg];simp
    ·rcases hG t with⟨r,hr,rfl,hg⟩|hg
     ·rw[hg];rw[<-e2]at Hx;simpa[GI.own]using(WD Hx).1 r hr
     ·rw[hg];simp[GI.own]
    ·rcases hG t with⟨r,hr,rfl,hg⟩|hg
     ·rcases hG u with⟨q,hq,rfl,CG⟩|CG
      ·rw[hg]at hb;rw[CG]at Cq;simp only[GI.own,AE]at hb Cq;rw[<-e2]at Hx;obtain⟨i,hi⟩:=List.getElem?_of_mem hr;obtain⟨j,hj⟩:=List.getElem?_of_mem hq;have:=(WD Hx).2 i j r q b hi hj hb Cq;subst this;rw[hi]at hj;cases hj;exact Nx rfl
      ·rw[CG]at Cq;simp[GI.own]at Cq
     ·rw[hg]at hb;simp[GI.own]at hb
    ·rcases hG t with⟨r,hr,rfl,hg⟩|hg
     ·rw[hg]at hb;simp only[GI.own,AE]at hb;exact .inr (Hv r hr b hb)
     ·rw[hg]at hb;simp[GI.own]at hb
    ·rcases hG t with⟨r,hr,rfl,hg⟩|hg
     ·rw[hg]at hb;simp only[GI.own,AE]at hb;exact E6 b (Hv r hr b hb)
     ·rw[hg]at hb;simp[GI.own]at hb
    ·rcases hk with hk|⟨r,hr,rfl,_⟩
     ·exact hk.elim
     ·exact r7 r hr
    ·obtain⟨r,hr,rfl,_⟩:=Bd t e he;exact r7 r hr
   have Uj:Hi F xs {sl:=ss++(List.range (fn.nfree-s.ft.length)).map (λj=>SV.e (.var (fn.params.size+s.ft.length+j)))++List.replicate (fn.ntmps-(fn.params.size+fn.nfree)) .undef,hp:=l,nx:=100000,nv:=fn.params.size+fn.nfree} {tmps:=vs.toArray++Array.replicate (fn.ntmps-vs.toArray.size) undef,defers:=[]} w:=by
    refine⟨c,rfl,rfl,rfl,rfl,rfl,hlen,λt ht=>ht,?_⟩;have hl:(ss++(List.range (fn.nfree-s.ft.length)).map (λj=>SV.e (.var (fn.params.size+s.ft.length+j)))++List.replicate (fn.ntmps-(fn.params.size+fn.nfree)) SV.undef).length=fn.ntmps:=by rw[AF,GR,List.length_replicate];omega
    show Rel c (ss++(List.range (fn.nfree-s.ft.length)).map (λj=>SV.e (.var (fn.params.size+s.ft.length+j)))++List.replicate (fn.ntmps-(fn.params.size+fn.nfree)) SV.undef).length _ _ _;rw[hl];exact hrel
   refine calls_of_wp IZ Ev ?_;have rW:K5 (λ_ _ _ _=>False):=λ_ _ _ _ _ _ h=>h;have XX:=Tr.ey _ rW t0 E0 hd;refine zzN (zCu fU (zG9 (sg:={sg with dp:=s.dp,wn:=s.wn,fz:=s.fz}) Kt) zGd) zCY code [] _ _ t0 hex F (λr'=>r'=r) _ [] xs _ w (WK rW _ _) XX Uj _ λi x τ ρ' a' w' hp hl Dp=> ?_;obtain⟨tr,d',q1,q2,q3⟩:=hl;have main:Yg P fn s τ=some tr->a'.defers=[]/\ ∃v,(results fn a'.tmps).run P w'= .ok v w'/\ ∃v',Ending.returned v= .returned v'/\jO P fn s w vs rf Bh r v' w':=by
    intro EE;obtain⟨c2,rfl,rfl,k1,k2,k3,k4,k5,k6⟩:=Dp;unfold Yg at EE;split at EE
    ·rename_i rs bx us FO XV;split at EE
     ·rename_i es vs' IY gE;split at EE
      ·cases EE
      rename_i Us;simp only[Bool.or_eq_true,Be,not_or,Bool.not_eq_false,Bool.not_eq_true]at Us;obtain⟨Cb,Jy⟩:=Us;have Cb:=Tg Cb;simp only[Ad]at EE;subst EE;have hr:_=r:=q3;obtain⟨rvs,z1,z2,z3⟩:=zvZ k6 fn FO;obtain⟨f1,y1,y2⟩:=zH (P:=P) k6 (Dz fn s) gE z1 IY (AQ _);obtain⟨f2,o2,x1,x2,x3⟩:=zO (P:=P) k6 (w0:=w) (ms0:=s.cf) (vs0:=vs) (λt=>by rw[k2]) (fn.params.toList++s.ft) 0 XV Aj (λk=>by simp) (λk=>by simp);refine⟨k6.defers,_,z3,_,rfl,⟨?_,?_⟩⟩
      ·
       have hR:∃R,R=(match es with| .cons x .nil=>x|es=>E.tup es).den c2.ρ/\Ll P c2.w (Dz fn s) s.res (match rvs with| [u]=>u|us=> .tuple us.toArray) R f1 (vs'.flatMap λt=>(c2.G t).top):=by
        refine⟨_,rfl,?_⟩;have yl:es.den c2.ρ=es.den c2.ρ:=rfl;generalize U9:(Dz fn s)=ts at y1 ⊢;generalize Cu:es.den c2.ρ=ys at y1;generalize (vs'.flatMap λt=>(c2.G t).top)=o1 at y1 ⊢;cases y1 with
        |nil=>
         cases es with
         |nil=>exact⟨[],[],rfl,by simp[E.den,EL.den], .nil⟩
         |cons e es=>simp[EL.den]at Cu
        | @cons t ts fl v vs2 x xs2 f h rf2 Bi w1 w2=>
         cases w2 with
         |nil=>
          cases es with
          |nil=>simp[EL.den]at Cu
          |cons e es=>
           cases es with
           |nil=>simp only[EL.den,List.cons.injEq,and_true]at Cu;subst Cu;simpa[Ll]using w1
           |cons e2 es=>simp[EL.den]at Cu
         | @cons t2 ts2 fl2 v2 vs3 x2 xs3 f2' h2 rf3 HB w3 w4=>
          cases es with
          |nil=>simp[EL.den]at Cu
          |cons e es=>
           cases es with
           |nil=>simp[EL.den]at Cu
           |cons e2 es=>refine⟨v::v2::vs3,x::x2::xs3,rfl,?_, .cons w1 (.cons w3 w4)⟩;simp only[E.den,Cu]
       obtain⟨R,hR1,Ui⟩:=hR;have Bq:∀b∈(vs'.flatMap λt=>(c2.G t).top)++o2,∃t∈vs'++us,b∈(c2.G t).top:=λb hb=>by
        rcases Ac.1 hb with hb|hb
        ·obtain⟨t,ht,CX⟩:=List.mem_flatMap.1 hb;exact⟨t,by simp[ht],CX⟩
        ·rw[x2]at hb;obtain⟨t,ht,CX⟩:=List.mem_flatMap.1 hb;exact⟨t,by simp[ht],CX⟩
       have J7:∀b t,b∈(c2.G t).top->b∈Bh\/w.heap.size<=b:=λb t hb=>by
        rcases k6.gw.allow t b (by simp[GI.own,hb])with h|h
        ·simp only[Cx.B,k1]at h;exact .inr h
        ·rw[k3]at h;exact .inl h
       refine⟨R,bx.map (E.den c2.ρ),f1,_,f2,o2,?_,Ui,x1,?_,λb hb=> ?_,λb hb=> ?_⟩
       ·rw[<-hr,hR1];cases bx with
        |nil=>rfl
        |cons b bx=>simp only[List.isEmpty_cons,Bj,if_false,E.den,EL.dq,List.map_cons];rfl
       ·rw[x2,<-List.flatMap_append];have:∀l:List Nat,l.Nodup->(l.flatMap λt=>(c2.G t).top).Nodup:=by
         intro l
         induction l with
         |nil=>intro _;simp
         |cons t l ih=>intro hl;rw[List.nodup_cons]at hl;rw[List.flatMap_cons,List.nodup_append];refine⟨(List.nodup_append.1 (k6.gw.nodup t)).1,ih hl.2,λx hx y hy HC=> ?_⟩;subst HC;obtain⟨u,hu,hY⟩:=List.mem_flatMap.1 hy;exact k6.gw.cy t u (λhh=>hl.1 (hh▸hu)) x (by simp[GI.own,hx]) (by simp[GI.own,hY])
        exact this _ Cb
       ·obtain⟨t,ht,CX⟩:=Bq b hb;exact⟨J7 b t CX,k6.gw.inb t b (by simp[GI.own,CX])⟩
       ·have I9:c2.ek (XG P τ (Dz fn s) s.res rs++QK P τ 0 (fn.params.toList++s.ft) s.cf) b:=by
         rcases Ac.1 hb with hb|hb
         ·exact(y2 b hb).mono λt ht=>by simp[ht]
         ·exact(x3 b hb).mono λt ht=>by simp[ht]
        rcases I9 with A5|⟨t,ht,CX⟩
        ·refine⟨λho=> ?_,?_⟩
         ·obtain⟨u,_,IW⟩:=Bq b ho;exact A5.1 ⟨u,IW⟩
         ·rcases A5.2 with h|h|h
          ·rw[k2]at h;exact .inl h
          ·simp only[Cx.B,k1]at h;exact .inr (.inr h)
          ·rw[k3]at h;exact .inr (.inl h)
        ·refine⟨λho=> ?_, .inr (J7 b t CX)⟩;obtain⟨u,hu,IW⟩:=Bq b ho;have Nx:t≠u:=by
          rintro rfl;rw[List.any_eq_false]at Jy;have:=Jy t ht;simp only[List.contains_eq_mem,AJ]at this;exact this hu
         exact k6.gw.cy t u Nx b (by simp[GI.own,CX]) (by simp[GI.own,IW])
      ·have hb:=k6.base;refine⟨?_,?_,?_,?_,λk hk hn=> ?_⟩
       ·rw[hb.os,k1]
       ·rw[hb.tape,k1]
       ·rw[hb.output,k1]
       ·have:=hb.size;rw[k1]at this;exact this
       ·have:=hb.block k (by rw[k1];exact hk) (by rw[k3];exact hn);rw[k1]at this;exact this
     ·cases EE
    ·cases EE
   cases x with
   |normal=>exact main q1
   |ret=>exact main q1
   |exit id=>cases q1
  ·cases E0
 ·cases E0
end
end Go.Proofs.YtalagilebkaegaaGreat

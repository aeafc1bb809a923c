/- Parts of a proof, joined: VX, WB, WC, WD, WE, WF, WG, WH, WI, WJ, WK, WL, WM, WN, WO. -/
import Derived.Test.YteeafhlnofapaaaJ3
import Derived.Orders
import Derived.Lib.SliceRun
import Derived.Laws.Slices
import Derived.Laws.MakeOwn
import Derived.Laws.StructEq
set_option linter.unusedVariables false
set_option linter.unusedSimpArgs false
namespace Go.Proofs.Yteeafhlnofapaaa
open Go.RowKit
section
section
variable {P:Program} {c:Cx} {n nx:Nat} {sl sl0:Nat->SV} {hp hp0:Nat->Option Ab} {a:Act} {o:Oper} {gs:Gd} {e:AO} {sg:Br} {nv:Nat}
def Cx.dt(c:Cx)(w':World)(t:Nat)(O:List Nat):Cx:={c with w:=w',G:=λu=>if u=t then⟨(c.G t).top,O⟩else c.G u,E:=λu=>if u=t then c.E u+1 else c.E u}
theorem Rel.gn(h:Rel c n sl hp a){t:Nat}{e0:Ab}{b:Nat}{w':World}{O:List Nat}(AK:B9 c.ρ (hp t) e0)(BU:b∈(c.G t).top)(hO:O=[]\/O=(c.G t).O)(hm:Mod [b] c.w w')(BK:w'.heap.size=c.w.heap.size)(e1:Ab)(BE:∀hs f,e1≠ .gd hs f)
  (he:C6 c (c.dt w' t O)->CF (c.dt w' t O) t e1):
  Rel (c.dt w' t O) n sl (AT hp [(t,e1)]) a:=by
 have A9:b∈(c.G t).own:=by simp[GI.own,BU]
 have hG:∀u,(c.dt w' t O).G u=if u=t then⟨(c.G t).top,O⟩else c.G u:=λu=>rfl;have DU:∀u,((c.dt w' t O).G u).top=(c.G u).top:=by
  intro u;rw[hG];split
  ·rename_i hu;rw[hu]
  ·rfl
 have Bu:∀u,∀q∈((c.dt w' t O).G u).own,q∈(c.G u).own:=by
  intro u q hq;rw[hG]at hq;split at hq
  ·rename_i hu;subst hu;simp only[GI.own,Ae]at hq ⊢;rcases hq with hq|hq
   ·exact .inl hq
   ·rcases hO with rfl|rfl
    ·simp at hq
    ·exact .inr hq
  ·exact hq
 have By:C6 c (c.dt w' t O):=by
  refine⟨rfl,rfl,λq _ hq=>⟨λ⟨u,hu⟩=>hq.1 ⟨u,by rw[DU]at hu;exact hu⟩,hq.2⟩,λq hq AF=>hm.block q hq ?_,λu g hu=>⟨hu,rfl⟩,λu g hu=> ?_⟩
  ·simp only[List.mem_singleton];rintro rfl;exact AF.1 ⟨t,BU⟩
  ·by_cases Fj:u=t
   ·have e1:(c.dt w' t O).E u=c.E u+1:=by simp only[Cx.dt,if_pos Fj]
    exact⟨by omega,λh=>by omega⟩
   ·have e1:(c.dt w' t O).E u=c.E u:=by simp only[Cx.dt,if_neg Fj]
    have e2:(c.dt w' t O).G u=c.G u:=by simp only[Cx.dt,if_neg Fj]
    rw[e1];refine⟨Ax _,λ_=>⟨e2,λq hq GQ=>hm.block q GQ ?_⟩⟩;simp only[List.mem_singleton];rintro rfl;exact h.gw.bm t u (Ne.symm Fj) q A9 (by simp[GI.own,hq])
 have Df:∀u,AT hp [(t,e1)] u=if u=t then some e1 else hp u:=λu=>rfl;refine h.change (λu=>u=t) By ⟨hm.os.trans h.base.os,hm.tape.trans h.base.tape,hm.output.trans h.base.output,Nat.le_trans h.base.size hm.size,h.base.pins,λq hq E1=> ?_,h.base.pk,h.base.lo⟩
  (λu hu=>⟨by rw[Df,if_neg hu],by rw[hG,if_neg hu],by simp[Cx.dt,hu],λg hg=>hg⟩) (λu hu q hq=>hm.block q (h.gw.inb u q (by simp[GI.own,hq])) ?_) (λu hu=> ?_) ⟨λu=> ?_,λu v TX q hq IJ=>h.gw.bm u v TX q (Bu u q hq) (Bu v q IJ),λu q hq=>h.gw.allow u q (Bu u q hq),λu q hq=> ?_⟩ h.az (λu f hf=> ?_)
 ·refine(hm.block q (Nat.lt_of_lt_of_le hq h.base.size) ?_).trans (h.base.block q hq E1);simp only[List.mem_singleton];rintro rfl;rcases h.gw.allow t q A9 with hh|hh
  ·exact absurd hh (Nat.not_le.2 hq)
  ·exact E1 hh
 ·simp only[List.mem_singleton];rintro rfl;exact h.gw.bm t u (Ne.symm hu) q A9 (by simp[GI.own,hq])
 ·subst hu;rw[Df,if_pos rfl];refine⟨λe' hr=> ?_,λhn=> ?_⟩
  ·cases e1<;>first
    |(simp only[B9]at hr;subst hr;exact he By)
    |exact absurd rfl (BE _ _)
  ·cases e1<;>first
    |exact absurd rfl (BE _ _)
    |exact absurd rfl (hn _)
 ·rw[hG];split
  ·rename_i hu;subst hu;have h0:=h.gw.nodup u;simp only[GI.own]at h0 ⊢;rcases hO with rfl|rfl
   ·rw[AG];exact(List.nodup_append.1 h0).1
   ·exact h0
  ·exact h.gw.nodup u
 ·show q<w'.heap.size;rw[BK];exact h.gw.inb u q (Bu u q hq)
 ·rw[Df]at hf;split at hf
  ·rename_i hu;subst hu;cases hh:hp u with
   |none=>rw[hh]at AK;exact AK.elim
   |some e9=>exact h.bw u e9 hh
  ·exact h.bw u f hf
theorem Mf{α:Type}(L vs:List α)(p m:Nat)(h:p+vs.length<=m)(hm:m<=L.length):(setVs L p vs).take m=setVs (L.take m) p vs:=by
 apply List.ext_getElem?;intro j;have hl:(L.take m).length=m:=by rw[AU];omega
 rw[List.getElem?_take,Ml (L.take m) vs p (by omega) j,Ml L vs p (by omega) j,List.getElem?_take];by_cases h1:p<=j/\j<p+vs.length
 ·rw[if_pos (by omega),if_pos h1,if_pos h1]
 ·rw[if_neg h1,if_neg h1]
theorem Rd.setVs{w:World}{L V:List Value}{X Y:List AV}{N f:List Nat}{p:Nat}(h:Rd w L X N)(k:Rd w V Y f)(hp:p+V.length<=L.length):
  ∃n1 n2 n3,N=n1++n2++n3/\Rd w (Go.Proofs.Yteeafhlnofapaaa.setVs L p V) (Go.Proofs.Yteeafhlnofapaaa.setVs X p Y) (n1++f++n3)/\Rd w ((L.drop p).take V.length) ((X.drop p).take V.length) n2:=by
 have hl:=h.len;have hk:=k.len;have e1:L=L.take p++((L.drop p).take V.length++L.drop (p+V.length)):=by rw[<-List.drop_drop,BB,BB]
 have e2:X=X.take p++((X.drop p).take V.length++X.drop (p+V.length)):=by rw[<-List.drop_drop,BB,BB]
 have h':=h;rw[e1,e2]at h';obtain⟨n1,m,rfl,g1,g2⟩:=Rd.cy (by simp;omega) h';obtain⟨n2,n3,rfl,g3,g4⟩:=Rd.cy (by simp;omega) g2;refine⟨n1,n2,n3,by simp,?_,g3⟩;unfold Go.Proofs.Yteeafhlnofapaaa.setVs;rw[<-hk];exact(g1.app k).app g4
theorem Rz{sz:Nat}:∀(ys:List AV) (k:Nat) (z y:AV) (o:Nat) (vc:List AV),(∀y∈ys,y.cells.length=sz)->ys[k]?=some y->o+vc.length<=sz->z.cells=setVs y.cells o vc->Ar (ys.set k z)=setVs (Ar ys) (k*sz+o) vc
 | [],k,z,y,o,vc,_,h,_,_=>by simp at h
 |q::ys,0,z,y,o,vc,hs,h,ho,hz=>by simp at h;subst h;have hq:=hs q (by simp);simp only[Ar,List.set_cons_zero,List.flatMap_cons,Nat.zero_mul,Nat.zero_add,hz];unfold setVs;rw[List.take_append_of_le_length (by omega),List.drop_append_of_le_length (by omega)];simp
 |q::ys,k+1,z,y,o,vc,hs,h,ho,hz=>by
  have hq:=hs q (by simp);have ih:=Rz ys k z y o vc (λu hu=>hs u (by simp[hu])) (by simpa using h) ho hz;simp only[Ar,List.set_cons_succ,List.flatMap_cons]at ih ⊢;rw[ih];unfold setVs;have e0:(k+1)*sz+o=q.cells.length+(k*sz+o):=by rw[hq,Nat.add_mul];omega
  rw[e0,List.take_length_add_append,Nat.add_assoc (q.cells.length),List.drop_length_add_append];simp
theorem UR{y x:AV}{k:Nat}{g:Bool}(hx:(∀cs,x≠ .agg cs)\/g=true)(hy:g=false->y.cells.length=1/\k=0/\x.cells=[x]):(y.ct k x g).cells=setVs y.cells k x.cells:=by
 cases g with
 |true=>simp[AV.ct,AV.cells,setVs]
 |false=>obtain⟨h1,h2,h3⟩:=hy rfl;subst h2;simp only[AV.ct,h3,setVs];rw[if_neg (by simp)];rw[h3];simp only[List.take_zero,List.nil_append,AQ,List.length_nil,Nat.zero_add];rw[List.drop_eq_nil_of_le (by omega)];simp
theorem gC(h:A1 P c n nx sl hp a sl0 hp0 o gs){t:TypeId}{x y:Operand}(ho:o.op= .store t x y){b g:Nat}{ix:E}{sz k:Nat}{s:SV}(CB:∃e z g c d,Cw hp0 gs b=some (.row e z g c d))(hx:Bc sl0 gs x=some (.br b g ix sz k))(hy:Bc sl0 gs y=some s)
  (he:JZ P hp0 gs t (.br b g ix sz k) s=some e) (hc:∀q∈e.bu,Cn.den c.ρ q):Ao P o c n nx sl hp gs a e:=by
 have r1:=h.bz hx (by simp[ho,Op.operands]);have r2:=h.bz hy (by simp[ho,Op.operands]);simp only[JZ]at he;split at he
 ·rename_i el sz' g' c0 d hl;split at he
  ·rename_i hh;obtain⟨rfl,rfl,rfl,AX,hle,EA,Dp⟩:=hh;split at he
   ·rename_i xe fz dx ck BZ;split at he
    ·cases he
    rename_i DN;simp only[Aa]at he;subst he;have DN:∀f,(b,f)∉fz:=λf hf=>DN (by simp only[List.contains_eq_mem,Au];exact List.mem_map.2 ⟨_,hf,rfl⟩);obtain⟨f,q1,q2,⟨ts,q3⟩,q5⟩:=XN h.rel h.hp h.gs r2 BZ (λq hq=>hc q (by simp[hq]));obtain⟨q3,q4⟩:=q3;have AK:=I4 h.hp (Cc hl h.gs);have CG:=h.rel.freeze h.hp h.gs q3;have JH:B9 (c.a6 (fz.map (·.1))).ρ (AT hp fz b) (.row el sz g c0 d):=by rw[I0 DN];exact AK
    obtain⟨e1,e2,N,e3,e4,e5,e6⟩:=CG.ents b _ JH;obtain⟨o1,o2,o3,o4⟩:=U4 (P:=P) q1 Dp q5;generalize hv:a.eval x=v at r1;cases r1 with
    |br k1 k2 k3 k4 k5 _=>
     rename_i m len cap kk kv k6;obtain⟨xs,p1,p2,p3,pcase⟩:=e3;have p1':c0.den c.ρ= .sl xs:=p1;rcases pcase with⟨_,⟨_,pv⟩,_⟩|⟨g9,cap9,C,pv,p4,p5,p6,p7,p8,p9,p10⟩
     ·exfalso;have:c.H b g=_:=pv;rw[k2]at this;cases this;omega
     ·have pv':c.H b g= .slice (some ⟨g9,0,none⟩) xs.length cap9:=pv;rw[k2]at pv';simp only[Value.slice.injEq,Aa,Addr.mk.injEq,and_true]at pv';obtain⟨rfl,rfl,rfl⟩:=pv';have Gv:kv.toNat<xs.length:=by omega
      have E5:=J5 Gv;generalize GX:(AV.sl xs).nth kv.toNat=yk at E5;have EG:=p2 yk (List.mem_of_getElem? E5);have Fb:(a.eval y).cells.toList.length=P.cellsOf t:=by simpa using o4
      have hmul:(kv.toNat+1)*sz<=xs.length*sz:=Bo _ (by omega);have CX:C.toList.length=cap*sz:=by simpa using p7
      have DM:xs.length*sz<=cap*sz:=Bo _ p4;rw[Nat.add_mul]at hmul;have p6':c.w.heap[m]?=some (.cells C el (0,0)):=p6;obtain⟨m1,m2,m3⟩:=Q9 (vs:=(a.eval y).cells.toList) p6' (show(kv.toNat*sz+k)+_<=C.size by rw[Fb,p7];omega);have KH:(C.toList.take (xs.length*sz)).length=xs.length*sz:=by rw[AU,CX];omega
      obtain⟨n1,n2,n3,hN,s1,s2⟩:=Rd.setVs (p:=kv.toNat*sz+k) p10 o1 (by rw[KH,Fb];omega);have ED:∀z,z<c.w.heap.size->(c.a6 (fz.map (·.1))).ok z->(putCells c.w m (kv.toNat*sz+k) (a.eval y).cells.toList).heap[z]?=c.w.heap[z]?:=by intro z hz AF;refine m1.block z hz ?_;simp only[List.mem_singleton];rintro rfl;exact AF.1 ⟨b,by rw[p8];simp⟩
      have BO:(d&&dx)=true->n2=[]/\f=[]:=by
       intro D2;have bS:Cn.den c.ρ (.flat (.fld (.idx c0 ix) k (P.cellsOf t) (Ag P t)) (P.cellsOf t) (Ag P t)):=hc _ (by simp[D2]);obtain⟨f1,f2,f3,f4⟩:=bS;simp only[Ad]at D2;refine⟨?_,q2 D2.2⟩;have KQ:((Ar xs).drop (kv.toNat*sz+k)).take (a.eval y).cells.toList.length=(yk.cells.drop k).take (P.cellsOf t):=by rw[Fb];exact O3 xs p2 _ _ E5 k (P.cellsOf t) hle
       rw[KQ]at s2;have BN:(E.fld (.idx c0 ix) k (P.cellsOf t) (Ag P t)).den c.ρ=yk.fld k (P.cellsOf t) (Ag P t):=by simp only[E.den,p1',k3,AV.idx,GX]
       rw[BN]at f2;refine F9 s2 ?_;cases hg:Ag P t with
       |true=>rw[hg]at f2;simpa[AV.fld,AV.cells]using f2
       |false=>
        have h1:P.cellsOf t=1:=by rcases Dp with h'|h';rw[hg]at h';cases h';exact h'
        rw[BN]at f4;have f4:=f4 hg;rw[hg]at f4;have AE:k<yk.cells.length:=by omega
        rw[h1,A7 AE,List.take_succ_cons,List.take_zero];simp only[List.mem_singleton,forall_eq];simpa[AV.fld,AE]using f4
      have hz:(yk.ct k (xe.den c.ρ) (Ag P el)).cells=setVs yk.cells k (xe.den c.ρ).cells:=by
       refine UR ?_ (λhg=> ?_)
       ·cases hg:Ag P el with
        |true=>exact .inr rfl
        |false=>
         left;rcases EA with h'|⟨_,h'⟩
         ·rw[hg]at h';cases h'
         ·have h':Ag P t=false:=by simpa using h'
          rw[h']at q5;exact λcs=>(q5.1 cs)
       ·rcases EA with h'|⟨h1,h'⟩
        ·rw[hg]at h';cases h'
        ·have h':Ag P t=false:=by simpa using h'
         rw[h']at q5;have Nu:P.cellsOf t=1:=by rcases Dp with h2|h2;rw[h']at h2;cases h2;exact h2
         refine⟨by omega,by omega,?_⟩;cases T0:xe.den c.ρ<;>first|rfl|exact absurd T0 (q5.1 _)
      have DI:Ar (xs.set kv.toNat (yk.ct k (xe.den c.ρ) (Ag P el)))=setVs (Ar xs) (kv.toNat*sz+k) (xe.den c.ρ).cells:=
       Rz xs _ _ yk k _ p2 E5 (by rw[o3];exact hle) hz
      have Da:=CG.gn (t:=b) (b:=m) (w':=putCells c.w m (kv.toNat*sz+k) (a.eval y).cells.toList) (O:=if(d&&dx)=true then((c.a6 (fz.map (·.1))).G b).O else []) JH (by rw[p8];simp) (by split;exact .inr rfl;exact .inl rfl) m1 m3
       (.row el sz g (.set c0 ix (.put (.idx c0 ix) k xe (Ag P el))) (d&&dx)) (by intros;simp) (λFi=>by
        have EW:∀z∈n1++f++n3,(c.a6 (fz.map (·.1))).ok z:=by
         intro z hz;simp only[Ae]at hz;rcases hz with(hz|hz)|hz
         ·exact e4 z (by rw[hN];simp[hz])
         ·exact q4 z hz
         ·exact e4 z (by rw[hN];simp[hz])
        have Ni:∀z∈n1++f++n3,z<c.w.heap.size:=s1.inb;refine⟨e1,e2,n1++f++n3,⟨xs.set kv.toNat (yk.ct k (xe.den c.ρ) (Ag P el)),?_,λz T6=> ?_,p3, .inr ⟨m,cap,_,?_,by simpa using p4,p5,m2,?_,?_,?_,?_⟩⟩,λz hz=>Fi.ok z (Ni z hz) (EW z hz),λD2=> ?_,λD2=> ?_⟩
        ·show AV.cu (c0.den c.ρ) (ix.den c.ρ) (((c0.den c.ρ).idx (ix.den c.ρ)).ct k (xe.den c.ρ) (Ag P el))=_;rw[p1',k3];simp only[AV.idx,GX,AV.cu]
        ·rcases List.mem_or_eq_of_mem_set T6 with T6|rfl
         ·exact p2 z T6
         ·rw[hz,Mh _ _ _ (by rw[o3,EG];exact hle)];exact EG
        ·rw[List.length_set];exact k2
        ·rw[List.size_toArray,Mh _ _ _ (by rw[Fb,CX];omega),BF];exact p7
        ·simpa[Cx.dt]using p8
        ·simp only[List.length_set,List.toList_toArray];rw[Mf _ _ _ _ (by rw[Fb];omega) (by rw[CX];omega)];intro u hu;unfold setVs at hu;simp only[Ae]at hu;rcases hu with(hu|hu)|hu
         ·exact p9 u (BA hu)
         ·exact o2 u hu
         ·exact p9 u (B2 hu)
        ·simp only[List.length_set,List.toList_toArray];rw[Mf _ _ _ _ (by rw[Fb];omega) (by rw[CX];omega),DI];exact s1.frame λz hz=>ED z (Ni z hz) (EW z hz)
        ·obtain⟨z1,z2⟩:=BO D2;have hd:d=true:=by simp only[Ad]at D2;exact D2.1
         obtain⟨u1,u2⟩:=e5 hd;have P5:n1++f++n3=N:=by rw[hN,z1,z2]
         rw[P5];refine⟨u1.frame λz hz=>ED z (p10.inb z hz) (e4 z hz),?_⟩;simp only[Cx.dt,if_true,D2];exact u2
        ·simp[Cx.dt,D2])
      intro next Q hk
      unfold Oper.wp;have hr:(execOp a.eval o).run P c.w= .ok .skip (putCells c.w m (kv.toNat*sz+k) (a.eval y).cells.toList):=by have:=UI (P:=P) (t:=t) (v:=a.eval y) (off:=kv.toNat*sz+k) p6' AX o4 (by rw[o4,p7];omega) o2;simp[execOp,ho,hv,this]
      rw[hr,Oper.upon_skip];refine hk _ ((c.a6 (fz.map (·.1))).dt (putCells c.w m (kv.toNat*sz+k) (a.eval y).cells.toList) b (if(d&&dx)=true then((c.a6 (fz.map (·.1))).G b).O else [])) ⟨rfl,rfl,rfl,rfl,λt ht=> .inl ht⟩ ?_;have:=Da.put (v:=Go.undef) ((SR.undef .nil).mkGd []) o.dst;rw[Ll];exact this
   ·cases he
  ·cases he
 all_goals (rename_i hl;obtain⟨_,_,_,_,_,Bd⟩:=CB;first|(rw[Bd]at hl;cases hl;done)|exact absurd Bd (hl _ _ _ _ _)|cases he)
end
def Ib(a:Act)(o:Oper):Bool:=match o.op with| .binOp _ _ x _ _=>(match a.eval x with| .slice none _ _=>true|_=>false)|_=>false
section
variable (P:Program) (sg:Br) (Rt:Nat->List AV->AV->Prop)
def LI:Prop:= ∀(c:Cx) (n nx:Nat) (sl:Nat->SV) (hp:Nat->Option Ab) (a:Act) (sl0:Nat->SV) (hp0:Nat->Option Ab) (o:Oper) (gs:Gd) (e:AO) (nv:Nat),A1 P c n nx sl hp a sl0 hp0 o gs-> ¬c.U (nx+999)->Jd P sg sl0 hp0 nv nx gs o=some e->
 (∀q∈e.bu,q.den c.ρ)->(∀cl,e.call=some cl-> ∃r,c.ρ[nv]?=some r/\GG Rt cl.fn ((EL.of cl.args).den c.ρ) c.ρ r)->(∀x,e.bc=some x->c.ρ[nv]?=some (.bool (Ib a o)))->Ao P o c n nx sl hp gs a e
def PL:Prop:= ∀(c:Cx) (n nx:Nat) (sl:Nat->SV) (hp:Nat->Option Ab) (a:Act) (sl0:Nat->SV) (hp0:Nat->Option Ab) (o:Oper) (gs:Gd) (e:AO) (nv:Nat) (x:E),A1 P c n nx sl hp a sl0 hp0 o gs->Jd P sg sl0 hp0 nv nx gs o=some e->e.bc=some x->Ib a o=true->x.den c.ρ= .sl []
end
theorem Ye{hp:Nat->Option Ab}(l:List (Nat × Ab))(t:Nat):(AT hp l t=hp t/\ ∀e,(t,e)∉l)\/ ∃e,(t,e)∈l/\AT hp l t=some e:=by
 induction l generalizing hp with
 |nil=>exact .inl ⟨rfl,by simp⟩
 |cons p l ih=>
  obtain⟨u,f⟩:=p;rcases ih (hp:=λv=>if v=u then some f else hp v)with⟨h1,h2⟩|⟨e,h1,h2⟩
  ·by_cases ht:t=u
   ·subst ht;refine .inr ⟨f,by simp,?_⟩;have:AT hp ((t,f)::l) t=AT (λv=>if v=t then some f else hp v) l t:=rfl;rw[this,h1];simp
   ·refine .inl ⟨?_,λe he=> ?_⟩
    ·have:AT hp ((u,f)::l) t=AT (λv=>if v=u then some f else hp v) l t:=rfl;rw[this,h1,if_neg ht]
    ·rcases Ac.1 he with he|he
     ·cases he;exact ht rfl
     ·exact h2 e he
  ·exact .inr ⟨e,by simp[h1],h2⟩
section
variable {P:Program} {sg:Br} {Rt:Nat->List AV->AV->Prop} {c:Cx} {n nx:Nat} {sl:Nat->SV} {hp:Nat->Option Ab} {a:Act} {ops:Array Oper} {o:Oper} {gs:Gd} {e:AO}
theorem Rel.skip(h:Rel c n sl hp a)(hg: ¬A0 c.ρ gs){l:List (Nat × Ab)}(hl:∀t x,(t,x)∈l->nx<=t/\t<nx+Bl/\ ∃hs y,x= .gd hs y/\Jh gs hs=true)(AM:∀t,nx<=t->t<nx+Bl-> ¬c.U t)(s:SV)(d:Option Nat):
  Rel {c with U:=λt=>c.U t\/(nx<=t/\t<nx+Bl)} n (Ch n sl d (mkGd gs s)) (AT hp l) (a.put d undef):=by
 have hs:SR {c with U:=λt=>c.U t\/(nx<=t/\t<nx+Bl)} [mkGd gs s] [undef]:=by
  cases gs with
  |nil=>exact absurd (DY _) hg
  |cons g gs=>exact .gd (λhh=>absurd hh hg) (λ_=>rfl) .nil
 refine Rel.put ?_ hs d;refine h.change (λt=> ∃x,(t,x)∈l) ⟨rfl,rfl,λ_ _ hb=>hb,λ_ _ _=>rfl,λ_ _ hk=>⟨hk,rfl⟩,λ_ _ _=>⟨Ax _,λ_=>⟨rfl,λ_ _ _=>rfl⟩⟩⟩ ⟨h.base.os,h.base.tape,h.base.output,h.base.size,λt v hp=>⟨.inl (h.base.pins t v hp).1,(h.base.pins t v hp).2⟩,h.base.block,h.base.pk,h.base.lo⟩ (λt ht=> ?_) (λ_ _ _ _=>rfl) (λt ht=> ?_) ⟨h.gw.nodup,h.gw.bm,h.gw.allow,h.gw.inb⟩ (λt g hk=> .inl (h.az t g hk)) (λt x hx=> ?_)
 ·exact⟨I0 λx hx=>ht ⟨x,hx⟩,rfl,rfl,λg hk=>hk⟩
 ·obtain⟨x,hx⟩:=ht;rcases Ye (hp:=hp) l t with⟨_,h2⟩|⟨x',h1,h2⟩
  ·exact absurd hx (h2 x)
  ·obtain⟨q1,q2,hs,y,rfl,Bu⟩:=hl t x' h1;have Di:∀e',¬B9 c.ρ (AT hp l t) e':=by
    rw[h2];exact λe' hr=>hg (RS Bu hr.1)
   refine⟨λe' hr=>absurd hr (Di e'),λ_=>h.off t λe' hr=> ?_⟩;cases hh:hp t with
   |none=>rw[hh]at hr;exact hr.elim
   |some e9=>exact AM t q1 q2 (h.bw t e9 hh)
 ·rcases Ye (hp:=hp) l t with⟨h1,_⟩|⟨x',h1,_⟩
  ·rw[h1]at hx;exact .inl (h.bw t x hx)
  ·obtain⟨q1,q2,_⟩:=hl t x' h1;exact .inr ⟨q1,q2⟩
def P0(ρ:List AV)(ops:Array Oper)(o:Oper)(a:Act):Option Gd->Prop
 |none=>Region.wanted o (yielded ops a.tmps)=false
 |some gs=>(A0 ρ gs->Region.wanted o (yielded ops a.tmps)=true)/\(¬A0 ρ gs->Region.wanted o (yielded ops a.tmps)=false)
theorem Vb{σ:St}{r:Option Gd}(hg:Lk σ ops o=some r)(hs:∀j want d,o.guard=some (j,want)->(ops[j]?).bind (·.dst)=some d->SR c [Bi σ d] [a.tmps.getD d undef]):P0 c.ρ ops o a r:=by
 unfold Lk at hg;cases Fz:o.guard with
 |none=>rw[Fz]at hg;simp only[Aa]at hg;subst hg;exact⟨λ_=>by simp[Region.wanted,Fz],λhn=>absurd (DY _) hn⟩
 |some jw=>
  obtain⟨j,want⟩:=jw;rw[Fz]at hg;simp only at hg;cases hd:(ops[j]?).bind (·.dst)with
  |none=>rw[hd]at hg;simp only[Aa]at hg;subst hg;simp[P0,Region.wanted,Fz,yielded,hd]
  |some d=>
   rw[hd]at hg;simp only at hg;have hr:=hs j want d Fz hd;have hw:∀v,a.tmps.getD d undef=v->Region.wanted o (yielded ops a.tmps)=(match v with| .bool b=>b==want|_=>false):=by
    intro v hv;simp only[Region.wanted,Fz,yielded,hd,Af];rw[Array.getD_eq_getD_getElem?]at hv;cases hq:a.tmps[d]? with
    |none=>rw[hq]at hv;simp at hv;subst hv;simp[undef]
    |some u=>rw[hq]at hv;simp at hv;subst hv;cases u<;>simp
   generalize a.tmps.getD d undef=v at hr hw;have hw:=hw v rfl;have IP:v=undef->Region.wanted o (yielded ops a.tmps)=false:=by rintro rfl;rw[hw];simp[undef]
   have F2:∀x f,Rd c.w [v] [x] f->(x= .bool want->Region.wanted o (yielded ops a.tmps)=true)/\(x≠ .bool want->Region.wanted o (yielded ops a.tmps)=false):=by
    intro x f hx;refine⟨λh=> ?_,λh=> ?_⟩
    ·rw[hw,GB hx h];simp
    ·rw[hw];cases v<;>simp only;rename_i b;cases hx with
     |bool _=>simpa using λhh=>h (by rw[hh])
   split at hg
   ·rename_i b Cy;rw[Cy]at hr;cases hr with
    |e h1 _ _=>
     simp only[Aa]at hg;subst hg;obtain⟨q1,q2⟩:=F2 _ _ h1;simp only[E.den,AV.bool.injEq]at q1 q2;split
     ·rename_i hb;simp only[AA]at hb;exact⟨λ_=>q1 hb,λhn=>absurd (DY _) hn⟩
     ·rename_i hb;simp only[AA]at hb;exact q2 (by simpa using hb)
   ·rename_i x _ Cy;rw[Cy]at hr;cases hr with
    |e h1 _ _=>simp only[Aa]at hg;subst hg;obtain⟨q1,q2⟩:=F2 _ _ h1;exact⟨λhh=>q1 (hh (x,want) (by simp)),λhn=>q2 λhh=>hn (by intro g hg;simp at hg;subst hg;exact hh)⟩
   ·rename_i AY s Cy;rw[Cy]at hr;cases hr with
    |gd h1 h2 _=>
     split at hg
     ·rename_i hf;simp only[Aa]at hg;subst hg;refine IP (h2 λhk=> ?_);simp only[Zq,List.any_eq_true]at hf;obtain⟨g,hg,Tc⟩:=hf;have:=hk g hg;split at Tc
      ·rename_i b hb;rw[hb]at this;simp only[E.den,AV.bool.injEq]at this;simp[this]at Tc
      ·cases Tc
     ·split at hg
      ·rename_i b;simp only[Aa]at hg;subst hg;by_cases hk:A0 c.ρ AY
       ·have h1:=h1 hk;cases h1 with
        |e h1 _ _=>
         obtain⟨q1,q2⟩:=F2 _ _ h1;simp only[E.den,AV.bool.injEq]at q1 q2;split
         ·rename_i hb;simp only[AA]at hb;exact⟨λ_=>q1 hb,λhn=>absurd hk hn⟩
         ·rename_i hb;simp only[AA]at hb;exact q2 (by simpa using hb)
       ·split
        ·exact⟨λhh=>absurd hh hk,λ_=>IP (h2 hk)⟩
        ·exact IP (h2 hk)
      ·rename_i x _;simp only[Aa]at hg;subst hg;by_cases hk:A0 c.ρ AY
       ·have h1:=h1 hk;cases h1 with
        |e h1 _ _=>obtain⟨q1,q2⟩:=F2 _ _ h1;exact⟨λhh=>q1 (hh (x,want) (by simp)),λhn=>q2 λhh=>hn (by intro g hg;rcases Ac.1 hg with rfl|hg;exact hh;exact hk g hg)⟩
       ·exact⟨λhh=>absurd (λg hg=>hh g (by simp[hg])) hk,λ_=>IP (h2 hk)⟩
      ·cases hg
   ·cases hg
theorem Zw(AD:LI P sg Rt){Q:Exit->Act->World->Prop}{K:Act->World->Prop}{i nv:Nat}(hi:ops[i]?=some o)(hrel:Rel c n sl hp a){sl0:Nat->SV}{hp0:Nat->Option Ab}(Fy:P0 c.ρ ops o a (some gs))
  (Cy:∀t,Operand.tmp t∈o.op.operands->sl0 t=sl t) (bZ:∀t e,hp0 t=some e->hp t=some e) (AM:∀t,nx<=t->t<nx+Bl-> ¬c.U t)
  (he:Jd P sg sl0 hp0 nv nx gs o=some e) (A8:gs≠ []-> ∀t x,(t,x)∈e.au->nx<=t/\t<nx+Bl/\ ∃hs y,x= .gd hs y/\Jh gs hs=true)
  (hc:A0 c.ρ gs-> ∀q∈e.bu,q.den c.ρ) (AW:∀cl,e.call=some cl-> ∃r,c.ρ[nv]?=some r/\(A0 c.ρ gs->GG Rt cl.fn ((EL.of cl.args).den c.ρ) c.ρ r)) (Co:∀x,e.bc=some x->A0 c.ρ gs->c.ρ[nv]?=some (.bool (Ib a o)))
  (hK:∀a' c',Kc c c' nx->Rel c' n (Ch n sl o.dst (mkGd gs e.val)) (AT hp e.au) a'->K a' c'.w):wpOp P ops Q i K a c.w:=by
 unfold wpOp;simp only[hi];by_cases hg:A0 c.ρ gs
 ·rw[if_pos (Fy.1 hg)];exact .inl (AD c n nx sl hp a sl0 hp0 o gs e nv ⟨hrel,hg,Cy,bZ,λt h1 h2=>AM t h1 (by simp only[Bl];omega)⟩ (AM _ (by omega) (by simp[Bl])) he (hc hg) (λcl As=>by obtain⟨r,h1,h2⟩:=AW cl As;exact⟨r,h1,h2 hg⟩) (λx hx=>Co x hx hg) _ _ hK)
 ·rw[if_neg (by rw[Fy.2 hg];simp)];have BE:gs≠ []:=by rintro rfl;exact hg (DY _)
  exact hK _ {c with U:=λt=>c.U t\/(nx<=t/\t<nx+Bl)} ⟨rfl,rfl,rfl,rfl,λt ht=>ht⟩ (hrel.skip hg (A8 BE) AM e.val o.dst)
end
def Cx.ext(c:Cx)(τ:List AV):Cx:={c with ρ:=c.ρ++τ}
theorem den_app{ρ τ:List AV}{x:E}(h:x.sc ρ.length=true):x.den (ρ++τ)=x.den ρ:=by have:=E.al ρ τ [] x h;rw[AG]at this;exact this
theorem nI{ρ τ:List AV}{x:EL}(h:x.sc ρ.length=true):x.den (ρ++τ)=x.den ρ:=by have:=EL.al ρ τ [] x h;rw[AG]at this;exact this
theorem IY{ρ τ:List AV}{gs:Gd}(h:PW ρ.length gs=true):A0 (ρ++τ) gs↔A0 ρ gs:=by simp only[PW,Bz]at h;exact⟨λk g hg=>by rw[<-den_app (τ:=τ) (h g hg)];exact k g hg,λk g hg=>by rw[den_app (h g hg)];exact k g hg⟩
theorem Bf.ea{n:Nat}:∀{cs:Bf},cs.sc n=true-> ∀s∈cs.toList,s.sc n=true
 | .nil,_,s,h=>by simp[Bf.toList]at h
 | .cons s cs,h,u,hu=>by
  simp only[Bf.sc,Ad]at h;simp only[Bf.toList,Ac]at hu;rcases hu with rfl|hu
  ·exact h.1
  ·exact Bf.ea h.2 u hu
section
variable {c:Cx} {n:Nat} {sl:Nat->SV} {hp:Nat->Option Ab} {a:Act} {τ:List AV}
theorem GL.ext{t g:Nat}{p:Ki}{v:Value}(hs:(match p with|some q=>q.1.sc c.ρ.length|none=>true)=true)(h:GL c t g p v):GL (c.ext τ) t g p v:=by
 cases p with
 |none=>exact trivial
 |some p=>obtain⟨i,z,o⟩:=p;obtain⟨b,n,cap,C,ty,fz,kk,k,h1,h2,h3,h4,h5⟩:=h;exact⟨b,n,cap,C,ty,fz,kk,k,h1,h2,h3,by show i.den (c.ρ++τ)=_;rw[den_app hs];exact h4,h5⟩
theorem SR.ext{ss:List SV}{vs:List Value}(h:SR c ss vs):(∀s∈ss,s.sc c.ρ.length=true)->SR (c.ext τ) ss vs:=by
 have tl:∀{s:SV} {ss:List SV},(∀x∈s::ss,x.sc c.ρ.length=true)-> ∀x∈ss,x.sc c.ρ.length=true:=λh x hx=>h x (by simp[hx]);have hd:∀{s:SV} {ss:List SV},(∀x∈s::ss,x.sc c.ρ.length=true)->s.sc c.ρ.length=true:=λh=>h _ (by simp);have hρ:(c.ext τ).ρ=c.ρ++τ:=rfl
 induction h with
 |nil=>exact λ_=> .nil
 |undef _ ih=>exact λhs=> .undef (ih (tl hs))
 |e h1 h2 _ ih=>exact λhs=> .e (by rw[hρ,den_app (hd hs)];exact h1) h2 (ih (tl hs))
 |bb _ ih=>exact λhs=> .bb (ih (tl hs))
 |emp _ ih=>exact λhs=> .emp (ih (tl hs))
 |own h1 h2 _ ih=>exact λhs=> .own h1 h2 (ih (tl hs))
 |bj h1 h2 _ ih=>exact λhs=> .bj h1 h2 (ih (tl hs))
 |br h1 h2 h3 h4 h5 _ ih=>exact λhs=> .br h1 h2 (by rw[hρ,den_app (hd hs)];exact h3) h4 h5 (ih (tl hs))
 |cj h1 h2 h3 h4 h5 h6 _ ih=>intro hs;have:=hd hs;simp only[SV.sc,Ad]at this;exact .cj (by rw[hρ,den_app this.1];exact h1) h2 (by rw[hρ,den_app this.2];exact h3) h4 h5 (by rw[hρ,den_app this.1];exact h6) (ih (tl hs))
 |cg h1 h2 _ ih=>exact λhs=> .cg (by rw[hρ,den_app (hd hs)];exact h1) h2 (ih (tl hs))
 |agg h9 _ _ ih1 ih2=>exact λhs=> .agg h9 (ih1 (Bf.ea (hd hs))) (ih2 (tl hs))
 |tup _ _ ih1 ih2=>exact λhs=> .tup (ih1 (Bf.ea (hd hs))) (ih2 (tl hs))
 |fn _ _ ih1 ih2=>exact λhs=> .fn (ih1 (Bf.ea (hd hs))) (ih2 (tl hs))
 |gd _ h2 _ ih1 ih2=>intro hs;have:=hd hs;simp only[SV.sc,Ad]at this;exact .gd (λhg=>ih1 ((IY this.1).1 hg) (by simpa using this.2)) (λhg=>h2 λk=>hg ((IY this.1).2 k)) (ih2 (tl hs))
 | @via t g n p x v ss vs h1 h2 h3 _ ih=>intro hs;have:=hd hs;simp only[SV.sc,Ad]at this;refine .via h1 h2 (λhe=> ?_) (ih (tl hs));obtain⟨q1,q2⟩:=h3 he;exact⟨by rw[hρ,den_app this.2];exact q1,GL.ext (τ:=τ) this.1 q2⟩
 | @vptr t g n p x i sz o v ss vs h1 h2 h3 _ ih=>intro hs;have:=hd hs;simp only[SV.sc,Ad]at this;refine .vptr h1 h2 (λhe=> ?_) (ih (tl hs));obtain⟨b,off,len,cap,kk,k,q1,q2,q3,q4,q5,q6,q7⟩:=h3 he;exact⟨b,off,len,cap,kk,k,by rw[hρ,den_app this.1.2];exact q1,GL.ext (τ:=τ) this.1.1 q2,by rw[hρ,den_app this.2];exact q3,q4,q5,by rw[hρ,den_app this.1.2];exact q6,q7⟩
 |wown h1 h2 h3 h4 h5 h6 _ ih=>exact λhs=> .wown h1 h2 (by rw[hρ,den_app (hd hs)];exact h3) h4 h5 h6 (ih (tl hs))
 | @lent i _ _ _ h1 _ ih=>exact λhs=> .lent (by rw[hρ,den_app (x:= .var i) (by simpa[SV.sc,E.sc]using hd hs)];exact h1) (ih (tl hs))
theorem CF.ext{t:Nat}{e:Ab}(h:CF c t e)(hs:e.sc c.ρ.length=true):CF (c.ext τ) t e:=by
 have hρ:(c.ext τ).ρ=c.ρ++τ:=rfl;cases e with
 |box ty g cs=>obtain⟨b,C,h1,h2,h3,h4,h5,h6,h7⟩:=h;exact⟨b,C,h1,h2,h3,h4,h5,h6,h7.ext (by simpa[Ab.sc]using hs)⟩
 |row ety sz g x d=>obtain⟨h1,h2,N,h3,h4,h5⟩:=h;exact⟨h1,h2,N,by rw[hρ,den_app hs];exact h3,h4,h5⟩
 |a6 g x=>obtain⟨h1,⟨f,h2,h3⟩,h4⟩:=h;exact⟨h1,⟨f,by rw[hρ,den_app hs];exact h2,h3⟩,h4⟩
 |gd gs e=>exact h
 |dead=>exact h
 |deep e z l g ep x=>obtain⟨h1,h2,h3,h4,h5⟩:=h;exact⟨h1,h2,h3,by rw[hρ,den_app hs];exact h4,h5⟩
 |hol e z l g ep x i o u=>simp only[Ab.sc,Ad]at hs;obtain⟨h1,h2,h3,h4,h5⟩:=h;exact⟨h1,h2,h3,by rw[hρ,den_app hs.1,den_app hs.2];exact h4,h5⟩
 |pre e z l g ep x k=>simp only[Ab.sc,Ad]at hs;obtain⟨h1,h2,h3,h4,h5⟩:=h;exact⟨h1,h2,h3,by rw[hρ,den_app hs.1,den_app hs.2];exact h4,h5⟩
theorem nT{ρ:List AV}{e0 e:Ab}(hs:e0.sc ρ.length=true):B9 (ρ++τ) (some e0) e↔B9 ρ (some e0) e:=by
 cases e0 with
 |gd gs x=>simp only[Ab.sc,Ad]at hs;simp only[B9];rw[IY hs.1]
 |_=>simp[B9]
theorem Rel.ext(h:Rel c n sl hp a)(h1:∀i,(sl i).sc c.ρ.length=true)(h2:∀t e,hp t=some e->e.sc c.ρ.length=true)(τ:List AV):Rel (c.ext τ) n sl hp a:=by
 have key:∀t e,B9 (c.ρ++τ) (hp t) e↔B9 c.ρ (hp t) e:=by
  intro t e;cases hh:hp t with
  |none=>exact Iff.rfl
  |some e0=>exact nT (h2 t e0 hh)
 refine⟨h.defers,h.size,⟨h.base.os,h.base.tape,h.base.output,h.base.size,h.base.pins,h.base.block,h.base.pk,h.base.lo⟩,λi=>(h.cb i).ext (by simpa using h1 i),λt e hr=> ?_,λt hn=>h.off t λe hr=>hn e ((key t e).2 hr),⟨h.gw.nodup,h.gw.bm,h.gw.allow,h.gw.inb⟩,h.az,h.bw⟩;have Dd:=(key t e).1 hr;have he:=h.ents t e Dd;cases hh:hp t with
 |none=>rw[hh]at Dd;exact Dd.elim
 |some e0=>
  have De:=h2 t e0 hh;rw[hh]at Dd;cases e0 with
  |gd gs x=>
   obtain⟨_,rfl⟩:=Dd;simp only[Ab.sc,Ad]at De;cases x with
   |gd=>exact he
   |dead=>exact he
   |box=>exact he.ext (by simpa[Ab.sc]using De.2)
   |row=>exact he.ext (by simpa[Ab.sc]using De.2)
   |a6=>exact he.ext (by simpa[Ab.sc]using De.2)
   |deep=>exact he.ext (by simpa[Ab.sc]using De.2)
   |hol=>exact he.ext (by simpa[Ab.sc]using De.2)
   |pre=>exact he.ext (by simpa[Ab.sc]using De.2)
  |_=>simp only[B9]at Dd;subst Dd;exact he.ext De
theorem St.je{σ:St}(h:σ.sc=true)(i:Nat):(Bi σ i).sc σ.nv=true:=by
 simp only[St.sc,Ad,Bz]at h;unfold Bi;cases hi:σ.sl[i]? with
 |none=>simp[SV.sc]
 |some s=>exact h.1 s (List.mem_of_getElem? hi)
theorem St.iv{σ:St}(h:σ.sc=true)(t:Nat)(e:Ab)(he:Aq σ.hp t=some e):e.sc σ.nv=true:=by simp only[St.sc,Ad,Bz]at h;exact h.2 _ (GY he)
theorem Cn.gl{ρ τ:List AV}{q:Cn}(h:q.sc ρ.length=true):q.den (ρ++τ)↔q.den ρ:=by
 cases q<;>simp only[Cn.sc,Ad]at h<;>simp only[Cn.den]
 case dfd=>rw[den_app h]
 case agg=>rw[den_app h]
 case cells=>rw[den_app h]
 case inb=>rw[den_app h.1,den_app h.2]
 case inbS=>rw[den_app h.1,den_app h.2]
 case win=>rw[den_app h.1.1,den_app h.1.2,den_app h.2]
 case winS=>rw[den_app h.1.1,den_app h.1.2,den_app h.2]
 case room=>rw[den_app h.1,den_app h.2]
 case roomS=>rw[den_app h.1,den_app h.2]
 case mkroom=>rw[den_app h]
 case nz=>rw[den_app h]
 case nn=>rw[den_app h]
 case isref=>rw[den_app h]
 case issl=>rw[den_app h]
 case flat=>rw[den_app h]
 case flatS=>rw[den_app h]
 case kinds=>rw[den_app h]
theorem VV:SR c [FQ] [Go.undef]:= .gd (λhg=>by have:=hg (.bool false,true) (by simp);simp[E.den]at this) (λ_=>rfl) .nil
theorem YJ{ρ:List AV}{x:E}{b:Bool}{hs:Gd}(hx:x.den ρ= .bool b)(h:LB (x, !b) hs=true): ¬A0 ρ hs:=by intro k;have:=Zd h k;simp only at this;rw[hx]at this;simp at this
theorem UW{ρ:List AV}{x:E}{b:Bool}{hs:Gd}(hx:x.den ρ= .bool b):A0 ρ (hs.filter λh=> !(h.1.beq x&&h.2==b))↔A0 ρ hs:=by
 refine⟨λk g hg=> ?_,λk g hg=>k g (List.mem_filter.1 hg).1⟩;by_cases hh:(g.1.beq x&&g.2==b)=true
 ·simp only[Ad,AA]at hh;rw[E.af ρ _ _ hh.1,hx,hh.2]
 ·exact k g (List.mem_filter.2 ⟨hg,by rw[Bool.not_eq_true]at hh;rw[hh];rfl⟩)
theorem SR.gu{s:SV}{v:Value}{gs:Gd}(h1:A0 c.ρ gs->SR c [s] [v])(h2: ¬A0 c.ρ gs->v=Go.undef):SR c [Go.Proofs.Yteeafhlnofapaaa.mkGd gs s] [v]:=by
 cases gs with
 |nil=>exact h1 (DY _)
 |cons g gs=>exact .gd h1 h2 .nil
theorem SR.dy{x:E}{b:Bool}(hx:x.den c.ρ= .bool b){s:SV}{v:Value}(h:SR c [s] [v]):SR c [assumeS x b s] [v]:=by
 cases s with
 |gd hs s=>
  simp only[Go.Proofs.Yteeafhlnofapaaa.assumeS];cases h with
  |gd h1 h2 _=>
   split
   ·rename_i hm;rw[h2 (YJ hx hm)];exact VV
   ·exact SR.gu (λk=>h1 ((UW hx).1 k)) (λk=>h2 λk'=>k ((UW hx).2 k'))
 |_=>exact h
theorem lB(f:Ab->Ab)(l:List (Nat × Ab))(t:Nat):Aq (l.map λ(t,e)=>(t,f e)) t=(Aq l t).map f:=by
 induction l with
 |nil=>rfl
 |cons p l ih=>
  obtain⟨u,e⟩:=p;simp only[List.map_cons,Aq];split
  ·rfl
  ·exact ih
theorem Rel.dy{x:E}{b:Bool}(hx:x.den c.ρ= .bool b)(h:Rel c n sl hp a):Rel c n (λi=>assumeS x b (sl i)) (λt=>(hp t).map (assumeE x b)) a:=by
 have JC:∀t,(∀e,B9 c.ρ (hp t) e-> ∃gs y,e= .gd gs y\/e= .dead)->(c.G t).top=[]/\(c.G t).O=[]:=by
  intro t ht;by_cases hh:∃e,B9 c.ρ (hp t) e
  ·obtain⟨e,he⟩:=hh;obtain⟨gs,y,rfl|rfl⟩:=ht e he
   ·exact h.ents t _ he
   ·exact h.ents t _ he
  ·exact h.off t λe he=>hh ⟨e,he⟩
 have cases':∀t,((∀e,B9 c.ρ ((hp t).map (assumeE x b)) e↔B9 c.ρ (hp t) e))\/((hp t).map (assumeE x b)=some .dead/\(c.G t).top=[]/\(c.G t).O=[]):=by
  intro t;cases hh:hp t with
  |none=>exact .inl λe=>Iff.rfl
  |some e0=>
   cases e0 with
   |gd hs y=>
    by_cases hm:LB (x, !b) hs=true
    ·refine .inr ⟨by simp[Go.Proofs.Yteeafhlnofapaaa.assumeE,hm],JC t λe he=> ?_⟩;rw[hh]at he;exact absurd he.1 (YJ hx hm)
    ·by_cases hy:∃gs z,y= .gd gs z
     ·obtain⟨gs,z,rfl⟩:=hy;refine .inr ⟨by simp[Go.Proofs.Yteeafhlnofapaaa.assumeE,hm],JC t λe he=> ?_⟩;rw[hh]at he;exact⟨gs,z, .inl he.2.symm⟩
     ·refine .inl λe=> ?_;have he:assumeE x b (.gd hs y)=Cj (hs.filter λh=> !(h.1.beq x&&h.2==b)) y:=by
       simp only[Go.Proofs.Yteeafhlnofapaaa.assumeE,hm,B1,if_false];cases y<;>first|rfl|exact absurd ⟨_,_,rfl⟩ hy
      simp only[Option.map_some,he];show _↔A0 c.ρ hs/\y=e;rw[<-UW hx];generalize (hs.filter λh=> !(h.1.beq x&&h.2==b))=fs;cases fs with
      |nil=>simp only[Cj,DY,true_and];cases y<;>first|exact absurd ⟨_,_,rfl⟩ hy|exact Iff.rfl
      |cons g fs=>exact Iff.rfl
   |_=>exact .inl λe=>Iff.rfl
 refine⟨h.defers,h.size,h.base,λi=>(h.cb i).dy hx,λt e hr=> ?_,λt hn=> ?_,h.gw,h.az,λt e he=> ?_⟩
 ·rcases cases' t with hc|⟨hc,h1,h2⟩
  ·exact h.ents t e ((hc e).1 hr)
  ·rw[hc]at hr;have:Ab.dead=e:=hr;subst this;exact⟨h1,h2⟩
 ·rcases cases' t with hc|⟨hc,h1,h2⟩
  ·exact h.off t λe he=>hn e ((hc e).2 he)
  ·exact⟨h1,h2⟩
 ·cases hh:hp t with
  |none=>rw[hh]at he;cases he
  |some e0=>exact h.bw t e0 hh
end
theorem US{σ:St}{d:Option Nat}{s:SV}:Bi (Ga σ d s)=Ch σ.sl.length (Bi σ) d s:=by
 funext i;cases d with
 |none=>simp[Ga,Ch]
 |some d=>
  simp only[Ga,Bi,Ch,Aa,List.getElem?_set];by_cases h:d=i
  ·subst h;by_cases h2:d<σ.sl.length
   ·simp[h2]
   ·simp[h2,List.getElem?_eq_none (Nat.le_of_not_lt h2)]
  ·simp[h]
theorem UK{σ:St}{d:Option Nat}{s:SV}:(Ga σ d s).sl.length=σ.sl.length:=by cases d<;>simp[Ga]
theorem U7{σ:St}{d:Option Nat}{s:SV}:(Ga σ d s).hp=σ.hp:=by cases d<;>rfl
theorem UN{σ:St}{d:Option Nat}{s:SV}:(Ga σ d s).nv=σ.nv:=by cases d<;>rfl
theorem l6(l:List (Nat × Ab))(t:Nat)(e:Ab)(u:Nat):Aq (Jg l t e) u=if u=t then some e else Aq l u:=by
 induction l with
 |nil=>
  simp only[Jg,Aq];by_cases h:t=u
  ·simp[h]
  ·rw[if_neg h,if_neg (Ne.symm h)]
 |cons p l ih=>
  obtain⟨v,f⟩:=p;simp only[Jg];split
  ·rename_i hv;subst hv;simp only[Aq];by_cases h:v=u
   ·simp[h]
   ·rw[if_neg h,if_neg (Ne.symm h),if_neg h]
  ·rename_i hv;simp only[Aq];by_cases h:v=u
   ·subst h;rw[if_pos rfl,if_neg hv,if_pos rfl]
   ·rw[if_neg h,ih,if_neg h]
theorem Yb:∀(ents:List (Nat × Ab)) (l:List (Nat × Ab)),Aq (ents.foldl (λl (p:Nat × Ab)=>Jg l p.1 p.2) l)=AT (Aq l) ents
 | [],l=>rfl
 |(t,e)::ents,l=>by
  simp only[List.foldl_cons];rw[Yb ents];have:Aq (Jg l t e)=λu=>if u=t then some e else Aq l u:=by funext u;exact l6 l t e u
  rw[this];rfl
section
variable {P:Program} {sg:Br} {Rt:Nat->List AV->AV->Prop} {ops:Array Oper}
theorem Zf{σ:St}{gs:Gd}{o:Oper}{e:AO}:Bi (IZ σ gs o e)=Ch σ.sl.length (Bi σ) o.dst (mkGd gs e.val):=by rw[<-US];rfl
theorem Zl{σ:St}{gs:Gd}{o:Oper}{e:AO}:Aq (IZ σ gs o e).hp=AT (Aq σ.hp) e.au:=by
 have:(IZ σ gs o e).hp=e.au.foldl (λl (p:Nat × Ab)=>Jg l p.1 p.2) σ.hp:=by show e.au.foldl (λl (p:Nat × Ab)=>Jg l p.1 p.2) (Ga σ o.dst (mkGd gs e.val)).hp=_;rw[U7]
 rw[this,Yb]
theorem YO{σ:St}{gs:Gd}{o:Oper}{e:AO}:(IZ σ gs o e).sl.length=σ.sl.length:=by show(Ga σ o.dst (mkGd gs e.val)).sl.length=_;rw[UK]
theorem Vp{σ:St}{gs:Gd}{o:Oper}{e:AO}:(IZ σ gs o e).nv=if e.call.isSome||e.bc.isSome then σ.nv+1 else σ.nv:=by show(if e.call.isSome||e.bc.isSome then(Ga σ o.dst (mkGd gs e.val)).nv+1 else(Ga σ o.dst (mkGd gs e.val)).nv)=_;rw[UN]
theorem VF{R:AV->Prop}{gs:Gd}{k:Tr}{L:LK}{js:List JK}{ρ:List AV}:∀{cs:List Cn},(cs.foldr (λc k=> .bu gs c k) k:Tr).den Rt R L js ρ->(A0 ρ gs-> ∀q∈cs,q.den ρ)/\k.den Rt R L js ρ
 | [],h=>⟨by simp,h⟩
 |c::cs,h=>by
  obtain⟨h1,h2⟩:=h;obtain⟨h3,h4⟩:=VF h2;refine⟨λhg q hq=> ?_,h4⟩;rcases Ac.1 hq with rfl|hq
  ·exact h1 hg
  ·exact h3 hg q hq
theorem Zc{l:List (Nat × Ab)}{R:List Nat}{t:Nat}{e:Ab}(h:M0 l R t=some e):Aq l t=some e:=by
 unfold M0 at h;split at h
 ·exact h
 ·cases h
theorem Yv{f:Nat ⊕ E}{as_:EL}{ρ τ:List AV}{r:AV}(h1:(match f with| .inl _=>true| .inr x=>x.sc ρ.length)=true)(h2:as_.sc ρ.length=true):GG Rt f (as_.den (ρ++τ)) (ρ++τ) r↔GG Rt f (as_.den ρ) ρ r:=by
 rw[nI h2];cases f with
 |inl f=>exact Iff.rfl
 |inr x=>simp only[GG];rw[den_app h1]
theorem EL.gy{n:Nat}:∀{l:List E},l.all (E.sc n)=true->(EL.of l).sc n=true
 | [],_=>rfl
 |x::l,h=>by simp only[List.all_cons,Ad]at h;simp only[EL.of,EL.sc,Ad];exact⟨h.1,EL.gy h.2⟩
structure G7(F:Fix)(c:Cx)(σ:St)(a:Act)(n m:Nat):Prop where
 w0:c.w0=F.w0
 A:c.A=F.A
 Mu:c.Mu=F.Mu
 nv:c.ρ.length=σ.nv
 len:σ.sl.length=n
 U:∀t,c.U t->t<m
 rel:Rel c n (Bi σ) (Aq σ.hp) a
theorem G7.ext{F:Fix}{c:Cx}{σ:St}{a:Act}{n m:Nat}(h:G7 F c σ a n m)(hs:σ.sc=true)(τ:List AV):Rel (c.ext τ) n (Bi σ) (Aq σ.hp) a:=
 h.rel.ext (λi=>by rw[h.nv];exact St.je hs i) (λt e he=>by rw[h.nv];exact St.iv hs t e he) τ
theorem qA(AD:LI P sg Rt)(Ds:PL P sg){F:Fix}{c:Cx}{σ:St}{a:Act}{n i base:Nat}{o:Oper}{gs:Gd}{e:AO}{k:Tr}{R:AV->Prop}{L:LK}{js:List JK}{Q:Exit->Act->World->Prop}{K:Act->World->Prop}
  (hi:ops[i]?=some o) (hm:G7 F c σ a n (base+Bl*i)) (Fy:P0 c.ρ ops o a (some gs)) {Rs:List Nat} (he:Jd P sg (Bi σ) (M0 σ.hp Rs) σ.nv (base+Bl*i) gs o=some e) (De:MV σ.nv (base+Bl*i) σ.hp gs e=true)
  (N7:(e.call.isSome||e.bc.isSome)=true->σ.sc=true) (hd:(R4 gs e k).den Rt R L js c.ρ)
  (hK:∀(c':Cx) (a':Act),c.ρ<+:c'.ρ->G7 F c' (IZ σ gs o e) a' n (base+Bl*(i+1))->k.den Rt R L js c'.ρ->K a' c'.w):wpOp P ops Q i K a c.w:=by
 simp only[MV,Ad,Bz]at De;obtain⟨⟨⟨⟨Bj,AN⟩,GR⟩,Xc⟩,TQ⟩:=De;have A8:gs≠ []-> ∀t x,(t,x)∈e.au->base+Bl*i<=t/\t<base+Bl*i+Bl/\ ∃hs y,x= .gd hs y/\Jh gs hs=true:=by
  intro BE t x hx;have:=TQ _ hx;have Nw:gs.isEmpty=false:=by cases gs;exact absurd rfl BE;rfl
  simp only[Nw,Bool.false_or,Bool.false_and,Bool.or_false,Ad,Au]at this;refine⟨this.1.1,this.1.2,?_⟩;have h3:=this.2;split at h3
  ·exact⟨_,_,rfl,h3⟩
  ·cases h3
 have AM:∀t,base+Bl*i<=t->t<base+Bl*i+Bl-> ¬c.U t:=λt h1 _ h3=>by have:=hm.U t h3;omega
 have E9:∀(τ:List AV),Rel (c.ext τ) n (Bi σ) (Aq σ.hp) a->τ.length=(if e.call.isSome||e.bc.isSome then 1 else 0)->k.den Rt R L js (c.ρ++τ)->(A0 c.ρ gs-> ∀q∈e.bu,q.den c.ρ)->
   (∀cl,e.call=some cl-> ∃r,τ=[r]/\(A0 c.ρ gs->GG Rt cl.fn ((EL.of cl.args).den c.ρ) c.ρ r))->(∀x,e.bc=some x->τ=[.bool (Ib a o)])->wpOp P ops Q i K a c.w:=by
  intro τ hrel hτ hk hc AW Co;have E6:σ.nv=c.ρ.length:=hm.nv.symm;rw[E6]at Bj AN GR;have NG:∀r,τ=[r]->(c.ρ++τ)[σ.nv]?=some r:=by rintro r rfl;rw[E6];simp
  refine Zw (c:=c.ext τ) AD hi hrel ⟨λhg=>Fy.1 ((IY Bj).1 hg),λhg=>Fy.2 λk=>hg ((IY Bj).2 k)⟩ (λ_ _=>rfl) (λt e h=>Zc h) AM he A8 (λhg q hq=> ?_) (λcl As=> ?_) (λx hx _=>NG _ (Co x hx)) (λa' c' AP hr=> ?_)
  ·exact(Cn.gl (AN q hq)).2 (hc ((IY Bj).1 hg) q hq)
  ·obtain⟨r,rfl,h2⟩:=AW cl As;rw[As]at GR;simp only[Ad]at GR;exact⟨r,NG r rfl,λhg=>(Yv GR.1 (EL.gy GR.2)).2 (h2 ((IY Bj).1 hg))⟩
  ·have hρ:c'.ρ=c.ρ++τ:=AP.ρ;refine hK c' a' ⟨τ,hρ.symm⟩ ⟨AP.w0.trans hm.w0,AP.A.trans hm.A,AP.Mu.trans hm.Mu,?_,by rw[YO];exact hm.len,λt ht=> ?_,?_⟩ (by rw[hρ];exact hk)
   ·rw[hρ,Vp,AZ,hτ,E6];split<;>rfl
   ·have hmul:base+Bl*(i+1)=base+Bl*i+Bl:=by rw[Nat.mul_add];omega
    rw[hmul];rcases AP.U t ht with h|h
    ·have:=hm.U t h;omega
    ·exact h.2
   ·rw[Zf,Zl,hm.len];exact hr
 unfold R4 at hd;obtain⟨hc,hd⟩:=VF hd;cases As:e.call with
 |none=>
  simp only[As]at hd;cases Co:e.bc with
  |none=>simp only[Co]at hd;refine E9 [] (by have:=hm.rel;simpa[Cx.ext]using this) (by simp[As,Co]) (by simpa using hd) hc (λcl h=>by rw[As]at h;cases h) (λx h=>by rw[Co]at h;cases h)
  |some x=>simp only[Co]at hd;have E8:=N7 (by simp[Co]);refine E9 [.bool (Ib a o)] (hm.ext E8 _) (by simp[Co]) (hd _ λhg hb=> ?_) hc (λcl h=>by rw[As]at h;cases h) (λx h=>rfl);exact Ds c n _ _ _ a _ _ o gs e _ x ⟨hm.rel,hg,λ_ _=>rfl,λt e h=>Zc h,λt h1 h2=>AM t h1 (Nat.lt_of_lt_of_le h2 (Nat.add_le_add_left (by decide) _))⟩ he Co hb
 |some cl=>
  simp only[As]at hd;cases Co:e.bc with
  |some x=>rw[Co]at Xc;simp[As]at Xc
  |none=>simp only[Co]at hd;obtain⟨r,h1,h2⟩:=hd;have E8:=N7 (by simp[As]);refine E9 [r] (hm.ext E8 _) (by simp[As]) h2 hc (λcl' h=>by rw[As]at h;cases h;exact⟨r,rfl,h1⟩) (λx h=>by rw[Co]at h;cases h)
theorem l7{σ:St}{x:E}{b:Bool}{d:Nat}:Bi (assume x b d σ)=Ch σ.sl.length (λi=>assumeS x b (Bi σ i)) (some d) (.e (.bool b)):=by
 funext i;simp only[assume,Bi,Ch,Aa,List.getElem?_set,List.length_map,List.getElem?_map];by_cases h:d=i
 ·subst h;by_cases h2:d<σ.sl.length
  ·simp[h2]
  ·simp[h2,List.getElem?_eq_none (Nat.le_of_not_lt h2),assumeS]
 ·simp only[h,false_and,if_false];cases hh:σ.sl[i]?<;>simp[assumeS]
theorem lY{σ:St}{x:E}{b:Bool}{d:Nat}:Aq (assume x b d σ).hp=λt=>(Aq σ.hp t).map (assumeE x b):=by funext t;exact lB _ _ _
theorem G7.assume{F:Fix}{c:Cx}{σ:St}{a:Act}{n m:Nat}(h:G7 F c σ a n m){x:E}{b:Bool}(hx:x.den c.ρ= .bool b){d:Nat}(hd:Bi σ d= .e x):G7 F c (Go.Proofs.Yteeafhlnofapaaa.assume x b d σ) a n m:=by
 refine⟨h.w0,h.A,h.Mu,h.nv,?_,h.U,?_⟩
 ·simp only[Go.Proofs.Yteeafhlnofapaaa.assume,List.length_set,List.length_map];exact h.len
 ·rw[l7,lY];have hr:=h.rel.dy hx;refine{hr with cb:=λi=> ?_};unfold Ch;split
  ·rename_i hi;obtain⟨hi,_⟩:=hi;cases hi;have:=h.rel.cb d;rw[hd]at this;generalize a.tmps.getD d Go.undef=v at this;cases this with
   |e h1 h2 _=>exact .e (f:=[]) (by rw[hx]at h1;rw[GB h1 rfl];exact .bool .nil) (by simp) .nil
  ·exact hr.cb i
theorem l5(AD:LI P sg Rt)(Ds:PL P sg){F:Fix}{base:Nat}{R:AV->Prop}{L:LK}{js:List JK}{Q:Exit->Act->World->Prop}{n:Nat}{next:List Log->St->Option Tr}{i:Nat}{o:Oper}{lg:List Log}{rest:List Nat}(hi:ops[i]?=some o)
  (Ca:∀(lg:List Log) (σ:St) (t:Tr),next lg σ=some t-> ∀(c:Cx) (a:Act),G7 F c σ a n (base+Bl*(i+1))->t.den Rt R L js c.ρ->(∀(c':Cx) (a':Act) (σ':St),c.ρ<+:c'.ρ->L js .normal σ' c'.ρ->Fo F c'.ρ σ' a' c'.w->Q .normal a' c'.w)->wpOps P ops Q rest a c.w):
  ∀(m:Nat) (σ:St) (t:Tr),PH P sg ops false base next i o lg m σ=some t->
  ∀(c:Cx) (a:Act),G7 F c σ a n (base+Bl*i)->t.den Rt R L js c.ρ->(∀(c':Cx) (a':Act) (σ':St),c.ρ<+:c'.ρ->L js .normal σ' c'.ρ->Fo F c'.ρ σ' a' c'.w->Q .normal a' c'.w)->wpOps P ops Q (i::rest) a c.w:=by
 have KO:base+Bl*i<=base+Bl*(i+1):=by rw[Nat.mul_add];omega
 have try_:∀(fail:Unit->Option Tr) (σ:St) (t:Tr),PU P sg ops false base next i o lg fail σ=some t-> ∀(c:Cx) (a:Act),G7 F c σ a n (base+Bl*i)->t.den Rt R L js c.ρ->(∀(c':Cx) (a':Act) (σ':St),c.ρ<+:c'.ρ->L js .normal σ' c'.ρ->Fo F c'.ρ σ' a' c'.w->Q .normal a' c'.w)->
   (fail ()=some t->wpOps P ops Q (i::rest) a c.w)->wpOps P ops Q (i::rest) a c.w:=by
  intro fail σ t ht c a hm hd hq NC;unfold PU at ht;cases Fz:Lk σ ops o with
  |none=>rw[Fz]at ht;cases ht
  |some r=>
   have Fy:=Vb (c:=c) (a:=a) Fz (λj want d _ _=>hm.rel.cb d);rw[Fz]at ht;cases r with
   |none=>simp only at ht;rw[wpOps_cons];unfold wpOp;simp only[hi];rw[if_neg (by simp[show Region.wanted o (yielded ops a.tmps)=false from Fy])];refine Ca lg _ t ht c _ ⟨hm.w0,hm.A,hm.Mu,by rw[UN];exact hm.nv,by rw[UK];exact hm.len,λt ht=>Nat.lt_of_lt_of_le (hm.U t ht) KO,?_⟩ hd hq;rw[US,U7,hm.len];exact hm.rel.put VV o.dst
   |some gs=>
    simp only at ht;split at ht
    ·rename_i e he;split at ht
     ·cases ht
     ·rename_i An;split at ht
      ·cases ht
      ·rename_i k hk;simp only[Aa]at ht;subst ht;simp only[Bool.false_and,Bool.false_or,Bool.not_false,Bool.true_and,Bool.or_eq_true,Bn,Ad,not_or,Bool.not_eq_false]at An;rw[wpOps_cons];refine qA AD Ds hi hm Fy he An.1 (λhh=> ?_) hd λc' a' hp El BJ=>Ca _ _ k hk c' a' El BJ λc'' a'' σ' hp'=>hq c'' a'' σ' (hp.trans hp');have:=An.2;simp only[Bool.or_eq_true]at hh;simpa[hh]using this
    ·exact NC ht
 intro m
 induction m with
 |zero=>exact λσ t ht c a hm hd hq=>try_ _ σ t ht c a hm hd hq λh=>by cases h
 |succ m ih=>
  intro σ t ht c a hm hd hq;refine try_ _ σ t ht c a hm hd hq λh=> ?_;split at h
  ·rename_i d _ _;split at h
   ·rename_i x Qa;split at h
    ·rename_i k1 k0 Gu To;simp only[Aa]at h;subst h;obtain⟨tt,h1,h2,h3⟩:=hd;cases tt with
     |true=>exact ih _ k1 Gu c a (hm.assume h1 Qa) (h2 rfl) hq
     |false=>exact ih _ k0 To c a (hm.assume h1 Qa) (h3 rfl) hq
    ·cases h
   ·cases h
  ·cases h
theorem ZN(AD:LI P sg Rt)(Ds:PL P sg){F:Fix}{base:Nat}{R:AV->Prop}{L:LK}{js:List JK}{Q:Exit->Act->World->Prop}{n:Nat}:∀(len i:Nat) (lg:List Log) (σ:St) (t:Tr),i+len=ops.size->Je P sg ops false base (List.range' i len) lg σ=some t->
  ∀(c:Cx) (a:Act),G7 F c σ a n (base+Bl*i)->t.den Rt R L js c.ρ->(∀(c':Cx) (a':Act) (σ':St),c.ρ<+:c'.ρ->L js .normal σ' c'.ρ->Fo F c'.ρ σ' a' c'.w->Q .normal a' c'.w)->wpOps P ops Q (List.range' i len) a c.w
 |0,i,lg,σ,t,hl,ht,c,a,hm,hd,hq=>by
  simp only[List.range'_zero,Je,Bool.false_and,B1,if_false,Aa]at ht ⊢;subst ht;refine hq c a _ (List.prefix_refl _) hd ⟨c,rfl,rfl,hm.w0,hm.A,hm.Mu,hm.nv,λt ht=> ?_,?_⟩
  ·have:=hm.U t ht;have h9:i=ops.size:=by omega
   subst h9;exact this
  ·have:=hm.rel;rw[<-hm.len]at this;exact this
 |len+1,i,lg,σ,t,hl,ht,c,a,hm,hd,hq=>by
  rw[List.range'_succ]at ht ⊢;unfold Je at ht;obtain⟨o,hi⟩:∃o,ops[i]?=some o:=⟨ops[i]'(by omega),by simp[show i<ops.size by omega]⟩
  rw[hi]at ht;simp only at ht;exact l5 AD Ds hi (λlg σ t ht c a=>ZN AD Ds (n:=n) len (i+1) lg σ t (by omega) ht c a) 4 σ t ht c a hm hd hq
end
def Wo(l:List Oper)(bs:List Nat):Prop:=bs.length=l.length/\ ∀(j:Nat) (o:Oper),l[j]?=some o-> ∀i,((bs[j]?).getD 0).testBit i=true-> ∃e∈o.after.toList,Region.binds .any e=true/\(i=e.on\/(e.on<j/\((bs[e.on]?).getD 0).testBit i=true))
theorem XS(acc:List Nat)(i:Nat):∀(es:List Edge) (s:Nat),(es.foldl (λs e=>if Region.binds .any e then s|||2^e.on|||(acc[e.on]?).getD 0 else s) s).testBit i=true->
  s.testBit i=true\/ ∃e∈es,Region.binds .any e=true/\(i=e.on\/((acc[e.on]?).getD 0).testBit i=true)
 | [],s,h=> .inl h
 |e::es,s,h=>by
  simp only[List.foldl_cons]at h;rcases XS acc i es _ h with h|⟨e',h1,h2⟩
  ·split at h
   ·rename_i hb;simp only[Nat.testBit_or,Nat.testBit_two_pow,Bool.or_eq_true,Au]at h;rcases h with(h|h)|h
    ·exact .inl h
    ·exact .inr ⟨e,by simp,hb, .inl h.symm⟩
    ·exact .inr ⟨e,by simp,hb, .inr h⟩
   ·exact .inl h
  ·exact .inr ⟨e',by simp[h1],h2⟩
theorem YS:∀(os pre:List Oper) (acc:List Nat),Wo pre acc->Wo (pre++os) (Ip os acc)
 | [],pre,acc,h=>by simpa[Ip]using h
 |o::os,pre,acc,h=>by
  obtain⟨hl,hb⟩:=h;have:=YS os (pre++ [o]) (acc++ [VP acc o]) ⟨by simp[hl],λj o' ho i hi=> ?_⟩
  ·simpa[Ip]using this
  ·have AE:∀k,k<acc.length->((acc++ [VP acc o])[k]?).getD 0=(acc[k]?).getD 0:=λk hk=>by rw[List.getElem?_append_left hk]
   by_cases hj:j<pre.length
   ·rw[List.getElem?_append_left hj]at ho;rw[AE j (by omega)]at hi;obtain⟨e,h1,h2,h3⟩:=hb j o' ho i hi;exact⟨e,h1,h2,h3.imp id λh=>⟨h.1,by rw[AE _ (by omega)];exact h.2⟩⟩
   ·rw[List.getElem?_append_right (by omega)]at ho;have cB:j-pre.length=0:=by
     cases hh:j-pre.length with
     |zero=>rfl
     |succ k=>rw[hh]at ho;simp at ho
    rw[cB]at ho;simp at ho;subst ho;have Jy:j=acc.length:=by omega
    rw[Jy,List.getElem?_append_right (Ax _)]at hi;simp only[Nat.sub_self,List.getElem?_cons_zero,CT]at hi;rcases XS acc i _ 0 hi with h|⟨e,h1,h2,h3⟩
    ·simp at h
    ·refine⟨e,h1,h2,h3.imp id λh=> ?_⟩;have he:e.on<acc.length:=by
      rcases Nat.lt_or_ge e.on acc.length with hh|hh
      ·exact hh
      ·rw[List.getElem?_eq_none hh]at h;simp at h
     exact⟨by omega,by rw[AE _ he];exact h⟩
def PD(ops:Array Oper)(S:Nat->Bool):Prop:= ∀k o,S k=true->ops[k]?=some o-> ∀e∈o.after.toList,Region.binds .any e=true->S e.on=true
theorem aF(ops:Array Oper):Wo ops.toList (Ip ops.toList []):=by have:=YS ops.toList [] [] ⟨rfl,by simp⟩;simpa using this
theorem Yu{ops:Array Oper}{S:Nat->Bool}(hS:PD ops S):∀(k i:Nat),S k=true->k<ops.size->(((Ip ops.toList [])[k]?).getD 0).testBit i=true->S i=true:=by
 intro k
 induction k using Nat.strongRecOn with
 |_ k ih=>
  intro i hk AE hb;have ho:ops.toList[k]?=some ops[k]:=by simp[AE]
  obtain⟨e,h1,h2,h3⟩:=(aF ops).2 k _ ho i hb;have NY:=hS k ops[k] hk (by simp[AE]) e h1 h2;rcases h3 with rfl|⟨h3,h4⟩
  ·exact NY
  ·exact ih e.on h3 i NY (by omega) h4
theorem nK{ops:Array Oper}{S:Nat->Bool}(hS:PD ops S){j i:Nat}{o:Oper}(ho:ops[j]?=some o)(hr:∀e∈o.after.toList,Region.binds .any e=true->S e.on=true)(hb:(((Ip ops.toList [])[j]?).getD 0).testBit i=true):S i=true:=by
 have AE:j<ops.size:=(Array.getElem?_eq_some_iff.1 ho).1;obtain⟨e,h1,h2,h3⟩:=(aF ops).2 j o (by simpa using ho) i hb;have NY:=hr e h1 h2;rcases h3 with rfl|⟨h3,h4⟩
 ·exact NY
 ·exact Yu hS e.on i NY (by omega) h4
theorem l8{ops:Array Oper}{S:Nat->Bool}(hS:PD ops S){j i:Nat}{o:Oper}(ho:ops[j]?=some o)(hi:i<ops.size)(hj:S j=false)(hr:∀e∈o.after.toList,Region.binds .any e=true->S e.on=true)(BE:i≠j)(II:HD (Ip ops.toList []) i j=true):S i=decide (i<j):=by
 unfold HD at II;split at II
 ·rename_i h;rw[nK hS ho hr II];simp[h]
 ·rename_i h;cases hs:S i with
  |false=>simp[h]
  |true=>have:=Yu hS i j hs hi II;rw[hj]at this;cases this
structure Rec where
 i:Nat
 o:Oper
 σ:St
 r:Option (Gd × AO)
def Rec.next(x:Rec):St:=match x.r with|none=>Ga x.σ x.o.dst FQ|some (gs,e)=>IZ x.σ gs x.o e
def Rec.val(x:Rec):SV:=match x.r with|none=>FQ|some (gs,e)=>mkGd gs e.val
def Rec.au(x:Rec):List (Nat × Ab):=match x.r with|none=> []|some (_,e)=>e.au
def aD(P:Program)(sg:Br)(Rt:Nat->List AV->AV->Prop)(ops:Array Oper)(base:Nat)(ρ:List AV)(x:Rec):Prop:=
 ops[x.i]?=some x.o/\match x.r with
  |none=>Lk x.σ ops x.o=some none
  |some (gs,e)=>Lk x.σ ops x.o=some (some gs)/\Jd P sg (Bi x.σ) (M0 x.σ.hp (zip x.σ gs x.o)) x.σ.nv (base+Bl*x.i) gs x.o=some e/\e.bc=none/\MV x.σ.nv (base+Bl*x.i) x.σ.hp gs e=true/\
   (A0 ρ gs-> ∀q∈e.bu,q.den ρ)/\ ∀cl,e.call=some cl-> ∃r,ρ[x.σ.nv]?=some r/\(A0 ρ gs->GG Rt cl.fn ((EL.of cl.args).den ρ) ρ r)
def Dl:Nat->St->List Rec->St->Prop
 |_,σ,[],σ'=>σ=σ'
 |i,σ,x::xs,σ'=>x.i=i/\x.σ=σ/\Dl (i+1) x.next xs σ'
def Rec.log(x:Rec):Option Log:=x.r.map λ(gs,e)=>⟨x.i,zip x.σ gs x.o,e.au.map (·.1)⟩
theorem Vj{P:Program}{sg:Br}{Rt:Nat->List AV->AV->Prop}{ops:Array Oper}{base:Nat}{R:AV->Prop}{L:LK}{js:List JK}:∀(len i:Nat) (lg:List Log) (σ:St) (t:Tr) (ρ:List AV),i+len=ops.size->
  Je P sg ops true base (List.range' i len) lg σ=some t->t.den Rt R L js ρ->ρ.length=σ.nv->
  ∃(τ:List AV) (xs:List Rec) (σ':St) (lg':List Log),Dl i σ xs σ'/\xs.length=len/\(∀x∈xs,aD P sg Rt ops base (ρ++τ) x)/\(ρ++τ).length=σ'.nv/\L js .normal {σ' with nx:=base+Bl*ops.size} (ρ++τ)/\Sa ops lg'=true/\(∀y∈lg,y∈lg')/\ ∀x∈xs,∀y,x.log=some y->y∈lg'
 |0,i,lg,σ,t,ρ,hl,ht,hd,hn=>by
  simp only[List.range'_zero,Je,Bool.true_and]at ht;split at ht
  ·cases ht
  ·rename_i GO;simp only[Aa]at ht;subst ht;exact⟨[],[],σ,lg,rfl,rfl,by simp,by simpa using hn,by simpa[Tr.den]using hd,by simpa using GO,λy hy=>hy,by simp⟩
 |len+1,i,lg,σ,t,ρ,hl,ht,hd,hn=>by
  rw[List.range'_succ]at ht;unfold Je at ht;obtain⟨o,hi⟩:∃o,ops[i]?=some o:=⟨ops[i]'(by omega),by simp[show i<ops.size by omega]⟩
  rw[hi]at ht;simp only at ht;unfold PH PU at ht;cases Fz:Lk σ ops o with
  |none=>rw[Fz]at ht;cases ht
  |some r=>
   rw[Fz]at ht;cases r with
   |none=>
    simp only at ht;obtain⟨τ,xs,σ',lg',h1,h2,h3,h4,h5,h6,h7,h8⟩:=Vj len (i+1) lg _ t ρ (by omega) ht hd (by rw[UN];exact hn);refine⟨τ,⟨i,o,σ,none⟩::xs,σ',lg',⟨rfl,rfl,h1⟩,by simp[h2],λx hx=> ?_,h4,h5,h6,h7,λx hx y hy=> ?_⟩
    ·rcases Ac.1 hx with rfl|hx
     ·exact⟨hi,Fz⟩
     ·exact h3 x hx
    ·rcases Ac.1 hx with rfl|hx
     ·simp[Rec.log]at hy
     ·exact h8 x hx y hy
   |some gs=>
    simp only at ht;split at ht
    ·rename_i e he;split at ht
     ·cases ht
     ·rename_i An;simp only[Bool.true_and,Bool.not_true,Bool.false_and,Bool.or_false,Bool.or_eq_true,Bn,not_or,Bool.not_eq_false]at An;have Co:e.bc=none:=by cases hh:e.bc with|none=>rfl|some x=>rw[hh]at An;simp at An
      split at ht
      ·cases ht
      ·rename_i k hk;simp only[Aa]at ht;subst ht;have De:=An.2;simp only[MV,Ad,Bz]at De;obtain⟨⟨⟨⟨Bj,AN⟩,GR⟩,_⟩,_⟩:=De;rw[<-hn]at Bj AN GR;unfold R4 at hd;obtain⟨hc,hd⟩:=VF hd;simp only[Co]at hd;obtain⟨τ0,dZ,AW,BJ⟩:∃τ0:List AV,(ρ++τ0).length=(IZ σ gs o e).nv/\(∀cl,e.call=some cl-> ∃r,τ0=[r]/\(A0 ρ gs->GG Rt cl.fn ((EL.of cl.args).den ρ) ρ r))/\k.den Rt R L js (ρ++τ0):=by
        cases As:e.call with
        |none=>rw[As]at hd;exact⟨[],by rw[Vp];simp[As,Co,hn],by simp,by simpa using hd⟩
        |some cl=>rw[As]at hd;obtain⟨r,h1,h2⟩:=hd;exact⟨[r],by rw[Vp];simp[As,hn],λcl' h=>by cases h;exact⟨r,rfl,h1⟩,h2⟩
       obtain⟨τ,xs,σ',lg',h1,h2,h3,h4,h5,h6,h7,h8⟩:=Vj len (i+1) _ _ k (ρ++τ0) (by omega) hk BJ dZ;have SJ:ρ++τ0++τ=ρ++(τ0++τ):=List.append_assoc ..;rw[SJ]at h3 h4 h5;refine⟨τ0++τ,⟨i,o,σ,some (gs,e)⟩::xs,σ',lg',⟨rfl,rfl,h1⟩,by simp[h2],λx hx=> ?_,h4,h5,h6,λy hy=>h7 y (by simp[hy]),λx hx y hy=> ?_⟩
       ·rcases Ac.1 hx with rfl|hx
        ·refine⟨hi,Fz,he,Co,An.2,λhg q hq=>(Cn.gl (AN q hq)).2 (hc ((IY Bj).1 hg) q hq),λcl As=> ?_⟩;obtain⟨r,hr,h2⟩:=AW cl As;rw[As]at GR;simp only[Ad]at GR;subst hr;exact⟨r,by simp only;rw[<-hn];simp,λhg=>(Yv GR.1 (EL.gy (by simpa using GR.2))).2 (h2 ((IY Bj).1 hg))⟩
        ·exact h3 x hx
       ·rcases Ac.1 hx with rfl|hx
        ·simp only[Rec.log,Option.map_some,Aa]at hy;subst hy;exact h7 _ (by simp)
        ·exact h8 x hx y hy
    ·cases ht
def Fc(n:Nat)(sl0:Nat->SV)(xs:List Rec)(S:Nat->Bool):Nat->SV:=xs.foldl (λsl x=>if S x.i then Ch n sl x.o.dst x.val else sl) sl0
def FC(hp0:Nat->Option Ab)(xs:List Rec)(S:Nat->Bool):Nat->Option Ab:=xs.foldl (λhp x=>if S x.i then AT hp x.au else hp) hp0
section
variable {n:Nat} {S S':Nat->Bool} {d t:Nat}
theorem Pb:∀(xs:List Rec) {sl sl':Nat->SV},sl d=sl' d->(∀x∈xs,x.o.dst=some d->S x.i=S' x.i)->Fc n sl xs S d=Fc n sl' xs S' d
 | [],_,_,h,_=>h
 |x::xs,sl,sl',h,hs=>by
  refine Pb xs (sl:=if S x.i then Ch n sl x.o.dst x.val else sl) (sl':=if S' x.i then Ch n sl' x.o.dst x.val else sl') ?_ λy hy=>hs y (by simp[hy]);by_cases hd:x.o.dst=some d
  ·rw[<-hs x (by simp) hd];split
   ·simp only[Ch,hd,true_and];rw[h]
   ·exact h
  ·have hu:∀sl:Nat->SV,Ch n sl x.o.dst x.val d=sl d:=λsl=>by simp[Ch,hd]
   have h1:(if S x.i then Ch n sl x.o.dst x.val else sl) d=sl d:=by split;exact hu sl;rfl
   have h2:(if S' x.i then Ch n sl' x.o.dst x.val else sl') d=sl' d:=by split;exact hu sl';rfl
   rw[h1,h2,h]
theorem Vt(xs:List Rec){sl:Nat->SV}(hs:∀x∈xs,x.o.dst=some d->S x.i=false):Fc n sl xs S d=sl d:=by
 have h1:=Pb (n:=n) (S:=S) (S':=λ_=>false) xs (sl:=sl) (sl':=sl) (d:=d) rfl hs;rw[h1];clear h1 hs
 induction xs generalizing sl with
 |nil=>rfl
 |cons x xs ih=>exact ih
theorem V4(hd:n<=d):∀(xs:List Rec) {sl:Nat->SV},Fc n sl xs S d=sl d
 | [],_=>rfl
 |x::xs,sl=>by
  have:=V4 hd xs (sl:=if S x.i then Ch n sl x.o.dst x.val else sl);refine Eq.trans this ?_;split
  ·simp only[Ch];rw[if_neg (by omega)]
  ·rfl
theorem ZU{y:Rec}(hd:d<n)(hy:y.o.dst=some d)(hS:S y.i=true):∀(xs:List Rec) {sl:Nat->SV},y∈xs->(∀x∈xs,x≠y->x.o.dst≠some d)->Fc n sl xs S d=y.val
 | [],_,h,_=>by simp at h
 |x::xs,sl,h,hu=>by
  by_cases hm:y∈xs
  ·exact ZU hd hy hS xs (sl:=if S x.i then Ch n sl x.o.dst x.val else sl) hm λz hz=>hu z (by simp[hz])
  ·have hx:y=x:=by rcases Ac.1 h with h|h;exact h;exact absurd h hm
   subst hx;have:=Vt (n:=n) (S:=S) (d:=d) xs (sl:=Ch n sl y.o.dst y.val) (λz hz LW=>absurd LW (hu z (by simp[hz]) (λhh=>hm (hh▸hz))));show Fc n (if S y.i then Ch n sl y.o.dst y.val else sl) xs S d=_;rw[if_pos hS,this];simp[Ch,hy,hd]
theorem Yg{hp hp':Nat->Option Ab}{l:List (Nat × Ab)}(h:hp t=hp' t):AT hp l t=AT hp' l t:=by
 induction l generalizing hp hp' with
 |nil=>exact h
 |cons p l ih=>
  refine ih ?_;show(if t=p.1 then some p.2 else hp t)=(if t=p.1 then some p.2 else hp' t)
  rw[h]
theorem kP{hp hp':Nat->Option Ab}{l:List (Nat × Ab)}(h:t∈l.map (·.1)):AT hp l t=AT hp' l t:=by
 induction l generalizing hp hp' with
 |nil=>simp at h
 |cons p l ih=>
  by_cases hm:t∈l.map (·.1)
  ·exact ih hm
  ·have ht:t=p.1:=by simp only[List.map_cons,Ac]at h;exact h.resolve_right hm
   refine Yg (l:=l) ?_;show(if t=p.1 then some p.2 else hp t)=(if t=p.1 then some p.2 else hp' t)
   rw[if_pos ht,if_pos ht]
theorem Vv{hp:Nat->Option Ab}{l:List (Nat × Ab)}(h:t∉l.map (·.1)):AT hp l t=hp t:=
 I0 λe he=>h (List.mem_map.2 ⟨_,he,rfl⟩)
theorem Pa:∀(xs:List Rec) {hp hp':Nat->Option Ab},hp t=hp' t->(∀x∈xs,t∈x.au.map (·.1)->S x.i=S' x.i)->FC hp xs S t=FC hp' xs S' t
 | [],_,_,h,_=>h
 |x::xs,hp,hp',h,hs=>by
  refine Pa xs (hp:=if S x.i then AT hp x.au else hp) (hp':=if S' x.i then AT hp' x.au else hp') ?_ λy hy=>hs y (by simp[hy]);by_cases hd:t∈x.au.map (·.1)
  ·rw[<-hs x (by simp) hd];split
   ·exact Yg h
   ·exact h
  ·have h1:(if S x.i then AT hp x.au else hp) t=hp t:=by split;exact Vv hd;rfl
   have h2:(if S' x.i then AT hp' x.au else hp') t=hp' t:=by split;exact Vv hd;rfl
   rw[h1,h2,h]
theorem VI(xs:List Rec){hp:Nat->Option Ab}(hs:∀x∈xs,t∈x.au.map (·.1)->S x.i=false):FC hp xs S t=hp t:=by
 have h1:=Pa (S:=S) (S':=λ_=>false) xs (hp:=hp) (hp':=hp) (t:=t) rfl hs;rw[h1];clear h1 hs
 induction xs generalizing hp with
 |nil=>rfl
 |cons x xs ih=>exact ih
end
section
variable {n:Nat} {S:Nat->Bool} {d t:Nat}
theorem Rec.ik(x:Rec):Bi x.next=Ch x.σ.sl.length (Bi x.σ) x.o.dst x.val:=by
 obtain⟨i,o,σ,r⟩:=x;cases r with
 |none=>exact US
 |some ge=>exact Zf
theorem Rec.ic(x:Rec):Aq x.next.hp=AT (Aq x.σ.hp) x.au:=by
 obtain⟨i,o,σ,r⟩:=x;cases r with
 |none=>simp only[Rec.next,Rec.au,U7];rfl
 |some ge=>exact Zl
theorem Rec.gq(x:Rec):x.next.sl.length=x.σ.sl.length:=by
 obtain⟨i,o,σ,r⟩:=x;cases r with
 |none=>exact UK
 |some ge=>exact YO
theorem Dl.range:∀{xs:List Rec} {i:Nat} {σ σ':St},Dl i σ xs σ'-> ∀x∈xs,i<=x.i/\x.i<i+xs.length
 | [],_,_,_,_,x,hx=>by simp at hx
 |y::xs,i,σ,σ',h,x,hx=>by
  rcases Ac.1 hx with rfl|hx
  ·have:=h.1;simp only[AQ];omega
  ·have:=Dl.range h.2.2 x hx;simp only[AQ];omega
theorem Dl.ex:∀{xs:List Rec} {i:Nat} {σ σ':St},Dl i σ xs σ'-> ∀j,i<=j->j<i+xs.length-> ∃x∈xs,x.i=j
 | [],i,_,_,_,j,h1,h2=>by simp at h2;omega
 |y::xs,i,σ,σ',h,j,h1,h2=>by
  by_cases hj:j=i
  ·exact⟨y,by simp,by rw[hj];exact h.1⟩
  ·simp only[AQ]at h2;obtain⟨x,hx,he⟩:=Dl.ex h.2.2 j (by omega) (by omega);exact⟨x,by simp[hx],he⟩
theorem Dl.inj:∀{xs:List Rec} {i:Nat} {σ σ':St},Dl i σ xs σ'-> ∀x∈xs,∀y∈xs,x.i=y.i->x=y
 | [],_,_,_,_,x,hx,_,_,_=>by simp at hx
 |z::xs,i,σ,σ',h,x,hx,y,hy,he=>by
  have hz:=h.1;rcases Ac.1 hx with h1|h1<;>rcases Ac.1 hy with h2|h2
  ·rw[h1,h2]
  ·subst h1;have:=(Dl.range h.2.2 y h2).1;omega
  ·subst h2;have:=(Dl.range h.2.2 x h1).1;omega
  ·exact Dl.inj h.2.2 x h1 y h2 he
theorem Dl.sl:∀{xs:List Rec} {i:Nat} {σ σ':St},Dl i σ xs σ'->σ.sl.length=n->(∀x∈xs,x.σ.sl.length=n/\ ∀d,Bi x.σ d=Fc n (Bi σ) xs (λk=>decide (k<x.i)) d)/\σ'.sl.length=n/\Bi σ'=Fc n (Bi σ) xs λ_=>true
 | [],i,σ,σ',h,hn=>by have h:σ=σ':=h;subst h;exact⟨by simp,hn,rfl⟩
 |y::xs,i,σ,σ',h,hn=>by
  obtain⟨h1,h2,h3⟩:=h;subst h2;obtain⟨q1,q2,q3⟩:=Dl.sl h3 (by rw[y.gq];exact hn);rw[y.ik,hn]at q1 q3;refine⟨λx hx=> ?_,q2,q3⟩;rcases Ac.1 hx with rfl|hx
  ·refine⟨hn,λd=>(Vt _ λz hz _=> ?_).symm⟩;rcases Ac.1 hz with rfl|hz
   ·simp
   ·have:=(Dl.range h3 z hz).1;simp only[decide_eq_false_iff_not];omega
  ·refine⟨(q1 x hx).1,λd=> ?_⟩;rw[(q1 x hx).2 d];have:=(Dl.range h3 x hx).1;show _=Fc n (if decide (y.i<x.i)then Ch n (Bi y.σ) y.o.dst y.val else Bi y.σ) xs (λk=>decide (k<x.i)) d;rw[if_pos (by simp only[Au];omega)]
theorem Dl.hp:∀{xs:List Rec} {i:Nat} {σ σ':St},Dl i σ xs σ'->(∀x∈xs,∀t,Aq x.σ.hp t=FC (Aq σ.hp) xs (λk=>decide (k<x.i)) t)/\Aq σ'.hp=FC (Aq σ.hp) xs λ_=>true
 | [],i,σ,σ',h=>by have h:σ=σ':=h;subst h;exact⟨by simp,rfl⟩
 |y::xs,i,σ,σ',h=>by
  obtain⟨h1,h2,h3⟩:=h;subst h2;obtain⟨q1,q3⟩:=Dl.hp h3;rw[y.ic]at q1 q3;refine⟨λx hx=> ?_,q3⟩;rcases Ac.1 hx with rfl|hx
  ·refine λd=>(VI _ λz hz _=> ?_).symm;rcases Ac.1 hz with rfl|hz
   ·simp
   ·have:=(Dl.range h3 z hz).1;simp only[decide_eq_false_iff_not];omega
  ·intro t;rw[q1 x hx t];have:=(Dl.range h3 x hx).1;show _=FC (if decide (y.i<x.i)then AT (Aq y.σ.hp) y.au else Aq y.σ.hp) xs (λk=>decide (k<x.i)) t;rw[if_pos (by simp only[Au];omega)]
theorem aB{y:Rec}{Qi:Nat->Option Ab}(hS:S y.i=true)(ht:t∈y.au.map (·.1)):∀{xs:List Rec} {i:Nat} {σ σ':St} {hp0:Nat->Option Ab},Dl i σ xs σ'->y∈xs->(∀x∈xs,x.i≠y.i->t∈x.au.map (·.1)->S x.i=decide (x.i<y.i))->FC hp0 xs S t=AT Qi y.au t
 | [],_,_,_,_,_,h,_=>by simp at h
 |x::xs,i,σ,σ',hp0,hc,hm,hs=>by
  by_cases hx:y=x
  ·subst hx;have:=VI (S:=S) (t:=t) xs (hp:=AT hp0 y.au) (λz hz LW=>by
    have AE:=(Dl.range hc.2.2 z hz).1;have h1:=hc.1;rw[hs z (by simp[hz]) (by omega) LW];simp only[decide_eq_false_iff_not];omega)
   show FC (if S y.i then AT hp0 y.au else hp0) xs S t=_;rw[if_pos hS,this];exact kP ht
  ·have El:y∈xs:=by rcases Ac.1 hm with h|h;exact absurd h hx;exact h
   exact aB hS ht (hp0:=if S x.i then AT hp0 x.au else hp0) hc.2.2 El λz hz=>hs z (by simp[hz])
end
theorem YT{α:Type}{p p':α->Bool}:∀(l:List α),(∀k∈l,p' k=true->p k=true)->(∃j∈l,p j=true/\p' j=false)->(l.filter p').length<(l.filter p).length
 | [],_,h=>by obtain⟨j,hj,_⟩:=h;simp at hj
 |x::l,hs,h=>by
  have hle:(l.filter p').length<=(l.filter p).length:=by
   have:∀(l:List α),(∀k∈l,p' k=true->p k=true)->(l.filter p').length<=(l.filter p).length:=by
    intro l
    induction l with
    |nil=>intro _;simp
    |cons y l ih=>
     intro h;have:=ih λk hk=>h k (by simp[hk]);have hy:=h y (by simp);cases h1:p' y with
     |false=>
      cases h2:p y with
      |false=>simpa[h1,h2]using this
      |true=>simp only[List.filter_cons,h1,h2,B1,if_false,if_true,AQ];omega
     |true=>simpa[h1,hy h1]using this
   exact this l λk hk=>hs k (by simp[hk])
  obtain⟨j,hj,h1,h2⟩:=h;rcases Ac.1 hj with rfl|hj
  ·simp only[List.filter_cons,h1,h2,B1,if_false,if_true,AQ];omega
  ·have:=YT l (λk hk=>hs k (by simp[hk])) ⟨j,hj,h1,h2⟩;have hx:=hs x (by simp);cases h3:p' x with
   |false=>
    cases h4:p x with
    |false=>simpa[h3,h4]using this
    |true=>simp only[List.filter_cons,h3,h4,B1,if_false,if_true,AQ];omega
   |true=>simpa[h3,hx h3]using this
section
variable {ops:Array Oper} {listed:Array Bool}
theorem lP(hb:∀j o,ops[j]?=some o-> ∀e∈o.after.toList,Region.binds .any e=true->e.on<j)(BK:listed.size=ops.size)(hr:Region.ready .any ops listed=[]):∀k,k<ops.size->listed.getD k true=true:=by
 intro k
 induction k using Nat.strongRecOn with
 |_ k ih=>
  intro hk;cases hs:listed.getD k true with
  |true=>rfl
  |false=>
   have:k∈Region.ready .any ops listed:=mem_ready.2 ⟨hs,ops[k],by simp[hk],λe he Iy=>by
    have AE:=hb k ops[k] (by simp[hk]) e (by simpa using he) Iy;have:=ih e.on AE (by omega);have h2:e.on<listed.size:=by omega
    simp only[Array.getD_eq_getD_getElem?,Array.getElem?_eq_getElem h2,CT]at this ⊢;exact this⟩
   rw[hr]at this;cases this
theorem oO(BK:listed.size=ops.size){j:Nat}(hj:j<ops.size)(k:Nat):(listed.setIfInBounds j true).getD k true=(decide (k=j)||listed.getD k true):=by
 by_cases h:j=k
 ·subst h;simp[Array.getD_eq_getD_getElem?,show j<listed.size by omega]
 ·rw[getD_set_ne true h];simp[Ne.symm h]
variable {P:Program} {sg:Br} {Rt:Nat->List AV->AV->Prop}
theorem kB(AD:LI P sg Rt){F:Fix}{σ σ':St}{xs:List Rec}{ρ:List AV}{lg:List Log}{n:Nat}{Q:Exit->Act->World->Prop}(hc:Dl 0 σ xs σ')(hlen:xs.length=ops.size)(AF:∀x∈xs,aD P sg Rt ops σ.nx ρ x)(GO:Sa ops lg=true)(NM:∀x∈xs,∀y,x.log=some y->y∈lg)(hn:σ.sl.length=n)
  (hQ:∀(c:Cx) (a:Act),c.ρ=ρ->c.w0=F.w0->c.A=F.A->c.Mu=F.Mu->(∀t,c.U t->t<σ.nx+Bl*ops.size)->Rel c n (Bi σ') (Aq σ'.hp) a->Q .normal a c.w):
  ∀(fuel:Nat) (listed:Array Bool) (a:Act) (c:Cx),listed.size=ops.size->PD ops (λk=>listed.getD k true)->c.ρ=ρ->c.w0=F.w0->c.A=F.A->c.Mu=F.Mu->
   (∀t,c.U t->t<σ.nx\/ ∃k,k<ops.size/\listed.getD k true=true/\σ.nx+Bl*k<=t/\t<σ.nx+Bl*k+Bl)->Rel c n (Fc n (Bi σ) xs λk=>listed.getD k true) (FC (Aq σ.hp) xs λk=>listed.getD k true) a->
   ((List.range ops.size).filter λk=> !listed.getD k true).length<=fuel->wpAny P .any ops Q fuel listed a c.w:=by
 simp only[Sa,Ad,Bz,Bool.or_eq_true,AA,Bn,Au]at GO;obtain⟨⟨d1,d2⟩,d3⟩:=GO;have NQ:∀j o,ops[j]?=some o->(o,j)∈ops.toList.zipIdx:=λj o h=>List.mk_mem_zipIdx_iff_getElem?.2 (by simpa using h);have hb:∀j o,ops[j]?=some o-> ∀e∈o.after.toList,Region.binds .any e=true->e.on<j:=λj o h e he Iy=>by
  rcases d2 (o,j) (NQ j o h) e he with h|h
  ·rw[Iy]at h;cases h
  ·exact h
 obtain⟨c1,c2,c3⟩:=hc.sl hn;obtain⟨c4,c5⟩:=hc.hp;have Dq:∀(listed:Array Bool) (a:Act) (c:Cx),listed.size=ops.size->c.ρ=ρ->c.w0=F.w0->c.A=F.A->c.Mu=F.Mu->
   (∀t,c.U t->t<σ.nx\/ ∃k,k<ops.size/\listed.getD k true=true/\σ.nx+Bl*k<=t/\t<σ.nx+Bl*k+Bl)->Rel c n (Fc n (Bi σ) xs λk=>listed.getD k true) (FC (Aq σ.hp) xs λk=>listed.getD k true) a->
   (∀k,k<ops.size->listed.getD k true=true)->Q .normal a c.w:=by
  intro listed a c BK h1 h2 h3 h4 h5 h6 Cl;refine hQ c a h1 h2 h3 h4 (λt ht=> ?_) ?_
  ·rcases h5 t ht with h|⟨k,hk,_,_,h⟩
   ·simp only[Bl]at*;omega
   ·simp only[Bl]at*;omega
  ·have e1:(Fc n (Bi σ) xs λk=>listed.getD k true)=Bi σ':=by
    rw[c3];funext d;exact Pb xs rfl λx hx _=>by have:=(hc.range x hx).2;exact Cl x.i (by omega)
   have e2:(FC (Aq σ.hp) xs λk=>listed.getD k true)=Aq σ'.hp:=by rw[c5];funext d;exact Pa xs rfl λx hx _=>by have:=(hc.range x hx).2;exact Cl x.i (by omega)
   rw[e1,e2]at h6;exact h6
 intro fuel
 induction fuel with
 |zero=>
  intro listed a c BK As h1 h2 h3 h4 h5 h6 Ns;have Cl:∀k,k<ops.size->listed.getD k true=true:=by intro k hk;have:=List.length_eq_zero_iff.1 (Nat.le_zero.1 Ns);have:=List.filter_eq_nil_iff.1 this k (by simpa using hk);simpa using this
  refine⟨?_,Dq listed a c BK h1 h2 h3 h4 h5 h6 Cl⟩;refine List.eq_nil_iff_forall_not_mem.2 λj hj=> ?_;obtain⟨q1,o,q2,_⟩:=mem_ready.1 hj;rw[Cl j (Array.getElem?_eq_some_iff.1 q2).1]at q1;cases q1
 |succ fuel ih=>
  intro listed a c BK As h1 h2 h3 h4 h5 h6 Ns;refine⟨λhr=>Dq listed a c BK h1 h2 h3 h4 h5 h6 (lP hb BK hr),λj hj=> ?_⟩;obtain⟨q1,o,q2,q3⟩:=mem_ready.1 hj;have Tn:j<ops.size:=(Array.getElem?_eq_some_iff.1 q2).1;have Jr:∀e∈o.after.toList,Region.binds .any e=true->listed.getD e.on true=true:=λe he Iy=>by
   have h9:=q3 e (by simpa using he) Iy;have AE:=hb j o q2 e he Iy;have h8:e.on<listed.size:=by omega
   simp only[Array.getD_eq_getD_getElem?,Array.getElem?_eq_getElem h8,CT]at h9 ⊢;exact h9
  obtain⟨y,hy,GV⟩:=hc.ex j (by omega) (by omega);have K2:y.o=o:=by have:=(AF y hy).1;rw[GV,q2]at this;exact(Option.some.inj this).symm
  have Qr:∀x∈xs,x.i<ops.size:=λx hx=>by have:=(hc.range x hx).2;omega
  have Xg:∀x∈xs,ops[x.i]?=some x.o:=λx hx=>(AF x hx).1;have agree:∀x∈xs,x.i≠j->HD (Ip ops.toList []) x.i j=true->listed.getD x.i true=decide (x.i<j):=λx hx BE ho=>l8 (S:=λk=>listed.getD k true) As q2 (Qr x hx) q1 Jr BE ho;have JJ:∀x∈xs,x.i=j->listed.getD x.i true=decide (x.i<j):=λx hx he=>by rw[he,q1];simp
  have FY:∀d,d∈Sd ops o->Bi y.σ d=Fc n (Bi σ) xs (λk=>listed.getD k true) d:=by
   intro d hd;rw[(c1 y hy).2 d,GV];refine Pb xs rfl λx hx Ol=> ?_;by_cases he:x.i=j
   ·exact(JJ x hx he).symm
   ·rcases d3 (o,j) (NQ j o q2) (x.o,x.i) (NQ _ _ (Xg x hx))with h|h
    ·exact absurd h he
    ·simp only[Ol,Ad,Bool.or_eq_true,Bn]at h;rcases h.2 with h|h
     ·rw[List.contains_iff_mem.2 hd]at h;cases h
     ·exact(agree x hx he h).symm
  have hW:∀x∈xs,∀t,t∈x.au.map (·.1)-> ∀ly,y.log=some ly->(t∈ly.R\/t∈ly.W)->listed.getD x.i true=decide (x.i<j):=by
   intro x hx t ht ly NN hm;by_cases he:x.i=j
   ·exact JJ x hx he
   ·cases T1:x.r with
    |none=>simp[Rec.au,T1]at ht
    |some ge=>
     obtain⟨gs,e⟩:=ge;have cP:x.log=some ⟨x.i,zip x.σ gs x.o,e.au.map (·.1)⟩:=by simp[Rec.log,T1]
     have Tv:ly.i=j:=by unfold Rec.log at NN;obtain⟨ge',_,rfl⟩:=Aj.1 NN;exact GV
     have h9:=d1 _ (NM x hx _ cP) _ (NM y hy _ NN);simp only[Tv]at h9;rcases h9 with(h|h)|h
     ·exact absurd h he
     ·exfalso;have:Wc (e.au.map (·.1)) (ly.R++ly.W)=true:=by
       simp only[Wc,List.any_eq_true];exact⟨t,by simpa[Rec.au,T1]using ht,List.contains_iff_mem.2 (by simpa using hm)⟩
      rw[this]at h;cases h
     ·exact agree x hx he h
  have Ca:∀k,(listed.setIfInBounds j true).getD k true=(decide (k=j)||listed.getD k true):=oO BK Tn;have TR:Fc n (Bi σ) xs (λk=>(listed.setIfInBounds j true).getD k true)=Ch n (Fc n (Bi σ) xs λk=>listed.getD k true) o.dst y.val:=by
   funext d;unfold Ch;split
   ·rename_i hd;refine ZU hd.2 (by rw[K2];exact hd.1) (by rw[Ca,GV];simp) xs hy λx hx BE Ol=> ?_;have he:x.i≠j:=λh=>BE (hc.inj x hx y hy (by rw[h,GV]));rcases d3 (o,j) (NQ j o q2) (x.o,x.i) (NQ _ _ (Xg x hx))with h|h
    ·exact he h
    ·simp only[Ol,Ad,bne_iff_ne,ne_eq]at h;exact h.1 hd.1
   ·rename_i hd;by_cases Kx:d<n
    ·refine Pb xs rfl λx hx Ol=> ?_;have he:x.i≠j:=λh=>by
      have:x=y:=hc.inj x hx y hy (by rw[h,GV]);subst this;exact hd ⟨by rw[<-K2];exact Ol,Kx⟩
     rw[Ca];simp[he]
    ·rw[V4 (by omega),V4 (by omega)]
  have Tf:FC (Aq σ.hp) xs (λk=>(listed.setIfInBounds j true).getD k true)=AT (FC (Aq σ.hp) xs λk=>listed.getD k true) y.au:=by
   funext t;by_cases ht:t∈y.au.map (·.1)
   ·refine aB (by rw[Ca,GV];simp) ht hc hy λx hx BE T2=> ?_;rw[GV]at BE ⊢;rw[Ca];simp only[BE,decide_false,Bool.false_or];cases HB:y.r with
    |none=>simp[Rec.au,HB]at ht
    |some ge=>exact hW x hx t T2 _ (by simp only[Rec.log,HB,Option.map_some];rfl) (.inr (by simpa[Rec.au,HB]using ht))
   ·rw[Vv ht];refine Pa xs rfl λx hx T2=> ?_;have he:x.i≠j:=λh=>by
     have:x=y:=hc.inj x hx y hy (by rw[h,GV]);subst this;exact ht T2
    rw[Ca];simp[he]
  have Nt:((List.range ops.size).filter λk=> !(listed.setIfInBounds j true).getD k true).length<=fuel:=by have:=YT (p:=λk=> !listed.getD k true) (p':=λk=> !(listed.setIfInBounds j true).getD k true) (List.range ops.size) (λk _ hk=>by rw[Ca]at hk;simp at hk ⊢;exact hk.2) ⟨j,by simpa using Tn,by simp[q1],by rw[Ca];simp⟩;omega
  have SX:PD ops (λk=>(listed.setIfInBounds j true).getD k true):=by
   intro k ok hk Tp e he Iy;simp only[Ca,Bool.or_eq_true,Au]at hk ⊢;rcases hk with rfl|hk
   ·rw[q2]at Tp;cases Tp;exact .inr (Jr e he Iy)
   ·exact .inr (As k ok hk Tp e he Iy)
  have Jv:∀(a':Act) (c':Cx),c'.ρ=ρ->c'.w0=F.w0->c'.A=F.A->c'.Mu=F.Mu->(∀t,c'.U t->c.U t\/(σ.nx+Bl*j<=t/\t<σ.nx+Bl*j+Bl))->Rel c' n (Ch n (Fc n (Bi σ) xs λk=>listed.getD k true) o.dst y.val) (AT (FC (Aq σ.hp) xs λk=>listed.getD k true) y.au) a'->
    wpAny P .any ops Q fuel (listed.setIfInBounds j true) a' c'.w:=by
   intro a' c' g1 g2 g3 g4 g5 g6;refine ih _ a' c' (by simpa using BK) SX g1 g2 g3 g4 (λt ht=> ?_) (by rw[TR,Tf];exact g6) Nt;rcases g5 t ht with h|h
   ·rcases h5 t h with h|⟨k,k1,k2,k3,k4⟩
    ·exact .inl h
    ·exact .inr ⟨k,k1,by rw[Ca,k2];simp,k3,k4⟩
   ·exact .inr ⟨j,Tn,by rw[Ca];simp,h.1,h.2⟩
  have WX:∀j' want d,o.guard=some (j',want)->(ops[j']?).bind (·.dst)=some d->SR c [Bi y.σ d] [a.tmps.getD d Go.undef]:=by intro j' want d hg hd;rw[FY d (by simp only[Sd,hg,Ae];exact .inr (by simp[hd]))];exact h6.cb d
  obtain⟨_,CA⟩:=AF y hy;cases HB:y.r with
  |none=>
   rw[HB]at CA;have Fy:=Vb (c:=c) (a:=a) CA (λj' want d hg hd=>WX j' want d (by rw[<-K2];exact hg) hd);unfold wpOp;simp only[q2];rw[K2]at Fy;rw[if_neg (by simp[show Region.wanted o (yielded ops a.tmps)=false from Fy])];have hv:y.val=FQ:=by simp[Rec.val,HB]
   have he:y.au=[]:=by simp[Rec.au,HB]
   refine Jv _ c h1 h2 h3 h4 (λt ht=> .inl ht) ?_;rw[hv,he];exact h6.put VV o.dst
  |some ge=>
   obtain⟨gs,e⟩:=ge;rw[HB]at CA;simp only at CA;obtain⟨r1,r2,r3,r4,r5,r6⟩:=CA;rw[K2,GV]at r2;rw[GV]at r4;rw[K2]at r1;have Fy:=Vb (c:=c) (a:=a) r1 WX;have hv:y.val=mkGd gs e.val:=by simp[Rec.val,HB]
   have he:y.au=e.au:=by simp[Rec.au,HB]
   simp only[MV,Ad,Bz]at r4;obtain⟨_,TQ⟩:=r4;have NN:y.log=some ⟨y.i,zip y.σ gs y.o,e.au.map (·.1)⟩:=by simp[Rec.log,HB]
   refine Zw (c:=c) AD q2 h6 Fy (λt ht=>FY t (by simp only[Sd,Ae,List.mem_filterMap];exact .inl ⟨.tmp t,by simpa using ht,rfl⟩)) (λt x hx=> ?_) (λt t1 t2 hU=> ?_) r2 (λBE t x hx=> ?_) (by rw[h1];exact r5) (by rw[h1];exact r6) (λx hx=>by rw[r3]at hx;cases hx) (λa' c' hs hr=> ?_)
   ·unfold M0 at hx;split at hx
    ·rename_i hR;rw[(c4 y hy) t]at hx;rw[<-hx];refine Pa xs rfl λz hz dW=> ?_;rw[GV];exact hW z hz t dW _ NN (.inl (by rw[K2];simpa using hR))
    ·cases hx
   ·rcases h5 t hU with h|⟨k,k1,k2,k3,k4⟩
    ·simp only[Bl]at*;omega
    ·have:k≠j:=by rintro rfl;rw[q1]at k2;cases k2
     simp only[Bl]at*;omega
   ·have:=TQ _ hx;have Nw:gs.isEmpty=false:=by cases gs;exact absurd rfl BE;rfl
    simp only[Nw,Bool.false_or,Bool.false_and,Bool.or_false,Ad,Au]at this;refine⟨this.1.1,this.1.2,?_⟩;have h3:=this.2;split at h3
    ·exact⟨_,_,rfl,h3⟩
    ·cases h3
   ·exact Jv a' c' (hs.ρ.trans h1) (hs.w0.trans h2) (hs.A.trans h3) (hs.Mu.trans h4) hs.U (by rw[hv,he];exact hr)
end
theorem Rel.world{c:Cx}{n:Nat}{sl:Nat->SV}{hp:Nat->Option Ab}{a:Act}(h:Rel c n sl hp a)(w:World)(h1:w.heap=c.w.heap)(h2:w.os=c.w.os)(h3:w.tape=c.w.tape)(h4:w.output=c.w.output):Rel {c with w:=w} n sl hp a:=by
 refine h.change (λ_=>False) ⟨rfl,rfl,λ_ _ hb=>hb,λb _ _=>by show w.heap[b]?=_;rw[h1],λ_ _ hk=>⟨hk,rfl⟩,λ_ _ _=>⟨Ax _,λ_=>⟨rfl,λb _ _=>by show w.heap[b]?=_;rw[h1]⟩⟩⟩ ⟨h2.trans h.base.os,h3.trans h.base.tape,h4.trans h.base.output,by show _<=w.heap.size;rw[h1];exact h.base.size,h.base.pins,λb hb hm=>by show w.heap[b]?=_;rw[h1];exact h.base.block b hb hm,h.base.pk,h.base.lo⟩ (λt _=>⟨rfl,rfl,rfl,λg hk=>hk⟩) (λt _ b _=>by show w.heap[b]?=_;rw[h1]) (λt ht=>ht.elim)
  ⟨h.gw.nodup,h.gw.bm,h.gw.allow,λt b hb=>by show b<w.heap.size;rw[h1];exact h.gw.inb t b hb⟩ h.az h.bw
theorem nO{P:Program}{sg:Br}{Rt:Nat->List AV->AV->Prop}(TB:P.follows .mixedOrders=true)(AD:LI P sg Rt)(Ds:PL P sg):Zu P sg Rt:=by
 intro id ops draw σ t _ De cV ht F R L js ρ a w hL hd hr Q hq;obtain⟨c,rfl,rfl,h1,h2,h3,h4,h5,h6⟩:=hr;rw[List.range_eq_range']at ht;cases draw with
 |false=>refine wp_region ?_;rw[List.range_eq_range'];exact ZN AD Ds (n:=σ.sl.length) ops.size 0 [] σ t (by omega) ht c a ⟨h1,h2,h3,h4,rfl,by simpa using h5,h6⟩ hd (λc' a' σ' hp hl hrel=>hq [] .normal σ' c'.ρ a' c'.w hp hl hrel)
 |true=>
  refine wp_region_any TB ?_;obtain⟨τ,xs,σ',lg',g1,g2,g3,g4,g5,g6,_,g8⟩:=Vj ops.size 0 [] σ t c.ρ (by omega) ht hd h4;have S5:=h6.ext (λi=>by rw[h4];exact St.je De i) (λt e he=>by rw[h4];exact St.iv De t e he) τ;have hw:=S5.world {c.w with drawn:=c.w.drawn+1} rfl rfl rfl rfl;have Fv:∀k,k<ops.size->(Array.replicate ops.size false).getD k true=false:=λk hk=>by simp[Array.getD_eq_getD_getElem?,hk]
  have Qr:∀x∈xs,x.i<ops.size:=λx hx=>by have:=(g1.range x hx).2;omega
  have e1:(Fc σ.sl.length (Bi σ) xs λk=>(Array.replicate ops.size false).getD k true)=Bi σ:=by funext d;exact Vt _ λx hx _=>Fv x.i (Qr x hx)
  have e2:(FC (Aq σ.hp) xs λk=>(Array.replicate ops.size false).getD k true)=Aq σ.hp:=by funext d;exact VI _ λx hx _=>Fv x.i (Qr x hx)
  refine kB (F:=F) (n:=σ.sl.length) (c:={c.ext τ with w:={c.w with drawn:=c.w.drawn+1}}) AD g1 g2 g3 g6 g8 rfl (λc' a' k1 k2 k3 k4 k5 k6=> ?_) ops.size (Array.replicate ops.size false) a (by simp) (λk o hk ho=> ?_) rfl h1 h2 h3 (λt ht=> .inl (h5 t ht)) (by rw[e1,e2];exact hw) (Nat.le_trans (List.length_filter_le _ _) (by simp))
  ·have hlen:=(g1.sl rfl).2.1;refine hq [] .normal _ c'.ρ a' c'.w (by rw[k1];exact List.prefix_append _ _) (by rw[k1];exact g5) ⟨c',rfl,rfl,k2,k3,k4,by rw[k1];exact g4,k5,?_⟩;show Rel c' σ'.sl.length _ _ a';rw[hlen];exact k6
  ·have:=Fv k (Array.getElem?_eq_some_iff.1 ho).1;have BJ:(Array.replicate ops.size false).getD k true=true:=hk;rw[this]at BJ;cases BJ
section
variable {P:Program} {c:Cx} {n nx:Nat} {sl sl0:Nat->SV} {hp hp0:Nat->Option Ab} {a:Act} {o:Oper} {gs:Gd} {e:AO} {sg:Br} {nv:Nat}
theorem YI(h:A1 P c n nx sl hp a sl0 hp0 o gs){op:BinOp}{t el:TypeId}{x y:Operand}{ty:TypeId}(ho:o.op= .binOp op t x y ty)(hu:P.underlying t=some (.slice el)){p:Option Addr}{q r:Nat}(hv:a.eval x= .slice p q r)(r2:SR c [.bb] [a.eval y])
  (AD:op= .eql\/op= .neq) (E6:c.ρ[nv]?=some (.bool (Ib a o))) (x':Option E) {ck:List Cn}:Ao P o c n nx sl hp gs a {bu:=ck,bc:=x',val:= .e (if op= .eql then .var nv else .not (.var nv))}:=by
 have hb:Ib a o=p.isNone:=by simp only[Ib,ho,hv];cases p<;>rfl
 rw[hb]at E6;have ex:=λ(v u:Value) (hv:a.eval x=v) (hu:a.eval y=u)=>Lu (P:=P) (o:=o) ho c.w hv hu;generalize CK:a.eval y=v2 at r2;cases r2 with
 |bb _=>
  refine Ao.pure h (v:= .bool (if op= .eql then p.isNone else !p.isNone)) ?_ ?_ rfl
  ·rw[ex _ _ hv CK,eqGuard_at_slice];rcases AD with rfl|rfl
   ·simp[Go.Lib.run_eql_slice_nil c.w t el p q r 0 0 hu]
   ·simp[binOp,Op.equal,Op.maxDepth,Go.Lib.run_equalIn_slice_nil c.w 9999 t el p q r 0 0 hu]
  ·rcases AD with rfl|rfl
   ·refine .e (f:=[]) ?_ (by simp) .nil;simp only[if_true,E.den,E6,CT];exact .bool .nil
   ·refine .e (f:=[]) ?_ (by simp) .nil;simp only[reduceCtorEq,if_false,E.den,E6,CT,AV.di];exact .bool .nil
end
section
variable {P:Program} {c:Cx} {n nx:Nat} {sl sl0:Nat->SV} {hp hp0:Nat->Option Ab} {a:Act} {o:Oper} {gs:Gd} {e:AO} {sg:Br} {nv:Nat}
theorem Pe{hp:Nat->Option Ab}{gs:Gd}{m:Nat}{cs:Bf}{x:E}(h:A5 hp gs m (.agg cs)=some x):∃k l,m=k+1/\B8 hp gs k cs.toList=some l/\x= .mk l:=by
 cases m with
 |zero=>simp[A5]at h
 |succ m=>simp only[A5,Aj]at h;obtain⟨l,h1,h2⟩:=h;exact⟨m,l,rfl,h1,h2.symm⟩
theorem Ig{hp:Nat->Option Ab}{gs:Gd}{m:Nat}{y x:E}(h:A5 hp gs m (.e y)=some x):x=y:=by
 cases m with
 |zero=>simp[A5]at h
 |succ m=>simp[A5]at h;exact h.symm
theorem IX{hp:Nat->Option Ab}{gs:Gd}{m:Nat}{x:E}(h:A5 hp gs m .bb=some x):x= .lst .nil:=by
 cases m with
 |zero=>simp[A5]at h
 |succ m=>simp[A5]at h;exact h.symm
theorem H7{hp:Nat->Option Ab}{gs:Gd}{m:Nat}{s:SV}{ss:List SV}{x:EL}(h:B8 hp gs m (s::ss)=some x):∃k y l,m=k+1/\A5 hp gs k s=some y/\B8 hp gs k ss=some l/\x= .cons y l:=by
 cases m with
 |zero=>simp[B8]at h
 |succ m=>
  simp only[B8]at h;split at h
  ·rename_i y l h1 h2;simp at h;exact⟨m,y,l,rfl,h1,h2,h.symm⟩
  ·cases h
theorem L7{hp:Nat->Option Ab}{gs:Gd}{ρ:List AV}{w:World}:∀(vs:List Value) (ss:List SV) (m:Nat) (x:EL),D5.go vs=some ss->B8 hp gs m ss=some x->Rd w vs (x.den ρ) []
 | [],ss,m,x,h,hx=>by
  simp[D5.go]at h;subst h;cases m with
  |zero=>simp[B8]at hx
  |succ m=>simp[B8]at hx;subst hx;exact .nil
 |v::vs,ss,m,x,h,hx=>by
  unfold D5.go at h;split at h
  ·rename_i hh;cases hh
  ·rename_i k q l hh;cases hh;split at h
   ·rename_i hk;obtain⟨l',h1,rfl⟩:=Aj.1 h;obtain⟨j,y,l2,rfl,h2,h3,rfl⟩:=H7 hx;rw[Ig h2];exact .int hk (L7 _ _ _ _ h1 h3)
   ·cases h
  ·rename_i q l hh;cases hh;obtain⟨l',h1,rfl⟩:=Aj.1 h;obtain⟨j,y,l2,rfl,h2,h3,rfl⟩:=H7 hx;rw[Ig h2];exact .bool (L7 _ _ _ _ h1 h3)
  ·rename_i q l hh;cases hh;split at h
   ·rename_i hk;obtain⟨l',h1,rfl⟩:=Aj.1 h;obtain⟨j,y,l2,rfl,h2,h3,rfl⟩:=H7 hx;rw[Ig h2];exact .str hk (L7 _ _ _ _ h1 h3)
   ·cases h
  ·rename_i l hh;cases hh;obtain⟨l',h1,rfl⟩:=Aj.1 h;obtain⟨j,y,l2,rfl,h2,h3,rfl⟩:=H7 hx;rw[IX h2];exact .c7 (L7 _ _ _ _ h1 h3)
  ·rename_i l hh;cases hh;obtain⟨l',h1,rfl⟩:=Aj.1 h;obtain⟨j,y,l2,rfl,h2,h3,rfl⟩:=H7 hx;rw[Ig h2];exact .cv (L7 _ _ _ _ h1 h3)
  ·cases h
theorem UF{hp:Nat->Option Ab}{gs:Gd}{ρ:List AV}{w:World}{v:Value}{s:SV}{m:Nat}{x:E}(h:D5 v=some s)(hx:A5 hp gs m s=some x):
  Rd w v.cells.toList (x.den ρ).cells []/\(∀u∈v.cells.toList,u.oneCell'=true):=by
 have one:∀{v:Value} {y:AV},Rd w [v] [y] []->(∀cs,y≠ .agg cs)->(∀cs,y≠ .tup cs)->Rd w v.cells.toList y.cells []/\(∀u∈v.cells.toList,u.oneCell'=true):=by
  intro v y hr h1 h2;have h3:=UJ hr h1 h2;have h4:y.cells=[y]:=by cases y<;>first|rfl|exact absurd rfl (h1 _)
  rw[one_cells h3,h4];exact⟨by simpa using hr,by simpa using h3⟩
 unfold D5 at h;split at h
 ·split at h
  ·rename_i hk;simp at h;subst h;rw[Ig hx];exact one (.int hk .nil) (by simp[E.den]) (by simp[E.den])
  ·cases h
 ·simp at h;subst h;rw[Ig hx];exact one (.bool .nil) (by simp[E.den]) (by simp[E.den])
 ·split at h
  ·rename_i hk;simp at h;subst h;rw[Ig hx];exact one (.str hk .nil) (by simp[E.den]) (by simp[E.den])
  ·cases h
 ·simp at h;subst h;rw[IX hx];exact one (.c7 .nil) (by simp[E.den]) (by simp[E.den])
 ·simp at h;subst h;rw[Ig hx];exact one (.cv .nil) (by simp[E.den]) (by simp[E.den])
 ·rename_i cs;simp only[Option.bind_eq_bind,Ak,Aa]at h;obtain⟨l,hl,rfl⟩:=h;obtain⟨k,l',rfl,h1,rfl⟩:=Pe hx;rw[Bf.aj]at h1;exact⟨L7 _ _ _ _ hl h1,UD _ _ hl⟩
 ·cases h
theorem V0{w:World}{vs:List Value}{x:AV}(h:Rd w vs x.cells []):∀k,Rd w (List.replicate k vs).flatten (Ar (List.replicate k x)) []
 |0=> .nil
 |k+1=>by simp only[List.replicate_succ,List.flatten_cons,Ar,List.flatMap_cons];have:=h.app (V0 h k);simpa[Ar]using this
theorem Ra(z:Array Value)(hz:0<z.size):∀k,(madeCells z (k*z.size)).toList=(List.replicate k z.toList).flatten
 |0=>by simp[madeCells]
 |k+1=>by
  have ih:=Ra z hz k;simp only[madeCells,Array.toList_map,Array.toList_range]at ih ⊢;rw[Nat.add_mul,Nat.one_mul,List.range_add,List.map_append,ih,List.replicate_succ',List.flatten_append];congr 1;simp only[List.map_map,List.flatten_cons,List.flatten_nil,AG];apply List.ext_getElem?;intro i;simp only[List.getElem?_map,List.getElem?_range'];by_cases hi:i<z.size
  ·simp only[List.getElem?_range hi,Option.map_some,Function.comp_apply];have:(k*z.size+i) % z.size=i:=by rw[Nat.add_comm,Nat.add_mul_mod_self_right,Nat.mod_eq_of_lt hi]
   simp[this,hi]
  ·rw[List.getElem?_eq_none (by simpa using hi),List.getElem?_eq_none (by simpa using hi)];rfl
theorem jU(h:A1 P c n nx sl hp a sl0 hp0 o gs){t:TypeId}{l m:Operand}(ho:o.op= .makeSlice t l m){s1 s2:SV}(Bj:Bc sl0 gs l=some s1)(AN:Bc sl0 gs m=some s2)(he:VU P hp0 gs nx t s1 s2=some e)(hc:∀q∈e.bu,Cn.den c.ρ q):Ao P o c n nx sl hp gs a e:=by
 have Dc:l∈o.op.operands:=by simp[ho,Op.operands]
 have CQ:m∈o.op.operands:=by simp[ho,Op.operands]
 unfold VU at he;split at he
 ·rename_i el x y A2;have A2:=GZ A2;split at he
  ·cases he
  rename_i hz;have hz:FL P el=true:=by simpa using hz
  obtain⟨i,z,hi,EC,Du,BK,BM,Ft⟩:=H8 hz;have r1:=h.bz Bj Dc;have r2:=h.bz AN CQ;have ival:∀{x:E} {kk:IntKind} {k:Int} {v:Value},SR c [.e x] [v]->x.den c.ρ= .int kk k->v= .int kk k:=by
   intro x kk k v hr hx;cases hr with
   |e h1 _ _=>exact(ET h1 hx).1
  split at he
  ·rename_i EP;split at he
   ·rename_i s hs;have hs:D5 z=some s:=by simpa[hi,EC]using hs
    obtain⟨w,hw,rfl⟩:=Aj.1 he;obtain⟨kk,k,hk,h0,hb,hle⟩:Cn.den c.ρ (.mkroom x (P.bytesOf el)):=BD hc;have EO:=ival r1 hk;have CK:=ival r2 (by rw[<-E.af c.ρ _ _ EP];exact hk);obtain⟨c1,c2⟩:=UF (w:=c.w) (ρ:=c.ρ) hs hw;obtain⟨kn,rfl⟩:=Int.eq_ofNat_of_zero_le h0;have C8:(i.bytes:Int)*(kn:Int)<=281474976710656:=by rw[Ft]at hb;rw[Int.mul_comm];omega
    have hlen:=c1.len;have Qe:=Ra z.cells (by omega) kn;have Aw:=run_make (P:=P) c.w t el i z A2 hi EC kk kk kn kn (by omega) (Int.le_refl _) C8 (by omega);have Er:(madeCells z.cells (kn*z.cells.size)).size=kn*P.cellsOf el:=by rw[size_madeCells,Du,BM]
    have BQ:(madeCells z.cells (kn*z.cells.size)).toList.take ((List.replicate kn (w.den c.ρ)).length*P.cellsOf el)=(List.replicate kn z.cells.toList).flatten:=by rw[List.length_replicate,List.take_of_length_le (by rw[BF,Er];exact Ax _),Qe]
    refine Ao.newRow (xs:=List.replicate kn (w.den c.ρ)) (N:=[]) (C:=madeCells z.cells (kn*z.cells.size)) (cap:=kn) (wd:=c.w) (fz:=[]) (ts:=[]) h rfl ⟨rfl,rfl,rfl,rfl⟩ ?_ ?_ (by omega) (λu hu=> ?_) (by simp) (by simp only[maxLen];omega) Er ?_ ?_ (by simp) (λ_=>rfl)
    ·simp only[execOp,ho,EO,CK,Sem.run_bind,Int.ofNat_eq_natCast,List.length_replicate];rw[Aw,Du];rfl
    ·simp[E.den,hk,AV.rep]
    ·rw[List.eq_of_mem_replicate hu,<-hlen,BF,Du,BM]
    ·rw[BQ];intro u hu;obtain⟨q,hq,hu⟩:=List.mem_flatten.1 hu;rw[List.eq_of_mem_replicate hq]at hu;exact c2 u hu
    ·rw[BQ];exact V0 c1 kn
   ·cases he
  ·split at he
   ·rename_i k0 _;simp only[Aa]at he;subst he;obtain⟨kk,k,hk,h0,hb,hle⟩:Cn.den c.ρ (.mkroom y (P.bytesOf el)):=BD hc;have EO:=ival r1 (show(E.int k0 0).den c.ρ= .int k0 0 from rfl);have CK:=ival r2 hk;obtain⟨kn,rfl⟩:=Int.eq_ofNat_of_zero_le h0;have C8:(i.bytes:Int)*(kn:Int)<=281474976710656:=by
     rw[Ft]at hb;rw[Int.mul_comm];omega
    have Aw:=run_make (P:=P) c.w t el i z A2 hi EC k0 kk 0 kn (by omega) (by omega) C8 (by omega);refine Ao.newRow (xs:=[]) (N:=[]) (C:=madeCells z.cells (kn*i.size)) (cap:=kn) (wd:=c.w) (fz:=[]) (ts:=[]) h rfl ⟨rfl,rfl,rfl,rfl⟩ ?_ rfl (by omega) (by simp) (by simp) (by simp only[maxLen];omega) (by rw[size_madeCells,BM]) (by simp) (by simpa[Ar]using Rd.nil) (by simp) (λ_=>rfl);simp only[execOp,ho,EO,CK,Sem.run_bind,Int.ofNat_eq_natCast];rw[Aw];rfl
   ·cases he
 ·cases he
end
section
variable {P:Program} {c:Cx} {n nx:Nat} {sl sl0:Nat->SV} {hp hp0:Nat->Option Ab} {a:Act} {o:Oper} {gs:Gd} {e:AO} {sg:Br} {nv:Nat}
def MA(v:Option Value)(k d:Nat):Prop:=(v=none/\k=d)\/ ∃kk,v=some (.int kk (k:Int))
theorem OM{w:World}{t el:TypeId}(hu:P.underlying t=some (.slice el))(AX:CE P el=true)(p:Option Addr)(m r l h:Nat){lo hi:Option Value}(BH:MA lo l 0)(Hk:MA hi h m)(h1:l<=h)(h2:h<=m)(h3:m<=r):
  (Instr.sliceAt t (.slice p m r) lo hi none).run P w= .ok (sliced p l h r (P.cellsOf el)) w:=by
 have EF:P.underlying t=some (.slice (P.elem t)):=by simp[Program.elem,hu]
 have he:P.elem t=el:=by simp[Program.elem,hu]
 have hs:(sizeOf (P.elem t)).run P w= .ok (P.cellsOf el) w:=by rw[he];exact Ld AX w
 rw[run_sliceAt_slice w t _ _ _ _ EF];rcases BH with⟨rfl,rfl⟩|⟨kl,rfl⟩<;>rcases Hk with⟨rfl,rfl⟩|⟨kh,rfl⟩
 ·rw[run_slice_all w t p h r EF,hs];rfl
 ·rw[run_slice_h w t p m r EF kh _ (by omega) (by omega),hs];rfl
 ·rw[run_slice_l w t p h r EF kl _ (by omega) (by omega),hs];rfl
 ·rw[run_slice_lh w t p m r EF kl kh _ _ (by omega) (by omega) (by omega),hs];rfl
theorem iF(s:ByteArray)(a b:Nat):(s.extract a b).data.toList=(s.data.toList.drop a).take (b-a):=by rw[ByteArray.data_extract,Array.toList_extract,List.extract_eq_take_drop]
theorem fI{w:World}{t:TypeId}(hu:P.underlying t=some .string)(s:ByteArray)(l h:Nat){lo hi:Option Value}(BH:MA lo l 0)(Hk:MA hi h s.size)(h1:l<=h)(h2:h<=s.size):
  (Instr.sliceAt t (.string s) lo hi none).run P w= .ok (.string (s.extract l h)) w:=by
 rw[run_sliceAt_string w t _ _ _ _ hu];rcases BH with⟨rfl,rfl⟩|⟨kl,rfl⟩<;>rcases Hk with⟨rfl,rfl⟩|⟨kh,rfl⟩
 ·rw[run_slice_string_all w t s hu]
 ·rw[run_slice_string_h w t s hu kh _ (by omega) (by omega)];rfl
 ·rw[run_slice_string_l w t s hu kl _ (by omega) (by omega)];rfl
 ·rw[run_slice_string w t s kl kh _ _ hu (by omega) (by omega) (by omega)];rfl
theorem U3{sz:Nat}(ys:List AV)(hs:∀y∈ys,y.cells.length=sz)(l h:Nat)(hl:l<=h)(hh:h<=ys.length):((Ar ys).drop (l*sz)).take ((h-l)*sz)=Ar ((ys.take h).drop l):=by
 have e:ys=ys.take l++((ys.take h).drop l++ys.drop h):=by
  rw[<-List.append_assoc];have:ys.take l++(ys.take h).drop l=ys.take h:=by
   have h2:ys.take l=(ys.take h).take l:=by rw[List.take_take,Nat.min_eq_left hl]
   rw[h2,BB]
  rw[this,BB]
 have f1:Ar ys=Ar (ys.take l)++(Ar ((ys.take h).drop l)++Ar (ys.drop h)):=by
  conv=>lhs;rw[e]
  simp[Ar]
 have l1:(Ar (ys.take l)).length=l*sz:=by rw[Lg _ (λy hy=>hs y (BA hy)),AU,Nat.min_eq_left (by omega)]
 have l2:(Ar ((ys.take h).drop l)).length=(h-l)*sz:=by rw[Lg _ (λy hy=>hs y (BA (B2 hy))),Dv,AU,Nat.min_eq_left (by omega)]
 rw[f1,<-l1,List.drop_left,<-l2,List.take_left]
theorem qQ{w:World}{v:Value}{ys:List AV}{f:List Nat}{sz:Nat}(hr:Rd w [v] [.sl ys] f)(hs:∀y∈ys,y.cells.length=sz)(l h:Nat)(hl:l<=h)(hh:h<=ys.length):
  ∃p r g,v= .slice p ys.length r/\ys.length<=r/\Rd w [sliced p l h r sz] [.sl ((ys.take h).drop l)] g/\ ∀b∈g,b∈f:=by
 cases hr with
 |c7 _=>
  rename_i p r;have hh:h=0:=by simpa using hh
  subst hh;have hl:l=0:=by omega
  subst hl;exact⟨_,_,[],rfl,Nat.zero_le _,by simpa[sliced]using Rd.c7 .nil,by simp⟩
 |dn hb h1 h2 h3 h4 h5 h6 FV h7 h8=>
  rename_i b o m r cs C t fz sz' f1 f2;have hy:∃y,y∈ys:=by cases ys with|nil=>simp at h3;omega|cons y _=>exact⟨y,by simp⟩
  obtain⟨y0,F4⟩:=hy;have E8:sz'=sz:=(h4 y0 F4).symm.trans (hs y0 F4);subst E8;subst h3;refine⟨some ⟨b,o,none⟩,r,?_⟩;rcases Nat.eq_or_lt_of_le hl with he|AE
  ·subst he;refine⟨[],rfl,h2.2,?_,by simp⟩;have:(ys.take l).drop l=[]:=List.drop_eq_nil_of_le (by simp;omega);rw[this];simp only[sliced,Nat.sub_self];exact .c7 .nil
  ·have Ej:=h7.len;obtain⟨g,hg,CR⟩:=h7.piece (l*sz') ((h-l)*sz');rw[U3 ys h4 l h hl hh]at CR;refine⟨b::(g++ []),rfl,h2.2,?_,λx hx=> ?_⟩
   ·have Cy:sliced (some (⟨b,o,none⟩:Addr)) l h r sz'= .slice (some ⟨b,o+l*sz',none⟩) (h-l) (r-l):=by
     unfold sliced;split
     ·exfalso;omega
     ·simp[Addr.add_lit]
    rw[Cy];refine Rd.dn (cs:=(cs.drop (l*sz')).take ((h-l)*sz')) hb (by omega) ⟨by omega,by omega⟩ (by simp;omega) (λy hy=>h4 y (BA (B2 hy))) h5 (λj u hu=> ?_) (λu hu=>FV u (B2 (BA hu))) CR .nil;rw[List.getElem?_take]at hu;split at hu
    ·rw[List.getElem?_drop]at hu;have:=h6 _ _ hu;rw[<-this];congr 1;omega
    ·cases hu
   ·simp only[AG,Ac]at hx;rcases hx with rfl|hx
    ·simp
    ·have:=hg x hx;simp[this]
theorem Fl{f:Operand->Option SV}{x:Option Operand}{r:Option SV}(h:Ge f x=some r):(x=none/\r=none)\/ ∃y z,x=some y/\f y=some z/\r=some z:=by
 cases x with
 |none=>simp[Ge]at h;exact .inl ⟨rfl,h.symm⟩
 |some y=>obtain⟨z,hz,rfl⟩:=Aj.1 h;exact .inr ⟨y,z,rfl,hz,rfl⟩
theorem Ru{s:Option SV}{d l:E}(h:Kg s d=some l):(s=none/\l=d)\/s=some (.e l):=by
 unfold Kg at h;split at h
 ·simp at h;exact .inl ⟨rfl,h.symm⟩
 ·simp at h;subst h;exact .inr rfl
 ·cases h
theorem jK(h:A1 P c n nx sl hp a sl0 hp0 o gs){t:TypeId}{x:Operand}{lo hi mx:Option Operand}(ho:o.op= .slice t x lo hi mx){s:SV}(hs:Bc sl0 gs x=some s){l' h' m':Option SV}(Bd:Ge (Bc sl0 gs) lo=some l')(GP:Ge (Bc sl0 gs) hi=some h')(El:Ge (Bc sl0 gs) mx=some m')(he:VJ P hp0 gs t s l' h' m'=some e)(hc:∀q∈e.bu,Cn.den c.ρ q):Ao P o c n nx sl hp gs a e:=by
 have hm:x∈o.op.operands:=by simp[ho,Op.operands]
 have Hp:∀y,lo=some y->y∈o.op.operands:=λy hy=>by simp[ho,Op.operands,hy]
 have Gw:∀y,hi=some y->y∈o.op.operands:=λy hy=>by simp[ho,Op.operands,hy]
 have TA:∀y,mx=some y->y∈o.op.operands:=λy hy=>by simp[ho,Op.operands,hy]
 have hx:=h.bz hs hm;have ival:∀{x:E} {kk:IntKind} {k:Int} {v:Value},SR c [.e x] [v]->x.den c.ρ= .int kk k->v= .int kk k:=by
  intro x kk k v hr hx;cases hr with
  |e h1 _ _=>exact(ET h1 hx).1
 unfold VJ at he;split at he
 ·cases he
 rename_i y hy;obtain⟨f,q1,q2⟩:=h.gz hs hm hy;have ex:(execOp a.eval o).run P c.w=((Instr.sliceAt t (a.eval x) (lo.map a.eval) (hi.map a.eval) (mx.map a.eval)).run P c.w).andThen λv w=> .ok (.value v) w:=by simp[execOp,ho]
 split at he
 ·split at he
  ·rename_i el _ _ hu;split at he
   ·rename_i AX;simp only[Aa]at he;subst he;have hd:(y.den c.ρ).len≠ .undef:=BD hc;cases Be:y.den c.ρ<;>simp only[Be,AV.len,ne_eq,not_true_eq_false]at hd;rename_i xs;have hl:(y.den c.ρ).len= .int .i64 (xs.length:Int):=by rw[Be];rfl
    obtain⟨p,q,r,hv⟩:∃p q r,a.eval x= .slice p q r:=by
     rcases Mp q1 hl with⟨p,q,hv,CZ⟩|⟨b,o',k,q,hv,CZ⟩
     ·exact⟨_,_,_,hv⟩
     ·exact⟨_,_,_,hv⟩
    rcases Fl Bd with⟨rfl,_⟩|⟨_,_,_,_,hh⟩
    ·rcases Fl GP with⟨_,hh⟩|⟨oh,sh,rfl,dG,hh⟩
     ·cases hh
     ·cases hh;rcases Fl El with⟨_,hh⟩|⟨om,sm,rfl,dH,hh⟩
      ·cases hh
      ·cases hh;have v1:=(λ{kk:IntKind} (hr:SR c [.e (.int kk 0)] [a.eval oh])=>ival hr (show(E.int kk 0).den c.ρ= .int kk 0 from by simp only[E.den])) (h.bz dG (Gw _ rfl))
       have v2:=(λ{kk:IntKind} (hr:SR c [.e (.int kk 0)] [a.eval om])=>ival hr (show(E.int kk 0).den c.ρ= .int kk 0 from by simp only[E.den])) (h.bz dH (TA _ rfl))
       have EF:P.underlying t=some (.slice (P.elem t)):=by simp[Program.elem,hu]
       have A2:P.elem t=el:=by simp[Program.elem,hu]
       refine Ao.pure h (v:= .slice p 0 0) ?_ (.emp .nil) rfl;rw[ex,hv];simp only[Option.map_none,Option.map_some,v1,v2];rw[run_sliceAt_slice c.w t _ _ _ _ EF,run_slice_hm c.w t p q r EF _ _ 0 0 (by omega) (by omega) (by omega),A2,Ld AX];simp[sliced]
    ·cases hh
   ·cases he
  ·cases he
 ·have Hq:mx=none:=by
   rcases Fl El with⟨hh,_⟩|⟨_,_,_,_,hh⟩
   ·exact hh
   ·cases hh
  subst Hq;have blo:∀(l:E) (kk:IntKind) (k:Nat),Kg l' (.int .i64 0)=some l->l.den c.ρ= .int kk k->MA (lo.map a.eval) k 0:=by
   intro l kk k hl hk;rcases Fl Bd with⟨rfl,rfl⟩|⟨ol,sl',rfl,Cy,rfl⟩
   ·rcases Ru hl with⟨_,rfl⟩|hh
    ·simp only[E.den,AV.int.injEq]at hk;exact .inl ⟨rfl,by omega⟩
    ·cases hh
   ·rcases Ru hl with⟨hh,_⟩|hh
    ·cases hh
    ·cases hh;exact .inr ⟨kk,by rw[Option.map_some,ival (h.bz Cy (Hp _ rfl)) hk]⟩
  have bhi:∀(d l:E) (kk:IntKind) (k m:Nat),Kg h' d=some l->l.den c.ρ= .int kk k->d.den c.ρ= .int .i64 (m:Int)->MA (hi.map a.eval) k m:=by
   intro d l kk k m hl hk hd;rcases Fl GP with⟨rfl,rfl⟩|⟨ol,sl',rfl,Cy,rfl⟩
   ·rcases Ru hl with⟨_,rfl⟩|hh
    ·rw[hd]at hk;simp only[AV.int.injEq]at hk;exact .inl ⟨rfl,by omega⟩
    ·cases hh
   ·rcases Ru hl with⟨hh,_⟩|hh
    ·cases hh
    ·cases hh;exact .inr ⟨kk,by rw[Option.map_some,ival (h.bz Cy (Gw _ rfl)) hk]⟩
  split at he
  ·rename_i hu;split at he
   ·rename_i l hb q IG Hi;simp only[Aa]at he;subst he;obtain⟨ka,ai,kb,bi,bs,d1,d2,d3,d4,d5,d6⟩:Cn.den c.ρ (.winS y l hb):=BD hc;obtain⟨an,rfl⟩:=Int.eq_ofNat_of_zero_le d4;obtain⟨bn,rfl⟩:=Int.eq_ofNat_of_zero_le (Int.le_trans d4 d5);obtain⟨ss,hv,rfl,hle⟩:=MQ q1 d3;have BK:ss.data.toList.length=ss.size:=by simp
    have Aw:=fI (P:=P) (w:=c.w) hu ss an bn (blo l ka an IG d1) (bhi (.slen y) hb kb bn ss.size Hi d2 (by simp only[E.den,d3,AV.slen];simp)) (by omega) (by omega);refine Ao.pure h (v:= .string (ss.extract an bn)) ?_ (.ca ?_) rfl
    ·rw[ex,hv,Option.map_none,Aw];rfl
    ·simp only[E.den,d1,d2,d3,AV.swin];have:(List.take (bn:Int).toNat ss.data.toList).drop (an:Int).toNat=(ss.extract an bn).data.toList:=by
      simp[iF,List.drop_take]
     rw[this];exact .str (by simp only[ByteArray.size_extract];omega) .nil
   ·cases he
  ·rename_i el hu;split at he
   ·cases he
   rename_i AX;have AX:CE P el=true:=by simpa using AX
   split at he
   ·rename_i l hb fz IG Hi FX;simp only[Aa]at he;subst he;have Bg:Cn.den c.ρ (.issl y (P.cellsOf el)):=BD hc;obtain⟨ys,CC,GU⟩:=Bg;obtain⟨ka,ai,kb,bi,m,d1,d2,d3,d4,d5,d6⟩:Cn.den c.ρ (.win y l hb):=hc _ (by simp);obtain⟨an,rfl⟩:=Int.eq_ofNat_of_zero_le d4;obtain⟨bn,rfl⟩:=Int.eq_ofNat_of_zero_le (Int.le_trans d4 d5);rw[CC]at q1;have r7:(m:Int)=ys.length:=by rw[CC]at d3;simpa[AV.len]using d3.symm
    split at FX
    ·rename_i Gx;obtain⟨p,r,g,hv,hr,CR,hg⟩:=qQ q1 GU an bn (by omega) (by omega);have Aw:=OM (P:=P) (w:=c.w) hu AX p ys.length r an bn (blo l ka an IG d1) (bhi (.len y) hb kb bn ys.length Hi d2 (by simp only[E.den,CC,AV.len])) (by omega) (by omega) hr;intro next Q hk
     unfold Oper.wp;rw[ex,hv,Option.map_none,Aw];show Oper.upon P o a next Q (.ok (.value _) c.w)
     rw[Oper.upon_value];have hrel:=h.rel.freeze h.hp h.gs FX;have AF:∀b∈g,(c.a6 (fz.map (·.1))).ok b:=λb hb=>O4 h.rel h.eh h.gs FX Gx (q2 b (hg b hb));refine hk _ (c.a6 (fz.map (·.1))) ⟨rfl,rfl,rfl,rfl,λt ht=> .inl ht⟩ (hrel.put (SR.mkGd (.e (f:=g) ?_ AF .nil) gs h.gs) o.dst);show Rd c.w _ [(E.win y l hb).den c.ρ] g;simp only[E.den,d1,d2,CC,AV.win,Int.ofNat_eq_natCast,Int.toNat_natCast];exact CR
    ·cases FX
   ·cases he
  ·cases he
end
section
variable {P:Program} {c:Cx} {n nx:Nat} {sl sl0:Nat->SV} {hp hp0:Nat->Option Ab} {a:Act} {o:Oper} {gs:Gd} {e:AO} {sg:Br} {nv:Nat}
theorem MS{w:World}{v:Value}{x:AV}{f:List Nat}{k:SK}(h:Rd w [v] [x] f)(hk:x.sk=some k):(∃kk n,k= .int kk/\v= .int kk n/\x= .int kk n)\/(∃b,k= .bool/\v= .bool b/\x= .bool b)\/ ∃s:ByteArray,k= .str/\v= .string s/\x= .str s.data.toList:=by
 cases h<;>simp[AV.sk]at hk
 ·exact .inl ⟨_,_,hk.symm,rfl,rfl⟩
 ·exact .inr (.inl ⟨_,hk.symm,rfl,rfl⟩)
 ·exact .inr (.inr ⟨_,hk.symm,rfl,rfl⟩)
theorem UX{t:TypeId}(h:(∃k,P.underlying t=some (.int k))\/P.underlying t=some .bool\/P.underlying t=some .string):Ag P t=false:=by rcases h with⟨k,h⟩|h|h<;>simp[Ag,h]
theorem XU{w:World}(d:Nat):∀(fs:List Field) (j:Nat) (ks:List SK) {as_ bs:List Value} {cs ds:List AV} {f g:List Nat},MK P j fs=some ks->Rd w as_ cs f->Rd w bs ds g->(cs.drop j).map AV.sk=ks.map some->(ds.drop j).map AV.sk=ks.map some->
  (Op.eqFields (d+1) as_.toArray bs.toArray fs).run P w= .ok (AV.leq (cs.drop j) (ds.drop j)) w
 | [],j,ks,as_,bs,cs,ds,f,g,hk,h1,h2,k1,k2=>by
  simp[MK]at hk;subst hk;have e1:cs.drop j=[]:=by simpa using k1
  have e2:ds.drop j=[]:=by simpa using k2
  rw[e1,e2];simp[Op.eqFields,AV.leq]
 |fd::fs,j,ks,as_,bs,cs,ds,f,g,hk,h1,h2,k1,k2=>by
  unfold MK at hk;split at hk
  ·cases hk
  rename_i An;simp only[not_or,Bn,Decidable.not_not,ne_eq,Bool.not_eq_false]at An;obtain⟨hn,ho,AX,BD⟩:=An;have main:∀(k:SK) (l:List SK),ks=k::l->MK P (j+1) fs=some l->(∀a b (x y:AV) f g,Rd w [a] [x] f->Rd w [b] [y] g->x.sk=some k->y.sk=some k->(Op.equalIn (d+1) fd.type a b).run P w= .ok (x.seq y) w)->Ag P fd.type=false->
    (Op.eqFields (d+1) as_.toArray bs.toArray (fd::fs)).run P w= .ok (AV.leq (cs.drop j) (ds.drop j)) w:=by
   rintro k l rfl hl heq Gl;have Tk:j<cs.length:=by
    rcases Nat.lt_or_ge j cs.length with hh|hh
    ·exact hh
    ·rw[List.drop_eq_nil_of_le hh]at k1;simp at k1
   have Tl:j<ds.length:=by
    rcases Nat.lt_or_ge j ds.length with hh|hh
    ·exact hh
    ·rw[List.drop_eq_nil_of_le hh]at k2;simp at k2
   rw[A7 Tk]at k1;rw[A7 Tl]at k2;simp only[List.map_cons,List.cons.injEq]at k1 k2;have l1:=h1.len;have l2:=h2.len;obtain⟨v,f1,hv,_,r1⟩:=h1.at (show cs[j]?=some cs[j] by simp[Tk])
   obtain⟨u,g1,hu,_,r2⟩:=h2.at (show ds[j]?=some ds[j] by simp[Tl])
   have p1:=Pd AX as_ fd.offset (by omega) (.inr BD) w;have p2:=Pd AX bs fd.offset (by omega) (.inr BD) w;have e1:((as_.drop fd.offset).take (P.cellsOf fd.type)).headD Go.undef=v:=by rw[BD,ho,A7 (by omega),List.take_succ_cons];simpa[show j<as_.length by omega]using hv
   have e2:((bs.drop fd.offset).take (P.cellsOf fd.type)).headD Go.undef=u:=by rw[BD,ho,A7 (by omega),List.take_succ_cons];simpa[show j<bs.length by omega]using hu
   rw[Gl,e1]at p1;rw[Gl,e2]at p2;have ih:=XU (w:=w) d fs (j+1) l hl h1 h2 k1.2 k2.2;rw[A7 Tk,A7 Tl];simp only[Op.eqFields,ne_eq,hn,not_false_eq_true,if_true,Sem.run_bind,p1,p2,B1,if_false,Result.andThen_ok,heq v u _ _ _ _ r1 r2 k1.1 k2.1];cases hb:(cs[j]).seq ds[j]with
   |true=>simpa[AV.leq,hb]using ih
   |false=>simp[AV.leq,hb]
  split at hk
  ·rename_i k l hu hl;simp at hk;refine main _ _ hk.symm hl (λa b x y f g ra rb hx hy=> ?_) (UX (.inl ⟨_,hu⟩));rcases MS ra hx with⟨kk,m,h5,rfl,rfl⟩|⟨_,h5,_⟩|⟨_,h5,_⟩<;>cases h5
   rcases MS rb hy with⟨kk,m2,h5,rfl,rfl⟩|⟨_,h5,_⟩|⟨_,h5,_⟩<;>cases h5
   exact run_equalIn_int w d fd.type _ _ _ _ hu
  ·rename_i l hu hl;simp at hk;refine main _ _ hk.symm hl (λa b x y f g ra rb hx hy=> ?_) (UX (.inr (.inl hu)));rcases MS ra hx with⟨kk,m,h5,_⟩|⟨_,_,rfl,rfl⟩|⟨_,h5,_⟩<;>try cases h5
   rcases MS rb hy with⟨kk,m,h5,_⟩|⟨_,_,rfl,rfl⟩|⟨_,h5,_⟩<;>try cases h5
   exact UO d _ _ hu w
  ·rename_i l hu hl;simp at hk;refine main _ _ hk.symm hl (λa b x y f g ra rb hx hy=> ?_) (UX (.inr (.inr hu)));rcases MS ra hx with⟨kk,m,h5,_⟩|⟨_,h5,_⟩|⟨_,_,rfl,rfl⟩<;>try cases h5
   rcases MS rb hy with⟨kk,m,h5,_⟩|⟨_,h5,_⟩|⟨_,_,rfl,rfl⟩<;>try cases h5
   rw[run_equalIn_string w d _ _ _ hu,gF];rfl
  ·cases hk
theorem oH(h:A1 P c n nx sl hp a sl0 hp0 o gs){op:BinOp}{t:TypeId}{x y:Operand}{ty:TypeId}(ho:o.op= .binOp op t x y ty){fs:Array Field}(hu:P.underlying t=some (.struct fs))(he:Bk P sg sl0 hp0 nv nx gs o=some e)(hc:∀q∈e.bu,Cn.den c.ρ q):Ao P o c n nx sl hp gs a e:=by
 have Dc:x∈o.op.operands:=by simp[ho,Op.operands]
 have CQ:y∈o.op.operands:=by simp[ho,Op.operands]
 simp only[Bk,ho,Ak]at he;obtain⟨s1,Bj,s2,AN,he⟩:=he;unfold MJ at he;simp only[hu]at he;split at he
 ·cases he
 rename_i hg;simp only[Bool.or_eq_true,not_or,Bool.not_eq_true]at hg;split at he
 ·rename_i ks x' y' cH C1 Be;obtain⟨f1,q1,_⟩:=h.gz Bj Dc C1;obtain⟨f2,q2,_⟩:=h.gz AN CQ Be;have Dr:P.underlying t=some (.struct (P.fieldsOf t)):=by simp[Program.fieldsOf,hu]
  have Jt:P.fieldsOf t=fs:=by simp[Program.fieldsOf,hu]
  have key:∀(k1:Cn.den c.ρ (.kinds x' ks)) (k2:Cn.den c.ρ (.kinds y' ks)),∃as_ bs:List Value,∃b,a.eval x= .agg as_.toArray/\a.eval y= .agg bs.toArray/\(E.aeq x' y').den c.ρ= .bool b/\(Op.equalIn 10000 t (.agg as_.toArray) (.agg bs.toArray)).run P c.w= .ok b c.w:=by rintro⟨cs,Bg,k1⟩ ⟨ds,Fu,k2⟩;obtain⟨as_,EO,_,r1⟩:=HH q1 Bg;obtain⟨bs,CK,_,r2⟩:=HH q2 Fu;refine⟨as_,bs,AV.leq cs ds,EO,CK,by simp only[E.den,Bg,Fu,AV.aeq],?_⟩;rw[run_equalIn_struct c.w 9999 t _ _ Dr hg.1,Jt];exact XU (w:=c.w) 9998 fs.toList 0 ks cH r1 r2 (by simpa using k1) (by simpa using k2)
  split at he
  ·simp only[Aa]at he;subst he;obtain⟨as_,bs,b,EO,CK,hd,hr⟩:=key (hc _ (by simp)) (hc _ (by simp));refine Ao.pure h (v:= .bool b) ?_ (.ca (by rw[hd];exact .bool .nil)) rfl;rw[Lu ho c.w EO CK];simp[run_eqGuard_agg c.w _ t x y _ _ hg.2,run_eql_struct,hr]
  ·simp only[Aa]at he;subst he;obtain⟨as_,bs,b,EO,CK,hd,hr⟩:=key (hc _ (by simp)) (hc _ (by simp));refine Ao.pure h (v:= .bool (!b)) ?_ (.ca (by simp only[E.den]at hd ⊢;rw[hd];exact .bool .nil)) rfl;rw[Lu ho c.w EO CK];simp[run_eqGuard_agg c.w _ t x y _ _ hg.2,run_neq_struct,hr]
  ·cases he
 ·cases he
theorem XJ(h:A1 P c n nx sl hp a sl0 hp0 o gs){x y:Operand}{cl:Call}(ho:o.op= .call cl){op:BinOp}(AD:(op= .gtr/\cl.callee= .builtin .max)\/(op= .lss/\cl.callee= .builtin .min))(Ck:cl.args.toList=[x,y]){s1 s2:SV}(Bj:Bc sl0 gs x=some s1)(AN:Bc sl0 gs y=some s2)
  (he:RD op s1 s2=some e) (hc:∀q∈e.bu,Cn.den c.ρ q):Ao P o c n nx sl hp gs a e:=by
 have Ai:cl.args= #[x,y]:=by apply Array.ext';simp[Ck]
 have Dc:x∈o.op.operands:=by rcases AD with⟨_,hh⟩|⟨_,hh⟩<;>simp[ho,Op.operands,Call.operands,hh,Ai]
 have CQ:y∈o.op.operands:=by rcases AD with⟨_,hh⟩|⟨_,hh⟩<;>simp[ho,Op.operands,Call.operands,hh,Ai]
 unfold RD at he;split at he
 ·rename_i x' y';simp only[Aa]at he;subst he;obtain⟨f1,q1,_⟩:=F8 (h.bz Bj Dc) rfl;obtain⟨f2,q2,_⟩:=F8 (h.bz AN CQ) rfl;have hd:AV.bin op (y'.den c.ρ) (x'.den c.ρ)≠ .undef:=BD hc;cases hx:x'.den c.ρ<;>cases hy:y'.den c.ρ<;>simp only[hx,hy,AV.bin,ne_eq,not_true_eq_false]at hd;rename_i k m k' m';split at hd
  ·rename_i hk;have hk:k'=k:=by rcases hk with hk|hk|hk;exact hk;all_goals (rcases AD with⟨h1,_⟩|⟨h1,_⟩<;>rw[h1]at hk<;>cases hk)
   subst hk;obtain⟨v1,i1⟩:=ET q1 hx;obtain⟨v2,i2⟩:=ET q2 hy;rcases AD with⟨rfl,As⟩|⟨rfl,As⟩
   ·refine Ao.pure h (v:= .int k' (if m'>m then m' else m)) ?_ (.ca ?_) rfl
    ·simp[execOp,ho,resolve,As,Ai,invoke,builtin,Builtin.max_,Builtin.max2,v1,v2]
    ·simp only[E.den,hx,hy,AV.bin,true_or,if_true,D0];by_cases hh:m'>m
     ·simp only[hh,decide_true,AV.cond,if_true];exact .int i2 .nil
     ·simp only[hh,decide_false,AV.cond,if_false];exact .int i1 .nil
   ·refine Ao.pure h (v:= .int k' (if m'<m then m' else m)) ?_ (.ca ?_) rfl
    ·simp[execOp,ho,resolve,As,Ai,invoke,builtin,Builtin.min_,Builtin.min2,v1,v2]
    ·simp only[E.den,hx,hy,AV.bin,true_or,if_true,D0];by_cases hh:m'<m
     ·simp only[hh,decide_true,AV.cond,if_true];exact .int i2 .nil
     ·simp only[hh,decide_false,AV.cond,if_false];exact .int i1 .nil
  ·exact absurd rfl hd
 ·cases he
end
inductive B5(P:Program)(w:World):List TypeId->List Bool->List Value->List AV->List Nat->List Nat->Prop where
 |nil {fl}:B5 P w [] fl [] [] [] []
 |own {t ts fl el u us y ys top N rf hs}:fl.headD false=true->Cb P t=some el->(BI P el=true/\N=[]\/BI P el=false/\Dg P t=none)->Cp w el (P.cellsOf el) u y top N->B5 P w ts fl.tail us ys rf hs->B5 P w (t::ts) fl (u::us) (y::ys) (N++rf) (top++hs)
 |deep {t ts fl el e z l u us y ys top rf hs}:fl.headD false=true->Cb P t=some el->BI P el=false->Dg P t=some (.row e z l)->DC w [.row e z l] [u] [y] top->B5 P w ts fl.tail us ys rf hs->B5 P w (t::ts) fl (u::us) (y::ys) rf (top++hs)
 |rd {t ts fl u us y ys f rf hs}:(fl.headD false=true->Cb P t=none)->Rd w [u] [y] f->B5 P w ts fl.tail us ys rf hs->B5 P w (t::ts) fl (u::us) (y::ys) (f++rf) hs
def Lz(P:Program)(w:World)(t:TypeId)(fl:List Bool)(v:Value)(x:AV)(rf hs:List Nat):Prop:=
 ∃us ys,(if Ag P t then v= .agg us.toArray/\x= .agg ys/\ ∀u∈us,u.oneCell'=true else us=[v]/\ys=[x])/\B5 P w (AR P t) fl us ys rf hs
def EN(P:Program)(w:World)(t:TypeId)(fl:List Bool)(v:Value)(x:AV)(rf hs:List Nat):Prop:=
 if FM P t fl then Lz P w t fl v x rf hs else Rd w [v] [x] rf/\hs=[]
inductive Jf(P:Program)(w:World):List TypeId->List Bool->List Value->List AV->List Nat->List Nat->Prop where
 |nil {fl}:Jf P w [] fl [] [] [] []
 |cons {t ts fl v vs x xs f h rf hs}:EN P w t fl v x f h->Jf P w ts (fl.drop (AR P t).length) vs xs rf hs->Jf P w (t::ts) fl (v::vs) (x::xs) (f++rf) (h++hs)
theorem B5.len{P:Program}{w:World}{ts:List TypeId}{fl:List Bool}{us:List Value}{ys:List AV}{rf hs:List Nat}(h:B5 P w ts fl us ys rf hs):us.length=ts.length/\ys.length=ts.length:=by induction h<;>simp_all
theorem B5.inb{P:Program}{w:World}{ts:List TypeId}{fl:List Bool}{us:List Value}{ys:List AV}{rf hs:List Nat}(h:B5 P w ts fl us ys rf hs):(∀b∈rf,b<w.heap.size)/\ ∀b∈hs,b<w.heap.size:=by
 induction h with
 |nil=>simp
 |deep _ _ _ _ h _ ih=>
  refine⟨ih.1,λb hb=> ?_⟩;rcases Ae.1 hb with hb|hb
  ·exact h.inb b hb
  ·exact ih.2 b hb
 |own _ _ _ h _ ih=>
  refine⟨λb hb=> ?_,λb hb=> ?_⟩
  ·rcases Ae.1 hb with hb|hb
   ·obtain⟨xs,_,_,_,⟨_,_,_,rfl⟩|⟨g,cap,C,_,_,_,_,_,_,_,hr⟩⟩:=h
    ·simp at hb
    ·exact hr.inb b hb
   ·exact ih.1 b hb
  ·rcases Ae.1 hb with hb|hb
   ·obtain⟨xs,_,_,_,⟨_,_,rfl,_⟩|⟨g,cap,C,_,_,_,hh,_,rfl,_⟩⟩:=h
    ·simp at hb
    ·simp at hb;subst hb;exact EI hh
   ·exact ih.2 b hb
 |rd _ h _ ih=>
  refine⟨λb hb=> ?_,ih.2⟩;rcases Ae.1 hb with hb|hb
  ·exact h.inb b hb
  ·exact ih.1 b hb
structure Az where
 tag:Nat
 new:Option Value
 top:List Nat
 au:Ab
def Az.pair(r:Az):Nat × Ab:=(r.tag,r.au)
structure D6(c c':Cx)(w':World)(recs:List Az):Prop where
 ρ:c'.ρ=c.ρ
 w:c'.w=w'
 G:∀r∈recs,c'.G r.tag=⟨r.top,[]⟩
 new:∀r∈recs,∀hv,r.new=some hv->c'.K r.tag 0/\(∀g,c'.K r.tag g->g<=0)/\c'.H r.tag 0=hv
 K:∀t g,c.K t g->c'.K t g/\c'.H t g=c.H t g
 old:∀t,c.U t-> ∀g,c'.K t g->c.K t g
 fw:∀r∈recs,r.new.isSome=true->c'.E r.tag=0
 ej:∀r∈recs,r.new=none->c'.E r.tag=c.E r.tag+1
theorem D6.mono{c c':Cx}{w':World}{recs recs':List Az}(h:D6 c c' w' recs)(hs:∀r∈recs',r∈recs):D6 c c' w' recs':=
 ⟨h.ρ,h.w,λr hr=>h.G r (hs r hr),λr hr=>h.new r (hs r hr),h.K,h.old,λr hr=>h.fw r (hs r hr),λr hr=>h.ej r (hs r hr)⟩
section
variable {P:Program} {c:Cx} {w':World}
theorem pB{c':Cx}{t:Nat}{u:Value}{el sz:Nat}{y:AV}{top N:List Nat}(h:Cp w' el sz u y top N)(hk:c'.K t 0)(hh:c'.H t 0=u):SR c' [.own t 0] [u]:=by
 obtain⟨xs,_,_,_,⟨_,⟨a,rfl⟩,_⟩|⟨g,cap,C,rfl,_⟩⟩:=h
 ·exact .own hk hh .nil
 ·exact .own hk hh .nil
theorem L5{nx:Nat}{mk:Nat->E}{ts:List TypeId}{fl:List Bool}{us:List Value}{ys:List AV}{rf hs:List Nat}(h:B5 P w' ts fl us ys rf hs):∀(j:Nat),(∀i y,ys[i]?=some y->(mk (j+i)).den c.ρ=y)->
  ∃recs:List Az,(Cq P nx mk j ts fl).2=recs.map Az.pair/\recs.flatMap Az.top=hs/\(∀r∈recs,nx+j<=r.tag/\r.tag<nx+j+ts.length/\r.new.isSome)/\(recs.map Az.tag).Nodup/\(∀r∈recs,r.new=us[r.tag-(nx+j)]?)/\
   ∀c',D6 c c' w' recs->(∀b∈rf,c'.ok b)->SR c' (Cq P nx mk j ts fl).1 us/\ ∀r∈recs,CF c' r.tag r.au:=by
 induction h with
 |nil=>exact λj _=>⟨[],rfl,rfl,by simp,by simp,by simp,λc' _ _=>⟨.nil,by simp⟩⟩
 | @own t ts fl el u us y ys top N rf hs h1 h2 Nc h3 _ ih=>
  intro j E0;obtain⟨recs,e1,e2,e3,e4,e4',e5⟩:=ih (j+1) (λi y hy=>by rw[show j+1+i=j+(i+1)from by omega];exact E0 (i+1) y (by simpa using hy));have hy:=E0 0 y rfl;have TG:ME P t el 0 0 (mk j)= .row el (P.cellsOf el) 0 (mk j) (BI P el):=by
   unfold ME;rcases Nc with⟨h,_⟩|⟨h,h'⟩
   ·rw[if_pos h,h]
   ·rw[if_neg (by rw[h];simp),h',h]
  simp only[Cq,h1,h2,TG];refine⟨⟨nx+j,some u,top, .row el (P.cellsOf el) 0 (mk j) (BI P el)⟩::recs,by simp[e1,Az.pair],by simp[e2],λr hr=> ?_,?_,λr hr=> ?_,λc' ha AF=> ?_⟩
  ·rcases Ac.1 hr with rfl|hr
   ·simp
   ·have:=e3 r hr;simp only[AQ];exact⟨by omega,by omega,this.2.2⟩
  ·simp only[List.map_cons,List.nodup_cons];refine⟨λhm=> ?_,e4⟩;obtain⟨r,hr,Hv⟩:=List.mem_map.1 hm;have:=e3 r hr;omega
  ·rcases Ac.1 hr with rfl|hr
   ·simp
   ·rw[e4' r hr];have:=e3 r hr;rw[show r.tag-(nx+j)=(r.tag-(nx+(j+1)))+1 from by omega,List.getElem?_cons_succ]
  ·obtain⟨q1,q2⟩:=e5 c' (ha.mono λr hr=>by simp[hr]) λb hb=>AF b (by simp[hb]);obtain⟨k1,k2,k3⟩:=ha.new _ (List.mem_cons_self ..) u rfl;have kg:=ha.G _ (List.mem_cons_self ..);simp only at k1 k2 k3 kg;refine⟨(pB h3 k1 k3).cons q1,λr hr=> ?_⟩;rcases Ac.1 hr with rfl|hr
   ·refine⟨k1,k2,N,?_,λb hb=>AF b (by simp[hb]),λhd=> ?_,λ_=>by rw[kg]⟩
    rotate_left
    ·rcases Nc with⟨_,h⟩|⟨h,_⟩
     ·subst h;exact⟨rfl,by rw[kg]⟩
     ·rw[h]at hd;cases hd
    rw[k3,kg,ha.w,ha.ρ];have Be:(mk j).den c.ρ=y:=by simpa using hy
    rw[Be];exact h3
   ·exact q2 r hr
 | @deep t ts fl el e z l u us y ys top rf hs h1 h2 Nb LM h3 _ ih=>
  intro j E0;obtain⟨recs,e1,e2,e3,e4,e4',e5⟩:=ih (j+1) (λi y hy=>by rw[show j+1+i=j+(i+1)from by omega];exact E0 (i+1) y (by simpa using hy));have hy:=E0 0 y rfl;have TG:ME P t el 0 0 (mk j)= .deep e z l.toList 0 0 (mk j):=by unfold ME;rw[if_neg (by rw[Nb];simp),LM]
  simp only[Cq,h1,h2,TG];refine⟨⟨nx+j,some u,top, .deep e z l.toList 0 0 (mk j)⟩::recs,by simp[e1,Az.pair],by simp[e2],λr hr=> ?_,?_,λr hr=> ?_,λc' ha AF=> ?_⟩
  ·rcases Ac.1 hr with rfl|hr
   ·simp
   ·have:=e3 r hr;simp only[AQ];exact⟨by omega,by omega,this.2.2⟩
  ·simp only[List.map_cons,List.nodup_cons];refine⟨λhm=> ?_,e4⟩;obtain⟨r,hr,Hv⟩:=List.mem_map.1 hm;have:=e3 r hr;omega
  ·rcases Ac.1 hr with rfl|hr
   ·simp
   ·rw[e4' r hr];have:=e3 r hr;rw[show r.tag-(nx+j)=(r.tag-(nx+(j+1)))+1 from by omega,List.getElem?_cons_succ]
  ·obtain⟨q1,q2⟩:=e5 c' (ha.mono λr hr=>by simp[hr]) AF;obtain⟨k1,k2,k3⟩:=ha.new _ (List.mem_cons_self ..) u rfl;have kg:=ha.G _ (List.mem_cons_self ..);have ke:=ha.fw _ (List.mem_cons_self ..) rfl;simp only at k1 k2 k3 kg ke;obtain⟨p1,p2,p3,rfl⟩:=h3.head;refine⟨(SR.own k1 k3 .nil).cons q1,λr hr=> ?_⟩;rcases Ac.1 hr with rfl|hr
   ·refine⟨k1,k2,ke,?_,by rw[kg]⟩;have Be:(mk j).den c.ρ=y:=by simpa using hy
    rw[k3,kg,ha.w,ha.ρ,Be,Av.b8];exact h3
   ·exact q2 r hr
 | @rd t ts fl u us y ys f rf hs h1 h3 _ ih=>
  intro j E0;obtain⟨recs,e1,e2,e3,e4,e4',e5⟩:=ih (j+1) (λi y hy=>by rw[show j+1+i=j+(i+1)from by omega];exact E0 (i+1) y (by simpa using hy));have hy:=E0 0 y rfl;have S7:Cq P nx mk j (t::ts) fl=(.e (mk j)::(Cq P nx mk (j+1) ts fl.tail).1,(Cq P nx mk (j+1) ts fl.tail).2):=by
   simp only[Cq];split
   ·rename_i h8 h9;rw[h1 h8]at h9;cases h9
   ·rfl
  rw[S7];refine⟨recs,e1,e2,λr hr=> ?_,e4,λr hr=> ?_,λc' ha AF=> ?_⟩
  ·have:=e3 r hr;simp only[AQ];exact⟨by omega,by omega,this.2.2⟩
  ·rw[e4' r hr];have:=e3 r hr;rw[show r.tag-(nx+j)=(r.tag-(nx+(j+1)))+1 from by omega,List.getElem?_cons_succ]
  ·obtain⟨q1,q2⟩:=e5 c' ha λb hb=>AF b (by simp[hb]);have Be:(mk j).den c.ρ=y:=by simpa using hy
   exact⟨(SR.e (f:=f) (by rw[ha.w,ha.ρ,Be];exact h3) (λb hb=>AF b (by simp[hb])) .nil).cons q1,q2⟩
theorem La{nx:Nat}{mk:Nat->E}:∀(j:Nat) (ts:List TypeId) (fl:List Bool) (t:Nat) (e:Ab) {gs:Gd} {f:Ab},(t,e)∈(Cq P nx mk j ts fl).2->e≠ .gd gs f
 |_,[],_,_,_,_,_,h=>by simp[Cq]at h
 |j,u::ts,fl,t,e,gs,f,h=>by
  unfold Cq at h;split at h
  ·rcases Ac.1 h with h|h
   ·cases h;unfold ME;split
    ·simp
    ·split<;>simp
   ·exact La _ _ _ _ _ h
  ·exact La _ _ _ _ _ h
theorem O2{ρ:List AV}{x:E}{ys:List AV}(hx:x.den ρ= .agg ys):∀i y,ys[i]?=some y->(CW x true (0+i)).den ρ=y:=by intro i y hy;simp[CW,E.den,hx,AV.fld,AV.cells,hy]
theorem XD{nx:Nat}{t:TypeId}{fl:List Bool}{x:E}{v:Value}{y:AV}{rf hs:List Nat}(h:EN P w' t fl v y rf hs)(hx:x.den c.ρ=y):
  ∃recs:List Az,(Li P nx t fl x).2=recs.map Az.pair/\recs.flatMap Az.top=hs/\(∀r∈recs,nx<=r.tag/\r.tag<nx+(AR P t).length/\r.new.isSome)/\(recs.map Az.tag).Nodup/\
   ∀c',D6 c c' w' recs->(∀b∈rf,c'.ok b)->SR c' [(Li P nx t fl x).1] [v]/\ ∀r∈recs,CF c' r.tag r.au:=by
 unfold EN at h;unfold Li;split at h
 ·rename_i hf;simp only[hf,if_true];obtain⟨us,ys,hg,hc⟩:=h;split at hg
  ·rename_i Ap;obtain⟨rfl,rfl,Cf⟩:=hg;obtain⟨recs,e1,e2,e3,e4,_,e5⟩:=L5 (c:=c) (nx:=nx) (mk:=CW x (Ag P t)) hc 0 (by rw[Ap];exact O2 hx);refine⟨recs,e1,e2,λr hr=>by have:=e3 r hr;exact⟨by omega,by omega,this.2.2⟩,e4,λc' ha AF=> ?_⟩;obtain⟨q1,q2⟩:=e5 c' ha AF;rw[if_pos Ap];exact⟨.agg Cf (by rw[Bf.aj];exact q1) .nil,q2⟩
  ·rename_i Ap;obtain⟨rfl,rfl⟩:=hg;have Fq:Ag P t=false:=by simpa using Ap
   obtain⟨recs,e1,e2,e3,e4,_,e5⟩:=L5 (c:=c) (nx:=nx) (mk:=CW x (Ag P t)) hc 0 (by
    intro i z hz;cases i with
    |zero=>simp at hz;subst hz;simp[CW,Fq,hx]
    |succ i=>simp at hz)
   refine⟨recs,e1,e2,λr hr=>by have:=e3 r hr;exact⟨by omega,by omega,this.2.2⟩,e4,λc' ha AF=> ?_⟩;obtain⟨q1,q2⟩:=e5 c' ha AF;refine⟨?_,q2⟩;rw[if_neg Ap];have hl:=q1.len;generalize (Cq P nx (CW x (Ag P t)) 0 (AR P t) fl).1=l at q1 hl
   match l,hl with
   | [s],_=>exact q1
 ·rename_i hf;simp only[hf,if_false,B1];obtain⟨h1,rfl⟩:=h;exact⟨[],rfl,rfl,by simp,by simp,λc' ha AF=>⟨.e (f:=rf) (by rw[ha.w,ha.ρ,hx];exact h1) AF .nil,by simp⟩⟩
theorem fQ{ts:List TypeId}{fl:List Bool}{x:E}{vs:List Value}{ys:List AV}{rf hs:List Nat}(h:Jf P w' ts fl vs ys rf hs):∀(nx i:Nat),(∀k y,ys[k]?=some y->(E.proj x (i+k)).den c.ρ=y)->
  ∃recs:List Az,(J0 P nx ts fl x i).2=recs.map Az.pair/\recs.flatMap Az.top=hs/\(∀r∈recs,nx<=r.tag/\r.tag<nx+(ts.flatMap (AR P)).length/\r.new.isSome)/\(recs.map Az.tag).Nodup/\
   ∀c',D6 c c' w' recs->(∀b∈rf,c'.ok b)->SR c' (J0 P nx ts fl x i).1 vs/\ ∀r∈recs,CF c' r.tag r.au:=by
 induction h with
 |nil=>exact λnx i _=>⟨[],rfl,rfl,by simp,by simp,λc' _ _=>⟨.nil,by simp⟩⟩
 | @cons t ts fl v vs y ys f h rf hs h1 _ ih=>
  intro nx i hx;obtain⟨r1,a1,a2,a3,a4,a5⟩:=XD (c:=c) (nx:=nx) (x:= .proj x i) h1 (hx 0 y rfl);obtain⟨r2,b1,b2,b3,b4,b5⟩:=ih (nx+(AR P t).length) (i+1) (λk z hz=>by rw[show i+1+k=i+(k+1)from by omega];exact hx (k+1) z (by simpa using hz));simp only[J0];refine⟨r1++r2,by simp[a1,b1],by simp[a2,b2],λr hr=> ?_,?_,λc' ha AF=> ?_⟩
  ·simp only[List.flatMap_cons,AZ];rcases Ae.1 hr with hr|hr
   ·have:=a3 r hr;exact⟨this.1,by omega,this.2.2⟩
   ·have:=b3 r hr;exact⟨by omega,by omega,this.2.2⟩
  ·rw[List.map_append,List.nodup_append];refine⟨a4,b4,λt1 Oc t2 Od he=> ?_⟩;obtain⟨q1,Hu,rfl⟩:=List.mem_map.1 Oc;obtain⟨q2,GQ,rfl⟩:=List.mem_map.1 Od;have:=a3 q1 Hu;have:=b3 q2 GQ;omega
  ·obtain⟨p1,p2⟩:=a5 c' (ha.mono λr hr=>by simp[hr]) λb hb=>AF b (by simp[hb]);obtain⟨q1,q2⟩:=b5 c' (ha.mono λr hr=>by simp[hr]) λb hb=>AF b (by simp[hb]);refine⟨p1.cons q1,λr hr=> ?_⟩;rcases Ae.1 hr with hr|hr
   ·exact p2 r hr
   ·exact q2 r hr
end
theorem O6{α:Type}{f:α->List Nat}:∀{l:List α},(l.flatMap f).Nodup->(∀a∈l,(f a).Nodup)/\ ∀(i j:Nat) (a b:α) (x:Nat),l[i]?=some a->l[j]?=some b->x∈f a->x∈f b->i=j
 | [],_=>⟨by simp,by simp⟩
 |a::l,h=>by
  rw[List.flatMap_cons,List.nodup_append]at h;obtain⟨h1,h2,h3⟩:=h;obtain⟨k1,k2⟩:=O6 h2;refine⟨λb hb=> ?_,λi j p q x hi hj hp hq=> ?_⟩
  ·rcases Ac.1 hb with rfl|hb
   ·exact h1
   ·exact k1 b hb
  ·cases i with
   |zero=>
    cases j with
    |zero=>rfl
    |succ j=>simp at hi hj;subst hi;exact absurd rfl (h3 x hp x (List.mem_flatMap.2 ⟨q,List.mem_of_getElem? hj,hq⟩))
   |succ i=>
    cases j with
    |zero=>simp at hi hj;subst hj;exact absurd rfl (h3 x hq x (List.mem_flatMap.2 ⟨p,List.mem_of_getElem? hi,hp⟩))
    |succ j=>rw[k2 i j p q x (by simpa using hi) (by simpa using hj) hp hq]
theorem Mm{recs:List Az}(hn:(recs.map Az.tag).Nodup){r:Az}(hr:r∈recs)(p:Az->Bool)(hp:p r=true)(Dt:∀q,p q=true->q.tag=r.tag):recs.find? p=some r:=by
 induction recs with
 |nil=>simp at hr
 |cons q recs ih=>
  simp only[List.map_cons,List.nodup_cons]at hn;rw[List.find?_cons];rcases Ac.1 hr with rfl|hr
  ·simp[hp]
  ·have:p q=false:=by
    cases hq:p q with
    |false=>rfl
    |true=>exact absurd (List.mem_map.2 ⟨r,hr,(Dt q hq).symm⟩) hn.1
   rw[this];exact ih hn.2 hr
def Cx.cr(c:Cx)(w':World)(recs:List Az):Cx:=
 {c with w:=w',G:=λt=>(match recs.find? (λr=>r.tag==t)with|some r=>⟨r.top,[]⟩|none=>c.G t),K:=λt g=>c.K t g\/ ∃r∈recs,r.tag=t/\r.new.isSome=true/\g=0,H:=λt g=>(match recs.find? (λr=>r.tag==t&&r.new.isSome)with|some r=>r.new.getD undef|none=>c.H t g),U:=λt=>c.U t\/ ∃r∈recs,r.tag=t,E:=λt=>match recs.find? (λr=>r.tag==t)with|some r=>if r.new.isSome then 0 else c.E t+1|none=>c.E t}
section
variable {P:Program} {c:Cx} {n:Nat} {sl:Nat->SV} {hp:Nat->Option Ab} {a:Act} {w':World} {recs:List Az}
theorem Cx.cw(hn:(recs.map Az.tag).Nodup){r:Az}(hr:r∈recs):(c.cr w' recs).G r.tag=⟨r.top,[]⟩:=by simp only[Cx.cr];rw[Mm hn hr (λq=>q.tag==r.tag) (by simp) (λq hq=>by simpa using hq)]
theorem Cx.cd{t:Nat}(ht:∀r∈recs,r.tag≠t):(c.cr w' recs).G t=c.G t:=by
 simp only[Cx.cr];have:recs.find? (λr=>r.tag==t)=none:=by rw[List.find?_eq_none];intro r hr;simpa using ht r hr
 rw[this]
theorem Cx.cm(hU:∀t g,c.K t g->c.U t)(hn:(recs.map Az.tag).Nodup)(AM:∀r∈recs,r.new.isSome=true-> ¬c.U r.tag):D6 c (c.cr w' recs) w' recs:=by
 refine⟨rfl,rfl,λr hr=>Cx.cw hn hr,λr hr hv Qn=>⟨.inr ⟨r,hr,rfl,by simp[Qn],rfl⟩,λg hg=> ?_,?_⟩,λt g hk=>⟨.inl hk,?_⟩,λt ht g hk=> ?_,λr hr hs=> ?_,λr hr hs=> ?_⟩
 ·rcases hg with hg|⟨_,_,_,_,rfl⟩
  ·exact absurd (hU _ _ hg) (AM r hr (by simp[Qn]))
  ·exact Ax _
 ·simp only[Cx.cr];rw[Mm hn hr (λq=>q.tag==r.tag&&q.new.isSome) (by simp[Qn]) (λq hq=>by simp only[Ad,AA]at hq;exact hq.1)];simp[Qn]
 ·simp only[Cx.cr];have:recs.find? (λr=>r.tag==t&&r.new.isSome)=none:=by
   rw[List.find?_eq_none];rintro r hr hh;simp only[Ad,AA]at hh;exact AM r hr hh.2 (hh.1▸hU t g hk)
  rw[this]
 ·rcases hk with hk|⟨r,hr,rfl,hh,_⟩
  ·exact hk
  ·exact absurd ht (AM r hr hh)
 ·simp only[Cx.cr];rw[Mm hn hr (λq=>q.tag==r.tag) (by simp) (λq hq=>by simpa using hq)];simp[hs]
 ·simp only[Cx.cr];rw[Mm hn hr (λq=>q.tag==r.tag) (by simp) (λq hq=>by simpa using hq)];simp[hs]
theorem Cx.gf{t:Nat}(ht:∀r∈recs,r.tag≠t):(c.cr w' recs).E t=c.E t:=by
 simp only[Cx.cr];have:recs.find? (λr=>r.tag==t)=none:=by rw[List.find?_eq_none];intro r hr;simpa using ht r hr
 rw[this]
theorem Rel.changes(h:Rel c n sl hp a){hs:List Nat}{gs:Gd}(k:A0 c.ρ gs)(BT:Mod hs c.w w')(hn:(recs.map Az.tag).Nodup)(AM:∀r∈recs,r.new.isSome=true-> ¬c.U r.tag)
  (FA:∀b∈hs,∃r∈recs,b∈(c.G r.tag).top) (DU:(recs.flatMap Az.top).Nodup) (Cm:∀r∈recs,∀b∈r.top,(b∈hs\/c.w.heap.size<=b)/\b<w'.heap.size)
  (BE:∀r∈recs,∀hs f,r.au≠ .gd hs f) (A8:C6 c (c.cr w' recs)-> ∀r∈recs,CF (c.cr w' recs) r.tag r.au):
  Rel (c.cr w' recs) n sl (AT hp (recs.map λr=>(r.tag,Cj gs r.au))) a/\C6 c (c.cr w' recs):=by
 have aft:=Cx.cm (w':=w') h.az hn AM;have Xd:∀b∈hs,c.M b:=λb hb=>by obtain⟨r,_,hr⟩:=FA b hb;exact⟨_,hr⟩
 have A9:∀b∈hs,c.B<=b\/c.Mu b:=λb hb=>by obtain⟨r,_,hr⟩:=FA b hb;exact h.gw.allow r.tag b (by simp[GI.own,hr])
 have By:C6 c (c.cr w' recs):=by
  refine⟨rfl,rfl,λb hb AF=>⟨λ⟨t,ht⟩=> ?_,AF.2⟩,λb hb AF=>BT.block b hb λhh=>AF.1 (Xd b hh),aft.K,λt g hk=> ?_⟩;by_cases hT:∃r∈recs,r.tag=t
  ·obtain⟨r,hr,rfl⟩:=hT;rw[Cx.cw hn hr]at ht;rcases(Cm r hr b ht).1 with hh|hh
   ·exact AF.1 (Xd b hh)
   ·omega
  ·rw[Cx.cd λr hr hh=>hT ⟨r,hr,hh⟩]at ht;exact AF.1 ⟨t,ht⟩
  ·by_cases hT:∃r∈recs,r.tag=t
   ·obtain⟨r,hr,rfl⟩:=hT;have Di:r.new=none:=by
     cases hh:r.new with
     |none=>rfl
     |some v=>exact absurd (h.az _ _ hk) (AM r hr (by simp[hh]))
    rw[aft.ej r hr Di];exact⟨by omega,λh=>by omega⟩
   ·have WL:∀r∈recs,r.tag≠t:=λr hr hh=>hT ⟨r,hr,hh⟩;rw[Cx.gf WL,Cx.cd WL];refine⟨Ax _,λ_=>⟨rfl,λb hb FW=>BT.block b FW λhh=> ?_⟩⟩;obtain⟨r,hr,Nl⟩:=FA b hh;exact h.gw.bm t r.tag (λhh=>hT ⟨r,hr,hh.symm⟩) b (by simp[GI.own,hb]) (by simp[GI.own,Nl])
 have A8:=A8 By;have Hz:∀r∈recs,∀e',(r.tag,e')∈(recs.map λr=>(r.tag,Cj gs r.au))->e'=Cj gs r.au:=by
  intro r hr e' D3;obtain⟨q,hq,HX⟩:=List.mem_map.1 D3;simp only[AB]at HX;obtain⟨h1,rfl⟩:=HX;have e1:=Cx.cw (c:=c) (w':=w') hn hr;have:q=r:=by have f1:=Mm hn hr (λq=>q.tag==r.tag) (by simp) (λq hq=>by simpa using hq);have f2:=Mm hn hq (λp=>p.tag==r.tag) (by simp[h1]) (λp hp=>by rw[h1];simpa using hp);rw[f1]at f2;cases f2;rfl
  rw[this]
 refine⟨h.change (λt=> ∃r∈recs,r.tag=t) By ⟨BT.os.trans h.base.os,BT.tape.trans h.base.tape,BT.output.trans h.base.output,Nat.le_trans h.base.size BT.size,λt v LU=>⟨.inl (h.base.pins t v LU).1,λhk=> ?_⟩,λb hb E1=> ?_,h.base.pk,h.base.lo⟩
  (λt ht=>⟨I0 λe he=> ?_,Cx.cd λr hr hh=>ht ⟨r,hr,hh⟩,Cx.gf λr hr hh=>ht ⟨r,hr,hh⟩,λg hg=> ?_⟩) (λt ht b hb=>BT.block b (h.gw.inb t b (by simp[GI.own,hb])) λhh=> ?_) (λt ht=> ?_) ⟨λt=> ?_,λt u JO b hb Bt=> ?_,λt b hb=> ?_,λt b hb=> ?_⟩ (λt g hk=> ?_) (λt e he=> ?_),By⟩
 ·have BJ:=aft.old t (h.base.pins t v LU).1 0 hk;rw[(aft.K t 0 BJ).2];exact(h.base.pins t v LU).2 BJ
 ·refine(BT.block b (Nat.lt_of_lt_of_le hb h.base.size) λhh=> ?_).trans (h.base.block b hb E1);rcases A9 b hh with h1|h1
  ·exact absurd h1 (Nat.not_le.2 hb)
  ·exact E1 h1
 ·obtain⟨q,hq,HX⟩:=List.mem_map.1 he;simp only[AB]at HX;exact ht ⟨q,hq,HX.1⟩
 ·rcases hg with hg|⟨r,hr,Hv,_⟩
  ·exact hg
  ·exact absurd ⟨r,hr,Hv⟩ ht
 ·obtain⟨r,hr,FW⟩:=FA b hh;exact h.gw.bm t r.tag (λhh=>ht ⟨r,hr,hh.symm⟩) b (by simp[GI.own,hb]) (by simp[GI.own,FW])
 ·obtain⟨r,hr,rfl⟩:=ht;have Df:=Vy (hp:=hp) (l:=recs.map λr=>(r.tag,Cj gs r.au)) (List.mem_map.2 ⟨r,hr,rfl⟩) (Hz r hr);rw[Df];refine⟨λe' N6=> ?_,λDi=> ?_⟩
  ·rw[(Mn k (BE r hr)).1 N6];exact A8 r hr
  ·exact absurd ((Mn k (BE r hr)).2 rfl) (Di r.au)
 ·by_cases hT:∃r∈recs,r.tag=t
  ·obtain⟨r,hr,rfl⟩:=hT;rw[Cx.cw hn hr];simpa[GI.own]using(O6 DU).1 r hr
  ·rw[Cx.cd λr hr hh=>hT ⟨r,hr,hh⟩];exact h.gw.nodup t
 ·by_cases hT:∃r∈recs,r.tag=t
  ·obtain⟨r,hr,rfl⟩:=hT;rw[Cx.cw hn hr]at hb;simp only[GI.own,AG]at hb;by_cases hV:∃r∈recs,r.tag=u
   ·obtain⟨q,hq,rfl⟩:=hV;rw[Cx.cw hn hq]at Bt;simp only[GI.own,AG]at Bt;obtain⟨i,hi⟩:=List.getElem?_of_mem hr;obtain⟨j,hj⟩:=List.getElem?_of_mem hq;have:=(O6 DU).2 i j r q b hi hj hb Bt;subst this;rw[hi]at hj;cases hj;exact JO rfl
   ·rw[Cx.cd λr hr hh=>hV ⟨r,hr,hh⟩]at Bt;rcases(Cm r hr b hb).1 with hh|hh
    ·obtain⟨q,hq,bP⟩:=FA b hh;exact h.gw.bm q.tag u (λhh=>hV ⟨q,hq,hh⟩) b (by simp[GI.own,bP]) Bt
    ·have:=h.gw.inb u b Bt;omega
  ·rw[Cx.cd λr hr hh=>hT ⟨r,hr,hh⟩]at hb;by_cases hV:∃r∈recs,r.tag=u
   ·obtain⟨q,hq,rfl⟩:=hV;rw[Cx.cw hn hq]at Bt;simp only[GI.own,AG]at Bt;rcases(Cm q hq b Bt).1 with hh|hh
    ·obtain⟨r,hr,P8⟩:=FA b hh;exact h.gw.bm r.tag t (λhh=>hT ⟨r,hr,hh⟩) b (by simp[GI.own,P8]) hb
    ·have:=h.gw.inb t b hb;omega
   ·rw[Cx.cd λr hr hh=>hV ⟨r,hr,hh⟩]at Bt;exact h.gw.bm t u JO b hb Bt
 ·by_cases hT:∃r∈recs,r.tag=t
  ·obtain⟨r,hr,rfl⟩:=hT;rw[Cx.cw hn hr]at hb;simp only[GI.own,AG]at hb;rcases(Cm r hr b hb).1 with hh|hh
   ·exact A9 b hh
   ·exact .inl (Nat.le_trans h.base.size hh)
  ·rw[Cx.cd λr hr hh=>hT ⟨r,hr,hh⟩]at hb;exact h.gw.allow t b hb
 ·by_cases hT:∃r∈recs,r.tag=t
  ·obtain⟨r,hr,rfl⟩:=hT;rw[Cx.cw hn hr]at hb;simp only[GI.own,AG]at hb;exact(Cm r hr b hb).2
  ·rw[Cx.cd λr hr hh=>hT ⟨r,hr,hh⟩]at hb;exact Nat.lt_of_lt_of_le (h.gw.inb t b hb) BT.size
 ·rcases hk with hk|⟨r,hr,Hv,_⟩
  ·exact .inl (h.az t g hk)
  ·exact .inr ⟨r,hr,Hv⟩
 ·by_cases hT:∃r∈recs,r.tag=t
  ·exact .inr hT
  ·rw[I0]at he
   ·exact .inl (h.bw t e he)
   ·intro e' D3;obtain⟨q,hq,HX⟩:=List.mem_map.1 D3;simp only[AB]at HX;exact hT ⟨q,hq,HX.1⟩
end
def Wz(P:Program)(w:World)(t:TypeId):PM->Value->AV->List Nat->List Nat->Prop
 | .ro,v,x,rf,hs=>Rd w [v] [x] rf/\hs=[]
 | .va own,v,x,rf,hs=>Lz P w t own v x rf hs
 | .mu own,v,x,rf,hs=>Lz P w t own v x rf hs
 | .bx own _,v,x,rf,hs=> ∃(ty:TypeId) (b:Nat) (C:Array Value) (ys:List AV) (h:List Nat),Im P t=some ty/\v= .pointer (some ⟨b,0,none⟩)/\w.heap[b]?=some (.cells C ty (0,0))/\(∀u∈C.toList,u.oneCell'=true)/\x= .ref (.agg ys)/\
   B5 P w (AR P ty) own C.toList ys rf h/\hs=b::h
inductive CV(P:Program)(w:World):List TypeId->List PM->List Bool->List Value->List AV->List Nat->List Nat->List Nat->Prop where
 |nil {ms lo}:CV P w [] ms lo [] [] [] [] []
 |cons {t ts ms lo v vs x xs f h rf lf hs}:Wz P w t (ms.headD .ro) v x f h->CV P w ts ms.tail lo.tail vs xs rf lf hs->CV P w (t::ts) ms lo (v::vs) (x::xs) (f++rf) lf (h++hs)
 |lent {t ts ms lo v vs x xs f rf lf hs}:lo.headD false=true->ms.headD .ro= .ro->Rd w [v] [x] f->CV P w ts ms.tail lo.tail vs xs rf lf hs->CV P w (t::ts) ms lo (v::vs) (x::xs) rf (f++lf) hs
 |free {ms lo v vs x xs f rf lf hs}:Rd w [v] [x] f->CV P w [] ms.tail lo.tail vs xs rf lf hs->CV P w [] ms lo (v::vs) (x::xs) (f++rf) lf hs
inductive Fm(P:Program)(c:Cx):List TypeId->List Bool->List Value->List (Option RI)->Prop where
 |nil {fl}:Fm P c [] fl [] []
 |row {t ts fl v vs u g el rs}:fl.headD false=true->Cb P t=some el->(BI P el=true\/Dg P t=none)->c.K u g->c.H u g=v->(∀g',c.K u g'->g'<=g)->Fm P c ts fl.tail vs rs->Fm P c (t::ts) fl (v::vs) (some (.fl u g el (P.cellsOf el) (BI P el))::rs)
 |deep {t ts fl v vs u g el e z l ep rs}:fl.headD false=true->Cb P t=some el->BI P el=false->Dg P t=some (.row e z (Av.of l))->c.K u g->c.H u g=v->(∀g',c.K u g'->g'<=g)->c.E u=ep->Fm P c ts fl.tail vs rs->Fm P c (t::ts) fl (v::vs) (some (.dp u g e z l ep)::rs)
 |none {t ts fl v vs rs}:(fl.headD false=true->Cb P t=none\/ ∃a,v= .slice a 0 0)->Fm P c ts fl.tail vs rs->Fm P c (t::ts) fl (v::vs) (none::rs)
inductive G0(P:Program)(c:Cx):List TypeId->List PM->List Value->List PA->Prop where
 |nil {ts ms}:G0 P c ts ms [] []
 |ro {ts ms v vs bs}:ms.headD .ro= .ro->G0 P c ts.tail ms.tail vs bs->G0 P c ts ms (v::vs) bs
 |va {ts ms own v vs bs us}:ms.headD .ro= .va own->(∀u∈us,c.U u)->G0 P c ts.tail ms.tail vs bs->G0 P c ts ms (v::vs) (.va us::bs)
 |mu {t ts ms own v vs bs us rs}:ms.headD .ro= .mu own->(if Ag P t then v= .agg us.toArray else us=[v])->Fm P c (AR P t) own us rs->G0 P c ts ms.tail vs bs->G0 P c (t::ts) ms (v::vs) (.mu rs (Ag P t)::bs)
 |bx {t ts ms own own' ty v vs bs T b g olds}:ms.headD .ro= .bx own own'->Im P t=some ty->v= .pointer (some ⟨b,0,none⟩)->c.K T 0->c.H T 0=v->(∀u∈olds,c.U u)->G0 P c ts ms.tail vs bs->G0 P c (t::ts) ms (v::vs) (.box T g own' ty olds::bs)
section
variable {P:Program} {c:Cx} {hp:Nat->Option Ab} {gs:Gd}
theorem Pf{t el:TypeId}{d:DT}(A2:Cb P t=some el)(h:Dg P t=some d):P.cellsOf el≠0/\(AR P el).length=P.cellsOf el/\ ∃l:List DT,d= .row el (P.cellsOf el) (Av.of l)/\l.length=P.cellsOf el:=by
 have hu:=GZ A2;unfold Dg at h;split at h
 ·cases h
 simp only[Sw,hu]at h;split at h
 ·cases h
 ·rename_i hh;simp only[not_or,Decidable.not_not,ne_eq]at hh;obtain⟨l,hl,rfl⟩:=Aj.1 h;exact⟨hh.1,hh.2,l,rfl,by rw[mapM_len _ _ hl];exact hh.2⟩
where
 mapM_len {α β:Type} {f:α->Option β}:∀(l:List α) (l':List β),l.mapM f=some l'->l'.length=l.length
  | [],l',h=>by simp at h;subst h;rfl
  |a::l,l',h=>by simp only[List.mapM_cons,Option.bind_eq_bind,Ak,Option.pure_def,Aa]at h;obtain⟨b,_,bs,Kr,rfl⟩:=h;simp[mapM_len l bs Kr]
theorem B5.void{w:World}{t el:TypeId}{ts:List TypeId}{fl:List Bool}{a:Option Addr}{us:List Value}{ys:List AV}{rf hs:List Nat}(h1:fl.headD false=true)(h2:Cb P t=some el)(hz:P.cellsOf el≠0)(h:B5 P w ts fl.tail us ys rf hs):B5 P w (t::ts) fl (.slice a 0 0::us) (.sl []::ys) rf ([]++hs):=by
 have A9:Cp w el (P.cellsOf el) (.slice a 0 0) (.sl []) [] []:=⟨[],rfl,by simp,by omega, .inl ⟨rfl,⟨a,rfl⟩,rfl,rfl⟩⟩
 cases hf:BI P el with
 |true=>exact .own h1 h2 (.inl ⟨hf,rfl⟩) A9 h
 |false=>
  cases hd:Dg P t with
  |none=>exact .own h1 h2 (.inr ⟨hf,hd⟩) A9 h
  |some d=>obtain⟨_,_,l,rfl,hl⟩:=Pf h2 hd;exact .deep h1 h2 hf hd (.void (by omega) (by rw[Av.aj];exact hl) .nil) h
theorem X4{as_ bs:List Value}(h:Value.agg as_.toArray= .agg bs.toArray):as_=bs:=by
 have h1:as_.toArray=bs.toArray:=by injection h
 have:=congrArg Array.toList h1;simpa using this
theorem Uv(eh:EH c hp)(k:A0 c.ρ gs)(hU:∀t g,c.K t g->c.U t):∀(ts:List TypeId) {cs:List SV} {fl:List Bool} {rs:List (Option RI)} {us:List Nat} {vs:List Value} {xs:EL} {m:Nat},FI P hp gs ts cs fl=some (rs,us)->SR c cs vs->B8 hp gs m cs=some xs->m<=AJ->
  ∃rf hs,B5 P c.w ts fl vs (xs.den c.ρ) rf hs/\(∀b∈rf,c.c9 us b)/\hs=(Cg rs).flatMap (λt=>(c.G t).top)/\Fm P c ts fl vs rs/\ ∀u∈Cg rs,c.U u
 | [],[],fl,rs,us,vs,xs,m,h,hs,hx,hm=>by
  simp[FI]at h;obtain⟨rfl,rfl⟩:=h;cases hs;cases m with
  |zero=>simp[B8]at hx
  |succ m=>simp[B8]at hx;subst hx;exact⟨[],[], .nil,by simp,by simp[Cg], .nil,by simp[Cg]⟩
 | [],s::cs,fl,rs,us,vs,xs,m,h,hs,hx,hm=>by simp[FI]at h
 |t::ts,[],fl,rs,us,vs,xs,m,h,hs,hx,hm=>by simp[FI]at h
 |t::ts,s::cs,fl,rs,us,[],xs,m,h,hs,hx,hm=>by have:=hs.len;simp at this
 |t::ts,s::cs,fl,rs,us,v::vs,xs,m,h,hs,hx,hm=>by
  obtain⟨j,y,ys,rfl,hy,CC,rfl⟩:=H7 hx;obtain⟨r1,r2⟩:=hs.bd;unfold FI at h;split at h
  ·cases h
  rename_i rs' us' CA;obtain⟨rf,AY,q1,q2,q3,q4,q5⟩:=Uv eh k hU ts CA r2 CC (by omega);split at h
  ·rename_i hf;split at h
   ·rename_i r hr;simp only[Aa,AB]at h;obtain⟨rfl,rfl⟩:=h;unfold VK at hr;split at hr
    ·cases hr
    rename_i el A2;split at hr
    ·cases hr
    rename_i hz;have empt:∀a,v= .slice a 0 0->y.den c.ρ= .sl []->r=none-> ∃rf hs,B5 P c.w (t::ts) fl (v::vs) ((EL.cons y ys).den c.ρ) rf hs/\(∀b∈rf,c.c9 us' b)/\hs=(Cg (r::rs')).flatMap (λt=>(c.G t).top)/\Fm P c (t::ts) fl (v::vs) (r::rs')/\ ∀u∈Cg (r::rs'),c.U u:=by rintro a rfl F4 rfl;refine⟨rf,[]++AY,?_,q2,by simpa[Cg]using q3, .none (λ_=> .inr ⟨a,rfl⟩) q4,by simpa[Cg]using q5⟩;rw[EL.den,F4];exact B5.void hf A2 (by omega) q1
    split at hr
    ·simp only[Aa]at hr;subst hr;cases r1 with
     |bb _=>exact empt _ rfl (by rw[IX hy];rfl) rfl
    ·simp only[Aa]at hr;subst hr;cases r1 with
     |emp _=>
      refine empt _ rfl ?_ rfl;cases j with
      |zero=>simp[A5]at hy
      |succ j=>simp[A5]at hy;subst hy;rfl
    ·rename_i u g;split at hr
     ·rename_i e z g' x d hl;split at hr
      ·rename_i hh;obtain⟨rfl,rfl,rfl,Fw⟩:=hh;simp only[Aa]at hr;subst hr;obtain⟨p1,p2,N,p3,p4,p5,_⟩:=eh u _ (Cc hl k);have Kz:BI P e=true\/Dg P t=none:=Fw.imp (·.1) (by rintro⟨_,h⟩;simpa using h);have Fw:BI P e=true/\N=[]\/BI P e=false/\Dg P t=none:=by
        rcases Fw with⟨h1,h2⟩|⟨h1,h2⟩
        ·exact .inl ⟨h1,(p5 h2).1⟩
        ·exact .inr ⟨h1,by simpa using h2⟩
       have FF:y=x:=by
        cases j with
        |zero=>simp[A5]at hy
        |succ j=>simp[A5,GA,hl]at hy;exact hy.symm
       subst FF;have hv:c.H u g=v:=by
        cases r1 with
        |own _ k2 _=>exact k2
       rw[hv]at p3;refine⟨N++rf,(c.G u).top++AY,B5.own hf A2 Fw p3 q1,λb hb=> ?_,by simp[Cg,RI.tag,q3], .row hf A2 Kz p1 hv p2 q4,λw hw=> ?_⟩
       ·rcases Ae.1 hb with hb|hb
        ·exact .inl (p4 b hb)
        ·exact q2 b hb
       simp only[Cg,List.filterMap_cons,Option.map_some,RI.tag,Ac]at hw;rcases hw with rfl|hw
       ·exact hU _ _ p1
       ·exact q5 w hw
      ·cases hr
     ·rename_i e z l g' ep x hl;split at hr
      ·rename_i hh;obtain⟨rfl,E4,CP⟩:=hh;have CP:=Rn CP;simp only[Aa]at hr;subst hr;obtain⟨p1,p2,pE,p3,_⟩:=eh u _ (Cc hl k);have FF:y=x:=by
        cases j with
        |zero=>simp[A5]at hy
        |succ j=>simp[A5,GA,hl]at hy;exact hy.symm
       subst FF;have hv:c.H u g=v:=by
        cases r1 with
        |own _ k2 _=>exact k2
       rw[hv]at p3;refine⟨rf,(c.G u).top++AY,B5.deep hf A2 E4 CP p3 q1,q2,by simp[Cg,RI.tag,q3], .deep hf A2 E4 CP p1 hv p2 pE q4,λw hw=> ?_⟩;simp only[Cg,List.filterMap_cons,Option.map_some,RI.tag,Ac]at hw;rcases hw with rfl|hw
       ·exact hU _ _ p1
       ·exact q5 w hw
      ·cases hr
     ·cases hr
    ·cases hr
   ·cases h
  ·rename_i hf;simp only[Aa,AB]at h;obtain⟨rfl,rfl⟩:=h;obtain⟨f,p1,p2⟩:=Gb eh k j hy r1 AJ (by omega);refine⟨f++rf,AY,B5.rd (λhh=>absurd hh hf) p1 q1,λb hb=> ?_,by simpa[Cg]using q3, .none (λhh=>absurd hh hf) q4,by simpa[Cg]using q5⟩;rcases Ae.1 hb with hb|hb
   ·exact(p2 b hb).mono λt ht=>by simp[ht]
   ·exact(q2 b hb).mono λt ht=>by simp[ht]
theorem XL(eh:EH c hp)(k:A0 c.ρ gs)(hU:∀t g,c.K t g->c.U t){t:TypeId}{s:SV}{v:Value}{fl:List Bool}{rs:List (Option RI)}{us:List Nat}{x:E}(hs:SR c [s] [v])(hx:A5 hp gs AJ s=some x)(hg:(F7 s).2=Ag P t)
  (h:FI P hp gs (AR P t) (F7 s).1 fl=some (rs,us)):
  ∃rf hs,Lz P c.w t fl v (x.den c.ρ) rf hs/\(∀b∈rf,c.c9 us b)/\hs=(Cg rs).flatMap (λt=>(c.G t).top)/\(∃vs',(if Ag P t then v= .agg vs'.toArray else vs'=[v])/\Fm P c (AR P t) fl vs' rs)/\ ∀u∈Cg rs,c.U u:=by
 have single:∀(s:SV),SR c [s] [v]->A5 hp gs AJ s=some x->Ag P t=false->FI P hp gs (AR P t) [s] fl=some (rs,us)-> ∃rf hs,Lz P c.w t fl v (x.den c.ρ) rf hs/\(∀b∈rf,c.c9 us b)/\hs=(Cg rs).flatMap (λt=>(c.G t).top)/\(∃vs',(if Ag P t then v= .agg vs'.toArray else vs'=[v])/\Fm P c (AR P t) fl vs' rs)/\ ∀u∈Cg rs,c.U u:=by
  intro s hs hx Ap h;obtain⟨t0,JN⟩:∃t0,AR P t=[t0]:=by
   cases hh:AR P t with
   |nil=>rw[hh]at h;simp[FI]at h
   |cons t0 l=>
    cases l with
    |nil=>exact⟨t0,rfl⟩
    |cons t1 l=>rw[hh]at h;simp[FI]at h
  rw[JN]at h;have key:∃rf hs,B5 P c.w [t0] fl [v] [x.den c.ρ] rf hs/\(∀b∈rf,c.c9 us b)/\hs=(Cg rs).flatMap (λt=>(c.G t).top)/\Fm P c [t0] fl [v] rs/\ ∀u∈Cg rs,c.U u:=by
   unfold FI at h;simp only[FI]at h;split at h
   ·rename_i hf;split at h
    ·rename_i r hr;simp only[Aa,AB]at h;obtain⟨rfl,rfl⟩:=h;unfold VK at hr;split at hr
     ·cases hr
     rename_i el A2;split at hr
     ·cases hr
     rename_i hz;have empt:∀a,v= .slice a 0 0->x.den c.ρ= .sl []->r=none-> ∃rf hs,B5 P c.w [t0] fl [v] [x.den c.ρ] rf hs/\(∀b∈rf,c.c9 ([]:List Nat) b)/\hs=(Cg [r]).flatMap (λt=>(c.G t).top)/\Fm P c [t0] fl [v] [r]/\ ∀u∈Cg [r],c.U u:=by rintro a rfl F4 rfl;refine⟨[],[]++ [],?_,by simp,by simp[Cg], .none (λ_=> .inr ⟨a,rfl⟩) .nil,by simp[Cg]⟩;rw[F4];exact B5.void hf A2 (by omega) .nil
     split at hr
     ·simp only[Aa]at hr;subst hr;cases hs with
      |bb _=>exact empt _ rfl (by rw[IX hx];rfl) rfl
     ·simp only[Aa]at hr;subst hr;cases hs with
      |emp _=>refine empt _ rfl ?_ rfl;simp[AJ,A5]at hx;subst hx;rfl
     ·rename_i u g;split at hr
      ·rename_i e z g' x0 d hl;split at hr
       ·rename_i hh;obtain⟨rfl,rfl,rfl,Fw⟩:=hh;simp only[Aa]at hr;subst hr;obtain⟨p1,p2,N,p3,p4,p5,_⟩:=eh u _ (Cc hl k);have Kz:BI P e=true\/Dg P t0=none:=Fw.imp (·.1) (by rintro⟨_,h⟩;simpa using h);have Fw:BI P e=true/\N=[]\/BI P e=false/\Dg P t0=none:=by
         rcases Fw with⟨h1,h2⟩|⟨h1,h2⟩
         ·exact .inl ⟨h1,(p5 h2).1⟩
         ·exact .inr ⟨h1,by simpa using h2⟩
        have FF:x=x0:=by simp[AJ,A5,GA,hl]at hx;exact hx.symm
        subst FF;have hv:c.H u g=v:=by
         cases hs with
         |own _ k2 _=>exact k2
        rw[hv]at p3;refine⟨N++ [],(c.G u).top++ [],B5.own hf A2 Fw p3 .nil,λb hb=> .inl (p4 b (by simpa using hb)),by simp[Cg,RI.tag], .row hf A2 Kz p1 hv p2 .nil,λw hw=> ?_⟩;simp only[Cg,List.filterMap_cons,Option.map_some,RI.tag,List.filterMap_nil,Ac,List.not_mem_nil,or_false]at hw;subst hw;exact hU _ _ p1
       ·cases hr
      ·rename_i e z l g' ep x0 hl;split at hr
       ·rename_i hh;obtain⟨rfl,E4,CP⟩:=hh;have CP:=Rn CP;simp only[Aa]at hr;subst hr;obtain⟨p1,p2,pE,p3,_⟩:=eh u _ (Cc hl k);have FF:x=x0:=by
         simp[AJ,A5,GA,hl]at hx;exact hx.symm
        subst FF;have hv:c.H u g=v:=by
         cases hs with
         |own _ k2 _=>exact k2
        rw[hv]at p3;refine⟨[],(c.G u).top++ [],B5.deep hf A2 E4 CP p3 .nil,by simp,by simp[Cg,RI.tag], .deep hf A2 E4 CP p1 hv p2 pE .nil,λw hw=> ?_⟩;simp only[Cg,List.filterMap_cons,Option.map_some,RI.tag,List.filterMap_nil,Ac,List.not_mem_nil,or_false]at hw;subst hw;exact hU _ _ p1
       ·cases hr
      ·cases hr
     ·cases hr
    ·cases h
   ·rename_i hf;simp only[Aa,AB]at h;obtain⟨rfl,rfl⟩:=h;obtain⟨f,p1,p2⟩:=Gb eh k AJ hx hs AJ (Ax _);refine⟨f++ [],[],B5.rd (λhh=>absurd hh hf) p1 .nil,λb hb=> ?_,by simp[Cg], .none (λhh=>absurd hh hf) .nil,by simp[Cg]⟩;rw[AG]at hb;exact(p2 b hb).mono λt ht=>by simp[ht]
  obtain⟨rf,AY,q1,q2,q3,q4,q5⟩:=key;refine⟨rf,AY,⟨[v],[x.den c.ρ],?_,by rw[JN];exact q1⟩,q2,q3,⟨[v],?_,by rw[JN];exact q4⟩,q5⟩
  ·rw[if_neg (by rw[Ap];simp)];exact⟨rfl,rfl⟩
  ·rw[if_neg (by rw[Ap];simp)]
 cases s with
 |agg cs=>
  simp only[F7]at hg h;obtain⟨m,l,hm,hl,rfl⟩:=Pe hx;cases hs with
  |agg h9 h1 h8=>
   rename_i as_;have El:m<=AJ:=by simp only[AJ]at hm ⊢;omega
   obtain⟨rf,AY,q1,q2,q3,q4,q5⟩:=Uv (P:=P) eh k hU (AR P t) h h1 hl El;refine⟨rf,AY,⟨as_,l.den c.ρ,?_,q1⟩,q2,q3,⟨as_,?_,q4⟩,q5⟩
   ·rw[if_pos hg.symm];exact⟨rfl,rfl,h9⟩
   ·rw[if_pos hg.symm]
 |_=>exact single _ hs hx hg.symm h
end
end
end Go.Proofs.Yteeafhlnofapaaa

/- Parts of a proof, joined: VX, WB, WC, WD, WE, WF, WG, WH, WI, WJ, WK, WL, WM, WN, WO. -/
import Derived.Test.YtalagilebkaegaaGreatE3
import Derived.Orders
import Derived.Lib.SliceRun
import Derived.Laws.Slices
import Derived.Laws.MakeOwn
import Derived.Laws.StructEq
set_option linter.unusedVariables false
set_option linter.unusedSimpArgs false
namespace Go.Proofs.YtalagilebkaegaaGreat
open Go.RowKit
section
theorem CE(n:Nat):((n:Int)).toNat=n:=Int.toNat_natCast n
section
variable {P:Program} {c:Cx} {n nx:Nat} {sl sl0:Nat->SV} {hp hp0:Nat->Option Ah} {a:Act} {o:Oper} {gs:Gd} {e:Bn} {sg:B4} {nv:Nat}
def Cx.fq(c:Cx)(w':World)(t:Nat)(O:List Nat):Cx:={c with w:=w',G:=λu=>if u=t then⟨(c.G t).top,O⟩else c.G u,E:=λu=>if u=t then c.E u+1 else c.E u}
theorem Rel.jq(h:Rel c n sl hp a){t:Nat}{e0:Ah}{b:Nat}{w':World}{O:List Nat}(AN:CR c.ρ (hp t) e0)(Cp:b∈(c.G t).top)(hO:O=[]\/O=(c.G t).O)(hm:Mod [b] c.w w')(Bv:w'.heap.size=c.w.heap.size)(e1:Ah)(A9:∀hs f,e1≠ .gd hs f)
  (he:Ej c (c.fq w' t O)->DJ (c.fq w' t O) t e1):
  Rel (c.fq w' t O) n sl (By hp [(t,e1)]) a:=by
 have Bq:b∈(c.G t).own:=by simp[GI.own,Cp]
 have hG:∀u,(c.fq w' t O).G u=if u=t then⟨(c.G t).top,O⟩else c.G u:=λu=>rfl;have Fg:∀u,((c.fq w' t O).G u).top=(c.G u).top:=by
  intro u;rw[hG];split
  ·rename_i hu;rw[hu]
  ·rfl
 have B7:∀u,∀q∈((c.fq w' t O).G u).own,q∈(c.G u).own:=by
  intro u q hq;rw[hG]at hq;split at hq
  ·rename_i hu;subst hu;simp only[GI.own,Ac]at hq ⊢;rcases hq with hq|hq
   ·exact .inl hq
   ·rcases hO with rfl|rfl
    ·simp at hq
    ·exact .inr hq
  ·exact hq
 have Cj:Ej c (c.fq w' t O):=by
  refine⟨rfl,rfl,λq _ hq=>⟨λ⟨u,hu⟩=>hq.1 ⟨u,by rw[Fg]at hu;exact hu⟩,hq.2⟩,λq hq A5=>hm.block q hq ?_,λu g hu=>⟨hu,rfl⟩,λu g hu=> ?_⟩
  ·simp only[List.mem_singleton];rintro rfl;exact A5.1 ⟨t,Cp⟩
  ·by_cases G9:u=t
   ·have e1:(c.fq w' t O).E u=c.E u+1:=by simp only[Cx.fq,if_pos G9]
    exact⟨by omega,λh=>by omega⟩
   ·have e1:(c.fq w' t O).E u=c.E u:=by simp only[Cx.fq,if_neg G9]
    have e2:(c.fq w' t O).G u=c.G u:=by simp only[Cx.fq,if_neg G9]
    rw[e1];refine⟨AQ _,λ_=>⟨e2,λq hq FJ=>hm.block q FJ ?_⟩⟩;simp only[List.mem_singleton];rintro rfl;exact h.gw.cy t u (Ne.symm G9) q Bq (by simp[GI.own,hq])
 have Ep:∀u,By hp [(t,e1)] u=if u=t then some e1 else hp u:=λu=>rfl;refine h.change (λu=>u=t) Cj ⟨hm.os.trans h.base.os,hm.tape.trans h.base.tape,hm.output.trans h.base.output,Nat.le_trans h.base.size hm.size,h.base.pins,λq hq GJ=> ?_,h.base.pk,h.base.lo⟩
  (λu hu=>⟨by rw[Ep,if_neg hu],by rw[hG,if_neg hu],by simp[Cx.fq,hu],λg hg=>hg⟩) (λu hu q hq=>hm.block q (h.gw.inb u q (by simp[GI.own,hq])) ?_) (λu hu=> ?_) ⟨λu=> ?_,λu v gX q hq G7=>h.gw.cy u v gX q (B7 u q hq) (B7 v q G7),λu q hq=>h.gw.allow u q (B7 u q hq),λu q hq=> ?_⟩ h.ca (λu f hf=> ?_)
 ·refine(hm.block q (Nat.lt_of_lt_of_le hq h.base.size) ?_).trans (h.base.block q hq GJ);simp only[List.mem_singleton];rintro rfl;rcases h.gw.allow t q Bq with hh|hh
  ·exact absurd hh (Nat.not_le.2 hq)
  ·exact GJ hh
 ·simp only[List.mem_singleton];rintro rfl;exact h.gw.cy t u (Ne.symm hu) q Bq (by simp[GI.own,hq])
 ·subst hu;rw[Ep,if_pos rfl];refine⟨λe' hr=> ?_,λhn=> ?_⟩
  ·cases e1<;>first
    |(simp only[CR]at hr;subst hr;exact he Cj)
    |exact absurd rfl (A9 _ _)
  ·cases e1<;>first
    |exact absurd rfl (A9 _ _)
    |exact absurd rfl (hn _)
 ·rw[hG];split
  ·rename_i hu;subst hu;have h0:=h.gw.nodup u;simp only[GI.own]at h0 ⊢;rcases hO with rfl|rfl
   ·rw[AE];exact(List.nodup_append.1 h0).1
   ·exact h0
  ·exact h.gw.nodup u
 ·show q<w'.heap.size;rw[Bv];exact h.gw.inb u q (B7 u q hq)
 ·rw[Ep]at hf;split at hf
  ·rename_i hu;subst hu;cases hh:hp u with
   |none=>rw[hh]at AN;exact AN.elim
   |some e9=>exact h.c6 u e9 hh
  ·exact h.c6 u f hf
theorem S8{α:Type}(L vs:List α)(p m:Nat)(h:p+vs.length<=m)(hm:m<=L.length):(setVs L p vs).take m=setVs (L.take m) p vs:=by
 apply List.ext_getElem?;intro j;have hl:(L.take m).length=m:=by rw[Au];omega
 rw[List.getElem?_take,Tl (L.take m) vs p (by omega) j,Tl L vs p (by omega) j,List.getElem?_take];by_cases h1:p<=j/\j<p+vs.length
 ·rw[if_pos (by omega),if_pos h1,if_pos h1]
 ·rw[if_neg h1,if_neg h1]
theorem Rd.setVs{w:World}{L V:List Value}{X Y:List AV}{N f:List Nat}{p:Nat}(h:Rd w L X N)(k:Rd w V Y f)(hp:p+V.length<=L.length):
  ∃n1 n2 n3,N=n1++n2++n3/\Rd w (Go.Proofs.YtalagilebkaegaaGreat.setVs L p V) (Go.Proofs.YtalagilebkaegaaGreat.setVs X p Y) (n1++f++n3)/\Rd w ((L.drop p).take V.length) ((X.drop p).take V.length) n2:=by
 have hl:=h.len;have hk:=k.len;have e1:L=L.take p++((L.drop p).take V.length++L.drop (p+V.length)):=by rw[<-List.drop_drop,Ck,Ck]
 have e2:X=X.take p++((X.drop p).take V.length++X.drop (p+V.length)):=by rw[<-List.drop_drop,Ck,Ck]
 have h':=h;rw[e1,e2]at h';obtain⟨n1,m,rfl,g1,g2⟩:=Rd.ec (by simp;omega) h';obtain⟨n2,n3,rfl,g3,g4⟩:=Rd.ec (by simp;omega) g2;refine⟨n1,n2,n3,by simp,?_,g3⟩;unfold Go.Proofs.YtalagilebkaegaaGreat.setVs;rw[<-hk];exact(g1.app k).app g4
theorem bC{sz:Nat}:∀(ys:List AV) (k:Nat) (z y:AV) (o:Nat) (vc:List AV),(∀y∈ys,y.cells.length=sz)->ys[k]?=some y->o+vc.length<=sz->z.cells=setVs y.cells o vc->Aq (ys.set k z)=setVs (Aq ys) (k*sz+o) vc
 | [],k,z,y,o,vc,_,h,_,_=>by simp at h
 |q::ys,0,z,y,o,vc,hs,h,ho,hz=>by simp at h;subst h;have hq:=hs q (by simp);simp only[Aq,List.set_cons_zero,List.flatMap_cons,Nat.zero_mul,Nat.zero_add,hz];unfold setVs;rw[List.take_append_of_le_length (by omega),List.drop_append_of_le_length (by omega)];simp
 |q::ys,k+1,z,y,o,vc,hs,h,ho,hz=>by
  have hq:=hs q (by simp);have ih:=bC ys k z y o vc (λu hu=>hs u (by simp[hu])) (by simpa using h) ho hz;simp only[Aq,List.set_cons_succ,List.flatMap_cons]at ih ⊢;rw[ih];unfold setVs;have e0:(k+1)*sz+o=q.cells.length+(k*sz+o):=by rw[hq,Nat.add_mul];omega
  rw[e0,List.take_length_add_append,Nat.add_assoc (q.cells.length),List.drop_length_add_append];simp
theorem oD{y x:AV}{k:Nat}{g:Bool}(hx:(∀cs,x≠ .agg cs)\/g=true)(hy:g=false->y.cells.length=1/\k=0/\x.cells=[x]):(y.di k x g).cells=setVs y.cells k x.cells:=by
 cases g with
 |true=>simp[AV.di,AV.cells,setVs]
 |false=>obtain⟨h1,h2,h3⟩:=hy rfl;subst h2;simp only[AV.di,h3,setVs];rw[if_neg (by simp)];rw[h3];simp only[List.take_zero,List.nil_append,Bk,List.length_nil,Nat.zero_add];rw[List.drop_eq_nil_of_le (by omega)];simp
theorem zuk(h:BJ P c n nx sl hp a sl0 hp0 o gs){t:TypeId}{x y:Operand}(ho:o.op= .store t x y){b g:Nat}{ix:E}{sz k:Nat}{s:SV}(AX:∃e z g c d,Dv hp0 gs b=some (.row e z g c d))(hx:BT sl0 gs x=some (.cz b g ix sz k))(hy:BT sl0 gs y=some s)
  (he:Og P hp0 gs t (.cz b g ix sz k) s=some e) (hc:∀q∈e.cq,Cn.den c.ρ q):AI P o c n nx sl hp gs a e:=by
 have r1:=h.c7 hx (by simp[ho,Op.operands]);have r2:=h.c7 hy (by simp[ho,Op.operands]);simp only[Og]at he;split at he
 ·rename_i el sz' g' c0 d hl;split at he
  ·rename_i hh;obtain⟨rfl,rfl,rfl,BC,hle,F1,ED⟩:=hh;split at he
   ·rename_i xe fz dx ck CI;split at he
    ·cases he
    rename_i EI;simp only[Ad]at he;subst he;have EI:∀f,(b,f)∉fz:=λf hf=>EI (by simp only[List.contains_eq_mem,AJ];exact List.mem_map.2 ⟨_,hf,rfl⟩);obtain⟨f,q1,q2,⟨ts,q3⟩,q5⟩:=zrz h.rel h.hp h.gs r2 CI (λq hq=>hc q (by simp[hq]));obtain⟨q3,q4⟩:=q3;have AN:=MN h.hp (CU hl h.gs);have DN:=h.rel.freeze h.hp h.gs q3;have Nq:CR (c.cg (fz.map (·.1))).ρ (By hp fz b) (.row el sz g c0 d):=by rw[ME EI];exact AN
    obtain⟨e1,e2,N,e3,e4,e5,e6⟩:=DN.ents b _ Nq;obtain⟨o1,o2,o3,o4⟩:=oS (P:=P) q1 ED q5;generalize hv:a.eval x=v at r1;cases r1 with
    |cz k1 k2 k3 k4 k5 _=>
     rename_i m len cap kk kv k6;obtain⟨xs,p1,p2,p3,pcase⟩:=e3;have p1':c0.den c.ρ= .sl xs:=p1;rcases pcase with⟨_,⟨_,pv⟩,_⟩|⟨g9,cap9,C,pv,p4,p5,p6,p7,p8,p9,p10⟩
     ·exfalso;have:c.H b g=_:=pv;rw[k2]at this;cases this;omega
     ·have pv':c.H b g= .slice (some ⟨g9,0,none⟩) xs.length cap9:=pv;rw[k2]at pv';simp only[Value.slice.injEq,Ad,Addr.mk.injEq,and_true]at pv';obtain⟨rfl,rfl,rfl⟩:=pv';have I3:kv.toNat<xs.length:=by omega
      have GN:=Ot I3;generalize JG:(AV.sl xs).nth kv.toNat=yk at GN;have Ga:=p2 yk (List.mem_of_getElem? GN);have EK:(a.eval y).cells.toList.length=P.cellsOf t:=by simpa using o4
      have hmul:(kv.toNat+1)*sz<=xs.length*sz:=BF _ (by omega);have DP:C.toList.length=cap*sz:=by simpa using p7
      have E9:xs.length*sz<=cap*sz:=BF _ p4;rw[Nat.add_mul]at hmul;have p6':c.w.heap[m]?=some (.cells C el (0,0)):=p6;obtain⟨m1,m2,m3⟩:=ZY (vs:=(a.eval y).cells.toList) p6' (show(kv.toNat*sz+k)+_<=C.size by rw[EK,p7];omega);have Pe:(C.toList.take (xs.length*sz)).length=xs.length*sz:=by rw[Au,DP];omega
      obtain⟨n1,n2,n3,hN,s1,s2⟩:=Rd.setVs (p:=kv.toNat*sz+k) p10 o1 (by rw[Pe,EK];omega);have F5:∀z,z<c.w.heap.size->(c.cg (fz.map (·.1))).ok z->(putCells c.w m (kv.toNat*sz+k) (a.eval y).cells.toList).heap[z]?=c.w.heap[z]?:=by intro z hz A5;refine m1.block z hz ?_;simp only[List.mem_singleton];rintro rfl;exact A5.1 ⟨b,by rw[p8];simp⟩
      have Cd:(d&&dx)=true->n2=[]/\f=[]:=by
       intro Fm;have hcf:Cn.den c.ρ (.flat (.fld (.idx c0 ix) k (P.cellsOf t) (Ap P t)) (P.cellsOf t) (Ap P t)):=hc _ (by simp[Fm]);obtain⟨f1,f2,f3,f4⟩:=hcf;simp only[Ab]at Fm;refine⟨?_,q2 Fm.2⟩;have Po:((Aq xs).drop (kv.toNat*sz+k)).take (a.eval y).cells.toList.length=(yk.cells.drop k).take (P.cellsOf t):=by rw[EK];exact WT xs p2 _ _ GN k (P.cellsOf t) hle
       rw[Po]at s2;have Cw:(E.fld (.idx c0 ix) k (P.cellsOf t) (Ap P t)).den c.ρ=yk.fld k (P.cellsOf t) (Ap P t):=by simp only[E.den,p1',k3,AV.idx,JG]
       rw[Cw]at f2;refine HV s2 ?_;cases hg:Ap P t with
       |true=>rw[hg]at f2;simpa[AV.fld,AV.cells]using f2
       |false=>
        have h1:P.cellsOf t=1:=by rcases ED with h'|h';rw[hg]at h';cases h';exact h'
        rw[Cw]at f4;have f4:=f4 hg;rw[hg]at f4;have AD:k<yk.cells.length:=by omega
        rw[h1,Br AD,List.take_succ_cons,List.take_zero];simp only[List.mem_singleton,forall_eq];simpa[AV.fld,AD]using f4
      have hz:(yk.di k (xe.den c.ρ) (Ap P el)).cells=setVs yk.cells k (xe.den c.ρ).cells:=by
       refine oD ?_ (λhg=> ?_)
       ·cases hg:Ap P el with
        |true=>exact .inr rfl
        |false=>
         left;rcases F1 with h'|⟨_,h'⟩
         ·rw[hg]at h';cases h'
         ·have h':Ap P t=false:=by simpa using h'
          rw[h']at q5;exact λcs=>(q5.1 cs)
       ·rcases F1 with h'|⟨h1,h'⟩
        ·rw[hg]at h';cases h'
        ·have h':Ap P t=false:=by simpa using h'
         rw[h']at q5;have Ux:P.cellsOf t=1:=by rcases ED with h2|h2;rw[h']at h2;cases h2;exact h2
         refine⟨by omega,by omega,?_⟩;cases hF:xe.den c.ρ<;>first|rfl|exact absurd hF (q5.1 _)
      have E3:Aq (xs.set kv.toNat (yk.di k (xe.den c.ρ) (Ap P el)))=setVs (Aq xs) (kv.toNat*sz+k) (xe.den c.ρ).cells:=
       bC xs _ _ yk k _ p2 GN (by rw[o3];exact hle) hz
      have Em:=DN.jq (t:=b) (b:=m) (w':=putCells c.w m (kv.toNat*sz+k) (a.eval y).cells.toList) (O:=if(d&&dx)=true then((c.cg (fz.map (·.1))).G b).O else []) Nq (by rw[p8];simp) (by split;exact .inr rfl;exact .inl rfl) m1 m3
       (.row el sz g (.set c0 ix (.put (.idx c0 ix) k xe (Ap P el))) (d&&dx)) (by intros;simp) (λG6=>by
        have Gz:∀z∈n1++f++n3,(c.cg (fz.map (·.1))).ok z:=by
         intro z hz;simp only[Ac]at hz;rcases hz with(hz|hz)|hz
         ·exact e4 z (by rw[hN];simp[hz])
         ·exact q4 z hz
         ·exact e4 z (by rw[hN];simp[hz])
        have Uh:∀z∈n1++f++n3,z<c.w.heap.size:=s1.inb;refine⟨e1,e2,n1++f++n3,⟨xs.set kv.toNat (yk.di k (xe.den c.ρ) (Ap P el)),?_,λz iD=> ?_,p3, .inr ⟨m,cap,_,?_,by simpa using p4,p5,m2,?_,?_,?_,?_⟩⟩,λz hz=>G6.ok z (Uh z hz) (Gz z hz),λFm=> ?_,λFm=> ?_⟩
        ·show AV.de (c0.den c.ρ) (ix.den c.ρ) (((c0.den c.ρ).idx (ix.den c.ρ)).di k (xe.den c.ρ) (Ap P el))=_;rw[p1',k3];simp only[AV.idx,JG,AV.de]
        ·rcases List.mem_or_eq_of_mem_set iD with iD|rfl
         ·exact p2 z iD
         ·rw[hz,Te _ _ _ (by rw[o3,Ga];exact hle)];exact Ga
        ·rw[List.length_set];exact k2
        ·rw[List.size_toArray,Te _ _ _ (by rw[EK,DP];omega),BL];exact p7
        ·simpa[Cx.fq]using p8
        ·simp only[List.length_set,List.toList_toArray];rw[S8 _ _ _ _ (by rw[EK];omega) (by rw[DP];omega)];intro u hu;unfold setVs at hu;simp only[Ac]at hu;rcases hu with(hu|hu)|hu
         ·exact p9 u (BA hu)
         ·exact o2 u hu
         ·exact p9 u (BM hu)
        ·simp only[List.length_set,List.toList_toArray];rw[S8 _ _ _ _ (by rw[EK];omega) (by rw[DP];omega),E3];exact s1.frame λz hz=>F5 z (Uh z hz) (Gz z hz)
        ·obtain⟨z1,z2⟩:=Cd Fm;have hd:d=true:=by simp only[Ab]at Fm;exact Fm.1
         obtain⟨u1,u2⟩:=e5 hd;have XR:n1++f++n3=N:=by rw[hN,z1,z2]
         rw[XR];refine⟨u1.frame λz hz=>F5 z (p10.inb z hz) (e4 z hz),?_⟩;simp only[Cx.fq,if_true,Fm];exact u2
        ·simp[Cx.fq,Fm])
      intro next Q hk
      unfold Oper.wp;have hr:(execOp a.eval o).run P c.w= .ok .skip (putCells c.w m (kv.toNat*sz+k) (a.eval y).cells.toList):=by have:=nE (P:=P) (t:=t) (v:=a.eval y) (off:=kv.toNat*sz+k) p6' BC o4 (by rw[o4,p7];omega) o2;simp[execOp,ho,hv,this]
      rw[hr,Oper.upon_skip];refine hk _ ((c.cg (fz.map (·.1))).fq (putCells c.w m (kv.toNat*sz+k) (a.eval y).cells.toList) b (if(d&&dx)=true then((c.cg (fz.map (·.1))).G b).O else [])) ⟨rfl,rfl,rfl,rfl,λt ht=> .inl ht⟩ ?_;have:=Em.put (v:=Go.undef) ((SR.undef .nil).mkGd []) o.dst;rw[Qq];exact this
   ·cases he
  ·cases he
 all_goals (rename_i hl;obtain⟨_,_,_,_,_,BY⟩:=AX;first|(rw[BY]at hl;cases hl;done)|exact absurd BY (hl _ _ _ _ _)|cases he)
end
def LC(a:Act)(o:Oper):Bool:=match o.op with| .binOp _ _ x _ _=>(match a.eval x with| .slice none _ _=>true|_=>false)|_=>false
section
variable (P:Program) (sg:B4) (Rt:Nat->List AV->AV->Prop)
def PD:Prop:= ∀(c:Cx) (n nx:Nat) (sl:Nat->SV) (hp:Nat->Option Ah) (a:Act) (sl0:Nat->SV) (hp0:Nat->Option Ah) (o:Oper) (gs:Gd) (e:Bn) (nv:Nat),BJ P c n nx sl hp a sl0 hp0 o gs-> ¬c.U (nx+999)->MP P sg sl0 hp0 nv nx gs o=some e->
 (∀q∈e.cq,q.den c.ρ)->(∀cl,e.call=some cl-> ∃r,c.ρ[nv]?=some r/\Jn Rt cl.fn ((EL.of cl.args).den c.ρ) c.ρ r)->(∀x,e.cm=some x->c.ρ[nv]?=some (.bool (LC a o)))->AI P o c n nx sl hp gs a e
def Vp:Prop:= ∀(c:Cx) (n nx:Nat) (sl:Nat->SV) (hp:Nat->Option Ah) (a:Act) (sl0:Nat->SV) (hp0:Nat->Option Ah) (o:Oper) (gs:Gd) (e:Bn) (nv:Nat) (x:E),BJ P c n nx sl hp a sl0 hp0 o gs->MP P sg sl0 hp0 nv nx gs o=some e->e.cm=some x->LC a o=true->x.den c.ρ= .sl []
end
theorem ztT{hp:Nat->Option Ah}(l:List (Nat × Ah))(t:Nat):(By hp l t=hp t/\ ∀e,(t,e)∉l)\/ ∃e,(t,e)∈l/\By hp l t=some e:=by
 induction l generalizing hp with
 |nil=>exact .inl ⟨rfl,by simp⟩
 |cons p l ih=>
  obtain⟨u,f⟩:=p;rcases ih (hp:=λv=>if v=u then some f else hp v)with⟨h1,h2⟩|⟨e,h1,h2⟩
  ·by_cases ht:t=u
   ·subst ht;refine .inr ⟨f,by simp,?_⟩;have:By hp ((t,f)::l) t=By (λv=>if v=t then some f else hp v) l t:=rfl;rw[this,h1];simp
   ·refine .inl ⟨?_,λe he=> ?_⟩
    ·have:By hp ((u,f)::l) t=By (λv=>if v=u then some f else hp v) l t:=rfl;rw[this,h1,if_neg ht]
    ·rcases Ae.1 he with he|he
     ·cases he;exact ht rfl
     ·exact h2 e he
  ·exact .inr ⟨e,by simp[h1],h2⟩
section
variable {P:Program} {sg:B4} {Rt:Nat->List AV->AV->Prop} {c:Cx} {n nx:Nat} {sl:Nat->SV} {hp:Nat->Option Ah} {a:Act} {ops:Array Oper} {o:Oper} {gs:Gd} {e:Bn}
theorem Rel.skip(h:Rel c n sl hp a)(hg: ¬BH c.ρ gs){l:List (Nat × Ah)}(hl:∀t x,(t,x)∈l->nx<=t/\t<nx+B1/\ ∃hs y,x= .gd hs y/\MZ gs hs=true)(Bm:∀t,nx<=t->t<nx+B1-> ¬c.U t)(s:SV)(d:Option Nat):
  Rel {c with U:=λt=>c.U t\/(nx<=t/\t<nx+B1)} n (C4 n sl d (mkGd gs s)) (By hp l) (a.put d undef):=by
 have hs:SR {c with U:=λt=>c.U t\/(nx<=t/\t<nx+B1)} [mkGd gs s] [undef]:=by
  cases gs with
  |nil=>exact absurd (Fj _) hg
  |cons g gs=>exact .gd (λhh=>absurd hh hg) (λ_=>rfl) .nil
 refine Rel.put ?_ hs d;refine h.change (λt=> ∃x,(t,x)∈l) ⟨rfl,rfl,λ_ _ hb=>hb,λ_ _ _=>rfl,λ_ _ hk=>⟨hk,rfl⟩,λ_ _ _=>⟨AQ _,λ_=>⟨rfl,λ_ _ _=>rfl⟩⟩⟩ ⟨h.base.os,h.base.tape,h.base.output,h.base.size,λt v hp=>⟨.inl (h.base.pins t v hp).1,(h.base.pins t v hp).2⟩,h.base.block,h.base.pk,h.base.lo⟩ (λt ht=> ?_) (λ_ _ _ _=>rfl) (λt ht=> ?_) ⟨h.gw.nodup,h.gw.cy,h.gw.allow,h.gw.inb⟩ (λt g hk=> .inl (h.ca t g hk)) (λt x hx=> ?_)
 ·exact⟨ME λx hx=>ht ⟨x,hx⟩,rfl,rfl,λg hk=>hk⟩
 ·obtain⟨x,hx⟩:=ht;rcases ztT (hp:=hp) l t with⟨_,h2⟩|⟨x',h1,h2⟩
  ·exact absurd hx (h2 x)
  ·obtain⟨q1,q2,hs,y,rfl,B7⟩:=hl t x' h1;have Dl:∀e',¬CR c.ρ (By hp l t) e':=by
    rw[h2];exact λe' hr=>hg (cI B7 hr.1)
   refine⟨λe' hr=>absurd hr (Dl e'),λ_=>h.off t λe' hr=> ?_⟩;cases hh:hp t with
   |none=>rw[hh]at hr;exact hr.elim
   |some e9=>exact Bm t q1 q2 (h.c6 t e9 hh)
 ·rcases ztT (hp:=hp) l t with⟨h1,_⟩|⟨x',h1,_⟩
  ·rw[h1]at hx;exact .inl (h.c6 t x hx)
  ·obtain⟨q1,q2,_⟩:=hl t x' h1;exact .inr ⟨q1,q2⟩
def XL(ρ:List AV)(ops:Array Oper)(o:Oper)(a:Act):Option Gd->Prop
 |none=>Region.wanted o (yielded ops a.tmps)=false
 |some gs=>(BH ρ gs->Region.wanted o (yielded ops a.tmps)=true)/\(¬BH ρ gs->Region.wanted o (yielded ops a.tmps)=false)
theorem o8{σ:St}{r:Option Gd}(hg:Qp σ ops o=some r)(hs:∀j want d,o.guard=some (j,want)->(ops[j]?).bind (·.dst)=some d->SR c [BX σ d] [a.tmps.getD d undef]):XL c.ρ ops o a r:=by
 unfold Qp at hg;cases Hu:o.guard with
 |none=>rw[Hu]at hg;simp only[Ad]at hg;subst hg;exact⟨λ_=>by simp[Region.wanted,Hu],λhn=>absurd (Fj _) hn⟩
 |some jw=>
  obtain⟨j,want⟩:=jw;rw[Hu]at hg;simp only at hg;cases hd:(ops[j]?).bind (·.dst)with
  |none=>rw[hd]at hg;simp only[Ad]at hg;subst hg;simp[XL,Region.wanted,Hu,yielded,hd]
  |some d=>
   rw[hd]at hg;simp only at hg;have hr:=hs j want d Hu hd;have hw:∀v,a.tmps.getD d undef=v->Region.wanted o (yielded ops a.tmps)=(match v with| .bool b=>b==want|_=>false):=by
    intro v hv;simp only[Region.wanted,Hu,yielded,hd,Aa];rw[Array.getD_eq_getD_getElem?]at hv;cases hq:a.tmps[d]? with
    |none=>rw[hq]at hv;simp at hv;subst hv;simp[undef]
    |some u=>rw[hq]at hv;simp at hv;subst hv;cases u<;>simp
   generalize a.tmps.getD d undef=v at hr hw;have hw:=hw v rfl;have Mi:v=undef->Region.wanted o (yielded ops a.tmps)=false:=by rintro rfl;rw[hw];simp[undef]
   have Iq:∀x f,Rd c.w [v] [x] f->(x= .bool want->Region.wanted o (yielded ops a.tmps)=true)/\(x≠ .bool want->Region.wanted o (yielded ops a.tmps)=false):=by
    intro x f hx;refine⟨λh=> ?_,λh=> ?_⟩
    ·rw[hw,Jj hx h];simp
    ·rw[hw];cases v<;>simp only;rename_i b;cases hx with
     |bool _=>simpa using λhh=>h (by rw[hh])
   split at hg
   ·rename_i b Dw;rw[Dw]at hr;cases hr with
    |e h1 _ _=>
     simp only[Ad]at hg;subst hg;obtain⟨q1,q2⟩:=Iq _ _ h1;simp only[E.den,AV.bool.injEq]at q1 q2;split
     ·rename_i hb;simp only[AO]at hb;exact⟨λ_=>q1 hb,λhn=>absurd (Fj _) hn⟩
     ·rename_i hb;simp only[AO]at hb;exact q2 (by simpa using hb)
   ·rename_i x _ Dw;rw[Dw]at hr;cases hr with
    |e h1 _ _=>simp only[Ad]at hg;subst hg;obtain⟨q1,q2⟩:=Iq _ _ h1;exact⟨λhh=>q1 (hh (x,want) (by simp)),λhn=>q2 λhh=>hn (by intro g hg;simp at hg;subst hg;exact hh)⟩
   ·rename_i Bh s Dw;rw[Dw]at hr;cases hr with
    |gd h1 h2 _=>
     split at hg
     ·rename_i hf;simp only[Ad]at hg;subst hg;refine Mi (h2 λhk=> ?_);simp only[uC,List.any_eq_true]at hf;obtain⟨g,hg,eW⟩:=hf;have:=hk g hg;split at eW
      ·rename_i b hb;rw[hb]at this;simp only[E.den,AV.bool.injEq]at this;simp[this]at eW
      ·cases eW
     ·split at hg
      ·rename_i b;simp only[Ad]at hg;subst hg;by_cases hk:BH c.ρ Bh
       ·have h1:=h1 hk;cases h1 with
        |e h1 _ _=>
         obtain⟨q1,q2⟩:=Iq _ _ h1;simp only[E.den,AV.bool.injEq]at q1 q2;split
         ·rename_i hb;simp only[AO]at hb;exact⟨λ_=>q1 hb,λhn=>absurd hk hn⟩
         ·rename_i hb;simp only[AO]at hb;exact q2 (by simpa using hb)
       ·split
        ·exact⟨λhh=>absurd hh hk,λ_=>Mi (h2 hk)⟩
        ·exact Mi (h2 hk)
      ·rename_i x _;simp only[Ad]at hg;subst hg;by_cases hk:BH c.ρ Bh
       ·have h1:=h1 hk;cases h1 with
        |e h1 _ _=>obtain⟨q1,q2⟩:=Iq _ _ h1;exact⟨λhh=>q1 (hh (x,want) (by simp)),λhn=>q2 λhh=>hn (by intro g hg;rcases Ae.1 hg with rfl|hg;exact hh;exact hk g hg)⟩
       ·exact⟨λhh=>absurd (λg hg=>hh g (by simp[hg])) hk,λ_=>Mi (h2 hk)⟩
      ·cases hg
   ·cases hg
theorem uN(A0:PD P sg Rt){Q:Exit->Act->World->Prop}{K:Act->World->Prop}{i nv:Nat}(hi:ops[i]?=some o)(hrel:Rel c n sl hp a){sl0:Nat->SV}{hp0:Nat->Option Ah}(D2:XL c.ρ ops o a (some gs))
  (Dw:∀t,Operand.tmp t∈o.op.operands->sl0 t=sl t) (hhp:∀t e,hp0 t=some e->hp t=some e) (Bm:∀t,nx<=t->t<nx+B1-> ¬c.U t)
  (he:MP P sg sl0 hp0 nv nx gs o=some e) (BN:gs≠ []-> ∀t x,(t,x)∈e.bu->nx<=t/\t<nx+B1/\ ∃hs y,x= .gd hs y/\MZ gs hs=true)
  (hc:BH c.ρ gs-> ∀q∈e.cq,q.den c.ρ) (BB:∀cl,e.call=some cl-> ∃r,c.ρ[nv]?=some r/\(BH c.ρ gs->Jn Rt cl.fn ((EL.of cl.args).den c.ρ) c.ρ r)) (Df:∀x,e.cm=some x->BH c.ρ gs->c.ρ[nv]?=some (.bool (LC a o)))
  (hK:∀a' c',NN c c' nx->Rel c' n (C4 n sl o.dst (mkGd gs e.val)) (By hp e.bu) a'->K a' c'.w):wpOp P ops Q i K a c.w:=by
 unfold wpOp;simp only[hi];by_cases hg:BH c.ρ gs
 ·rw[if_pos (D2.1 hg)];exact .inl (A0 c n nx sl hp a sl0 hp0 o gs e nv ⟨hrel,hg,Dw,hhp,λt h1 h2=>Bm t h1 (by simp only[B1];omega)⟩ (Bm _ (by omega) (by simp[B1])) he (hc hg) (λcl AB=>by obtain⟨r,h1,h2⟩:=BB cl AB;exact⟨r,h1,h2 hg⟩) (λx hx=>Df x hx hg) _ _ hK)
 ·rw[if_neg (by rw[D2.2 hg];simp)];have A9:gs≠ []:=by rintro rfl;exact hg (Fj _)
  exact hK _ {c with U:=λt=>c.U t\/(nx<=t/\t<nx+B1)} ⟨rfl,rfl,rfl,rfl,λt ht=>ht⟩ (hrel.skip hg (BN A9) Bm e.val o.dst)
end
def Cx.ext(c:Cx)(τ:List AV):Cx:={c with ρ:=c.ρ++τ}
theorem den_app{ρ τ:List AV}{x:E}(h:x.sc ρ.length=true):x.den (ρ++τ)=x.den ρ:=by have:=E.bd ρ τ [] x h;rw[AE]at this;exact this
theorem zCb{ρ τ:List AV}{x:EL}(h:x.sc ρ.length=true):x.den (ρ++τ)=x.den ρ:=by have:=EL.bd ρ τ [] x h;rw[AE]at this;exact this
theorem MB{ρ τ:List AV}{gs:Gd}(h:VF ρ.length gs=true):BH (ρ++τ) gs↔BH ρ gs:=by simp only[VF,AZ]at h;exact⟨λk g hg=>by rw[<-den_app (τ:=τ) (h g hg)];exact k g hg,λk g hg=>by rw[den_app (h g hg)];exact k g hg⟩
theorem BV.gh{n:Nat}:∀{cs:BV},cs.sc n=true-> ∀s∈cs.toList,s.sc n=true
 | .nil,_,s,h=>by simp[BV.toList]at h
 | .cons s cs,h,u,hu=>by
  simp only[BV.sc,Ab]at h;simp only[BV.toList,Ae]at hu;rcases hu with rfl|hu
  ·exact h.1
  ·exact BV.gh h.2 u hu
section
variable {c:Cx} {n:Nat} {sl:Nat->SV} {hp:Nat->Option Ah} {a:Act} {τ:List AV}
theorem Jr.ext{t g:Nat}{p:OO}{v:Value}(hs:(match p with|some q=>q.1.sc c.ρ.length|none=>true)=true)(h:Jr c t g p v):Jr (c.ext τ) t g p v:=by
 cases p with
 |none=>exact trivial
 |some p=>obtain⟨i,z,o⟩:=p;obtain⟨b,n,cap,C,ty,fz,kk,k,h1,h2,h3,h4,h5⟩:=h;exact⟨b,n,cap,C,ty,fz,kk,k,h1,h2,h3,by show i.den (c.ρ++τ)=_;rw[den_app hs];exact h4,h5⟩
theorem SR.ext{ss:List SV}{vs:List Value}(h:SR c ss vs):(∀s∈ss,s.sc c.ρ.length=true)->SR (c.ext τ) ss vs:=by
 have tl:∀{s:SV} {ss:List SV},(∀x∈s::ss,x.sc c.ρ.length=true)-> ∀x∈ss,x.sc c.ρ.length=true:=λh x hx=>h x (by simp[hx]);have hd:∀{s:SV} {ss:List SV},(∀x∈s::ss,x.sc c.ρ.length=true)->s.sc c.ρ.length=true:=λh=>h _ (by simp);have hρ:(c.ext τ).ρ=c.ρ++τ:=rfl
 induction h with
 |nil=>exact λ_=> .nil
 |undef _ ih=>exact λhs=> .undef (ih (tl hs))
 |e h1 h2 _ ih=>exact λhs=> .e (by rw[hρ,den_app (hd hs)];exact h1) h2 (ih (tl hs))
 |cr _ ih=>exact λhs=> .cr (ih (tl hs))
 |emp _ ih=>exact λhs=> .emp (ih (tl hs))
 |own h1 h2 _ ih=>exact λhs=> .own h1 h2 (ih (tl hs))
 |cw h1 h2 _ ih=>exact λhs=> .cw h1 h2 (ih (tl hs))
 |cz h1 h2 h3 h4 h5 _ ih=>exact λhs=> .cz h1 h2 (by rw[hρ,den_app (hd hs)];exact h3) h4 h5 (ih (tl hs))
 |dj h1 h2 h3 h4 h5 h6 _ ih=>intro hs;have:=hd hs;simp only[SV.sc,Ab]at this;exact .dj (by rw[hρ,den_app this.1];exact h1) h2 (by rw[hρ,den_app this.2];exact h3) h4 h5 (by rw[hρ,den_app this.1];exact h6) (ih (tl hs))
 |dn h1 h2 _ ih=>exact λhs=> .dn (by rw[hρ,den_app (hd hs)];exact h1) h2 (ih (tl hs))
 |agg h9 _ _ ih1 ih2=>exact λhs=> .agg h9 (ih1 (BV.gh (hd hs))) (ih2 (tl hs))
 |tup _ _ ih1 ih2=>exact λhs=> .tup (ih1 (BV.gh (hd hs))) (ih2 (tl hs))
 |fn _ _ ih1 ih2=>exact λhs=> .fn (ih1 (BV.gh (hd hs))) (ih2 (tl hs))
 |gd _ h2 _ ih1 ih2=>intro hs;have:=hd hs;simp only[SV.sc,Ab]at this;exact .gd (λhg=>ih1 ((MB this.1).1 hg) (by simpa using this.2)) (λhg=>h2 λk=>hg ((MB this.1).2 k)) (ih2 (tl hs))
 | @via t g n p x v ss vs h1 h2 h3 _ ih=>intro hs;have:=hd hs;simp only[SV.sc,Ab]at this;refine .via h1 h2 (λhe=> ?_) (ih (tl hs));obtain⟨q1,q2⟩:=h3 he;exact⟨by rw[hρ,den_app this.2];exact q1,Jr.ext (τ:=τ) this.1 q2⟩
 | @vptr t g n p x i sz o v ss vs h1 h2 h3 _ ih=>intro hs;have:=hd hs;simp only[SV.sc,Ab]at this;refine .vptr h1 h2 (λhe=> ?_) (ih (tl hs));obtain⟨b,off,len,cap,kk,k,q1,q2,q3,q4,q5,q6,q7⟩:=h3 he;exact⟨b,off,len,cap,kk,k,by rw[hρ,den_app this.1.2];exact q1,Jr.ext (τ:=τ) this.1.1 q2,by rw[hρ,den_app this.2];exact q3,q4,q5,by rw[hρ,den_app this.1.2];exact q6,q7⟩
 |wown h1 h2 h3 h4 h5 h6 _ ih=>exact λhs=> .wown h1 h2 (by rw[hρ,den_app (hd hs)];exact h3) h4 h5 h6 (ih (tl hs))
 | @lent i _ _ _ h1 _ ih=>exact λhs=> .lent (by rw[hρ,den_app (x:= .var i) (by simpa[SV.sc,E.sc]using hd hs)];exact h1) (ih (tl hs))
theorem DJ.ext{t:Nat}{e:Ah}(h:DJ c t e)(hs:e.sc c.ρ.length=true):DJ (c.ext τ) t e:=by
 have hρ:(c.ext τ).ρ=c.ρ++τ:=rfl;cases e with
 |box ty g cs=>obtain⟨b,C,h1,h2,h3,h4,h5,h6,h7⟩:=h;exact⟨b,C,h1,h2,h3,h4,h5,h6,h7.ext (by simpa[Ah.sc]using hs)⟩
 |row ety sz g x d=>obtain⟨h1,h2,N,h3,h4,h5⟩:=h;exact⟨h1,h2,N,by rw[hρ,den_app hs];exact h3,h4,h5⟩
 |cg g x=>obtain⟨h1,⟨f,h2,h3⟩,h4⟩:=h;exact⟨h1,⟨f,by rw[hρ,den_app hs];exact h2,h3⟩,h4⟩
 |gd gs e=>exact h
 |dead=>exact h
 |deep e z l g ep x=>obtain⟨h1,h2,h3,h4,h5⟩:=h;exact⟨h1,h2,h3,by rw[hρ,den_app hs];exact h4,h5⟩
 |hol e z l g ep x i o u=>simp only[Ah.sc,Ab]at hs;obtain⟨h1,h2,h3,h4,h5⟩:=h;exact⟨h1,h2,h3,by rw[hρ,den_app hs.1,den_app hs.2];exact h4,h5⟩
 |pre e z l g ep x k=>simp only[Ah.sc,Ab]at hs;obtain⟨h1,h2,h3,h4,h5⟩:=h;exact⟨h1,h2,h3,by rw[hρ,den_app hs.1,den_app hs.2];exact h4,h5⟩
theorem zEz{ρ:List AV}{e0 e:Ah}(hs:e0.sc ρ.length=true):CR (ρ++τ) (some e0) e↔CR ρ (some e0) e:=by
 cases e0 with
 |gd gs x=>simp only[Ah.sc,Ab]at hs;simp only[CR];rw[MB hs.1]
 |_=>simp[CR]
theorem Rel.ext(h:Rel c n sl hp a)(h1:∀i,(sl i).sc c.ρ.length=true)(h2:∀t e,hp t=some e->e.sc c.ρ.length=true)(τ:List AV):Rel (c.ext τ) n sl hp a:=by
 have key:∀t e,CR (c.ρ++τ) (hp t) e↔CR c.ρ (hp t) e:=by
  intro t e;cases hh:hp t with
  |none=>exact Iff.rfl
  |some e0=>exact zEz (h2 t e0 hh)
 refine⟨h.defers,h.size,⟨h.base.os,h.base.tape,h.base.output,h.base.size,h.base.pins,h.base.block,h.base.pk,h.base.lo⟩,λi=>(h.db i).ext (by simpa using h1 i),λt e hr=> ?_,λt hn=>h.off t λe hr=>hn e ((key t e).2 hr),⟨h.gw.nodup,h.gw.cy,h.gw.allow,h.gw.inb⟩,h.ca,h.c6⟩;have CN:=(key t e).1 hr;have he:=h.ents t e CN;cases hh:hp t with
 |none=>rw[hh]at CN;exact CN.elim
 |some e0=>
  have Fp:=h2 t e0 hh;rw[hh]at CN;cases e0 with
  |gd gs x=>
   obtain⟨_,rfl⟩:=CN;simp only[Ah.sc,Ab]at Fp;cases x with
   |gd=>exact he
   |dead=>exact he
   |box=>exact he.ext (by simpa[Ah.sc]using Fp.2)
   |row=>exact he.ext (by simpa[Ah.sc]using Fp.2)
   |cg=>exact he.ext (by simpa[Ah.sc]using Fp.2)
   |deep=>exact he.ext (by simpa[Ah.sc]using Fp.2)
   |hol=>exact he.ext (by simpa[Ah.sc]using Fp.2)
   |pre=>exact he.ext (by simpa[Ah.sc]using Fp.2)
  |_=>simp only[CR]at CN;subst CN;exact he.ext Fp
theorem St.lj{σ:St}(h:σ.sc=true)(i:Nat):(BX σ i).sc σ.nv=true:=by
 simp only[St.sc,Ab,AZ]at h;unfold BX;cases hi:σ.sl[i]? with
 |none=>simp[SV.sc]
 |some s=>exact h.1 s (List.mem_of_getElem? hi)
theorem St.kr{σ:St}(h:σ.sc=true)(t:Nat)(e:Ah)(he:AR σ.hp t=some e):e.sc σ.nv=true:=by simp only[St.sc,Ab,AZ]at h;exact h.2 _ (JO he)
theorem Cn.jn{ρ τ:List AV}{q:Cn}(h:q.sc ρ.length=true):q.den (ρ++τ)↔q.den ρ:=by
 cases q<;>simp only[Cn.sc,Ab]at h<;>simp only[Cn.den]
 case dfd=>rw[den_app h]
 case agg=>rw[den_app h]
 case cells=>rw[den_app h]
 case inb=>rw[den_app h.1,den_app h.2]
 case inbS=>rw[den_app h.1,den_app h.2]
 case win=>rw[den_app h.1.1,den_app h.1.2,den_app h.2]
 case winS=>rw[den_app h.1.1,den_app h.1.2,den_app h.2]
 case room=>rw[den_app h.1,den_app h.2]
 case roomS=>rw[den_app h.1,den_app h.2]
 case mkroom=>rw[den_app h]
 case nz=>rw[den_app h]
 case nn=>rw[den_app h]
 case isref=>rw[den_app h]
 case issl=>rw[den_app h]
 case flat=>rw[den_app h]
 case flatS=>rw[den_app h]
 case kinds=>rw[den_app h]
theorem qV:SR c [Ib] [Go.undef]:= .gd (λhg=>by have:=hg (.bool false,true) (by simp);simp[E.den]at this) (λ_=>rfl) .nil
theorem zvI{ρ:List AV}{x:E}{b:Bool}{hs:Gd}(hx:x.den ρ= .bool b)(h:QL (x, !b) hs=true): ¬BH ρ hs:=by intro k;have:=zyd h k;simp only at this;rw[hx]at this;simp at this
theorem nO{ρ:List AV}{x:E}{b:Bool}{hs:Gd}(hx:x.den ρ= .bool b):BH ρ (hs.filter λh=> !(h.1.beq x&&h.2==b))↔BH ρ hs:=by
 refine⟨λk g hg=> ?_,λk g hg=>k g (List.mem_filter.1 hg).1⟩;by_cases hh:(g.1.beq x&&g.2==b)=true
 ·simp only[Ab,AO]at hh;rw[E.bb ρ _ _ hh.1,hx,hh.2]
 ·exact k g (List.mem_filter.2 ⟨hg,by rw[Bool.not_eq_true]at hh;rw[hh];rfl⟩)
theorem SR.jv{s:SV}{v:Value}{gs:Gd}(h1:BH c.ρ gs->SR c [s] [v])(h2: ¬BH c.ρ gs->v=Go.undef):SR c [Go.Proofs.YtalagilebkaegaaGreat.mkGd gs s] [v]:=by
 cases gs with
 |nil=>exact h1 (Fj _)
 |cons g gs=>exact .gd h1 h2 .nil
theorem SR.ga{x:E}{b:Bool}(hx:x.den c.ρ= .bool b){s:SV}{v:Value}(h:SR c [s] [v]):SR c [assumeS x b s] [v]:=by
 cases s with
 |gd hs s=>
  simp only[Go.Proofs.YtalagilebkaegaaGreat.assumeS];cases h with
  |gd h1 h2 _=>
   split
   ·rename_i hm;rw[h2 (zvI hx hm)];exact qV
   ·exact SR.jv (λk=>h1 ((nO hx).1 k)) (λk=>h2 λk'=>k ((nO hx).2 k'))
 |_=>exact h
theorem zBY(f:Ah->Ah)(l:List (Nat × Ah))(t:Nat):AR (l.map λ(t,e)=>(t,f e)) t=(AR l t).map f:=by
 induction l with
 |nil=>rfl
 |cons p l ih=>
  obtain⟨u,e⟩:=p;simp only[List.map_cons,AR];split
  ·rfl
  ·exact ih
theorem Rel.ga{x:E}{b:Bool}(hx:x.den c.ρ= .bool b)(h:Rel c n sl hp a):Rel c n (λi=>assumeS x b (sl i)) (λt=>(hp t).map (assumeE x b)) a:=by
 have Nl:∀t,(∀e,CR c.ρ (hp t) e-> ∃gs y,e= .gd gs y\/e= .dead)->(c.G t).top=[]/\(c.G t).O=[]:=by
  intro t ht;by_cases hh:∃e,CR c.ρ (hp t) e
  ·obtain⟨e,he⟩:=hh;obtain⟨gs,y,rfl|rfl⟩:=ht e he
   ·exact h.ents t _ he
   ·exact h.ents t _ he
  ·exact h.off t λe he=>hh ⟨e,he⟩
 have cases':∀t,((∀e,CR c.ρ ((hp t).map (assumeE x b)) e↔CR c.ρ (hp t) e))\/((hp t).map (assumeE x b)=some .dead/\(c.G t).top=[]/\(c.G t).O=[]):=by
  intro t;cases hh:hp t with
  |none=>exact .inl λe=>Iff.rfl
  |some e0=>
   cases e0 with
   |gd hs y=>
    by_cases hm:QL (x, !b) hs=true
    ·refine .inr ⟨by simp[Go.Proofs.YtalagilebkaegaaGreat.assumeE,hm],Nl t λe he=> ?_⟩;rw[hh]at he;exact absurd he.1 (zvI hx hm)
    ·by_cases hy:∃gs z,y= .gd gs z
     ·obtain⟨gs,z,rfl⟩:=hy;refine .inr ⟨by simp[Go.Proofs.YtalagilebkaegaaGreat.assumeE,hm],Nl t λe he=> ?_⟩;rw[hh]at he;exact⟨gs,z, .inl he.2.symm⟩
     ·refine .inl λe=> ?_;have he:assumeE x b (.gd hs y)=Da (hs.filter λh=> !(h.1.beq x&&h.2==b)) y:=by
       simp only[Go.Proofs.YtalagilebkaegaaGreat.assumeE,hm,Bj,if_false];cases y<;>first|rfl|exact absurd ⟨_,_,rfl⟩ hy
      simp only[Option.map_some,he];show _↔BH c.ρ hs/\y=e;rw[<-nO hx];generalize (hs.filter λh=> !(h.1.beq x&&h.2==b))=fs;cases fs with
      |nil=>simp only[Da,Fj,true_and];cases y<;>first|exact absurd ⟨_,_,rfl⟩ hy|exact Iff.rfl
      |cons g fs=>exact Iff.rfl
   |_=>exact .inl λe=>Iff.rfl
 refine⟨h.defers,h.size,h.base,λi=>(h.db i).ga hx,λt e hr=> ?_,λt hn=> ?_,h.gw,h.ca,λt e he=> ?_⟩
 ·rcases cases' t with hc|⟨hc,h1,h2⟩
  ·exact h.ents t e ((hc e).1 hr)
  ·rw[hc]at hr;have:Ah.dead=e:=hr;subst this;exact⟨h1,h2⟩
 ·rcases cases' t with hc|⟨hc,h1,h2⟩
  ·exact h.off t λe he=>hn e ((hc e).2 he)
  ·exact⟨h1,h2⟩
 ·cases hh:hp t with
  |none=>rw[hh]at he;cases he
  |some e0=>exact h.c6 t e0 hh
end
theorem oE{σ:St}{d:Option Nat}{s:SV}:BX (ID σ d s)=C4 σ.sl.length (BX σ) d s:=by
 funext i;cases d with
 |none=>simp[ID,C4]
 |some d=>
  simp only[ID,BX,C4,Ad,List.getElem?_set];by_cases h:d=i
  ·subst h;by_cases h2:d<σ.sl.length
   ·simp[h2]
   ·simp[h2,List.getElem?_eq_none (Nat.le_of_not_lt h2)]
  ·simp[h]
theorem nH{σ:St}{d:Option Nat}{s:SV}:(ID σ d s).sl.length=σ.sl.length:=by cases d<;>simp[ID]
theorem nT{σ:St}{d:Option Nat}{s:SV}:(ID σ d s).hp=σ.hp:=by cases d<;>rfl
theorem oA{σ:St}{d:Option Nat}{s:SV}:(ID σ d s).nv=σ.nv:=by cases d<;>rfl
theorem zA2(l:List (Nat × Ah))(t:Nat)(e:Ah)(u:Nat):AR (MW l t e) u=if u=t then some e else AR l u:=by
 induction l with
 |nil=>
  simp only[MW,AR];by_cases h:t=u
  ·simp[h]
  ·rw[if_neg h,if_neg (Ne.symm h)]
 |cons p l ih=>
  obtain⟨v,f⟩:=p;simp only[MW];split
  ·rename_i hv;subst hv;simp only[AR];by_cases h:v=u
   ·simp[h]
   ·rw[if_neg h,if_neg (Ne.symm h),if_neg h]
  ·rename_i hv;simp only[AR];by_cases h:v=u
   ·subst h;rw[if_pos rfl,if_neg hv,if_pos rfl]
   ·rw[if_neg h,ih,if_neg h]
theorem ztQ:∀(ents:List (Nat × Ah)) (l:List (Nat × Ah)),AR (ents.foldl (λl (p:Nat × Ah)=>MW l p.1 p.2) l)=By (AR l) ents
 | [],l=>rfl
 |(t,e)::ents,l=>by
  simp only[List.foldl_cons];rw[ztQ ents];have:AR (MW l t e)=λu=>if u=t then some e else AR l u:=by funext u;exact zA2 l t e u
  rw[this];rfl
section
variable {P:Program} {sg:B4} {Rt:Nat->List AV->AV->Prop} {ops:Array Oper}
theorem zyi{σ:St}{gs:Gd}{o:Oper}{e:Bn}:BX (MD σ gs o e)=C4 σ.sl.length (BX σ) o.dst (mkGd gs e.val):=by rw[<-oE];rfl
theorem zyu{σ:St}{gs:Gd}{o:Oper}{e:Bn}:AR (MD σ gs o e).hp=By (AR σ.hp) e.bu:=by
 have:(MD σ gs o e).hp=e.bu.foldl (λl (p:Nat × Ah)=>MW l p.1 p.2) σ.hp:=by show e.bu.foldl (λl (p:Nat × Ah)=>MW l p.1 p.2) (ID σ o.dst (mkGd gs e.val)).hp=_;rw[nT]
 rw[this,ztQ]
theorem zv2{σ:St}{gs:Gd}{o:Oper}{e:Bn}:(MD σ gs o e).sl.length=σ.sl.length:=by show(ID σ o.dst (mkGd gs e.val)).sl.length=_;rw[nH]
theorem qE{σ:St}{gs:Gd}{o:Oper}{e:Bn}:(MD σ gs o e).nv=if e.call.isSome||e.cm.isSome then σ.nv+1 else σ.nv:=by show(if e.call.isSome||e.cm.isSome then(ID σ o.dst (mkGd gs e.val)).nv+1 else(ID σ o.dst (mkGd gs e.val)).nv)=_;rw[oA]
theorem pM{R:AV->Prop}{gs:Gd}{k:Tr}{L:LK}{js:List JK}{ρ:List AV}:∀{cs:List Cn},(cs.foldr (λc k=> .cq gs c k) k:Tr).den Rt R L js ρ->(BH ρ gs-> ∀q∈cs,q.den ρ)/\k.den Rt R L js ρ
 | [],h=>⟨by simp,h⟩
 |c::cs,h=>by
  obtain⟨h1,h2⟩:=h;obtain⟨h3,h4⟩:=pM h2;refine⟨λhg q hq=> ?_,h4⟩;rcases Ae.1 hq with rfl|hq
  ·exact h1 hg
  ·exact h3 hg q hq
theorem zyc{l:List (Nat × Ah)}{R:List Nat}{t:Nat}{e:Ah}(h:Rg l R t=some e):AR l t=some e:=by
 unfold Rg at h;split at h
 ·exact h
 ·cases h
theorem ztM{f:Nat ⊕ E}{as_:EL}{ρ τ:List AV}{r:AV}(h1:(match f with| .inl _=>true| .inr x=>x.sc ρ.length)=true)(h2:as_.sc ρ.length=true):Jn Rt f (as_.den (ρ++τ)) (ρ++τ) r↔Jn Rt f (as_.den ρ) ρ r:=by
 rw[zCb h2];cases f with
 |inl f=>exact Iff.rfl
 |inr x=>simp only[Jn];rw[den_app h1]
theorem EL.jz{n:Nat}:∀{l:List E},l.all (E.sc n)=true->(EL.of l).sc n=true
 | [],_=>rfl
 |x::l,h=>by simp only[List.all_cons,Ab]at h;simp only[EL.of,EL.sc,Ab];exact⟨h.1,EL.jz h.2⟩
structure J2(F:Fix)(c:Cx)(σ:St)(a:Act)(n m:Nat):Prop where
 w0:c.w0=F.w0
 A:c.A=F.A
 Mu:c.Mu=F.Mu
 nv:c.ρ.length=σ.nv
 len:σ.sl.length=n
 U:∀t,c.U t->t<m
 rel:Rel c n (BX σ) (AR σ.hp) a
theorem J2.ext{F:Fix}{c:Cx}{σ:St}{a:Act}{n m:Nat}(h:J2 F c σ a n m)(hs:σ.sc=true)(τ:List AV):Rel (c.ext τ) n (BX σ) (AR σ.hp) a:=
 h.rel.ext (λi=>by rw[h.nv];exact St.lj hs i) (λt e he=>by rw[h.nv];exact St.kr hs t e he) τ
theorem zGt(A0:PD P sg Rt)(EG:Vp P sg){F:Fix}{c:Cx}{σ:St}{a:Act}{n i base:Nat}{o:Oper}{gs:Gd}{e:Bn}{k:Tr}{R:AV->Prop}{L:LK}{js:List JK}{Q:Exit->Act->World->Prop}{K:Act->World->Prop}
  (hi:ops[i]?=some o) (hm:J2 F c σ a n (base+B1*i)) (D2:XL c.ρ ops o a (some gs)) {Rs:List Nat} (he:MP P sg (BX σ) (Rg σ.hp Rs) σ.nv (base+B1*i) gs o=some e) (Fp:T4 σ.nv (base+B1*i) σ.hp gs e=true)
  (U2:(e.call.isSome||e.cm.isSome)=true->σ.sc=true) (hd:(cP gs e k).den Rt R L js c.ρ)
  (hK:∀(c':Cx) (a':Act),c.ρ<+:c'.ρ->J2 F c' (MD σ gs o e) a' n (base+B1*(i+1))->k.den Rt R L js c'.ρ->K a' c'.w):wpOp P ops Q i K a c.w:=by
 simp only[T4,Ab,AZ]at Fp;obtain⟨⟨⟨⟨BR,Bi⟩,HB⟩,s7⟩,gO⟩:=Fp;have BN:gs≠ []-> ∀t x,(t,x)∈e.bu->base+B1*i<=t/\t<base+B1*i+B1/\ ∃hs y,x= .gd hs y/\MZ gs hs=true:=by
  intro A9 t x hx;have:=gO _ hx;have Uy:gs.isEmpty=false:=by cases gs;exact absurd rfl A9;rfl
  simp only[Uy,Bool.false_or,Bool.false_and,Bool.or_false,Ab,AJ]at this;refine⟨this.1.1,this.1.2,?_⟩;have h3:=this.2;split at h3
  ·exact⟨_,_,rfl,h3⟩
  ·cases h3
 have Bm:∀t,base+B1*i<=t->t<base+B1*i+B1-> ¬c.U t:=λt h1 _ h3=>by have:=hm.U t h3;omega
 have GU:∀(τ:List AV),Rel (c.ext τ) n (BX σ) (AR σ.hp) a->τ.length=(if e.call.isSome||e.cm.isSome then 1 else 0)->k.den Rt R L js (c.ρ++τ)->(BH c.ρ gs-> ∀q∈e.cq,q.den c.ρ)->
   (∀cl,e.call=some cl-> ∃r,τ=[r]/\(BH c.ρ gs->Jn Rt cl.fn ((EL.of cl.args).den c.ρ) c.ρ r))->(∀x,e.cm=some x->τ=[.bool (LC a o)])->wpOp P ops Q i K a c.w:=by
  intro τ hrel hτ hk hc BB Df;have GO:σ.nv=c.ρ.length:=hm.nv.symm;rw[GO]at BR Bi HB;have UG:∀r,τ=[r]->(c.ρ++τ)[σ.nv]?=some r:=by rintro r rfl;rw[GO];simp
  refine uN (c:=c.ext τ) A0 hi hrel ⟨λhg=>D2.1 ((MB BR).1 hg),λhg=>D2.2 λk=>hg ((MB BR).2 k)⟩ (λ_ _=>rfl) (λt e h=>zyc h) Bm he BN (λhg q hq=> ?_) (λcl AB=> ?_) (λx hx _=>UG _ (Df x hx)) (λa' c' Bo hr=> ?_)
  ·exact(Cn.jn (Bi q hq)).2 (hc ((MB BR).1 hg) q hq)
  ·obtain⟨r,rfl,h2⟩:=BB cl AB;rw[AB]at HB;simp only[Ab]at HB;exact⟨r,UG r rfl,λhg=>(ztM HB.1 (EL.jz HB.2)).2 (h2 ((MB BR).1 hg))⟩
  ·have hρ:c'.ρ=c.ρ++τ:=Bo.ρ;refine hK c' a' ⟨τ,hρ.symm⟩ ⟨Bo.w0.trans hm.w0,Bo.A.trans hm.A,Bo.Mu.trans hm.Mu,?_,by rw[zv2];exact hm.len,λt ht=> ?_,?_⟩ (by rw[hρ];exact hk)
   ·rw[hρ,qE,AF,hτ,GO];split<;>rfl
   ·have hmul:base+B1*(i+1)=base+B1*i+B1:=by rw[Nat.mul_add];omega
    rw[hmul];rcases Bo.U t ht with h|h
    ·have:=hm.U t h;omega
    ·exact h.2
   ·rw[zyi,zyu,hm.len];exact hr
 unfold cP at hd;obtain⟨hc,hd⟩:=pM hd;cases AB:e.call with
 |none=>
  simp only[AB]at hd;cases Df:e.cm with
  |none=>simp only[Df]at hd;refine GU [] (by have:=hm.rel;simpa[Cx.ext]using this) (by simp[AB,Df]) (by simpa using hd) hc (λcl h=>by rw[AB]at h;cases h) (λx h=>by rw[Df]at h;cases h)
  |some x=>simp only[Df]at hd;have GR:=U2 (by simp[Df]);refine GU [.bool (LC a o)] (hm.ext GR _) (by simp[Df]) (hd _ λhg hb=> ?_) hc (λcl h=>by rw[AB]at h;cases h) (λx h=>rfl);exact EG c n _ _ _ a _ _ o gs e _ x ⟨hm.rel,hg,λ_ _=>rfl,λt e h=>zyc h,λt h1 h2=>Bm t h1 (Nat.lt_of_lt_of_le h2 (Nat.add_le_add_left (by decide) _))⟩ he Df hb
 |some cl=>
  simp only[AB]at hd;cases Df:e.cm with
  |some x=>rw[Df]at s7;simp[AB]at s7
  |none=>simp only[Df]at hd;obtain⟨r,h1,h2⟩:=hd;have GR:=U2 (by simp[AB]);refine GU [r] (hm.ext GR _) (by simp[AB]) h2 hc (λcl' h=>by rw[AB]at h;cases h;exact⟨r,rfl,h1⟩) (λx h=>by rw[Df]at h;cases h)
theorem zA3{σ:St}{x:E}{b:Bool}{d:Nat}:BX (assume x b d σ)=C4 σ.sl.length (λi=>assumeS x b (BX σ i)) (some d) (.e (.bool b)):=by
 funext i;simp only[assume,BX,C4,Ad,List.getElem?_set,List.length_map,List.getElem?_map];by_cases h:d=i
 ·subst h;by_cases h2:d<σ.sl.length
  ·simp[h2]
  ·simp[h2,List.getElem?_eq_none (Nat.le_of_not_lt h2),assumeS]
 ·simp only[h,false_and,if_false];cases hh:σ.sl[i]?<;>simp[assumeS]
theorem zAR{σ:St}{x:E}{b:Bool}{d:Nat}:AR (assume x b d σ).hp=λt=>(AR σ.hp t).map (assumeE x b):=by funext t;exact zBY _ _ _
theorem J2.assume{F:Fix}{c:Cx}{σ:St}{a:Act}{n m:Nat}(h:J2 F c σ a n m){x:E}{b:Bool}(hx:x.den c.ρ= .bool b){d:Nat}(hd:BX σ d= .e x):J2 F c (Go.Proofs.YtalagilebkaegaaGreat.assume x b d σ) a n m:=by
 refine⟨h.w0,h.A,h.Mu,h.nv,?_,h.U,?_⟩
 ·simp only[Go.Proofs.YtalagilebkaegaaGreat.assume,List.length_set,List.length_map];exact h.len
 ·rw[zA3,zAR];have hr:=h.rel.ga hx;refine{hr with db:=λi=> ?_};unfold C4;split
  ·rename_i hi;obtain⟨hi,_⟩:=hi;cases hi;have:=h.rel.db d;rw[hd]at this;generalize a.tmps.getD d Go.undef=v at this;cases this with
   |e h1 h2 _=>exact .e (f:=[]) (by rw[hx]at h1;rw[Jj h1 rfl];exact .bool .nil) (by simp) .nil
  ·exact hr.db i
theorem zA1(A0:PD P sg Rt)(EG:Vp P sg){F:Fix}{base:Nat}{R:AV->Prop}{L:LK}{js:List JK}{Q:Exit->Act->World->Prop}{n:Nat}{next:List Log->St->Option Tr}{i:Nat}{o:Oper}{lg:List Log}{rest:List Nat}(hi:ops[i]?=some o)
  (CT:∀(lg:List Log) (σ:St) (t:Tr),next lg σ=some t-> ∀(c:Cx) (a:Act),J2 F c σ a n (base+B1*(i+1))->t.den Rt R L js c.ρ->(∀(c':Cx) (a':Act) (σ':St),c.ρ<+:c'.ρ->L js .normal σ' c'.ρ->Hi F c'.ρ σ' a' c'.w->Q .normal a' c'.w)->wpOps P ops Q rest a c.w):
  ∀(m:Nat) (σ:St) (t:Tr),Vu P sg ops false base next i o lg m σ=some t->
  ∀(c:Cx) (a:Act),J2 F c σ a n (base+B1*i)->t.den Rt R L js c.ρ->(∀(c':Cx) (a':Act) (σ':St),c.ρ<+:c'.ρ->L js .normal σ' c'.ρ->Hi F c'.ρ σ' a' c'.w->Q .normal a' c'.w)->wpOps P ops Q (i::rest) a c.w:=by
 have Pl:base+B1*i<=base+B1*(i+1):=by rw[Nat.mul_add];omega
 have try_:∀(fail:Unit->Option Tr) (σ:St) (t:Tr),VB P sg ops false base next i o lg fail σ=some t-> ∀(c:Cx) (a:Act),J2 F c σ a n (base+B1*i)->t.den Rt R L js c.ρ->(∀(c':Cx) (a':Act) (σ':St),c.ρ<+:c'.ρ->L js .normal σ' c'.ρ->Hi F c'.ρ σ' a' c'.w->Q .normal a' c'.w)->
   (fail ()=some t->wpOps P ops Q (i::rest) a c.w)->wpOps P ops Q (i::rest) a c.w:=by
  intro fail σ t ht c a hm hd hq UC;unfold VB at ht;cases Hu:Qp σ ops o with
  |none=>rw[Hu]at ht;cases ht
  |some r=>
   have D2:=o8 (c:=c) (a:=a) Hu (λj want d _ _=>hm.rel.db d);rw[Hu]at ht;cases r with
   |none=>simp only at ht;rw[wpOps_cons];unfold wpOp;simp only[hi];rw[if_neg (by simp[show Region.wanted o (yielded ops a.tmps)=false from D2])];refine CT lg _ t ht c _ ⟨hm.w0,hm.A,hm.Mu,by rw[oA];exact hm.nv,by rw[nH];exact hm.len,λt ht=>Nat.lt_of_lt_of_le (hm.U t ht) Pl,?_⟩ hd hq;rw[oE,nT,hm.len];exact hm.rel.put qV o.dst
   |some gs=>
    simp only at ht;split at ht
    ·rename_i e he;split at ht
     ·cases ht
     ·rename_i AG;split at ht
      ·cases ht
      ·rename_i k hk;simp only[Ad]at ht;subst ht;simp only[Bool.false_and,Bool.false_or,Bool.not_false,Bool.true_and,Bool.or_eq_true,Be,Ab,not_or,Bool.not_eq_false]at AG;rw[wpOps_cons];refine zGt A0 EG hi hm D2 he AG.1 (λhh=> ?_) hd λc' a' hp Dd Cy=>CT _ _ k hk c' a' Dd Cy λc'' a'' σ' hp'=>hq c'' a'' σ' (hp.trans hp');have:=AG.2;simp only[Bool.or_eq_true]at hh;simpa[hh]using this
    ·exact UC ht
 intro m
 induction m with
 |zero=>exact λσ t ht c a hm hd hq=>try_ _ σ t ht c a hm hd hq λh=>by cases h
 |succ m ih=>
  intro σ t ht c a hm hd hq;refine try_ _ σ t ht c a hm hd hq λh=> ?_;split at h
  ·rename_i d _ _;split at h
   ·rename_i x QU;split at h
    ·rename_i k1 k0 G5 QV;simp only[Ad]at h;subst h;obtain⟨tt,h1,h2,h3⟩:=hd;cases tt with
     |true=>exact ih _ k1 G5 c a (hm.assume h1 QU) (h2 rfl) hq
     |false=>exact ih _ k0 QV c a (hm.assume h1 QU) (h3 rfl) hq
    ·cases h
   ·cases h
  ·cases h
theorem uY(A0:PD P sg Rt)(EG:Vp P sg){F:Fix}{base:Nat}{R:AV->Prop}{L:LK}{js:List JK}{Q:Exit->Act->World->Prop}{n:Nat}:∀(len i:Nat) (lg:List Log) (σ:St) (t:Tr),i+len=ops.size->MU P sg ops false base (List.range' i len) lg σ=some t->
  ∀(c:Cx) (a:Act),J2 F c σ a n (base+B1*i)->t.den Rt R L js c.ρ->(∀(c':Cx) (a':Act) (σ':St),c.ρ<+:c'.ρ->L js .normal σ' c'.ρ->Hi F c'.ρ σ' a' c'.w->Q .normal a' c'.w)->wpOps P ops Q (List.range' i len) a c.w
 |0,i,lg,σ,t,hl,ht,c,a,hm,hd,hq=>by
  simp only[List.range'_zero,MU,Bool.false_and,Bj,if_false,Ad]at ht ⊢;subst ht;refine hq c a _ (List.prefix_refl _) hd ⟨c,rfl,rfl,hm.w0,hm.A,hm.Mu,hm.nv,λt ht=> ?_,?_⟩
  ·have:=hm.U t ht;have h9:i=ops.size:=by omega
   subst h9;exact this
  ·have:=hm.rel;rw[<-hm.len]at this;exact this
 |len+1,i,lg,σ,t,hl,ht,c,a,hm,hd,hq=>by
  rw[List.range'_succ]at ht ⊢;unfold MU at ht;obtain⟨o,hi⟩:∃o,ops[i]?=some o:=⟨ops[i]'(by omega),by simp[show i<ops.size by omega]⟩
  rw[hi]at ht;simp only at ht;exact zA1 A0 EG hi (λlg σ t ht c a=>uY A0 EG (n:=n) len (i+1) lg σ t (by omega) ht c a) 4 σ t ht c a hm hd hq
end
def iX(l:List Oper)(bs:List Nat):Prop:=bs.length=l.length/\ ∀(j:Nat) (o:Oper),l[j]?=some o-> ∀i,((bs[j]?).getD 0).testBit i=true-> ∃e∈o.after.toList,Region.binds .any e=true/\(i=e.on\/(e.on<j/\((bs[e.on]?).getD 0).testBit i=true))
theorem zJ(acc:List Nat)(i:Nat):∀(es:List Edge) (s:Nat),(es.foldl (λs e=>if Region.binds .any e then s|||2^e.on|||(acc[e.on]?).getD 0 else s) s).testBit i=true->
  s.testBit i=true\/ ∃e∈es,Region.binds .any e=true/\(i=e.on\/((acc[e.on]?).getD 0).testBit i=true)
 | [],s,h=> .inl h
 |e::es,s,h=>by
  simp only[List.foldl_cons]at h;rcases zJ acc i es _ h with h|⟨e',h1,h2⟩
  ·split at h
   ·rename_i hb;simp only[Nat.testBit_or,Nat.testBit_two_pow,Bool.or_eq_true,AJ]at h;rcases h with(h|h)|h
    ·exact .inl h
    ·exact .inr ⟨e,by simp,hb, .inl h.symm⟩
    ·exact .inr ⟨e,by simp,hb, .inr h⟩
   ·exact .inl h
  ·exact .inr ⟨e',by simp[h1],h2⟩
theorem zwi:∀(os pre:List Oper) (acc:List Nat),iX pre acc->iX (pre++os) (Li os acc)
 | [],pre,acc,h=>by simpa[Li]using h
 |o::os,pre,acc,h=>by
  obtain⟨hl,hb⟩:=h;have:=zwi os (pre++ [o]) (acc++ [rA acc o]) ⟨by simp[hl],λj o' ho i hi=> ?_⟩
  ·simpa[Li]using this
  ·have AD:∀k,k<acc.length->((acc++ [rA acc o])[k]?).getD 0=(acc[k]?).getD 0:=λk hk=>by rw[List.getElem?_append_left hk]
   by_cases hj:j<pre.length
   ·rw[List.getElem?_append_left hj]at ho;rw[AD j (by omega)]at hi;obtain⟨e,h1,h2,h3⟩:=hb j o' ho i hi;exact⟨e,h1,h2,h3.imp id λh=>⟨h.1,by rw[AD _ (by omega)];exact h.2⟩⟩
   ·rw[List.getElem?_append_right (by omega)]at ho;have hj0:j-pre.length=0:=by
     cases hh:j-pre.length with
     |zero=>rfl
     |succ k=>rw[hh]at ho;simp at ho
    rw[hj0]at ho;simp at ho;subst ho;have Pc:j=acc.length:=by omega
    rw[Pc,List.getElem?_append_right (AQ _)]at hi;simp only[Nat.sub_self,List.getElem?_cons_zero,Dt]at hi;rcases zJ acc i _ 0 hi with h|⟨e,h1,h2,h3⟩
    ·simp at h
    ·refine⟨e,h1,h2,h3.imp id λh=> ?_⟩;have he:e.on<acc.length:=by
      rcases Nat.lt_or_ge e.on acc.length with hh|hh
      ·exact hh
      ·rw[List.getElem?_eq_none hh]at h;simp at h
     exact⟨by omega,by rw[AD _ he];exact h⟩
def XE(ops:Array Oper)(S:Nat->Bool):Prop:= ∀k o,S k=true->ops[k]?=some o-> ∀e∈o.after.toList,Region.binds .any e=true->S e.on=true
theorem wK(ops:Array Oper):iX ops.toList (Li ops.toList []):=by have:=zwi ops.toList [] [] ⟨rfl,by simp⟩;simpa using this
theorem ztG{ops:Array Oper}{S:Nat->Bool}(hS:XE ops S):∀(k i:Nat),S k=true->k<ops.size->(((Li ops.toList [])[k]?).getD 0).testBit i=true->S i=true:=by
 intro k
 induction k using Nat.strongRecOn with
 |_ k ih=>
  intro i hk AD hb;have ho:ops.toList[k]?=some ops[k]:=by simp[AD]
  obtain⟨e,h1,h2,h3⟩:=(wK ops).2 k _ ho i hb;have UW:=hS k ops[k] hk (by simp[AD]) e h1 h2;rcases h3 with rfl|⟨h3,h4⟩
  ·exact UW
  ·exact ih e.on h3 i UW (by omega) h4
theorem zCg{ops:Array Oper}{S:Nat->Bool}(hS:XE ops S){j i:Nat}{o:Oper}(ho:ops[j]?=some o)(hr:∀e∈o.after.toList,Region.binds .any e=true->S e.on=true)(hb:(((Li ops.toList [])[j]?).getD 0).testBit i=true):S i=true:=by
 have AD:j<ops.size:=(Array.getElem?_eq_some_iff.1 ho).1;obtain⟨e,h1,h2,h3⟩:=(wK ops).2 j o (by simpa using ho) i hb;have UW:=hr e h1 h2;rcases h3 with rfl|⟨h3,h4⟩
 ·exact UW
 ·exact ztG hS e.on i UW (by omega) h4
theorem zBb{ops:Array Oper}{S:Nat->Bool}(hS:XE ops S){j i:Nat}{o:Oper}(ho:ops[j]?=some o)(hi:i<ops.size)(hj:S j=false)(hr:∀e∈o.after.toList,Region.binds .any e=true->S e.on=true)(A9:i≠j)(Me:KA (Li ops.toList []) i j=true):S i=decide (i<j):=by
 unfold KA at Me;split at Me
 ·rename_i h;rw[zCg hS ho hr Me];simp[h]
 ·rename_i h;cases hs:S i with
  |false=>simp[h]
  |true=>have:=ztG hS i j hs hi Me;rw[hj]at this;cases this
structure Rec where
 i:Nat
 o:Oper
 σ:St
 r:Option (Gd × Bn)
def Rec.next(x:Rec):St:=match x.r with|none=>ID x.σ x.o.dst Ib|some (gs,e)=>MD x.σ gs x.o e
def Rec.val(x:Rec):SV:=match x.r with|none=>Ib|some (gs,e)=>mkGd gs e.val
def Rec.bu(x:Rec):List (Nat × Ah):=match x.r with|none=> []|some (_,e)=>e.bu
def wQ(P:Program)(sg:B4)(Rt:Nat->List AV->AV->Prop)(ops:Array Oper)(base:Nat)(ρ:List AV)(x:Rec):Prop:=
 ops[x.i]?=some x.o/\match x.r with
  |none=>Qp x.σ ops x.o=some none
  |some (gs,e)=>Qp x.σ ops x.o=some (some gs)/\MP P sg (BX x.σ) (Rg x.σ.hp (Xr x.σ gs x.o)) x.σ.nv (base+B1*x.i) gs x.o=some e/\e.cm=none/\T4 x.σ.nv (base+B1*x.i) x.σ.hp gs e=true/\
   (BH ρ gs-> ∀q∈e.cq,q.den ρ)/\ ∀cl,e.call=some cl-> ∃r,ρ[x.σ.nv]?=some r/\(BH ρ gs->Jn Rt cl.fn ((EL.of cl.args).den ρ) ρ r)
def Ez:Nat->St->List Rec->St->Prop
 |_,σ,[],σ'=>σ=σ'
 |i,σ,x::xs,σ'=>x.i=i/\x.σ=σ/\Ez (i+1) x.next xs σ'
def Rec.log(x:Rec):Option Log:=x.r.map λ(gs,e)=>⟨x.i,Xr x.σ gs x.o,e.bu.map (·.1)⟩
theorem oI{P:Program}{sg:B4}{Rt:Nat->List AV->AV->Prop}{ops:Array Oper}{base:Nat}{R:AV->Prop}{L:LK}{js:List JK}:∀(len i:Nat) (lg:List Log) (σ:St) (t:Tr) (ρ:List AV),i+len=ops.size->
  MU P sg ops true base (List.range' i len) lg σ=some t->t.den Rt R L js ρ->ρ.length=σ.nv->
  ∃(τ:List AV) (xs:List Rec) (σ':St) (lg':List Log),Ez i σ xs σ'/\xs.length=len/\(∀x∈xs,wQ P sg Rt ops base (ρ++τ) x)/\(ρ++τ).length=σ'.nv/\L js .normal {σ' with nx:=base+B1*ops.size} (ρ++τ)/\cZ ops lg'=true/\(∀y∈lg,y∈lg')/\ ∀x∈xs,∀y,x.log=some y->y∈lg'
 |0,i,lg,σ,t,ρ,hl,ht,hd,hn=>by
  simp only[List.range'_zero,MU,Bool.true_and]at ht;split at ht
  ·cases ht
  ·rename_i XY;simp only[Ad]at ht;subst ht;exact⟨[],[],σ,lg,rfl,rfl,by simp,by simpa using hn,by simpa[Tr.den]using hd,by simpa using XY,λy hy=>hy,by simp⟩
 |len+1,i,lg,σ,t,ρ,hl,ht,hd,hn=>by
  rw[List.range'_succ]at ht;unfold MU at ht;obtain⟨o,hi⟩:∃o,ops[i]?=some o:=⟨ops[i]'(by omega),by simp[show i<ops.size by omega]⟩
  rw[hi]at ht;simp only at ht;unfold Vu VB at ht;cases Hu:Qp σ ops o with
  |none=>rw[Hu]at ht;cases ht
  |some r=>
   rw[Hu]at ht;cases r with
   |none=>
    simp only at ht;obtain⟨τ,xs,σ',lg',h1,h2,h3,h4,h5,h6,h7,h8⟩:=oI len (i+1) lg _ t ρ (by omega) ht hd (by rw[oA];exact hn);refine⟨τ,⟨i,o,σ,none⟩::xs,σ',lg',⟨rfl,rfl,h1⟩,by simp[h2],λx hx=> ?_,h4,h5,h6,h7,λx hx y hy=> ?_⟩
    ·rcases Ae.1 hx with rfl|hx
     ·exact⟨hi,Hu⟩
     ·exact h3 x hx
    ·rcases Ae.1 hx with rfl|hx
     ·simp[Rec.log]at hy
     ·exact h8 x hx y hy
   |some gs=>
    simp only at ht;split at ht
    ·rename_i e he;split at ht
     ·cases ht
     ·rename_i AG;simp only[Bool.true_and,Bool.not_true,Bool.false_and,Bool.or_false,Bool.or_eq_true,Be,not_or,Bool.not_eq_false]at AG;have Df:e.cm=none:=by cases hh:e.cm with|none=>rfl|some x=>rw[hh]at AG;simp at AG
      split at ht
      ·cases ht
      ·rename_i k hk;simp only[Ad]at ht;subst ht;have Fp:=AG.2;simp only[T4,Ab,AZ]at Fp;obtain⟨⟨⟨⟨BR,Bi⟩,HB⟩,_⟩,_⟩:=Fp;rw[<-hn]at BR Bi HB;unfold cP at hd;obtain⟨hc,hd⟩:=pM hd;simp only[Df]at hd;obtain⟨τ0,hτ0,BB,Cy⟩:∃τ0:List AV,(ρ++τ0).length=(MD σ gs o e).nv/\(∀cl,e.call=some cl-> ∃r,τ0=[r]/\(BH ρ gs->Jn Rt cl.fn ((EL.of cl.args).den ρ) ρ r))/\k.den Rt R L js (ρ++τ0):=by
        cases AB:e.call with
        |none=>rw[AB]at hd;exact⟨[],by rw[qE];simp[AB,Df,hn],by simp,by simpa using hd⟩
        |some cl=>rw[AB]at hd;obtain⟨r,h1,h2⟩:=hd;exact⟨[r],by rw[qE];simp[AB,hn],λcl' h=>by cases h;exact⟨r,rfl,h1⟩,h2⟩
       obtain⟨τ,xs,σ',lg',h1,h2,h3,h4,h5,h6,h7,h8⟩:=oI len (i+1) _ _ k (ρ++τ0) (by omega) hk Cy hτ0;have dX:ρ++τ0++τ=ρ++(τ0++τ):=List.append_assoc ..;rw[dX]at h3 h4 h5;refine⟨τ0++τ,⟨i,o,σ,some (gs,e)⟩::xs,σ',lg',⟨rfl,rfl,h1⟩,by simp[h2],λx hx=> ?_,h4,h5,h6,λy hy=>h7 y (by simp[hy]),λx hx y hy=> ?_⟩
       ·rcases Ae.1 hx with rfl|hx
        ·refine⟨hi,Hu,he,Df,AG.2,λhg q hq=>(Cn.jn (Bi q hq)).2 (hc ((MB BR).1 hg) q hq),λcl AB=> ?_⟩;obtain⟨r,hr,h2⟩:=BB cl AB;rw[AB]at HB;simp only[Ab]at HB;subst hr;exact⟨r,by simp only;rw[<-hn];simp,λhg=>(ztM HB.1 (EL.jz (by simpa using HB.2))).2 (h2 ((MB BR).1 hg))⟩
        ·exact h3 x hx
       ·rcases Ae.1 hx with rfl|hx
        ·simp only[Rec.log,Option.map_some,Ad]at hy;subst hy;exact h7 _ (by simp)
        ·exact h8 x hx y hy
    ·cases ht
def GV(n:Nat)(sl0:Nat->SV)(xs:List Rec)(S:Nat->Bool):Nat->SV:=xs.foldl (λsl x=>if S x.i then C4 n sl x.o.dst x.val else sl) sl0
def Hy(hp0:Nat->Option Ah)(xs:List Rec)(S:Nat->Bool):Nat->Option Ah:=xs.foldl (λhp x=>if S x.i then By hp x.bu else hp) hp0
section
variable {n:Nat} {S S':Nat->Bool} {d t:Nat}
theorem WN:∀(xs:List Rec) {sl sl':Nat->SV},sl d=sl' d->(∀x∈xs,x.o.dst=some d->S x.i=S' x.i)->GV n sl xs S d=GV n sl' xs S' d
 | [],_,_,h,_=>h
 |x::xs,sl,sl',h,hs=>by
  refine WN xs (sl:=if S x.i then C4 n sl x.o.dst x.val else sl) (sl':=if S' x.i then C4 n sl' x.o.dst x.val else sl') ?_ λy hy=>hs y (by simp[hy]);by_cases hd:x.o.dst=some d
  ·rw[<-hs x (by simp) hd];split
   ·simp only[C4,hd,true_and];rw[h]
   ·exact h
  ·have hu:∀sl:Nat->SV,C4 n sl x.o.dst x.val d=sl d:=λsl=>by simp[C4,hd]
   have h1:(if S x.i then C4 n sl x.o.dst x.val else sl) d=sl d:=by split;exact hu sl;rfl
   have h2:(if S' x.i then C4 n sl' x.o.dst x.val else sl') d=sl' d:=by split;exact hu sl';rfl
   rw[h1,h2,h]
theorem pB(xs:List Rec){sl:Nat->SV}(hs:∀x∈xs,x.o.dst=some d->S x.i=false):GV n sl xs S d=sl d:=by
 have h1:=WN (n:=n) (S:=S) (S':=λ_=>false) xs (sl:=sl) (sl':=sl) (d:=d) rfl hs;rw[h1];clear h1 hs
 induction xs generalizing sl with
 |nil=>rfl
 |cons x xs ih=>exact ih
theorem iO(hd:n<=d):∀(xs:List Rec) {sl:Nat->SV},GV n sl xs S d=sl d
 | [],_=>rfl
 |x::xs,sl=>by
  have:=iO hd xs (sl:=if S x.i then C4 n sl x.o.dst x.val else sl);refine Eq.trans this ?_;split
  ·simp only[C4];rw[if_neg (by omega)]
  ·rfl
theorem u5{y:Rec}(hd:d<n)(hy:y.o.dst=some d)(hS:S y.i=true):∀(xs:List Rec) {sl:Nat->SV},y∈xs->(∀x∈xs,x≠y->x.o.dst≠some d)->GV n sl xs S d=y.val
 | [],_,h,_=>by simp at h
 |x::xs,sl,h,hu=>by
  by_cases hm:y∈xs
  ·exact u5 hd hy hS xs (sl:=if S x.i then C4 n sl x.o.dst x.val else sl) hm λz hz=>hu z (by simp[hz])
  ·have hx:y=x:=by rcases Ae.1 h with h|h;exact h;exact absurd h hm
   subst hx;have:=pB (n:=n) (S:=S) (d:=d) xs (sl:=C4 n sl y.o.dst y.val) (λz hz Q5=>absurd Q5 (hu z (by simp[hz]) (λhh=>hm (hh▸hz))));show GV n (if S y.i then C4 n sl y.o.dst y.val else sl) xs S d=_;rw[if_pos hS,this];simp[C4,hy,hd]
theorem ztU{hp hp':Nat->Option Ah}{l:List (Nat × Ah)}(h:hp t=hp' t):By hp l t=By hp' l t:=by
 induction l generalizing hp hp' with
 |nil=>exact h
 |cons p l ih=>
  refine ih ?_;show(if t=p.1 then some p.2 else hp t)=(if t=p.1 then some p.2 else hp' t)
  rw[h]
theorem zy9{hp hp':Nat->Option Ah}{l:List (Nat × Ah)}(h:t∈l.map (·.1)):By hp l t=By hp' l t:=by
 induction l generalizing hp hp' with
 |nil=>simp at h
 |cons p l ih=>
  by_cases hm:t∈l.map (·.1)
  ·exact ih hm
  ·have ht:t=p.1:=by simp only[List.map_cons,Ae]at h;exact h.resolve_right hm
   refine ztU (l:=l) ?_;show(if t=p.1 then some p.2 else hp t)=(if t=p.1 then some p.2 else hp' t)
   rw[if_pos ht,if_pos ht]
theorem pD{hp:Nat->Option Ah}{l:List (Nat × Ah)}(h:t∉l.map (·.1)):By hp l t=hp t:=
 ME λe he=>h (List.mem_map.2 ⟨_,he,rfl⟩)
theorem WW:∀(xs:List Rec) {hp hp':Nat->Option Ah},hp t=hp' t->(∀x∈xs,t∈x.bu.map (·.1)->S x.i=S' x.i)->Hy hp xs S t=Hy hp' xs S' t
 | [],_,_,h,_=>h
 |x::xs,hp,hp',h,hs=>by
  refine WW xs (hp:=if S x.i then By hp x.bu else hp) (hp':=if S' x.i then By hp' x.bu else hp') ?_ λy hy=>hs y (by simp[hy]);by_cases hd:t∈x.bu.map (·.1)
  ·rw[<-hs x (by simp) hd];split
   ·exact ztU h
   ·exact h
  ·have h1:(if S x.i then By hp x.bu else hp) t=hp t:=by split;exact pD hd;rfl
   have h2:(if S' x.i then By hp' x.bu else hp') t=hp' t:=by split;exact pD hd;rfl
   rw[h1,h2,h]
theorem pR(xs:List Rec){hp:Nat->Option Ah}(hs:∀x∈xs,t∈x.bu.map (·.1)->S x.i=false):Hy hp xs S t=hp t:=by
 have h1:=WW (S:=S) (S':=λ_=>false) xs (hp:=hp) (hp':=hp) (t:=t) rfl hs;rw[h1];clear h1 hs
 induction xs generalizing hp with
 |nil=>rfl
 |cons x xs ih=>exact ih
end
section
variable {n:Nat} {S:Nat->Bool} {d t:Nat}
theorem Rec.km(x:Rec):BX x.next=C4 x.σ.sl.length (BX x.σ) x.o.dst x.val:=by
 obtain⟨i,o,σ,r⟩:=x;cases r with
 |none=>exact oE
 |some ge=>exact zyi
theorem Rec.kd(x:Rec):AR x.next.hp=By (AR x.σ.hp) x.bu:=by
 obtain⟨i,o,σ,r⟩:=x;cases r with
 |none=>simp only[Rec.next,Rec.bu,nT];rfl
 |some ge=>exact zyu
theorem Rec.jt(x:Rec):x.next.sl.length=x.σ.sl.length:=by
 obtain⟨i,o,σ,r⟩:=x;cases r with
 |none=>exact nH
 |some ge=>exact zv2
theorem Ez.range:∀{xs:List Rec} {i:Nat} {σ σ':St},Ez i σ xs σ'-> ∀x∈xs,i<=x.i/\x.i<i+xs.length
 | [],_,_,_,_,x,hx=>by simp at hx
 |y::xs,i,σ,σ',h,x,hx=>by
  rcases Ae.1 hx with rfl|hx
  ·have:=h.1;simp only[Bk];omega
  ·have:=Ez.range h.2.2 x hx;simp only[Bk];omega
theorem Ez.ex:∀{xs:List Rec} {i:Nat} {σ σ':St},Ez i σ xs σ'-> ∀j,i<=j->j<i+xs.length-> ∃x∈xs,x.i=j
 | [],i,_,_,_,j,h1,h2=>by simp at h2;omega
 |y::xs,i,σ,σ',h,j,h1,h2=>by
  by_cases hj:j=i
  ·exact⟨y,by simp,by rw[hj];exact h.1⟩
  ·simp only[Bk]at h2;obtain⟨x,hx,he⟩:=Ez.ex h.2.2 j (by omega) (by omega);exact⟨x,by simp[hx],he⟩
theorem Ez.inj:∀{xs:List Rec} {i:Nat} {σ σ':St},Ez i σ xs σ'-> ∀x∈xs,∀y∈xs,x.i=y.i->x=y
 | [],_,_,_,_,x,hx,_,_,_=>by simp at hx
 |z::xs,i,σ,σ',h,x,hx,y,hy,he=>by
  have hz:=h.1;rcases Ae.1 hx with h1|h1<;>rcases Ae.1 hy with h2|h2
  ·rw[h1,h2]
  ·subst h1;have:=(Ez.range h.2.2 y h2).1;omega
  ·subst h2;have:=(Ez.range h.2.2 x h1).1;omega
  ·exact Ez.inj h.2.2 x h1 y h2 he
theorem Ez.sl:∀{xs:List Rec} {i:Nat} {σ σ':St},Ez i σ xs σ'->σ.sl.length=n->(∀x∈xs,x.σ.sl.length=n/\ ∀d,BX x.σ d=GV n (BX σ) xs (λk=>decide (k<x.i)) d)/\σ'.sl.length=n/\BX σ'=GV n (BX σ) xs λ_=>true
 | [],i,σ,σ',h,hn=>by have h:σ=σ':=h;subst h;exact⟨by simp,hn,rfl⟩
 |y::xs,i,σ,σ',h,hn=>by
  obtain⟨h1,h2,h3⟩:=h;subst h2;obtain⟨q1,q2,q3⟩:=Ez.sl h3 (by rw[y.jt];exact hn);rw[y.km,hn]at q1 q3;refine⟨λx hx=> ?_,q2,q3⟩;rcases Ae.1 hx with rfl|hx
  ·refine⟨hn,λd=>(pB _ λz hz _=> ?_).symm⟩;rcases Ae.1 hz with rfl|hz
   ·simp
   ·have:=(Ez.range h3 z hz).1;simp only[decide_eq_false_iff_not];omega
  ·refine⟨(q1 x hx).1,λd=> ?_⟩;rw[(q1 x hx).2 d];have:=(Ez.range h3 x hx).1;show _=GV n (if decide (y.i<x.i)then C4 n (BX y.σ) y.o.dst y.val else BX y.σ) xs (λk=>decide (k<x.i)) d;rw[if_pos (by simp only[AJ];omega)]
theorem Ez.hp:∀{xs:List Rec} {i:Nat} {σ σ':St},Ez i σ xs σ'->(∀x∈xs,∀t,AR x.σ.hp t=Hy (AR σ.hp) xs (λk=>decide (k<x.i)) t)/\AR σ'.hp=Hy (AR σ.hp) xs λ_=>true
 | [],i,σ,σ',h=>by have h:σ=σ':=h;subst h;exact⟨by simp,rfl⟩
 |y::xs,i,σ,σ',h=>by
  obtain⟨h1,h2,h3⟩:=h;subst h2;obtain⟨q1,q3⟩:=Ez.hp h3;rw[y.kd]at q1 q3;refine⟨λx hx=> ?_,q3⟩;rcases Ae.1 hx with rfl|hx
  ·refine λd=>(pR _ λz hz _=> ?_).symm;rcases Ae.1 hz with rfl|hz
   ·simp
   ·have:=(Ez.range h3 z hz).1;simp only[decide_eq_false_iff_not];omega
  ·intro t;rw[q1 x hx t];have:=(Ez.range h3 x hx).1;show _=Hy (if decide (y.i<x.i)then By (AR y.σ.hp) y.bu else AR y.σ.hp) xs (λk=>decide (k<x.i)) t;rw[if_pos (by simp only[AJ];omega)]
theorem vW{y:Rec}{QY:Nat->Option Ah}(hS:S y.i=true)(ht:t∈y.bu.map (·.1)):∀{xs:List Rec} {i:Nat} {σ σ':St} {hp0:Nat->Option Ah},Ez i σ xs σ'->y∈xs->(∀x∈xs,x.i≠y.i->t∈x.bu.map (·.1)->S x.i=decide (x.i<y.i))->Hy hp0 xs S t=By QY y.bu t
 | [],_,_,_,_,_,h,_=>by simp at h
 |x::xs,i,σ,σ',hp0,hc,hm,hs=>by
  by_cases hx:y=x
  ·subst hx;have:=pR (S:=S) (t:=t) xs (hp:=By hp0 y.bu) (λz hz Q5=>by
    have AD:=(Ez.range hc.2.2 z hz).1;have h1:=hc.1;rw[hs z (by simp[hz]) (by omega) Q5];simp only[decide_eq_false_iff_not];omega)
   show Hy (if S y.i then By hp0 y.bu else hp0) xs S t=_;rw[if_pos hS,this];exact zy9 ht
  ·have Dd:y∈xs:=by rcases Ae.1 hm with h|h;exact absurd h hx;exact h
   exact vW hS ht (hp0:=if S x.i then By hp0 x.bu else hp0) hc.2.2 Dd λz hz=>hs z (by simp[hz])
end
theorem zwk{α:Type}{p p':α->Bool}:∀(l:List α),(∀k∈l,p' k=true->p k=true)->(∃j∈l,p j=true/\p' j=false)->(l.filter p').length<(l.filter p).length
 | [],_,h=>by obtain⟨j,hj,_⟩:=h;simp at hj
 |x::l,hs,h=>by
  have hle:(l.filter p').length<=(l.filter p).length:=by
   have:∀(l:List α),(∀k∈l,p' k=true->p k=true)->(l.filter p').length<=(l.filter p).length:=by
    intro l
    induction l with
    |nil=>intro _;simp
    |cons y l ih=>
     intro h;have:=ih λk hk=>h k (by simp[hk]);have hy:=h y (by simp);cases h1:p' y with
     |false=>
      cases h2:p y with
      |false=>simpa[h1,h2]using this
      |true=>simp only[List.filter_cons,h1,h2,Bj,if_false,if_true,Bk];omega
     |true=>simpa[h1,hy h1]using this
   exact this l λk hk=>hs k (by simp[hk])
  obtain⟨j,hj,h1,h2⟩:=h;rcases Ae.1 hj with rfl|hj
  ·simp only[List.filter_cons,h1,h2,Bj,if_false,if_true,Bk];omega
  ·have:=zwk l (λk hk=>hs k (by simp[hk])) ⟨j,hj,h1,h2⟩;have hx:=hs x (by simp);cases h3:p' x with
   |false=>
    cases h4:p x with
    |false=>simpa[h3,h4]using this
    |true=>simp only[List.filter_cons,h3,h4,Bj,if_false,if_true,Bk];omega
   |true=>simpa[h3,hx h3]using this
section
variable {ops:Array Oper} {listed:Array Bool}
theorem zBB(hb:∀j o,ops[j]?=some o-> ∀e∈o.after.toList,Region.binds .any e=true->e.on<j)(Bv:listed.size=ops.size)(hr:Region.ready .any ops listed=[]):∀k,k<ops.size->listed.getD k true=true:=by
 intro k
 induction k using Nat.strongRecOn with
 |_ k ih=>
  intro hk;cases hs:listed.getD k true with
  |true=>rfl
  |false=>
   have:k∈Region.ready .any ops listed:=mem_ready.2 ⟨hs,ops[k],by simp[hk],λe he L1=>by
    have AD:=hb k ops[k] (by simp[hk]) e (by simpa using he) L1;have:=ih e.on AD (by omega);have h2:e.on<listed.size:=by omega
    simp only[Array.getD_eq_getD_getElem?,Array.getElem?_eq_getElem h2,Dt]at this ⊢;exact this⟩
   rw[hr]at this;cases this
theorem zDK(Bv:listed.size=ops.size){j:Nat}(hj:j<ops.size)(k:Nat):(listed.setIfInBounds j true).getD k true=(decide (k=j)||listed.getD k true):=by
 by_cases h:j=k
 ·subst h;simp[Array.getD_eq_getD_getElem?,show j<listed.size by omega]
 ·rw[getD_set_ne true h];simp[Ne.symm h]
variable {P:Program} {sg:B4} {Rt:Nat->List AV->AV->Prop}
theorem zz5(A0:PD P sg Rt){F:Fix}{σ σ':St}{xs:List Rec}{ρ:List AV}{lg:List Log}{n:Nat}{Q:Exit->Act->World->Prop}(hc:Ez 0 σ xs σ')(hlen:xs.length=ops.size)(A5:∀x∈xs,wQ P sg Rt ops σ.nx ρ x)(XY:cZ ops lg=true)(UL:∀x∈xs,∀y,x.log=some y->y∈lg)(hn:σ.sl.length=n)
  (hQ:∀(c:Cx) (a:Act),c.ρ=ρ->c.w0=F.w0->c.A=F.A->c.Mu=F.Mu->(∀t,c.U t->t<σ.nx+B1*ops.size)->Rel c n (BX σ') (AR σ'.hp) a->Q .normal a c.w):
  ∀(fuel:Nat) (listed:Array Bool) (a:Act) (c:Cx),listed.size=ops.size->XE ops (λk=>listed.getD k true)->c.ρ=ρ->c.w0=F.w0->c.A=F.A->c.Mu=F.Mu->
   (∀t,c.U t->t<σ.nx\/ ∃k,k<ops.size/\listed.getD k true=true/\σ.nx+B1*k<=t/\t<σ.nx+B1*k+B1)->Rel c n (GV n (BX σ) xs λk=>listed.getD k true) (Hy (AR σ.hp) xs λk=>listed.getD k true) a->
   ((List.range ops.size).filter λk=> !listed.getD k true).length<=fuel->wpAny P .any ops Q fuel listed a c.w:=by
 simp only[cZ,Ab,AZ,Bool.or_eq_true,AO,Be,AJ]at XY;obtain⟨⟨d1,d2⟩,d3⟩:=XY;have UQ:∀j o,ops[j]?=some o->(o,j)∈ops.toList.zipIdx:=λj o h=>List.mk_mem_zipIdx_iff_getElem?.2 (by simpa using h);have hb:∀j o,ops[j]?=some o-> ∀e∈o.after.toList,Region.binds .any e=true->e.on<j:=λj o h e he L1=>by
  rcases d2 (o,j) (UQ j o h) e he with h|h
  ·rw[L1]at h;cases h
  ·exact h
 obtain⟨c1,c2,c3⟩:=hc.sl hn;obtain⟨c4,c5⟩:=hc.hp;have EE:∀(listed:Array Bool) (a:Act) (c:Cx),listed.size=ops.size->c.ρ=ρ->c.w0=F.w0->c.A=F.A->c.Mu=F.Mu->
   (∀t,c.U t->t<σ.nx\/ ∃k,k<ops.size/\listed.getD k true=true/\σ.nx+B1*k<=t/\t<σ.nx+B1*k+B1)->Rel c n (GV n (BX σ) xs λk=>listed.getD k true) (Hy (AR σ.hp) xs λk=>listed.getD k true) a->
   (∀k,k<ops.size->listed.getD k true=true)->Q .normal a c.w:=by
  intro listed a c Bv h1 h2 h3 h4 h5 h6 B5;refine hQ c a h1 h2 h3 h4 (λt ht=> ?_) ?_
  ·rcases h5 t ht with h|⟨k,hk,_,_,h⟩
   ·simp only[B1]at*;omega
   ·simp only[B1]at*;omega
  ·have e1:(GV n (BX σ) xs λk=>listed.getD k true)=BX σ':=by
    rw[c3];funext d;exact WN xs rfl λx hx _=>by have:=(hc.range x hx).2;exact B5 x.i (by omega)
   have e2:(Hy (AR σ.hp) xs λk=>listed.getD k true)=AR σ'.hp:=by rw[c5];funext d;exact WW xs rfl λx hx _=>by have:=(hc.range x hx).2;exact B5 x.i (by omega)
   rw[e1,e2]at h6;exact h6
 intro fuel
 induction fuel with
 |zero=>
  intro listed a c Bv AB h1 h2 h3 h4 h5 h6 Uu;have B5:∀k,k<ops.size->listed.getD k true=true:=by intro k hk;have:=List.length_eq_zero_iff.1 (Nat.le_zero.1 Uu);have:=List.filter_eq_nil_iff.1 this k (by simpa using hk);simpa using this
  refine⟨?_,EE listed a c Bv h1 h2 h3 h4 h5 h6 B5⟩;refine List.eq_nil_iff_forall_not_mem.2 λj hj=> ?_;obtain⟨q1,o,q2,_⟩:=mem_ready.1 hj;rw[B5 j (Array.getElem?_eq_some_iff.1 q2).1]at q1;cases q1
 |succ fuel ih=>
  intro listed a c Bv AB h1 h2 h3 h4 h5 h6 Uu;refine⟨λhr=>EE listed a c Bv h1 h2 h3 h4 h5 h6 (zBB hb Bv hr),λj hj=> ?_⟩;obtain⟨q1,o,q2,q3⟩:=mem_ready.1 hj;have fI:j<ops.size:=(Array.getElem?_eq_some_iff.1 q2).1;have M8:∀e∈o.after.toList,Region.binds .any e=true->listed.getD e.on true=true:=λe he L1=>by
   have h9:=q3 e (by simpa using he) L1;have AD:=hb j o q2 e he L1;have h8:e.on<listed.size:=by omega
   simp only[Array.getD_eq_getD_getElem?,Array.getElem?_eq_getElem h8,Dt]at h9 ⊢;exact h9
  obtain⟨y,hy,Hb⟩:=hc.ex j (by omega) (by omega);have Pz:y.o=o:=by have:=(A5 y hy).1;rw[Hb,q2]at this;exact(Option.some.inj this).symm
  have X9:∀x∈xs,x.i<ops.size:=λx hx=>by have:=(hc.range x hx).2;omega
  have tB:∀x∈xs,ops[x.i]?=some x.o:=λx hx=>(A5 x hx).1;have agree:∀x∈xs,x.i≠j->KA (Li ops.toList []) x.i j=true->listed.getD x.i true=decide (x.i<j):=λx hx A9 ho=>zBb (S:=λk=>listed.getD k true) AB q2 (X9 x hx) q1 M8 A9 ho;have Is:∀x∈xs,x.i=j->listed.getD x.i true=decide (x.i<j):=λx hx he=>by rw[he,q1];simp
  have Im:∀d,d∈dF ops o->BX y.σ d=GV n (BX σ) xs (λk=>listed.getD k true) d:=by
   intro d hd;rw[(c1 y hy).2 d,Hb];refine WN xs rfl λx hx Vg=> ?_;by_cases he:x.i=j
   ·exact(Is x hx he).symm
   ·rcases d3 (o,j) (UQ j o q2) (x.o,x.i) (UQ _ _ (tB x hx))with h|h
    ·exact absurd h he
    ·simp only[Vg,Ab,Bool.or_eq_true,Be]at h;rcases h.2 with h|h
     ·rw[List.contains_iff_mem.2 hd]at h;cases h
     ·exact(agree x hx he h).symm
  have hW:∀x∈xs,∀t,t∈x.bu.map (·.1)-> ∀ly,y.log=some ly->(t∈ly.R\/t∈ly.W)->listed.getD x.i true=decide (x.i<j):=by
   intro x hx t ht ly UM hm;by_cases he:x.i=j
   ·exact Is x hx he
   ·cases hP:x.r with
    |none=>simp[Rec.bu,hP]at ht
    |some ge=>
     obtain⟨gs,e⟩:=ge;have hlx:x.log=some ⟨x.i,Xr x.σ gs x.o,e.bu.map (·.1)⟩:=by simp[Rec.log,hP]
     have fQ:ly.i=j:=by unfold Rec.log at UM;obtain⟨ge',_,rfl⟩:=Av.1 UM;exact Hb
     have h9:=d1 _ (UL x hx _ hlx) _ (UL y hy _ UM);simp only[fQ]at h9;rcases h9 with(h|h)|h
     ·exact absurd h he
     ·exfalso;have:jC (e.bu.map (·.1)) (ly.R++ly.W)=true:=by
       simp only[jC,List.any_eq_true];exact⟨t,by simpa[Rec.bu,hP]using ht,List.contains_iff_mem.2 (by simpa using hm)⟩
      rw[this]at h;cases h
     ·exact agree x hx he h
  have CT:∀k,(listed.setIfInBounds j true).getD k true=(decide (k=j)||listed.getD k true):=zDK Bv fI;have gR:GV n (BX σ) xs (λk=>(listed.setIfInBounds j true).getD k true)=C4 n (GV n (BX σ) xs λk=>listed.getD k true) o.dst y.val:=by
   funext d;unfold C4;split
   ·rename_i hd;refine u5 hd.2 (by rw[Pz];exact hd.1) (by rw[CT,Hb];simp) xs hy λx hx A9 Vg=> ?_;have he:x.i≠j:=λh=>A9 (hc.inj x hx y hy (by rw[h,Hb]));rcases d3 (o,j) (UQ j o q2) (x.o,x.i) (UQ _ _ (tB x hx))with h|h
    ·exact he h
    ·simp only[Vg,Ab,bne_iff_ne,ne_eq]at h;exact h.1 hd.1
   ·rename_i hd;by_cases O2:d<n
    ·refine WN xs rfl λx hx Vg=> ?_;have he:x.i≠j:=λh=>by
      have:x=y:=hc.inj x hx y hy (by rw[h,Hb]);subst this;exact hd ⟨by rw[<-Pz];exact Vg,O2⟩
     rw[CT];simp[he]
    ·rw[iO (by omega),iO (by omega)]
  have fA:Hy (AR σ.hp) xs (λk=>(listed.setIfInBounds j true).getD k true)=By (Hy (AR σ.hp) xs λk=>listed.getD k true) y.bu:=by
   funext t;by_cases ht:t∈y.bu.map (·.1)
   ·refine vW (by rw[CT,Hb];simp) ht hc hy λx hx A9 Vh=> ?_;rw[Hb]at A9 ⊢;rw[CT];simp only[A9,decide_false,Bool.false_or];cases Ky:y.r with
    |none=>simp[Rec.bu,Ky]at ht
    |some ge=>exact hW x hx t Vh _ (by simp only[Rec.log,Ky,Option.map_some];rfl) (.inr (by simpa[Rec.bu,Ky]using ht))
   ·rw[pD ht];refine WW xs rfl λx hx Vh=> ?_;have he:x.i≠j:=λh=>by
     have:x=y:=hc.inj x hx y hy (by rw[h,Hb]);subst this;exact ht Vh
    rw[CT];simp[he]
  have Uv:((List.range ops.size).filter λk=> !(listed.setIfInBounds j true).getD k true).length<=fuel:=by have:=zwk (p:=λk=> !listed.getD k true) (p':=λk=> !(listed.setIfInBounds j true).getD k true) (List.range ops.size) (λk _ hk=>by rw[CT]at hk;simp at hk ⊢;exact hk.2) ⟨j,by simpa using fI,by simp[q1],by rw[CT];simp⟩;omega
  have eF:XE ops (λk=>(listed.setIfInBounds j true).getD k true):=by
   intro k ok hk fJ e he L1;simp only[CT,Bool.or_eq_true,AJ]at hk ⊢;rcases hk with rfl|hk
   ·rw[q2]at fJ;cases fJ;exact .inr (M8 e he L1)
   ·exact .inr (AB k ok hk fJ e he L1)
  have Nc:∀(a':Act) (c':Cx),c'.ρ=ρ->c'.w0=F.w0->c'.A=F.A->c'.Mu=F.Mu->(∀t,c'.U t->c.U t\/(σ.nx+B1*j<=t/\t<σ.nx+B1*j+B1))->Rel c' n (C4 n (GV n (BX σ) xs λk=>listed.getD k true) o.dst y.val) (By (Hy (AR σ.hp) xs λk=>listed.getD k true) y.bu) a'->
    wpAny P .any ops Q fuel (listed.setIfInBounds j true) a' c'.w:=by
   intro a' c' g1 g2 g3 g4 g5 g6;refine ih _ a' c' (by simpa using Bv) eF g1 g2 g3 g4 (λt ht=> ?_) (by rw[gR,fA];exact g6) Uv;rcases g5 t ht with h|h
   ·rcases h5 t h with h|⟨k,k1,k2,k3,k4⟩
    ·exact .inl h
    ·exact .inr ⟨k,k1,by rw[CT,k2];simp,k3,k4⟩
   ·exact .inr ⟨j,fI,by rw[CT];simp,h.1,h.2⟩
  have sK:∀j' want d,o.guard=some (j',want)->(ops[j']?).bind (·.dst)=some d->SR c [BX y.σ d] [a.tmps.getD d Go.undef]:=by intro j' want d hg hd;rw[Im d (by simp only[dF,hg,Ac];exact .inr (by simp[hd]))];exact h6.db d
  obtain⟨_,DB⟩:=A5 y hy;cases Ky:y.r with
  |none=>
   rw[Ky]at DB;have D2:=o8 (c:=c) (a:=a) DB (λj' want d hg hd=>sK j' want d (by rw[<-Pz];exact hg) hd);unfold wpOp;simp only[q2];rw[Pz]at D2;rw[if_neg (by simp[show Region.wanted o (yielded ops a.tmps)=false from D2])];have hv:y.val=Ib:=by simp[Rec.val,Ky]
   have he:y.bu=[]:=by simp[Rec.bu,Ky]
   refine Nc _ c h1 h2 h3 h4 (λt ht=> .inl ht) ?_;rw[hv,he];exact h6.put qV o.dst
  |some ge=>
   obtain⟨gs,e⟩:=ge;rw[Ky]at DB;simp only at DB;obtain⟨r1,r2,r3,r4,r5,r6⟩:=DB;rw[Pz,Hb]at r2;rw[Hb]at r4;rw[Pz]at r1;have D2:=o8 (c:=c) (a:=a) r1 sK;have hv:y.val=mkGd gs e.val:=by simp[Rec.val,Ky]
   have he:y.bu=e.bu:=by simp[Rec.bu,Ky]
   simp only[T4,Ab,AZ]at r4;obtain⟨_,gO⟩:=r4;have UM:y.log=some ⟨y.i,Xr y.σ gs y.o,e.bu.map (·.1)⟩:=by simp[Rec.log,Ky]
   refine uN (c:=c) A0 q2 h6 D2 (λt ht=>Im t (by simp only[dF,Ac,List.mem_filterMap];exact .inl ⟨.tmp t,by simpa using ht,rfl⟩)) (λt x hx=> ?_) (λt t1 t2 hU=> ?_) r2 (λA9 t x hx=> ?_) (by rw[h1];exact r5) (by rw[h1];exact r6) (λx hx=>by rw[r3]at hx;cases hx) (λa' c' hs hr=> ?_)
   ·unfold Rg at hx;split at hx
    ·rename_i hR;rw[(c4 y hy) t]at hx;rw[<-hx];refine WW xs rfl λz hz hzt=> ?_;rw[Hb];exact hW z hz t hzt _ UM (.inl (by rw[Pz];simpa using hR))
    ·cases hx
   ·rcases h5 t hU with h|⟨k,k1,k2,k3,k4⟩
    ·simp only[B1]at*;omega
    ·have:k≠j:=by rintro rfl;rw[q1]at k2;cases k2
     simp only[B1]at*;omega
   ·have:=gO _ hx;have Uy:gs.isEmpty=false:=by cases gs;exact absurd rfl A9;rfl
    simp only[Uy,Bool.false_or,Bool.false_and,Bool.or_false,Ab,AJ]at this;refine⟨this.1.1,this.1.2,?_⟩;have h3:=this.2;split at h3
    ·exact⟨_,_,rfl,h3⟩
    ·cases h3
   ·exact Nc a' c' (hs.ρ.trans h1) (hs.w0.trans h2) (hs.A.trans h3) (hs.Mu.trans h4) hs.U (by rw[hv,he];exact hr)
end
theorem Rel.world{c:Cx}{n:Nat}{sl:Nat->SV}{hp:Nat->Option Ah}{a:Act}(h:Rel c n sl hp a)(w:World)(h1:w.heap=c.w.heap)(h2:w.os=c.w.os)(h3:w.tape=c.w.tape)(h4:w.output=c.w.output):Rel {c with w:=w} n sl hp a:=by
 refine h.change (λ_=>False) ⟨rfl,rfl,λ_ _ hb=>hb,λb _ _=>by show w.heap[b]?=_;rw[h1],λ_ _ hk=>⟨hk,rfl⟩,λ_ _ _=>⟨AQ _,λ_=>⟨rfl,λb _ _=>by show w.heap[b]?=_;rw[h1]⟩⟩⟩ ⟨h2.trans h.base.os,h3.trans h.base.tape,h4.trans h.base.output,by show _<=w.heap.size;rw[h1];exact h.base.size,h.base.pins,λb hb hm=>by show w.heap[b]?=_;rw[h1];exact h.base.block b hb hm,h.base.pk,h.base.lo⟩ (λt _=>⟨rfl,rfl,rfl,λg hk=>hk⟩) (λt _ b _=>by show w.heap[b]?=_;rw[h1]) (λt ht=>ht.elim)
  ⟨h.gw.nodup,h.gw.cy,h.gw.allow,λt b hb=>by show b<w.heap.size;rw[h1];exact h.gw.inb t b hb⟩ h.ca h.c6
theorem zCu{P:Program}{sg:B4}{Rt:Nat->List AV->AV->Prop}(fU:P.follows .mixedOrders=true)(A0:PD P sg Rt)(EG:Vp P sg):zyP P sg Rt:=by
 intro id ops draw σ t _ Fp hnx ht F R L js ρ a w hL hd hr Q hq;obtain⟨c,rfl,rfl,h1,h2,h3,h4,h5,h6⟩:=hr;rw[List.range_eq_range']at ht;cases draw with
 |false=>refine wp_region ?_;rw[List.range_eq_range'];exact uY A0 EG (n:=σ.sl.length) ops.size 0 [] σ t (by omega) ht c a ⟨h1,h2,h3,h4,rfl,by simpa using h5,h6⟩ hd (λc' a' σ' hp hl hrel=>hq [] .normal σ' c'.ρ a' c'.w hp hl hrel)
 |true=>
  refine wp_region_any fU ?_;obtain⟨τ,xs,σ',lg',g1,g2,g3,g4,g5,g6,_,g8⟩:=oI ops.size 0 [] σ t c.ρ (by omega) ht hd h4;have eO:=h6.ext (λi=>by rw[h4];exact St.lj Fp i) (λt e he=>by rw[h4];exact St.kr Fp t e he) τ;have hw:=eO.world {c.w with drawn:=c.w.drawn+1} rfl rfl rfl rfl;have Hr:∀k,k<ops.size->(Array.replicate ops.size false).getD k true=false:=λk hk=>by simp[Array.getD_eq_getD_getElem?,hk]
  have X9:∀x∈xs,x.i<ops.size:=λx hx=>by have:=(g1.range x hx).2;omega
  have e1:(GV σ.sl.length (BX σ) xs λk=>(Array.replicate ops.size false).getD k true)=BX σ:=by funext d;exact pB _ λx hx _=>Hr x.i (X9 x hx)
  have e2:(Hy (AR σ.hp) xs λk=>(Array.replicate ops.size false).getD k true)=AR σ.hp:=by funext d;exact pR _ λx hx _=>Hr x.i (X9 x hx)
  refine zz5 (F:=F) (n:=σ.sl.length) (c:={c.ext τ with w:={c.w with drawn:=c.w.drawn+1}}) A0 g1 g2 g3 g6 g8 rfl (λc' a' k1 k2 k3 k4 k5 k6=> ?_) ops.size (Array.replicate ops.size false) a (by simp) (λk o hk ho=> ?_) rfl h1 h2 h3 (λt ht=> .inl (h5 t ht)) (by rw[e1,e2];exact hw) (Nat.le_trans (List.length_filter_le _ _) (by simp))
  ·have hlen:=(g1.sl rfl).2.1;refine hq [] .normal _ c'.ρ a' c'.w (by rw[k1];exact List.prefix_append _ _) (by rw[k1];exact g5) ⟨c',rfl,rfl,k2,k3,k4,by rw[k1];exact g4,k5,?_⟩;show Rel c' σ'.sl.length _ _ a';rw[hlen];exact k6
  ·have:=Hr k (Array.getElem?_eq_some_iff.1 ho).1;have Cy:(Array.replicate ops.size false).getD k true=true:=hk;rw[this]at Cy;cases Cy
section
variable {P:Program} {c:Cx} {n nx:Nat} {sl sl0:Nat->SV} {hp hp0:Nat->Option Ah} {a:Act} {o:Oper} {gs:Gd} {e:Bn} {sg:B4} {nv:Nat}
theorem zwG(h:BJ P c n nx sl hp a sl0 hp0 o gs){op:BinOp}{t el:TypeId}{x y:Operand}{ty:TypeId}(ho:o.op= .binOp op t x y ty)(hu:P.underlying t=some (.slice el)){p:Option Addr}{q r:Nat}(hv:a.eval x= .slice p q r)(r2:SR c [.cr] [a.eval y])
  (A0:op= .eql\/op= .neq) (GO:c.ρ[nv]?=some (.bool (LC a o))) (x':Option E) {ck:List Cn}:AI P o c n nx sl hp gs a {cq:=ck,cm:=x',val:= .e (if op= .eql then .var nv else .not (.var nv))}:=by
 have hb:LC a o=p.isNone:=by simp only[LC,ho,hv];cases p<;>rfl
 rw[hb]at GO;have ex:=λ(v u:Value) (hv:a.eval x=v) (hu:a.eval y=u)=>QD (P:=P) (o:=o) ho c.w hv hu;generalize Ds:a.eval y=v2 at r2;cases r2 with
 |cr _=>
  refine AI.pure h (v:= .bool (if op= .eql then p.isNone else !p.isNone)) ?_ ?_ rfl
  ·rw[ex _ _ hv Ds,eqGuard_at_slice];rcases A0 with rfl|rfl
   ·simp[Go.Lib.run_eql_slice_nil c.w t el p q r 0 0 hu]
   ·simp[binOp,Op.equal,Op.maxDepth,Go.Lib.run_equalIn_slice_nil c.w 9999 t el p q r 0 0 hu]
  ·rcases A0 with rfl|rfl
   ·refine .e (f:=[]) ?_ (by simp) .nil;simp only[if_true,E.den,GO,Dt];exact .bool .nil
   ·refine .e (f:=[]) ?_ (by simp) .nil;simp only[reduceCtorEq,if_false,E.den,GO,Dt,AV.ff];exact .bool .nil
end
section
variable {P:Program} {c:Cx} {n nx:Nat} {sl sl0:Nat->SV} {hp hp0:Nat->Option Ah} {a:Act} {o:Oper} {gs:Gd} {e:Bn} {sg:B4} {nv:Nat}
theorem W5{hp:Nat->Option Ah}{gs:Gd}{m:Nat}{cs:BV}{x:E}(h:BK hp gs m (.agg cs)=some x):∃k l,m=k+1/\CQ hp gs k cs.toList=some l/\x= .mk l:=by
 cases m with
 |zero=>simp[BK]at h
 |succ m=>simp only[BK,Av]at h;obtain⟨l,h1,h2⟩:=h;exact⟨m,l,rfl,h1,h2.symm⟩
theorem LA{hp:Nat->Option Ah}{gs:Gd}{m:Nat}{y x:E}(h:BK hp gs m (.e y)=some x):x=y:=by
 cases m with
 |zero=>simp[BK]at h
 |succ m=>simp[BK]at h;exact h.symm
theorem Mz{hp:Nat->Option Ah}{gs:Gd}{m:Nat}{x:E}(h:BK hp gs m .cr=some x):x= .lst .nil:=by
 cases m with
 |zero=>simp[BK]at h
 |succ m=>simp[BK]at h;exact h.symm
theorem Lp{hp:Nat->Option Ah}{gs:Gd}{m:Nat}{s:SV}{ss:List SV}{x:EL}(h:CQ hp gs m (s::ss)=some x):∃k y l,m=k+1/\BK hp gs k s=some y/\CQ hp gs k ss=some l/\x= .cons y l:=by
 cases m with
 |zero=>simp[CQ]at h
 |succ m=>
  simp only[CQ]at h;split at h
  ·rename_i y l h1 h2;simp at h;exact⟨m,y,l,rfl,h1,h2,h.symm⟩
  ·cases h
theorem zip{hp:Nat->Option Ah}{gs:Gd}{ρ:List AV}{w:World}:∀(vs:List Value) (ss:List SV) (m:Nat) (x:EL),Fv.go vs=some ss->CQ hp gs m ss=some x->Rd w vs (x.den ρ) []
 | [],ss,m,x,h,hx=>by
  simp[Fv.go]at h;subst h;cases m with
  |zero=>simp[CQ]at hx
  |succ m=>simp[CQ]at hx;subst hx;exact .nil
 |v::vs,ss,m,x,h,hx=>by
  unfold Fv.go at h;split at h
  ·rename_i hh;cases hh
  ·rename_i k q l hh;cases hh;split at h
   ·rename_i hk;obtain⟨l',h1,rfl⟩:=Av.1 h;obtain⟨j,y,l2,rfl,h2,h3,rfl⟩:=Lp hx;rw[LA h2];exact .int hk (zip _ _ _ _ h1 h3)
   ·cases h
  ·rename_i q l hh;cases hh;obtain⟨l',h1,rfl⟩:=Av.1 h;obtain⟨j,y,l2,rfl,h2,h3,rfl⟩:=Lp hx;rw[LA h2];exact .bool (zip _ _ _ _ h1 h3)
  ·rename_i q l hh;cases hh;split at h
   ·rename_i hk;obtain⟨l',h1,rfl⟩:=Av.1 h;obtain⟨j,y,l2,rfl,h2,h3,rfl⟩:=Lp hx;rw[LA h2];exact .str hk (zip _ _ _ _ h1 h3)
   ·cases h
  ·rename_i l hh;cases hh;obtain⟨l',h1,rfl⟩:=Av.1 h;obtain⟨j,y,l2,rfl,h2,h3,rfl⟩:=Lp hx;rw[Mz h2];exact .eg (zip _ _ _ _ h1 h3)
  ·rename_i l hh;cases hh;obtain⟨l',h1,rfl⟩:=Av.1 h;obtain⟨j,y,l2,rfl,h2,h3,rfl⟩:=Lp hx;rw[LA h2];exact .dw (zip _ _ _ _ h1 h3)
  ·cases h
theorem nA{hp:Nat->Option Ah}{gs:Gd}{ρ:List AV}{w:World}{v:Value}{s:SV}{m:Nat}{x:E}(h:Fv v=some s)(hx:BK hp gs m s=some x):
  Rd w v.cells.toList (x.den ρ).cells []/\(∀u∈v.cells.toList,u.oneCell'=true):=by
 have one:∀{v:Value} {y:AV},Rd w [v] [y] []->(∀cs,y≠ .agg cs)->(∀cs,y≠ .tup cs)->Rd w v.cells.toList y.cells []/\(∀u∈v.cells.toList,u.oneCell'=true):=by
  intro v y hr h1 h2;have h3:=nG hr h1 h2;have h4:y.cells=[y]:=by cases y<;>first|rfl|exact absurd rfl (h1 _)
  rw[one_cells h3,h4];exact⟨by simpa using hr,by simpa using h3⟩
 unfold Fv at h;split at h
 ·split at h
  ·rename_i hk;simp at h;subst h;rw[LA hx];exact one (.int hk .nil) (by simp[E.den]) (by simp[E.den])
  ·cases h
 ·simp at h;subst h;rw[LA hx];exact one (.bool .nil) (by simp[E.den]) (by simp[E.den])
 ·split at h
  ·rename_i hk;simp at h;subst h;rw[LA hx];exact one (.str hk .nil) (by simp[E.den]) (by simp[E.den])
  ·cases h
 ·simp at h;subst h;rw[Mz hx];exact one (.eg .nil) (by simp[E.den]) (by simp[E.den])
 ·simp at h;subst h;rw[LA hx];exact one (.dw .nil) (by simp[E.den]) (by simp[E.den])
 ·rename_i cs;simp only[Option.bind_eq_bind,Ax,Ad]at h;obtain⟨l,hl,rfl⟩:=h;obtain⟨k,l',rfl,h1,rfl⟩:=W5 hx;rw[BV.ay]at h1;exact⟨zip _ _ _ _ hl h1,nK _ _ hl⟩
 ·cases h
theorem iN{w:World}{vs:List Value}{x:AV}(h:Rd w vs x.cells []):∀k,Rd w (List.replicate k vs).flatten (Aq (List.replicate k x)) []
 |0=> .nil
 |k+1=>by simp only[List.replicate_succ,List.flatten_cons,Aq,List.flatMap_cons];have:=h.app (iN h k);simpa[Aq]using this
theorem Z2(z:Array Value)(hz:0<z.size):∀k,(madeCells z (k*z.size)).toList=(List.replicate k z.toList).flatten
 |0=>by simp[madeCells]
 |k+1=>by
  have ih:=Z2 z hz k;simp only[madeCells,Array.toList_map,Array.toList_range]at ih ⊢;rw[Nat.add_mul,Nat.one_mul,List.range_add,List.map_append,ih,List.replicate_succ',List.flatten_append];congr 1;simp only[List.map_map,List.flatten_cons,List.flatten_nil,AE];apply List.ext_getElem?;intro i;simp only[List.getElem?_map,List.getElem?_range'];by_cases hi:i<z.size
  ·simp only[List.getElem?_range hi,Option.map_some,Function.comp_apply];have:(k*z.size+i) % z.size=i:=by rw[Nat.add_comm,Nat.add_mul_mod_self_right,Nat.mod_eq_of_lt hi]
   simp[this,hi]
  ·rw[List.getElem?_eq_none (by simpa using hi),List.getElem?_eq_none (by simpa using hi)];rfl
theorem zzL(h:BJ P c n nx sl hp a sl0 hp0 o gs){t:TypeId}{l m:Operand}(ho:o.op= .makeSlice t l m){s1 s2:SV}(BR:BT sl0 gs l=some s1)(Bi:BT sl0 gs m=some s2)(he:qS P hp0 gs nx t s1 s2=some e)(hc:∀q∈e.cq,Cn.den c.ρ q):AI P o c n nx sl hp gs a e:=by
 have DM:l∈o.op.operands:=by simp[ho,Op.operands]
 have CS:m∈o.op.operands:=by simp[ho,Op.operands]
 unfold qS at he;split at he
 ·rename_i el x y BE;have BE:=JL BE;split at he
  ·cases he
  rename_i hz;have hz:HX P el=true:=by simpa using hz
  obtain⟨i,z,hi,F4,CY,Bv,Cv,ES⟩:=Lo hz;have r1:=h.c7 BR DM;have r2:=h.c7 Bi CS;have ival:∀{x:E} {kk:IntKind} {k:Int} {v:Value},SR c [.e x] [v]->x.den c.ρ= .int kk k->v= .int kk k:=by
   intro x kk k v hr hx;cases hr with
   |e h1 _ _=>exact(Gw h1 hx).1
  split at he
  ·rename_i HC;split at he
   ·rename_i s hs;have hs:Fv z=some s:=by simpa[hi,F4]using hs
    obtain⟨w,hw,rfl⟩:=Av.1 he;obtain⟨kk,k,hk,h0,hb,hle⟩:Cn.den c.ρ (.mkroom x (P.bytesOf el)):=Cl hc;have FR:=ival r1 hk;have Ds:=ival r2 (by rw[<-E.bb c.ρ _ _ HC];exact hk);obtain⟨c1,c2⟩:=nA (w:=c.w) (ρ:=c.ρ) hs hw;obtain⟨kn,rfl⟩:=Int.eq_ofNat_of_zero_le h0;have El:(i.bytes:Int)*(kn:Int)<=281474976710656:=by rw[ES]at hb;rw[Int.mul_comm];omega
    have hlen:=c1.len;have XZ:=Z2 z.cells (by omega) kn;have AW:=run_make (P:=P) c.w t el i z BE hi F4 kk kk kn kn (by omega) (Int.le_refl _) El (by omega);have FP:(madeCells z.cells (kn*z.cells.size)).size=kn*P.cellsOf el:=by rw[size_madeCells,CY,Cv]
    have B8:(madeCells z.cells (kn*z.cells.size)).toList.take ((List.replicate kn (w.den c.ρ)).length*P.cellsOf el)=(List.replicate kn z.cells.toList).flatten:=by rw[List.length_replicate,List.take_of_length_le (by rw[BL,FP];exact AQ _),XZ]
    refine AI.newRow (xs:=List.replicate kn (w.den c.ρ)) (N:=[]) (C:=madeCells z.cells (kn*z.cells.size)) (cap:=kn) (wd:=c.w) (fz:=[]) (ts:=[]) h rfl ⟨rfl,rfl,rfl,rfl⟩ ?_ ?_ (by omega) (λu hu=> ?_) (by simp) (by simp only[maxLen];omega) FP ?_ ?_ (by simp) (λ_=>rfl)
    ·simp only[execOp,ho,FR,Ds,Sem.run_bind,Int.ofNat_eq_natCast,List.length_replicate];rw[AW,CY];rfl
    ·simp[E.den,hk,AV.rep]
    ·rw[List.eq_of_mem_replicate hu,<-hlen,BL,CY,Cv]
    ·rw[B8];intro u hu;obtain⟨q,hq,hu⟩:=List.mem_flatten.1 hu;rw[List.eq_of_mem_replicate hq]at hu;exact c2 u hu
    ·rw[B8];exact iN c1 kn
   ·cases he
  ·split at he
   ·rename_i k0 _;simp only[Ad]at he;subst he;obtain⟨kk,k,hk,h0,hb,hle⟩:Cn.den c.ρ (.mkroom y (P.bytesOf el)):=Cl hc;have FR:=ival r1 (show(E.int k0 0).den c.ρ= .int k0 0 from rfl);have Ds:=ival r2 hk;obtain⟨kn,rfl⟩:=Int.eq_ofNat_of_zero_le h0;have El:(i.bytes:Int)*(kn:Int)<=281474976710656:=by
     rw[ES]at hb;rw[Int.mul_comm];omega
    have AW:=run_make (P:=P) c.w t el i z BE hi F4 k0 kk 0 kn (by omega) (by omega) El (by omega);refine AI.newRow (xs:=[]) (N:=[]) (C:=madeCells z.cells (kn*i.size)) (cap:=kn) (wd:=c.w) (fz:=[]) (ts:=[]) h rfl ⟨rfl,rfl,rfl,rfl⟩ ?_ rfl (by omega) (by simp) (by simp) (by simp only[maxLen];omega) (by rw[size_madeCells,Cv]) (by simp) (by simpa[Aq]using Rd.nil) (by simp) (λ_=>rfl);simp only[execOp,ho,FR,Ds,Sem.run_bind,Int.ofNat_eq_natCast];rw[AW];rfl
   ·cases he
 ·cases he
end
section
variable {P:Program} {c:Cx} {n nx:Nat} {sl sl0:Nat->SV} {hp hp0:Nat->Option Ah} {a:Act} {o:Oper} {gs:Gd} {e:Bn} {sg:B4} {nv:Nat}
def TN(v:Option Value)(k d:Nat):Prop:=(v=none/\k=d)\/ ∃kk,v=some (.int kk (k:Int))
theorem Wq{w:World}{t el:TypeId}(hu:P.underlying t=some (.slice el))(BC:DI P el=true)(p:Option Addr)(m r l h:Nat){lo hi:Option Value}(BZ:TN lo l 0)(Ki:TN hi h m)(h1:l<=h)(h2:h<=m)(h3:m<=r):
  (Instr.sliceAt t (.slice p m r) lo hi none).run P w= .ok (sliced p l h r (P.cellsOf el)) w:=by
 have F9:P.underlying t=some (.slice (P.elem t)):=by simp[Program.elem,hu]
 have he:P.elem t=el:=by simp[Program.elem,hu]
 have hs:(sizeOf (P.elem t)).run P w= .ok (P.cellsOf el) w:=by rw[he];exact Qd BC w
 rw[run_sliceAt_slice w t _ _ _ _ F9];rcases BZ with⟨rfl,rfl⟩|⟨kl,rfl⟩<;>rcases Ki with⟨rfl,rfl⟩|⟨kh,rfl⟩
 ·rw[run_slice_all w t p h r F9,hs];rfl
 ·rw[run_slice_h w t p m r F9 kh _ (by omega) (by omega),hs];rfl
 ·rw[run_slice_l w t p h r F9 kl _ (by omega) (by omega),hs];rfl
 ·rw[run_slice_lh w t p m r F9 kl kh _ _ (by omega) (by omega) (by omega),hs];rfl
theorem zxc(s:ByteArray)(a b:Nat):(s.extract a b).data.toList=(s.data.toList.drop a).take (b-a):=by rw[ByteArray.data_extract,Array.toList_extract,List.extract_eq_take_drop]
theorem zrs{w:World}{t:TypeId}(hu:P.underlying t=some .string)(s:ByteArray)(l h:Nat){lo hi:Option Value}(BZ:TN lo l 0)(Ki:TN hi h s.size)(h1:l<=h)(h2:h<=s.size):
  (Instr.sliceAt t (.string s) lo hi none).run P w= .ok (.string (s.extract l h)) w:=by
 rw[run_sliceAt_string w t _ _ _ _ hu];rcases BZ with⟨rfl,rfl⟩|⟨kl,rfl⟩<;>rcases Ki with⟨rfl,rfl⟩|⟨kh,rfl⟩
 ·rw[run_slice_string_all w t s hu]
 ·rw[run_slice_string_h w t s hu kh _ (by omega) (by omega)];rfl
 ·rw[run_slice_string_l w t s hu kl _ (by omega) (by omega)];rfl
 ·rw[run_slice_string w t s kl kh _ _ hu (by omega) (by omega) (by omega)];rfl
theorem oR{sz:Nat}(ys:List AV)(hs:∀y∈ys,y.cells.length=sz)(l h:Nat)(hl:l<=h)(hh:h<=ys.length):((Aq ys).drop (l*sz)).take ((h-l)*sz)=Aq ((ys.take h).drop l):=by
 have e:ys=ys.take l++((ys.take h).drop l++ys.drop h):=by
  rw[<-List.append_assoc];have:ys.take l++(ys.take h).drop l=ys.take h:=by
   have h2:ys.take l=(ys.take h).take l:=by rw[List.take_take,Nat.min_eq_left hl]
   rw[h2,Ck]
  rw[this,Ck]
 have f1:Aq ys=Aq (ys.take l)++(Aq ((ys.take h).drop l)++Aq (ys.drop h)):=by
  conv=>lhs;rw[e]
  simp[Aq]
 have l1:(Aq (ys.take l)).length=l*sz:=by rw[Lq _ (λy hy=>hs y (BA hy)),Au,Nat.min_eq_left (by omega)]
 have l2:(Aq ((ys.take h).drop l)).length=(h-l)*sz:=by rw[Lq _ (λy hy=>hs y (BA (BM hy))),Bx,Au,Nat.min_eq_left (by omega)]
 rw[f1,<-l1,List.drop_left,<-l2,List.take_left]
theorem zF5{w:World}{v:Value}{ys:List AV}{f:List Nat}{sz:Nat}(hr:Rd w [v] [.sl ys] f)(hs:∀y∈ys,y.cells.length=sz)(l h:Nat)(hl:l<=h)(hh:h<=ys.length):
  ∃p r g,v= .slice p ys.length r/\ys.length<=r/\Rd w [sliced p l h r sz] [.sl ((ys.take h).drop l)] g/\ ∀b∈g,b∈f:=by
 cases hr with
 |eg _=>
  rename_i p r;have hh:h=0:=by simpa using hh
  subst hh;have hl:l=0:=by omega
  subst hl;exact⟨_,_,[],rfl,Nat.zero_le _,by simpa[sliced]using Rd.eg .nil,by simp⟩
 |scons hb h1 h2 h3 h4 h5 h6 Ih h7 h8=>
  rename_i b o m r cs C t fz sz' f1 f2;have hy:∃y,y∈ys:=by cases ys with|nil=>simp at h3;omega|cons y _=>exact⟨y,by simp⟩
  obtain⟨y0,Iu⟩:=hy;have GR:sz'=sz:=(h4 y0 Iu).symm.trans (hs y0 Iu);subst GR;subst h3;refine⟨some ⟨b,o,none⟩,r,?_⟩;rcases Nat.eq_or_lt_of_le hl with he|AD
  ·subst he;refine⟨[],rfl,h2.2,?_,by simp⟩;have:(ys.take l).drop l=[]:=List.drop_eq_nil_of_le (by simp;omega);rw[this];simp only[sliced,Nat.sub_self];exact .eg .nil
  ·have Ca:=h7.len;obtain⟨g,hg,Dn⟩:=h7.piece (l*sz') ((h-l)*sz');rw[oR ys h4 l h hl hh]at Dn;refine⟨b::(g++ []),rfl,h2.2,?_,λx hx=> ?_⟩
   ·have Dw:sliced (some (⟨b,o,none⟩:Addr)) l h r sz'= .slice (some ⟨b,o+l*sz',none⟩) (h-l) (r-l):=by
     unfold sliced;split
     ·exfalso;omega
     ·simp[Addr.add_lit]
    rw[Dw];refine Rd.scons (cs:=(cs.drop (l*sz')).take ((h-l)*sz')) hb (by omega) ⟨by omega,by omega⟩ (by simp;omega) (λy hy=>h4 y (BA (BM hy))) h5 (λj u hu=> ?_) (λu hu=>Ih u (BM (BA hu))) Dn .nil;rw[List.getElem?_take]at hu;split at hu
    ·rw[List.getElem?_drop]at hu;have:=h6 _ _ hu;rw[<-this];congr 1;omega
    ·cases hu
   ·simp only[AE,Ae]at hx;rcases hx with rfl|hx
    ·simp
    ·have:=hg x hx;simp[this]
theorem He{f:Operand->Option SV}{x:Option Operand}{r:Option SV}(h:IM f x=some r):(x=none/\r=none)\/ ∃y z,x=some y/\f y=some z/\r=some z:=by
 cases x with
 |none=>simp[IM]at h;exact .inl ⟨rfl,h.symm⟩
 |some y=>obtain⟨z,hz,rfl⟩:=Av.1 h;exact .inr ⟨y,z,rfl,hz,rfl⟩
theorem aX{s:Option SV}{d l:E}(h:NS s d=some l):(s=none/\l=d)\/s=some (.e l):=by
 unfold NS at h;split at h
 ·simp at h;exact .inl ⟨rfl,h.symm⟩
 ·simp at h;subst h;exact .inr rfl
 ·cases h
theorem zxP(h:BJ P c n nx sl hp a sl0 hp0 o gs){t:TypeId}{x:Operand}{lo hi mx:Option Operand}(ho:o.op= .slice t x lo hi mx){s:SV}(hs:BT sl0 gs x=some s){l' h' m':Option SV}(BY:IM (BT sl0 gs) lo=some l')(Ik:IM (BT sl0 gs) hi=some h')(Dd:IM (BT sl0 gs) mx=some m')(he:pS P hp0 gs t s l' h' m'=some e)(hc:∀q∈e.cq,Cn.den c.ρ q):AI P o c n nx sl hp gs a e:=by
 have hm:x∈o.op.operands:=by simp[ho,Op.operands]
 have Ko:∀y,lo=some y->y∈o.op.operands:=λy hy=>by simp[ho,Op.operands,hy]
 have I5:∀y,hi=some y->y∈o.op.operands:=λy hy=>by simp[ho,Op.operands,hy]
 have fT:∀y,mx=some y->y∈o.op.operands:=λy hy=>by simp[ho,Op.operands,hy]
 have hx:=h.c7 hs hm;have ival:∀{x:E} {kk:IntKind} {k:Int} {v:Value},SR c [.e x] [v]->x.den c.ρ= .int kk k->v= .int kk k:=by
  intro x kk k v hr hx;cases hr with
  |e h1 _ _=>exact(Gw h1 hx).1
 unfold pS at he;split at he
 ·cases he
 rename_i y hy;obtain⟨f,q1,q2⟩:=h.j0 hs hm hy;have ex:(execOp a.eval o).run P c.w=((Instr.sliceAt t (a.eval x) (lo.map a.eval) (hi.map a.eval) (mx.map a.eval)).run P c.w).andThen λv w=> .ok (.value v) w:=by simp[execOp,ho]
 split at he
 ·split at he
  ·rename_i el _ _ hu;split at he
   ·rename_i BC;simp only[Ad]at he;subst he;have hd:(y.den c.ρ).len≠ .undef:=Cl hc;cases BO:y.den c.ρ<;>simp only[BO,AV.len,ne_eq,not_true_eq_false]at hd;rename_i xs;have hl:(y.den c.ρ).len= .int .i64 (xs.length:Int):=by rw[BO];rfl
    obtain⟨p,q,r,hv⟩:∃p q r,a.eval x= .slice p q r:=by
     rcases Tu q1 hl with⟨p,q,hv,Ct⟩|⟨b,o',k,q,hv,Ct⟩
     ·exact⟨_,_,_,hv⟩
     ·exact⟨_,_,_,hv⟩
    rcases He BY with⟨rfl,_⟩|⟨_,_,_,_,hh⟩
    ·rcases He Ik with⟨_,hh⟩|⟨oh,sh,rfl,gQ,hh⟩
     ·cases hh
     ·cases hh;rcases He Dd with⟨_,hh⟩|⟨om,sm,rfl,hsm,hh⟩
      ·cases hh
      ·cases hh;have v1:=(λ{kk:IntKind} (hr:SR c [.e (.int kk 0)] [a.eval oh])=>ival hr (show(E.int kk 0).den c.ρ= .int kk 0 from by simp only[E.den])) (h.c7 gQ (I5 _ rfl))
       have v2:=(λ{kk:IntKind} (hr:SR c [.e (.int kk 0)] [a.eval om])=>ival hr (show(E.int kk 0).den c.ρ= .int kk 0 from by simp only[E.den])) (h.c7 hsm (fT _ rfl))
       have F9:P.underlying t=some (.slice (P.elem t)):=by simp[Program.elem,hu]
       have BE:P.elem t=el:=by simp[Program.elem,hu]
       refine AI.pure h (v:= .slice p 0 0) ?_ (.emp .nil) rfl;rw[ex,hv];simp only[Option.map_none,Option.map_some,v1,v2];rw[run_sliceAt_slice c.w t _ _ _ _ F9,run_slice_hm c.w t p q r F9 _ _ 0 0 (by omega) (by omega) (by omega),BE,Qd BC];simp[sliced]
    ·cases hh
   ·cases he
  ·cases he
 ·have Kp:mx=none:=by
   rcases He Dd with⟨hh,_⟩|⟨_,_,_,_,hh⟩
   ·exact hh
   ·cases hh
  subst Kp;have blo:∀(l:E) (kk:IntKind) (k:Nat),NS l' (.int .i64 0)=some l->l.den c.ρ= .int kk k->TN (lo.map a.eval) k 0:=by
   intro l kk k hl hk;rcases He BY with⟨rfl,rfl⟩|⟨ol,sl',rfl,Dw,rfl⟩
   ·rcases aX hl with⟨_,rfl⟩|hh
    ·simp only[E.den,AV.int.injEq]at hk;exact .inl ⟨rfl,by omega⟩
    ·cases hh
   ·rcases aX hl with⟨hh,_⟩|hh
    ·cases hh
    ·cases hh;exact .inr ⟨kk,by rw[Option.map_some,ival (h.c7 Dw (Ko _ rfl)) hk]⟩
  have bhi:∀(d l:E) (kk:IntKind) (k m:Nat),NS h' d=some l->l.den c.ρ= .int kk k->d.den c.ρ= .int .i64 (m:Int)->TN (hi.map a.eval) k m:=by
   intro d l kk k m hl hk hd;rcases He Ik with⟨rfl,rfl⟩|⟨ol,sl',rfl,Dw,rfl⟩
   ·rcases aX hl with⟨_,rfl⟩|hh
    ·rw[hd]at hk;simp only[AV.int.injEq]at hk;exact .inl ⟨rfl,by omega⟩
    ·cases hh
   ·rcases aX hl with⟨hh,_⟩|hh
    ·cases hh
    ·cases hh;exact .inr ⟨kk,by rw[Option.map_some,ival (h.c7 Dw (I5 _ rfl)) hk]⟩
  split at he
  ·rename_i hu;split at he
   ·rename_i l hb q JA Kh;simp only[Ad]at he;subst he;obtain⟨ka,ai,kb,bi,bs,d1,d2,d3,d4,d5,d6⟩:Cn.den c.ρ (.winS y l hb):=Cl hc;obtain⟨an,rfl⟩:=Int.eq_ofNat_of_zero_le d4;obtain⟨bn,rfl⟩:=Int.eq_ofNat_of_zero_le (Int.le_trans d4 d5);obtain⟨ss,hv,rfl,hle⟩:=TS q1 d3;have Bv:ss.data.toList.length=ss.size:=by simp
    have AW:=zrs (P:=P) (w:=c.w) hu ss an bn (blo l ka an JA d1) (bhi (.slen y) hb kb bn ss.size Kh d2 (by simp only[E.den,d3,AV.slen];simp)) (by omega) (by omega);refine AI.pure h (v:= .string (ss.extract an bn)) ?_ (.da ?_) rfl
    ·rw[ex,hv,Option.map_none,AW];rfl
    ·simp only[E.den,d1,d2,d3,AV.swin];have:(List.take (bn:Int).toNat ss.data.toList).drop (an:Int).toNat=(ss.extract an bn).data.toList:=by
      simp[zxc,List.drop_take]
     rw[this];exact .str (by simp only[ByteArray.size_extract];omega) .nil
   ·cases he
  ·rename_i el hu;split at he
   ·cases he
   rename_i BC;have BC:DI P el=true:=by simpa using BC
   split at he
   ·rename_i l hb fz JA Kh Ij;simp only[Ad]at he;subst he;have BI:Cn.den c.ρ (.issl y (P.cellsOf el)):=Cl hc;obtain⟨ys,DE,JF⟩:=BI;obtain⟨ka,ai,kb,bi,m,d1,d2,d3,d4,d5,d6⟩:Cn.den c.ρ (.win y l hb):=hc _ (by simp);obtain⟨an,rfl⟩:=Int.eq_ofNat_of_zero_le d4;obtain⟨bn,rfl⟩:=Int.eq_ofNat_of_zero_le (Int.le_trans d4 d5);rw[DE]at q1;have hm9:(m:Int)=ys.length:=by rw[DE]at d3;simpa[AV.len]using d3.symm
    split at Ij
    ·rename_i I6;obtain⟨p,r,g,hv,hr,Dn,hg⟩:=zF5 q1 JF an bn (by omega) (by omega);have AW:=Wq (P:=P) (w:=c.w) hu BC p ys.length r an bn (blo l ka an JA d1) (bhi (.len y) hb kb bn ys.length Kh d2 (by simp only[E.den,DE,AV.len])) (by omega) (by omega) hr;intro next Q hk
     unfold Oper.wp;rw[ex,hv,Option.map_none,AW];show Oper.upon P o a next Q (.ok (.value _) c.w)
     rw[Oper.upon_value];have hrel:=h.rel.freeze h.hp h.gs Ij;have A5:∀b∈g,(c.cg (fz.map (·.1))).ok b:=λb hb=>WE h.rel h.eh h.gs Ij I6 (q2 b (hg b hb));refine hk _ (c.cg (fz.map (·.1))) ⟨rfl,rfl,rfl,rfl,λt ht=> .inl ht⟩ (hrel.put (SR.mkGd (.e (f:=g) ?_ A5 .nil) gs h.gs) o.dst);show Rd c.w _ [(E.win y l hb).den c.ρ] g;simp only[E.den,d1,d2,DE,AV.win,Int.ofNat_eq_natCast,CE];exact Dn
    ·cases Ij
   ·cases he
  ·cases he
end
section
variable {P:Program} {c:Cx} {n nx:Nat} {sl sl0:Nat->SV} {hp hp0:Nat->Option Ah} {a:Act} {o:Oper} {gs:Gd} {e:Bn} {sg:B4} {nv:Nat}
theorem T1{w:World}{v:Value}{x:AV}{f:List Nat}{k:SK}(h:Rd w [v] [x] f)(hk:x.sk=some k):(∃kk n,k= .int kk/\v= .int kk n/\x= .int kk n)\/(∃b,k= .bool/\v= .bool b/\x= .bool b)\/ ∃s:ByteArray,k= .str/\v= .string s/\x= .str s.data.toList:=by
 cases h<;>simp[AV.sk]at hk
 ·exact .inl ⟨_,_,hk.symm,rfl,rfl⟩
 ·exact .inr (.inl ⟨_,hk.symm,rfl,rfl⟩)
 ·exact .inr (.inr ⟨_,hk.symm,rfl,rfl⟩)
theorem nP{t:TypeId}(h:(∃k,P.underlying t=some (.int k))\/P.underlying t=some .bool\/P.underlying t=some .string):Ap P t=false:=by rcases h with⟨k,h⟩|h|h<;>simp[Ap,h]
theorem zM{w:World}(d:Nat):∀(fs:List Field) (j:Nat) (ks:List SK) {as_ bs:List Value} {cs ds:List AV} {f g:List Nat},TZ P j fs=some ks->Rd w as_ cs f->Rd w bs ds g->(cs.drop j).map AV.sk=ks.map some->(ds.drop j).map AV.sk=ks.map some->
  (Op.eqFields (d+1) as_.toArray bs.toArray fs).run P w= .ok (AV.leq (cs.drop j) (ds.drop j)) w
 | [],j,ks,as_,bs,cs,ds,f,g,hk,h1,h2,k1,k2=>by
  simp[TZ]at hk;subst hk;have e1:cs.drop j=[]:=by simpa using k1
  have e2:ds.drop j=[]:=by simpa using k2
  rw[e1,e2];simp[Op.eqFields,AV.leq]
 |fd::fs,j,ks,as_,bs,cs,ds,f,g,hk,h1,h2,k1,k2=>by
  unfold TZ at hk;split at hk
  ·cases hk
  rename_i AG;simp only[not_or,Be,Decidable.not_not,ne_eq,Bool.not_eq_false]at AG;obtain⟨hn,ho,BC,Cl⟩:=AG;have main:∀(k:SK) (l:List SK),ks=k::l->TZ P (j+1) fs=some l->(∀a b (x y:AV) f g,Rd w [a] [x] f->Rd w [b] [y] g->x.sk=some k->y.sk=some k->(Op.equalIn (d+1) fd.type a b).run P w= .ok (x.seq y) w)->Ap P fd.type=false->
    (Op.eqFields (d+1) as_.toArray bs.toArray (fd::fs)).run P w= .ok (AV.leq (cs.drop j) (ds.drop j)) w:=by
   rintro k l rfl hl heq IU;have Kl:j<cs.length:=by
    rcases Nat.lt_or_ge j cs.length with hh|hh
    ·exact hh
    ·rw[List.drop_eq_nil_of_le hh]at k1;simp at k1
   have fG:j<ds.length:=by
    rcases Nat.lt_or_ge j ds.length with hh|hh
    ·exact hh
    ·rw[List.drop_eq_nil_of_le hh]at k2;simp at k2
   rw[Br Kl]at k1;rw[Br fG]at k2;simp only[List.map_cons,List.cons.injEq]at k1 k2;have l1:=h1.len;have l2:=h2.len;obtain⟨v,f1,hv,_,r1⟩:=h1.at (show cs[j]?=some cs[j] by simp[Kl])
   obtain⟨u,g1,hu,_,r2⟩:=h2.at (show ds[j]?=some ds[j] by simp[fG])
   have p1:=Xf BC as_ fd.offset (by omega) (.inr Cl) w;have p2:=Xf BC bs fd.offset (by omega) (.inr Cl) w;have e1:((as_.drop fd.offset).take (P.cellsOf fd.type)).headD Go.undef=v:=by rw[Cl,ho,Br (by omega),List.take_succ_cons];simpa[show j<as_.length by omega]using hv
   have e2:((bs.drop fd.offset).take (P.cellsOf fd.type)).headD Go.undef=u:=by rw[Cl,ho,Br (by omega),List.take_succ_cons];simpa[show j<bs.length by omega]using hu
   rw[IU,e1]at p1;rw[IU,e2]at p2;have ih:=zM (w:=w) d fs (j+1) l hl h1 h2 k1.2 k2.2;rw[Br Kl,Br fG];simp only[Op.eqFields,ne_eq,hn,not_false_eq_true,if_true,Sem.run_bind,p1,p2,Bj,if_false,Result.andThen_ok,heq v u _ _ _ _ r1 r2 k1.1 k2.1];cases hb:(cs[j]).seq ds[j]with
   |true=>simpa[AV.leq,hb]using ih
   |false=>simp[AV.leq,hb]
  split at hk
  ·rename_i k l hu hl;simp at hk;refine main _ _ hk.symm hl (λa b x y f g ra rb hx hy=> ?_) (nP (.inl ⟨_,hu⟩));rcases T1 ra hx with⟨kk,m,h5,rfl,rfl⟩|⟨_,h5,_⟩|⟨_,h5,_⟩<;>cases h5
   rcases T1 rb hy with⟨kk,m2,h5,rfl,rfl⟩|⟨_,h5,_⟩|⟨_,h5,_⟩<;>cases h5
   exact run_equalIn_int w d fd.type _ _ _ _ hu
  ·rename_i l hu hl;simp at hk;refine main _ _ hk.symm hl (λa b x y f g ra rb hx hy=> ?_) (nP (.inr (.inl hu)));rcases T1 ra hx with⟨kk,m,h5,_⟩|⟨_,_,rfl,rfl⟩|⟨_,h5,_⟩<;>try cases h5
   rcases T1 rb hy with⟨kk,m,h5,_⟩|⟨_,_,rfl,rfl⟩|⟨_,h5,_⟩<;>try cases h5
   exact oB d _ _ hu w
  ·rename_i l hu hl;simp at hk;refine main _ _ hk.symm hl (λa b x y f g ra rb hx hy=> ?_) (nP (.inr (.inr hu)));rcases T1 ra hx with⟨kk,m,h5,_⟩|⟨_,h5,_⟩|⟨_,_,rfl,rfl⟩<;>try cases h5
   rcases T1 rb hy with⟨kk,m,h5,_⟩|⟨_,h5,_⟩|⟨_,_,rfl,rfl⟩<;>try cases h5
   rw[run_equalIn_string w d _ _ _ hu,zub];rfl
  ·cases hk
theorem zDy(h:BJ P c n nx sl hp a sl0 hp0 o gs){op:BinOp}{t:TypeId}{x y:Operand}{ty:TypeId}(ho:o.op= .binOp op t x y ty){fs:Array Field}(hu:P.underlying t=some (.struct fs))(he:B2 P sg sl0 hp0 nv nx gs o=some e)(hc:∀q∈e.cq,Cn.den c.ρ q):AI P o c n nx sl hp gs a e:=by
 have DM:x∈o.op.operands:=by simp[ho,Op.operands]
 have CS:y∈o.op.operands:=by simp[ho,Op.operands]
 simp only[B2,ho,Ax]at he;obtain⟨s1,BR,s2,Bi,he⟩:=he;unfold TY at he;simp only[hu]at he;split at he
 ·cases he
 rename_i hg;simp only[Bool.or_eq_true,not_or,Bool.not_eq_true]at hg;split at he
 ·rename_i ks x' y' hks Ee BO;obtain⟨f1,q1,_⟩:=h.j0 BR DM Ee;obtain⟨f2,q2,_⟩:=h.j0 Bi CS BO;have CB:P.underlying t=some (.struct (P.fieldsOf t)):=by simp[Program.fieldsOf,hu]
  have M9:P.fieldsOf t=fs:=by simp[Program.fieldsOf,hu]
  have key:∀(k1:Cn.den c.ρ (.kinds x' ks)) (k2:Cn.den c.ρ (.kinds y' ks)),∃as_ bs:List Value,∃b,a.eval x= .agg as_.toArray/\a.eval y= .agg bs.toArray/\(E.aeq x' y').den c.ρ= .bool b/\(Op.equalIn 10000 t (.agg as_.toArray) (.agg bs.toArray)).run P c.w= .ok b c.w:=by rintro⟨cs,BI,k1⟩ ⟨ds,Hq,k2⟩;obtain⟨as_,FR,_,r1⟩:=K2 q1 BI;obtain⟨bs,Ds,_,r2⟩:=K2 q2 Hq;refine⟨as_,bs,AV.leq cs ds,FR,Ds,by simp only[E.den,BI,Hq,AV.aeq],?_⟩;rw[run_equalIn_struct c.w 9999 t _ _ CB hg.1,M9];exact zM (w:=c.w) 9998 fs.toList 0 ks hks r1 r2 (by simpa using k1) (by simpa using k2)
  split at he
  ·simp only[Ad]at he;subst he;obtain⟨as_,bs,b,FR,Ds,hd,hr⟩:=key (hc _ (by simp)) (hc _ (by simp));refine AI.pure h (v:= .bool b) ?_ (.da (by rw[hd];exact .bool .nil)) rfl;rw[QD ho c.w FR Ds];simp[run_eqGuard_agg c.w _ t x y _ _ hg.2,run_eql_struct,hr]
  ·simp only[Ad]at he;subst he;obtain⟨as_,bs,b,FR,Ds,hd,hr⟩:=key (hc _ (by simp)) (hc _ (by simp));refine AI.pure h (v:= .bool (!b)) ?_ (.da (by simp only[E.den]at hd ⊢;rw[hd];exact .bool .nil)) rfl;rw[QD ho c.w FR Ds];simp[run_eqGuard_agg c.w _ t x y _ _ hg.2,run_neq_struct,hr]
  ·cases he
 ·cases he
theorem zS(h:BJ P c n nx sl hp a sl0 hp0 o gs){x y:Operand}{cl:Call}(ho:o.op= .call cl){op:BinOp}(A0:(op= .gtr/\cl.callee= .builtin .max)\/(op= .lss/\cl.callee= .builtin .min))(C6:cl.args.toList=[x,y]){s1 s2:SV}(BR:BT sl0 gs x=some s1)(Bi:BT sl0 gs y=some s2)
  (he:bJ op s1 s2=some e) (hc:∀q∈e.cq,Cn.den c.ρ q):AI P o c n nx sl hp gs a e:=by
 have Aj:cl.args= #[x,y]:=by apply Array.ext';simp[C6]
 have DM:x∈o.op.operands:=by rcases A0 with⟨_,hh⟩|⟨_,hh⟩<;>simp[ho,Op.operands,Call.operands,hh,Aj]
 have CS:y∈o.op.operands:=by rcases A0 with⟨_,hh⟩|⟨_,hh⟩<;>simp[ho,Op.operands,Call.operands,hh,Aj]
 unfold bJ at he;split at he
 ·rename_i x' y';simp only[Ad]at he;subst he;obtain⟨f1,q1,_⟩:=Iy (h.c7 BR DM) rfl;obtain⟨f2,q2,_⟩:=Iy (h.c7 Bi CS) rfl;have hd:AV.bin op (y'.den c.ρ) (x'.den c.ρ)≠ .undef:=Cl hc;cases hx:x'.den c.ρ<;>cases hy:y'.den c.ρ<;>simp only[hx,hy,AV.bin,ne_eq,not_true_eq_false]at hd;rename_i k m k' m';split at hd
  ·rename_i hk;have hk:k'=k:=by rcases hk with hk|hk|hk;exact hk;all_goals (rcases A0 with⟨h1,_⟩|⟨h1,_⟩<;>rw[h1]at hk<;>cases hk)
   subst hk;obtain⟨v1,i1⟩:=Gw q1 hx;obtain⟨v2,i2⟩:=Gw q2 hy;rcases A0 with⟨rfl,AB⟩|⟨rfl,AB⟩
   ·refine AI.pure h (v:= .int k' (if m'>m then m' else m)) ?_ (.da ?_) rfl
    ·simp[execOp,ho,resolve,AB,Aj,invoke,builtin,Builtin.max_,Builtin.max2,v1,v2]
    ·simp only[E.den,hx,hy,AV.bin,true_or,if_true,CK];by_cases hh:m'>m
     ·simp only[hh,decide_true,AV.cond,if_true];exact .int i2 .nil
     ·simp only[hh,decide_false,AV.cond,if_false];exact .int i1 .nil
   ·refine AI.pure h (v:= .int k' (if m'<m then m' else m)) ?_ (.da ?_) rfl
    ·simp[execOp,ho,resolve,AB,Aj,invoke,builtin,Builtin.min_,Builtin.min2,v1,v2]
    ·simp only[E.den,hx,hy,AV.bin,true_or,if_true,CK];by_cases hh:m'<m
     ·simp only[hh,decide_true,AV.cond,if_true];exact .int i2 .nil
     ·simp only[hh,decide_false,AV.cond,if_false];exact .int i1 .nil
  ·exact absurd rfl hd
 ·cases he
end
inductive CA(P:Program)(w:World):List TypeId->List Bool->List Value->List AV->List Nat->List Nat->Prop where
 |nil {fl}:CA P w [] fl [] [] [] []
 |own {t ts fl el u us y ys top N rf hs}:fl.headD false=true->C3 P t=some el->(Cg P el=true/\N=[]\/Cg P el=false/\DK P t=none)->De w el (P.cellsOf el) u y top N->CA P w ts fl.tail us ys rf hs->CA P w (t::ts) fl (u::us) (y::ys) (N++rf) (top++hs)
 |deep {t ts fl el e z l u us y ys top rf hs}:fl.headD false=true->C3 P t=some el->Cg P el=false->DK P t=some (.row e z l)->DC w [.row e z l] [u] [y] top->CA P w ts fl.tail us ys rf hs->CA P w (t::ts) fl (u::us) (y::ys) rf (top++hs)
 |rd {t ts fl u us y ys f rf hs}:(fl.headD false=true->C3 P t=none)->Rd w [u] [y] f->CA P w ts fl.tail us ys rf hs->CA P w (t::ts) fl (u::us) (y::ys) (f++rf) hs
def OE(P:Program)(w:World)(t:TypeId)(fl:List Bool)(v:Value)(x:AV)(rf hs:List Nat):Prop:=
 ∃us ys,(if Ap P t then v= .agg us.toArray/\x= .agg ys/\ ∀u∈us,u.oneCell'=true else us=[v]/\ys=[x])/\CA P w (Bl P t) fl us ys rf hs
def Ea(P:Program)(w:World)(t:TypeId)(fl:List Bool)(v:Value)(x:AV)(rf hs:List Nat):Prop:=
 if Gj P t fl then OE P w t fl v x rf hs else Rd w [v] [x] rf/\hs=[]
inductive MV(P:Program)(w:World):List TypeId->List Bool->List Value->List AV->List Nat->List Nat->Prop where
 |nil {fl}:MV P w [] fl [] [] [] []
 |cons {t ts fl v vs x xs f h rf hs}:Ea P w t fl v x f h->MV P w ts (fl.drop (Bl P t).length) vs xs rf hs->MV P w (t::ts) fl (v::vs) (x::xs) (f++rf) (h++hs)
theorem CA.len{P:Program}{w:World}{ts:List TypeId}{fl:List Bool}{us:List Value}{ys:List AV}{rf hs:List Nat}(h:CA P w ts fl us ys rf hs):us.length=ts.length/\ys.length=ts.length:=by induction h<;>simp_all
theorem CA.inb{P:Program}{w:World}{ts:List TypeId}{fl:List Bool}{us:List Value}{ys:List AV}{rf hs:List Nat}(h:CA P w ts fl us ys rf hs):(∀b∈rf,b<w.heap.size)/\ ∀b∈hs,b<w.heap.size:=by
 induction h with
 |nil=>simp
 |deep _ _ _ _ h _ ih=>
  refine⟨ih.1,λb hb=> ?_⟩;rcases Ac.1 hb with hb|hb
  ·exact h.inb b hb
  ·exact ih.2 b hb
 |own _ _ _ h _ ih=>
  refine⟨λb hb=> ?_,λb hb=> ?_⟩
  ·rcases Ac.1 hb with hb|hb
   ·obtain⟨xs,_,_,_,⟨_,_,_,rfl⟩|⟨g,cap,C,_,_,_,_,_,_,_,hr⟩⟩:=h
    ·simp at hb
    ·exact hr.inb b hb
   ·exact ih.1 b hb
  ·rcases Ac.1 hb with hb|hb
   ·obtain⟨xs,_,_,_,⟨_,_,rfl,_⟩|⟨g,cap,C,_,_,_,hh,_,rfl,_⟩⟩:=h
    ·simp at hb
    ·simp at hb;subst hb;exact Dh hh
   ·exact ih.2 b hb
 |rd _ h _ ih=>
  refine⟨λb hb=> ?_,ih.2⟩;rcases Ac.1 hb with hb|hb
  ·exact h.inb b hb
  ·exact ih.1 b hb
structure A3 where
 tag:Nat
 new:Option Value
 top:List Nat
 bu:Ah
def A3.pair(r:A3):Nat × Ah:=(r.tag,r.bu)
structure Fy(c c':Cx)(w':World)(recs:List A3):Prop where
 ρ:c'.ρ=c.ρ
 w:c'.w=w'
 G:∀r∈recs,c'.G r.tag=⟨r.top,[]⟩
 new:∀r∈recs,∀hv,r.new=some hv->c'.K r.tag 0/\(∀g,c'.K r.tag g->g<=0)/\c'.H r.tag 0=hv
 K:∀t g,c.K t g->c'.K t g/\c'.H t g=c.H t g
 old:∀t,c.U t-> ∀g,c'.K t g->c.K t g
 iz:∀r∈recs,r.new.isSome=true->c'.E r.tag=0
 gn:∀r∈recs,r.new=none->c'.E r.tag=c.E r.tag+1
theorem Fy.mono{c c':Cx}{w':World}{recs recs':List A3}(h:Fy c c' w' recs)(hs:∀r∈recs',r∈recs):Fy c c' w' recs':=
 ⟨h.ρ,h.w,λr hr=>h.G r (hs r hr),λr hr=>h.new r (hs r hr),h.K,h.old,λr hr=>h.iz r (hs r hr),λr hr=>h.gn r (hs r hr)⟩
section
variable {P:Program} {c:Cx} {w':World}
theorem zEE{c':Cx}{t:Nat}{u:Value}{el sz:Nat}{y:AV}{top N:List Nat}(h:De w' el sz u y top N)(hk:c'.K t 0)(hh:c'.H t 0=u):SR c' [.own t 0] [u]:=by
 obtain⟨xs,_,_,_,⟨_,⟨a,rfl⟩,_⟩|⟨g,cap,C,rfl,_⟩⟩:=h
 ·exact .own hk hh .nil
 ·exact .own hk hh .nil
theorem SF{nx:Nat}{mk:Nat->E}{ts:List TypeId}{fl:List Bool}{us:List Value}{ys:List AV}{rf hs:List Nat}(h:CA P w' ts fl us ys rf hs):∀(j:Nat),(∀i y,ys[i]?=some y->(mk (j+i)).den c.ρ=y)->
  ∃recs:List A3,(Dg P nx mk j ts fl).2=recs.map A3.pair/\recs.flatMap A3.top=hs/\(∀r∈recs,nx+j<=r.tag/\r.tag<nx+j+ts.length/\r.new.isSome)/\(recs.map A3.tag).Nodup/\(∀r∈recs,r.new=us[r.tag-(nx+j)]?)/\
   ∀c',Fy c c' w' recs->(∀b∈rf,c'.ok b)->SR c' (Dg P nx mk j ts fl).1 us/\ ∀r∈recs,DJ c' r.tag r.bu:=by
 induction h with
 |nil=>exact λj _=>⟨[],rfl,rfl,by simp,by simp,by simp,λc' _ _=>⟨.nil,by simp⟩⟩
 | @own t ts fl el u us y ys top N rf hs h1 h2 M1 h3 _ ih=>
  intro j GH;obtain⟨recs,e1,e2,e3,e4,e4',e5⟩:=ih (j+1) (λi y hy=>by rw[show j+1+i=j+(i+1)from by omega];exact GH (i+1) y (by simpa using hy));have hy:=GH 0 y rfl;have gA:TU P t el 0 0 (mk j)= .row el (P.cellsOf el) 0 (mk j) (Cg P el):=by
   unfold TU;rcases M1 with⟨h,_⟩|⟨h,h'⟩
   ·rw[if_pos h,h]
   ·rw[if_neg (by rw[h];simp),h',h]
  simp only[Dg,h1,h2,gA];refine⟨⟨nx+j,some u,top, .row el (P.cellsOf el) 0 (mk j) (Cg P el)⟩::recs,by simp[e1,A3.pair],by simp[e2],λr hr=> ?_,?_,λr hr=> ?_,λc' ha A5=> ?_⟩
  ·rcases Ae.1 hr with rfl|hr
   ·simp
   ·have:=e3 r hr;simp only[Bk];exact⟨by omega,by omega,this.2.2⟩
  ·simp only[List.map_cons,List.nodup_cons];refine⟨λhm=> ?_,e4⟩;obtain⟨r,hr,Ir⟩:=List.mem_map.1 hm;have:=e3 r hr;omega
  ·rcases Ae.1 hr with rfl|hr
   ·simp
   ·rw[e4' r hr];have:=e3 r hr;rw[show r.tag-(nx+j)=(r.tag-(nx+(j+1)))+1 from by omega,List.getElem?_cons_succ]
  ·obtain⟨q1,q2⟩:=e5 c' (ha.mono λr hr=>by simp[hr]) λb hb=>A5 b (by simp[hb]);obtain⟨k1,k2,k3⟩:=ha.new _ (List.mem_cons_self ..) u rfl;have kg:=ha.G _ (List.mem_cons_self ..);simp only at k1 k2 k3 kg;refine⟨(zEE h3 k1 k3).cons q1,λr hr=> ?_⟩;rcases Ae.1 hr with rfl|hr
   ·refine⟨k1,k2,N,?_,λb hb=>A5 b (by simp[hb]),λhd=> ?_,λ_=>by rw[kg]⟩
    rotate_left
    ·rcases M1 with⟨_,h⟩|⟨h,_⟩
     ·subst h;exact⟨rfl,by rw[kg]⟩
     ·rw[h]at hd;cases hd
    rw[k3,kg,ha.w,ha.ρ];have BO:(mk j).den c.ρ=y:=by simpa using hy
    rw[BO];exact h3
   ·exact q2 r hr
 | @deep t ts fl el e z l u us y ys top rf hs h1 h2 Ua QO h3 _ ih=>
  intro j GH;obtain⟨recs,e1,e2,e3,e4,e4',e5⟩:=ih (j+1) (λi y hy=>by rw[show j+1+i=j+(i+1)from by omega];exact GH (i+1) y (by simpa using hy));have hy:=GH 0 y rfl;have gA:TU P t el 0 0 (mk j)= .deep e z l.toList 0 0 (mk j):=by unfold TU;rw[if_neg (by rw[Ua];simp),QO]
  simp only[Dg,h1,h2,gA];refine⟨⟨nx+j,some u,top, .deep e z l.toList 0 0 (mk j)⟩::recs,by simp[e1,A3.pair],by simp[e2],λr hr=> ?_,?_,λr hr=> ?_,λc' ha A5=> ?_⟩
  ·rcases Ae.1 hr with rfl|hr
   ·simp
   ·have:=e3 r hr;simp only[Bk];exact⟨by omega,by omega,this.2.2⟩
  ·simp only[List.map_cons,List.nodup_cons];refine⟨λhm=> ?_,e4⟩;obtain⟨r,hr,Ir⟩:=List.mem_map.1 hm;have:=e3 r hr;omega
  ·rcases Ae.1 hr with rfl|hr
   ·simp
   ·rw[e4' r hr];have:=e3 r hr;rw[show r.tag-(nx+j)=(r.tag-(nx+(j+1)))+1 from by omega,List.getElem?_cons_succ]
  ·obtain⟨q1,q2⟩:=e5 c' (ha.mono λr hr=>by simp[hr]) A5;obtain⟨k1,k2,k3⟩:=ha.new _ (List.mem_cons_self ..) u rfl;have kg:=ha.G _ (List.mem_cons_self ..);have ke:=ha.iz _ (List.mem_cons_self ..) rfl;simp only at k1 k2 k3 kg ke;obtain⟨p1,p2,p3,rfl⟩:=h3.head;refine⟨(SR.own k1 k3 .nil).cons q1,λr hr=> ?_⟩;rcases Ae.1 hr with rfl|hr
   ·refine⟨k1,k2,ke,?_,by rw[kg]⟩;have BO:(mk j).den c.ρ=y:=by simpa using hy
    rw[k3,kg,ha.w,ha.ρ,BO,AA.c8];exact h3
   ·exact q2 r hr
 | @rd t ts fl u us y ys f rf hs h1 h3 _ ih=>
  intro j GH;obtain⟨recs,e1,e2,e3,e4,e4',e5⟩:=ih (j+1) (λi y hy=>by rw[show j+1+i=j+(i+1)from by omega];exact GH (i+1) y (by simpa using hy));have hy:=GH 0 y rfl;have UD:Dg P nx mk j (t::ts) fl=(.e (mk j)::(Dg P nx mk (j+1) ts fl.tail).1,(Dg P nx mk (j+1) ts fl.tail).2):=by
   simp only[Dg];split
   ·rename_i h8 h9;rw[h1 h8]at h9;cases h9
   ·rfl
  rw[UD];refine⟨recs,e1,e2,λr hr=> ?_,e4,λr hr=> ?_,λc' ha A5=> ?_⟩
  ·have:=e3 r hr;simp only[Bk];exact⟨by omega,by omega,this.2.2⟩
  ·rw[e4' r hr];have:=e3 r hr;rw[show r.tag-(nx+j)=(r.tag-(nx+(j+1)))+1 from by omega,List.getElem?_cons_succ]
  ·obtain⟨q1,q2⟩:=e5 c' ha λb hb=>A5 b (by simp[hb]);have BO:(mk j).den c.ρ=y:=by simpa using hy
   exact⟨(SR.e (f:=f) (by rw[ha.w,ha.ρ,BO];exact h3) (λb hb=>A5 b (by simp[hb])) .nil).cons q1,q2⟩
theorem P9{nx:Nat}{mk:Nat->E}:∀(j:Nat) (ts:List TypeId) (fl:List Bool) (t:Nat) (e:Ah) {gs:Gd} {f:Ah},(t,e)∈(Dg P nx mk j ts fl).2->e≠ .gd gs f
 |_,[],_,_,_,_,_,h=>by simp[Dg]at h
 |j,u::ts,fl,t,e,gs,f,h=>by
  unfold Dg at h;split at h
  ·rcases Ae.1 h with h|h
   ·cases h;unfold TU;split
    ·simp
    ·split<;>simp
   ·exact P9 _ _ _ _ _ h
  ·exact P9 _ _ _ _ _ h
theorem WQ{ρ:List AV}{x:E}{ys:List AV}(hx:x.den ρ= .agg ys):∀i y,ys[i]?=some y->(D9 x true (0+i)).den ρ=y:=by intro i y hy;simp[D9,E.den,hx,AV.fld,AV.cells,hy]
theorem yW{nx:Nat}{t:TypeId}{fl:List Bool}{x:E}{v:Value}{y:AV}{rf hs:List Nat}(h:Ea P w' t fl v y rf hs)(hx:x.den c.ρ=y):
  ∃recs:List A3,(Ql P nx t fl x).2=recs.map A3.pair/\recs.flatMap A3.top=hs/\(∀r∈recs,nx<=r.tag/\r.tag<nx+(Bl P t).length/\r.new.isSome)/\(recs.map A3.tag).Nodup/\
   ∀c',Fy c c' w' recs->(∀b∈rf,c'.ok b)->SR c' [(Ql P nx t fl x).1] [v]/\ ∀r∈recs,DJ c' r.tag r.bu:=by
 unfold Ea at h;unfold Ql;split at h
 ·rename_i hf;simp only[hf,if_true];obtain⟨us,ys,hg,hc⟩:=h;split at hg
  ·rename_i AM;obtain⟨rfl,rfl,Cs⟩:=hg;obtain⟨recs,e1,e2,e3,e4,_,e5⟩:=SF (c:=c) (nx:=nx) (mk:=D9 x (Ap P t)) hc 0 (by rw[AM];exact WQ hx);refine⟨recs,e1,e2,λr hr=>by have:=e3 r hr;exact⟨by omega,by omega,this.2.2⟩,e4,λc' ha A5=> ?_⟩;obtain⟨q1,q2⟩:=e5 c' ha A5;rw[if_pos AM];exact⟨.agg Cs (by rw[BV.ay];exact q1) .nil,q2⟩
  ·rename_i AM;obtain⟨rfl,rfl⟩:=hg;have Ho:Ap P t=false:=by simpa using AM
   obtain⟨recs,e1,e2,e3,e4,_,e5⟩:=SF (c:=c) (nx:=nx) (mk:=D9 x (Ap P t)) hc 0 (by
    intro i z hz;cases i with
    |zero=>simp at hz;subst hz;simp[D9,Ho,hx]
    |succ i=>simp at hz)
   refine⟨recs,e1,e2,λr hr=>by have:=e3 r hr;exact⟨by omega,by omega,this.2.2⟩,e4,λc' ha A5=> ?_⟩;obtain⟨q1,q2⟩:=e5 c' ha A5;refine⟨?_,q2⟩;rw[if_neg AM];have hl:=q1.len;generalize (Dg P nx (D9 x (Ap P t)) 0 (Bl P t) fl).1=l at q1 hl
   match l,hl with
   | [s],_=>exact q1
 ·rename_i hf;simp only[hf,if_false,Bj];obtain⟨h1,rfl⟩:=h;exact⟨[],rfl,rfl,by simp,by simp,λc' ha A5=>⟨.e (f:=rf) (by rw[ha.w,ha.ρ,hx];exact h1) A5 .nil,by simp⟩⟩
theorem ztc{ts:List TypeId}{fl:List Bool}{x:E}{vs:List Value}{ys:List AV}{rf hs:List Nat}(h:MV P w' ts fl vs ys rf hs):∀(nx i:Nat),(∀k y,ys[k]?=some y->(E.proj x (i+k)).den c.ρ=y)->
  ∃recs:List A3,(Oa P nx ts fl x i).2=recs.map A3.pair/\recs.flatMap A3.top=hs/\(∀r∈recs,nx<=r.tag/\r.tag<nx+(ts.flatMap (Bl P)).length/\r.new.isSome)/\(recs.map A3.tag).Nodup/\
   ∀c',Fy c c' w' recs->(∀b∈rf,c'.ok b)->SR c' (Oa P nx ts fl x i).1 vs/\ ∀r∈recs,DJ c' r.tag r.bu:=by
 induction h with
 |nil=>exact λnx i _=>⟨[],rfl,rfl,by simp,by simp,λc' _ _=>⟨.nil,by simp⟩⟩
 | @cons t ts fl v vs y ys f h rf hs h1 _ ih=>
  intro nx i hx;obtain⟨r1,a1,a2,a3,a4,a5⟩:=yW (c:=c) (nx:=nx) (x:= .proj x i) h1 (hx 0 y rfl);obtain⟨r2,b1,b2,b3,b4,b5⟩:=ih (nx+(Bl P t).length) (i+1) (λk z hz=>by rw[show i+1+k=i+(k+1)from by omega];exact hx (k+1) z (by simpa using hz));simp only[Oa];refine⟨r1++r2,by simp[a1,b1],by simp[a2,b2],λr hr=> ?_,?_,λc' ha A5=> ?_⟩
  ·simp only[List.flatMap_cons,AF];rcases Ac.1 hr with hr|hr
   ·have:=a3 r hr;exact⟨this.1,by omega,this.2.2⟩
   ·have:=b3 r hr;exact⟨by omega,by omega,this.2.2⟩
  ·rw[List.map_append,List.nodup_append];refine⟨a4,b4,λt1 It t2 Lf he=> ?_⟩;obtain⟨q1,G8,rfl⟩:=List.mem_map.1 It;obtain⟨q2,FJ,rfl⟩:=List.mem_map.1 Lf;have:=a3 q1 G8;have:=b3 q2 FJ;omega
  ·obtain⟨p1,p2⟩:=a5 c' (ha.mono λr hr=>by simp[hr]) λb hb=>A5 b (by simp[hb]);obtain⟨q1,q2⟩:=b5 c' (ha.mono λr hr=>by simp[hr]) λb hb=>A5 b (by simp[hb]);refine⟨p1.cons q1,λr hr=> ?_⟩;rcases Ac.1 hr with hr|hr
   ·exact p2 r hr
   ·exact q2 r hr
end
theorem WD{α:Type}{f:α->List Nat}:∀{l:List α},(l.flatMap f).Nodup->(∀a∈l,(f a).Nodup)/\ ∀(i j:Nat) (a b:α) (x:Nat),l[i]?=some a->l[j]?=some b->x∈f a->x∈f b->i=j
 | [],_=>⟨by simp,by simp⟩
 |a::l,h=>by
  rw[List.flatMap_cons,List.nodup_append]at h;obtain⟨h1,h2,h3⟩:=h;obtain⟨k1,k2⟩:=WD h2;refine⟨λb hb=> ?_,λi j p q x hi hj hp hq=> ?_⟩
  ·rcases Ae.1 hb with rfl|hb
   ·exact h1
   ·exact k1 b hb
  ·cases i with
   |zero=>
    cases j with
    |zero=>rfl
    |succ j=>simp at hi hj;subst hi;exact absurd rfl (h3 x hp x (List.mem_flatMap.2 ⟨q,List.mem_of_getElem? hj,hq⟩))
   |succ i=>
    cases j with
    |zero=>simp at hi hj;subst hj;exact absurd rfl (h3 x hq x (List.mem_flatMap.2 ⟨p,List.mem_of_getElem? hi,hp⟩))
    |succ j=>rw[k2 i j p q x (by simpa using hi) (by simpa using hj) hp hq]
theorem Tn{recs:List A3}(hn:(recs.map A3.tag).Nodup){r:A3}(hr:r∈recs)(p:A3->Bool)(hp:p r=true)(EJ:∀q,p q=true->q.tag=r.tag):recs.find? p=some r:=by
 induction recs with
 |nil=>simp at hr
 |cons q recs ih=>
  simp only[List.map_cons,List.nodup_cons]at hn;rw[List.find?_cons];rcases Ae.1 hr with rfl|hr
  ·simp[hp]
  ·have:p q=false:=by
    cases hq:p q with
    |false=>rfl
    |true=>exact absurd (List.mem_map.2 ⟨r,hr,(EJ q hq).symm⟩) hn.1
   rw[this];exact ih hn.2 hr
def Cx.du(c:Cx)(w':World)(recs:List A3):Cx:=
 {c with w:=w',G:=λt=>(match recs.find? (λr=>r.tag==t)with|some r=>⟨r.top,[]⟩|none=>c.G t),K:=λt g=>c.K t g\/ ∃r∈recs,r.tag=t/\r.new.isSome=true/\g=0,H:=λt g=>(match recs.find? (λr=>r.tag==t&&r.new.isSome)with|some r=>r.new.getD undef|none=>c.H t g),U:=λt=>c.U t\/ ∃r∈recs,r.tag=t,E:=λt=>match recs.find? (λr=>r.tag==t)with|some r=>if r.new.isSome then 0 else c.E t+1|none=>c.E t}
section
variable {P:Program} {c:Cx} {n:Nat} {sl:Nat->SV} {hp:Nat->Option Ah} {a:Act} {w':World} {recs:List A3}
theorem Cx.dy(hn:(recs.map A3.tag).Nodup){r:A3}(hr:r∈recs):(c.du w' recs).G r.tag=⟨r.top,[]⟩:=by simp only[Cx.du];rw[Tn hn hr (λq=>q.tag==r.tag) (by simp) (λq hq=>by simpa using hq)]
theorem Cx.df{t:Nat}(ht:∀r∈recs,r.tag≠t):(c.du w' recs).G t=c.G t:=by
 simp only[Cx.du];have:recs.find? (λr=>r.tag==t)=none:=by rw[List.find?_eq_none];intro r hr;simpa using ht r hr
 rw[this]
theorem Cx.dr(hU:∀t g,c.K t g->c.U t)(hn:(recs.map A3.tag).Nodup)(Bm:∀r∈recs,r.new.isSome=true-> ¬c.U r.tag):Fy c (c.du w' recs) w' recs:=by
 refine⟨rfl,rfl,λr hr=>Cx.dy hn hr,λr hr hv JE=>⟨.inr ⟨r,hr,rfl,by simp[JE],rfl⟩,λg hg=> ?_,?_⟩,λt g hk=>⟨.inl hk,?_⟩,λt ht g hk=> ?_,λr hr hs=> ?_,λr hr hs=> ?_⟩
 ·rcases hg with hg|⟨_,_,_,_,rfl⟩
  ·exact absurd (hU _ _ hg) (Bm r hr (by simp[JE]))
  ·exact AQ _
 ·simp only[Cx.du];rw[Tn hn hr (λq=>q.tag==r.tag&&q.new.isSome) (by simp[JE]) (λq hq=>by simp only[Ab,AO]at hq;exact hq.1)];simp[JE]
 ·simp only[Cx.du];have:recs.find? (λr=>r.tag==t&&r.new.isSome)=none:=by
   rw[List.find?_eq_none];rintro r hr hh;simp only[Ab,AO]at hh;exact Bm r hr hh.2 (hh.1▸hU t g hk)
  rw[this]
 ·rcases hk with hk|⟨r,hr,rfl,hh,_⟩
  ·exact hk
  ·exact absurd ht (Bm r hr hh)
 ·simp only[Cx.du];rw[Tn hn hr (λq=>q.tag==r.tag) (by simp) (λq hq=>by simpa using hq)];simp[hs]
 ·simp only[Cx.du];rw[Tn hn hr (λq=>q.tag==r.tag) (by simp) (λq hq=>by simpa using hq)];simp[hs]
theorem Cx.je{t:Nat}(ht:∀r∈recs,r.tag≠t):(c.du w' recs).E t=c.E t:=by
 simp only[Cx.du];have:recs.find? (λr=>r.tag==t)=none:=by rw[List.find?_eq_none];intro r hr;simpa using ht r hr
 rw[this]
theorem Rel.changes(h:Rel c n sl hp a){hs:List Nat}{gs:Gd}(k:BH c.ρ gs)(Bp:Mod hs c.w w')(hn:(recs.map A3.tag).Nodup)(Bm:∀r∈recs,r.new.isSome=true-> ¬c.U r.tag)
  (Hv:∀b∈hs,∃r∈recs,b∈(c.G r.tag).top) (Fg:(recs.flatMap A3.top).Nodup) (Cm:∀r∈recs,∀b∈r.top,(b∈hs\/c.w.heap.size<=b)/\b<w'.heap.size)
  (A9:∀r∈recs,∀hs f,r.bu≠ .gd hs f) (BN:Ej c (c.du w' recs)-> ∀r∈recs,DJ (c.du w' recs) r.tag r.bu):
  Rel (c.du w' recs) n sl (By hp (recs.map λr=>(r.tag,Da gs r.bu))) a/\Ej c (c.du w' recs):=by
 have aft:=Cx.dr (w':=w') h.ca hn Bm;have s8:∀b∈hs,c.M b:=λb hb=>by obtain⟨r,_,hr⟩:=Hv b hb;exact⟨_,hr⟩
 have Bq:∀b∈hs,c.B<=b\/c.Mu b:=λb hb=>by obtain⟨r,_,hr⟩:=Hv b hb;exact h.gw.allow r.tag b (by simp[GI.own,hr])
 have Cj:Ej c (c.du w' recs):=by
  refine⟨rfl,rfl,λb hb A5=>⟨λ⟨t,ht⟩=> ?_,A5.2⟩,λb hb A5=>Bp.block b hb λhh=>A5.1 (s8 b hh),aft.K,λt g hk=> ?_⟩;by_cases hT:∃r∈recs,r.tag=t
  ·obtain⟨r,hr,rfl⟩:=hT;rw[Cx.dy hn hr]at ht;rcases(Cm r hr b ht).1 with hh|hh
   ·exact A5.1 (s8 b hh)
   ·omega
  ·rw[Cx.df λr hr hh=>hT ⟨r,hr,hh⟩]at ht;exact A5.1 ⟨t,ht⟩
  ·by_cases hT:∃r∈recs,r.tag=t
   ·obtain⟨r,hr,rfl⟩:=hT;have Dl:r.new=none:=by
     cases hh:r.new with
     |none=>rfl
     |some v=>exact absurd (h.ca _ _ hk) (Bm r hr (by simp[hh]))
    rw[aft.gn r hr Dl];exact⟨by omega,λh=>by omega⟩
   ·have rZ:∀r∈recs,r.tag≠t:=λr hr hh=>hT ⟨r,hr,hh⟩;rw[Cx.je rZ,Cx.df rZ];refine⟨AQ _,λ_=>⟨rfl,λb hb GB=>Bp.block b GB λhh=> ?_⟩⟩;obtain⟨r,hr,OZ⟩:=Hv b hh;exact h.gw.cy t r.tag (λhh=>hT ⟨r,hr,hh.symm⟩) b (by simp[GI.own,hb]) (by simp[GI.own,OZ])
 have BN:=BN Cj;have Kv:∀r∈recs,∀e',(r.tag,e')∈(recs.map λr=>(r.tag,Da gs r.bu))->e'=Da gs r.bu:=by
  intro r hr e' Fo;obtain⟨q,hq,JC⟩:=List.mem_map.1 Fo;simp only[A4]at JC;obtain⟨h1,rfl⟩:=JC;have e1:=Cx.dy (c:=c) (w':=w') hn hr;have:q=r:=by have f1:=Tn hn hr (λq=>q.tag==r.tag) (by simp) (λq hq=>by simpa using hq);have f2:=Tn hn hq (λp=>p.tag==r.tag) (by simp[h1]) (λp hp=>by rw[h1];simpa using hp);rw[f1]at f2;cases f2;rfl
  rw[this]
 refine⟨h.change (λt=> ∃r∈recs,r.tag=t) Cj ⟨Bp.os.trans h.base.os,Bp.tape.trans h.base.tape,Bp.output.trans h.base.output,Nat.le_trans h.base.size Bp.size,λt v QZ=>⟨.inl (h.base.pins t v QZ).1,λhk=> ?_⟩,λb hb GJ=> ?_,h.base.pk,h.base.lo⟩
  (λt ht=>⟨ME λe he=> ?_,Cx.df λr hr hh=>ht ⟨r,hr,hh⟩,Cx.je λr hr hh=>ht ⟨r,hr,hh⟩,λg hg=> ?_⟩) (λt ht b hb=>Bp.block b (h.gw.inb t b (by simp[GI.own,hb])) λhh=> ?_) (λt ht=> ?_) ⟨λt=> ?_,λt u Nx b hb Cq=> ?_,λt b hb=> ?_,λt b hb=> ?_⟩ (λt g hk=> ?_) (λt e he=> ?_),Cj⟩
 ·have Cy:=aft.old t (h.base.pins t v QZ).1 0 hk;rw[(aft.K t 0 Cy).2];exact(h.base.pins t v QZ).2 Cy
 ·refine(Bp.block b (Nat.lt_of_lt_of_le hb h.base.size) λhh=> ?_).trans (h.base.block b hb GJ);rcases Bq b hh with h1|h1
  ·exact absurd h1 (Nat.not_le.2 hb)
  ·exact GJ h1
 ·obtain⟨q,hq,JC⟩:=List.mem_map.1 he;simp only[A4]at JC;exact ht ⟨q,hq,JC.1⟩
 ·rcases hg with hg|⟨r,hr,Ir,_⟩
  ·exact hg
  ·exact absurd ⟨r,hr,Ir⟩ ht
 ·obtain⟨r,hr,GB⟩:=Hv b hh;exact h.gw.cy t r.tag (λhh=>ht ⟨r,hr,hh.symm⟩) b (by simp[GI.own,hb]) (by simp[GI.own,GB])
 ·obtain⟨r,hr,rfl⟩:=ht;have Ep:=pX (hp:=hp) (l:=recs.map λr=>(r.tag,Da gs r.bu)) (List.mem_map.2 ⟨r,hr,rfl⟩) (Kv r hr);rw[Ep];refine⟨λe' U0=> ?_,λDl=> ?_⟩
  ·rw[(Tc k (A9 r hr)).1 U0];exact BN r hr
  ·exact absurd ((Tc k (A9 r hr)).2 rfl) (Dl r.bu)
 ·by_cases hT:∃r∈recs,r.tag=t
  ·obtain⟨r,hr,rfl⟩:=hT;rw[Cx.dy hn hr];simpa[GI.own]using(WD Fg).1 r hr
  ·rw[Cx.df λr hr hh=>hT ⟨r,hr,hh⟩];exact h.gw.nodup t
 ·by_cases hT:∃r∈recs,r.tag=t
  ·obtain⟨r,hr,rfl⟩:=hT;rw[Cx.dy hn hr]at hb;simp only[GI.own,AE]at hb;by_cases hV:∃r∈recs,r.tag=u
   ·obtain⟨q,hq,rfl⟩:=hV;rw[Cx.dy hn hq]at Cq;simp only[GI.own,AE]at Cq;obtain⟨i,hi⟩:=List.getElem?_of_mem hr;obtain⟨j,hj⟩:=List.getElem?_of_mem hq;have:=(WD Fg).2 i j r q b hi hj hb Cq;subst this;rw[hi]at hj;cases hj;exact Nx rfl
   ·rw[Cx.df λr hr hh=>hV ⟨r,hr,hh⟩]at Cq;rcases(Cm r hr b hb).1 with hh|hh
    ·obtain⟨q,hq,hbq⟩:=Hv b hh;exact h.gw.cy q.tag u (λhh=>hV ⟨q,hq,hh⟩) b (by simp[GI.own,hbq]) Cq
    ·have:=h.gw.inb u b Cq;omega
  ·rw[Cx.df λr hr hh=>hT ⟨r,hr,hh⟩]at hb;by_cases hV:∃r∈recs,r.tag=u
   ·obtain⟨q,hq,rfl⟩:=hV;rw[Cx.dy hn hq]at Cq;simp only[GI.own,AE]at Cq;rcases(Cm q hq b Cq).1 with hh|hh
    ·obtain⟨r,hr,XW⟩:=Hv b hh;exact h.gw.cy r.tag t (λhh=>hT ⟨r,hr,hh⟩) b (by simp[GI.own,XW]) hb
    ·have:=h.gw.inb t b hb;omega
   ·rw[Cx.df λr hr hh=>hV ⟨r,hr,hh⟩]at Cq;exact h.gw.cy t u Nx b hb Cq
 ·by_cases hT:∃r∈recs,r.tag=t
  ·obtain⟨r,hr,rfl⟩:=hT;rw[Cx.dy hn hr]at hb;simp only[GI.own,AE]at hb;rcases(Cm r hr b hb).1 with hh|hh
   ·exact Bq b hh
   ·exact .inl (Nat.le_trans h.base.size hh)
  ·rw[Cx.df λr hr hh=>hT ⟨r,hr,hh⟩]at hb;exact h.gw.allow t b hb
 ·by_cases hT:∃r∈recs,r.tag=t
  ·obtain⟨r,hr,rfl⟩:=hT;rw[Cx.dy hn hr]at hb;simp only[GI.own,AE]at hb;exact(Cm r hr b hb).2
  ·rw[Cx.df λr hr hh=>hT ⟨r,hr,hh⟩]at hb;exact Nat.lt_of_lt_of_le (h.gw.inb t b hb) Bp.size
 ·rcases hk with hk|⟨r,hr,Ir,_⟩
  ·exact .inl (h.ca t g hk)
  ·exact .inr ⟨r,hr,Ir⟩
 ·by_cases hT:∃r∈recs,r.tag=t
  ·exact .inr hT
  ·rw[ME]at he
   ·exact .inl (h.c6 t e he)
   ·intro e' Fo;obtain⟨q,hq,JC⟩:=List.mem_map.1 Fo;simp only[A4]at JC;exact hT ⟨q,hq,JC.1⟩
end
def jM(P:Program)(w:World)(t:TypeId):PM->Value->AV->List Nat->List Nat->Prop
 | .ro,v,x,rf,hs=>Rd w [v] [x] rf/\hs=[]
 | .va own,v,x,rf,hs=>OE P w t own v x rf hs
 | .mu own,v,x,rf,hs=>OE P w t own v x rf hs
 | .bx own _,v,x,rf,hs=> ∃(ty:TypeId) (b:Nat) (C:Array Value) (ys:List AV) (h:List Nat),Lk P t=some ty/\v= .pointer (some ⟨b,0,none⟩)/\w.heap[b]?=some (.cells C ty (0,0))/\(∀u∈C.toList,u.oneCell'=true)/\x= .ref (.agg ys)/\
   CA P w (Bl P ty) own C.toList ys rf h/\hs=b::h
inductive D8(P:Program)(w:World):List TypeId->List PM->List Bool->List Value->List AV->List Nat->List Nat->List Nat->Prop where
 |nil {ms lo}:D8 P w [] ms lo [] [] [] [] []
 |cons {t ts ms lo v vs x xs f h rf lf hs}:jM P w t (ms.headD .ro) v x f h->D8 P w ts ms.tail lo.tail vs xs rf lf hs->D8 P w (t::ts) ms lo (v::vs) (x::xs) (f++rf) lf (h++hs)
 |lent {t ts ms lo v vs x xs f rf lf hs}:lo.headD false=true->ms.headD .ro= .ro->Rd w [v] [x] f->D8 P w ts ms.tail lo.tail vs xs rf lf hs->D8 P w (t::ts) ms lo (v::vs) (x::xs) rf (f++lf) hs
 |free {ms lo v vs x xs f rf lf hs}:Rd w [v] [x] f->D8 P w [] ms.tail lo.tail vs xs rf lf hs->D8 P w [] ms lo (v::vs) (x::xs) (f++rf) lf hs
inductive Hh(P:Program)(c:Cx):List TypeId->List Bool->List Value->List (Option RI)->Prop where
 |nil {fl}:Hh P c [] fl [] []
 |row {t ts fl v vs u g el rs}:fl.headD false=true->C3 P t=some el->(Cg P el=true\/DK P t=none)->c.K u g->c.H u g=v->(∀g',c.K u g'->g'<=g)->Hh P c ts fl.tail vs rs->Hh P c (t::ts) fl (v::vs) (some (.fl u g el (P.cellsOf el) (Cg P el))::rs)
 |deep {t ts fl v vs u g el e z l ep rs}:fl.headD false=true->C3 P t=some el->Cg P el=false->DK P t=some (.row e z (AA.of l))->c.K u g->c.H u g=v->(∀g',c.K u g'->g'<=g)->c.E u=ep->Hh P c ts fl.tail vs rs->Hh P c (t::ts) fl (v::vs) (some (.dp u g e z l ep)::rs)
 |none {t ts fl v vs rs}:(fl.headD false=true->C3 P t=none\/ ∃a,v= .slice a 0 0)->Hh P c ts fl.tail vs rs->Hh P c (t::ts) fl (v::vs) (none::rs)
inductive JP(P:Program)(c:Cx):List TypeId->List PM->List Value->List PA->Prop where
 |nil {ts ms}:JP P c ts ms [] []
 |ro {ts ms v vs bs}:ms.headD .ro= .ro->JP P c ts.tail ms.tail vs bs->JP P c ts ms (v::vs) bs
 |va {ts ms own v vs bs us}:ms.headD .ro= .va own->(∀u∈us,c.U u)->JP P c ts.tail ms.tail vs bs->JP P c ts ms (v::vs) (.va us::bs)
 |mu {t ts ms own v vs bs us rs}:ms.headD .ro= .mu own->(if Ap P t then v= .agg us.toArray else us=[v])->Hh P c (Bl P t) own us rs->JP P c ts ms.tail vs bs->JP P c (t::ts) ms (v::vs) (.mu rs (Ap P t)::bs)
 |bx {t ts ms own own' ty v vs bs T b g olds}:ms.headD .ro= .bx own own'->Lk P t=some ty->v= .pointer (some ⟨b,0,none⟩)->c.K T 0->c.H T 0=v->(∀u∈olds,c.U u)->JP P c ts ms.tail vs bs->JP P c (t::ts) ms (v::vs) (.box T g own' ty olds::bs)
section
variable {P:Program} {c:Cx} {hp:Nat->Option Ah} {gs:Gd}
theorem W9{t el:TypeId}{d:DT}(BE:C3 P t=some el)(h:DK P t=some d):P.cellsOf el≠0/\(Bl P el).length=P.cellsOf el/\ ∃l:List DT,d= .row el (P.cellsOf el) (AA.of l)/\l.length=P.cellsOf el:=by
 have hu:P.underlying t=some (.slice el):=by
  unfold C3 at BE;split at BE
  ·simp at BE;subst BE;assumption
  ·cases BE
  ·rename_i hu;unfold DK at h;split at h
   ·cases h
   ·simp[XN,hu]at h
 unfold DK at h;split at h
 ·cases h
 simp only[XN,hu]at h;split at h
 ·cases h
 ·rename_i hh;simp only[not_or,Decidable.not_not,ne_eq]at hh;obtain⟨l,hl,rfl⟩:=Av.1 h;exact⟨hh.1,hh.2,l,rfl,by rw[mapM_len _ _ hl];exact hh.2⟩
where
 mapM_len {α β:Type} {f:α->Option β}:∀(l:List α) (l':List β),l.mapM f=some l'->l'.length=l.length
  | [],l',h=>by simp at h;subst h;rfl
  |a::l,l',h=>by simp only[List.mapM_cons,Option.bind_eq_bind,Ax,Option.pure_def,Ad]at h;obtain⟨b,_,bs,QS,rfl⟩:=h;simp[mapM_len l bs QS]
theorem CA.void{w:World}{t el:TypeId}{ts:List TypeId}{fl:List Bool}{a:Option Addr}{us:List Value}{ys:List AV}{rf hs:List Nat}(h1:fl.headD false=true)(h2:C3 P t=some el)(hz:P.cellsOf el≠0)(h:CA P w ts fl.tail us ys rf hs):CA P w (t::ts) fl (.slice a 0 0::us) (.sl []::ys) rf ([]++hs):=by
 have Bq:De w el (P.cellsOf el) (.slice a 0 0) (.sl []) [] []:=⟨[],rfl,by simp,by omega, .inl ⟨rfl,⟨a,rfl⟩,rfl,rfl⟩⟩
 cases hf:Cg P el with
 |true=>exact .own h1 h2 (.inl ⟨hf,rfl⟩) Bq h
 |false=>
  cases hd:DK P t with
  |none=>exact .own h1 h2 (.inr ⟨hf,hd⟩) Bq h
  |some d=>obtain⟨_,_,l,rfl,hl⟩:=W9 h2 hd;exact .deep h1 h2 hf hd (.void (by omega) (by rw[AA.ay];exact hl) .nil) h
theorem zV{as_ bs:List Value}(h:Value.agg as_.toArray= .agg bs.toArray):as_=bs:=by
 have h1:as_.toArray=bs.toArray:=by injection h
 have:=congrArg Array.toList h1;simpa using this
theorem mV(eh:EH c hp)(k:BH c.ρ gs)(hU:∀t g,c.K t g->c.U t):∀(ts:List TypeId) {cs:List SV} {fl:List Bool} {rs:List (Option RI)} {us:List Nat} {vs:List Value} {xs:EL} {m:Nat},HH P hp gs ts cs fl=some (rs,us)->SR c cs vs->CQ hp gs m cs=some xs->m<=Bg->
  ∃rf hs,CA P c.w ts fl vs (xs.den c.ρ) rf hs/\(∀b∈rf,c.ek us b)/\hs=(CZ rs).flatMap (λt=>(c.G t).top)/\Hh P c ts fl vs rs/\ ∀u∈CZ rs,c.U u
 | [],[],fl,rs,us,vs,xs,m,h,hs,hx,hm=>by
  simp[HH]at h;obtain⟨rfl,rfl⟩:=h;cases hs;cases m with
  |zero=>simp[CQ]at hx
  |succ m=>simp[CQ]at hx;subst hx;exact⟨[],[], .nil,by simp,by simp[CZ], .nil,by simp[CZ]⟩
 | [],s::cs,fl,rs,us,vs,xs,m,h,hs,hx,hm=>by simp[HH]at h
 |t::ts,[],fl,rs,us,vs,xs,m,h,hs,hx,hm=>by simp[HH]at h
 |t::ts,s::cs,fl,rs,us,[],xs,m,h,hs,hx,hm=>by have:=hs.len;simp at this
 |t::ts,s::cs,fl,rs,us,v::vs,xs,m,h,hs,hx,hm=>by
  obtain⟨j,y,ys,rfl,hy,DE,rfl⟩:=Lp hx;obtain⟨r1,r2⟩:=hs.ct;unfold HH at h;split at h
  ·cases h
  rename_i rs' us' DB;obtain⟨rf,Bh,q1,q2,q3,q4,q5⟩:=mV eh k hU ts DB r2 DE (by omega);split at h
  ·rename_i hf;split at h
   ·rename_i r hr;simp only[Ad,A4]at h;obtain⟨rfl,rfl⟩:=h;unfold pT at hr;split at hr
    ·cases hr
    rename_i el BE;split at hr
    ·cases hr
    rename_i hz;have empt:∀a,v= .slice a 0 0->y.den c.ρ= .sl []->r=none-> ∃rf hs,CA P c.w (t::ts) fl (v::vs) ((EL.cons y ys).den c.ρ) rf hs/\(∀b∈rf,c.ek us' b)/\hs=(CZ (r::rs')).flatMap (λt=>(c.G t).top)/\Hh P c (t::ts) fl (v::vs) (r::rs')/\ ∀u∈CZ (r::rs'),c.U u:=by rintro a rfl Iu rfl;refine⟨rf,[]++Bh,?_,q2,by simpa[CZ]using q3, .none (λ_=> .inr ⟨a,rfl⟩) q4,by simpa[CZ]using q5⟩;rw[EL.den,Iu];exact CA.void hf BE (by omega) q1
    split at hr
    ·simp only[Ad]at hr;subst hr;cases r1 with
     |cr _=>exact empt _ rfl (by rw[Mz hy];rfl) rfl
    ·simp only[Ad]at hr;subst hr;cases r1 with
     |emp _=>
      refine empt _ rfl ?_ rfl;cases j with
      |zero=>simp[BK]at hy
      |succ j=>simp[BK]at hy;subst hy;rfl
    ·rename_i u g;split at hr
     ·rename_i e z g' x d hl;split at hr
      ·rename_i hh;obtain⟨rfl,rfl,rfl,Hs⟩:=hh;simp only[Ad]at hr;subst hr;obtain⟨p1,p2,N,p3,p4,p5,_⟩:=eh u _ (CU hl k);have O4:Cg P e=true\/DK P t=none:=Hs.imp (·.1) (by rintro⟨_,h⟩;simpa using h);have Hs:Cg P e=true/\N=[]\/Cg P e=false/\DK P t=none:=by
        rcases Hs with⟨h1,h2⟩|⟨h1,h2⟩
        ·exact .inl ⟨h1,(p5 h2).1⟩
        ·exact .inr ⟨h1,by simpa using h2⟩
       have HD:y=x:=by
        cases j with
        |zero=>simp[BK]at hy
        |succ j=>simp[BK,Jg,hl]at hy;exact hy.symm
       subst HD;have hv:c.H u g=v:=by
        cases r1 with
        |own _ k2 _=>exact k2
       rw[hv]at p3;refine⟨N++rf,(c.G u).top++Bh,CA.own hf BE Hs p3 q1,λb hb=> ?_,by simp[CZ,RI.tag,q3], .row hf BE O4 p1 hv p2 q4,λw hw=> ?_⟩
       ·rcases Ac.1 hb with hb|hb
        ·exact .inl (p4 b hb)
        ·exact q2 b hb
       simp only[CZ,List.filterMap_cons,Option.map_some,RI.tag,Ae]at hw;rcases hw with rfl|hw
       ·exact hU _ _ p1
       ·exact q5 w hw
      ·cases hr
     ·rename_i e z l g' ep x hl;split at hr
      ·rename_i hh;obtain⟨rfl,GM,D1⟩:=hh;have D1:=N8 D1;simp only[Ad]at hr;subst hr;obtain⟨p1,p2,pE,p3,_⟩:=eh u _ (CU hl k);have HD:y=x:=by
        cases j with
        |zero=>simp[BK]at hy
        |succ j=>simp[BK,Jg,hl]at hy;exact hy.symm
       subst HD;have hv:c.H u g=v:=by
        cases r1 with
        |own _ k2 _=>exact k2
       rw[hv]at p3;refine⟨rf,(c.G u).top++Bh,CA.deep hf BE GM D1 p3 q1,q2,by simp[CZ,RI.tag,q3], .deep hf BE GM D1 p1 hv p2 pE q4,λw hw=> ?_⟩;simp only[CZ,List.filterMap_cons,Option.map_some,RI.tag,Ae]at hw;rcases hw with rfl|hw
       ·exact hU _ _ p1
       ·exact q5 w hw
      ·cases hr
     ·cases hr
    ·cases hr
   ·cases h
  ·rename_i hf;simp only[Ad,A4]at h;obtain⟨rfl,rfl⟩:=h;obtain⟨f,p1,p2⟩:=IE eh k j hy r1 Bg (by omega);refine⟨f++rf,Bh,CA.rd (λhh=>absurd hh hf) p1 q1,λb hb=> ?_,by simpa[CZ]using q3, .none (λhh=>absurd hh hf) q4,by simpa[CZ]using q5⟩;rcases Ac.1 hb with hb|hb
   ·exact(p2 b hb).mono λt ht=>by simp[ht]
   ·exact(q2 b hb).mono λt ht=>by simp[ht]
theorem zU(eh:EH c hp)(k:BH c.ρ gs)(hU:∀t g,c.K t g->c.U t){t:TypeId}{s:SV}{v:Value}{fl:List Bool}{rs:List (Option RI)}{us:List Nat}{x:E}(hs:SR c [s] [v])(hx:BK hp gs Bg s=some x)(hg:(IC s).2=Ap P t)
  (h:HH P hp gs (Bl P t) (IC s).1 fl=some (rs,us)):
  ∃rf hs,OE P c.w t fl v (x.den c.ρ) rf hs/\(∀b∈rf,c.ek us b)/\hs=(CZ rs).flatMap (λt=>(c.G t).top)/\(∃vs',(if Ap P t then v= .agg vs'.toArray else vs'=[v])/\Hh P c (Bl P t) fl vs' rs)/\ ∀u∈CZ rs,c.U u:=by
 have single:∀(s:SV),SR c [s] [v]->BK hp gs Bg s=some x->Ap P t=false->HH P hp gs (Bl P t) [s] fl=some (rs,us)-> ∃rf hs,OE P c.w t fl v (x.den c.ρ) rf hs/\(∀b∈rf,c.ek us b)/\hs=(CZ rs).flatMap (λt=>(c.G t).top)/\(∃vs',(if Ap P t then v= .agg vs'.toArray else vs'=[v])/\Hh P c (Bl P t) fl vs' rs)/\ ∀u∈CZ rs,c.U u:=by
  intro s hs hx AM h;obtain⟨t0,Nv⟩:∃t0,Bl P t=[t0]:=by
   cases hh:Bl P t with
   |nil=>rw[hh]at h;simp[HH]at h
   |cons t0 l=>
    cases l with
    |nil=>exact⟨t0,rfl⟩
    |cons t1 l=>rw[hh]at h;simp[HH]at h
  rw[Nv]at h;have key:∃rf hs,CA P c.w [t0] fl [v] [x.den c.ρ] rf hs/\(∀b∈rf,c.ek us b)/\hs=(CZ rs).flatMap (λt=>(c.G t).top)/\Hh P c [t0] fl [v] rs/\ ∀u∈CZ rs,c.U u:=by
   unfold HH at h;simp only[HH]at h;split at h
   ·rename_i hf;split at h
    ·rename_i r hr;simp only[Ad,A4]at h;obtain⟨rfl,rfl⟩:=h;unfold pT at hr;split at hr
     ·cases hr
     rename_i el BE;split at hr
     ·cases hr
     rename_i hz;have empt:∀a,v= .slice a 0 0->x.den c.ρ= .sl []->r=none-> ∃rf hs,CA P c.w [t0] fl [v] [x.den c.ρ] rf hs/\(∀b∈rf,c.ek ([]:List Nat) b)/\hs=(CZ [r]).flatMap (λt=>(c.G t).top)/\Hh P c [t0] fl [v] [r]/\ ∀u∈CZ [r],c.U u:=by rintro a rfl Iu rfl;refine⟨[],[]++ [],?_,by simp,by simp[CZ], .none (λ_=> .inr ⟨a,rfl⟩) .nil,by simp[CZ]⟩;rw[Iu];exact CA.void hf BE (by omega) .nil
     split at hr
     ·simp only[Ad]at hr;subst hr;cases hs with
      |cr _=>exact empt _ rfl (by rw[Mz hx];rfl) rfl
     ·simp only[Ad]at hr;subst hr;cases hs with
      |emp _=>refine empt _ rfl ?_ rfl;simp[Bg,BK]at hx;subst hx;rfl
     ·rename_i u g;split at hr
      ·rename_i e z g' x0 d hl;split at hr
       ·rename_i hh;obtain⟨rfl,rfl,rfl,Hs⟩:=hh;simp only[Ad]at hr;subst hr;obtain⟨p1,p2,N,p3,p4,p5,_⟩:=eh u _ (CU hl k);have O4:Cg P e=true\/DK P t0=none:=Hs.imp (·.1) (by rintro⟨_,h⟩;simpa using h);have Hs:Cg P e=true/\N=[]\/Cg P e=false/\DK P t0=none:=by
         rcases Hs with⟨h1,h2⟩|⟨h1,h2⟩
         ·exact .inl ⟨h1,(p5 h2).1⟩
         ·exact .inr ⟨h1,by simpa using h2⟩
        have HD:x=x0:=by simp[Bg,BK,Jg,hl]at hx;exact hx.symm
        subst HD;have hv:c.H u g=v:=by
         cases hs with
         |own _ k2 _=>exact k2
        rw[hv]at p3;refine⟨N++ [],(c.G u).top++ [],CA.own hf BE Hs p3 .nil,λb hb=> .inl (p4 b (by simpa using hb)),by simp[CZ,RI.tag], .row hf BE O4 p1 hv p2 .nil,λw hw=> ?_⟩;simp only[CZ,List.filterMap_cons,Option.map_some,RI.tag,List.filterMap_nil,Ae,List.not_mem_nil,or_false]at hw;subst hw;exact hU _ _ p1
       ·cases hr
      ·rename_i e z l g' ep x0 hl;split at hr
       ·rename_i hh;obtain⟨rfl,GM,D1⟩:=hh;have D1:=N8 D1;simp only[Ad]at hr;subst hr;obtain⟨p1,p2,pE,p3,_⟩:=eh u _ (CU hl k);have HD:x=x0:=by
         simp[Bg,BK,Jg,hl]at hx;exact hx.symm
        subst HD;have hv:c.H u g=v:=by
         cases hs with
         |own _ k2 _=>exact k2
        rw[hv]at p3;refine⟨[],(c.G u).top++ [],CA.deep hf BE GM D1 p3 .nil,by simp,by simp[CZ,RI.tag], .deep hf BE GM D1 p1 hv p2 pE .nil,λw hw=> ?_⟩;simp only[CZ,List.filterMap_cons,Option.map_some,RI.tag,List.filterMap_nil,Ae,List.not_mem_nil,or_false]at hw;subst hw;exact hU _ _ p1
       ·cases hr
      ·cases hr
     ·cases hr
    ·cases h
   ·rename_i hf;simp only[Ad,A4]at h;obtain⟨rfl,rfl⟩:=h;obtain⟨f,p1,p2⟩:=IE eh k Bg hx hs Bg (AQ _);refine⟨f++ [],[],CA.rd (λhh=>absurd hh hf) p1 .nil,λb hb=> ?_,by simp[CZ], .none (λhh=>absurd hh hf) .nil,by simp[CZ]⟩;rw[AE]at hb;exact(p2 b hb).mono λt ht=>by simp[ht]
  obtain⟨rf,Bh,q1,q2,q3,q4,q5⟩:=key;refine⟨rf,Bh,⟨[v],[x.den c.ρ],?_,by rw[Nv];exact q1⟩,q2,q3,⟨[v],?_,by rw[Nv];exact q4⟩,q5⟩
  ·rw[if_neg (by rw[AM];simp)];exact⟨rfl,rfl⟩
  ·rw[if_neg (by rw[AM];simp)]
 cases s with
 |agg cs=>
  simp only[IC]at hg h;obtain⟨m,l,hm,hl,rfl⟩:=W5 hx;cases hs with
  |agg h9 h1 h8=>
   rename_i as_;have Dd:m<=Bg:=by simp only[Bg]at hm ⊢;omega
   obtain⟨rf,Bh,q1,q2,q3,q4,q5⟩:=mV (P:=P) eh k hU (Bl P t) h h1 hl Dd;refine⟨rf,Bh,⟨as_,l.den c.ρ,?_,q1⟩,q2,q3,⟨as_,?_,q4⟩,q5⟩
   ·rw[if_pos hg.symm];exact⟨rfl,rfl,h9⟩
   ·rw[if_pos hg.symm]
 |_=>exact single _ hs hx hg.symm h
end
end
end Go.Proofs.YtalagilebkaegaaGreat

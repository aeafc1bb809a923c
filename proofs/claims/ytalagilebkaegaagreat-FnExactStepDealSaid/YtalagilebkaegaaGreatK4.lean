/- Parts of a proof, joined: VX, WB, WC, WD, WE, WF, WG, WH, WI, WJ, WK, WL, WM, WN, WO. -/
import Derived.Test.YtalagilebkaegaaGreatK3
import Derived.Orders
import Derived.Lib.SliceRun
import Derived.Laws.Slices
import Derived.Laws.MakeOwn
import Derived.Laws.StructEq
set_option linter.unusedVariables false
set_option linter.unusedSimpArgs false
namespace Go.Proofs.YtalagilebkaegaaGreat
open Go.RowKit
section
theorem Bw(n:Nat):((n:Int)).toNat=n:=Int.toNat_natCast n
section
variable {P:Program} {c:Cx} {n nx:Nat} {sl sl0:Nat->SV} {hp hp0:Nat->Option Af} {a:Act} {o:Oper} {gs:Gd} {e:Bb} {sg:BZ} {nv:Nat}
def Cx.ew(c:Cx)(w':World)(t:Nat)(O:List Nat):Cx:={c with w:=w',G:=λu=>if u=t then⟨(c.G t).top,O⟩else c.G u,E:=λu=>if u=t then c.E u+1 else c.E u}
theorem Rel.ja(h:Rel c n sl hp a){t:Nat}{e0:Af}{b:Nat}{w':World}{O:List Nat}(AN:CE c.ρ (hp t) e0)(Ci:b∈(c.G t).top)(hO:O=[]\/O=(c.G t).O)(hm:Mod [b] c.w w')(By:w'.heap.size=c.w.heap.size)(e1:Af)(BF:∀hs f,e1≠ .gd hs f)
  (he:DW c (c.ew w' t O)->Du (c.ew w' t O) t e1):
  Rel (c.ew w' t O) n sl (Bi hp [(t,e1)]) a:=by
 have Bd:b∈(c.G t).own:=by simp[GI.own,Ci]
 have hG:∀u,(c.ew w' t O).G u=if u=t then⟨(c.G t).top,O⟩else c.G u:=λu=>rfl;have EY:∀u,((c.ew w' t O).G u).top=(c.G u).top:=by
  intro u;rw[hG];split
  ·rename_i hu;rw[hu]
  ·rfl
 have BX:∀u,∀q∈((c.ew w' t O).G u).own,q∈(c.G u).own:=by
  intro u q hq;rw[hG]at hq;split at hq
  ·rename_i hu;subst hu;simp only[GI.own,Ac]at hq ⊢;rcases hq with hq|hq
   ·exact .inl hq
   ·rcases hO with rfl|rfl
    ·simp at hq
    ·exact .inr hq
  ·exact hq
 have Cb:DW c (c.ew w' t O):=by
  refine⟨rfl,rfl,λq _ hq=>⟨λ⟨u,hu⟩=>hq.1 ⟨u,by rw[EY]at hu;exact hu⟩,hq.2⟩,λq hq AZ=>hm.block q hq ?_,λu g hu=>⟨hu,rfl⟩,λu g hu=> ?_⟩
  ·simp only[List.mem_singleton];rintro rfl;exact AZ.1 ⟨t,Ci⟩
  ·by_cases GQ:u=t
   ·have e1:(c.ew w' t O).E u=c.E u+1:=by simp only[Cx.ew,if_pos GQ]
    exact⟨by omega,λh=>by omega⟩
   ·have e1:(c.ew w' t O).E u=c.E u:=by simp only[Cx.ew,if_neg GQ]
    have e2:(c.ew w' t O).G u=c.G u:=by simp only[Cx.ew,if_neg GQ]
    rw[e1];refine⟨AI _,λ_=>⟨e2,λq hq I3=>hm.block q I3 ?_⟩⟩;simp only[List.mem_singleton];rintro rfl;exact h.gw.cm t u (Ne.symm GQ) q Bd (by simp[GI.own,hq])
 have D2:∀u,Bi hp [(t,e1)] u=if u=t then some e1 else hp u:=λu=>rfl;refine h.change (λu=>u=t) Cb ⟨hm.os.trans h.base.os,hm.tape.trans h.base.tape,hm.output.trans h.base.output,Nat.le_trans h.base.size hm.size,h.base.pins,λq hq Gf=> ?_,h.base.pk,h.base.lo⟩
  (λu hu=>⟨by rw[D2,if_neg hu],by rw[hG,if_neg hu],by simp[Cx.ew,hu],λg hg=>hg⟩) (λu hu q hq=>hm.block q (h.gw.inb u q (by simp[GI.own,hq])) ?_) (λu hu=> ?_) ⟨λu=> ?_,λu v eB q hq GO=>h.gw.cm u v eB q (BX u q hq) (BX v q GO),λu q hq=>h.gw.allow u q (BX u q hq),λu q hq=> ?_⟩ h.bp (λu f hf=> ?_)
 ·refine(hm.block q (Nat.lt_of_lt_of_le hq h.base.size) ?_).trans (h.base.block q hq Gf);simp only[List.mem_singleton];rintro rfl;rcases h.gw.allow t q Bd with hh|hh
  ·exact absurd hh (Nat.not_le.2 hq)
  ·exact Gf hh
 ·simp only[List.mem_singleton];rintro rfl;exact h.gw.cm t u (Ne.symm hu) q Bd (by simp[GI.own,hq])
 ·subst hu;rw[D2,if_pos rfl];refine⟨λe' hr=> ?_,λhn=> ?_⟩
  ·cases e1<;>first
    |(simp only[CE]at hr;subst hr;exact he Cb)
    |exact absurd rfl (BF _ _)
  ·cases e1<;>first
    |exact absurd rfl (BF _ _)
    |exact absurd rfl (hn _)
 ·rw[hG];split
  ·rename_i hu;subst hu;have h0:=h.gw.nodup u;simp only[GI.own]at h0 ⊢;rcases hO with rfl|rfl
   ·rw[AE];exact(List.nodup_append.1 h0).1
   ·exact h0
  ·exact h.gw.nodup u
 ·show q<w'.heap.size;rw[By];exact h.gw.inb u q (BX u q hq)
 ·rw[D2]at hf;split at hf
  ·rename_i hu;subst hu;cases hh:hp u with
   |none=>rw[hh]at AN;exact AN.elim
   |some e9=>exact h.cr u e9 hh
  ·exact h.cr u f hf
theorem RZ{α:Type}(L vs:List α)(p m:Nat)(h:p+vs.length<=m)(hm:m<=L.length):(setVs L p vs).take m=setVs (L.take m) p vs:=by
 apply List.ext_getElem?;intro j;have hl:(L.take m).length=m:=by rw[Au];omega
 rw[List.getElem?_take,R5 (L.take m) vs p (by omega) j,R5 L vs p (by omega) j,List.getElem?_take];by_cases h1:p<=j/\j<p+vs.length
 ·rw[if_pos (by omega),if_pos h1,if_pos h1]
 ·rw[if_neg h1,if_neg h1]
theorem Rd.setVs{w:World}{L V:List Value}{X Y:List AV}{N f:List Nat}{p:Nat}(h:Rd w L X N)(k:Rd w V Y f)(hp:p+V.length<=L.length):
  ∃n1 n2 n3,N=n1++n2++n3/\Rd w (Go.Proofs.YtalagilebkaegaaGreat.setVs L p V) (Go.Proofs.YtalagilebkaegaaGreat.setVs X p Y) (n1++f++n3)/\Rd w ((L.drop p).take V.length) ((X.drop p).take V.length) n2:=by
 have hl:=h.len;have hk:=k.len;have e1:L=L.take p++((L.drop p).take V.length++L.drop (p+V.length)):=by rw[<-List.drop_drop,B8,B8]
 have e2:X=X.take p++((X.drop p).take V.length++X.drop (p+V.length)):=by rw[<-List.drop_drop,B8,B8]
 have h':=h;rw[e1,e2]at h';obtain⟨n1,m,rfl,g1,g2⟩:=Rd.dr (by simp;omega) h';obtain⟨n2,n3,rfl,g3,g4⟩:=Rd.dr (by simp;omega) g2;refine⟨n1,n2,n3,by simp,?_,g3⟩;unfold Go.Proofs.YtalagilebkaegaaGreat.setVs;rw[<-hk];exact(g1.app k).app g4
theorem ZB{sz:Nat}:∀(ys:List AV) (k:Nat) (z y:AV) (o:Nat) (vc:List AV),(∀y∈ys,y.cells.length=sz)->ys[k]?=some y->o+vc.length<=sz->z.cells=setVs y.cells o vc->Aq (ys.set k z)=setVs (Aq ys) (k*sz+o) vc
 | [],k,z,y,o,vc,_,h,_,_=>by simp at h
 |q::ys,0,z,y,o,vc,hs,h,ho,hz=>by simp at h;subst h;have hq:=hs q (by simp);simp only[Aq,List.set_cons_zero,List.flatMap_cons,Nat.zero_mul,Nat.zero_add,hz];unfold setVs;rw[List.take_append_of_le_length (by omega),List.drop_append_of_le_length (by omega)];simp
 |q::ys,k+1,z,y,o,vc,hs,h,ho,hz=>by
  have hq:=hs q (by simp);have ih:=ZB ys k z y o vc (λu hu=>hs u (by simp[hu])) (by simpa using h) ho hz;simp only[Aq,List.set_cons_succ,List.flatMap_cons]at ih ⊢;rw[ih];unfold setVs;have e0:(k+1)*sz+o=q.cells.length+(k*sz+o):=by rw[hq,Nat.add_mul];omega
  rw[e0,List.take_length_add_append,Nat.add_assoc (q.cells.length),List.drop_length_add_append];simp
theorem mB{y x:AV}{k:Nat}{g:Bool}(hx:(∀cs,x≠ .agg cs)\/g=true)(hy:g=false->y.cells.length=1/\k=0/\x.cells=[x]):(y.c8 k x g).cells=setVs y.cells k x.cells:=by
 cases g with
 |true=>simp[AV.c8,AV.cells,setVs]
 |false=>obtain⟨h1,h2,h3⟩:=hy rfl;subst h2;simp only[AV.c8,h3,setVs];rw[if_neg (by simp)];rw[h3];simp only[List.take_zero,List.nil_append,A6,List.length_nil,Nat.zero_add];rw[List.drop_eq_nil_of_le (by omega)];simp
theorem ztA(h:Bz P c n nx sl hp a sl0 hp0 o gs){t:TypeId}{x y:Operand}(ho:o.op= .store t x y){b g:Nat}{ix:E}{sz k:Nat}{s:SV}(AY:∃e z g c d,Dh hp0 gs b=some (.row e z g c d))(hx:BK sl0 gs x=some (.cq b g ix sz k))(hy:BK sl0 gs y=some s)
  (he:Nj P hp0 gs t (.cq b g ix sz k) s=some e) (hc:∀q∈e.ca,Cn.den c.ρ q):AB P o c n nx sl hp gs a e:=by
 have r1:=h.ct hx (by simp[ho,Op.operands]);have r2:=h.ct hy (by simp[ho,Op.operands]);simp only[Nj]at he;split at he
 ·rename_i el sz' g' c0 d hl;split at he
  ·rename_i hh;obtain⟨rfl,rfl,rfl,Bm,hle,FJ,Eg⟩:=hh;split at he
   ·rename_i xe fz dx ck Cu;split at he
    ·cases he
    rename_i Ek;simp only[Ad]at he;subst he;have Ek:∀f,(b,f)∉fz:=λf hf=>Ek (by simp only[List.contains_eq_mem,AR];exact List.mem_map.2 ⟨_,hf,rfl⟩);obtain⟨f,q1,q2,⟨ts,q3⟩,q5⟩:=vV h.rel h.hp h.gs r2 Cu (λq hq=>hc q (by simp[hq]));obtain⟨q3,q4⟩:=q3;have AN:=L2 h.hp (CG hl h.gs);have Dz:=h.rel.freeze h.hp h.gs q3;have ME:CE (c.br (fz.map (·.1))).ρ (Bi hp fz b) (.row el sz g c0 d):=by rw[LS Ek];exact AN
    obtain⟨e1,e2,N,e3,e4,e5,e6⟩:=Dz.ents b _ ME;obtain⟨o1,o2,o3,o4⟩:=mK (P:=P) q1 Eg q5;generalize hv:a.eval x=v at r1;cases r1 with
    |cq k1 k2 k3 k4 k5 _=>
     rename_i m len cap kk kv k6;obtain⟨xs,p1,p2,p3,pcase⟩:=e3;have p1':c0.den c.ρ= .sl xs:=p1;rcases pcase with⟨_,⟨_,pv⟩,_⟩|⟨g9,cap9,C,pv,p4,p5,p6,p7,p8,p9,p10⟩
     ·exfalso;have:c.H b g=_:=pv;rw[k2]at this;cases this;omega
     ·have pv':c.H b g= .slice (some ⟨g9,0,none⟩) xs.length cap9:=pv;rw[k2]at pv';simp only[Value.slice.injEq,Ad,Addr.mk.injEq,and_true]at pv';obtain⟨rfl,rfl,rfl⟩:=pv';have Iw:kv.toNat<xs.length:=by omega
      have Gj:=Nz Iw;generalize I8:(AV.sl xs).nth kv.toNat=yk at Gj;have FR:=p2 yk (List.mem_of_getElem? Gj);have En:(a.eval y).cells.toList.length=P.cellsOf t:=by simpa using o4
      have hmul:(kv.toNat+1)*sz<=xs.length*sz:=Bq _ (by omega);have DD:C.toList.length=cap*sz:=by simpa using p7
      have ES:xs.length*sz<=cap*sz:=Bq _ p4;rw[Nat.add_mul]at hmul;have p6':c.w.heap[m]?=some (.cells C el (0,0)):=p6;obtain⟨m1,m2,m3⟩:=YN (vs:=(a.eval y).cells.toList) p6' (show(kv.toNat*sz+k)+_<=C.size by rw[En,p7];omega);have Ol:(C.toList.take (xs.length*sz)).length=xs.length*sz:=by rw[Au,DD];omega
      obtain⟨n1,n2,n3,hN,s1,s2⟩:=Rd.setVs (p:=kv.toNat*sz+k) p10 o1 (by rw[Ol,En];omega);have FM:∀z,z<c.w.heap.size->(c.br (fz.map (·.1))).ok z->(putCells c.w m (kv.toNat*sz+k) (a.eval y).cells.toList).heap[z]?=c.w.heap[z]?:=by intro z hz AZ;refine m1.block z hz ?_;simp only[List.mem_singleton];rintro rfl;exact AZ.1 ⟨b,by rw[p8];simp⟩
      have B2:(d&&dx)=true->n2=[]/\f=[]:=by
       intro E5;have hcf:Cn.den c.ρ (.flat (.fld (.idx c0 ix) k (P.cellsOf t) (Ao P t)) (P.cellsOf t) (Ao P t)):=hc _ (by simp[E5]);obtain⟨f1,f2,f3,f4⟩:=hcf;simp only[Ab]at E5;refine⟨?_,q2 E5.2⟩;have Ow:((Aq xs).drop (kv.toNat*sz+k)).take (a.eval y).cells.toList.length=(yk.cells.drop k).take (P.cellsOf t):=by rw[En];exact Vr xs p2 _ _ Gj k (P.cellsOf t) hle
       rw[Ow]at s2;have Co:(E.fld (.idx c0 ix) k (P.cellsOf t) (Ao P t)).den c.ρ=yk.fld k (P.cellsOf t) (Ao P t):=by simp only[E.den,p1',k3,AV.idx,I8]
       rw[Co]at f2;refine Hv s2 ?_;cases hg:Ao P t with
       |true=>rw[hg]at f2;simpa[AV.fld,AV.cells]using f2
       |false=>
        have h1:P.cellsOf t=1:=by rcases Eg with h'|h';rw[hg]at h';cases h';exact h'
        rw[Co]at f4;have f4:=f4 hg;rw[hg]at f4;have AG:k<yk.cells.length:=by omega
        rw[h1,Bv AG,List.take_succ_cons,List.take_zero];simp only[List.mem_singleton,forall_eq];simpa[AV.fld,AG]using f4
      have hz:(yk.c8 k (xe.den c.ρ) (Ao P el)).cells=setVs yk.cells k (xe.den c.ρ).cells:=by
       refine mB ?_ (λhg=> ?_)
       ·cases hg:Ao P el with
        |true=>exact .inr rfl
        |false=>
         left;rcases FJ with h'|⟨_,h'⟩
         ·rw[hg]at h';cases h'
         ·have h':Ao P t=false:=by simpa using h'
          rw[h']at q5;exact λcs=>(q5.1 cs)
       ·rcases FJ with h'|⟨h1,h'⟩
        ·rw[hg]at h';cases h'
        ·have h':Ao P t=false:=by simpa using h'
         rw[h']at q5;have Tn:P.cellsOf t=1:=by rcases Eg with h2|h2;rw[h']at h2;cases h2;exact h2
         refine⟨by omega,by omega,?_⟩;cases eF:xe.den c.ρ<;>first|rfl|exact absurd eF (q5.1 _)
      have EJ:Aq (xs.set kv.toNat (yk.c8 k (xe.den c.ρ) (Ao P el)))=setVs (Aq xs) (kv.toNat*sz+k) (xe.den c.ρ).cells:=
       ZB xs _ _ yk k _ p2 Gj (by rw[o3];exact hle) hz
      have DZ:=Dz.ja (t:=b) (b:=m) (w':=putCells c.w m (kv.toNat*sz+k) (a.eval y).cells.toList) (O:=if(d&&dx)=true then((c.br (fz.map (·.1))).G b).O else []) ME (by rw[p8];simp) (by split;exact .inr rfl;exact .inl rfl) m1 m3
       (.row el sz g (.set c0 ix (.put (.idx c0 ix) k xe (Ao P el))) (d&&dx)) (by intros;simp) (λGN=>by
        have F7:∀z∈n1++f++n3,(c.br (fz.map (·.1))).ok z:=by
         intro z hz;simp only[Ac]at hz;rcases hz with(hz|hz)|hz
         ·exact e4 z (by rw[hN];simp[hz])
         ·exact q4 z hz
         ·exact e4 z (by rw[hN];simp[hz])
        have S7:∀z∈n1++f++n3,z<c.w.heap.size:=s1.inb;refine⟨e1,e2,n1++f++n3,⟨xs.set kv.toNat (yk.c8 k (xe.den c.ρ) (Ao P el)),?_,λz eM=> ?_,p3, .inr ⟨m,cap,_,?_,by simpa using p4,p5,m2,?_,?_,?_,?_⟩⟩,λz hz=>GN.ok z (S7 z hz) (F7 z hz),λE5=> ?_,λE5=> ?_⟩
        ·show AV.c6 (c0.den c.ρ) (ix.den c.ρ) (((c0.den c.ρ).idx (ix.den c.ρ)).c8 k (xe.den c.ρ) (Ao P el))=_;rw[p1',k3];simp only[AV.idx,I8,AV.c6]
        ·rcases List.mem_or_eq_of_mem_set eM with eM|rfl
         ·exact p2 z eM
         ·rw[hz,R1 _ _ _ (by rw[o3,FR];exact hle)];exact FR
        ·rw[List.length_set];exact k2
        ·rw[List.size_toArray,R1 _ _ _ (by rw[En,DD];omega),BC];exact p7
        ·simpa[Cx.ew]using p8
        ·simp only[List.length_set,List.toList_toArray];rw[RZ _ _ _ _ (by rw[En];omega) (by rw[DD];omega)];intro u hu;unfold setVs at hu;simp only[Ac]at hu;rcases hu with(hu|hu)|hu
         ·exact p9 u (Br hu)
         ·exact o2 u hu
         ·exact p9 u (BO hu)
        ·simp only[List.length_set,List.toList_toArray];rw[RZ _ _ _ _ (by rw[En];omega) (by rw[DD];omega),EJ];exact s1.frame λz hz=>FM z (S7 z hz) (F7 z hz)
        ·obtain⟨z1,z2⟩:=B2 E5;have hd:d=true:=by simp only[Ab]at E5;exact E5.1
         obtain⟨u1,u2⟩:=e5 hd;have Wz:n1++f++n3=N:=by rw[hN,z1,z2]
         rw[Wz];refine⟨u1.frame λz hz=>FM z (p10.inb z hz) (e4 z hz),?_⟩;simp only[Cx.ew,if_true,E5];exact u2
        ·simp[Cx.ew,E5])
      intro next Q hk
      unfold Oper.wp;have hr:(execOp a.eval o).run P c.w= .ok .skip (putCells c.w m (kv.toNat*sz+k) (a.eval y).cells.toList):=by have:=lC (P:=P) (t:=t) (v:=a.eval y) (off:=kv.toNat*sz+k) p6' Bm o4 (by rw[o4,p7];omega) o2;simp[execOp,ho,hv,this]
      rw[hr,Oper.upon_skip];refine hk _ ((c.br (fz.map (·.1))).ew (putCells c.w m (kv.toNat*sz+k) (a.eval y).cells.toList) b (if(d&&dx)=true then((c.br (fz.map (·.1))).G b).O else [])) ⟨rfl,rfl,rfl,rfl,λt ht=> .inl ht⟩ ?_;have:=DZ.put (v:=Go.undef) ((SR.undef .nil).mkGd []) o.dst;rw[Pp];exact this
   ·cases he
  ·cases he
 all_goals (rename_i hl;obtain⟨_,_,_,_,_,BL⟩:=AY;first|(rw[BL]at hl;cases hl;done)|exact absurd BL (hl _ _ _ _ _)|cases he)
end
def KT(a:Act)(o:Oper):Bool:=match o.op with| .binOp _ _ x _ _=>(match a.eval x with| .slice none _ _=>true|_=>false)|_=>false
section
variable (P:Program) (sg:BZ) (Rt:Nat->List AV->AV->Prop)
def OJ:Prop:= ∀(c:Cx) (n nx:Nat) (sl:Nat->SV) (hp:Nat->Option Af) (a:Act) (sl0:Nat->SV) (hp0:Nat->Option Af) (o:Oper) (gs:Gd) (e:Bb) (nv:Nat),Bz P c n nx sl hp a sl0 hp0 o gs-> ¬c.U (nx+999)->L5 P sg sl0 hp0 nv nx gs o=some e->
 (∀q∈e.ca,q.den c.ρ)->(∀cl,e.call=some cl-> ∃r,c.ρ[nv]?=some r/\IM Rt cl.fn ((EL.of cl.args).den c.ρ) c.ρ r)->(∀x,e.b8=some x->c.ρ[nv]?=some (.bool (KT a o)))->AB P o c n nx sl hp gs a e
def Ws:Prop:= ∀(c:Cx) (n nx:Nat) (sl:Nat->SV) (hp:Nat->Option Af) (a:Act) (sl0:Nat->SV) (hp0:Nat->Option Af) (o:Oper) (gs:Gd) (e:Bb) (nv:Nat) (x:E),Bz P c n nx sl hp a sl0 hp0 o gs->L5 P sg sl0 hp0 nv nx gs o=some e->e.b8=some x->KT a o=true->x.den c.ρ= .sl []
end
theorem wN{hp:Nat->Option Af}(l:List (Nat × Af))(t:Nat):(Bi hp l t=hp t/\ ∀e,(t,e)∉l)\/ ∃e,(t,e)∈l/\Bi hp l t=some e:=by
 induction l generalizing hp with
 |nil=>exact .inl ⟨rfl,by simp⟩
 |cons p l ih=>
  obtain⟨u,f⟩:=p;rcases ih (hp:=λv=>if v=u then some f else hp v)with⟨h1,h2⟩|⟨e,h1,h2⟩
  ·by_cases ht:t=u
   ·subst ht;refine .inr ⟨f,by simp,?_⟩;have:Bi hp ((t,f)::l) t=Bi (λv=>if v=t then some f else hp v) l t:=rfl;rw[this,h1];simp
   ·refine .inl ⟨?_,λe he=> ?_⟩
    ·have:Bi hp ((u,f)::l) t=Bi (λv=>if v=u then some f else hp v) l t:=rfl;rw[this,h1,if_neg ht]
    ·rcases Ae.1 he with he|he
     ·cases he;exact ht rfl
     ·exact h2 e he
  ·exact .inr ⟨e,by simp[h1],h2⟩
section
variable {P:Program} {sg:BZ} {Rt:Nat->List AV->AV->Prop} {c:Cx} {n nx:Nat} {sl:Nat->SV} {hp:Nat->Option Af} {a:Act} {ops:Array Oper} {o:Oper} {gs:Gd} {e:Bb}
theorem Rel.skip(h:Rel c n sl hp a)(hg: ¬Bt c.ρ gs){l:List (Nat × Af)}(hl:∀t x,(t,x)∈l->nx<=t/\t<nx+BT/\ ∃hs y,x= .gd hs y/\Mf gs hs=true)(A9:∀t,nx<=t->t<nx+BT-> ¬c.U t)(s:SV)(d:Option Nat):
  Rel {c with U:=λt=>c.U t\/(nx<=t/\t<nx+BT)} n (CO n sl d (mkGd gs s)) (Bi hp l) (a.put d undef):=by
 have hs:SR {c with U:=λt=>c.U t\/(nx<=t/\t<nx+BT)} [mkGd gs s] [undef]:=by
  cases gs with
  |nil=>exact absurd (E1 _) hg
  |cons g gs=>exact .gd (λhh=>absurd hh hg) (λ_=>rfl) .nil
 refine Rel.put ?_ hs d;refine h.change (λt=> ∃x,(t,x)∈l) ⟨rfl,rfl,λ_ _ hb=>hb,λ_ _ _=>rfl,λ_ _ hk=>⟨hk,rfl⟩,λ_ _ _=>⟨AI _,λ_=>⟨rfl,λ_ _ _=>rfl⟩⟩⟩ ⟨h.base.os,h.base.tape,h.base.output,h.base.size,λt v hp=>⟨.inl (h.base.pins t v hp).1,(h.base.pins t v hp).2⟩,h.base.block,h.base.pk,h.base.lo⟩ (λt ht=> ?_) (λ_ _ _ _=>rfl) (λt ht=> ?_) ⟨h.gw.nodup,h.gw.cm,h.gw.allow,h.gw.inb⟩ (λt g hk=> .inl (h.bp t g hk)) (λt x hx=> ?_)
 ·exact⟨LS λx hx=>ht ⟨x,hx⟩,rfl,rfl,λg hk=>hk⟩
 ·obtain⟨x,hx⟩:=ht;rcases wN (hp:=hp) l t with⟨_,h2⟩|⟨x',h1,h2⟩
  ·exact absurd hx (h2 x)
  ·obtain⟨q1,q2,hs,y,rfl,BX⟩:=hl t x' h1;have DR:∀e',¬CE c.ρ (Bi hp l t) e':=by
    rw[h2];exact λe' hr=>hg (ZQ BX hr.1)
   refine⟨λe' hr=>absurd hr (DR e'),λ_=>h.off t λe' hr=> ?_⟩;cases hh:hp t with
   |none=>rw[hh]at hr;exact hr.elim
   |some e9=>exact A9 t q1 q2 (h.cr t e9 hh)
 ·rcases wN (hp:=hp) l t with⟨h1,_⟩|⟨x',h1,_⟩
  ·rw[h1]at hx;exact .inl (h.cr t x hx)
  ·obtain⟨q1,q2,_⟩:=hl t x' h1;exact .inr ⟨q1,q2⟩
def Wu(ρ:List AV)(ops:Array Oper)(o:Oper)(a:Act):Option Gd->Prop
 |none=>Region.wanted o (yielded ops a.tmps)=false
 |some gs=>(Bt ρ gs->Region.wanted o (yielded ops a.tmps)=true)/\(¬Bt ρ gs->Region.wanted o (yielded ops a.tmps)=false)
theorem mU{σ:St}{r:Option Gd}(hg:Po σ ops o=some r)(hs:∀j want d,o.guard=some (j,want)->(ops[j]?).bind (·.dst)=some d->SR c [BR σ d] [a.tmps.getD d undef]):Wu c.ρ ops o a r:=by
 unfold Po at hg;cases He:o.guard with
 |none=>rw[He]at hg;simp only[Ad]at hg;subst hg;exact⟨λ_=>by simp[Region.wanted,He],λhn=>absurd (E1 _) hn⟩
 |some jw=>
  obtain⟨j,want⟩:=jw;rw[He]at hg;simp only at hg;cases hd:(ops[j]?).bind (·.dst)with
  |none=>rw[hd]at hg;simp only[Ad]at hg;subst hg;simp[Wu,Region.wanted,He,yielded,hd]
  |some d=>
   rw[hd]at hg;simp only at hg;have hr:=hs j want d He hd;have hw:∀v,a.tmps.getD d undef=v->Region.wanted o (yielded ops a.tmps)=(match v with| .bool b=>b==want|_=>false):=by
    intro v hv;simp only[Region.wanted,He,yielded,hd,Aa];rw[Array.getD_eq_getD_getElem?]at hv;cases hq:a.tmps[d]? with
    |none=>rw[hq]at hv;simp at hv;subst hv;simp[undef]
    |some u=>rw[hq]at hv;simp at hv;subst hv;cases u<;>simp
   generalize a.tmps.getD d undef=v at hr hw;have hw:=hw v rfl;have Lt:v=undef->Region.wanted o (yielded ops a.tmps)=false:=by rintro rfl;rw[hw];simp[undef]
   have HU:∀x f,Rd c.w [v] [x] f->(x= .bool want->Region.wanted o (yielded ops a.tmps)=true)/\(x≠ .bool want->Region.wanted o (yielded ops a.tmps)=false):=by
    intro x f hx;refine⟨λh=> ?_,λh=> ?_⟩
    ·rw[hw,IK hx h];simp
    ·rw[hw];cases v<;>simp only;rename_i b;cases hx with
     |bool _=>simpa using λhh=>h (by rw[hh])
   split at hg
   ·rename_i b Di;rw[Di]at hr;cases hr with
    |e h1 _ _=>
     simp only[Ad]at hg;subst hg;obtain⟨q1,q2⟩:=HU _ _ h1;simp only[E.den,AV.bool.injEq]at q1 q2;split
     ·rename_i hb;simp only[AK]at hb;exact⟨λ_=>q1 hb,λhn=>absurd (E1 _) hn⟩
     ·rename_i hb;simp only[AK]at hb;exact q2 (by simpa using hb)
   ·rename_i x _ Di;rw[Di]at hr;cases hr with
    |e h1 _ _=>simp only[Ad]at hg;subst hg;obtain⟨q1,q2⟩:=HU _ _ h1;exact⟨λhh=>q1 (hh (x,want) (by simp)),λhn=>q2 λhh=>hn (by intro g hg;simp at hg;subst hg;exact hh)⟩
   ·rename_i A4 s Di;rw[Di]at hr;cases hr with
    |gd h1 h2 _=>
     split at hg
     ·rename_i hf;simp only[Ad]at hg;subst hg;refine Lt (h2 λhk=> ?_);simp only[zzl,List.any_eq_true]at hf;obtain⟨g,hg,cC⟩:=hf;have:=hk g hg;split at cC
      ·rename_i b hb;rw[hb]at this;simp only[E.den,AV.bool.injEq]at this;simp[this]at cC
      ·cases cC
     ·split at hg
      ·rename_i b;simp only[Ad]at hg;subst hg;by_cases hk:Bt c.ρ A4
       ·have h1:=h1 hk;cases h1 with
        |e h1 _ _=>
         obtain⟨q1,q2⟩:=HU _ _ h1;simp only[E.den,AV.bool.injEq]at q1 q2;split
         ·rename_i hb;simp only[AK]at hb;exact⟨λ_=>q1 hb,λhn=>absurd hk hn⟩
         ·rename_i hb;simp only[AK]at hb;exact q2 (by simpa using hb)
       ·split
        ·exact⟨λhh=>absurd hh hk,λ_=>Lt (h2 hk)⟩
        ·exact Lt (h2 hk)
      ·rename_i x _;simp only[Ad]at hg;subst hg;by_cases hk:Bt c.ρ A4
       ·have h1:=h1 hk;cases h1 with
        |e h1 _ _=>obtain⟨q1,q2⟩:=HU _ _ h1;exact⟨λhh=>q1 (hh (x,want) (by simp)),λhn=>q2 λhh=>hn (by intro g hg;rcases Ae.1 hg with rfl|hg;exact hh;exact hk g hg)⟩
       ·exact⟨λhh=>absurd (λg hg=>hh g (by simp[hg])) hk,λ_=>Lt (h2 hk)⟩
      ·cases hg
   ·cases hg
theorem rN(AT:OJ P sg Rt){Q:Exit->Act->World->Prop}{K:Act->World->Prop}{i nv:Nat}(hi:ops[i]?=some o)(hrel:Rel c n sl hp a){sl0:Nat->SV}{hp0:Nat->Option Af}(EM:Wu c.ρ ops o a (some gs))
  (Di:∀t,Operand.tmp t∈o.op.operands->sl0 t=sl t) (hhp:∀t e,hp0 t=some e->hp t=some e) (A9:∀t,nx<=t->t<nx+BT-> ¬c.U t)
  (he:L5 P sg sl0 hp0 nv nx gs o=some e) (BG:gs≠ []-> ∀t x,(t,x)∈e.bj->nx<=t/\t<nx+BT/\ ∃hs y,x= .gd hs y/\Mf gs hs=true)
  (hc:Bt c.ρ gs-> ∀q∈e.ca,q.den c.ρ) (Bl:∀cl,e.call=some cl-> ∃r,c.ρ[nv]?=some r/\(Bt c.ρ gs->IM Rt cl.fn ((EL.of cl.args).den c.ρ) c.ρ r)) (C4:∀x,e.b8=some x->Bt c.ρ gs->c.ρ[nv]?=some (.bool (KT a o)))
  (hK:∀a' c',MV c c' nx->Rel c' n (CO n sl o.dst (mkGd gs e.val)) (Bi hp e.bj) a'->K a' c'.w):wpOp P ops Q i K a c.w:=by
 unfold wpOp;simp only[hi];by_cases hg:Bt c.ρ gs
 ·rw[if_pos (EM.1 hg)];exact .inl (AT c n nx sl hp a sl0 hp0 o gs e nv ⟨hrel,hg,Di,hhp,λt h1 h2=>A9 t h1 (by simp only[BT];omega)⟩ (A9 _ (by omega) (by simp[BT])) he (hc hg) (λcl Aw=>by obtain⟨r,h1,h2⟩:=Bl cl Aw;exact⟨r,h1,h2 hg⟩) (λx hx=>C4 x hx hg) _ _ hK)
 ·rw[if_neg (by rw[EM.2 hg];simp)];have BF:gs≠ []:=by rintro rfl;exact hg (E1 _)
  exact hK _ {c with U:=λt=>c.U t\/(nx<=t/\t<nx+BT)} ⟨rfl,rfl,rfl,rfl,λt ht=>ht⟩ (hrel.skip hg (BG BF) A9 e.val o.dst)
end
def Cx.ext(c:Cx)(τ:List AV):Cx:={c with ρ:=c.ρ++τ}
theorem den_app{ρ τ:List AV}{x:E}(h:x.sc ρ.length=true):x.den (ρ++τ)=x.den ρ:=by have:=E.bc ρ τ [] x h;rw[AE]at this;exact this
theorem zAV{ρ τ:List AV}{x:EL}(h:x.sc ρ.length=true):x.den (ρ++τ)=x.den ρ:=by have:=EL.bc ρ τ [] x h;rw[AE]at this;exact this
theorem LP{ρ τ:List AV}{gs:Gd}(h:Ux ρ.length gs=true):Bt (ρ++τ) gs↔Bt ρ gs:=by simp only[Ux,Bj]at h;exact⟨λk g hg=>by rw[<-den_app (τ:=τ) (h g hg)];exact k g hg,λk g hg=>by rw[den_app (h g hg)];exact k g hg⟩
theorem BP.fg{n:Nat}:∀{cs:BP},cs.sc n=true-> ∀s∈cs.toList,s.sc n=true
 | .nil,_,s,h=>by simp[BP.toList]at h
 | .cons s cs,h,u,hu=>by
  simp only[BP.sc,Ab]at h;simp only[BP.toList,Ae]at hu;rcases hu with rfl|hu
  ·exact h.1
  ·exact BP.fg h.2 u hu
section
variable {c:Cx} {n:Nat} {sl:Nat->SV} {hp:Nat->Option Af} {a:Act} {τ:List AV}
theorem IS.ext{t g:Nat}{p:NO}{v:Value}(hs:(match p with|some q=>q.1.sc c.ρ.length|none=>true)=true)(h:IS c t g p v):IS (c.ext τ) t g p v:=by
 cases p with
 |none=>exact trivial
 |some p=>obtain⟨i,z,o⟩:=p;obtain⟨b,n,cap,C,ty,fz,kk,k,h1,h2,h3,h4,h5⟩:=h;exact⟨b,n,cap,C,ty,fz,kk,k,h1,h2,h3,by show i.den (c.ρ++τ)=_;rw[den_app hs];exact h4,h5⟩
theorem SR.ext{ss:List SV}{vs:List Value}(h:SR c ss vs):(∀s∈ss,s.sc c.ρ.length=true)->SR (c.ext τ) ss vs:=by
 have tl:∀{s:SV} {ss:List SV},(∀x∈s::ss,x.sc c.ρ.length=true)-> ∀x∈ss,x.sc c.ρ.length=true:=λh x hx=>h x (by simp[hx]);have hd:∀{s:SV} {ss:List SV},(∀x∈s::ss,x.sc c.ρ.length=true)->s.sc c.ρ.length=true:=λh=>h _ (by simp);have hρ:(c.ext τ).ρ=c.ρ++τ:=rfl
 induction h with
 |nil=>exact λ_=> .nil
 |undef _ ih=>exact λhs=> .undef (ih (tl hs))
 |e h1 h2 _ ih=>exact λhs=> .e (by rw[hρ,den_app (hd hs)];exact h1) h2 (ih (tl hs))
 |cc _ ih=>exact λhs=> .cc (ih (tl hs))
 |emp _ ih=>exact λhs=> .emp (ih (tl hs))
 |own h1 h2 _ ih=>exact λhs=> .own h1 h2 (ih (tl hs))
 |ch h1 h2 _ ih=>exact λhs=> .ch h1 h2 (ih (tl hs))
 |cq h1 h2 h3 h4 h5 _ ih=>exact λhs=> .cq h1 h2 (by rw[hρ,den_app (hd hs)];exact h3) h4 h5 (ih (tl hs))
 |dd h1 h2 h3 h4 h5 h6 _ ih=>intro hs;have:=hd hs;simp only[SV.sc,Ab]at this;exact .dd (by rw[hρ,den_app this.1];exact h1) h2 (by rw[hρ,den_app this.2];exact h3) h4 h5 (by rw[hρ,den_app this.1];exact h6) (ih (tl hs))
 |da h1 h2 _ ih=>exact λhs=> .da (by rw[hρ,den_app (hd hs)];exact h1) h2 (ih (tl hs))
 |agg h9 _ _ ih1 ih2=>exact λhs=> .agg h9 (ih1 (BP.fg (hd hs))) (ih2 (tl hs))
 |tup _ _ ih1 ih2=>exact λhs=> .tup (ih1 (BP.fg (hd hs))) (ih2 (tl hs))
 |fn _ _ ih1 ih2=>exact λhs=> .fn (ih1 (BP.fg (hd hs))) (ih2 (tl hs))
 |gd _ h2 _ ih1 ih2=>intro hs;have:=hd hs;simp only[SV.sc,Ab]at this;exact .gd (λhg=>ih1 ((LP this.1).1 hg) (by simpa using this.2)) (λhg=>h2 λk=>hg ((LP this.1).2 k)) (ih2 (tl hs))
 | @via t g n p x v ss vs h1 h2 h3 _ ih=>intro hs;have:=hd hs;simp only[SV.sc,Ab]at this;refine .via h1 h2 (λhe=> ?_) (ih (tl hs));obtain⟨q1,q2⟩:=h3 he;exact⟨by rw[hρ,den_app this.2];exact q1,IS.ext (τ:=τ) this.1 q2⟩
 | @vptr t g n p x i sz o v ss vs h1 h2 h3 _ ih=>intro hs;have:=hd hs;simp only[SV.sc,Ab]at this;refine .vptr h1 h2 (λhe=> ?_) (ih (tl hs));obtain⟨b,off,len,cap,kk,k,q1,q2,q3,q4,q5,q6,q7⟩:=h3 he;exact⟨b,off,len,cap,kk,k,by rw[hρ,den_app this.1.2];exact q1,IS.ext (τ:=τ) this.1.1 q2,by rw[hρ,den_app this.2];exact q3,q4,q5,by rw[hρ,den_app this.1.2];exact q6,q7⟩
 |wown h1 h2 h3 h4 h5 h6 _ ih=>exact λhs=> .wown h1 h2 (by rw[hρ,den_app (hd hs)];exact h3) h4 h5 h6 (ih (tl hs))
 | @lent i _ _ _ h1 _ ih=>exact λhs=> .lent (by rw[hρ,den_app (x:= .var i) (by simpa[SV.sc,E.sc]using hd hs)];exact h1) (ih (tl hs))
theorem Du.ext{t:Nat}{e:Af}(h:Du c t e)(hs:e.sc c.ρ.length=true):Du (c.ext τ) t e:=by
 have hρ:(c.ext τ).ρ=c.ρ++τ:=rfl;cases e with
 |box ty g cs=>obtain⟨b,C,h1,h2,h3,h4,h5,h6,h7⟩:=h;exact⟨b,C,h1,h2,h3,h4,h5,h6,h7.ext (by simpa[Af.sc]using hs)⟩
 |row ety sz g x d=>obtain⟨h1,h2,N,h3,h4,h5⟩:=h;exact⟨h1,h2,N,by rw[hρ,den_app hs];exact h3,h4,h5⟩
 |br g x=>obtain⟨h1,⟨f,h2,h3⟩,h4⟩:=h;exact⟨h1,⟨f,by rw[hρ,den_app hs];exact h2,h3⟩,h4⟩
 |gd gs e=>exact h
 |dead=>exact h
 |deep e z l g ep x=>obtain⟨h1,h2,h3,h4,h5⟩:=h;exact⟨h1,h2,h3,by rw[hρ,den_app hs];exact h4,h5⟩
 |hol e z l g ep x i o u=>simp only[Af.sc,Ab]at hs;obtain⟨h1,h2,h3,h4,h5⟩:=h;exact⟨h1,h2,h3,by rw[hρ,den_app hs.1,den_app hs.2];exact h4,h5⟩
 |pre e z l g ep x k=>simp only[Af.sc,Ab]at hs;obtain⟨h1,h2,h3,h4,h5⟩:=h;exact⟨h1,h2,h3,by rw[hρ,den_app hs.1,den_app hs.2];exact h4,h5⟩
theorem zDD{ρ:List AV}{e0 e:Af}(hs:e0.sc ρ.length=true):CE (ρ++τ) (some e0) e↔CE ρ (some e0) e:=by
 cases e0 with
 |gd gs x=>simp only[Af.sc,Ab]at hs;simp only[CE];rw[LP hs.1]
 |_=>simp[CE]
theorem Rel.ext(h:Rel c n sl hp a)(h1:∀i,(sl i).sc c.ρ.length=true)(h2:∀t e,hp t=some e->e.sc c.ρ.length=true)(τ:List AV):Rel (c.ext τ) n sl hp a:=by
 have key:∀t e,CE (c.ρ++τ) (hp t) e↔CE c.ρ (hp t) e:=by
  intro t e;cases hh:hp t with
  |none=>exact Iff.rfl
  |some e0=>exact zDD (h2 t e0 hh)
 refine⟨h.defers,h.size,⟨h.base.os,h.base.tape,h.base.output,h.base.size,h.base.pins,h.base.block,h.base.pk,h.base.lo⟩,λi=>(h.cy i).ext (by simpa using h1 i),λt e hr=> ?_,λt hn=>h.off t λe hr=>hn e ((key t e).2 hr),⟨h.gw.nodup,h.gw.cm,h.gw.allow,h.gw.inb⟩,h.bp,h.cr⟩;have CA:=(key t e).1 hr;have he:=h.ents t e CA;cases hh:hp t with
 |none=>rw[hh]at CA;exact CA.elim
 |some e0=>
  have E7:=h2 t e0 hh;rw[hh]at CA;cases e0 with
  |gd gs x=>
   obtain⟨_,rfl⟩:=CA;simp only[Af.sc,Ab]at E7;cases x with
   |gd=>exact he
   |dead=>exact he
   |box=>exact he.ext (by simpa[Af.sc]using E7.2)
   |row=>exact he.ext (by simpa[Af.sc]using E7.2)
   |br=>exact he.ext (by simpa[Af.sc]using E7.2)
   |deep=>exact he.ext (by simpa[Af.sc]using E7.2)
   |hol=>exact he.ext (by simpa[Af.sc]using E7.2)
   |pre=>exact he.ext (by simpa[Af.sc]using E7.2)
  |_=>simp only[CE]at CA;subst CA;exact he.ext E7
theorem St.kj{σ:St}(h:σ.sc=true)(i:Nat):(BR σ i).sc σ.nv=true:=by
 simp only[St.sc,Ab,Bj]at h;unfold BR;cases hi:σ.sl[i]? with
 |none=>simp[SV.sc]
 |some s=>exact h.1 s (List.mem_of_getElem? hi)
theorem St.jz{σ:St}(h:σ.sc=true)(t:Nat)(e:Af)(he:AJ σ.hp t=some e):e.sc σ.nv=true:=by simp only[St.sc,Ab,Bj]at h;exact h.2 _ (Jd he)
theorem Cn.iy{ρ τ:List AV}{q:Cn}(h:q.sc ρ.length=true):q.den (ρ++τ)↔q.den ρ:=by
 cases q<;>simp only[Cn.sc,Ab]at h<;>simp only[Cn.den]
 case dfd=>rw[den_app h]
 case agg=>rw[den_app h]
 case cells=>rw[den_app h]
 case inb=>rw[den_app h.1,den_app h.2]
 case inbS=>rw[den_app h.1,den_app h.2]
 case win=>rw[den_app h.1.1,den_app h.1.2,den_app h.2]
 case winS=>rw[den_app h.1.1,den_app h.1.2,den_app h.2]
 case room=>rw[den_app h.1,den_app h.2]
 case roomS=>rw[den_app h.1,den_app h.2]
 case mkroom=>rw[den_app h]
 case nz=>rw[den_app h]
 case nn=>rw[den_app h]
 case isref=>rw[den_app h]
 case issl=>rw[den_app h]
 case flat=>rw[den_app h]
 case flatS=>rw[den_app h]
 case kinds=>rw[den_app h]
theorem oQ:SR c [HD] [Go.undef]:= .gd (λhg=>by have:=hg (.bool false,true) (by simp);simp[E.den]at this) (λ_=>rfl) .nil
theorem xL{ρ:List AV}{x:E}{b:Bool}{hs:Gd}(hx:x.den ρ= .bool b)(h:PK (x, !b) hs=true): ¬Bt ρ hs:=by intro k;have:=z6 h k;simp only at this;rw[hx]at this;simp at this
theorem lK{ρ:List AV}{x:E}{b:Bool}{hs:Gd}(hx:x.den ρ= .bool b):Bt ρ (hs.filter λh=> !(h.1.beq x&&h.2==b))↔Bt ρ hs:=by
 refine⟨λk g hg=> ?_,λk g hg=>k g (List.mem_filter.1 hg).1⟩;by_cases hh:(g.1.beq x&&g.2==b)=true
 ·simp only[Ab,AK]at hh;rw[E.ay ρ _ _ hh.1,hx,hh.2]
 ·exact k g (List.mem_filter.2 ⟨hg,by rw[Bool.not_eq_true]at hh;rw[hh];rfl⟩)
theorem SR.je{s:SV}{v:Value}{gs:Gd}(h1:Bt c.ρ gs->SR c [s] [v])(h2: ¬Bt c.ρ gs->v=Go.undef):SR c [Go.Proofs.YtalagilebkaegaaGreat.mkGd gs s] [v]:=by
 cases gs with
 |nil=>exact h1 (E1 _)
 |cons g gs=>exact .gd h1 h2 .nil
theorem SR.fc{x:E}{b:Bool}(hx:x.den c.ρ= .bool b){s:SV}{v:Value}(h:SR c [s] [v]):SR c [assumeS x b s] [v]:=by
 cases s with
 |gd hs s=>
  simp only[Go.Proofs.YtalagilebkaegaaGreat.assumeS];cases h with
  |gd h1 h2 _=>
   split
   ·rename_i hm;rw[h2 (xL hx hm)];exact oQ
   ·exact SR.je (λk=>h1 ((lK hx).1 k)) (λk=>h2 λk'=>k ((lK hx).2 k'))
 |_=>exact h
theorem zAI(f:Af->Af)(l:List (Nat × Af))(t:Nat):AJ (l.map λ(t,e)=>(t,f e)) t=(AJ l t).map f:=by
 induction l with
 |nil=>rfl
 |cons p l ih=>
  obtain⟨u,e⟩:=p;simp only[List.map_cons,AJ];split
  ·rfl
  ·exact ih
theorem Rel.fc{x:E}{b:Bool}(hx:x.den c.ρ= .bool b)(h:Rel c n sl hp a):Rel c n (λi=>assumeS x b (sl i)) (λt=>(hp t).map (assumeE x b)) a:=by
 have Mz:∀t,(∀e,CE c.ρ (hp t) e-> ∃gs y,e= .gd gs y\/e= .dead)->(c.G t).top=[]/\(c.G t).O=[]:=by
  intro t ht;by_cases hh:∃e,CE c.ρ (hp t) e
  ·obtain⟨e,he⟩:=hh;obtain⟨gs,y,rfl|rfl⟩:=ht e he
   ·exact h.ents t _ he
   ·exact h.ents t _ he
  ·exact h.off t λe he=>hh ⟨e,he⟩
 have cases':∀t,((∀e,CE c.ρ ((hp t).map (assumeE x b)) e↔CE c.ρ (hp t) e))\/((hp t).map (assumeE x b)=some .dead/\(c.G t).top=[]/\(c.G t).O=[]):=by
  intro t;cases hh:hp t with
  |none=>exact .inl λe=>Iff.rfl
  |some e0=>
   cases e0 with
   |gd hs y=>
    by_cases hm:PK (x, !b) hs=true
    ·refine .inr ⟨by simp[Go.Proofs.YtalagilebkaegaaGreat.assumeE,hm],Mz t λe he=> ?_⟩;rw[hh]at he;exact absurd he.1 (xL hx hm)
    ·by_cases hy:∃gs z,y= .gd gs z
     ·obtain⟨gs,z,rfl⟩:=hy;refine .inr ⟨by simp[Go.Proofs.YtalagilebkaegaaGreat.assumeE,hm],Mz t λe he=> ?_⟩;rw[hh]at he;exact⟨gs,z, .inl he.2.symm⟩
     ·refine .inl λe=> ?_;have he:assumeE x b (.gd hs y)=CS (hs.filter λh=> !(h.1.beq x&&h.2==b)) y:=by
       simp only[Go.Proofs.YtalagilebkaegaaGreat.assumeE,hm,AW,if_false];cases y<;>first|rfl|exact absurd ⟨_,_,rfl⟩ hy
      simp only[Option.map_some,he];show _↔Bt c.ρ hs/\y=e;rw[<-lK hx];generalize (hs.filter λh=> !(h.1.beq x&&h.2==b))=fs;cases fs with
      |nil=>simp only[CS,E1,true_and];cases y<;>first|exact absurd ⟨_,_,rfl⟩ hy|exact Iff.rfl
      |cons g fs=>exact Iff.rfl
   |_=>exact .inl λe=>Iff.rfl
 refine⟨h.defers,h.size,h.base,λi=>(h.cy i).fc hx,λt e hr=> ?_,λt hn=> ?_,h.gw,h.bp,λt e he=> ?_⟩
 ·rcases cases' t with hc|⟨hc,h1,h2⟩
  ·exact h.ents t e ((hc e).1 hr)
  ·rw[hc]at hr;have:Af.dead=e:=hr;subst this;exact⟨h1,h2⟩
 ·rcases cases' t with hc|⟨hc,h1,h2⟩
  ·exact h.off t λe he=>hn e ((hc e).2 he)
  ·exact⟨h1,h2⟩
 ·cases hh:hp t with
  |none=>rw[hh]at he;cases he
  |some e0=>exact h.cr t e0 hh
end
theorem mC{σ:St}{d:Option Nat}{s:SV}:BR (H7 σ d s)=CO σ.sl.length (BR σ) d s:=by
 funext i;cases d with
 |none=>simp[H7,CO]
 |some d=>
  simp only[H7,BR,CO,Ad,List.getElem?_set];by_cases h:d=i
  ·subst h;by_cases h2:d<σ.sl.length
   ·simp[h2]
   ·simp[h2,List.getElem?_eq_none (Nat.le_of_not_lt h2)]
  ·simp[h]
theorem lE{σ:St}{d:Option Nat}{s:SV}:(H7 σ d s).sl.length=σ.sl.length:=by cases d<;>simp[H7]
theorem lN{σ:St}{d:Option Nat}{s:SV}:(H7 σ d s).hp=σ.hp:=by cases d<;>rfl
theorem lU{σ:St}{d:Option Nat}{s:SV}:(H7 σ d s).nv=σ.nv:=by cases d<;>rfl
theorem zzQ(l:List (Nat × Af))(t:Nat)(e:Af)(u:Nat):AJ (Mi l t e) u=if u=t then some e else AJ l u:=by
 induction l with
 |nil=>
  simp only[Mi,AJ];by_cases h:t=u
  ·simp[h]
  ·rw[if_neg h,if_neg (Ne.symm h)]
 |cons p l ih=>
  obtain⟨v,f⟩:=p;simp only[Mi];split
  ·rename_i hv;subst hv;simp only[AJ];by_cases h:v=u
   ·simp[h]
   ·rw[if_neg h,if_neg (Ne.symm h),if_neg h]
  ·rename_i hv;simp only[AJ];by_cases h:v=u
   ·subst h;rw[if_pos rfl,if_neg hv,if_pos rfl]
   ·rw[if_neg h,ih,if_neg h]
theorem wK:∀(ents:List (Nat × Af)) (l:List (Nat × Af)),AJ (ents.foldl (λl (p:Nat × Af)=>Mi l p.1 p.2) l)=Bi (AJ l) ents
 | [],l=>rfl
 |(t,e)::ents,l=>by
  simp only[List.foldl_cons];rw[wK ents];have:AJ (Mi l t e)=λu=>if u=t then some e else AJ l u:=by funext u;exact zzQ l t e u
  rw[this];rfl
section
variable {P:Program} {sg:BZ} {Rt:Nat->List AV->AV->Prop} {ops:Array Oper}
theorem z8{σ:St}{gs:Gd}{o:Oper}{e:Bb}:BR (LR σ gs o e)=CO σ.sl.length (BR σ) o.dst (mkGd gs e.val):=by rw[<-mC];rfl
theorem yV{σ:St}{gs:Gd}{o:Oper}{e:Bb}:AJ (LR σ gs o e).hp=Bi (AJ σ.hp) e.bj:=by
 have:(LR σ gs o e).hp=e.bj.foldl (λl (p:Nat × Af)=>Mi l p.1 p.2) σ.hp:=by show e.bj.foldl (λl (p:Nat × Af)=>Mi l p.1 p.2) (H7 σ o.dst (mkGd gs e.val)).hp=_;rw[lN]
 rw[this,wK]
theorem yJ{σ:St}{gs:Gd}{o:Oper}{e:Bb}:(LR σ gs o e).sl.length=σ.sl.length:=by show(H7 σ o.dst (mkGd gs e.val)).sl.length=_;rw[lE]
theorem nB{σ:St}{gs:Gd}{o:Oper}{e:Bb}:(LR σ gs o e).nv=if e.call.isSome||e.b8.isSome then σ.nv+1 else σ.nv:=by show(if e.call.isSome||e.b8.isSome then(H7 σ o.dst (mkGd gs e.val)).nv+1 else(H7 σ o.dst (mkGd gs e.val)).nv)=_;rw[lU]
theorem nJ{R:AV->Prop}{gs:Gd}{k:Tr}{L:LK}{js:List JK}{ρ:List AV}:∀{cs:List Cn},(cs.foldr (λc k=> .ca gs c k) k:Tr).den Rt R L js ρ->(Bt ρ gs-> ∀q∈cs,q.den ρ)/\k.den Rt R L js ρ
 | [],h=>⟨by simp,h⟩
 |c::cs,h=>by
  obtain⟨h1,h2⟩:=h;obtain⟨h3,h4⟩:=nJ h2;refine⟨λhg q hq=> ?_,h4⟩;rcases Ae.1 hq with rfl|hq
  ·exact h1 hg
  ·exact h3 hg q hq
theorem zZ{l:List (Nat × Af)}{R:List Nat}{t:Nat}{e:Af}(h:Qp l R t=some e):AJ l t=some e:=by
 unfold Qp at h;split at h
 ·exact h
 ·cases h
theorem w7{f:Nat ⊕ E}{as_:EL}{ρ τ:List AV}{r:AV}(h1:(match f with| .inl _=>true| .inr x=>x.sc ρ.length)=true)(h2:as_.sc ρ.length=true):IM Rt f (as_.den (ρ++τ)) (ρ++τ) r↔IM Rt f (as_.den ρ) ρ r:=by
 rw[zAV h2];cases f with
 |inl f=>exact Iff.rfl
 |inr x=>simp only[IM];rw[den_app h1]
theorem EL.jh{n:Nat}:∀{l:List E},l.all (E.sc n)=true->(EL.of l).sc n=true
 | [],_=>rfl
 |x::l,h=>by simp only[List.all_cons,Ab]at h;simp only[EL.of,EL.sc,Ab];exact⟨h.1,EL.jh h.2⟩
structure Jo(F:Fix)(c:Cx)(σ:St)(a:Act)(n m:Nat):Prop where
 w0:c.w0=F.w0
 A:c.A=F.A
 Mu:c.Mu=F.Mu
 nv:c.ρ.length=σ.nv
 len:σ.sl.length=n
 U:∀t,c.U t->t<m
 rel:Rel c n (BR σ) (AJ σ.hp) a
theorem Jo.ext{F:Fix}{c:Cx}{σ:St}{a:Act}{n m:Nat}(h:Jo F c σ a n m)(hs:σ.sc=true)(τ:List AV):Rel (c.ext τ) n (BR σ) (AJ σ.hp) a:=
 h.rel.ext (λi=>by rw[h.nv];exact St.kj hs i) (λt e he=>by rw[h.nv];exact St.jz hs t e he) τ
theorem zFD(AT:OJ P sg Rt)(Ej:Ws P sg){F:Fix}{c:Cx}{σ:St}{a:Act}{n i base:Nat}{o:Oper}{gs:Gd}{e:Bb}{k:Tr}{R:AV->Prop}{L:LK}{js:List JK}{Q:Exit->Act->World->Prop}{K:Act->World->Prop}
  (hi:ops[i]?=some o) (hm:Jo F c σ a n (base+BT*i)) (EM:Wu c.ρ ops o a (some gs)) {Rs:List Nat} (he:L5 P sg (BR σ) (Qp σ.hp Rs) σ.nv (base+BT*i) gs o=some e) (E7:SU σ.nv (base+BT*i) σ.hp gs e=true)
  (TW:(e.call.isSome||e.b8.isSome)=true->σ.sc=true) (hd:(Z5 gs e k).den Rt R L js c.ρ)
  (hK:∀(c':Cx) (a':Act),c.ρ<+:c'.ρ->Jo F c' (LR σ gs o e) a' n (base+BT*(i+1))->k.den Rt R L js c'.ρ->K a' c'.w):wpOp P ops Q i K a c.w:=by
 simp only[SU,Ab,Bj]at E7;obtain⟨⟨⟨⟨BM,A7⟩,Hk⟩,qW⟩,dR⟩:=E7;have BG:gs≠ []-> ∀t x,(t,x)∈e.bj->base+BT*i<=t/\t<base+BT*i+BT/\ ∃hs y,x= .gd hs y/\Mf gs hs=true:=by
  intro BF t x hx;have:=dR _ hx;have To:gs.isEmpty=false:=by cases gs;exact absurd rfl BF;rfl
  simp only[To,Bool.false_or,Bool.false_and,Bool.or_false,Ab,AR]at this;refine⟨this.1.1,this.1.2,?_⟩;have h3:=this.2;split at h3
  ·exact⟨_,_,rfl,h3⟩
  ·cases h3
 have A9:∀t,base+BT*i<=t->t<base+BT*i+BT-> ¬c.U t:=λt h1 _ h3=>by have:=hm.U t h3;omega
 have Gp:∀(τ:List AV),Rel (c.ext τ) n (BR σ) (AJ σ.hp) a->τ.length=(if e.call.isSome||e.b8.isSome then 1 else 0)->k.den Rt R L js (c.ρ++τ)->(Bt c.ρ gs-> ∀q∈e.ca,q.den c.ρ)->
   (∀cl,e.call=some cl-> ∃r,τ=[r]/\(Bt c.ρ gs->IM Rt cl.fn ((EL.of cl.args).den c.ρ) c.ρ r))->(∀x,e.b8=some x->τ=[.bool (KT a o)])->wpOp P ops Q i K a c.w:=by
  intro τ hrel hτ hk hc Bl C4;have Gk:σ.nv=c.ρ.length:=hm.nv.symm;rw[Gk]at BM A7 Hk;have Tz:∀r,τ=[r]->(c.ρ++τ)[σ.nv]?=some r:=by rintro r rfl;rw[Gk];simp
  refine rN (c:=c.ext τ) AT hi hrel ⟨λhg=>EM.1 ((LP BM).1 hg),λhg=>EM.2 λk=>hg ((LP BM).2 k)⟩ (λ_ _=>rfl) (λt e h=>zZ h) A9 he BG (λhg q hq=> ?_) (λcl Aw=> ?_) (λx hx _=>Tz _ (C4 x hx)) (λa' c' Bc hr=> ?_)
  ·exact(Cn.iy (A7 q hq)).2 (hc ((LP BM).1 hg) q hq)
  ·obtain⟨r,rfl,h2⟩:=Bl cl Aw;rw[Aw]at Hk;simp only[Ab]at Hk;exact⟨r,Tz r rfl,λhg=>(w7 Hk.1 (EL.jh Hk.2)).2 (h2 ((LP BM).1 hg))⟩
  ·have hρ:c'.ρ=c.ρ++τ:=Bc.ρ;refine hK c' a' ⟨τ,hρ.symm⟩ ⟨Bc.w0.trans hm.w0,Bc.A.trans hm.A,Bc.Mu.trans hm.Mu,?_,by rw[yJ];exact hm.len,λt ht=> ?_,?_⟩ (by rw[hρ];exact hk)
   ·rw[hρ,nB,AO,hτ,Gk];split<;>rfl
   ·have hmul:base+BT*(i+1)=base+BT*i+BT:=by rw[Nat.mul_add];omega
    rw[hmul];rcases Bc.U t ht with h|h
    ·have:=hm.U t h;omega
    ·exact h.2
   ·rw[z8,yV,hm.len];exact hr
 unfold Z5 at hd;obtain⟨hc,hd⟩:=nJ hd;cases Aw:e.call with
 |none=>
  simp only[Aw]at hd;cases C4:e.b8 with
  |none=>simp only[C4]at hd;refine Gp [] (by have:=hm.rel;simpa[Cx.ext]using this) (by simp[Aw,C4]) (by simpa using hd) hc (λcl h=>by rw[Aw]at h;cases h) (λx h=>by rw[C4]at h;cases h)
  |some x=>simp only[C4]at hd;have Gn:=TW (by simp[C4]);refine Gp [.bool (KT a o)] (hm.ext Gn _) (by simp[C4]) (hd _ λhg hb=> ?_) hc (λcl h=>by rw[Aw]at h;cases h) (λx h=>rfl);exact Ej c n _ _ _ a _ _ o gs e _ x ⟨hm.rel,hg,λ_ _=>rfl,λt e h=>zZ h,λt h1 h2=>A9 t h1 (Nat.lt_of_lt_of_le h2 (Nat.add_le_add_left (by decide) _))⟩ he C4 hb
 |some cl=>
  simp only[Aw]at hd;cases C4:e.b8 with
  |some x=>rw[C4]at qW;simp[Aw]at qW
  |none=>simp only[C4]at hd;obtain⟨r,h1,h2⟩:=hd;have Gn:=TW (by simp[Aw]);refine Gp [r] (hm.ext Gn _) (by simp[Aw]) h2 hc (λcl' h=>by rw[Aw]at h;cases h;exact⟨r,rfl,h1⟩) (λx h=>by rw[C4]at h;cases h)
theorem zzR{σ:St}{x:E}{b:Bool}{d:Nat}:BR (assume x b d σ)=CO σ.sl.length (λi=>assumeS x b (BR σ i)) (some d) (.e (.bool b)):=by
 funext i;simp only[assume,BR,CO,Ad,List.getElem?_set,List.length_map,List.getElem?_map];by_cases h:d=i
 ·subst h;by_cases h2:d<σ.sl.length
  ·simp[h2]
  ·simp[h2,List.getElem?_eq_none (Nat.le_of_not_lt h2),assumeS]
 ·simp only[h,false_and,if_false];cases hh:σ.sl[i]?<;>simp[assumeS]
theorem zzD{σ:St}{x:E}{b:Bool}{d:Nat}:AJ (assume x b d σ).hp=λt=>(AJ σ.hp t).map (assumeE x b):=by funext t;exact zAI _ _ _
theorem Jo.assume{F:Fix}{c:Cx}{σ:St}{a:Act}{n m:Nat}(h:Jo F c σ a n m){x:E}{b:Bool}(hx:x.den c.ρ= .bool b){d:Nat}(hd:BR σ d= .e x):Jo F c (Go.Proofs.YtalagilebkaegaaGreat.assume x b d σ) a n m:=by
 refine⟨h.w0,h.A,h.Mu,h.nv,?_,h.U,?_⟩
 ·simp only[Go.Proofs.YtalagilebkaegaaGreat.assume,List.length_set,List.length_map];exact h.len
 ·rw[zzR,zzD];have hr:=h.rel.fc hx;refine{hr with cy:=λi=> ?_};unfold CO;split
  ·rename_i hi;obtain⟨hi,_⟩:=hi;cases hi;have:=h.rel.cy d;rw[hd]at this;generalize a.tmps.getD d Go.undef=v at this;cases this with
   |e h1 h2 _=>exact .e (f:=[]) (by rw[hx]at h1;rw[IK h1 rfl];exact .bool .nil) (by simp) .nil
  ·exact hr.cy i
theorem zzP(AT:OJ P sg Rt)(Ej:Ws P sg){F:Fix}{base:Nat}{R:AV->Prop}{L:LK}{js:List JK}{Q:Exit->Act->World->Prop}{n:Nat}{next:List Log->St->Option Tr}{i:Nat}{o:Oper}{lg:List Log}{rest:List Nat}(hi:ops[i]?=some o)
  (CF:∀(lg:List Log) (σ:St) (t:Tr),next lg σ=some t-> ∀(c:Cx) (a:Act),Jo F c σ a n (base+BT*(i+1))->t.den Rt R L js c.ρ->(∀(c':Cx) (a':Act) (σ':St),c.ρ<+:c'.ρ->L js .normal σ' c'.ρ->G4 F c'.ρ σ' a' c'.w->Q .normal a' c'.w)->wpOps P ops Q rest a c.w):
  ∀(m:Nat) (σ:St) (t:Tr),Uj P sg ops false base next i o lg m σ=some t->
  ∀(c:Cx) (a:Act),Jo F c σ a n (base+BT*i)->t.den Rt R L js c.ρ->(∀(c':Cx) (a':Act) (σ':St),c.ρ<+:c'.ρ->L js .normal σ' c'.ρ->G4 F c'.ρ σ' a' c'.w->Q .normal a' c'.w)->wpOps P ops Q (i::rest) a c.w:=by
 have Ou:base+BT*i<=base+BT*(i+1):=by rw[Nat.mul_add];omega
 have try_:∀(fail:Unit->Option Tr) (σ:St) (t:Tr),Up P sg ops false base next i o lg fail σ=some t-> ∀(c:Cx) (a:Act),Jo F c σ a n (base+BT*i)->t.den Rt R L js c.ρ->(∀(c':Cx) (a':Act) (σ':St),c.ρ<+:c'.ρ->L js .normal σ' c'.ρ->G4 F c'.ρ σ' a' c'.w->Q .normal a' c'.w)->
   (fail ()=some t->wpOps P ops Q (i::rest) a c.w)->wpOps P ops Q (i::rest) a c.w:=by
  intro fail σ t ht c a hm hd hq Tt;unfold Up at ht;cases He:Po σ ops o with
  |none=>rw[He]at ht;cases ht
  |some r=>
   have EM:=mU (c:=c) (a:=a) He (λj want d _ _=>hm.rel.cy d);rw[He]at ht;cases r with
   |none=>simp only at ht;rw[wpOps_cons];unfold wpOp;simp only[hi];rw[if_neg (by simp[show Region.wanted o (yielded ops a.tmps)=false from EM])];refine CF lg _ t ht c _ ⟨hm.w0,hm.A,hm.Mu,by rw[lU];exact hm.nv,by rw[lE];exact hm.len,λt ht=>Nat.lt_of_lt_of_le (hm.U t ht) Ou,?_⟩ hd hq;rw[mC,lN,hm.len];exact hm.rel.put oQ o.dst
   |some gs=>
    simp only at ht;split at ht
    ·rename_i e he;split at ht
     ·cases ht
     ·rename_i AA;split at ht
      ·cases ht
      ·rename_i k hk;simp only[Ad]at ht;subst ht;simp only[Bool.false_and,Bool.false_or,Bool.not_false,Bool.true_and,Bool.or_eq_true,Bf,Ab,not_or,Bool.not_eq_false]at AA;rw[wpOps_cons];refine zFD AT Ej hi hm EM he AA.1 (λhh=> ?_) hd λc' a' hp CW Cp=>CF _ _ k hk c' a' CW Cp λc'' a'' σ' hp'=>hq c'' a'' σ' (hp.trans hp');have:=AA.2;simp only[Bool.or_eq_true]at hh;simpa[hh]using this
    ·exact Tt ht
 intro m
 induction m with
 |zero=>exact λσ t ht c a hm hd hq=>try_ _ σ t ht c a hm hd hq λh=>by cases h
 |succ m ih=>
  intro σ t ht c a hm hd hq;refine try_ _ σ t ht c a hm hd hq λh=> ?_;split at h
  ·rename_i d _ _;split at h
   ·rename_i x P2;split at h
    ·rename_i k1 k0 GM P4;simp only[Ad]at h;subst h;obtain⟨tt,h1,h2,h3⟩:=hd;cases tt with
     |true=>exact ih _ k1 GM c a (hm.assume h1 P2) (h2 rfl) hq
     |false=>exact ih _ k0 P4 c a (hm.assume h1 P2) (h3 rfl) hq
    ·cases h
   ·cases h
  ·cases h
theorem rJ(AT:OJ P sg Rt)(Ej:Ws P sg){F:Fix}{base:Nat}{R:AV->Prop}{L:LK}{js:List JK}{Q:Exit->Act->World->Prop}{n:Nat}:∀(len i:Nat) (lg:List Log) (σ:St) (t:Tr),i+len=ops.size->Mc P sg ops false base (List.range' i len) lg σ=some t->
  ∀(c:Cx) (a:Act),Jo F c σ a n (base+BT*i)->t.den Rt R L js c.ρ->(∀(c':Cx) (a':Act) (σ':St),c.ρ<+:c'.ρ->L js .normal σ' c'.ρ->G4 F c'.ρ σ' a' c'.w->Q .normal a' c'.w)->wpOps P ops Q (List.range' i len) a c.w
 |0,i,lg,σ,t,hl,ht,c,a,hm,hd,hq=>by
  simp only[List.range'_zero,Mc,Bool.false_and,AW,if_false,Ad]at ht ⊢;subst ht;refine hq c a _ (List.prefix_refl _) hd ⟨c,rfl,rfl,hm.w0,hm.A,hm.Mu,hm.nv,λt ht=> ?_,?_⟩
  ·have:=hm.U t ht;have h9:i=ops.size:=by omega
   subst h9;exact this
  ·have:=hm.rel;rw[<-hm.len]at this;exact this
 |len+1,i,lg,σ,t,hl,ht,c,a,hm,hd,hq=>by
  rw[List.range'_succ]at ht ⊢;unfold Mc at ht;obtain⟨o,hi⟩:∃o,ops[i]?=some o:=⟨ops[i]'(by omega),by simp[show i<ops.size by omega]⟩
  rw[hi]at ht;simp only at ht;exact zzP AT Ej hi (λlg σ t ht c a=>rJ AT Ej (n:=n) len (i+1) lg σ t (by omega) ht c a) 4 σ t ht c a hm hd hq
end
def fC(l:List Oper)(bs:List Nat):Prop:=bs.length=l.length/\ ∀(j:Nat) (o:Oper),l[j]?=some o-> ∀i,((bs[j]?).getD 0).testBit i=true-> ∃e∈o.after.toList,Region.binds .any e=true/\(i=e.on\/(e.on<j/\((bs[e.on]?).getD 0).testBit i=true))
theorem vA(acc:List Nat)(i:Nat):∀(es:List Edge) (s:Nat),(es.foldl (λs e=>if Region.binds .any e then s|||2^e.on|||(acc[e.on]?).getD 0 else s) s).testBit i=true->
  s.testBit i=true\/ ∃e∈es,Region.binds .any e=true/\(i=e.on\/((acc[e.on]?).getD 0).testBit i=true)
 | [],s,h=> .inl h
 |e::es,s,h=>by
  simp only[List.foldl_cons]at h;rcases vA acc i es _ h with h|⟨e',h1,h2⟩
  ·split at h
   ·rename_i hb;simp only[Nat.testBit_or,Nat.testBit_two_pow,Bool.or_eq_true,AR]at h;rcases h with(h|h)|h
    ·exact .inl h
    ·exact .inr ⟨e,by simp,hb, .inl h.symm⟩
    ·exact .inr ⟨e,by simp,hb, .inr h⟩
   ·exact .inl h
  ·exact .inr ⟨e',by simp[h1],h2⟩
theorem xV:∀(os pre:List Oper) (acc:List Nat),fC pre acc->fC (pre++os) (KC os acc)
 | [],pre,acc,h=>by simpa[KC]using h
 |o::os,pre,acc,h=>by
  obtain⟨hl,hb⟩:=h;have:=xV os (pre++ [o]) (acc++ [oW acc o]) ⟨by simp[hl],λj o' ho i hi=> ?_⟩
  ·simpa[KC]using this
  ·have AG:∀k,k<acc.length->((acc++ [oW acc o])[k]?).getD 0=(acc[k]?).getD 0:=λk hk=>by rw[List.getElem?_append_left hk]
   by_cases hj:j<pre.length
   ·rw[List.getElem?_append_left hj]at ho;rw[AG j (by omega)]at hi;obtain⟨e,h1,h2,h3⟩:=hb j o' ho i hi;exact⟨e,h1,h2,h3.imp id λh=>⟨h.1,by rw[AG _ (by omega)];exact h.2⟩⟩
   ·rw[List.getElem?_append_right (by omega)]at ho;have hj0:j-pre.length=0:=by
     cases hh:j-pre.length with
     |zero=>rfl
     |succ k=>rw[hh]at ho;simp at ho
    rw[hj0]at ho;simp at ho;subst ho;have Oi:j=acc.length:=by omega
    rw[Oi,List.getElem?_append_right (AI _)]at hi;simp only[Nat.sub_self,List.getElem?_cons_zero,Df]at hi;rcases vA acc i _ 0 hi with h|⟨e,h1,h2,h3⟩
    ·simp at h
    ·refine⟨e,h1,h2,h3.imp id λh=> ?_⟩;have he:e.on<acc.length:=by
      rcases Nat.lt_or_ge e.on acc.length with hh|hh
      ·exact hh
      ·rw[List.getElem?_eq_none hh]at h;simp at h
     exact⟨by omega,by rw[AG _ he];exact h⟩
def Wf(ops:Array Oper)(S:Nat->Bool):Prop:= ∀k o,S k=true->ops[k]?=some o-> ∀e∈o.after.toList,Region.binds .any e=true->S e.on=true
theorem sS(ops:Array Oper):fC ops.toList (KC ops.toList []):=by have:=xV ops.toList [] [] ⟨rfl,by simp⟩;simpa using this
theorem w5{ops:Array Oper}{S:Nat->Bool}(hS:Wf ops S):∀(k i:Nat),S k=true->k<ops.size->(((KC ops.toList [])[k]?).getD 0).testBit i=true->S i=true:=by
 intro k
 induction k using Nat.strongRecOn with
 |_ k ih=>
  intro i hk AG hb;have ho:ops.toList[k]?=some ops[k]:=by simp[AG]
  obtain⟨e,h1,h2,h3⟩:=(sS ops).2 k _ ho i hb;have TP:=hS k ops[k] hk (by simp[AG]) e h1 h2;rcases h3 with rfl|⟨h3,h4⟩
  ·exact TP
  ·exact ih e.on h3 i TP (by omega) h4
theorem zAZ{ops:Array Oper}{S:Nat->Bool}(hS:Wf ops S){j i:Nat}{o:Oper}(ho:ops[j]?=some o)(hr:∀e∈o.after.toList,Region.binds .any e=true->S e.on=true)(hb:(((KC ops.toList [])[j]?).getD 0).testBit i=true):S i=true:=by
 have AG:j<ops.size:=(Array.getElem?_eq_some_iff.1 ho).1;obtain⟨e,h1,h2,h3⟩:=(sS ops).2 j o (by simpa using ho) i hb;have TP:=hr e h1 h2;rcases h3 with rfl|⟨h3,h4⟩
 ·exact TP
 ·exact w5 hS e.on i TP (by omega) h4
theorem zzY{ops:Array Oper}{S:Nat->Bool}(hS:Wf ops S){j i:Nat}{o:Oper}(ho:ops[j]?=some o)(hi:i<ops.size)(hj:S j=false)(hr:∀e∈o.after.toList,Region.binds .any e=true->S e.on=true)(BF:i≠j)(Ln:JZ (KC ops.toList []) i j=true):S i=decide (i<j):=by
 unfold JZ at Ln;split at Ln
 ·rename_i h;rw[zAZ hS ho hr Ln];simp[h]
 ·rename_i h;cases hs:S i with
  |false=>simp[h]
  |true=>have:=w5 hS i j hs hi Ln;rw[hj]at this;cases this
structure Rec where
 i:Nat
 o:Oper
 σ:St
 r:Option (Gd × Bb)
def Rec.next(x:Rec):St:=match x.r with|none=>H7 x.σ x.o.dst HD|some (gs,e)=>LR x.σ gs x.o e
def Rec.val(x:Rec):SV:=match x.r with|none=>HD|some (gs,e)=>mkGd gs e.val
def Rec.bj(x:Rec):List (Nat × Af):=match x.r with|none=> []|some (_,e)=>e.bj
def sY(P:Program)(sg:BZ)(Rt:Nat->List AV->AV->Prop)(ops:Array Oper)(base:Nat)(ρ:List AV)(x:Rec):Prop:=
 ops[x.i]?=some x.o/\match x.r with
  |none=>Po x.σ ops x.o=some none
  |some (gs,e)=>Po x.σ ops x.o=some (some gs)/\L5 P sg (BR x.σ) (Qp x.σ.hp (VR x.σ gs x.o)) x.σ.nv (base+BT*x.i) gs x.o=some e/\e.b8=none/\SU x.σ.nv (base+BT*x.i) x.σ.hp gs e=true/\
   (Bt ρ gs-> ∀q∈e.ca,q.den ρ)/\ ∀cl,e.call=some cl-> ∃r,ρ[x.σ.nv]?=some r/\(Bt ρ gs->IM Rt cl.fn ((EL.of cl.args).den ρ) ρ r)
def Ec:Nat->St->List Rec->St->Prop
 |_,σ,[],σ'=>σ=σ'
 |i,σ,x::xs,σ'=>x.i=i/\x.σ=σ/\Ec (i+1) x.next xs σ'
def Rec.log(x:Rec):Option Log:=x.r.map λ(gs,e)=>⟨x.i,VR x.σ gs x.o,e.bj.map (·.1)⟩
theorem mI{P:Program}{sg:BZ}{Rt:Nat->List AV->AV->Prop}{ops:Array Oper}{base:Nat}{R:AV->Prop}{L:LK}{js:List JK}:∀(len i:Nat) (lg:List Log) (σ:St) (t:Tr) (ρ:List AV),i+len=ops.size->
  Mc P sg ops true base (List.range' i len) lg σ=some t->t.den Rt R L js ρ->ρ.length=σ.nv->
  ∃(τ:List AV) (xs:List Rec) (σ':St) (lg':List Log),Ec i σ xs σ'/\xs.length=len/\(∀x∈xs,sY P sg Rt ops base (ρ++τ) x)/\(ρ++τ).length=σ'.nv/\L js .normal {σ' with nx:=base+BT*ops.size} (ρ++τ)/\aN ops lg'=true/\(∀y∈lg,y∈lg')/\ ∀x∈xs,∀y,x.log=some y->y∈lg'
 |0,i,lg,σ,t,ρ,hl,ht,hd,hn=>by
  simp only[List.range'_zero,Mc,Bool.true_and]at ht;split at ht
  ·cases ht
  ·rename_i WH;simp only[Ad]at ht;subst ht;exact⟨[],[],σ,lg,rfl,rfl,by simp,by simpa using hn,by simpa[Tr.den]using hd,by simpa using WH,λy hy=>hy,by simp⟩
 |len+1,i,lg,σ,t,ρ,hl,ht,hd,hn=>by
  rw[List.range'_succ]at ht;unfold Mc at ht;obtain⟨o,hi⟩:∃o,ops[i]?=some o:=⟨ops[i]'(by omega),by simp[show i<ops.size by omega]⟩
  rw[hi]at ht;simp only at ht;unfold Uj Up at ht;cases He:Po σ ops o with
  |none=>rw[He]at ht;cases ht
  |some r=>
   rw[He]at ht;cases r with
   |none=>
    simp only at ht;obtain⟨τ,xs,σ',lg',h1,h2,h3,h4,h5,h6,h7,h8⟩:=mI len (i+1) lg _ t ρ (by omega) ht hd (by rw[lU];exact hn);refine⟨τ,⟨i,o,σ,none⟩::xs,σ',lg',⟨rfl,rfl,h1⟩,by simp[h2],λx hx=> ?_,h4,h5,h6,h7,λx hx y hy=> ?_⟩
    ·rcases Ae.1 hx with rfl|hx
     ·exact⟨hi,He⟩
     ·exact h3 x hx
    ·rcases Ae.1 hx with rfl|hx
     ·simp[Rec.log]at hy
     ·exact h8 x hx y hy
   |some gs=>
    simp only at ht;split at ht
    ·rename_i e he;split at ht
     ·cases ht
     ·rename_i AA;simp only[Bool.true_and,Bool.not_true,Bool.false_and,Bool.or_false,Bool.or_eq_true,Bf,not_or,Bool.not_eq_false]at AA;have C4:e.b8=none:=by cases hh:e.b8 with|none=>rfl|some x=>rw[hh]at AA;simp at AA
      split at ht
      ·cases ht
      ·rename_i k hk;simp only[Ad]at ht;subst ht;have E7:=AA.2;simp only[SU,Ab,Bj]at E7;obtain⟨⟨⟨⟨BM,A7⟩,Hk⟩,_⟩,_⟩:=E7;rw[<-hn]at BM A7 Hk;unfold Z5 at hd;obtain⟨hc,hd⟩:=nJ hd;simp only[C4]at hd;obtain⟨τ0,hτ0,Bl,Cp⟩:∃τ0:List AV,(ρ++τ0).length=(LR σ gs o e).nv/\(∀cl,e.call=some cl-> ∃r,τ0=[r]/\(Bt ρ gs->IM Rt cl.fn ((EL.of cl.args).den ρ) ρ r))/\k.den Rt R L js (ρ++τ0):=by
        cases Aw:e.call with
        |none=>rw[Aw]at hd;exact⟨[],by rw[nB];simp[Aw,C4,hn],by simp,by simpa using hd⟩
        |some cl=>rw[Aw]at hd;obtain⟨r,h1,h2⟩:=hd;exact⟨[r],by rw[nB];simp[Aw,hn],λcl' h=>by cases h;exact⟨r,rfl,h1⟩,h2⟩
       obtain⟨τ,xs,σ',lg',h1,h2,h3,h4,h5,h6,h7,h8⟩:=mI len (i+1) _ _ k (ρ++τ0) (by omega) hk Cp hτ0;have bH:ρ++τ0++τ=ρ++(τ0++τ):=List.append_assoc ..;rw[bH]at h3 h4 h5;refine⟨τ0++τ,⟨i,o,σ,some (gs,e)⟩::xs,σ',lg',⟨rfl,rfl,h1⟩,by simp[h2],λx hx=> ?_,h4,h5,h6,λy hy=>h7 y (by simp[hy]),λx hx y hy=> ?_⟩
       ·rcases Ae.1 hx with rfl|hx
        ·refine⟨hi,He,he,C4,AA.2,λhg q hq=>(Cn.iy (A7 q hq)).2 (hc ((LP BM).1 hg) q hq),λcl Aw=> ?_⟩;obtain⟨r,hr,h2⟩:=Bl cl Aw;rw[Aw]at Hk;simp only[Ab]at Hk;subst hr;exact⟨r,by simp only;rw[<-hn];simp,λhg=>(w7 Hk.1 (EL.jh (by simpa using Hk.2))).2 (h2 ((LP BM).1 hg))⟩
        ·exact h3 x hx
       ·rcases Ae.1 hx with rfl|hx
        ·simp only[Rec.log,Option.map_some,Ad]at hy;subst hy;exact h7 _ (by simp)
        ·exact h8 x hx y hy
    ·cases ht
def Gq(n:Nat)(sl0:Nat->SV)(xs:List Rec)(S:Nat->Bool):Nat->SV:=xs.foldl (λsl x=>if S x.i then CO n sl x.o.dst x.val else sl) sl0
def Hi(hp0:Nat->Option Af)(xs:List Rec)(S:Nat->Bool):Nat->Option Af:=xs.foldl (λhp x=>if S x.i then Bi hp x.bj else hp) hp0
section
variable {n:Nat} {S S':Nat->Bool} {d t:Nat}
theorem Vq:∀(xs:List Rec) {sl sl':Nat->SV},sl d=sl' d->(∀x∈xs,x.o.dst=some d->S x.i=S' x.i)->Gq n sl xs S d=Gq n sl' xs S' d
 | [],_,_,h,_=>h
 |x::xs,sl,sl',h,hs=>by
  refine Vq xs (sl:=if S x.i then CO n sl x.o.dst x.val else sl) (sl':=if S' x.i then CO n sl' x.o.dst x.val else sl') ?_ λy hy=>hs y (by simp[hy]);by_cases hd:x.o.dst=some d
  ·rw[<-hs x (by simp) hd];split
   ·simp only[CO,hd,true_and];rw[h]
   ·exact h
  ·have hu:∀sl:Nat->SV,CO n sl x.o.dst x.val d=sl d:=λsl=>by simp[CO,hd]
   have h1:(if S x.i then CO n sl x.o.dst x.val else sl) d=sl d:=by split;exact hu sl;rfl
   have h2:(if S' x.i then CO n sl' x.o.dst x.val else sl') d=sl' d:=by split;exact hu sl';rfl
   rw[h1,h2,h]
theorem nN(xs:List Rec){sl:Nat->SV}(hs:∀x∈xs,x.o.dst=some d->S x.i=false):Gq n sl xs S d=sl d:=by
 have h1:=Vq (n:=n) (S:=S) (S':=λ_=>false) xs (sl:=sl) (sl':=sl) (d:=d) rfl hs;rw[h1];clear h1 hs
 induction xs generalizing sl with
 |nil=>rfl
 |cons x xs ih=>exact ih
theorem eT(hd:n<=d):∀(xs:List Rec) {sl:Nat->SV},Gq n sl xs S d=sl d
 | [],_=>rfl
 |x::xs,sl=>by
  have:=eT hd xs (sl:=if S x.i then CO n sl x.o.dst x.val else sl);refine Eq.trans this ?_;split
  ·simp only[CO];rw[if_neg (by omega)]
  ·rfl
theorem rY{y:Rec}(hd:d<n)(hy:y.o.dst=some d)(hS:S y.i=true):∀(xs:List Rec) {sl:Nat->SV},y∈xs->(∀x∈xs,x≠y->x.o.dst≠some d)->Gq n sl xs S d=y.val
 | [],_,h,_=>by simp at h
 |x::xs,sl,h,hu=>by
  by_cases hm:y∈xs
  ·exact rY hd hy hS xs (sl:=if S x.i then CO n sl x.o.dst x.val else sl) hm λz hz=>hu z (by simp[hz])
  ·have hx:y=x:=by rcases Ae.1 h with h|h;exact h;exact absurd h hm
   subst hx;have:=nN (n:=n) (S:=S) (d:=d) xs (sl:=CO n sl y.o.dst y.val) (λz hz Qc=>absurd Qc (hu z (by simp[hz]) (λhh=>hm (hh▸hz))));show Gq n (if S y.i then CO n sl y.o.dst y.val else sl) xs S d=_;rw[if_pos hS,this];simp[CO,hy,hd]
theorem wO{hp hp':Nat->Option Af}{l:List (Nat × Af)}(h:hp t=hp' t):Bi hp l t=Bi hp' l t:=by
 induction l generalizing hp hp' with
 |nil=>exact h
 |cons p l ih=>
  refine ih ?_;show(if t=p.1 then some p.2 else hp t)=(if t=p.1 then some p.2 else hp' t)
  rw[h]
theorem zya{hp hp':Nat->Option Af}{l:List (Nat × Af)}(h:t∈l.map (·.1)):Bi hp l t=Bi hp' l t:=by
 induction l generalizing hp hp' with
 |nil=>simp at h
 |cons p l ih=>
  by_cases hm:t∈l.map (·.1)
  ·exact ih hm
  ·have ht:t=p.1:=by simp only[List.map_cons,Ae]at h;exact h.resolve_right hm
   refine wO (l:=l) ?_;show(if t=p.1 then some p.2 else hp t)=(if t=p.1 then some p.2 else hp' t)
   rw[if_pos ht,if_pos ht]
theorem nP{hp:Nat->Option Af}{l:List (Nat × Af)}(h:t∉l.map (·.1)):Bi hp l t=hp t:=
 LS λe he=>h (List.mem_map.2 ⟨_,he,rfl⟩)
theorem Vu:∀(xs:List Rec) {hp hp':Nat->Option Af},hp t=hp' t->(∀x∈xs,t∈x.bj.map (·.1)->S x.i=S' x.i)->Hi hp xs S t=Hi hp' xs S' t
 | [],_,_,h,_=>h
 |x::xs,hp,hp',h,hs=>by
  refine Vu xs (hp:=if S x.i then Bi hp x.bj else hp) (hp':=if S' x.i then Bi hp' x.bj else hp') ?_ λy hy=>hs y (by simp[hy]);by_cases hd:t∈x.bj.map (·.1)
  ·rw[<-hs x (by simp) hd];split
   ·exact wO h
   ·exact h
  ·have h1:(if S x.i then Bi hp x.bj else hp) t=hp t:=by split;exact nP hd;rfl
   have h2:(if S' x.i then Bi hp' x.bj else hp') t=hp' t:=by split;exact nP hd;rfl
   rw[h1,h2,h]
theorem nA(xs:List Rec){hp:Nat->Option Af}(hs:∀x∈xs,t∈x.bj.map (·.1)->S x.i=false):Hi hp xs S t=hp t:=by
 have h1:=Vu (S:=S) (S':=λ_=>false) xs (hp:=hp) (hp':=hp) (t:=t) rfl hs;rw[h1];clear h1 hs
 induction xs generalizing hp with
 |nil=>rfl
 |cons x xs ih=>exact ih
end
section
variable {n:Nat} {S:Nat->Bool} {d t:Nat}
theorem Rec.ju(x:Rec):BR x.next=CO x.σ.sl.length (BR x.σ) x.o.dst x.val:=by
 obtain⟨i,o,σ,r⟩:=x;cases r with
 |none=>exact mC
 |some ge=>exact z8
theorem Rec.jn(x:Rec):AJ x.next.hp=Bi (AJ x.σ.hp) x.bj:=by
 obtain⟨i,o,σ,r⟩:=x;cases r with
 |none=>simp only[Rec.next,Rec.bj,lN];rfl
 |some ge=>exact yV
theorem Rec.jc(x:Rec):x.next.sl.length=x.σ.sl.length:=by
 obtain⟨i,o,σ,r⟩:=x;cases r with
 |none=>exact lE
 |some ge=>exact yJ
theorem Ec.range:∀{xs:List Rec} {i:Nat} {σ σ':St},Ec i σ xs σ'-> ∀x∈xs,i<=x.i/\x.i<i+xs.length
 | [],_,_,_,_,x,hx=>by simp at hx
 |y::xs,i,σ,σ',h,x,hx=>by
  rcases Ae.1 hx with rfl|hx
  ·have:=h.1;simp only[A6];omega
  ·have:=Ec.range h.2.2 x hx;simp only[A6];omega
theorem Ec.ex:∀{xs:List Rec} {i:Nat} {σ σ':St},Ec i σ xs σ'-> ∀j,i<=j->j<i+xs.length-> ∃x∈xs,x.i=j
 | [],i,_,_,_,j,h1,h2=>by simp at h2;omega
 |y::xs,i,σ,σ',h,j,h1,h2=>by
  by_cases hj:j=i
  ·exact⟨y,by simp,by rw[hj];exact h.1⟩
  ·simp only[A6]at h2;obtain⟨x,hx,he⟩:=Ec.ex h.2.2 j (by omega) (by omega);exact⟨x,by simp[hx],he⟩
theorem Ec.inj:∀{xs:List Rec} {i:Nat} {σ σ':St},Ec i σ xs σ'-> ∀x∈xs,∀y∈xs,x.i=y.i->x=y
 | [],_,_,_,_,x,hx,_,_,_=>by simp at hx
 |z::xs,i,σ,σ',h,x,hx,y,hy,he=>by
  have hz:=h.1;rcases Ae.1 hx with h1|h1<;>rcases Ae.1 hy with h2|h2
  ·rw[h1,h2]
  ·subst h1;have:=(Ec.range h.2.2 y h2).1;omega
  ·subst h2;have:=(Ec.range h.2.2 x h1).1;omega
  ·exact Ec.inj h.2.2 x h1 y h2 he
theorem Ec.sl:∀{xs:List Rec} {i:Nat} {σ σ':St},Ec i σ xs σ'->σ.sl.length=n->(∀x∈xs,x.σ.sl.length=n/\ ∀d,BR x.σ d=Gq n (BR σ) xs (λk=>decide (k<x.i)) d)/\σ'.sl.length=n/\BR σ'=Gq n (BR σ) xs λ_=>true
 | [],i,σ,σ',h,hn=>by have h:σ=σ':=h;subst h;exact⟨by simp,hn,rfl⟩
 |y::xs,i,σ,σ',h,hn=>by
  obtain⟨h1,h2,h3⟩:=h;subst h2;obtain⟨q1,q2,q3⟩:=Ec.sl h3 (by rw[y.jc];exact hn);rw[y.ju,hn]at q1 q3;refine⟨λx hx=> ?_,q2,q3⟩;rcases Ae.1 hx with rfl|hx
  ·refine⟨hn,λd=>(nN _ λz hz _=> ?_).symm⟩;rcases Ae.1 hz with rfl|hz
   ·simp
   ·have:=(Ec.range h3 z hz).1;simp only[decide_eq_false_iff_not];omega
  ·refine⟨(q1 x hx).1,λd=> ?_⟩;rw[(q1 x hx).2 d];have:=(Ec.range h3 x hx).1;show _=Gq n (if decide (y.i<x.i)then CO n (BR y.σ) y.o.dst y.val else BR y.σ) xs (λk=>decide (k<x.i)) d;rw[if_pos (by simp only[AR];omega)]
theorem Ec.hp:∀{xs:List Rec} {i:Nat} {σ σ':St},Ec i σ xs σ'->(∀x∈xs,∀t,AJ x.σ.hp t=Hi (AJ σ.hp) xs (λk=>decide (k<x.i)) t)/\AJ σ'.hp=Hi (AJ σ.hp) xs λ_=>true
 | [],i,σ,σ',h=>by have h:σ=σ':=h;subst h;exact⟨by simp,rfl⟩
 |y::xs,i,σ,σ',h=>by
  obtain⟨h1,h2,h3⟩:=h;subst h2;obtain⟨q1,q3⟩:=Ec.hp h3;rw[y.jn]at q1 q3;refine⟨λx hx=> ?_,q3⟩;rcases Ae.1 hx with rfl|hx
  ·refine λd=>(nA _ λz hz _=> ?_).symm;rcases Ae.1 hz with rfl|hz
   ·simp
   ·have:=(Ec.range h3 z hz).1;simp only[decide_eq_false_iff_not];omega
  ·intro t;rw[q1 x hx t];have:=(Ec.range h3 x hx).1;show _=Hi (if decide (y.i<x.i)then Bi (AJ y.σ.hp) y.bj else AJ y.σ.hp) xs (λk=>decide (k<x.i)) t;rw[if_pos (by simp only[AR];omega)]
theorem sM{y:Rec}{dH:Nat->Option Af}(hS:S y.i=true)(ht:t∈y.bj.map (·.1)):∀{xs:List Rec} {i:Nat} {σ σ':St} {hp0:Nat->Option Af},Ec i σ xs σ'->y∈xs->(∀x∈xs,x.i≠y.i->t∈x.bj.map (·.1)->S x.i=decide (x.i<y.i))->Hi hp0 xs S t=Bi dH y.bj t
 | [],_,_,_,_,_,h,_=>by simp at h
 |x::xs,i,σ,σ',hp0,hc,hm,hs=>by
  by_cases hx:y=x
  ·subst hx;have:=nA (S:=S) (t:=t) xs (hp:=Bi hp0 y.bj) (λz hz Qc=>by
    have AG:=(Ec.range hc.2.2 z hz).1;have h1:=hc.1;rw[hs z (by simp[hz]) (by omega) Qc];simp only[decide_eq_false_iff_not];omega)
   show Hi (if S y.i then Bi hp0 y.bj else hp0) xs S t=_;rw[if_pos hS,this];exact zya ht
  ·have CW:y∈xs:=by rcases Ae.1 hm with h|h;exact absurd h hx;exact h
   exact sM hS ht (hp0:=if S x.i then Bi hp0 x.bj else hp0) hc.2.2 CW λz hz=>hs z (by simp[hz])
end
theorem xW{α:Type}{p p':α->Bool}:∀(l:List α),(∀k∈l,p' k=true->p k=true)->(∃j∈l,p j=true/\p' j=false)->(l.filter p').length<(l.filter p).length
 | [],_,h=>by obtain⟨j,hj,_⟩:=h;simp at hj
 |x::l,hs,h=>by
  have hle:(l.filter p').length<=(l.filter p).length:=by
   have:∀(l:List α),(∀k∈l,p' k=true->p k=true)->(l.filter p').length<=(l.filter p).length:=by
    intro l
    induction l with
    |nil=>intro _;simp
    |cons y l ih=>
     intro h;have:=ih λk hk=>h k (by simp[hk]);have hy:=h y (by simp);cases h1:p' y with
     |false=>
      cases h2:p y with
      |false=>simpa[h1,h2]using this
      |true=>simp only[List.filter_cons,h1,h2,AW,if_false,if_true,A6];omega
     |true=>simpa[h1,hy h1]using this
   exact this l λk hk=>hs k (by simp[hk])
  obtain⟨j,hj,h1,h2⟩:=h;rcases Ae.1 hj with rfl|hj
  ·simp only[List.filter_cons,h1,h2,AW,if_false,if_true,A6];omega
  ·have:=xW l (λk hk=>hs k (by simp[hk])) ⟨j,hj,h1,h2⟩;have hx:=hs x (by simp);cases h3:p' x with
   |false=>
    cases h4:p x with
    |false=>simpa[h3,h4]using this
    |true=>simp only[List.filter_cons,h3,h4,AW,if_false,if_true,A6];omega
   |true=>simpa[h3,hx h3]using this
section
variable {ops:Array Oper} {listed:Array Bool}
theorem zAl(hb:∀j o,ops[j]?=some o-> ∀e∈o.after.toList,Region.binds .any e=true->e.on<j)(By:listed.size=ops.size)(hr:Region.ready .any ops listed=[]):∀k,k<ops.size->listed.getD k true=true:=by
 intro k
 induction k using Nat.strongRecOn with
 |_ k ih=>
  intro hk;cases hs:listed.getD k true with
  |true=>rfl
  |false=>
   have:k∈Region.ready .any ops listed:=mem_ready.2 ⟨hs,ops[k],by simp[hk],λe he La=>by
    have AG:=hb k ops[k] (by simp[hk]) e (by simpa using he) La;have:=ih e.on AG (by omega);have h2:e.on<listed.size:=by omega
    simp only[Array.getD_eq_getD_getElem?,Array.getElem?_eq_getElem h2,Df]at this ⊢;exact this⟩
   rw[hr]at this;cases this
theorem zCS(By:listed.size=ops.size){j:Nat}(hj:j<ops.size)(k:Nat):(listed.setIfInBounds j true).getD k true=(decide (k=j)||listed.getD k true):=by
 by_cases h:j=k
 ·subst h;simp[Array.getD_eq_getD_getElem?,show j<listed.size by omega]
 ·rw[getD_set_ne true h];simp[Ne.symm h]
variable {P:Program} {sg:BZ} {Rt:Nat->List AV->AV->Prop}
theorem zyY(AT:OJ P sg Rt){F:Fix}{σ σ':St}{xs:List Rec}{ρ:List AV}{lg:List Log}{n:Nat}{Q:Exit->Act->World->Prop}(hc:Ec 0 σ xs σ')(hlen:xs.length=ops.size)(AZ:∀x∈xs,sY P sg Rt ops σ.nx ρ x)(WH:aN ops lg=true)(TE:∀x∈xs,∀y,x.log=some y->y∈lg)(hn:σ.sl.length=n)
  (hQ:∀(c:Cx) (a:Act),c.ρ=ρ->c.w0=F.w0->c.A=F.A->c.Mu=F.Mu->(∀t,c.U t->t<σ.nx+BT*ops.size)->Rel c n (BR σ') (AJ σ'.hp) a->Q .normal a c.w):
  ∀(fuel:Nat) (listed:Array Bool) (a:Act) (c:Cx),listed.size=ops.size->Wf ops (λk=>listed.getD k true)->c.ρ=ρ->c.w0=F.w0->c.A=F.A->c.Mu=F.Mu->
   (∀t,c.U t->t<σ.nx\/ ∃k,k<ops.size/\listed.getD k true=true/\σ.nx+BT*k<=t/\t<σ.nx+BT*k+BT)->Rel c n (Gq n (BR σ) xs λk=>listed.getD k true) (Hi (AJ σ.hp) xs λk=>listed.getD k true) a->
   ((List.range ops.size).filter λk=> !listed.getD k true).length<=fuel->wpAny P .any ops Q fuel listed a c.w:=by
 simp only[aN,Ab,Bj,Bool.or_eq_true,AK,Bf,AR]at WH;obtain⟨⟨d1,d2⟩,d3⟩:=WH;have TJ:∀j o,ops[j]?=some o->(o,j)∈ops.toList.zipIdx:=λj o h=>List.mk_mem_zipIdx_iff_getElem?.2 (by simpa using h);have hb:∀j o,ops[j]?=some o-> ∀e∈o.after.toList,Region.binds .any e=true->e.on<j:=λj o h e he La=>by
  rcases d2 (o,j) (TJ j o h) e he with h|h
  ·rw[La]at h;cases h
  ·exact h
 obtain⟨c1,c2,c3⟩:=hc.sl hn;obtain⟨c4,c5⟩:=hc.hp;have Eh:∀(listed:Array Bool) (a:Act) (c:Cx),listed.size=ops.size->c.ρ=ρ->c.w0=F.w0->c.A=F.A->c.Mu=F.Mu->
   (∀t,c.U t->t<σ.nx\/ ∃k,k<ops.size/\listed.getD k true=true/\σ.nx+BT*k<=t/\t<σ.nx+BT*k+BT)->Rel c n (Gq n (BR σ) xs λk=>listed.getD k true) (Hi (AJ σ.hp) xs λk=>listed.getD k true) a->
   (∀k,k<ops.size->listed.getD k true=true)->Q .normal a c.w:=by
  intro listed a c By h1 h2 h3 h4 h5 h6 BV;refine hQ c a h1 h2 h3 h4 (λt ht=> ?_) ?_
  ·rcases h5 t ht with h|⟨k,hk,_,_,h⟩
   ·simp only[BT]at*;omega
   ·simp only[BT]at*;omega
  ·have e1:(Gq n (BR σ) xs λk=>listed.getD k true)=BR σ':=by
    rw[c3];funext d;exact Vq xs rfl λx hx _=>by have:=(hc.range x hx).2;exact BV x.i (by omega)
   have e2:(Hi (AJ σ.hp) xs λk=>listed.getD k true)=AJ σ'.hp:=by rw[c5];funext d;exact Vu xs rfl λx hx _=>by have:=(hc.range x hx).2;exact BV x.i (by omega)
   rw[e1,e2]at h6;exact h6
 intro fuel
 induction fuel with
 |zero=>
  intro listed a c By Aw h1 h2 h3 h4 h5 h6 Tk;have BV:∀k,k<ops.size->listed.getD k true=true:=by intro k hk;have:=List.length_eq_zero_iff.1 (Nat.le_zero.1 Tk);have:=List.filter_eq_nil_iff.1 this k (by simpa using hk);simpa using this
  refine⟨?_,Eh listed a c By h1 h2 h3 h4 h5 h6 BV⟩;refine List.eq_nil_iff_forall_not_mem.2 λj hj=> ?_;obtain⟨q1,o,q2,_⟩:=mem_ready.1 hj;rw[BV j (Array.getElem?_eq_some_iff.1 q2).1]at q1;cases q1
 |succ fuel ih=>
  intro listed a c By Aw h1 h2 h3 h4 h5 h6 Tk;refine⟨λhr=>Eh listed a c By h1 h2 h3 h4 h5 h6 (zAl hb By hr),λj hj=> ?_⟩;obtain⟨q1,o,q2,q3⟩:=mem_ready.1 hj;have cN:j<ops.size:=(Array.getElem?_eq_some_iff.1 q2).1;have Mo:∀e∈o.after.toList,Region.binds .any e=true->listed.getD e.on true=true:=λe he La=>by
   have h9:=q3 e (by simpa using he) La;have AG:=hb j o q2 e he La;have h8:e.on<listed.size:=by omega
   simp only[Array.getD_eq_getD_getElem?,Array.getElem?_eq_getElem h8,Df]at h9 ⊢;exact h9
  obtain⟨y,hy,GU⟩:=hc.ex j (by omega) (by omega);have OH:y.o=o:=by have:=(AZ y hy).1;rw[GU,q2]at this;exact(Option.some.inj this).symm
  have WW:∀x∈xs,x.i<ops.size:=λx hx=>by have:=(hc.range x hx).2;omega
  have rA:∀x∈xs,ops[x.i]?=some x.o:=λx hx=>(AZ x hx).1;have agree:∀x∈xs,x.i≠j->JZ (KC ops.toList []) x.i j=true->listed.getD x.i true=decide (x.i<j):=λx hx BF ho=>zzY (S:=λk=>listed.getD k true) Aw q2 (WW x hx) q1 Mo BF ho;have MG:∀x∈xs,x.i=j->listed.getD x.i true=decide (x.i<j):=λx hx he=>by rw[he,q1];simp
  have HQ:∀d,d∈aQ ops o->BR y.σ d=Gq n (BR σ) xs (λk=>listed.getD k true) d:=by
   intro d hd;rw[(c1 y hy).2 d,GU];refine Vq xs rfl λx hx T8=> ?_;by_cases he:x.i=j
   ·exact(MG x hx he).symm
   ·rcases d3 (o,j) (TJ j o q2) (x.o,x.i) (TJ _ _ (rA x hx))with h|h
    ·exact absurd h he
    ·simp only[T8,Ab,Bool.or_eq_true,Bf]at h;rcases h.2 with h|h
     ·rw[List.contains_iff_mem.2 hd]at h;cases h
     ·exact(agree x hx he h).symm
  have hW:∀x∈xs,∀t,t∈x.bj.map (·.1)-> ∀ly,y.log=some ly->(t∈ly.R\/t∈ly.W)->listed.getD x.i true=decide (x.i<j):=by
   intro x hx t ht ly TF hm;by_cases he:x.i=j
   ·exact MG x hx he
   ·cases eG:x.r with
    |none=>simp[Rec.bj,eG]at ht
    |some ge=>
     obtain⟨gs,e⟩:=ge;have hlx:x.log=some ⟨x.i,VR x.σ gs x.o,e.bj.map (·.1)⟩:=by simp[Rec.log,eG]
     have cT:ly.i=j:=by unfold Rec.log at TF;obtain⟨ge',_,rfl⟩:=Ar.1 TF;exact GU
     have h9:=d1 _ (TE x hx _ hlx) _ (TE y hy _ TF);simp only[cT]at h9;rcases h9 with(h|h)|h
     ·exact absurd h he
     ·exfalso;have:fG (e.bj.map (·.1)) (ly.R++ly.W)=true:=by
       simp only[fG,List.any_eq_true];exact⟨t,by simpa[Rec.bj,eG]using ht,List.contains_iff_mem.2 (by simpa using hm)⟩
      rw[this]at h;cases h
     ·exact agree x hx he h
  have CF:∀k,(listed.setIfInBounds j true).getD k true=(decide (k=j)||listed.getD k true):=zCS By cN;have dV:Gq n (BR σ) xs (λk=>(listed.setIfInBounds j true).getD k true)=CO n (Gq n (BR σ) xs λk=>listed.getD k true) o.dst y.val:=by
   funext d;unfold CO;split
   ·rename_i hd;refine rY hd.2 (by rw[OH];exact hd.1) (by rw[CF,GU];simp) xs hy λx hx BF T8=> ?_;have he:x.i≠j:=λh=>BF (hc.inj x hx y hy (by rw[h,GU]));rcases d3 (o,j) (TJ j o q2) (x.o,x.i) (TJ _ _ (rA x hx))with h|h
    ·exact he h
    ·simp only[T8,Ab,bne_iff_ne,ne_eq]at h;exact h.1 hd.1
   ·rename_i hd;by_cases N7:d<n
    ·refine Vq xs rfl λx hx T8=> ?_;have he:x.i≠j:=λh=>by
      have:x=y:=hc.inj x hx y hy (by rw[h,GU]);subst this;exact hd ⟨by rw[<-OH];exact T8,N7⟩
     rw[CF];simp[he]
    ·rw[eT (by omega),eT (by omega)]
  have cG:Hi (AJ σ.hp) xs (λk=>(listed.setIfInBounds j true).getD k true)=Bi (Hi (AJ σ.hp) xs λk=>listed.getD k true) y.bj:=by
   funext t;by_cases ht:t∈y.bj.map (·.1)
   ·refine sM (by rw[CF,GU];simp) ht hc hy λx hx BF eH=> ?_;rw[GU]at BF ⊢;rw[CF];simp only[BF,decide_false,Bool.false_or];cases JX:y.r with
    |none=>simp[Rec.bj,JX]at ht
    |some ge=>exact hW x hx t eH _ (by simp only[Rec.log,JX,Option.map_some];rfl) (.inr (by simpa[Rec.bj,JX]using ht))
   ·rw[nP ht];refine Vu xs rfl λx hx eH=> ?_;have he:x.i≠j:=λh=>by
     have:x=y:=hc.inj x hx y hy (by rw[h,GU]);subst this;exact ht eH
    rw[CF];simp[he]
  have Tl:((List.range ops.size).filter λk=> !(listed.setIfInBounds j true).getD k true).length<=fuel:=by have:=xW (p:=λk=> !listed.getD k true) (p':=λk=> !(listed.setIfInBounds j true).getD k true) (List.range ops.size) (λk _ hk=>by rw[CF]at hk;simp at hk ⊢;exact hk.2) ⟨j,by simpa using cN,by simp[q1],by rw[CF];simp⟩;omega
  have bN:Wf ops (λk=>(listed.setIfInBounds j true).getD k true):=by
   intro k ok hk cO e he La;simp only[CF,Bool.or_eq_true,AR]at hk ⊢;rcases hk with rfl|hk
   ·rw[q2]at cO;cases cO;exact .inr (Mo e he La)
   ·exact .inr (Aw k ok hk cO e he La)
  have Mr:∀(a':Act) (c':Cx),c'.ρ=ρ->c'.w0=F.w0->c'.A=F.A->c'.Mu=F.Mu->(∀t,c'.U t->c.U t\/(σ.nx+BT*j<=t/\t<σ.nx+BT*j+BT))->Rel c' n (CO n (Gq n (BR σ) xs λk=>listed.getD k true) o.dst y.val) (Bi (Hi (AJ σ.hp) xs λk=>listed.getD k true) y.bj) a'->
    wpAny P .any ops Q fuel (listed.setIfInBounds j true) a' c'.w:=by
   intro a' c' g1 g2 g3 g4 g5 g6;refine ih _ a' c' (by simpa using By) bN g1 g2 g3 g4 (λt ht=> ?_) (by rw[dV,cG];exact g6) Tl;rcases g5 t ht with h|h
   ·rcases h5 t h with h|⟨k,k1,k2,k3,k4⟩
    ·exact .inl h
    ·exact .inr ⟨k,k1,by rw[CF,k2];simp,k3,k4⟩
   ·exact .inr ⟨j,cN,by rw[CF];simp,h.1,h.2⟩
  have qE:∀j' want d,o.guard=some (j',want)->(ops[j']?).bind (·.dst)=some d->SR c [BR y.σ d] [a.tmps.getD d Go.undef]:=by intro j' want d hg hd;rw[HQ d (by simp only[aQ,hg,Ac];exact .inr (by simp[hd]))];exact h6.cy d
  obtain⟨_,Dm⟩:=AZ y hy;cases JX:y.r with
  |none=>
   rw[JX]at Dm;have EM:=mU (c:=c) (a:=a) Dm (λj' want d hg hd=>qE j' want d (by rw[<-OH];exact hg) hd);unfold wpOp;simp only[q2];rw[OH]at EM;rw[if_neg (by simp[show Region.wanted o (yielded ops a.tmps)=false from EM])];have hv:y.val=HD:=by simp[Rec.val,JX]
   have he:y.bj=[]:=by simp[Rec.bj,JX]
   refine Mr _ c h1 h2 h3 h4 (λt ht=> .inl ht) ?_;rw[hv,he];exact h6.put oQ o.dst
  |some ge=>
   obtain⟨gs,e⟩:=ge;rw[JX]at Dm;simp only at Dm;obtain⟨r1,r2,r3,r4,r5,r6⟩:=Dm;rw[OH,GU]at r2;rw[GU]at r4;rw[OH]at r1;have EM:=mU (c:=c) (a:=a) r1 qE;have hv:y.val=mkGd gs e.val:=by simp[Rec.val,JX]
   have he:y.bj=e.bj:=by simp[Rec.bj,JX]
   simp only[SU,Ab,Bj]at r4;obtain⟨_,dR⟩:=r4;have TF:y.log=some ⟨y.i,VR y.σ gs y.o,e.bj.map (·.1)⟩:=by simp[Rec.log,JX]
   refine rN (c:=c) AT q2 h6 EM (λt ht=>HQ t (by simp only[aQ,Ac,List.mem_filterMap];exact .inl ⟨.tmp t,by simpa using ht,rfl⟩)) (λt x hx=> ?_) (λt t1 t2 hU=> ?_) r2 (λBF t x hx=> ?_) (by rw[h1];exact r5) (by rw[h1];exact r6) (λx hx=>by rw[r3]at hx;cases hx) (λa' c' hs hr=> ?_)
   ·unfold Qp at hx;split at hx
    ·rename_i hR;rw[(c4 y hy) t]at hx;rw[<-hx];refine Vu xs rfl λz hz hzt=> ?_;rw[GU];exact hW z hz t hzt _ TF (.inl (by rw[OH];simpa using hR))
    ·cases hx
   ·rcases h5 t hU with h|⟨k,k1,k2,k3,k4⟩
    ·simp only[BT]at*;omega
    ·have:k≠j:=by rintro rfl;rw[q1]at k2;cases k2
     simp only[BT]at*;omega
   ·have:=dR _ hx;have To:gs.isEmpty=false:=by cases gs;exact absurd rfl BF;rfl
    simp only[To,Bool.false_or,Bool.false_and,Bool.or_false,Ab,AR]at this;refine⟨this.1.1,this.1.2,?_⟩;have h3:=this.2;split at h3
    ·exact⟨_,_,rfl,h3⟩
    ·cases h3
   ·exact Mr a' c' (hs.ρ.trans h1) (hs.w0.trans h2) (hs.A.trans h3) (hs.Mu.trans h4) hs.U (by rw[hv,he];exact hr)
end
theorem Rel.world{c:Cx}{n:Nat}{sl:Nat->SV}{hp:Nat->Option Af}{a:Act}(h:Rel c n sl hp a)(w:World)(h1:w.heap=c.w.heap)(h2:w.os=c.w.os)(h3:w.tape=c.w.tape)(h4:w.output=c.w.output):Rel {c with w:=w} n sl hp a:=by
 refine h.change (λ_=>False) ⟨rfl,rfl,λ_ _ hb=>hb,λb _ _=>by show w.heap[b]?=_;rw[h1],λ_ _ hk=>⟨hk,rfl⟩,λ_ _ _=>⟨AI _,λ_=>⟨rfl,λb _ _=>by show w.heap[b]?=_;rw[h1]⟩⟩⟩ ⟨h2.trans h.base.os,h3.trans h.base.tape,h4.trans h.base.output,by show _<=w.heap.size;rw[h1];exact h.base.size,h.base.pins,λb hb hm=>by show w.heap[b]?=_;rw[h1];exact h.base.block b hb hm,h.base.pk,h.base.lo⟩ (λt _=>⟨rfl,rfl,rfl,λg hk=>hk⟩) (λt _ b _=>by show w.heap[b]?=_;rw[h1]) (λt ht=>ht.elim)
  ⟨h.gw.nodup,h.gw.cm,h.gw.allow,λt b hb=>by show b<w.heap.size;rw[h1];exact h.gw.inb t b hb⟩ h.bp h.cr
theorem zA9{P:Program}{sg:BZ}{Rt:Nat->List AV->AV->Prop}(cX:P.follows .mixedOrders=true)(AT:OJ P sg Rt)(Ej:Ws P sg):zK P sg Rt:=by
 intro id ops draw σ t _ E7 hnx ht F R L js ρ a w hL hd hr Q hq;obtain⟨c,rfl,rfl,h1,h2,h3,h4,h5,h6⟩:=hr;rw[List.range_eq_range']at ht;cases draw with
 |false=>refine wp_region ?_;rw[List.range_eq_range'];exact rJ AT Ej (n:=σ.sl.length) ops.size 0 [] σ t (by omega) ht c a ⟨h1,h2,h3,h4,rfl,by simpa using h5,h6⟩ hd (λc' a' σ' hp hl hrel=>hq [] .normal σ' c'.ρ a' c'.w hp hl hrel)
 |true=>
  refine wp_region_any cX ?_;obtain⟨τ,xs,σ',lg',g1,g2,g3,g4,g5,g6,_,g8⟩:=mI ops.size 0 [] σ t c.ρ (by omega) ht hd h4;have bV:=h6.ext (λi=>by rw[h4];exact St.kj E7 i) (λt e he=>by rw[h4];exact St.jz E7 t e he) τ;have hw:=bV.world {c.w with drawn:=c.w.drawn+1} rfl rfl rfl rfl;have Hb:∀k,k<ops.size->(Array.replicate ops.size false).getD k true=false:=λk hk=>by simp[Array.getD_eq_getD_getElem?,hk]
  have WW:∀x∈xs,x.i<ops.size:=λx hx=>by have:=(g1.range x hx).2;omega
  have e1:(Gq σ.sl.length (BR σ) xs λk=>(Array.replicate ops.size false).getD k true)=BR σ:=by funext d;exact nN _ λx hx _=>Hb x.i (WW x hx)
  have e2:(Hi (AJ σ.hp) xs λk=>(Array.replicate ops.size false).getD k true)=AJ σ.hp:=by funext d;exact nA _ λx hx _=>Hb x.i (WW x hx)
  refine zyY (F:=F) (n:=σ.sl.length) (c:={c.ext τ with w:={c.w with drawn:=c.w.drawn+1}}) AT g1 g2 g3 g6 g8 rfl (λc' a' k1 k2 k3 k4 k5 k6=> ?_) ops.size (Array.replicate ops.size false) a (by simp) (λk o hk ho=> ?_) rfl h1 h2 h3 (λt ht=> .inl (h5 t ht)) (by rw[e1,e2];exact hw) (Nat.le_trans (List.length_filter_le _ _) (by simp))
  ·have hlen:=(g1.sl rfl).2.1;refine hq [] .normal _ c'.ρ a' c'.w (by rw[k1];exact List.prefix_append _ _) (by rw[k1];exact g5) ⟨c',rfl,rfl,k2,k3,k4,by rw[k1];exact g4,k5,?_⟩;show Rel c' σ'.sl.length _ _ a';rw[hlen];exact k6
  ·have:=Hb k (Array.getElem?_eq_some_iff.1 ho).1;have Cp:(Array.replicate ops.size false).getD k true=true:=hk;rw[this]at Cp;cases Cp
section
variable {P:Program} {c:Cx} {n nx:Nat} {sl sl0:Nat->SV} {hp hp0:Nat->Option Af} {a:Act} {o:Oper} {gs:Gd} {e:Bb} {sg:BZ} {nv:Nat}
theorem xT(h:Bz P c n nx sl hp a sl0 hp0 o gs){op:BinOp}{t el:TypeId}{x y:Operand}{ty:TypeId}(ho:o.op= .binOp op t x y ty)(hu:P.underlying t=some (.slice el)){p:Option Addr}{q r:Nat}(hv:a.eval x= .slice p q r)(r2:SR c [.cc] [a.eval y])
  (AT:op= .eql\/op= .neq) (Gk:c.ρ[nv]?=some (.bool (KT a o))) (x':Option E) {ck:List Cn}:AB P o c n nx sl hp gs a {ca:=ck,b8:=x',val:= .e (if op= .eql then .var nv else .not (.var nv))}:=by
 have hb:KT a o=p.isNone:=by simp only[KT,ho,hv];cases p<;>rfl
 rw[hb]at Gk;have ex:=λ(v u:Value) (hv:a.eval x=v) (hu:a.eval y=u)=>PF (P:=P) (o:=o) ho c.w hv hu;generalize De:a.eval y=v2 at r2;cases r2 with
 |cc _=>
  refine AB.pure h (v:= .bool (if op= .eql then p.isNone else !p.isNone)) ?_ ?_ rfl
  ·rw[ex _ _ hv De,eqGuard_at_slice];rcases AT with rfl|rfl
   ·simp[Go.Lib.run_eql_slice_nil c.w t el p q r 0 0 hu]
   ·simp[binOp,Op.equal,Op.maxDepth,Go.Lib.run_equalIn_slice_nil c.w 9999 t el p q r 0 0 hu]
  ·rcases AT with rfl|rfl
   ·refine .e (f:=[]) ?_ (by simp) .nil;simp only[if_true,E.den,Gk,Df];exact .bool .nil
   ·refine .e (f:=[]) ?_ (by simp) .nil;simp only[reduceCtorEq,if_false,E.den,Gk,Df,AV.ej];exact .bool .nil
end
section
variable {P:Program} {c:Cx} {n nx:Nat} {sl sl0:Nat->SV} {hp hp0:Nat->Option Af} {a:Act} {o:Oper} {gs:Gd} {e:Bb} {sg:BZ} {nv:Nat}
theorem VG{hp:Nat->Option Af}{gs:Gd}{m:Nat}{cs:BP}{x:E}(h:BB hp gs m (.agg cs)=some x):∃k l,m=k+1/\CD hp gs k cs.toList=some l/\x= .mk l:=by
 cases m with
 |zero=>simp[BB]at h
 |succ m=>simp only[BB,Ar]at h;obtain⟨l,h1,h2⟩:=h;exact⟨m,l,rfl,h1,h2.symm⟩
theorem KR{hp:Nat->Option Af}{gs:Gd}{m:Nat}{y x:E}(h:BB hp gs m (.e y)=some x):x=y:=by
 cases m with
 |zero=>simp[BB]at h
 |succ m=>simp[BB]at h;exact h.symm
theorem LM{hp:Nat->Option Af}{gs:Gd}{m:Nat}{x:E}(h:BB hp gs m .cc=some x):x= .lst .nil:=by
 cases m with
 |zero=>simp[BB]at h
 |succ m=>simp[BB]at h;exact h.symm
theorem KH{hp:Nat->Option Af}{gs:Gd}{m:Nat}{s:SV}{ss:List SV}{x:EL}(h:CD hp gs m (s::ss)=some x):∃k y l,m=k+1/\BB hp gs k s=some y/\CD hp gs k ss=some l/\x= .cons y l:=by
 cases m with
 |zero=>simp[CD]at h
 |succ m=>
  simp only[CD]at h;split at h
  ·rename_i y l h1 h2;simp at h;exact⟨m,y,l,rfl,h1,h2,h.symm⟩
  ·cases h
theorem RU{hp:Nat->Option Af}{gs:Gd}{ρ:List AV}{w:World}:∀(vs:List Value) (ss:List SV) (m:Nat) (x:EL),E9.go vs=some ss->CD hp gs m ss=some x->Rd w vs (x.den ρ) []
 | [],ss,m,x,h,hx=>by
  simp[E9.go]at h;subst h;cases m with
  |zero=>simp[CD]at hx
  |succ m=>simp[CD]at hx;subst hx;exact .nil
 |v::vs,ss,m,x,h,hx=>by
  unfold E9.go at h;split at h
  ·rename_i hh;cases hh
  ·rename_i k q l hh;cases hh;split at h
   ·rename_i hk;obtain⟨l',h1,rfl⟩:=Ar.1 h;obtain⟨j,y,l2,rfl,h2,h3,rfl⟩:=KH hx;rw[KR h2];exact .int hk (RU _ _ _ _ h1 h3)
   ·cases h
  ·rename_i q l hh;cases hh;obtain⟨l',h1,rfl⟩:=Ar.1 h;obtain⟨j,y,l2,rfl,h2,h3,rfl⟩:=KH hx;rw[KR h2];exact .bool (RU _ _ _ _ h1 h3)
  ·rename_i q l hh;cases hh;split at h
   ·rename_i hk;obtain⟨l',h1,rfl⟩:=Ar.1 h;obtain⟨j,y,l2,rfl,h2,h3,rfl⟩:=KH hx;rw[KR h2];exact .str hk (RU _ _ _ _ h1 h3)
   ·cases h
  ·rename_i l hh;cases hh;obtain⟨l',h1,rfl⟩:=Ar.1 h;obtain⟨j,y,l2,rfl,h2,h3,rfl⟩:=KH hx;rw[LM h2];exact .du (RU _ _ _ _ h1 h3)
  ·rename_i l hh;cases hh;obtain⟨l',h1,rfl⟩:=Ar.1 h;obtain⟨j,y,l2,rfl,h2,h3,rfl⟩:=KH hx;rw[KR h2];exact .dj (RU _ _ _ _ h1 h3)
  ·cases h
theorem lJ{hp:Nat->Option Af}{gs:Gd}{ρ:List AV}{w:World}{v:Value}{s:SV}{m:Nat}{x:E}(h:E9 v=some s)(hx:BB hp gs m s=some x):
  Rd w v.cells.toList (x.den ρ).cells []/\(∀u∈v.cells.toList,u.oneCell'=true):=by
 have one:∀{v:Value} {y:AV},Rd w [v] [y] []->(∀cs,y≠ .agg cs)->(∀cs,y≠ .tup cs)->Rd w v.cells.toList y.cells []/\(∀u∈v.cells.toList,u.oneCell'=true):=by
  intro v y hr h1 h2;have h3:=lD hr h1 h2;have h4:y.cells=[y]:=by cases y<;>first|rfl|exact absurd rfl (h1 _)
  rw[one_cells h3,h4];exact⟨by simpa using hr,by simpa using h3⟩
 unfold E9 at h;split at h
 ·split at h
  ·rename_i hk;simp at h;subst h;rw[KR hx];exact one (.int hk .nil) (by simp[E.den]) (by simp[E.den])
  ·cases h
 ·simp at h;subst h;rw[KR hx];exact one (.bool .nil) (by simp[E.den]) (by simp[E.den])
 ·split at h
  ·rename_i hk;simp at h;subst h;rw[KR hx];exact one (.str hk .nil) (by simp[E.den]) (by simp[E.den])
  ·cases h
 ·simp at h;subst h;rw[LM hx];exact one (.du .nil) (by simp[E.den]) (by simp[E.den])
 ·simp at h;subst h;rw[KR hx];exact one (.dj .nil) (by simp[E.den]) (by simp[E.den])
 ·rename_i cs;simp only[Option.bind_eq_bind,As,Ad]at h;obtain⟨l,hl,rfl⟩:=h;obtain⟨k,l',rfl,h1,rfl⟩:=VG hx;rw[BP.au]at h1;exact⟨RU _ _ _ _ hl h1,lH _ _ hl⟩
 ·cases h
theorem pB{w:World}{vs:List Value}{x:AV}(h:Rd w vs x.cells []):∀k,Rd w (List.replicate k vs).flatten (Aq (List.replicate k x)) []
 |0=> .nil
 |k+1=>by simp only[List.replicate_succ,List.flatten_cons,Aq,List.flatMap_cons];have:=h.app (pB h k);simpa[Aq]using this
theorem YP(z:Array Value)(hz:0<z.size):∀k,(madeCells z (k*z.size)).toList=(List.replicate k z.toList).flatten
 |0=>by simp[madeCells]
 |k+1=>by
  have ih:=YP z hz k;simp only[madeCells,Array.toList_map,Array.toList_range]at ih ⊢;rw[Nat.add_mul,Nat.one_mul,List.range_add,List.map_append,ih,List.replicate_succ',List.flatten_append];congr 1;simp only[List.map_map,List.flatten_cons,List.flatten_nil,AE];apply List.ext_getElem?;intro i;simp only[List.getElem?_map,List.getElem?_range'];by_cases hi:i<z.size
  ·simp only[List.getElem?_range hi,Option.map_some,Function.comp_apply];have:(k*z.size+i) % z.size=i:=by rw[Nat.add_comm,Nat.add_mul_mod_self_right,Nat.mod_eq_of_lt hi]
   simp[this,hi]
  ·rw[List.getElem?_eq_none (by simpa using hi),List.getElem?_eq_none (by simpa using hi)];rfl
theorem zyG(h:Bz P c n nx sl hp a sl0 hp0 o gs){t:TypeId}{l m:Operand}(ho:o.op= .makeSlice t l m){s1 s2:SV}(BM:BK sl0 gs l=some s1)(A7:BK sl0 gs m=some s2)(he:oO P hp0 gs nx t s1 s2=some e)(hc:∀q∈e.ca,Cn.den c.ρ q):AB P o c n nx sl hp gs a e:=by
 have Dy:l∈o.op.operands:=by simp[ho,Op.operands]
 have CJ:m∈o.op.operands:=by simp[ho,Op.operands]
 unfold oO at he;split at he
 ·rename_i el x y Bo;have Bo:=Jc Bo;split at he
  ·cases he
  rename_i hz;have hz:Hy P el=true:=by simpa using hz
  obtain⟨i,z,hi,FL,CX,By,Cm,E4⟩:=KG hz;have r1:=h.ct BM Dy;have r2:=h.ct A7 CJ;have ival:∀{x:E} {kk:IntKind} {k:Int} {v:Value},SR c [.e x] [v]->x.den c.ρ= .int kk k->v= .int kk k:=by
   intro x kk k v hr hx;cases hr with
   |e h1 _ _=>exact(F1 h1 hx).1
  split at he
  ·rename_i Hl;split at he
   ·rename_i s hs;have hs:E9 z=some s:=by simpa[hi,FL]using hs
    obtain⟨w,hw,rfl⟩:=Ar.1 he;obtain⟨kk,k,hk,h0,hb,hle⟩:Cn.den c.ρ (.mkroom x (P.bytesOf el)):=Ch hc;have FA:=ival r1 hk;have De:=ival r2 (by rw[<-E.ay c.ρ _ _ Hl];exact hk);obtain⟨c1,c2⟩:=lJ (w:=c.w) (ρ:=c.ρ) hs hw;obtain⟨kn,rfl⟩:=Int.eq_ofNat_of_zero_le h0;have DY:(i.bytes:Int)*(kn:Int)<=281474976710656:=by rw[E4]at hb;rw[Int.mul_comm];omega
    have hlen:=c1.len;have WI:=YP z.cells (by omega) kn;have AQ:=run_make (P:=P) c.w t el i z Bo hi FL kk kk kn kn (by omega) (Int.le_refl _) DY (by omega);have Fy:(madeCells z.cells (kn*z.cells.size)).size=kn*P.cellsOf el:=by rw[size_madeCells,CX,Cm]
    have BY:(madeCells z.cells (kn*z.cells.size)).toList.take ((List.replicate kn (w.den c.ρ)).length*P.cellsOf el)=(List.replicate kn z.cells.toList).flatten:=by rw[List.length_replicate,List.take_of_length_le (by rw[BC,Fy];exact AI _),WI]
    refine AB.newRow (xs:=List.replicate kn (w.den c.ρ)) (N:=[]) (C:=madeCells z.cells (kn*z.cells.size)) (cap:=kn) (wd:=c.w) (fz:=[]) (ts:=[]) h rfl ⟨rfl,rfl,rfl,rfl⟩ ?_ ?_ (by omega) (λu hu=> ?_) (by simp) (by simp only[maxLen];omega) Fy ?_ ?_ (by simp) (λ_=>rfl)
    ·simp only[execOp,ho,FA,De,Sem.run_bind,Int.ofNat_eq_natCast,List.length_replicate];rw[AQ,CX];rfl
    ·simp[E.den,hk,AV.rep]
    ·rw[List.eq_of_mem_replicate hu,<-hlen,BC,CX,Cm]
    ·rw[BY];intro u hu;obtain⟨q,hq,hu⟩:=List.mem_flatten.1 hu;rw[List.eq_of_mem_replicate hq]at hu;exact c2 u hu
    ·rw[BY];exact pB c1 kn
   ·cases he
  ·split at he
   ·rename_i k0 _;simp only[Ad]at he;subst he;obtain⟨kk,k,hk,h0,hb,hle⟩:Cn.den c.ρ (.mkroom y (P.bytesOf el)):=Ch hc;have FA:=ival r1 (show(E.int k0 0).den c.ρ= .int k0 0 from rfl);have De:=ival r2 hk;obtain⟨kn,rfl⟩:=Int.eq_ofNat_of_zero_le h0;have DY:(i.bytes:Int)*(kn:Int)<=281474976710656:=by
     rw[E4]at hb;rw[Int.mul_comm];omega
    have AQ:=run_make (P:=P) c.w t el i z Bo hi FL k0 kk 0 kn (by omega) (by omega) DY (by omega);refine AB.newRow (xs:=[]) (N:=[]) (C:=madeCells z.cells (kn*i.size)) (cap:=kn) (wd:=c.w) (fz:=[]) (ts:=[]) h rfl ⟨rfl,rfl,rfl,rfl⟩ ?_ rfl (by omega) (by simp) (by simp) (by simp only[maxLen];omega) (by rw[size_madeCells,Cm]) (by simp) (by simpa[Aq]using Rd.nil) (by simp) (λ_=>rfl);simp only[execOp,ho,FA,De,Sem.run_bind,Int.ofNat_eq_natCast];rw[AQ];rfl
   ·cases he
 ·cases he
end
section
variable {P:Program} {c:Cx} {n nx:Nat} {sl sl0:Nat->SV} {hp hp0:Nat->Option Af} {a:Act} {o:Oper} {gs:Gd} {e:Bb} {sg:BZ} {nv:Nat}
def Ss(v:Option Value)(k d:Nat):Prop:=(v=none/\k=d)\/ ∃kk,v=some (.int kk (k:Int))
theorem U8{w:World}{t el:TypeId}(hu:P.underlying t=some (.slice el))(Bm:Dt P el=true)(p:Option Addr)(m r l h:Nat){lo hi:Option Value}(B0:Ss lo l 0)(JC:Ss hi h m)(h1:l<=h)(h2:h<=m)(h3:m<=r):
  (Instr.sliceAt t (.slice p m r) lo hi none).run P w= .ok (sliced p l h r (P.cellsOf el)) w:=by
 have FQ:P.underlying t=some (.slice (P.elem t)):=by simp[Program.elem,hu]
 have he:P.elem t=el:=by simp[Program.elem,hu]
 have hs:(sizeOf (P.elem t)).run P w= .ok (P.cellsOf el) w:=by rw[he];exact Pe Bm w
 rw[run_sliceAt_slice w t _ _ _ _ FQ];rcases B0 with⟨rfl,rfl⟩|⟨kl,rfl⟩<;>rcases JC with⟨rfl,rfl⟩|⟨kh,rfl⟩
 ·rw[run_slice_all w t p h r FQ,hs];rfl
 ·rw[run_slice_h w t p m r FQ kh _ (by omega) (by omega),hs];rfl
 ·rw[run_slice_l w t p h r FQ kl _ (by omega) (by omega),hs];rfl
 ·rw[run_slice_lh w t p m r FQ kl kh _ _ (by omega) (by omega) (by omega),hs];rfl
theorem zws(s:ByteArray)(a b:Nat):(s.extract a b).data.toList=(s.data.toList.drop a).take (b-a):=by rw[ByteArray.data_extract,Array.toList_extract,List.extract_eq_take_drop]
theorem zqf{w:World}{t:TypeId}(hu:P.underlying t=some .string)(s:ByteArray)(l h:Nat){lo hi:Option Value}(B0:Ss lo l 0)(JC:Ss hi h s.size)(h1:l<=h)(h2:h<=s.size):
  (Instr.sliceAt t (.string s) lo hi none).run P w= .ok (.string (s.extract l h)) w:=by
 rw[run_sliceAt_string w t _ _ _ _ hu];rcases B0 with⟨rfl,rfl⟩|⟨kl,rfl⟩<;>rcases JC with⟨rfl,rfl⟩|⟨kh,rfl⟩
 ·rw[run_slice_string_all w t s hu]
 ·rw[run_slice_string_h w t s hu kh _ (by omega) (by omega)];rfl
 ·rw[run_slice_string_l w t s hu kl _ (by omega) (by omega)];rfl
 ·rw[run_slice_string w t s kl kh _ _ hu (by omega) (by omega) (by omega)];rfl
theorem mJ{sz:Nat}(ys:List AV)(hs:∀y∈ys,y.cells.length=sz)(l h:Nat)(hl:l<=h)(hh:h<=ys.length):((Aq ys).drop (l*sz)).take ((h-l)*sz)=Aq ((ys.take h).drop l):=by
 have e:ys=ys.take l++((ys.take h).drop l++ys.drop h):=by
  rw[<-List.append_assoc];have:ys.take l++(ys.take h).drop l=ys.take h:=by
   have h2:ys.take l=(ys.take h).take l:=by rw[List.take_take,Nat.min_eq_left hl]
   rw[h2,B8]
  rw[this,B8]
 have f1:Aq ys=Aq (ys.take l)++(Aq ((ys.take h).drop l)++Aq (ys.drop h)):=by
  conv=>lhs;rw[e]
  simp[Aq]
 have l1:(Aq (ys.take l)).length=l*sz:=by rw[KI _ (λy hy=>hs y (Br hy)),Au,Nat.min_eq_left (by omega)]
 have l2:(Aq ((ys.take h).drop l)).length=(h-l)*sz:=by rw[KI _ (λy hy=>hs y (Br (BO hy))),BD,Au,Nat.min_eq_left (by omega)]
 rw[f1,<-l1,List.drop_left,<-l2,List.take_left]
theorem zFd{w:World}{v:Value}{ys:List AV}{f:List Nat}{sz:Nat}(hr:Rd w [v] [.sl ys] f)(hs:∀y∈ys,y.cells.length=sz)(l h:Nat)(hl:l<=h)(hh:h<=ys.length):
  ∃p r g,v= .slice p ys.length r/\ys.length<=r/\Rd w [sliced p l h r sz] [.sl ((ys.take h).drop l)] g/\ ∀b∈g,b∈f:=by
 cases hr with
 |du _=>
  rename_i p r;have hh:h=0:=by simpa using hh
  subst hh;have hl:l=0:=by omega
  subst hl;exact⟨_,_,[],rfl,Nat.zero_le _,by simpa[sliced]using Rd.du .nil,by simp⟩
 |scons hb h1 h2 h3 h4 h5 h6 HH h7 h8=>
  rename_i b o m r cs C t fz sz' f1 f2;have hy:∃y,y∈ys:=by cases ys with|nil=>simp at h3;omega|cons y _=>exact⟨y,by simp⟩
  obtain⟨y0,HX⟩:=hy;have Gn:sz'=sz:=(h4 y0 HX).symm.trans (hs y0 HX);subst Gn;subst h3;refine⟨some ⟨b,o,none⟩,r,?_⟩;rcases Nat.eq_or_lt_of_le hl with he|AG
  ·subst he;refine⟨[],rfl,h2.2,?_,by simp⟩;have:(ys.take l).drop l=[]:=List.drop_eq_nil_of_le (by simp;omega);rw[this];simp only[sliced,Nat.sub_self];exact .du .nil
  ·have B5:=h7.len;obtain⟨g,hg,Da⟩:=h7.piece (l*sz') ((h-l)*sz');rw[mJ ys h4 l h hl hh]at Da;refine⟨b::(g++ []),rfl,h2.2,?_,λx hx=> ?_⟩
   ·have Di:sliced (some (⟨b,o,none⟩:Addr)) l h r sz'= .slice (some ⟨b,o+l*sz',none⟩) (h-l) (r-l):=by
     unfold sliced;split
     ·exfalso;omega
     ·simp[Addr.add_lit]
    rw[Di];refine Rd.scons (cs:=(cs.drop (l*sz')).take ((h-l)*sz')) hb (by omega) ⟨by omega,by omega⟩ (by simp;omega) (λy hy=>h4 y (Br (BO hy))) h5 (λj u hu=> ?_) (λu hu=>HH u (BO (Br hu))) Da .nil;rw[List.getElem?_take]at hu;split at hu
    ·rw[List.getElem?_drop]at hu;have:=h6 _ _ hu;rw[<-this];congr 1;omega
    ·cases hu
   ·simp only[AE,Ae]at hx;rcases hx with rfl|hx
    ·simp
    ·have:=hg x hx;simp[this]
theorem GY{f:Operand->Option SV}{x:Option Operand}{r:Option SV}(h:Ig f x=some r):(x=none/\r=none)\/ ∃y z,x=some y/\f y=some z/\r=some z:=by
 cases x with
 |none=>simp[Ig]at h;exact .inl ⟨rfl,h.symm⟩
 |some y=>obtain⟨z,hz,rfl⟩:=Ar.1 h;exact .inr ⟨y,z,rfl,hz,rfl⟩
theorem Zn{s:Option SV}{d l:E}(h:MZ s d=some l):(s=none/\l=d)\/s=some (.e l):=by
 unfold MZ at h;split at h
 ·simp at h;exact .inl ⟨rfl,h.symm⟩
 ·simp at h;subst h;exact .inr rfl
 ·cases h
theorem zw4(h:Bz P c n nx sl hp a sl0 hp0 o gs){t:TypeId}{x:Operand}{lo hi mx:Option Operand}(ho:o.op= .slice t x lo hi mx){s:SV}(hs:BK sl0 gs x=some s){l' h' m':Option SV}(BL:Ig (BK sl0 gs) lo=some l')(I1:Ig (BK sl0 gs) hi=some h')(CW:Ig (BK sl0 gs) mx=some m')(he:n8 P hp0 gs t s l' h' m'=some e)(hc:∀q∈e.ca,Cn.den c.ρ q):AB P o c n nx sl hp gs a e:=by
 have hm:x∈o.op.operands:=by simp[ho,Op.operands]
 have JJ:∀y,lo=some y->y∈o.op.operands:=λy hy=>by simp[ho,Op.operands,hy]
 have Iy:∀y,hi=some y->y∈o.op.operands:=λy hy=>by simp[ho,Op.operands,hy]
 have cW:∀y,mx=some y->y∈o.op.operands:=λy hy=>by simp[ho,Op.operands,hy]
 have hx:=h.ct hs hm;have ival:∀{x:E} {kk:IntKind} {k:Int} {v:Value},SR c [.e x] [v]->x.den c.ρ= .int kk k->v= .int kk k:=by
  intro x kk k v hr hx;cases hr with
  |e h1 _ _=>exact(F1 h1 hx).1
 unfold n8 at he;split at he
 ·cases he
 rename_i y hy;obtain⟨f,q1,q2⟩:=h.ji hs hm hy;have ex:(execOp a.eval o).run P c.w=((Instr.sliceAt t (a.eval x) (lo.map a.eval) (hi.map a.eval) (mx.map a.eval)).run P c.w).andThen λv w=> .ok (.value v) w:=by simp[execOp,ho]
 split at he
 ·split at he
  ·rename_i el _ _ hu;split at he
   ·rename_i Bm;simp only[Ad]at he;subst he;have hd:(y.den c.ρ).len≠ .undef:=Ch hc;cases BN:y.den c.ρ<;>simp only[BN,AV.len,ne_eq,not_true_eq_false]at hd;rename_i xs;have hl:(y.den c.ρ).len= .int .i64 (xs.length:Int):=by rw[BN];rfl
    obtain⟨p,q,r,hv⟩:∃p q r,a.eval x= .slice p q r:=by
     rcases Sc q1 hl with⟨p,q,hv,Cj⟩|⟨b,o',k,q,hv,Cj⟩
     ·exact⟨_,_,_,hv⟩
     ·exact⟨_,_,_,hv⟩
    rcases GY BL with⟨rfl,_⟩|⟨_,_,_,_,hh⟩
    ·rcases GY I1 with⟨_,hh⟩|⟨oh,sh,rfl,dU,hh⟩
     ·cases hh
     ·cases hh;rcases GY CW with⟨_,hh⟩|⟨om,sm,rfl,hsm,hh⟩
      ·cases hh
      ·cases hh;have v1:=(λ{kk:IntKind} (hr:SR c [.e (.int kk 0)] [a.eval oh])=>ival hr (show(E.int kk 0).den c.ρ= .int kk 0 from by simp only[E.den])) (h.ct dU (Iy _ rfl))
       have v2:=(λ{kk:IntKind} (hr:SR c [.e (.int kk 0)] [a.eval om])=>ival hr (show(E.int kk 0).den c.ρ= .int kk 0 from by simp only[E.den])) (h.ct hsm (cW _ rfl))
       have FQ:P.underlying t=some (.slice (P.elem t)):=by simp[Program.elem,hu]
       have Bo:P.elem t=el:=by simp[Program.elem,hu]
       refine AB.pure h (v:= .slice p 0 0) ?_ (.emp .nil) rfl;rw[ex,hv];simp only[Option.map_none,Option.map_some,v1,v2];rw[run_sliceAt_slice c.w t _ _ _ _ FQ,run_slice_hm c.w t p q r FQ _ _ 0 0 (by omega) (by omega) (by omega),Bo,Pe Bm];simp[sliced]
    ·cases hh
   ·cases he
  ·cases he
 ·have JL:mx=none:=by
   rcases GY CW with⟨hh,_⟩|⟨_,_,_,_,hh⟩
   ·exact hh
   ·cases hh
  subst JL;have blo:∀(l:E) (kk:IntKind) (k:Nat),MZ l' (.int .i64 0)=some l->l.den c.ρ= .int kk k->Ss (lo.map a.eval) k 0:=by
   intro l kk k hl hk;rcases GY BL with⟨rfl,rfl⟩|⟨ol,sl',rfl,Di,rfl⟩
   ·rcases Zn hl with⟨_,rfl⟩|hh
    ·simp only[E.den,AV.int.injEq]at hk;exact .inl ⟨rfl,by omega⟩
    ·cases hh
   ·rcases Zn hl with⟨hh,_⟩|hh
    ·cases hh
    ·cases hh;exact .inr ⟨kk,by rw[Option.map_some,ival (h.ct Di (JJ _ rfl)) hk]⟩
  have bhi:∀(d l:E) (kk:IntKind) (k m:Nat),MZ h' d=some l->l.den c.ρ= .int kk k->d.den c.ρ= .int .i64 (m:Int)->Ss (hi.map a.eval) k m:=by
   intro d l kk k m hl hk hd;rcases GY I1 with⟨rfl,rfl⟩|⟨ol,sl',rfl,Di,rfl⟩
   ·rcases Zn hl with⟨_,rfl⟩|hh
    ·rw[hd]at hk;simp only[AV.int.injEq]at hk;exact .inl ⟨rfl,by omega⟩
    ·cases hh
   ·rcases Zn hl with⟨hh,_⟩|hh
    ·cases hh
    ·cases hh;exact .inr ⟨kk,by rw[Option.map_some,ival (h.ct Di (Iy _ rfl)) hk]⟩
  split at he
  ·rename_i hu;split at he
   ·rename_i l hb q I2 JB;simp only[Ad]at he;subst he;obtain⟨ka,ai,kb,bi,bs,d1,d2,d3,d4,d5,d6⟩:Cn.den c.ρ (.winS y l hb):=Ch hc;obtain⟨an,rfl⟩:=Int.eq_ofNat_of_zero_le d4;obtain⟨bn,rfl⟩:=Int.eq_ofNat_of_zero_le (Int.le_trans d4 d5);obtain⟨ss,hv,rfl,hle⟩:=SH q1 d3;have By:ss.data.toList.length=ss.size:=by simp
    have AQ:=zqf (P:=P) (w:=c.w) hu ss an bn (blo l ka an I2 d1) (bhi (.slen y) hb kb bn ss.size JB d2 (by simp only[E.den,d3,AV.slen];simp)) (by omega) (by omega);refine AB.pure h (v:= .string (ss.extract an bn)) ?_ (.cx ?_) rfl
    ·rw[ex,hv,Option.map_none,AQ];rfl
    ·simp only[E.den,d1,d2,d3,AV.swin];have:(List.take (bn:Int).toNat ss.data.toList).drop (an:Int).toNat=(ss.extract an bn).data.toList:=by
      simp[zws,List.drop_take]
     rw[this];exact .str (by simp only[ByteArray.size_extract];omega) .nil
   ·cases he
  ·rename_i el hu;split at he
   ·cases he
   rename_i Bm;have Bm:Dt P el=true:=by simpa using Bm
   split at he
   ·rename_i l hb fz I2 JB HN;simp only[Ad]at he;subst he;have Bx:Cn.den c.ρ (.issl y (P.cellsOf el)):=Ch hc;obtain⟨ys,Dn,I7⟩:=Bx;obtain⟨ka,ai,kb,bi,m,d1,d2,d3,d4,d5,d6⟩:Cn.den c.ρ (.win y l hb):=hc _ (by simp);obtain⟨an,rfl⟩:=Int.eq_ofNat_of_zero_le d4;obtain⟨bn,rfl⟩:=Int.eq_ofNat_of_zero_le (Int.le_trans d4 d5);rw[Dn]at q1;have hm9:(m:Int)=ys.length:=by rw[Dn]at d3;simpa[AV.len]using d3.symm
    split at HN
    ·rename_i Iz;obtain⟨p,r,g,hv,hr,Da,hg⟩:=zFd q1 I7 an bn (by omega) (by omega);have AQ:=U8 (P:=P) (w:=c.w) hu Bm p ys.length r an bn (blo l ka an I2 d1) (bhi (.len y) hb kb bn ys.length JB d2 (by simp only[E.den,Dn,AV.len])) (by omega) (by omega) hr;intro next Q hk
     unfold Oper.wp;rw[ex,hv,Option.map_none,AQ];show Oper.upon P o a next Q (.ok (.value _) c.w)
     rw[Oper.upon_value];have hrel:=h.rel.freeze h.hp h.gs HN;have AZ:∀b∈g,(c.br (fz.map (·.1))).ok b:=λb hb=>Vm h.rel h.eh h.gs HN Iz (q2 b (hg b hb));refine hk _ (c.br (fz.map (·.1))) ⟨rfl,rfl,rfl,rfl,λt ht=> .inl ht⟩ (hrel.put (SR.mkGd (.e (f:=g) ?_ AZ .nil) gs h.gs) o.dst);show Rd c.w _ [(E.win y l hb).den c.ρ] g;simp only[E.den,d1,d2,Dn,AV.win,Int.ofNat_eq_natCast,Bw];exact Da
    ·cases HN
   ·cases he
  ·cases he
end
section
variable {P:Program} {c:Cx} {n nx:Nat} {sl sl0:Nat->SV} {hp hp0:Nat->Option Af} {a:Act} {o:Oper} {gs:Gd} {e:Bb} {sg:BZ} {nv:Nat}
theorem SP{w:World}{v:Value}{x:AV}{f:List Nat}{k:SK}(h:Rd w [v] [x] f)(hk:x.sk=some k):(∃kk n,k= .int kk/\v= .int kk n/\x= .int kk n)\/(∃b,k= .bool/\v= .bool b/\x= .bool b)\/ ∃s:ByteArray,k= .str/\v= .string s/\x= .str s.data.toList:=by
 cases h<;>simp[AV.sk]at hk
 ·exact .inl ⟨_,_,hk.symm,rfl,rfl⟩
 ·exact .inr (.inl ⟨_,hk.symm,rfl,rfl⟩)
 ·exact .inr (.inr ⟨_,hk.symm,rfl,rfl⟩)
theorem lL{t:TypeId}(h:(∃k,P.underlying t=some (.int k))\/P.underlying t=some .bool\/P.underlying t=some .string):Ao P t=false:=by rcases h with⟨k,h⟩|h|h<;>simp[Ao,h]
theorem vD{w:World}(d:Nat):∀(fs:List Field) (j:Nat) (ks:List SK) {as_ bs:List Value} {cs ds:List AV} {f g:List Nat},SC P j fs=some ks->Rd w as_ cs f->Rd w bs ds g->(cs.drop j).map AV.sk=ks.map some->(ds.drop j).map AV.sk=ks.map some->
  (Op.eqFields (d+1) as_.toArray bs.toArray fs).run P w= .ok (AV.leq (cs.drop j) (ds.drop j)) w
 | [],j,ks,as_,bs,cs,ds,f,g,hk,h1,h2,k1,k2=>by
  simp[SC]at hk;subst hk;have e1:cs.drop j=[]:=by simpa using k1
  have e2:ds.drop j=[]:=by simpa using k2
  rw[e1,e2];simp[Op.eqFields,AV.leq]
 |fd::fs,j,ks,as_,bs,cs,ds,f,g,hk,h1,h2,k1,k2=>by
  unfold SC at hk;split at hk
  ·cases hk
  rename_i AA;simp only[not_or,Bf,Decidable.not_not,ne_eq,Bool.not_eq_false]at AA;obtain⟨hn,ho,Bm,Ch⟩:=AA;have main:∀(k:SK) (l:List SK),ks=k::l->SC P (j+1) fs=some l->(∀a b (x y:AV) f g,Rd w [a] [x] f->Rd w [b] [y] g->x.sk=some k->y.sk=some k->(Op.equalIn (d+1) fd.type a b).run P w= .ok (x.seq y) w)->Ao P fd.type=false->
    (Op.eqFields (d+1) as_.toArray bs.toArray (fd::fs)).run P w= .ok (AV.leq (cs.drop j) (ds.drop j)) w:=by
   rintro k l rfl hl heq Io;have JF:j<cs.length:=by
    rcases Nat.lt_or_ge j cs.length with hh|hh
    ·exact hh
    ·rw[List.drop_eq_nil_of_le hh]at k1;simp at k1
   have cL:j<ds.length:=by
    rcases Nat.lt_or_ge j ds.length with hh|hh
    ·exact hh
    ·rw[List.drop_eq_nil_of_le hh]at k2;simp at k2
   rw[Bv JF]at k1;rw[Bv cL]at k2;simp only[List.map_cons,List.cons.injEq]at k1 k2;have l1:=h1.len;have l2:=h2.len;obtain⟨v,f1,hv,_,r1⟩:=h1.at (show cs[j]?=some cs[j] by simp[JF])
   obtain⟨u,g1,hu,_,r2⟩:=h2.at (show ds[j]?=some ds[j] by simp[cL])
   have p1:=VO Bm as_ fd.offset (by omega) (.inr Ch) w;have p2:=VO Bm bs fd.offset (by omega) (.inr Ch) w;have e1:((as_.drop fd.offset).take (P.cellsOf fd.type)).headD Go.undef=v:=by rw[Ch,ho,Bv (by omega),List.take_succ_cons];simpa[show j<as_.length by omega]using hv
   have e2:((bs.drop fd.offset).take (P.cellsOf fd.type)).headD Go.undef=u:=by rw[Ch,ho,Bv (by omega),List.take_succ_cons];simpa[show j<bs.length by omega]using hu
   rw[Io,e1]at p1;rw[Io,e2]at p2;have ih:=vD (w:=w) d fs (j+1) l hl h1 h2 k1.2 k2.2;rw[Bv JF,Bv cL];simp only[Op.eqFields,ne_eq,hn,not_false_eq_true,if_true,Sem.run_bind,p1,p2,AW,if_false,Result.andThen_ok,heq v u _ _ _ _ r1 r2 k1.1 k2.1];cases hb:(cs[j]).seq ds[j]with
   |true=>simpa[AV.leq,hb]using ih
   |false=>simp[AV.leq,hb]
  split at hk
  ·rename_i k l hu hl;simp at hk;refine main _ _ hk.symm hl (λa b x y f g ra rb hx hy=> ?_) (lL (.inl ⟨_,hu⟩));rcases SP ra hx with⟨kk,m,h5,rfl,rfl⟩|⟨_,h5,_⟩|⟨_,h5,_⟩<;>cases h5
   rcases SP rb hy with⟨kk,m2,h5,rfl,rfl⟩|⟨_,h5,_⟩|⟨_,h5,_⟩<;>cases h5
   exact run_equalIn_int w d fd.type _ _ _ _ hu
  ·rename_i l hu hl;simp at hk;refine main _ _ hk.symm hl (λa b x y f g ra rb hx hy=> ?_) (lL (.inr (.inl hu)));rcases SP ra hx with⟨kk,m,h5,_⟩|⟨_,_,rfl,rfl⟩|⟨_,h5,_⟩<;>try cases h5
   rcases SP rb hy with⟨kk,m,h5,_⟩|⟨_,_,rfl,rfl⟩|⟨_,h5,_⟩<;>try cases h5
   exact lV d _ _ hu w
  ·rename_i l hu hl;simp at hk;refine main _ _ hk.symm hl (λa b x y f g ra rb hx hy=> ?_) (lL (.inr (.inr hu)));rcases SP ra hx with⟨kk,m,h5,_⟩|⟨_,h5,_⟩|⟨_,_,rfl,rfl⟩<;>try cases h5
   rcases SP rb hy with⟨kk,m,h5,_⟩|⟨_,h5,_⟩|⟨_,_,rfl,rfl⟩<;>try cases h5
   rw[run_equalIn_string w d _ _ _ hu,ztq];rfl
  ·cases hk
theorem zCy(h:Bz P c n nx sl hp a sl0 hp0 o gs){op:BinOp}{t:TypeId}{x y:Operand}{ty:TypeId}(ho:o.op= .binOp op t x y ty){fs:Array Field}(hu:P.underlying t=some (.struct fs))(he:BU P sg sl0 hp0 nv nx gs o=some e)(hc:∀q∈e.ca,Cn.den c.ρ q):AB P o c n nx sl hp gs a e:=by
 have Dy:x∈o.op.operands:=by simp[ho,Op.operands]
 have CJ:y∈o.op.operands:=by simp[ho,Op.operands]
 simp only[BU,ho,As]at he;obtain⟨s1,BM,s2,A7,he⟩:=he;unfold SB at he;simp only[hu]at he;split at he
 ·cases he
 rename_i hg;simp only[Bool.or_eq_true,not_or,Bool.not_eq_true]at hg;split at he
 ·rename_i ks x' y' hks DU BN;obtain⟨f1,q1,_⟩:=h.ji BM Dy DU;obtain⟨f2,q2,_⟩:=h.ji A7 CJ BN;have Cz:P.underlying t=some (.struct (P.fieldsOf t)):=by simp[Program.fieldsOf,hu]
  have Mp:P.fieldsOf t=fs:=by simp[Program.fieldsOf,hu]
  have key:∀(k1:Cn.den c.ρ (.kinds x' ks)) (k2:Cn.den c.ρ (.kinds y' ks)),∃as_ bs:List Value,∃b,a.eval x= .agg as_.toArray/\a.eval y= .agg bs.toArray/\(E.aeq x' y').den c.ρ= .bool b/\(Op.equalIn 10000 t (.agg as_.toArray) (.agg bs.toArray)).run P c.w= .ok b c.w:=by rintro⟨cs,Bx,k1⟩ ⟨ds,Ha,k2⟩;obtain⟨as_,FA,_,r1⟩:=Kj q1 Bx;obtain⟨bs,De,_,r2⟩:=Kj q2 Ha;refine⟨as_,bs,AV.leq cs ds,FA,De,by simp only[E.den,Bx,Ha,AV.aeq],?_⟩;rw[run_equalIn_struct c.w 9999 t _ _ Cz hg.1,Mp];exact vD (w:=c.w) 9998 fs.toList 0 ks hks r1 r2 (by simpa using k1) (by simpa using k2)
  split at he
  ·simp only[Ad]at he;subst he;obtain⟨as_,bs,b,FA,De,hd,hr⟩:=key (hc _ (by simp)) (hc _ (by simp));refine AB.pure h (v:= .bool b) ?_ (.cx (by rw[hd];exact .bool .nil)) rfl;rw[PF ho c.w FA De];simp[run_eqGuard_agg c.w _ t x y _ _ hg.2,run_eql_struct,hr]
  ·simp only[Ad]at he;subst he;obtain⟨as_,bs,b,FA,De,hd,hr⟩:=key (hc _ (by simp)) (hc _ (by simp));refine AB.pure h (v:= .bool (!b)) ?_ (.cx (by simp only[E.den]at hd ⊢;rw[hd];exact .bool .nil)) rfl;rw[PF ho c.w FA De];simp[run_eqGuard_agg c.w _ t x y _ _ hg.2,run_neq_struct,hr]
  ·cases he
 ·cases he
theorem vW(h:Bz P c n nx sl hp a sl0 hp0 o gs){x y:Operand}{cl:Call}(ho:o.op= .call cl){op:BinOp}(AT:(op= .gtr/\cl.callee= .builtin .max)\/(op= .lss/\cl.callee= .builtin .min))(CV:cl.args.toList=[x,y]){s1 s2:SV}(BM:BK sl0 gs x=some s1)(A7:BK sl0 gs y=some s2)
  (he:ZD op s1 s2=some e) (hc:∀q∈e.ca,Cn.den c.ρ q):AB P o c n nx sl hp gs a e:=by
 have Ah:cl.args= #[x,y]:=by apply Array.ext';simp[CV]
 have Dy:x∈o.op.operands:=by rcases AT with⟨_,hh⟩|⟨_,hh⟩<;>simp[ho,Op.operands,Call.operands,hh,Ah]
 have CJ:y∈o.op.operands:=by rcases AT with⟨_,hh⟩|⟨_,hh⟩<;>simp[ho,Op.operands,Call.operands,hh,Ah]
 unfold ZD at he;split at he
 ·rename_i x' y';simp only[Ad]at he;subst he;obtain⟨f1,q1,_⟩:=H0 (h.ct BM Dy) rfl;obtain⟨f2,q2,_⟩:=H0 (h.ct A7 CJ) rfl;have hd:AV.bin op (y'.den c.ρ) (x'.den c.ρ)≠ .undef:=Ch hc;cases hx:x'.den c.ρ<;>cases hy:y'.den c.ρ<;>simp only[hx,hy,AV.bin,ne_eq,not_true_eq_false]at hd;rename_i k m k' m';split at hd
  ·rename_i hk;have hk:k'=k:=by rcases hk with hk|hk|hk;exact hk;all_goals (rcases AT with⟨h1,_⟩|⟨h1,_⟩<;>rw[h1]at hk<;>cases hk)
   subst hk;obtain⟨v1,i1⟩:=F1 q1 hx;obtain⟨v2,i2⟩:=F1 q2 hy;rcases AT with⟨rfl,Aw⟩|⟨rfl,Aw⟩
   ·refine AB.pure h (v:= .int k' (if m'>m then m' else m)) ?_ (.cx ?_) rfl
    ·simp[execOp,ho,resolve,Aw,Ah,invoke,builtin,Builtin.max_,Builtin.max2,v1,v2]
    ·simp only[E.den,hx,hy,AV.bin,true_or,if_true,Cw];by_cases hh:m'>m
     ·simp only[hh,decide_true,AV.cond,if_true];exact .int i2 .nil
     ·simp only[hh,decide_false,AV.cond,if_false];exact .int i1 .nil
   ·refine AB.pure h (v:= .int k' (if m'<m then m' else m)) ?_ (.cx ?_) rfl
    ·simp[execOp,ho,resolve,Aw,Ah,invoke,builtin,Builtin.min_,Builtin.min2,v1,v2]
    ·simp only[E.den,hx,hy,AV.bin,true_or,if_true,Cw];by_cases hh:m'<m
     ·simp only[hh,decide_true,AV.cond,if_true];exact .int i2 .nil
     ·simp only[hh,decide_false,AV.cond,if_false];exact .int i1 .nil
  ·exact absurd rfl hd
 ·cases he
end
inductive Cr(P:Program)(w:World):List TypeId->List Bool->List Value->List AV->List Nat->List Nat->Prop where
 |nil {fl}:Cr P w [] fl [] [] [] []
 |own {t ts fl el u us y ys top N rf hs}:fl.headD false=true->CR P t=some el->(Ca P el=true/\N=[]\/Ca P el=false/\DB P t=none)->CZ w el (P.cellsOf el) u y top N->Cr P w ts fl.tail us ys rf hs->Cr P w (t::ts) fl (u::us) (y::ys) (N++rf) (top++hs)
 |deep {t ts fl el e z l u us y ys top rf hs}:fl.headD false=true->CR P t=some el->Ca P el=false->DB P t=some (.row e z l)->DC w [.row e z l] [u] [y] top->Cr P w ts fl.tail us ys rf hs->Cr P w (t::ts) fl (u::us) (y::ys) rf (top++hs)
 |rd {t ts fl u us y ys f rf hs}:(fl.headD false=true->CR P t=none)->Rd w [u] [y] f->Cr P w ts fl.tail us ys rf hs->Cr P w (t::ts) fl (u::us) (y::ys) (f++rf) hs
def NL(P:Program)(w:World)(t:TypeId)(fl:List Bool)(v:Value)(x:AV)(rf hs:List Nat):Prop:=
 ∃us ys,(if Ao P t then v= .agg us.toArray/\x= .agg ys/\ ∀u∈us,u.oneCell'=true else us=[v]/\ys=[x])/\Cr P w (A8 P t) fl us ys rf hs
def D6(P:Program)(w:World)(t:TypeId)(fl:List Bool)(v:Value)(x:AV)(rf hs:List Nat):Prop:=
 if F4 P t fl then NL P w t fl v x rf hs else Rd w [v] [x] rf/\hs=[]
inductive Md(P:Program)(w:World):List TypeId->List Bool->List Value->List AV->List Nat->List Nat->Prop where
 |nil {fl}:Md P w [] fl [] [] [] []
 |cons {t ts fl v vs x xs f h rf hs}:D6 P w t fl v x f h->Md P w ts (fl.drop (A8 P t).length) vs xs rf hs->Md P w (t::ts) fl (v::vs) (x::xs) (f++rf) (h++hs)
theorem Cr.len{P:Program}{w:World}{ts:List TypeId}{fl:List Bool}{us:List Value}{ys:List AV}{rf hs:List Nat}(h:Cr P w ts fl us ys rf hs):us.length=ts.length/\ys.length=ts.length:=by induction h<;>simp_all
theorem Cr.inb{P:Program}{w:World}{ts:List TypeId}{fl:List Bool}{us:List Value}{ys:List AV}{rf hs:List Nat}(h:Cr P w ts fl us ys rf hs):(∀b∈rf,b<w.heap.size)/\ ∀b∈hs,b<w.heap.size:=by
 induction h with
 |nil=>simp
 |deep _ _ _ _ h _ ih=>
  refine⟨ih.1,λb hb=> ?_⟩;rcases Ac.1 hb with hb|hb
  ·exact h.inb b hb
  ·exact ih.2 b hb
 |own _ _ _ h _ ih=>
  refine⟨λb hb=> ?_,λb hb=> ?_⟩
  ·rcases Ac.1 hb with hb|hb
   ·obtain⟨xs,_,_,_,⟨_,_,_,rfl⟩|⟨g,cap,C,_,_,_,_,_,_,_,hr⟩⟩:=h
    ·simp at hb
    ·exact hr.inb b hb
   ·exact ih.1 b hb
  ·rcases Ac.1 hb with hb|hb
   ·obtain⟨xs,_,_,_,⟨_,_,rfl,_⟩|⟨g,cap,C,_,_,_,hh,_,rfl,_⟩⟩:=h
    ·simp at hb
    ·simp at hb;subst hb;exact Dp hh
   ·exact ih.2 b hb
 |rd _ h _ ih=>
  refine⟨λb hb=> ?_,ih.2⟩;rcases Ac.1 hb with hb|hb
  ·exact h.inb b hb
  ·exact ih.1 b hb
structure AU where
 tag:Nat
 new:Option Value
 top:List Nat
 bj:Af
def AU.pair(r:AU):Nat × Af:=(r.tag,r.bj)
structure Ff(c c':Cx)(w':World)(recs:List AU):Prop where
 ρ:c'.ρ=c.ρ
 w:c'.w=w'
 G:∀r∈recs,c'.G r.tag=⟨r.top,[]⟩
 new:∀r∈recs,∀hv,r.new=some hv->c'.K r.tag 0/\(∀g,c'.K r.tag g->g<=0)/\c'.H r.tag 0=hv
 K:∀t g,c.K t g->c'.K t g/\c'.H t g=c.H t g
 old:∀t,c.U t-> ∀g,c'.K t g->c.K t g
 ic:∀r∈recs,r.new.isSome=true->c'.E r.tag=0
 fw:∀r∈recs,r.new=none->c'.E r.tag=c.E r.tag+1
theorem Ff.mono{c c':Cx}{w':World}{recs recs':List AU}(h:Ff c c' w' recs)(hs:∀r∈recs',r∈recs):Ff c c' w' recs':=
 ⟨h.ρ,h.w,λr hr=>h.G r (hs r hr),λr hr=>h.new r (hs r hr),h.K,h.old,λr hr=>h.ic r (hs r hr),λr hr=>h.fw r (hs r hr)⟩
section
variable {P:Program} {c:Cx} {w':World}
theorem zDK{c':Cx}{t:Nat}{u:Value}{el sz:Nat}{y:AV}{top N:List Nat}(h:CZ w' el sz u y top N)(hk:c'.K t 0)(hh:c'.H t 0=u):SR c' [.own t 0] [u]:=by
 obtain⟨xs,_,_,_,⟨_,⟨a,rfl⟩,_⟩|⟨g,cap,C,rfl,_⟩⟩:=h
 ·exact .own hk hh .nil
 ·exact .own hk hh .nil
theorem RD{nx:Nat}{mk:Nat->E}{ts:List TypeId}{fl:List Bool}{us:List Value}{ys:List AV}{rf hs:List Nat}(h:Cr P w' ts fl us ys rf hs):∀(j:Nat),(∀i y,ys[i]?=some y->(mk (j+i)).den c.ρ=y)->
  ∃recs:List AU,(C6 P nx mk j ts fl).2=recs.map AU.pair/\recs.flatMap AU.top=hs/\(∀r∈recs,nx+j<=r.tag/\r.tag<nx+j+ts.length/\r.new.isSome)/\(recs.map AU.tag).Nodup/\(∀r∈recs,r.new=us[r.tag-(nx+j)]?)/\
   ∀c',Ff c c' w' recs->(∀b∈rf,c'.ok b)->SR c' (C6 P nx mk j ts fl).1 us/\ ∀r∈recs,Du c' r.tag r.bj:=by
 induction h with
 |nil=>exact λj _=>⟨[],rfl,rfl,by simp,by simp,by simp,λc' _ _=>⟨.nil,by simp⟩⟩
 | @own t ts fl el u us y ys top N rf hs h1 h2 Mj h3 _ ih=>
  intro j Ge;obtain⟨recs,e1,e2,e3,e4,e4',e5⟩:=ih (j+1) (λi y hy=>by rw[show j+1+i=j+(i+1)from by omega];exact Ge (i+1) y (by simpa using hy));have hy:=Ge 0 y rfl;have dD:Sx P t el 0 0 (mk j)= .row el (P.cellsOf el) 0 (mk j) (Ca P el):=by
   unfold Sx;rcases Mj with⟨h,_⟩|⟨h,h'⟩
   ·rw[if_pos h,h]
   ·rw[if_neg (by rw[h];simp),h',h]
  simp only[C6,h1,h2,dD];refine⟨⟨nx+j,some u,top, .row el (P.cellsOf el) 0 (mk j) (Ca P el)⟩::recs,by simp[e1,AU.pair],by simp[e2],λr hr=> ?_,?_,λr hr=> ?_,λc' ha AZ=> ?_⟩
  ·rcases Ae.1 hr with rfl|hr
   ·simp
   ·have:=e3 r hr;simp only[A6];exact⟨by omega,by omega,this.2.2⟩
  ·simp only[List.map_cons,List.nodup_cons];refine⟨λhm=> ?_,e4⟩;obtain⟨r,hr,HV⟩:=List.mem_map.1 hm;have:=e3 r hr;omega
  ·rcases Ae.1 hr with rfl|hr
   ·simp
   ·rw[e4' r hr];have:=e3 r hr;rw[show r.tag-(nx+j)=(r.tag-(nx+(j+1)))+1 from by omega,List.getElem?_cons_succ]
  ·obtain⟨q1,q2⟩:=e5 c' (ha.mono λr hr=>by simp[hr]) λb hb=>AZ b (by simp[hb]);obtain⟨k1,k2,k3⟩:=ha.new _ (List.mem_cons_self ..) u rfl;have kg:=ha.G _ (List.mem_cons_self ..);simp only at k1 k2 k3 kg;refine⟨(zDK h3 k1 k3).cons q1,λr hr=> ?_⟩;rcases Ae.1 hr with rfl|hr
   ·refine⟨k1,k2,N,?_,λb hb=>AZ b (by simp[hb]),λhd=> ?_,λ_=>by rw[kg]⟩
    rotate_left
    ·rcases Mj with⟨_,h⟩|⟨h,_⟩
     ·subst h;exact⟨rfl,by rw[kg]⟩
     ·rw[h]at hd;cases hd
    rw[k3,kg,ha.w,ha.ρ];have BN:(mk j).den c.ρ=y:=by simpa using hy
    rw[BN];exact h3
   ·exact q2 r hr
 | @deep t ts fl el e z l u us y ys top rf hs h1 h2 S0 PW h3 _ ih=>
  intro j Ge;obtain⟨recs,e1,e2,e3,e4,e4',e5⟩:=ih (j+1) (λi y hy=>by rw[show j+1+i=j+(i+1)from by omega];exact Ge (i+1) y (by simpa using hy));have hy:=Ge 0 y rfl;have dD:Sx P t el 0 0 (mk j)= .deep e z l.toList 0 0 (mk j):=by unfold Sx;rw[if_neg (by rw[S0];simp),PW]
  simp only[C6,h1,h2,dD];refine⟨⟨nx+j,some u,top, .deep e z l.toList 0 0 (mk j)⟩::recs,by simp[e1,AU.pair],by simp[e2],λr hr=> ?_,?_,λr hr=> ?_,λc' ha AZ=> ?_⟩
  ·rcases Ae.1 hr with rfl|hr
   ·simp
   ·have:=e3 r hr;simp only[A6];exact⟨by omega,by omega,this.2.2⟩
  ·simp only[List.map_cons,List.nodup_cons];refine⟨λhm=> ?_,e4⟩;obtain⟨r,hr,HV⟩:=List.mem_map.1 hm;have:=e3 r hr;omega
  ·rcases Ae.1 hr with rfl|hr
   ·simp
   ·rw[e4' r hr];have:=e3 r hr;rw[show r.tag-(nx+j)=(r.tag-(nx+(j+1)))+1 from by omega,List.getElem?_cons_succ]
  ·obtain⟨q1,q2⟩:=e5 c' (ha.mono λr hr=>by simp[hr]) AZ;obtain⟨k1,k2,k3⟩:=ha.new _ (List.mem_cons_self ..) u rfl;have kg:=ha.G _ (List.mem_cons_self ..);have ke:=ha.ic _ (List.mem_cons_self ..) rfl;simp only at k1 k2 k3 kg ke;obtain⟨p1,p2,p3,rfl⟩:=h3.head;refine⟨(SR.own k1 k3 .nil).cons q1,λr hr=> ?_⟩;rcases Ae.1 hr with rfl|hr
   ·refine⟨k1,k2,ke,?_,by rw[kg]⟩;have BN:(mk j).den c.ρ=y:=by simpa using hy
    rw[k3,kg,ha.w,ha.ρ,BN,Ay.cu];exact h3
   ·exact q2 r hr
 | @rd t ts fl u us y ys f rf hs h1 h3 _ ih=>
  intro j Ge;obtain⟨recs,e1,e2,e3,e4,e4',e5⟩:=ih (j+1) (λi y hy=>by rw[show j+1+i=j+(i+1)from by omega];exact Ge (i+1) y (by simpa using hy));have hy:=Ge 0 y rfl;have Tu:C6 P nx mk j (t::ts) fl=(.e (mk j)::(C6 P nx mk (j+1) ts fl.tail).1,(C6 P nx mk (j+1) ts fl.tail).2):=by
   simp only[C6];split
   ·rename_i h8 h9;rw[h1 h8]at h9;cases h9
   ·rfl
  rw[Tu];refine⟨recs,e1,e2,λr hr=> ?_,e4,λr hr=> ?_,λc' ha AZ=> ?_⟩
  ·have:=e3 r hr;simp only[A6];exact⟨by omega,by omega,this.2.2⟩
  ·rw[e4' r hr];have:=e3 r hr;rw[show r.tag-(nx+j)=(r.tag-(nx+(j+1)))+1 from by omega,List.getElem?_cons_succ]
  ·obtain⟨q1,q2⟩:=e5 c' ha λb hb=>AZ b (by simp[hb]);have BN:(mk j).den c.ρ=y:=by simpa using hy
   exact⟨(SR.e (f:=f) (by rw[ha.w,ha.ρ,BN];exact h3) (λb hb=>AZ b (by simp[hb])) .nil).cons q1,q2⟩
theorem O8{nx:Nat}{mk:Nat->E}:∀(j:Nat) (ts:List TypeId) (fl:List Bool) (t:Nat) (e:Af) {gs:Gd} {f:Af},(t,e)∈(C6 P nx mk j ts fl).2->e≠ .gd gs f
 |_,[],_,_,_,_,_,h=>by simp[C6]at h
 |j,u::ts,fl,t,e,gs,f,h=>by
  unfold C6 at h;split at h
  ·rcases Ae.1 h with h|h
   ·cases h;unfold Sx;split
    ·simp
    ·split<;>simp
   ·exact O8 _ _ _ _ _ h
  ·exact O8 _ _ _ _ _ h
theorem VA{ρ:List AV}{x:E}{ys:List AV}(hx:x.den ρ= .agg ys):∀i y,ys[i]?=some y->(DM x true (0+i)).den ρ=y:=by intro i y hy;simp[DM,E.den,hx,AV.fld,AV.cells,hy]
theorem uQ{nx:Nat}{t:TypeId}{fl:List Bool}{x:E}{v:Value}{y:AV}{rf hs:List Nat}(h:D6 P w' t fl v y rf hs)(hx:x.den c.ρ=y):
  ∃recs:List AU,(Pm P nx t fl x).2=recs.map AU.pair/\recs.flatMap AU.top=hs/\(∀r∈recs,nx<=r.tag/\r.tag<nx+(A8 P t).length/\r.new.isSome)/\(recs.map AU.tag).Nodup/\
   ∀c',Ff c c' w' recs->(∀b∈rf,c'.ok b)->SR c' [(Pm P nx t fl x).1] [v]/\ ∀r∈recs,Du c' r.tag r.bj:=by
 unfold D6 at h;unfold Pm;split at h
 ·rename_i hf;simp only[hf,if_true];obtain⟨us,ys,hg,hc⟩:=h;split at hg
  ·rename_i AH;obtain⟨rfl,rfl,CK⟩:=hg;obtain⟨recs,e1,e2,e3,e4,_,e5⟩:=RD (c:=c) (nx:=nx) (mk:=DM x (Ao P t)) hc 0 (by rw[AH];exact VA hx);refine⟨recs,e1,e2,λr hr=>by have:=e3 r hr;exact⟨by omega,by omega,this.2.2⟩,e4,λc' ha AZ=> ?_⟩;obtain⟨q1,q2⟩:=e5 c' ha AZ;rw[if_pos AH];exact⟨.agg CK (by rw[BP.au];exact q1) .nil,q2⟩
  ·rename_i AH;obtain⟨rfl,rfl⟩:=hg;have G7:Ao P t=false:=by simpa using AH
   obtain⟨recs,e1,e2,e3,e4,_,e5⟩:=RD (c:=c) (nx:=nx) (mk:=DM x (Ao P t)) hc 0 (by
    intro i z hz;cases i with
    |zero=>simp at hz;subst hz;simp[DM,G7,hx]
    |succ i=>simp at hz)
   refine⟨recs,e1,e2,λr hr=>by have:=e3 r hr;exact⟨by omega,by omega,this.2.2⟩,e4,λc' ha AZ=> ?_⟩;obtain⟨q1,q2⟩:=e5 c' ha AZ;refine⟨?_,q2⟩;rw[if_neg AH];have hl:=q1.len;generalize (C6 P nx (DM x (Ao P t)) 0 (A8 P t) fl).1=l at q1 hl
   match l,hl with
   | [s],_=>exact q1
 ·rename_i hf;simp only[hf,if_false,AW];obtain⟨h1,rfl⟩:=h;exact⟨[],rfl,rfl,by simp,by simp,λc' ha AZ=>⟨.e (f:=rf) (by rw[ha.w,ha.ρ,hx];exact h1) AZ .nil,by simp⟩⟩
theorem zsl{ts:List TypeId}{fl:List Bool}{x:E}{vs:List Value}{ys:List AV}{rf hs:List Nat}(h:Md P w' ts fl vs ys rf hs):∀(nx i:Nat),(∀k y,ys[k]?=some y->(E.proj x (i+k)).den c.ρ=y)->
  ∃recs:List AU,(Nf P nx ts fl x i).2=recs.map AU.pair/\recs.flatMap AU.top=hs/\(∀r∈recs,nx<=r.tag/\r.tag<nx+(ts.flatMap (A8 P)).length/\r.new.isSome)/\(recs.map AU.tag).Nodup/\
   ∀c',Ff c c' w' recs->(∀b∈rf,c'.ok b)->SR c' (Nf P nx ts fl x i).1 vs/\ ∀r∈recs,Du c' r.tag r.bj:=by
 induction h with
 |nil=>exact λnx i _=>⟨[],rfl,rfl,by simp,by simp,λc' _ _=>⟨.nil,by simp⟩⟩
 | @cons t ts fl v vs y ys f h rf hs h1 _ ih=>
  intro nx i hx;obtain⟨r1,a1,a2,a3,a4,a5⟩:=uQ (c:=c) (nx:=nx) (x:= .proj x i) h1 (hx 0 y rfl);obtain⟨r2,b1,b2,b3,b4,b5⟩:=ih (nx+(A8 P t).length) (i+1) (λk z hz=>by rw[show i+1+k=i+(k+1)from by omega];exact hx (k+1) z (by simpa using hz));simp only[Nf];refine⟨r1++r2,by simp[a1,b1],by simp[a2,b2],λr hr=> ?_,?_,λc' ha AZ=> ?_⟩
  ·simp only[List.flatMap_cons,AO];rcases Ac.1 hr with hr|hr
   ·have:=a3 r hr;exact⟨this.1,by omega,this.2.2⟩
   ·have:=b3 r hr;exact⟨by omega,by omega,this.2.2⟩
  ·rw[List.map_append,List.nodup_append];refine⟨a4,b4,λt1 JR t2 Kw he=> ?_⟩;obtain⟨q1,P6,rfl⟩:=List.mem_map.1 JR;obtain⟨q2,I3,rfl⟩:=List.mem_map.1 Kw;have:=a3 q1 P6;have:=b3 q2 I3;omega
  ·obtain⟨p1,p2⟩:=a5 c' (ha.mono λr hr=>by simp[hr]) λb hb=>AZ b (by simp[hb]);obtain⟨q1,q2⟩:=b5 c' (ha.mono λr hr=>by simp[hr]) λb hb=>AZ b (by simp[hb]);refine⟨p1.cons q1,λr hr=> ?_⟩;rcases Ac.1 hr with hr|hr
   ·exact p2 r hr
   ·exact q2 r hr
end
theorem Vp{α:Type}{f:α->List Nat}:∀{l:List α},(l.flatMap f).Nodup->(∀a∈l,(f a).Nodup)/\ ∀(i j:Nat) (a b:α) (x:Nat),l[i]?=some a->l[j]?=some b->x∈f a->x∈f b->i=j
 | [],_=>⟨by simp,by simp⟩
 |a::l,h=>by
  rw[List.flatMap_cons,List.nodup_append]at h;obtain⟨h1,h2,h3⟩:=h;obtain⟨k1,k2⟩:=Vp h2;refine⟨λb hb=> ?_,λi j p q x hi hj hp hq=> ?_⟩
  ·rcases Ae.1 hb with rfl|hb
   ·exact h1
   ·exact k1 b hb
  ·cases i with
   |zero=>
    cases j with
    |zero=>rfl
    |succ j=>simp at hi hj;subst hi;exact absurd rfl (h3 x hp x (List.mem_flatMap.2 ⟨q,List.mem_of_getElem? hj,hq⟩))
   |succ i=>
    cases j with
    |zero=>simp at hi hj;subst hj;exact absurd rfl (h3 x hq x (List.mem_flatMap.2 ⟨p,List.mem_of_getElem? hi,hp⟩))
    |succ j=>rw[k2 i j p q x (by simpa using hi) (by simpa using hj) hp hq]
theorem R8{recs:List AU}(hn:(recs.map AU.tag).Nodup){r:AU}(hr:r∈recs)(p:AU->Bool)(hp:p r=true)(El:∀q,p q=true->q.tag=r.tag):recs.find? p=some r:=by
 induction recs with
 |nil=>simp at hr
 |cons q recs ih=>
  simp only[List.map_cons,List.nodup_cons]at hn;rw[List.find?_cons];rcases Ae.1 hr with rfl|hr
  ·simp[hp]
  ·have:p q=false:=by
    cases hq:p q with
    |false=>rfl
    |true=>exact absurd (List.mem_map.2 ⟨r,hr,(El q hq).symm⟩) hn.1
   rw[this];exact ih hn.2 hr
def Cx.dg(c:Cx)(w':World)(recs:List AU):Cx:=
 {c with w:=w',G:=λt=>(match recs.find? (λr=>r.tag==t)with|some r=>⟨r.top,[]⟩|none=>c.G t),K:=λt g=>c.K t g\/ ∃r∈recs,r.tag=t/\r.new.isSome=true/\g=0,H:=λt g=>(match recs.find? (λr=>r.tag==t&&r.new.isSome)with|some r=>r.new.getD undef|none=>c.H t g),U:=λt=>c.U t\/ ∃r∈recs,r.tag=t,E:=λt=>match recs.find? (λr=>r.tag==t)with|some r=>if r.new.isSome then 0 else c.E t+1|none=>c.E t}
section
variable {P:Program} {c:Cx} {n:Nat} {sl:Nat->SV} {hp:Nat->Option Af} {a:Act} {w':World} {recs:List AU}
theorem Cx.dq(hn:(recs.map AU.tag).Nodup){r:AU}(hr:r∈recs):(c.dg w' recs).G r.tag=⟨r.top,[]⟩:=by simp only[Cx.dg];rw[R8 hn hr (λq=>q.tag==r.tag) (by simp) (λq hq=>by simpa using hq)]
theorem Cx.c7{t:Nat}(ht:∀r∈recs,r.tag≠t):(c.dg w' recs).G t=c.G t:=by
 simp only[Cx.dg];have:recs.find? (λr=>r.tag==t)=none:=by rw[List.find?_eq_none];intro r hr;simpa using ht r hr
 rw[this]
theorem Cx.de(hU:∀t g,c.K t g->c.U t)(hn:(recs.map AU.tag).Nodup)(A9:∀r∈recs,r.new.isSome=true-> ¬c.U r.tag):Ff c (c.dg w' recs) w' recs:=by
 refine⟨rfl,rfl,λr hr=>Cx.dq hn hr,λr hr hv I6=>⟨.inr ⟨r,hr,rfl,by simp[I6],rfl⟩,λg hg=> ?_,?_⟩,λt g hk=>⟨.inl hk,?_⟩,λt ht g hk=> ?_,λr hr hs=> ?_,λr hr hs=> ?_⟩
 ·rcases hg with hg|⟨_,_,_,_,rfl⟩
  ·exact absurd (hU _ _ hg) (A9 r hr (by simp[I6]))
  ·exact AI _
 ·simp only[Cx.dg];rw[R8 hn hr (λq=>q.tag==r.tag&&q.new.isSome) (by simp[I6]) (λq hq=>by simp only[Ab,AK]at hq;exact hq.1)];simp[I6]
 ·simp only[Cx.dg];have:recs.find? (λr=>r.tag==t&&r.new.isSome)=none:=by
   rw[List.find?_eq_none];rintro r hr hh;simp only[Ab,AK]at hh;exact A9 r hr hh.2 (hh.1▸hU t g hk)
  rw[this]
 ·rcases hk with hk|⟨r,hr,rfl,hh,_⟩
  ·exact hk
  ·exact absurd ht (A9 r hr hh)
 ·simp only[Cx.dg];rw[R8 hn hr (λq=>q.tag==r.tag) (by simp) (λq hq=>by simpa using hq)];simp[hs]
 ·simp only[Cx.dg];rw[R8 hn hr (λq=>q.tag==r.tag) (by simp) (λq hq=>by simpa using hq)];simp[hs]
theorem Cx.im{t:Nat}(ht:∀r∈recs,r.tag≠t):(c.dg w' recs).E t=c.E t:=by
 simp only[Cx.dg];have:recs.find? (λr=>r.tag==t)=none:=by rw[List.find?_eq_none];intro r hr;simpa using ht r hr
 rw[this]
theorem Rel.changes(h:Rel c n sl hp a){hs:List Nat}{gs:Gd}(k:Bt c.ρ gs)(Bp:Mod hs c.w w')(hn:(recs.map AU.tag).Nodup)(A9:∀r∈recs,r.new.isSome=true-> ¬c.U r.tag)
  (Hf:∀b∈hs,∃r∈recs,b∈(c.G r.tag).top) (EY:(recs.flatMap AU.top).Nodup) (Cd:∀r∈recs,∀b∈r.top,(b∈hs\/c.w.heap.size<=b)/\b<w'.heap.size)
  (BF:∀r∈recs,∀hs f,r.bj≠ .gd hs f) (BG:DW c (c.dg w' recs)-> ∀r∈recs,Du (c.dg w' recs) r.tag r.bj):
  Rel (c.dg w' recs) n sl (Bi hp (recs.map λr=>(r.tag,CS gs r.bj))) a/\DW c (c.dg w' recs):=by
 have aft:=Cx.de (w':=w') h.bp hn A9;have qX:∀b∈hs,c.M b:=λb hb=>by obtain⟨r,_,hr⟩:=Hf b hb;exact⟨_,hr⟩
 have Bd:∀b∈hs,c.B<=b\/c.Mu b:=λb hb=>by obtain⟨r,_,hr⟩:=Hf b hb;exact h.gw.allow r.tag b (by simp[GI.own,hr])
 have Cb:DW c (c.dg w' recs):=by
  refine⟨rfl,rfl,λb hb AZ=>⟨λ⟨t,ht⟩=> ?_,AZ.2⟩,λb hb AZ=>Bp.block b hb λhh=>AZ.1 (qX b hh),aft.K,λt g hk=> ?_⟩;by_cases hT:∃r∈recs,r.tag=t
  ·obtain⟨r,hr,rfl⟩:=hT;rw[Cx.dq hn hr]at ht;rcases(Cd r hr b ht).1 with hh|hh
   ·exact AZ.1 (qX b hh)
   ·omega
  ·rw[Cx.c7 λr hr hh=>hT ⟨r,hr,hh⟩]at ht;exact AZ.1 ⟨t,ht⟩
  ·by_cases hT:∃r∈recs,r.tag=t
   ·obtain⟨r,hr,rfl⟩:=hT;have DR:r.new=none:=by
     cases hh:r.new with
     |none=>rfl
     |some v=>exact absurd (h.bp _ _ hk) (A9 r hr (by simp[hh]))
    rw[aft.fw r hr DR];exact⟨by omega,λh=>by omega⟩
   ·have pS:∀r∈recs,r.tag≠t:=λr hr hh=>hT ⟨r,hr,hh⟩;rw[Cx.im pS,Cx.c7 pS];refine⟨AI _,λ_=>⟨rfl,λb hb F8=>Bp.block b F8 λhh=> ?_⟩⟩;obtain⟨r,hr,NZ⟩:=Hf b hh;exact h.gw.cm t r.tag (λhh=>hT ⟨r,hr,hh.symm⟩) b (by simp[GI.own,hb]) (by simp[GI.own,NZ])
 have BG:=BG Cb;have JU:∀r∈recs,∀e',(r.tag,e')∈(recs.map λr=>(r.tag,CS gs r.bj))->e'=CS gs r.bj:=by
  intro r hr e' E6;obtain⟨q,hq,I4⟩:=List.mem_map.1 E6;simp only[AX]at I4;obtain⟨h1,rfl⟩:=I4;have e1:=Cx.dq (c:=c) (w':=w') hn hr;have:q=r:=by have f1:=R8 hn hr (λq=>q.tag==r.tag) (by simp) (λq hq=>by simpa using hq);have f2:=R8 hn hq (λp=>p.tag==r.tag) (by simp[h1]) (λp hp=>by rw[h1];simpa using hp);rw[f1]at f2;cases f2;rfl
  rw[this]
 refine⟨h.change (λt=> ∃r∈recs,r.tag=t) Cb ⟨Bp.os.trans h.base.os,Bp.tape.trans h.base.tape,Bp.output.trans h.base.output,Nat.le_trans h.base.size Bp.size,λt v P5=>⟨.inl (h.base.pins t v P5).1,λhk=> ?_⟩,λb hb Gf=> ?_,h.base.pk,h.base.lo⟩
  (λt ht=>⟨LS λe he=> ?_,Cx.c7 λr hr hh=>ht ⟨r,hr,hh⟩,Cx.im λr hr hh=>ht ⟨r,hr,hh⟩,λg hg=> ?_⟩) (λt ht b hb=>Bp.block b (h.gw.inb t b (by simp[GI.own,hb])) λhh=> ?_) (λt ht=> ?_) ⟨λt=> ?_,λt u ML b hb Cc=> ?_,λt b hb=> ?_,λt b hb=> ?_⟩ (λt g hk=> ?_) (λt e he=> ?_),Cb⟩
 ·have Cp:=aft.old t (h.base.pins t v P5).1 0 hk;rw[(aft.K t 0 Cp).2];exact(h.base.pins t v P5).2 Cp
 ·refine(Bp.block b (Nat.lt_of_lt_of_le hb h.base.size) λhh=> ?_).trans (h.base.block b hb Gf);rcases Bd b hh with h1|h1
  ·exact absurd h1 (Nat.not_le.2 hb)
  ·exact Gf h1
 ·obtain⟨q,hq,I4⟩:=List.mem_map.1 he;simp only[AX]at I4;exact ht ⟨q,hq,I4.1⟩
 ·rcases hg with hg|⟨r,hr,HV,_⟩
  ·exact hg
  ·exact absurd ⟨r,hr,HV⟩ ht
 ·obtain⟨r,hr,F8⟩:=Hf b hh;exact h.gw.cm t r.tag (λhh=>ht ⟨r,hr,hh.symm⟩) b (by simp[GI.own,hb]) (by simp[GI.own,F8])
 ·obtain⟨r,hr,rfl⟩:=ht;have D2:=oF (hp:=hp) (l:=recs.map λr=>(r.tag,CS gs r.bj)) (List.mem_map.2 ⟨r,hr,rfl⟩) (JU r hr);rw[D2];refine⟨λe' TU=> ?_,λDR=> ?_⟩
  ·rw[(R9 k (BF r hr)).1 TU];exact BG r hr
  ·exact absurd ((R9 k (BF r hr)).2 rfl) (DR r.bj)
 ·by_cases hT:∃r∈recs,r.tag=t
  ·obtain⟨r,hr,rfl⟩:=hT;rw[Cx.dq hn hr];simpa[GI.own]using(Vp EY).1 r hr
  ·rw[Cx.c7 λr hr hh=>hT ⟨r,hr,hh⟩];exact h.gw.nodup t
 ·by_cases hT:∃r∈recs,r.tag=t
  ·obtain⟨r,hr,rfl⟩:=hT;rw[Cx.dq hn hr]at hb;simp only[GI.own,AE]at hb;by_cases hV:∃r∈recs,r.tag=u
   ·obtain⟨q,hq,rfl⟩:=hV;rw[Cx.dq hn hq]at Cc;simp only[GI.own,AE]at Cc;obtain⟨i,hi⟩:=List.getElem?_of_mem hr;obtain⟨j,hj⟩:=List.getElem?_of_mem hq;have:=(Vp EY).2 i j r q b hi hj hb Cc;subst this;rw[hi]at hj;cases hj;exact ML rfl
   ·rw[Cx.c7 λr hr hh=>hV ⟨r,hr,hh⟩]at Cc;rcases(Cd r hr b hb).1 with hh|hh
    ·obtain⟨q,hq,hbq⟩:=Hf b hh;exact h.gw.cm q.tag u (λhh=>hV ⟨q,hq,hh⟩) b (by simp[GI.own,hbq]) Cc
    ·have:=h.gw.inb u b Cc;omega
  ·rw[Cx.c7 λr hr hh=>hT ⟨r,hr,hh⟩]at hb;by_cases hV:∃r∈recs,r.tag=u
   ·obtain⟨q,hq,rfl⟩:=hV;rw[Cx.dq hn hq]at Cc;simp only[GI.own,AE]at Cc;rcases(Cd q hq b Cc).1 with hh|hh
    ·obtain⟨r,hr,WE⟩:=Hf b hh;exact h.gw.cm r.tag t (λhh=>hT ⟨r,hr,hh⟩) b (by simp[GI.own,WE]) hb
    ·have:=h.gw.inb t b hb;omega
   ·rw[Cx.c7 λr hr hh=>hV ⟨r,hr,hh⟩]at Cc;exact h.gw.cm t u ML b hb Cc
 ·by_cases hT:∃r∈recs,r.tag=t
  ·obtain⟨r,hr,rfl⟩:=hT;rw[Cx.dq hn hr]at hb;simp only[GI.own,AE]at hb;rcases(Cd r hr b hb).1 with hh|hh
   ·exact Bd b hh
   ·exact .inl (Nat.le_trans h.base.size hh)
  ·rw[Cx.c7 λr hr hh=>hT ⟨r,hr,hh⟩]at hb;exact h.gw.allow t b hb
 ·by_cases hT:∃r∈recs,r.tag=t
  ·obtain⟨r,hr,rfl⟩:=hT;rw[Cx.dq hn hr]at hb;simp only[GI.own,AE]at hb;exact(Cd r hr b hb).2
  ·rw[Cx.c7 λr hr hh=>hT ⟨r,hr,hh⟩]at hb;exact Nat.lt_of_lt_of_le (h.gw.inb t b hb) Bp.size
 ·rcases hk with hk|⟨r,hr,HV,_⟩
  ·exact .inl (h.bp t g hk)
  ·exact .inr ⟨r,hr,HV⟩
 ·by_cases hT:∃r∈recs,r.tag=t
  ·exact .inr hT
  ·rw[LS]at he
   ·exact .inl (h.cr t e he)
   ·intro e' E6;obtain⟨q,hq,I4⟩:=List.mem_map.1 E6;simp only[AX]at I4;exact hT ⟨q,hq,I4.1⟩
end
def fQ(P:Program)(w:World)(t:TypeId):PM->Value->AV->List Nat->List Nat->Prop
 | .ro,v,x,rf,hs=>Rd w [v] [x] rf/\hs=[]
 | .va own,v,x,rf,hs=>NL P w t own v x rf hs
 | .mu own,v,x,rf,hs=>NL P w t own v x rf hs
 | .bx own _,v,x,rf,hs=> ∃(ty:TypeId) (b:Nat) (C:Array Value) (ys:List AV) (h:List Nat),KA P t=some ty/\v= .pointer (some ⟨b,0,none⟩)/\w.heap[b]?=some (.cells C ty (0,0))/\(∀u∈C.toList,u.oneCell'=true)/\x= .ref (.agg ys)/\
   Cr P w (A8 P ty) own C.toList ys rf h/\hs=b::h
inductive DN(P:Program)(w:World):List TypeId->List PM->List Bool->List Value->List AV->List Nat->List Nat->List Nat->Prop where
 |nil {ms lo}:DN P w [] ms lo [] [] [] [] []
 |cons {t ts ms lo v vs x xs f h rf lf hs}:fQ P w t (ms.headD .ro) v x f h->DN P w ts ms.tail lo.tail vs xs rf lf hs->DN P w (t::ts) ms lo (v::vs) (x::xs) (f++rf) lf (h++hs)
 |lent {t ts ms lo v vs x xs f rf lf hs}:lo.headD false=true->ms.headD .ro= .ro->Rd w [v] [x] f->DN P w ts ms.tail lo.tail vs xs rf lf hs->DN P w (t::ts) ms lo (v::vs) (x::xs) rf (f++lf) hs
 |free {ms lo v vs x xs f rf lf hs}:Rd w [v] [x] f->DN P w [] ms.tail lo.tail vs xs rf lf hs->DN P w [] ms lo (v::vs) (x::xs) (f++rf) lf hs
inductive G2(P:Program)(c:Cx):List TypeId->List Bool->List Value->List (Option RI)->Prop where
 |nil {fl}:G2 P c [] fl [] []
 |row {t ts fl v vs u g el rs}:fl.headD false=true->CR P t=some el->(Ca P el=true\/DB P t=none)->c.K u g->c.H u g=v->(∀g',c.K u g'->g'<=g)->G2 P c ts fl.tail vs rs->G2 P c (t::ts) fl (v::vs) (some (.fl u g el (P.cellsOf el) (Ca P el))::rs)
 |deep {t ts fl v vs u g el e z l ep rs}:fl.headD false=true->CR P t=some el->Ca P el=false->DB P t=some (.row e z (Ay.of l))->c.K u g->c.H u g=v->(∀g',c.K u g'->g'<=g)->c.E u=ep->G2 P c ts fl.tail vs rs->G2 P c (t::ts) fl (v::vs) (some (.dp u g e z l ep)::rs)
 |none {t ts fl v vs rs}:(fl.headD false=true->CR P t=none\/ ∃a,v= .slice a 0 0)->G2 P c ts fl.tail vs rs->G2 P c (t::ts) fl (v::vs) (none::rs)
inductive Je(P:Program)(c:Cx):List TypeId->List PM->List Value->List PA->Prop where
 |nil {ts ms}:Je P c ts ms [] []
 |ro {ts ms v vs bs}:ms.headD .ro= .ro->Je P c ts.tail ms.tail vs bs->Je P c ts ms (v::vs) bs
 |va {ts ms own v vs bs us}:ms.headD .ro= .va own->(∀u∈us,c.U u)->Je P c ts.tail ms.tail vs bs->Je P c ts ms (v::vs) (.va us::bs)
 |mu {t ts ms own v vs bs us rs}:ms.headD .ro= .mu own->(if Ao P t then v= .agg us.toArray else us=[v])->G2 P c (A8 P t) own us rs->Je P c ts ms.tail vs bs->Je P c (t::ts) ms (v::vs) (.mu rs (Ao P t)::bs)
 |bx {t ts ms own own' ty v vs bs T b g olds}:ms.headD .ro= .bx own own'->KA P t=some ty->v= .pointer (some ⟨b,0,none⟩)->c.K T 0->c.H T 0=v->(∀u∈olds,c.U u)->Je P c ts ms.tail vs bs->Je P c (t::ts) ms (v::vs) (.box T g own' ty olds::bs)
section
variable {P:Program} {c:Cx} {hp:Nat->Option Af} {gs:Gd}
theorem VI{t el:TypeId}{d:DT}(Bo:CR P t=some el)(h:DB P t=some d):P.cellsOf el≠0/\(A8 P el).length=P.cellsOf el/\ ∃l:List DT,d= .row el (P.cellsOf el) (Ay.of l)/\l.length=P.cellsOf el:=by
 have hu:P.underlying t=some (.slice el):=by
  unfold CR at Bo;split at Bo
  ·simp at Bo;subst Bo;assumption
  ·cases Bo
  ·rename_i hu;unfold DB at h;split at h
   ·cases h
   ·simp[Wv,hu]at h
 unfold DB at h;split at h
 ·cases h
 simp only[Wv,hu]at h;split at h
 ·cases h
 ·rename_i hh;simp only[not_or,Decidable.not_not,ne_eq]at hh;obtain⟨l,hl,rfl⟩:=Ar.1 h;exact⟨hh.1,hh.2,l,rfl,by rw[mapM_len _ _ hl];exact hh.2⟩
where
 mapM_len {α β:Type} {f:α->Option β}:∀(l:List α) (l':List β),l.mapM f=some l'->l'.length=l.length
  | [],l',h=>by simp at h;subst h;rfl
  |a::l,l',h=>by simp only[List.mapM_cons,Option.bind_eq_bind,As,Option.pure_def,Ad]at h;obtain⟨b,_,bs,P0,rfl⟩:=h;simp[mapM_len l bs P0]
theorem Cr.void{w:World}{t el:TypeId}{ts:List TypeId}{fl:List Bool}{a:Option Addr}{us:List Value}{ys:List AV}{rf hs:List Nat}(h1:fl.headD false=true)(h2:CR P t=some el)(hz:P.cellsOf el≠0)(h:Cr P w ts fl.tail us ys rf hs):Cr P w (t::ts) fl (.slice a 0 0::us) (.sl []::ys) rf ([]++hs):=by
 have Bd:CZ w el (P.cellsOf el) (.slice a 0 0) (.sl []) [] []:=⟨[],rfl,by simp,by omega, .inl ⟨rfl,⟨a,rfl⟩,rfl,rfl⟩⟩
 cases hf:Ca P el with
 |true=>exact .own h1 h2 (.inl ⟨hf,rfl⟩) Bd h
 |false=>
  cases hd:DB P t with
  |none=>exact .own h1 h2 (.inr ⟨hf,hd⟩) Bd h
  |some d=>obtain⟨_,_,l,rfl,hl⟩:=VI h2 hd;exact .deep h1 h2 hf hd (.void (by omega) (by rw[Ay.au];exact hl) .nil) h
theorem vJ{as_ bs:List Value}(h:Value.agg as_.toArray= .agg bs.toArray):as_=bs:=by
 have h1:as_.toArray=bs.toArray:=by injection h
 have:=congrArg Array.toList h1;simpa using this
theorem kV(eh:EH c hp)(k:Bt c.ρ gs)(hU:∀t g,c.K t g->c.U t):∀(ts:List TypeId) {cs:List SV} {fl:List Bool} {rs:List (Option RI)} {us:List Nat} {vs:List Value} {xs:EL} {m:Nat},Hq P hp gs ts cs fl=some (rs,us)->SR c cs vs->CD hp gs m cs=some xs->m<=A5->
  ∃rf hs,Cr P c.w ts fl vs (xs.den c.ρ) rf hs/\(∀b∈rf,c.dw us b)/\hs=(CL rs).flatMap (λt=>(c.G t).top)/\G2 P c ts fl vs rs/\ ∀u∈CL rs,c.U u
 | [],[],fl,rs,us,vs,xs,m,h,hs,hx,hm=>by
  simp[Hq]at h;obtain⟨rfl,rfl⟩:=h;cases hs;cases m with
  |zero=>simp[CD]at hx
  |succ m=>simp[CD]at hx;subst hx;exact⟨[],[], .nil,by simp,by simp[CL], .nil,by simp[CL]⟩
 | [],s::cs,fl,rs,us,vs,xs,m,h,hs,hx,hm=>by simp[Hq]at h
 |t::ts,[],fl,rs,us,vs,xs,m,h,hs,hx,hm=>by simp[Hq]at h
 |t::ts,s::cs,fl,rs,us,[],xs,m,h,hs,hx,hm=>by have:=hs.len;simp at this
 |t::ts,s::cs,fl,rs,us,v::vs,xs,m,h,hs,hx,hm=>by
  obtain⟨j,y,ys,rfl,hy,Dn,rfl⟩:=KH hx;obtain⟨r1,r2⟩:=hs.cd;unfold Hq at h;split at h
  ·cases h
  rename_i rs' us' Dm;obtain⟨rf,A4,q1,q2,q3,q4,q5⟩:=kV eh k hU ts Dm r2 Dn (by omega);split at h
  ·rename_i hf;split at h
   ·rename_i r hr;simp only[Ad,AX]at h;obtain⟨rfl,rfl⟩:=h;unfold oB at hr;split at hr
    ·cases hr
    rename_i el Bo;split at hr
    ·cases hr
    rename_i hz;have empt:∀a,v= .slice a 0 0->y.den c.ρ= .sl []->r=none-> ∃rf hs,Cr P c.w (t::ts) fl (v::vs) ((EL.cons y ys).den c.ρ) rf hs/\(∀b∈rf,c.dw us' b)/\hs=(CL (r::rs')).flatMap (λt=>(c.G t).top)/\G2 P c (t::ts) fl (v::vs) (r::rs')/\ ∀u∈CL (r::rs'),c.U u:=by rintro a rfl HX rfl;refine⟨rf,[]++A4,?_,q2,by simpa[CL]using q3, .none (λ_=> .inr ⟨a,rfl⟩) q4,by simpa[CL]using q5⟩;rw[EL.den,HX];exact Cr.void hf Bo (by omega) q1
    split at hr
    ·simp only[Ad]at hr;subst hr;cases r1 with
     |cc _=>exact empt _ rfl (by rw[LM hy];rfl) rfl
    ·simp only[Ad]at hr;subst hr;cases r1 with
     |emp _=>
      refine empt _ rfl ?_ rfl;cases j with
      |zero=>simp[BB]at hy
      |succ j=>simp[BB]at hy;subst hy;rfl
    ·rename_i u g;split at hr
     ·rename_i e z g' x d hl;split at hr
      ·rename_i hh;obtain⟨rfl,rfl,rfl,Hc⟩:=hh;simp only[Ad]at hr;subst hr;obtain⟨p1,p2,N,p3,p4,p5,_⟩:=eh u _ (CG hl k);have Oa:Ca P e=true\/DB P t=none:=Hc.imp (·.1) (by rintro⟨_,h⟩;simpa using h);have Hc:Ca P e=true/\N=[]\/Ca P e=false/\DB P t=none:=by
        rcases Hc with⟨h1,h2⟩|⟨h1,h2⟩
        ·exact .inl ⟨h1,(p5 h2).1⟩
        ·exact .inr ⟨h1,by simpa using h2⟩
       have Hm:y=x:=by
        cases j with
        |zero=>simp[BB]at hy
        |succ j=>simp[BB,II,hl]at hy;exact hy.symm
       subst Hm;have hv:c.H u g=v:=by
        cases r1 with
        |own _ k2 _=>exact k2
       rw[hv]at p3;refine⟨N++rf,(c.G u).top++A4,Cr.own hf Bo Hc p3 q1,λb hb=> ?_,by simp[CL,RI.tag,q3], .row hf Bo Oa p1 hv p2 q4,λw hw=> ?_⟩
       ·rcases Ac.1 hb with hb|hb
        ·exact .inl (p4 b hb)
        ·exact q2 b hb
       simp only[CL,List.filterMap_cons,Option.map_some,RI.tag,Ae]at hw;rcases hw with rfl|hw
       ·exact hU _ _ p1
       ·exact q5 w hw
      ·cases hr
     ·rename_i e z l g' ep x hl;split at hr
      ·rename_i hh;obtain⟨rfl,Gi,DH⟩:=hh;have DH:=Pf DH;simp only[Ad]at hr;subst hr;obtain⟨p1,p2,pE,p3,_⟩:=eh u _ (CG hl k);have Hm:y=x:=by
        cases j with
        |zero=>simp[BB]at hy
        |succ j=>simp[BB,II,hl]at hy;exact hy.symm
       subst Hm;have hv:c.H u g=v:=by
        cases r1 with
        |own _ k2 _=>exact k2
       rw[hv]at p3;refine⟨rf,(c.G u).top++A4,Cr.deep hf Bo Gi DH p3 q1,q2,by simp[CL,RI.tag,q3], .deep hf Bo Gi DH p1 hv p2 pE q4,λw hw=> ?_⟩;simp only[CL,List.filterMap_cons,Option.map_some,RI.tag,Ae]at hw;rcases hw with rfl|hw
       ·exact hU _ _ p1
       ·exact q5 w hw
      ·cases hr
     ·cases hr
    ·cases hr
   ·cases h
  ·rename_i hf;simp only[Ad,AX]at h;obtain⟨rfl,rfl⟩:=h;obtain⟨f,p1,p2⟩:=H6 eh k j hy r1 A5 (by omega);refine⟨f++rf,A4,Cr.rd (λhh=>absurd hh hf) p1 q1,λb hb=> ?_,by simpa[CL]using q3, .none (λhh=>absurd hh hf) q4,by simpa[CL]using q5⟩;rcases Ac.1 hb with hb|hb
   ·exact(p2 b hb).mono λt ht=>by simp[ht]
   ·exact(q2 b hb).mono λt ht=>by simp[ht]
theorem vY(eh:EH c hp)(k:Bt c.ρ gs)(hU:∀t g,c.K t g->c.U t){t:TypeId}{s:SV}{v:Value}{fl:List Bool}{rs:List (Option RI)}{us:List Nat}{x:E}(hs:SR c [s] [v])(hx:BB hp gs A5 s=some x)(hg:(H5 s).2=Ao P t)
  (h:Hq P hp gs (A8 P t) (H5 s).1 fl=some (rs,us)):
  ∃rf hs,NL P c.w t fl v (x.den c.ρ) rf hs/\(∀b∈rf,c.dw us b)/\hs=(CL rs).flatMap (λt=>(c.G t).top)/\(∃vs',(if Ao P t then v= .agg vs'.toArray else vs'=[v])/\G2 P c (A8 P t) fl vs' rs)/\ ∀u∈CL rs,c.U u:=by
 have single:∀(s:SV),SR c [s] [v]->BB hp gs A5 s=some x->Ao P t=false->Hq P hp gs (A8 P t) [s] fl=some (rs,us)-> ∃rf hs,NL P c.w t fl v (x.den c.ρ) rf hs/\(∀b∈rf,c.dw us b)/\hs=(CL rs).flatMap (λt=>(c.G t).top)/\(∃vs',(if Ao P t then v= .agg vs'.toArray else vs'=[v])/\G2 P c (A8 P t) fl vs' rs)/\ ∀u∈CL rs,c.U u:=by
  intro s hs hx AH h;obtain⟨t0,MJ⟩:∃t0,A8 P t=[t0]:=by
   cases hh:A8 P t with
   |nil=>rw[hh]at h;simp[Hq]at h
   |cons t0 l=>
    cases l with
    |nil=>exact⟨t0,rfl⟩
    |cons t1 l=>rw[hh]at h;simp[Hq]at h
  rw[MJ]at h;have key:∃rf hs,Cr P c.w [t0] fl [v] [x.den c.ρ] rf hs/\(∀b∈rf,c.dw us b)/\hs=(CL rs).flatMap (λt=>(c.G t).top)/\G2 P c [t0] fl [v] rs/\ ∀u∈CL rs,c.U u:=by
   unfold Hq at h;simp only[Hq]at h;split at h
   ·rename_i hf;split at h
    ·rename_i r hr;simp only[Ad,AX]at h;obtain⟨rfl,rfl⟩:=h;unfold oB at hr;split at hr
     ·cases hr
     rename_i el Bo;split at hr
     ·cases hr
     rename_i hz;have empt:∀a,v= .slice a 0 0->x.den c.ρ= .sl []->r=none-> ∃rf hs,Cr P c.w [t0] fl [v] [x.den c.ρ] rf hs/\(∀b∈rf,c.dw ([]:List Nat) b)/\hs=(CL [r]).flatMap (λt=>(c.G t).top)/\G2 P c [t0] fl [v] [r]/\ ∀u∈CL [r],c.U u:=by rintro a rfl HX rfl;refine⟨[],[]++ [],?_,by simp,by simp[CL], .none (λ_=> .inr ⟨a,rfl⟩) .nil,by simp[CL]⟩;rw[HX];exact Cr.void hf Bo (by omega) .nil
     split at hr
     ·simp only[Ad]at hr;subst hr;cases hs with
      |cc _=>exact empt _ rfl (by rw[LM hx];rfl) rfl
     ·simp only[Ad]at hr;subst hr;cases hs with
      |emp _=>refine empt _ rfl ?_ rfl;simp[A5,BB]at hx;subst hx;rfl
     ·rename_i u g;split at hr
      ·rename_i e z g' x0 d hl;split at hr
       ·rename_i hh;obtain⟨rfl,rfl,rfl,Hc⟩:=hh;simp only[Ad]at hr;subst hr;obtain⟨p1,p2,N,p3,p4,p5,_⟩:=eh u _ (CG hl k);have Oa:Ca P e=true\/DB P t0=none:=Hc.imp (·.1) (by rintro⟨_,h⟩;simpa using h);have Hc:Ca P e=true/\N=[]\/Ca P e=false/\DB P t0=none:=by
         rcases Hc with⟨h1,h2⟩|⟨h1,h2⟩
         ·exact .inl ⟨h1,(p5 h2).1⟩
         ·exact .inr ⟨h1,by simpa using h2⟩
        have Hm:x=x0:=by simp[A5,BB,II,hl]at hx;exact hx.symm
        subst Hm;have hv:c.H u g=v:=by
         cases hs with
         |own _ k2 _=>exact k2
        rw[hv]at p3;refine⟨N++ [],(c.G u).top++ [],Cr.own hf Bo Hc p3 .nil,λb hb=> .inl (p4 b (by simpa using hb)),by simp[CL,RI.tag], .row hf Bo Oa p1 hv p2 .nil,λw hw=> ?_⟩;simp only[CL,List.filterMap_cons,Option.map_some,RI.tag,List.filterMap_nil,Ae,List.not_mem_nil,or_false]at hw;subst hw;exact hU _ _ p1
       ·cases hr
      ·rename_i e z l g' ep x0 hl;split at hr
       ·rename_i hh;obtain⟨rfl,Gi,DH⟩:=hh;have DH:=Pf DH;simp only[Ad]at hr;subst hr;obtain⟨p1,p2,pE,p3,_⟩:=eh u _ (CG hl k);have Hm:x=x0:=by
         simp[A5,BB,II,hl]at hx;exact hx.symm
        subst Hm;have hv:c.H u g=v:=by
         cases hs with
         |own _ k2 _=>exact k2
        rw[hv]at p3;refine⟨[],(c.G u).top++ [],Cr.deep hf Bo Gi DH p3 .nil,by simp,by simp[CL,RI.tag], .deep hf Bo Gi DH p1 hv p2 pE .nil,λw hw=> ?_⟩;simp only[CL,List.filterMap_cons,Option.map_some,RI.tag,List.filterMap_nil,Ae,List.not_mem_nil,or_false]at hw;subst hw;exact hU _ _ p1
       ·cases hr
      ·cases hr
     ·cases hr
    ·cases h
   ·rename_i hf;simp only[Ad,AX]at h;obtain⟨rfl,rfl⟩:=h;obtain⟨f,p1,p2⟩:=H6 eh k A5 hx hs A5 (AI _);refine⟨f++ [],[],Cr.rd (λhh=>absurd hh hf) p1 .nil,λb hb=> ?_,by simp[CL], .none (λhh=>absurd hh hf) .nil,by simp[CL]⟩;rw[AE]at hb;exact(p2 b hb).mono λt ht=>by simp[ht]
  obtain⟨rf,A4,q1,q2,q3,q4,q5⟩:=key;refine⟨rf,A4,⟨[v],[x.den c.ρ],?_,by rw[MJ];exact q1⟩,q2,q3,⟨[v],?_,by rw[MJ];exact q4⟩,q5⟩
  ·rw[if_neg (by rw[AH];simp)];exact⟨rfl,rfl⟩
  ·rw[if_neg (by rw[AH];simp)]
 cases s with
 |agg cs=>
  simp only[H5]at hg h;obtain⟨m,l,hm,hl,rfl⟩:=VG hx;cases hs with
  |agg h9 h1 h8=>
   rename_i as_;have CW:m<=A5:=by simp only[A5]at hm ⊢;omega
   obtain⟨rf,A4,q1,q2,q3,q4,q5⟩:=kV (P:=P) eh k hU (A8 P t) h h1 hl CW;refine⟨rf,A4,⟨as_,l.den c.ρ,?_,q1⟩,q2,q3,⟨as_,?_,q4⟩,q5⟩
   ·rw[if_pos hg.symm];exact⟨rfl,rfl,h9⟩
   ·rw[if_pos hg.symm]
 |_=>exact single _ hs hx hg.symm h
end
end
end Go.Proofs.YtalagilebkaegaaGreat

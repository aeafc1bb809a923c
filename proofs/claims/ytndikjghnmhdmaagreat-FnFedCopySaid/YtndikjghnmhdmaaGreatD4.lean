/- Parts of a proof, joined: VX, WB, WC, WD, WE, WF, WG, WH, WI, WJ, WK, WL, WM, WN, WO. -/
import Derived.Test.YtndikjghnmhdmaaGreatD3
import Derived.Orders
import Derived.Lib.SliceRun
import Derived.Laws.Slices
import Derived.Laws.MakeOwn
import Derived.Laws.StructEq
set_option linter.unusedVariables false
set_option linter.unusedSimpArgs false
namespace Go.Proofs.YtndikjghnmhdmaaGreat
open Go.RowKit
section
theorem DN(n:Nat):((n:Int)).toNat=n:=Int.toNat_natCast n
section
variable {P:Program} {c:Cx} {n nx:Nat} {sl sl0:Nat->SV} {hp hp0:Nat->Option Ae} {a:Act} {o:Oper} {gs:Gd} {e:A3} {sg:BN} {nv:Nat}
def Cx.en(c:Cx)(w':World)(t:Nat)(O:List Nat):Cx:={c with w:=w',G:=λu=>if u=t then⟨(c.G t).top,O⟩else c.G u,E:=λu=>if u=t then c.E u+1 else c.E u}
theorem Rel.jb(h:Rel c n sl hp a){t:Nat}{e0:Ae}{b:Nat}{w':World}{O:List Nat}(AT:Cq c.ρ (hp t) e0)(B0:b∈(c.G t).top)(hO:O=[]\/O=(c.G t).O)(hm:Mod [b] c.w w')(BF:w'.heap.size=c.w.heap.size)(e1:Ae)(BM:∀hs f,e1≠ .gd hs f)
  (he:DE c (c.en w' t O)->C5 (c.en w' t O) t e1):
  Rel (c.en w' t O) n sl (A9 hp [(t,e1)]) a:=by
 have Bd:b∈(c.G t).own:=by simp[GI.own,B0]
 have hG:∀u,(c.en w' t O).G u=if u=t then⟨(c.G t).top,O⟩else c.G u:=λu=>rfl;have EA:∀u,((c.en w' t O).G u).top=(c.G u).top:=by
  intro u;rw[hG];split
  ·rename_i hu;rw[hu]
  ·rfl
 have BT:∀u,∀q∈((c.en w' t O).G u).own,q∈(c.G u).own:=by
  intro u q hq;rw[hG]at hq;split at hq
  ·rename_i hu;subst hu;simp only[GI.own,Af]at hq ⊢;rcases hq with hq|hq
   ·exact .inl hq
   ·rcases hO with rfl|rfl
    ·simp at hq
    ·exact .inr hq
  ·exact hq
 have BX:DE c (c.en w' t O):=by
  refine⟨rfl,rfl,λq _ hq=>⟨λ⟨u,hu⟩=>hq.1 ⟨u,by rw[EA]at hu;exact hu⟩,hq.2⟩,λq hq AS=>hm.block q hq ?_,λu g hu=>⟨hu,rfl⟩,λu g hu=> ?_⟩
  ·simp only[List.mem_singleton];rintro rfl;exact AS.1 ⟨t,B0⟩
  ·by_cases F7:u=t
   ·have e1:(c.en w' t O).E u=c.E u+1:=by simp only[Cx.en,if_pos F7]
    exact⟨by omega,λh=>by omega⟩
   ·have e1:(c.en w' t O).E u=c.E u:=by simp only[Cx.en,if_neg F7]
    have e2:(c.en w' t O).G u=c.G u:=by simp only[Cx.en,if_neg F7]
    rw[e1];refine⟨Av _,λ_=>⟨e2,λq hq H6=>hm.block q H6 ?_⟩⟩;simp only[List.mem_singleton];rintro rfl;exact h.gw.cd t u (Ne.symm F7) q Bd (by simp[GI.own,hq])
 have DM:∀u,A9 hp [(t,e1)] u=if u=t then some e1 else hp u:=λu=>rfl;refine h.change (λu=>u=t) BX ⟨hm.os.trans h.base.os,hm.tape.trans h.base.tape,hm.output.trans h.base.output,Nat.le_trans h.base.size hm.size,h.base.pins,λq hq EU=> ?_,h.base.pk,h.base.lo⟩
  (λu hu=>⟨by rw[DM,if_neg hu],by rw[hG,if_neg hu],by simp[Cx.en,hu],λg hg=>hg⟩) (λu hu q hq=>hm.block q (h.gw.inb u q (by simp[GI.own,hq])) ?_) (λu hu=> ?_) ⟨λu=> ?_,λu v Y0 q hq Ku=>h.gw.cd u v Y0 q (BT u q hq) (BT v q Ku),λu q hq=>h.gw.allow u q (BT u q hq),λu q hq=> ?_⟩ h.bd (λu f hf=> ?_)
 ·refine(hm.block q (Nat.lt_of_lt_of_le hq h.base.size) ?_).trans (h.base.block q hq EU);simp only[List.mem_singleton];rintro rfl;rcases h.gw.allow t q Bd with hh|hh
  ·exact absurd hh (Nat.not_le.2 hq)
  ·exact EU hh
 ·simp only[List.mem_singleton];rintro rfl;exact h.gw.cd t u (Ne.symm hu) q Bd (by simp[GI.own,hq])
 ·subst hu;rw[DM,if_pos rfl];refine⟨λe' hr=> ?_,λhn=> ?_⟩
  ·cases e1<;>first
    |(simp only[Cq]at hr;subst hr;exact he BX)
    |exact absurd rfl (BM _ _)
  ·cases e1<;>first
    |exact absurd rfl (BM _ _)
    |exact absurd rfl (hn _)
 ·rw[hG];split
  ·rename_i hu;subst hu;have h0:=h.gw.nodup u;simp only[GI.own]at h0 ⊢;rcases hO with rfl|rfl
   ·rw[AB];exact(List.nodup_append.1 h0).1
   ·exact h0
  ·exact h.gw.nodup u
 ·show q<w'.heap.size;rw[BF];exact h.gw.inb u q (BT u q hq)
 ·rw[DM]at hf;split at hf
  ·rename_i hu;subst hu;cases hh:hp u with
   |none=>rw[hh]at AT;exact AT.elim
   |some e9=>exact h.ch u e9 hh
  ·exact h.ch u f hf
theorem PF{α:Type}(L vs:List α)(p m:Nat)(h:p+vs.length<=m)(hm:m<=L.length):(setVs L p vs).take m=setVs (L.take m) p vs:=by
 apply List.ext_getElem?;intro j;have hl:(L.take m).length=m:=by rw[Ax];omega
 rw[List.getElem?_take,PH (L.take m) vs p (by omega) j,PH L vs p (by omega) j,List.getElem?_take];by_cases h1:p<=j/\j<p+vs.length
 ·rw[if_pos (by omega),if_pos h1,if_pos h1]
 ·rw[if_neg h1,if_neg h1]
theorem Rd.setVs{w:World}{L V:List Value}{X Y:List AV}{N f:List Nat}{p:Nat}(h:Rd w L X N)(k:Rd w V Y f)(hp:p+V.length<=L.length):
  ∃n1 n2 n3,N=n1++n2++n3/\Rd w (Go.Proofs.YtndikjghnmhdmaaGreat.setVs L p V) (Go.Proofs.YtndikjghnmhdmaaGreat.setVs X p Y) (n1++f++n3)/\Rd w ((L.drop p).take V.length) ((X.drop p).take V.length) n2:=by
 have hl:=h.len;have hk:=k.len;have e1:L=L.take p++((L.drop p).take V.length++L.drop (p+V.length)):=by rw[<-List.drop_drop,BC,BC]
 have e2:X=X.take p++((X.drop p).take V.length++X.drop (p+V.length)):=by rw[<-List.drop_drop,BC,BC]
 have h':=h;rw[e1,e2]at h';obtain⟨n1,m,rfl,g1,g2⟩:=Rd.dg (by simp;omega) h';obtain⟨n2,n3,rfl,g3,g4⟩:=Rd.dg (by simp;omega) g2;refine⟨n1,n2,n3,by simp,?_,g3⟩;unfold Go.Proofs.YtndikjghnmhdmaaGreat.setVs;rw[<-hk];exact(g1.app k).app g4
theorem Wm{sz:Nat}:∀(ys:List AV) (k:Nat) (z y:AV) (o:Nat) (vc:List AV),(∀y∈ys,y.cells.length=sz)->ys[k]?=some y->o+vc.length<=sz->z.cells=setVs y.cells o vc->Ap (ys.set k z)=setVs (Ap ys) (k*sz+o) vc
 | [],k,z,y,o,vc,_,h,_,_=>by simp at h
 |q::ys,0,z,y,o,vc,hs,h,ho,hz=>by simp at h;subst h;have hq:=hs q (by simp);simp only[Ap,List.set_cons_zero,List.flatMap_cons,Nat.zero_mul,Nat.zero_add,hz];unfold setVs;rw[List.take_append_of_le_length (by omega),List.drop_append_of_le_length (by omega)];simp
 |q::ys,k+1,z,y,o,vc,hs,h,ho,hz=>by
  have hq:=hs q (by simp);have ih:=Wm ys k z y o vc (λu hu=>hs u (by simp[hu])) (by simpa using h) ho hz;simp only[Ap,List.set_cons_succ,List.flatMap_cons]at ih ⊢;rw[ih];unfold setVs;have e0:(k+1)*sz+o=q.cells.length+(k*sz+o):=by rw[hq,Nat.add_mul];omega
  rw[e0,List.take_length_add_append,Nat.add_assoc (q.cells.length),List.drop_length_add_append];simp
theorem bU{y x:AV}{k:Nat}{g:Bool}(hx:(∀cs,x≠ .agg cs)\/g=true)(hy:g=false->y.cells.length=1/\k=0/\x.cells=[x]):(y.cz k x g).cells=setVs y.cells k x.cells:=by
 cases g with
 |true=>simp[AV.cz,AV.cells,setVs]
 |false=>obtain⟨h1,h2,h3⟩:=hy rfl;subst h2;simp only[AV.cz,h3,setVs];rw[if_neg (by simp)];rw[h3];simp only[List.take_zero,List.nil_append,AR,List.length_nil,Nat.zero_add];rw[List.drop_eq_nil_of_le (by omega)];simp
theorem zpi(h:Bk P c n nx sl hp a sl0 hp0 o gs){t:TypeId}{x y:Operand}(ho:o.op= .store t x y){b g:Nat}{ix:E}{sz k:Nat}{s:SV}(A6:∃e z g c d,CT hp0 gs b=some (.row e z g c d))(hx:By sl0 gs x=some (.cf b g ix sz k))(hy:By sl0 gs y=some s)
  (he:Ma P hp0 gs t (.cf b g ix sz k) s=some e) (hc:∀q∈e.bu,Cn.den c.ρ q):Aw P o c n nx sl hp gs a e:=by
 have r1:=h.cj hx (by simp[ho,Op.operands]);have r2:=h.cj hy (by simp[ho,Op.operands]);simp only[Ma]at he;split at he
 ·rename_i el sz' g' c0 d hl;split at he
  ·rename_i hh;obtain⟨rfl,rfl,rfl,Bc,hle,Fh,D0⟩:=hh;split at he
   ·rename_i xe fz dx ck Ch;split at he
    ·cases he
    rename_i D2;simp only[Ac]at he;subst he;have D2:∀f,(b,f)∉fz:=λf hf=>D2 (by simp only[List.contains_eq_mem,Aq];exact List.mem_map.2 ⟨_,hf,rfl⟩);obtain⟨f,q1,q2,⟨ts,q3⟩,q5⟩:=lK h.rel h.hp h.gs r2 Ch (λq hq=>hc q (by simp[hq]));obtain⟨q3,q4⟩:=q3;have AT:=K0 h.hp (Cu hl h.gs);have C7:=h.rel.freeze h.hp h.gs q3;have LJ:Cq (c.bf (fz.map (·.1))).ρ (A9 hp fz b) (.row el sz g c0 d):=by rw[KO D2];exact AT
    obtain⟨e1,e2,N,e3,e4,e5,e6⟩:=C7.ents b _ LJ;obtain⟨o1,o2,o3,o4⟩:=cI (P:=P) q1 D0 q5;generalize hv:a.eval x=v at r1;cases r1 with
    |cf k1 k2 k3 k4 k5 _=>
     rename_i m len cap kk kv k6;obtain⟨xs,p1,p2,p3,pcase⟩:=e3;have p1':c0.den c.ρ= .sl xs:=p1;rcases pcase with⟨_,⟨_,pv⟩,_⟩|⟨g9,cap9,C,pv,p4,p5,p6,p7,p8,p9,p10⟩
     ·exfalso;have:c.H b g=_:=pv;rw[k2]at this;cases this;omega
     ·have pv':c.H b g= .slice (some ⟨g9,0,none⟩) xs.length cap9:=pv;rw[k2]at pv';simp only[Value.slice.injEq,Ac,Addr.mk.injEq,and_true]at pv';obtain⟨rfl,rfl,rfl⟩:=pv';have Hr:kv.toNat<xs.length:=by omega
      have FO:=Mg Hr;generalize Ia:(AV.sl xs).nth kv.toNat=yk at FO;have Fo:=p2 yk (List.mem_of_getElem? FO);have D4:(a.eval y).cells.toList.length=P.cellsOf t:=by simpa using o4
      have hmul:(kv.toNat+1)*sz<=xs.length*sz:=Bf _ (by omega);have Dw:C.toList.length=cap*sz:=by simpa using p7
      have Et:xs.length*sz<=cap*sz:=Bf _ p4;rw[Nat.add_mul]at hmul;have p6':c.w.heap[m]?=some (.cells C el (0,0)):=p6;obtain⟨m1,m2,m3⟩:=Vz (vs:=(a.eval y).cells.toList) p6' (show(kv.toNat*sz+k)+_<=C.size by rw[D4,p7];omega);have M1:(C.toList.take (xs.length*sz)).length=xs.length*sz:=by rw[Ax,Dw];omega
      obtain⟨n1,n2,n3,hN,s1,s2⟩:=Rd.setVs (p:=kv.toNat*sz+k) p10 o1 (by rw[M1,D4];omega);have Fk:∀z,z<c.w.heap.size->(c.bf (fz.map (·.1))).ok z->(putCells c.w m (kv.toNat*sz+k) (a.eval y).cells.toList).heap[z]?=c.w.heap[z]?:=by intro z hz AS;refine m1.block z hz ?_;simp only[List.mem_singleton];rintro rfl;exact AS.1 ⟨b,by rw[p8];simp⟩
      have BP:(d&&dx)=true->n2=[]/\f=[]:=by
       intro EG;have uF:Cn.den c.ρ (.flat (.fld (.idx c0 ix) k (P.cellsOf t) (Aj P t)) (P.cellsOf t) (Aj P t)):=hc _ (by simp[EG]);obtain⟨f1,f2,f3,f4⟩:=uF;simp only[Ab]at EG;refine⟨?_,q2 EG.2⟩;have Nf:((Ap xs).drop (kv.toNat*sz+k)).take (a.eval y).cells.toList.length=(yk.cells.drop k).take (P.cellsOf t):=by rw[D4];exact S6 xs p2 _ _ FO k (P.cellsOf t) hle
       rw[Nf]at s2;have Ca:(E.fld (.idx c0 ix) k (P.cellsOf t) (Aj P t)).den c.ρ=yk.fld k (P.cellsOf t) (Aj P t):=by simp only[E.den,p1',k3,AV.idx,Ia]
       rw[Ca]at f2;refine G9 s2 ?_;cases hg:Aj P t with
       |true=>rw[hg]at f2;simpa[AV.fld,AV.cells]using f2
       |false=>
        have h1:P.cellsOf t=1:=by rcases D0 with h'|h';rw[hg]at h';cases h';exact h'
        rw[Ca]at f4;have f4:=f4 hg;rw[hg]at f4;have AL:k<yk.cells.length:=by omega
        rw[h1,Be AL,List.take_succ_cons,List.take_zero];simp only[List.mem_singleton,forall_eq];simpa[AV.fld,AL]using f4
      have hz:(yk.cz k (xe.den c.ρ) (Aj P el)).cells=setVs yk.cells k (xe.den c.ρ).cells:=by
       refine bU ?_ (λhg=> ?_)
       ·cases hg:Aj P el with
        |true=>exact .inr rfl
        |false=>
         left;rcases Fh with h'|⟨_,h'⟩
         ·rw[hg]at h';cases h'
         ·have h':Aj P t=false:=by simpa using h'
          rw[h']at q5;exact λcs=>(q5.1 cs)
       ·rcases Fh with h'|⟨h1,h'⟩
        ·rw[hg]at h';cases h'
        ·have h':Aj P t=false:=by simpa using h'
         rw[h']at q5;have Ra:P.cellsOf t=1:=by rcases D0 with h2|h2;rw[h']at h2;cases h2;exact h2
         refine⟨by omega,by omega,?_⟩;cases Y3:xe.den c.ρ<;>first|rfl|exact absurd Y3 (q5.1 _)
      have Eo:Ap (xs.set kv.toNat (yk.cz k (xe.den c.ρ) (Aj P el)))=setVs (Ap xs) (kv.toNat*sz+k) (xe.den c.ρ).cells:=
       Wm xs _ _ yk k _ p2 FO (by rw[o3];exact hle) hz
      have DI:=C7.jb (t:=b) (b:=m) (w':=putCells c.w m (kv.toNat*sz+k) (a.eval y).cells.toList) (O:=if(d&&dx)=true then((c.bf (fz.map (·.1))).G b).O else []) LJ (by rw[p8];simp) (by split;exact .inr rfl;exact .inl rfl) m1 m3
       (.row el sz g (.set c0 ix (.put (.idx c0 ix) k xe (Aj P el))) (d&&dx)) (by intros;simp) (λF5=>by
        have FF:∀z∈n1++f++n3,(c.bf (fz.map (·.1))).ok z:=by
         intro z hz;simp only[Af]at hz;rcases hz with(hz|hz)|hz
         ·exact e4 z (by rw[hN];simp[hz])
         ·exact q4 z hz
         ·exact e4 z (by rw[hN];simp[hz])
        have QW:∀z∈n1++f++n3,z<c.w.heap.size:=s1.inb;refine⟨e1,e2,n1++f++n3,⟨xs.set kv.toNat (yk.cz k (xe.den c.ρ) (Aj P el)),?_,λz Y9=> ?_,p3, .inr ⟨m,cap,_,?_,by simpa using p4,p5,m2,?_,?_,?_,?_⟩⟩,λz hz=>F5.ok z (QW z hz) (FF z hz),λEG=> ?_,λEG=> ?_⟩
        ·show AV.cx (c0.den c.ρ) (ix.den c.ρ) (((c0.den c.ρ).idx (ix.den c.ρ)).cz k (xe.den c.ρ) (Aj P el))=_;rw[p1',k3];simp only[AV.idx,Ia,AV.cx]
        ·rcases List.mem_or_eq_of_mem_set Y9 with Y9|rfl
         ·exact p2 z Y9
         ·rw[hz,PK _ _ _ (by rw[o3,Fo];exact hle)];exact Fo
        ·rw[List.length_set];exact k2
        ·rw[List.size_toArray,PK _ _ _ (by rw[D4,Dw];omega),BG];exact p7
        ·simpa[Cx.en]using p8
        ·simp only[List.length_set,List.toList_toArray];rw[PF _ _ _ _ (by rw[D4];omega) (by rw[Dw];omega)];intro u hu;unfold setVs at hu;simp only[Af]at hu;rcases hu with(hu|hu)|hu
         ·exact p9 u (Bw hu)
         ·exact o2 u hu
         ·exact p9 u (B1 hu)
        ·simp only[List.length_set,List.toList_toArray];rw[PF _ _ _ _ (by rw[D4];omega) (by rw[Dw];omega),Eo];exact s1.frame λz hz=>Fk z (QW z hz) (FF z hz)
        ·obtain⟨z1,z2⟩:=BP EG;have hd:d=true:=by simp only[Ab]at EG;exact EG.1
         obtain⟨u1,u2⟩:=e5 hd;have T4:n1++f++n3=N:=by rw[hN,z1,z2]
         rw[T4];refine⟨u1.frame λz hz=>Fk z (p10.inb z hz) (e4 z hz),?_⟩;simp only[Cx.en,if_true,EG];exact u2
        ·simp[Cx.en,EG])
      intro next Q hk
      unfold Oper.wp;have hr:(execOp a.eval o).run P c.w= .ok .skip (putCells c.w m (kv.toNat*sz+k) (a.eval y).cells.toList):=by have:=aZ (P:=P) (t:=t) (v:=a.eval y) (off:=kv.toNat*sz+k) p6' Bc o4 (by rw[o4,p7];omega) o2;simp[execOp,ho,hv,this]
      rw[hr,Oper.upon_skip];refine hk _ ((c.bf (fz.map (·.1))).en (putCells c.w m (kv.toNat*sz+k) (a.eval y).cells.toList) b (if(d&&dx)=true then((c.bf (fz.map (·.1))).G b).O else [])) ⟨rfl,rfl,rfl,rfl,λt ht=> .inl ht⟩ ?_;have:=DI.put (v:=Go.undef) ((SR.undef .nil).mkGd []) o.dst;rw[NW];exact this
   ·cases he
  ·cases he
 all_goals (rename_i hl;obtain⟨_,_,_,_,_,Bz⟩:=A6;first|(rw[Bz]at hl;cases hl;done)|exact absurd Bz (hl _ _ _ _ _)|cases he)
end
def JP(a:Act)(o:Oper):Bool:=match o.op with| .binOp _ _ x _ _=>(match a.eval x with| .slice none _ _=>true|_=>false)|_=>false
section
variable (P:Program) (sg:BN) (Rt:Nat->List AV->AV->Prop)
def On:Prop:= ∀(c:Cx) (n nx:Nat) (sl:Nat->SV) (hp:Nat->Option Ae) (a:Act) (sl0:Nat->SV) (hp0:Nat->Option Ae) (o:Oper) (gs:Gd) (e:A3) (nv:Nat),Bk P c n nx sl hp a sl0 hp0 o gs-> ¬c.U (nx+999)->K7 P sg sl0 hp0 nv nx gs o=some e->
 (∀q∈e.bu,q.den c.ρ)->(∀cl,e.call=some cl-> ∃r,c.ρ[nv]?=some r/\HH Rt cl.fn ((EL.of cl.args).den c.ρ) c.ρ r)->(∀x,e.bm=some x->c.ρ[nv]?=some (.bool (JP a o)))->Aw P o c n nx sl hp gs a e
def TK:Prop:= ∀(c:Cx) (n nx:Nat) (sl:Nat->SV) (hp:Nat->Option Ae) (a:Act) (sl0:Nat->SV) (hp0:Nat->Option Ae) (o:Oper) (gs:Gd) (e:A3) (nv:Nat) (x:E),Bk P c n nx sl hp a sl0 hp0 o gs->K7 P sg sl0 hp0 nv nx gs o=some e->e.bm=some x->JP a o=true->x.den c.ρ= .sl []
end
theorem mS{hp:Nat->Option Ae}(l:List (Nat × Ae))(t:Nat):(A9 hp l t=hp t/\ ∀e,(t,e)∉l)\/ ∃e,(t,e)∈l/\A9 hp l t=some e:=by
 induction l generalizing hp with
 |nil=>exact .inl ⟨rfl,by simp⟩
 |cons p l ih=>
  obtain⟨u,f⟩:=p;rcases ih (hp:=λv=>if v=u then some f else hp v)with⟨h1,h2⟩|⟨e,h1,h2⟩
  ·by_cases ht:t=u
   ·subst ht;refine .inr ⟨f,by simp,?_⟩;have:A9 hp ((t,f)::l) t=A9 (λv=>if v=t then some f else hp v) l t:=rfl;rw[this,h1];simp
   ·refine .inl ⟨?_,λe he=> ?_⟩
    ·have:A9 hp ((u,f)::l) t=A9 (λv=>if v=u then some f else hp v) l t:=rfl;rw[this,h1,if_neg ht]
    ·rcases Ad.1 he with he|he
     ·cases he;exact ht rfl
     ·exact h2 e he
  ·exact .inr ⟨e,by simp[h1],h2⟩
section
variable {P:Program} {sg:BN} {Rt:Nat->List AV->AV->Prop} {c:Cx} {n nx:Nat} {sl:Nat->SV} {hp:Nat->Option Ae} {a:Act} {ops:Array Oper} {o:Oper} {gs:Gd} {e:A3}
theorem Rel.skip(h:Rel c n sl hp a)(hg: ¬Bg c.ρ gs){l:List (Nat × Ae)}(hl:∀t x,(t,x)∈l->nx<=t/\t<nx+BJ/\ ∃hs y,x= .gd hs y/\Lc gs hs=true)(A0:∀t,nx<=t->t<nx+BJ-> ¬c.U t)(s:SV)(d:Option Nat):
  Rel {c with U:=λt=>c.U t\/(nx<=t/\t<nx+BJ)} n (Cz n sl d (mkGd gs s)) (A9 hp l) (a.put d undef):=by
 have hs:SR {c with U:=λt=>c.U t\/(nx<=t/\t<nx+BJ)} [mkGd gs s] [undef]:=by
  cases gs with
  |nil=>exact absurd (ED _) hg
  |cons g gs=>exact .gd (λhh=>absurd hh hg) (λ_=>rfl) .nil
 refine Rel.put ?_ hs d;refine h.change (λt=> ∃x,(t,x)∈l) ⟨rfl,rfl,λ_ _ hb=>hb,λ_ _ _=>rfl,λ_ _ hk=>⟨hk,rfl⟩,λ_ _ _=>⟨Av _,λ_=>⟨rfl,λ_ _ _=>rfl⟩⟩⟩ ⟨h.base.os,h.base.tape,h.base.output,h.base.size,λt v hp=>⟨.inl (h.base.pins t v hp).1,(h.base.pins t v hp).2⟩,h.base.block,h.base.pk,h.base.lo⟩ (λt ht=> ?_) (λ_ _ _ _=>rfl) (λt ht=> ?_) ⟨h.gw.nodup,h.gw.cd,h.gw.allow,h.gw.inb⟩ (λt g hk=> .inl (h.bd t g hk)) (λt x hx=> ?_)
 ·exact⟨KO λx hx=>ht ⟨x,hx⟩,rfl,rfl,λg hk=>hk⟩
 ·obtain⟨x,hx⟩:=ht;rcases mS (hp:=hp) l t with⟨_,h2⟩|⟨x',h1,h2⟩
  ·exact absurd hx (h2 x)
  ·obtain⟨q1,q2,hs,y,rfl,BT⟩:=hl t x' h1;have DQ:∀e',¬Cq c.ρ (A9 hp l t) e':=by
    rw[h2];exact λe' hr=>hg (WG BT hr.1)
   refine⟨λe' hr=>absurd hr (DQ e'),λ_=>h.off t λe' hr=> ?_⟩;cases hh:hp t with
   |none=>rw[hh]at hr;exact hr.elim
   |some e9=>exact A0 t q1 q2 (h.ch t e9 hh)
 ·rcases mS (hp:=hp) l t with⟨h1,_⟩|⟨x',h1,_⟩
  ·rw[h1]at hx;exact .inl (h.ch t x hx)
  ·obtain⟨q1,q2,_⟩:=hl t x' h1;exact .inr ⟨q1,q2⟩
def TX(ρ:List AV)(ops:Array Oper)(o:Oper)(a:Act):Option Gd->Prop
 |none=>Region.wanted o (yielded ops a.tmps)=false
 |some gs=>(Bg ρ gs->Region.wanted o (yielded ops a.tmps)=true)/\(¬Bg ρ gs->Region.wanted o (yielded ops a.tmps)=false)
theorem dE{σ:St}{r:Option Gd}(hg:NV σ ops o=some r)(hs:∀j want d,o.guard=some (j,want)->(ops[j]?).bind (·.dst)=some d->SR c [BI σ d] [a.tmps.getD d undef]):TX c.ρ ops o a r:=by
 unfold NV at hg;cases Gu:o.guard with
 |none=>rw[Gu]at hg;simp only[Ac]at hg;subst hg;exact⟨λ_=>by simp[Region.wanted,Gu],λhn=>absurd (ED _) hn⟩
 |some jw=>
  obtain⟨j,want⟩:=jw;rw[Gu]at hg;simp only at hg;cases hd:(ops[j]?).bind (·.dst)with
  |none=>rw[hd]at hg;simp only[Ac]at hg;subst hg;simp[TX,Region.wanted,Gu,yielded,hd]
  |some d=>
   rw[hd]at hg;simp only at hg;have hr:=hs j want d Gu hd;have hw:∀v,a.tmps.getD d undef=v->Region.wanted o (yielded ops a.tmps)=(match v with| .bool b=>b==want|_=>false):=by
    intro v hv;simp only[Region.wanted,Gu,yielded,hd,Aa];rw[Array.getD_eq_getD_getElem?]at hv;cases hq:a.tmps[d]? with
    |none=>rw[hq]at hv;simp at hv;subst hv;simp[undef]
    |some u=>rw[hq]at hv;simp at hv;subst hv;cases u<;>simp
   generalize a.tmps.getD d undef=v at hr hw;have hw:=hw v rfl;have Ky:v=undef->Region.wanted o (yielded ops a.tmps)=false:=by rintro rfl;rw[hw];simp[undef]
   have G2:∀x f,Rd c.w [v] [x] f->(x= .bool want->Region.wanted o (yielded ops a.tmps)=true)/\(x≠ .bool want->Region.wanted o (yielded ops a.tmps)=false):=by
    intro x f hx;refine⟨λh=> ?_,λh=> ?_⟩
    ·rw[hw,HG hx h];simp
    ·rw[hw];cases v<;>simp only;rename_i b;cases hx with
     |bool _=>simpa using λhh=>h (by rw[hh])
   split at hg
   ·rename_i b CU;rw[CU]at hr;cases hr with
    |e h1 _ _=>
     simp only[Ac]at hg;subst hg;obtain⟨q1,q2⟩:=G2 _ _ h1;simp only[E.den,AV.bool.injEq]at q1 q2;split
     ·rename_i hb;simp only[AJ]at hb;exact⟨λ_=>q1 hb,λhn=>absurd (ED _) hn⟩
     ·rename_i hb;simp only[AJ]at hb;exact q2 (by simpa using hb)
   ·rename_i x _ CU;rw[CU]at hr;cases hr with
    |e h1 _ _=>simp only[Ac]at hg;subst hg;obtain⟨q1,q2⟩:=G2 _ _ h1;exact⟨λhh=>q1 (hh (x,want) (by simp)),λhn=>q2 λhh=>hn (by intro g hg;simp at hg;subst hg;exact hh)⟩
   ·rename_i Ba s CU;rw[CU]at hr;cases hr with
    |gd h1 h2 _=>
     split at hg
     ·rename_i hf;simp only[Ac]at hg;subst hg;refine Ky (h2 λhk=> ?_);simp only[rF,List.any_eq_true]at hf;obtain⟨g,hg,Yf⟩:=hf;have:=hk g hg;split at Yf
      ·rename_i b hb;rw[hb]at this;simp only[E.den,AV.bool.injEq]at this;simp[this]at Yf
      ·cases Yf
     ·split at hg
      ·rename_i b;simp only[Ac]at hg;subst hg;by_cases hk:Bg c.ρ Ba
       ·have h1:=h1 hk;cases h1 with
        |e h1 _ _=>
         obtain⟨q1,q2⟩:=G2 _ _ h1;simp only[E.den,AV.bool.injEq]at q1 q2;split
         ·rename_i hb;simp only[AJ]at hb;exact⟨λ_=>q1 hb,λhn=>absurd hk hn⟩
         ·rename_i hb;simp only[AJ]at hb;exact q2 (by simpa using hb)
       ·split
        ·exact⟨λhh=>absurd hh hk,λ_=>Ky (h2 hk)⟩
        ·exact Ky (h2 hk)
      ·rename_i x _;simp only[Ac]at hg;subst hg;by_cases hk:Bg c.ρ Ba
       ·have h1:=h1 hk;cases h1 with
        |e h1 _ _=>obtain⟨q1,q2⟩:=G2 _ _ h1;exact⟨λhh=>q1 (hh (x,want) (by simp)),λhn=>q2 λhh=>hn (by intro g hg;rcases Ad.1 hg with rfl|hg;exact hh;exact hk g hg)⟩
       ·exact⟨λhh=>absurd (λg hg=>hh g (by simp[hg])) hk,λ_=>Ky (h2 hk)⟩
      ·cases hg
   ·cases hg
theorem rL(AQ:On P sg Rt){Q:Exit->Act->World->Prop}{K:Act->World->Prop}{i nv:Nat}(hi:ops[i]?=some o)(hrel:Rel c n sl hp a){sl0:Nat->SV}{hp0:Nat->Option Ae}(E0:TX c.ρ ops o a (some gs))
  (CU:∀t,Operand.tmp t∈o.op.operands->sl0 t=sl t) (uP:∀t e,hp0 t=some e->hp t=some e) (A0:∀t,nx<=t->t<nx+BJ-> ¬c.U t)
  (he:K7 P sg sl0 hp0 nv nx gs o=some e) (Bu:gs≠ []-> ∀t x,(t,x)∈e.bc->nx<=t/\t<nx+BJ/\ ∃hs y,x= .gd hs y/\Lc gs hs=true)
  (hc:Bg c.ρ gs-> ∀q∈e.bu,q.den c.ρ) (Bb:∀cl,e.call=some cl-> ∃r,c.ρ[nv]?=some r/\(Bg c.ρ gs->HH Rt cl.fn ((EL.of cl.args).den c.ρ) c.ρ r)) (CI:∀x,e.bm=some x->Bg c.ρ gs->c.ρ[nv]?=some (.bool (JP a o)))
  (hK:∀a' c',Mp c c' nx->Rel c' n (Cz n sl o.dst (mkGd gs e.val)) (A9 hp e.bc) a'->K a' c'.w):wpOp P ops Q i K a c.w:=by
 unfold wpOp;simp only[hi];by_cases hg:Bg c.ρ gs
 ·rw[if_pos (E0.1 hg)];exact .inl (AQ c n nx sl hp a sl0 hp0 o gs e nv ⟨hrel,hg,CU,uP,λt h1 h2=>A0 t h1 (by simp only[BJ];omega)⟩ (A0 _ (by omega) (by simp[BJ])) he (hc hg) (λcl Ar=>by obtain⟨r,h1,h2⟩:=Bb cl Ar;exact⟨r,h1,h2 hg⟩) (λx hx=>CI x hx hg) _ _ hK)
 ·rw[if_neg (by rw[E0.2 hg];simp)];have BM:gs≠ []:=by rintro rfl;exact hg (ED _)
  exact hK _ {c with U:=λt=>c.U t\/(nx<=t/\t<nx+BJ)} ⟨rfl,rfl,rfl,rfl,λt ht=>ht⟩ (hrel.skip hg (Bu BM) A0 e.val o.dst)
end
def Cx.ext(c:Cx)(τ:List AV):Cx:={c with ρ:=c.ρ++τ}
theorem den_app{ρ τ:List AV}{x:E}(h:x.sc ρ.length=true):x.den (ρ++τ)=x.den ρ:=by have:=E.ax ρ τ [] x h;rw[AB]at this;exact this
theorem zvX{ρ τ:List AV}{x:EL}(h:x.sc ρ.length=true):x.den (ρ++τ)=x.den ρ:=by have:=EL.ax ρ τ [] x h;rw[AB]at this;exact this
theorem KM{ρ τ:List AV}{gs:Gd}(h:R8 ρ.length gs=true):Bg (ρ++τ) gs↔Bg ρ gs:=by simp only[R8,A7]at h;exact⟨λk g hg=>by rw[<-den_app (τ:=τ) (h g hg)];exact k g hg,λk g hg=>by rw[den_app (h g hg)];exact k g hg⟩
theorem BD.fb{n:Nat}:∀{cs:BD},cs.sc n=true-> ∀s∈cs.toList,s.sc n=true
 | .nil,_,s,h=>by simp[BD.toList]at h
 | .cons s cs,h,u,hu=>by
  simp only[BD.sc,Ab]at h;simp only[BD.toList,Ad]at hu;rcases hu with rfl|hu
  ·exact h.1
  ·exact BD.fb h.2 u hu
section
variable {c:Cx} {n:Nat} {sl:Nat->SV} {hp:Nat->Option Ae} {a:Act} {τ:List AV}
theorem HU.ext{t g:Nat}{p:Mx}{v:Value}(hs:(match p with|some q=>q.1.sc c.ρ.length|none=>true)=true)(h:HU c t g p v):HU (c.ext τ) t g p v:=by
 cases p with
 |none=>exact trivial
 |some p=>obtain⟨i,z,o⟩:=p;obtain⟨b,n,cap,C,ty,fz,kk,k,h1,h2,h3,h4,h5⟩:=h;exact⟨b,n,cap,C,ty,fz,kk,k,h1,h2,h3,by show i.den (c.ρ++τ)=_;rw[den_app hs];exact h4,h5⟩
theorem SR.ext{ss:List SV}{vs:List Value}(h:SR c ss vs):(∀s∈ss,s.sc c.ρ.length=true)->SR (c.ext τ) ss vs:=by
 have tl:∀{s:SV} {ss:List SV},(∀x∈s::ss,x.sc c.ρ.length=true)-> ∀x∈ss,x.sc c.ρ.length=true:=λh x hx=>h x (by simp[hx]);have hd:∀{s:SV} {ss:List SV},(∀x∈s::ss,x.sc c.ρ.length=true)->s.sc c.ρ.length=true:=λh=>h _ (by simp);have hρ:(c.ext τ).ρ=c.ρ++τ:=rfl
 induction h with
 |nil=>exact λ_=> .nil
 |undef _ ih=>exact λhs=> .undef (ih (tl hs))
 |e h1 h2 _ ih=>exact λhs=> .e (by rw[hρ,den_app (hd hs)];exact h1) h2 (ih (tl hs))
 |bq _ ih=>exact λhs=> .bq (ih (tl hs))
 |emp _ ih=>exact λhs=> .emp (ih (tl hs))
 |own h1 h2 _ ih=>exact λhs=> .own h1 h2 (ih (tl hs))
 |ca h1 h2 _ ih=>exact λhs=> .ca h1 h2 (ih (tl hs))
 |cf h1 h2 h3 h4 h5 _ ih=>exact λhs=> .cf h1 h2 (by rw[hρ,den_app (hd hs)];exact h3) h4 h5 (ih (tl hs))
 |c9 h1 h2 h3 h4 h5 h6 _ ih=>intro hs;have:=hd hs;simp only[SV.sc,Ab]at this;exact .c9 (by rw[hρ,den_app this.1];exact h1) h2 (by rw[hρ,den_app this.2];exact h3) h4 h5 (by rw[hρ,den_app this.1];exact h6) (ih (tl hs))
 |c7 h1 h2 _ ih=>exact λhs=> .c7 (by rw[hρ,den_app (hd hs)];exact h1) h2 (ih (tl hs))
 |agg h9 _ _ ih1 ih2=>exact λhs=> .agg h9 (ih1 (BD.fb (hd hs))) (ih2 (tl hs))
 |tup _ _ ih1 ih2=>exact λhs=> .tup (ih1 (BD.fb (hd hs))) (ih2 (tl hs))
 |fn _ _ ih1 ih2=>exact λhs=> .fn (ih1 (BD.fb (hd hs))) (ih2 (tl hs))
 |gd _ h2 _ ih1 ih2=>intro hs;have:=hd hs;simp only[SV.sc,Ab]at this;exact .gd (λhg=>ih1 ((KM this.1).1 hg) (by simpa using this.2)) (λhg=>h2 λk=>hg ((KM this.1).2 k)) (ih2 (tl hs))
 | @via t g n p x v ss vs h1 h2 h3 _ ih=>intro hs;have:=hd hs;simp only[SV.sc,Ab]at this;refine .via h1 h2 (λhe=> ?_) (ih (tl hs));obtain⟨q1,q2⟩:=h3 he;exact⟨by rw[hρ,den_app this.2];exact q1,HU.ext (τ:=τ) this.1 q2⟩
 | @vptr t g n p x i sz o v ss vs h1 h2 h3 _ ih=>intro hs;have:=hd hs;simp only[SV.sc,Ab]at this;refine .vptr h1 h2 (λhe=> ?_) (ih (tl hs));obtain⟨b,off,len,cap,kk,k,q1,q2,q3,q4,q5,q6,q7⟩:=h3 he;exact⟨b,off,len,cap,kk,k,by rw[hρ,den_app this.1.2];exact q1,HU.ext (τ:=τ) this.1.1 q2,by rw[hρ,den_app this.2];exact q3,q4,q5,by rw[hρ,den_app this.1.2];exact q6,q7⟩
 |wown h1 h2 h3 h4 h5 h6 _ ih=>exact λhs=> .wown h1 h2 (by rw[hρ,den_app (hd hs)];exact h3) h4 h5 h6 (ih (tl hs))
 | @lent i _ _ _ h1 _ ih=>exact λhs=> .lent (by rw[hρ,den_app (x:= .var i) (by simpa[SV.sc,E.sc]using hd hs)];exact h1) (ih (tl hs))
theorem C5.ext{t:Nat}{e:Ae}(h:C5 c t e)(hs:e.sc c.ρ.length=true):C5 (c.ext τ) t e:=by
 have hρ:(c.ext τ).ρ=c.ρ++τ:=rfl;cases e with
 |box ty g cs=>obtain⟨b,C,h1,h2,h3,h4,h5,h6,h7⟩:=h;exact⟨b,C,h1,h2,h3,h4,h5,h6,h7.ext (by simpa[Ae.sc]using hs)⟩
 |row ety sz g x d=>obtain⟨h1,h2,N,h3,h4,h5⟩:=h;exact⟨h1,h2,N,by rw[hρ,den_app hs];exact h3,h4,h5⟩
 |bf g x=>obtain⟨h1,⟨f,h2,h3⟩,h4⟩:=h;exact⟨h1,⟨f,by rw[hρ,den_app hs];exact h2,h3⟩,h4⟩
 |gd gs e=>exact h
 |dead=>exact h
 |deep e z l g ep x=>obtain⟨h1,h2,h3,h4,h5⟩:=h;exact⟨h1,h2,h3,by rw[hρ,den_app hs];exact h4,h5⟩
 |hol e z l g ep x i o u=>simp only[Ae.sc,Ab]at hs;obtain⟨h1,h2,h3,h4,h5⟩:=h;exact⟨h1,h2,h3,by rw[hρ,den_app hs.1,den_app hs.2];exact h4,h5⟩
 |pre e z l g ep x k=>simp only[Ae.sc,Ab]at hs;obtain⟨h1,h2,h3,h4,h5⟩:=h;exact⟨h1,h2,h3,by rw[hρ,den_app hs.1,den_app hs.2];exact h4,h5⟩
theorem zye{ρ:List AV}{e0 e:Ae}(hs:e0.sc ρ.length=true):Cq (ρ++τ) (some e0) e↔Cq ρ (some e0) e:=by
 cases e0 with
 |gd gs x=>simp only[Ae.sc,Ab]at hs;simp only[Cq];rw[KM hs.1]
 |_=>simp[Cq]
theorem Rel.ext(h:Rel c n sl hp a)(h1:∀i,(sl i).sc c.ρ.length=true)(h2:∀t e,hp t=some e->e.sc c.ρ.length=true)(τ:List AV):Rel (c.ext τ) n sl hp a:=by
 have key:∀t e,Cq (c.ρ++τ) (hp t) e↔Cq c.ρ (hp t) e:=by
  intro t e;cases hh:hp t with
  |none=>exact Iff.rfl
  |some e0=>exact zye (h2 t e0 hh)
 refine⟨h.defers,h.size,⟨h.base.os,h.base.tape,h.base.output,h.base.size,h.base.pins,h.base.block,h.base.pk,h.base.lo⟩,λi=>(h.ct i).ext (by simpa using h1 i),λt e hr=> ?_,λt hn=>h.off t λe hr=>hn e ((key t e).2 hr),⟨h.gw.nodup,h.gw.cd,h.gw.allow,h.gw.inb⟩,h.bd,h.ch⟩;have CW:=(key t e).1 hr;have he:=h.ents t e CW;cases hh:hp t with
 |none=>rw[hh]at CW;exact CW.elim
 |some e0=>
  have DL:=h2 t e0 hh;rw[hh]at CW;cases e0 with
  |gd gs x=>
   obtain⟨_,rfl⟩:=CW;simp only[Ae.sc,Ab]at DL;cases x with
   |gd=>exact he
   |dead=>exact he
   |box=>exact he.ext (by simpa[Ae.sc]using DL.2)
   |row=>exact he.ext (by simpa[Ae.sc]using DL.2)
   |bf=>exact he.ext (by simpa[Ae.sc]using DL.2)
   |deep=>exact he.ext (by simpa[Ae.sc]using DL.2)
   |hol=>exact he.ext (by simpa[Ae.sc]using DL.2)
   |pre=>exact he.ext (by simpa[Ae.sc]using DL.2)
  |_=>simp only[Cq]at CW;subst CW;exact he.ext DL
theorem St.kj{σ:St}(h:σ.sc=true)(i:Nat):(BI σ i).sc σ.nv=true:=by
 simp only[St.sc,Ab,A7]at h;unfold BI;cases hi:σ.sl[i]? with
 |none=>simp[SV.sc]
 |some s=>exact h.1 s (List.mem_of_getElem? hi)
theorem St.jy{σ:St}(h:σ.sc=true)(t:Nat)(e:Ae)(he:AA σ.hp t=some e):e.sc σ.nv=true:=by simp only[St.sc,Ab,A7]at h;exact h.2 _ (Ih he)
theorem Cn.iz{ρ τ:List AV}{q:Cn}(h:q.sc ρ.length=true):q.den (ρ++τ)↔q.den ρ:=by
 cases q<;>simp only[Cn.sc,Ab]at h<;>simp only[Cn.den]
 case dfd=>rw[den_app h]
 case agg=>rw[den_app h]
 case cells=>rw[den_app h]
 case inb=>rw[den_app h.1,den_app h.2]
 case inbS=>rw[den_app h.1,den_app h.2]
 case win=>rw[den_app h.1.1,den_app h.1.2,den_app h.2]
 case winS=>rw[den_app h.1.1,den_app h.1.2,den_app h.2]
 case room=>rw[den_app h.1,den_app h.2]
 case roomS=>rw[den_app h.1,den_app h.2]
 case mkroom=>rw[den_app h]
 case nz=>rw[den_app h]
 case nn=>rw[den_app h]
 case isref=>rw[den_app h]
 case issl=>rw[den_app h]
 case flat=>rw[den_app h]
 case flatS=>rw[den_app h]
 case kinds=>rw[den_app h]
theorem eJ:SR c [GO] [Go.undef]:= .gd (λhg=>by have:=hg (.bool false,true) (by simp);simp[E.den]at this) (λ_=>rfl) .nil
theorem oI{ρ:List AV}{x:E}{b:Bool}{hs:Gd}(hx:x.den ρ= .bool b)(h:Ol (x, !b) hs=true): ¬Bg ρ hs:=by intro k;have:=pF h k;simp only at this;rw[hx]at this;simp at this
theorem bO{ρ:List AV}{x:E}{b:Bool}{hs:Gd}(hx:x.den ρ= .bool b):Bg ρ (hs.filter λh=> !(h.1.beq x&&h.2==b))↔Bg ρ hs:=by
 refine⟨λk g hg=> ?_,λk g hg=>k g (List.mem_filter.1 hg).1⟩;by_cases hh:(g.1.beq x&&g.2==b)=true
 ·simp only[Ab,AJ]at hh;rw[E.ak ρ _ _ hh.1,hx,hh.2]
 ·exact k g (List.mem_filter.2 ⟨hg,by rw[Bool.not_eq_true]at hh;rw[hh];rfl⟩)
theorem SR.je{s:SV}{v:Value}{gs:Gd}(h1:Bg c.ρ gs->SR c [s] [v])(h2: ¬Bg c.ρ gs->v=Go.undef):SR c [Go.Proofs.YtndikjghnmhdmaaGreat.mkGd gs s] [v]:=by
 cases gs with
 |nil=>exact h1 (ED _)
 |cons g gs=>exact .gd h1 h2 .nil
theorem SR.ey{x:E}{b:Bool}(hx:x.den c.ρ= .bool b){s:SV}{v:Value}(h:SR c [s] [v]):SR c [assumeS x b s] [v]:=by
 cases s with
 |gd hs s=>
  simp only[Go.Proofs.YtndikjghnmhdmaaGreat.assumeS];cases h with
  |gd h1 h2 _=>
   split
   ·rename_i hm;rw[h2 (oI hx hm)];exact eJ
   ·exact SR.je (λk=>h1 ((bO hx).1 k)) (λk=>h2 λk'=>k ((bO hx).2 k'))
 |_=>exact h
theorem zvL(f:Ae->Ae)(l:List (Nat × Ae))(t:Nat):AA (l.map λ(t,e)=>(t,f e)) t=(AA l t).map f:=by
 induction l with
 |nil=>rfl
 |cons p l ih=>
  obtain⟨u,e⟩:=p;simp only[List.map_cons,AA];split
  ·rfl
  ·exact ih
theorem Rel.ey{x:E}{b:Bool}(hx:x.den c.ρ= .bool b)(h:Rel c n sl hp a):Rel c n (λi=>assumeS x b (sl i)) (λt=>(hp t).map (assumeE x b)) a:=by
 have LD:∀t,(∀e,Cq c.ρ (hp t) e-> ∃gs y,e= .gd gs y\/e= .dead)->(c.G t).top=[]/\(c.G t).O=[]:=by
  intro t ht;by_cases hh:∃e,Cq c.ρ (hp t) e
  ·obtain⟨e,he⟩:=hh;obtain⟨gs,y,rfl|rfl⟩:=ht e he
   ·exact h.ents t _ he
   ·exact h.ents t _ he
  ·exact h.off t λe he=>hh ⟨e,he⟩
 have cases':∀t,((∀e,Cq c.ρ ((hp t).map (assumeE x b)) e↔Cq c.ρ (hp t) e))\/((hp t).map (assumeE x b)=some .dead/\(c.G t).top=[]/\(c.G t).O=[]):=by
  intro t;cases hh:hp t with
  |none=>exact .inl λe=>Iff.rfl
  |some e0=>
   cases e0 with
   |gd hs y=>
    by_cases hm:Ol (x, !b) hs=true
    ·refine .inr ⟨by simp[Go.Proofs.YtndikjghnmhdmaaGreat.assumeE,hm],LD t λe he=> ?_⟩;rw[hh]at he;exact absurd he.1 (oI hx hm)
    ·by_cases hy:∃gs z,y= .gd gs z
     ·obtain⟨gs,z,rfl⟩:=hy;refine .inr ⟨by simp[Go.Proofs.YtndikjghnmhdmaaGreat.assumeE,hm],LD t λe he=> ?_⟩;rw[hh]at he;exact⟨gs,z, .inl he.2.symm⟩
     ·refine .inl λe=> ?_;have he:assumeE x b (.gd hs y)=CB (hs.filter λh=> !(h.1.beq x&&h.2==b)) y:=by
       simp only[Go.Proofs.YtndikjghnmhdmaaGreat.assumeE,hm,Bv,if_false];cases y<;>first|rfl|exact absurd ⟨_,_,rfl⟩ hy
      simp only[Option.map_some,he];show _↔Bg c.ρ hs/\y=e;rw[<-bO hx];generalize (hs.filter λh=> !(h.1.beq x&&h.2==b))=fs;cases fs with
      |nil=>simp only[CB,ED,true_and];cases y<;>first|exact absurd ⟨_,_,rfl⟩ hy|exact Iff.rfl
      |cons g fs=>exact Iff.rfl
   |_=>exact .inl λe=>Iff.rfl
 refine⟨h.defers,h.size,h.base,λi=>(h.ct i).ey hx,λt e hr=> ?_,λt hn=> ?_,h.gw,h.bd,λt e he=> ?_⟩
 ·rcases cases' t with hc|⟨hc,h1,h2⟩
  ·exact h.ents t e ((hc e).1 hr)
  ·rw[hc]at hr;have:Ae.dead=e:=hr;subst this;exact⟨h1,h2⟩
 ·rcases cases' t with hc|⟨hc,h1,h2⟩
  ·exact h.off t λe he=>hn e ((hc e).2 he)
  ·exact⟨h1,h2⟩
 ·cases hh:hp t with
  |none=>rw[hh]at he;cases he
  |some e0=>exact h.ch t e0 hh
end
theorem bV{σ:St}{d:Option Nat}{s:SV}:BI (Ha σ d s)=Cz σ.sl.length (BI σ) d s:=by
 funext i;cases d with
 |none=>simp[Ha,Cz]
 |some d=>
  simp only[Ha,BI,Cz,Ac,List.getElem?_set];by_cases h:d=i
  ·subst h;by_cases h2:d<σ.sl.length
   ·simp[h2]
   ·simp[h2,List.getElem?_eq_none (Nat.le_of_not_lt h2)]
  ·simp[h]
theorem bC{σ:St}{d:Option Nat}{s:SV}:(Ha σ d s).sl.length=σ.sl.length:=by cases d<;>simp[Ha]
theorem cC{σ:St}{d:Option Nat}{s:SV}:(Ha σ d s).hp=σ.hp:=by cases d<;>rfl
theorem bX{σ:St}{d:Option Nat}{s:SV}:(Ha σ d s).nv=σ.nv:=by cases d<;>rfl
theorem zuV(l:List (Nat × Ae))(t:Nat)(e:Ae)(u:Nat):AA (La l t e) u=if u=t then some e else AA l u:=by
 induction l with
 |nil=>
  simp only[La,AA];by_cases h:t=u
  ·simp[h]
  ·rw[if_neg h,if_neg (Ne.symm h)]
 |cons p l ih=>
  obtain⟨v,f⟩:=p;simp only[La];split
  ·rename_i hv;subst hv;simp only[AA];by_cases h:v=u
   ·simp[h]
   ·rw[if_neg h,if_neg (Ne.symm h),if_neg h]
  ·rename_i hv;simp only[AA];by_cases h:v=u
   ·subst h;rw[if_pos rfl,if_neg hv,if_pos rfl]
   ·rw[if_neg h,ih,if_neg h]
theorem mP:∀(ents:List (Nat × Ae)) (l:List (Nat × Ae)),AA (ents.foldl (λl (p:Nat × Ae)=>La l p.1 p.2) l)=A9 (AA l) ents
 | [],l=>rfl
 |(t,e)::ents,l=>by
  simp only[List.foldl_cons];rw[mP ents];have:AA (La l t e)=λu=>if u=t then some e else AA l u:=by funext u;exact zuV l t e u
  rw[this];rfl
section
variable {P:Program} {sg:BN} {Rt:Nat->List AV->AV->Prop} {ops:Array Oper}
theorem pI{σ:St}{gs:Gd}{o:Oper}{e:A3}:BI (KN σ gs o e)=Cz σ.sl.length (BI σ) o.dst (mkGd gs e.val):=by rw[<-bV];rfl
theorem pR{σ:St}{gs:Gd}{o:Oper}{e:A3}:AA (KN σ gs o e).hp=A9 (AA σ.hp) e.bc:=by
 have:(KN σ gs o e).hp=e.bc.foldl (λl (p:Nat × Ae)=>La l p.1 p.2) σ.hp:=by show e.bc.foldl (λl (p:Nat × Ae)=>La l p.1 p.2) (Ha σ o.dst (mkGd gs e.val)).hp=_;rw[cC]
 rw[this,mP]
theorem nU{σ:St}{gs:Gd}{o:Oper}{e:A3}:(KN σ gs o e).sl.length=σ.sl.length:=by show(Ha σ o.dst (mkGd gs e.val)).sl.length=_;rw[bC]
theorem eC{σ:St}{gs:Gd}{o:Oper}{e:A3}:(KN σ gs o e).nv=if e.call.isSome||e.bm.isSome then σ.nv+1 else σ.nv:=by show(if e.call.isSome||e.bm.isSome then(Ha σ o.dst (mkGd gs e.val)).nv+1 else(Ha σ o.dst (mkGd gs e.val)).nv)=_;rw[bX]
theorem eG{R:AV->Prop}{gs:Gd}{k:Tr}{L:LK}{js:List JK}{ρ:List AV}:∀{cs:List Cn},(cs.foldr (λc k=> .bu gs c k) k:Tr).den Rt R L js ρ->(Bg ρ gs-> ∀q∈cs,q.den ρ)/\k.den Rt R L js ρ
 | [],h=>⟨by simp,h⟩
 |c::cs,h=>by
  obtain⟨h1,h2⟩:=h;obtain⟨h3,h4⟩:=eG h2;refine⟨λhg q hq=> ?_,h4⟩;rcases Ad.1 hq with rfl|hq
  ·exact h1 hg
  ·exact h3 hg q hq
theorem pD{l:List (Nat × Ae)}{R:List Nat}{t:Nat}{e:Ae}(h:QI l R t=some e):AA l t=some e:=by
 unfold QI at h;split at h
 ·exact h
 ·cases h
theorem mL{f:Nat ⊕ E}{as_:EL}{ρ τ:List AV}{r:AV}(h1:(match f with| .inl _=>true| .inr x=>x.sc ρ.length)=true)(h2:as_.sc ρ.length=true):HH Rt f (as_.den (ρ++τ)) (ρ++τ) r↔HH Rt f (as_.den ρ) ρ r:=by
 rw[zvX h2];cases f with
 |inl f=>exact Iff.rfl
 |inr x=>simp only[HH];rw[den_app h1]
theorem EL.jh{n:Nat}:∀{l:List E},l.all (E.sc n)=true->(EL.of l).sc n=true
 | [],_=>rfl
 |x::l,h=>by simp only[List.all_cons,Ab]at h;simp only[EL.of,EL.sc,Ab];exact⟨h.1,EL.jh h.2⟩
structure Iw(F:Fix)(c:Cx)(σ:St)(a:Act)(n m:Nat):Prop where
 w0:c.w0=F.w0
 A:c.A=F.A
 Mu:c.Mu=F.Mu
 nv:c.ρ.length=σ.nv
 len:σ.sl.length=n
 U:∀t,c.U t->t<m
 rel:Rel c n (BI σ) (AA σ.hp) a
theorem Iw.ext{F:Fix}{c:Cx}{σ:St}{a:Act}{n m:Nat}(h:Iw F c σ a n m)(hs:σ.sc=true)(τ:List AV):Rel (c.ext τ) n (BI σ) (AA σ.hp) a:=
 h.rel.ext (λi=>by rw[h.nv];exact St.kj hs i) (λt e he=>by rw[h.nv];exact St.jy hs t e he) τ
theorem xQ(AQ:On P sg Rt)(Dp:TK P sg){F:Fix}{c:Cx}{σ:St}{a:Act}{n i base:Nat}{o:Oper}{gs:Gd}{e:A3}{k:Tr}{R:AV->Prop}{L:LK}{js:List JK}{Q:Exit->Act->World->Prop}{K:Act->World->Prop}
  (hi:ops[i]?=some o) (hm:Iw F c σ a n (base+BJ*i)) (E0:TX c.ρ ops o a (some gs)) {Rs:List Nat} (he:K7 P sg (BI σ) (QI σ.hp Rs) σ.nv (base+BJ*i) gs o=some e) (DL:QB σ.nv (base+BJ*i) σ.hp gs e=true)
  (RM:(e.call.isSome||e.bm.isSome)=true->σ.sc=true) (hd:(W4 gs e k).den Rt R L js c.ρ)
  (hK:∀(c':Cx) (a':Act),c.ρ<+:c'.ρ->Iw F c' (KN σ gs o e) a' n (base+BJ*(i+1))->k.den Rt R L js c'.ρ->K a' c'.w):wpOp P ops Q i K a c.w:=by
 simp only[QB,Ab,A7]at DL;obtain⟨⟨⟨⟨BE,A1⟩,Hu⟩,iJ⟩,YR⟩:=DL;have Bu:gs≠ []-> ∀t x,(t,x)∈e.bc->base+BJ*i<=t/\t<base+BJ*i+BJ/\ ∃hs y,x= .gd hs y/\Lc gs hs=true:=by
  intro BM t x hx;have:=YR _ hx;have Rc:gs.isEmpty=false:=by cases gs;exact absurd rfl BM;rfl
  simp only[Rc,Bool.false_or,Bool.false_and,Bool.or_false,Ab,Aq]at this;refine⟨this.1.1,this.1.2,?_⟩;have h3:=this.2;split at h3
  ·exact⟨_,_,rfl,h3⟩
  ·cases h3
 have A0:∀t,base+BJ*i<=t->t<base+BJ*i+BJ-> ¬c.U t:=λt h1 _ h3=>by have:=hm.U t h3;omega
 have FT:∀(τ:List AV),Rel (c.ext τ) n (BI σ) (AA σ.hp) a->τ.length=(if e.call.isSome||e.bm.isSome then 1 else 0)->k.den Rt R L js (c.ρ++τ)->(Bg c.ρ gs-> ∀q∈e.bu,q.den c.ρ)->
   (∀cl,e.call=some cl-> ∃r,τ=[r]/\(Bg c.ρ gs->HH Rt cl.fn ((EL.of cl.args).den c.ρ) c.ρ r))->(∀x,e.bm=some x->τ=[.bool (JP a o)])->wpOp P ops Q i K a c.w:=by
  intro τ hrel hτ hk hc Bb CI;have FP:σ.nv=c.ρ.length:=hm.nv.symm;rw[FP]at BE A1 Hu;have Rl:∀r,τ=[r]->(c.ρ++τ)[σ.nv]?=some r:=by rintro r rfl;rw[FP];simp
  refine rL (c:=c.ext τ) AQ hi hrel ⟨λhg=>E0.1 ((KM BE).1 hg),λhg=>E0.2 λk=>hg ((KM BE).2 k)⟩ (λ_ _=>rfl) (λt e h=>pD h) A0 he Bu (λhg q hq=> ?_) (λcl Ar=> ?_) (λx hx _=>Rl _ (CI x hx)) (λa' c' A4 hr=> ?_)
  ·exact(Cn.iz (A1 q hq)).2 (hc ((KM BE).1 hg) q hq)
  ·obtain⟨r,rfl,h2⟩:=Bb cl Ar;rw[Ar]at Hu;simp only[Ab]at Hu;exact⟨r,Rl r rfl,λhg=>(mL Hu.1 (EL.jh Hu.2)).2 (h2 ((KM BE).1 hg))⟩
  ·have hρ:c'.ρ=c.ρ++τ:=A4.ρ;refine hK c' a' ⟨τ,hρ.symm⟩ ⟨A4.w0.trans hm.w0,A4.A.trans hm.A,A4.Mu.trans hm.Mu,?_,by rw[nU];exact hm.len,λt ht=> ?_,?_⟩ (by rw[hρ];exact hk)
   ·rw[hρ,eC,AE,hτ,FP];split<;>rfl
   ·have hmul:base+BJ*(i+1)=base+BJ*i+BJ:=by rw[Nat.mul_add];omega
    rw[hmul];rcases A4.U t ht with h|h
    ·have:=hm.U t h;omega
    ·exact h.2
   ·rw[pI,pR,hm.len];exact hr
 unfold W4 at hd;obtain⟨hc,hd⟩:=eG hd;cases Ar:e.call with
 |none=>
  simp only[Ar]at hd;cases CI:e.bm with
  |none=>simp only[CI]at hd;refine FT [] (by have:=hm.rel;simpa[Cx.ext]using this) (by simp[Ar,CI]) (by simpa using hd) hc (λcl h=>by rw[Ar]at h;cases h) (λx h=>by rw[CI]at h;cases h)
  |some x=>simp only[CI]at hd;have FR:=RM (by simp[CI]);refine FT [.bool (JP a o)] (hm.ext FR _) (by simp[CI]) (hd _ λhg hb=> ?_) hc (λcl h=>by rw[Ar]at h;cases h) (λx h=>rfl);exact Dp c n _ _ _ a _ _ o gs e _ x ⟨hm.rel,hg,λ_ _=>rfl,λt e h=>pD h,λt h1 h2=>A0 t h1 (Nat.lt_of_lt_of_le h2 (Nat.add_le_add_left (by decide) _))⟩ he CI hb
 |some cl=>
  simp only[Ar]at hd;cases CI:e.bm with
  |some x=>rw[CI]at iJ;simp[Ar]at iJ
  |none=>simp only[CI]at hd;obtain⟨r,h1,h2⟩:=hd;have FR:=RM (by simp[Ar]);refine FT [r] (hm.ext FR _) (by simp[Ar]) h2 hc (λcl' h=>by rw[Ar]at h;cases h;exact⟨r,rfl,h1⟩) (λx h=>by rw[CI]at h;cases h)
theorem zuX{σ:St}{x:E}{b:Bool}{d:Nat}:BI (assume x b d σ)=Cz σ.sl.length (λi=>assumeS x b (BI σ i)) (some d) (.e (.bool b)):=by
 funext i;simp only[assume,BI,Cz,Ac,List.getElem?_set,List.length_map,List.getElem?_map];by_cases h:d=i
 ·subst h;by_cases h2:d<σ.sl.length
  ·simp[h2]
  ·simp[h2,List.getElem?_eq_none (Nat.le_of_not_lt h2),assumeS]
 ·simp only[h,false_and,if_false];cases hh:σ.sl[i]?<;>simp[assumeS]
theorem zuM{σ:St}{x:E}{b:Bool}{d:Nat}:AA (assume x b d σ).hp=λt=>(AA σ.hp t).map (assumeE x b):=by funext t;exact zvL _ _ _
theorem Iw.assume{F:Fix}{c:Cx}{σ:St}{a:Act}{n m:Nat}(h:Iw F c σ a n m){x:E}{b:Bool}(hx:x.den c.ρ= .bool b){d:Nat}(hd:BI σ d= .e x):Iw F c (Go.Proofs.YtndikjghnmhdmaaGreat.assume x b d σ) a n m:=by
 refine⟨h.w0,h.A,h.Mu,h.nv,?_,h.U,?_⟩
 ·simp only[Go.Proofs.YtndikjghnmhdmaaGreat.assume,List.length_set,List.length_map];exact h.len
 ·rw[zuX,zuM];have hr:=h.rel.ey hx;refine{hr with ct:=λi=> ?_};unfold Cz;split
  ·rename_i hi;obtain⟨hi,_⟩:=hi;cases hi;have:=h.rel.ct d;rw[hd]at this;generalize a.tmps.getD d Go.undef=v at this;cases this with
   |e h1 h2 _=>exact .e (f:=[]) (by rw[hx]at h1;rw[HG h1 rfl];exact .bool .nil) (by simp) .nil
  ·exact hr.ct i
theorem zuU(AQ:On P sg Rt)(Dp:TK P sg){F:Fix}{base:Nat}{R:AV->Prop}{L:LK}{js:List JK}{Q:Exit->Act->World->Prop}{n:Nat}{next:List Log->St->Option Tr}{i:Nat}{o:Oper}{lg:List Log}{rest:List Nat}(hi:ops[i]?=some o)
  (Cs:∀(lg:List Log) (σ:St) (t:Tr),next lg σ=some t-> ∀(c:Cx) (a:Act),Iw F c σ a n (base+BJ*(i+1))->t.den Rt R L js c.ρ->(∀(c':Cx) (a':Act) (σ':St),c.ρ<+:c'.ρ->L js .normal σ' c'.ρ->Gj F c'.ρ σ' a' c'.w->Q .normal a' c'.w)->wpOps P ops Q rest a c.w):
  ∀(m:Nat) (σ:St) (t:Tr),TP P sg ops false base next i o lg m σ=some t->
  ∀(c:Cx) (a:Act),Iw F c σ a n (base+BJ*i)->t.den Rt R L js c.ρ->(∀(c':Cx) (a':Act) (σ':St),c.ρ<+:c'.ρ->L js .normal σ' c'.ρ->Gj F c'.ρ σ' a' c'.w->Q .normal a' c'.w)->wpOps P ops Q (i::rest) a c.w:=by
 have Nb:base+BJ*i<=base+BJ*(i+1):=by rw[Nat.mul_add];omega
 have try_:∀(fail:Unit->Option Tr) (σ:St) (t:Tr),TU P sg ops false base next i o lg fail σ=some t-> ∀(c:Cx) (a:Act),Iw F c σ a n (base+BJ*i)->t.den Rt R L js c.ρ->(∀(c':Cx) (a':Act) (σ':St),c.ρ<+:c'.ρ->L js .normal σ' c'.ρ->Gj F c'.ρ σ' a' c'.w->Q .normal a' c'.w)->
   (fail ()=some t->wpOps P ops Q (i::rest) a c.w)->wpOps P ops Q (i::rest) a c.w:=by
  intro fail σ t ht c a hm hd hq Rh;unfold TU at ht;cases Gu:NV σ ops o with
  |none=>rw[Gu]at ht;cases ht
  |some r=>
   have E0:=dE (c:=c) (a:=a) Gu (λj want d _ _=>hm.rel.ct d);rw[Gu]at ht;cases r with
   |none=>simp only at ht;rw[wpOps_cons];unfold wpOp;simp only[hi];rw[if_neg (by simp[show Region.wanted o (yielded ops a.tmps)=false from E0])];refine Cs lg _ t ht c _ ⟨hm.w0,hm.A,hm.Mu,by rw[bX];exact hm.nv,by rw[bC];exact hm.len,λt ht=>Nat.lt_of_lt_of_le (hm.U t ht) Nb,?_⟩ hd hq;rw[bV,cC,hm.len];exact hm.rel.put eJ o.dst
   |some gs=>
    simp only at ht;split at ht
    ·rename_i e he;split at ht
     ·cases ht
     ·rename_i As;split at ht
      ·cases ht
      ·rename_i k hk;simp only[Ac]at ht;subst ht;simp only[Bool.false_and,Bool.false_or,Bool.not_false,Bool.true_and,Bool.or_eq_true,Br,Ab,not_or,Bool.not_eq_false]at As;rw[wpOps_cons];refine xQ AQ Dp hi hm E0 he As.1 (λhh=> ?_) hd λc' a' hp E1 B7=>Cs _ _ k hk c' a' E1 B7 λc'' a'' σ' hp'=>hq c'' a'' σ' (hp.trans hp');have:=As.2;simp only[Bool.or_eq_true]at hh;simpa[hh]using this
    ·exact Rh ht
 intro m
 induction m with
 |zero=>exact λσ t ht c a hm hd hq=>try_ _ σ t ht c a hm hd hq λh=>by cases h
 |succ m ih=>
  intro σ t ht c a hm hd hq;refine try_ _ σ t ht c a hm hd hq λh=> ?_;split at h
  ·rename_i d _ _;split at h
   ·rename_i x OB;split at h
    ·rename_i k1 k0 Hq Jw;simp only[Ac]at h;subst h;obtain⟨tt,h1,h2,h3⟩:=hd;cases tt with
     |true=>exact ih _ k1 Hq c a (hm.assume h1 OB) (h2 rfl) hq
     |false=>exact ih _ k0 Jw c a (hm.assume h1 OB) (h3 rfl) hq
    ·cases h
   ·cases h
  ·cases h
theorem rH(AQ:On P sg Rt)(Dp:TK P sg){F:Fix}{base:Nat}{R:AV->Prop}{L:LK}{js:List JK}{Q:Exit->Act->World->Prop}{n:Nat}:∀(len i:Nat) (lg:List Log) (σ:St) (t:Tr),i+len=ops.size->K9 P sg ops false base (List.range' i len) lg σ=some t->
  ∀(c:Cx) (a:Act),Iw F c σ a n (base+BJ*i)->t.den Rt R L js c.ρ->(∀(c':Cx) (a':Act) (σ':St),c.ρ<+:c'.ρ->L js .normal σ' c'.ρ->Gj F c'.ρ σ' a' c'.w->Q .normal a' c'.w)->wpOps P ops Q (List.range' i len) a c.w
 |0,i,lg,σ,t,hl,ht,c,a,hm,hd,hq=>by
  simp only[List.range'_zero,K9,Bool.false_and,Bv,if_false,Ac]at ht ⊢;subst ht;refine hq c a _ (List.prefix_refl _) hd ⟨c,rfl,rfl,hm.w0,hm.A,hm.Mu,hm.nv,λt ht=> ?_,?_⟩
  ·have:=hm.U t ht;have h9:i=ops.size:=by omega
   subst h9;exact this
  ·have:=hm.rel;rw[<-hm.len]at this;exact this
 |len+1,i,lg,σ,t,hl,ht,c,a,hm,hd,hq=>by
  rw[List.range'_succ]at ht ⊢;unfold K9 at ht;obtain⟨o,hi⟩:∃o,ops[i]?=some o:=⟨ops[i]'(by omega),by simp[show i<ops.size by omega]⟩
  rw[hi]at ht;simp only at ht;exact zuU AQ Dp hi (λlg σ t ht c a=>rH AQ Dp (n:=n) len (i+1) lg σ t (by omega) ht c a) 4 σ t ht c a hm hd hq
end
def fU(l:List Oper)(bs:List Nat):Prop:=bs.length=l.length/\ ∀(j:Nat) (o:Oper),l[j]?=some o-> ∀i,((bs[j]?).getD 0).testBit i=true-> ∃e∈o.after.toList,Region.binds .any e=true/\(i=e.on\/(e.on<j/\((bs[e.on]?).getD 0).testBit i=true))
theorem lB(acc:List Nat)(i:Nat):∀(es:List Edge) (s:Nat),(es.foldl (λs e=>if Region.binds .any e then s|||2^e.on|||(acc[e.on]?).getD 0 else s) s).testBit i=true->
  s.testBit i=true\/ ∃e∈es,Region.binds .any e=true/\(i=e.on\/((acc[e.on]?).getD 0).testBit i=true)
 | [],s,h=> .inl h
 |e::es,s,h=>by
  simp only[List.foldl_cons]at h;rcases lB acc i es _ h with h|⟨e',h1,h2⟩
  ·split at h
   ·rename_i hb;simp only[Nat.testBit_or,Nat.testBit_two_pow,Bool.or_eq_true,Aq]at h;rcases h with(h|h)|h
    ·exact .inl h
    ·exact .inr ⟨e,by simp,hb, .inl h.symm⟩
    ·exact .inr ⟨e,by simp,hb, .inr h⟩
   ·exact .inl h
  ·exact .inr ⟨e',by simp[h1],h2⟩
theorem nZ:∀(os pre:List Oper) (acc:List Nat),fU pre acc->fU (pre++os) (J5 os acc)
 | [],pre,acc,h=>by simpa[J5]using h
 |o::os,pre,acc,h=>by
  obtain⟨hl,hb⟩:=h;have:=nZ os (pre++ [o]) (acc++ [eN acc o]) ⟨by simp[hl],λj o' ho i hi=> ?_⟩
  ·simpa[J5]using this
  ·have AL:∀k,k<acc.length->((acc++ [eN acc o])[k]?).getD 0=(acc[k]?).getD 0:=λk hk=>by rw[List.getElem?_append_left hk]
   by_cases hj:j<pre.length
   ·rw[List.getElem?_append_left hj]at ho;rw[AL j (by omega)]at hi;obtain⟨e,h1,h2,h3⟩:=hb j o' ho i hi;exact⟨e,h1,h2,h3.imp id λh=>⟨h.1,by rw[AL _ (by omega)];exact h.2⟩⟩
   ·rw[List.getElem?_append_right (by omega)]at ho;have uR:j-pre.length=0:=by
     cases hh:j-pre.length with
     |zero=>rfl
     |succ k=>rw[hh]at ho;simp at ho
    rw[uR]at ho;simp at ho;subst ho;have H5:j=acc.length:=by omega
    rw[H5,List.getElem?_append_right (Av _)]at hi;simp only[Nat.sub_self,List.getElem?_cons_zero,CR]at hi;rcases lB acc i _ 0 hi with h|⟨e,h1,h2,h3⟩
    ·simp at h
    ·refine⟨e,h1,h2,h3.imp id λh=> ?_⟩;have he:e.on<acc.length:=by
      rcases Nat.lt_or_ge e.on acc.length with hh|hh
      ·exact hh
      ·rw[List.getElem?_eq_none hh]at h;simp at h
     exact⟨by omega,by rw[AL _ he];exact h⟩
def TH(ops:Array Oper)(S:Nat->Bool):Prop:= ∀k o,S k=true->ops[k]?=some o-> ∀e∈o.after.toList,Region.binds .any e=true->S e.on=true
theorem s8(ops:Array Oper):fU ops.toList (J5 ops.toList []):=by have:=nZ ops.toList [] [] ⟨rfl,by simp⟩;simpa using this
theorem mK{ops:Array Oper}{S:Nat->Bool}(hS:TH ops S):∀(k i:Nat),S k=true->k<ops.size->(((J5 ops.toList [])[k]?).getD 0).testBit i=true->S i=true:=by
 intro k
 induction k using Nat.strongRecOn with
 |_ k ih=>
  intro i hk AL hb;have ho:ops.toList[k]?=some ops[k]:=by simp[AL]
  obtain⟨e,h1,h2,h3⟩:=(s8 ops).2 k _ ho i hb;have RF:=hS k ops[k] hk (by simp[AL]) e h1 h2;rcases h3 with rfl|⟨h3,h4⟩
  ·exact RF
  ·exact ih e.on h3 i RF (by omega) h4
theorem zv1{ops:Array Oper}{S:Nat->Bool}(hS:TH ops S){j i:Nat}{o:Oper}(ho:ops[j]?=some o)(hr:∀e∈o.after.toList,Region.binds .any e=true->S e.on=true)(hb:(((J5 ops.toList [])[j]?).getD 0).testBit i=true):S i=true:=by
 have AL:j<ops.size:=(Array.getElem?_eq_some_iff.1 ho).1;obtain⟨e,h1,h2,h3⟩:=(s8 ops).2 j o (by simpa using ho) i hb;have RF:=hr e h1 h2;rcases h3 with rfl|⟨h3,h4⟩
 ·exact RF
 ·exact mK hS e.on i RF (by omega) h4
theorem zu2{ops:Array Oper}{S:Nat->Bool}(hS:TH ops S){j i:Nat}{o:Oper}(ho:ops[j]?=some o)(hi:i<ops.size)(hj:S j=false)(hr:∀e∈o.after.toList,Region.binds .any e=true->S e.on=true)(BM:i≠j)(Ks:I7 (J5 ops.toList []) i j=true):S i=decide (i<j):=by
 unfold I7 at Ks;split at Ks
 ·rename_i h;rw[zv1 hS ho hr Ks];simp[h]
 ·rename_i h;cases hs:S i with
  |false=>simp[h]
  |true=>have:=mK hS i j hs hi Ks;rw[hj]at this;cases this
structure Rec where
 i:Nat
 o:Oper
 σ:St
 r:Option (Gd × A3)
def Rec.next(x:Rec):St:=match x.r with|none=>Ha x.σ x.o.dst GO|some (gs,e)=>KN x.σ gs x.o e
def Rec.val(x:Rec):SV:=match x.r with|none=>GO|some (gs,e)=>mkGd gs e.val
def Rec.bc(x:Rec):List (Nat × Ae):=match x.r with|none=> []|some (_,e)=>e.bc
def jE(P:Program)(sg:BN)(Rt:Nat->List AV->AV->Prop)(ops:Array Oper)(base:Nat)(ρ:List AV)(x:Rec):Prop:=
 ops[x.i]?=some x.o/\match x.r with
  |none=>NV x.σ ops x.o=some none
  |some (gs,e)=>NV x.σ ops x.o=some (some gs)/\K7 P sg (BI x.σ) (QI x.σ.hp (Tt x.σ gs x.o)) x.σ.nv (base+BJ*x.i) gs x.o=some e/\e.bm=none/\QB x.σ.nv (base+BJ*x.i) x.σ.hp gs e=true/\
   (Bg ρ gs-> ∀q∈e.bu,q.den ρ)/\ ∀cl,e.call=some cl-> ∃r,ρ[x.σ.nv]?=some r/\(Bg ρ gs->HH Rt cl.fn ((EL.of cl.args).den ρ) ρ r)
def DW:Nat->St->List Rec->St->Prop
 |_,σ,[],σ'=>σ=σ'
 |i,σ,x::xs,σ'=>x.i=i/\x.σ=σ/\DW (i+1) x.next xs σ'
def Rec.log(x:Rec):Option Log:=x.r.map λ(gs,e)=>⟨x.i,Tt x.σ gs x.o,e.bc.map (·.1)⟩
theorem cU{P:Program}{sg:BN}{Rt:Nat->List AV->AV->Prop}{ops:Array Oper}{base:Nat}{R:AV->Prop}{L:LK}{js:List JK}:∀(len i:Nat) (lg:List Log) (σ:St) (t:Tr) (ρ:List AV),i+len=ops.size->
  K9 P sg ops true base (List.range' i len) lg σ=some t->t.den Rt R L js ρ->ρ.length=σ.nv->
  ∃(τ:List AV) (xs:List Rec) (σ':St) (lg':List Log),DW i σ xs σ'/\xs.length=len/\(∀x∈xs,jE P sg Rt ops base (ρ++τ) x)/\(ρ++τ).length=σ'.nv/\L js .normal {σ' with nx:=base+BJ*ops.size} (ρ++τ)/\W7 ops lg'=true/\(∀y∈lg,y∈lg')/\ ∀x∈xs,∀y,x.log=some y->y∈lg'
 |0,i,lg,σ,t,ρ,hl,ht,hd,hn=>by
  simp only[List.range'_zero,K9,Bool.true_and]at ht;split at ht
  ·cases ht
  ·rename_i H0;simp only[Ac]at ht;subst ht;exact⟨[],[],σ,lg,rfl,rfl,by simp,by simpa using hn,by simpa[Tr.den]using hd,by simpa using H0,λy hy=>hy,by simp⟩
 |len+1,i,lg,σ,t,ρ,hl,ht,hd,hn=>by
  rw[List.range'_succ]at ht;unfold K9 at ht;obtain⟨o,hi⟩:∃o,ops[i]?=some o:=⟨ops[i]'(by omega),by simp[show i<ops.size by omega]⟩
  rw[hi]at ht;simp only at ht;unfold TP TU at ht;cases Gu:NV σ ops o with
  |none=>rw[Gu]at ht;cases ht
  |some r=>
   rw[Gu]at ht;cases r with
   |none=>
    simp only at ht;obtain⟨τ,xs,σ',lg',h1,h2,h3,h4,h5,h6,h7,h8⟩:=cU len (i+1) lg _ t ρ (by omega) ht hd (by rw[bX];exact hn);refine⟨τ,⟨i,o,σ,none⟩::xs,σ',lg',⟨rfl,rfl,h1⟩,by simp[h2],λx hx=> ?_,h4,h5,h6,h7,λx hx y hy=> ?_⟩
    ·rcases Ad.1 hx with rfl|hx
     ·exact⟨hi,Gu⟩
     ·exact h3 x hx
    ·rcases Ad.1 hx with rfl|hx
     ·simp[Rec.log]at hy
     ·exact h8 x hx y hy
   |some gs=>
    simp only at ht;split at ht
    ·rename_i e he;split at ht
     ·cases ht
     ·rename_i As;simp only[Bool.true_and,Bool.not_true,Bool.false_and,Bool.or_false,Bool.or_eq_true,Br,not_or,Bool.not_eq_false]at As;have CI:e.bm=none:=by cases hh:e.bm with|none=>rfl|some x=>rw[hh]at As;simp at As
      split at ht
      ·cases ht
      ·rename_i k hk;simp only[Ac]at ht;subst ht;have DL:=As.2;simp only[QB,Ab,A7]at DL;obtain⟨⟨⟨⟨BE,A1⟩,Hu⟩,_⟩,_⟩:=DL;rw[<-hn]at BE A1 Hu;unfold W4 at hd;obtain⟨hc,hd⟩:=eG hd;simp only[CI]at hd;obtain⟨τ0,wV,Bb,B7⟩:∃τ0:List AV,(ρ++τ0).length=(KN σ gs o e).nv/\(∀cl,e.call=some cl-> ∃r,τ0=[r]/\(Bg ρ gs->HH Rt cl.fn ((EL.of cl.args).den ρ) ρ r))/\k.den Rt R L js (ρ++τ0):=by
        cases Ar:e.call with
        |none=>rw[Ar]at hd;exact⟨[],by rw[eC];simp[Ar,CI,hn],by simp,by simpa using hd⟩
        |some cl=>rw[Ar]at hd;obtain⟨r,h1,h2⟩:=hd;exact⟨[r],by rw[eC];simp[Ar,hn],λcl' h=>by cases h;exact⟨r,rfl,h1⟩,h2⟩
       obtain⟨τ,xs,σ',lg',h1,h2,h3,h4,h5,h6,h7,h8⟩:=cU len (i+1) _ _ k (ρ++τ0) (by omega) hk B7 wV;have XQ:ρ++τ0++τ=ρ++(τ0++τ):=List.append_assoc ..;rw[XQ]at h3 h4 h5;refine⟨τ0++τ,⟨i,o,σ,some (gs,e)⟩::xs,σ',lg',⟨rfl,rfl,h1⟩,by simp[h2],λx hx=> ?_,h4,h5,h6,λy hy=>h7 y (by simp[hy]),λx hx y hy=> ?_⟩
       ·rcases Ad.1 hx with rfl|hx
        ·refine⟨hi,Gu,he,CI,As.2,λhg q hq=>(Cn.iz (A1 q hq)).2 (hc ((KM BE).1 hg) q hq),λcl Ar=> ?_⟩;obtain⟨r,hr,h2⟩:=Bb cl Ar;rw[Ar]at Hu;simp only[Ab]at Hu;subst hr;exact⟨r,by simp only;rw[<-hn];simp,λhg=>(mL Hu.1 (EL.jh (by simpa using Hu.2))).2 (h2 ((KM BE).1 hg))⟩
        ·exact h3 x hx
       ·rcases Ad.1 hx with rfl|hx
        ·simp only[Rec.log,Option.map_some,Ac]at hy;subst hy;exact h7 _ (by simp)
        ·exact h8 x hx y hy
    ·cases ht
def FU(n:Nat)(sl0:Nat->SV)(xs:List Rec)(S:Nat->Bool):Nat->SV:=xs.foldl (λsl x=>if S x.i then Cz n sl x.o.dst x.val else sl) sl0
def Gx(hp0:Nat->Option Ae)(xs:List Rec)(S:Nat->Bool):Nat->Option Ae:=xs.foldl (λhp x=>if S x.i then A9 hp x.bc else hp) hp0
section
variable {n:Nat} {S S':Nat->Bool} {d t:Nat}
theorem S2:∀(xs:List Rec) {sl sl':Nat->SV},sl d=sl' d->(∀x∈xs,x.o.dst=some d->S x.i=S' x.i)->FU n sl xs S d=FU n sl' xs S' d
 | [],_,_,h,_=>h
 |x::xs,sl,sl',h,hs=>by
  refine S2 xs (sl:=if S x.i then Cz n sl x.o.dst x.val else sl) (sl':=if S' x.i then Cz n sl' x.o.dst x.val else sl') ?_ λy hy=>hs y (by simp[hy]);by_cases hd:x.o.dst=some d
  ·rw[<-hs x (by simp) hd];split
   ·simp only[Cz,hd,true_and];rw[h]
   ·exact h
  ·have hu:∀sl:Nat->SV,Cz n sl x.o.dst x.val d=sl d:=λsl=>by simp[Cz,hd]
   have h1:(if S x.i then Cz n sl x.o.dst x.val else sl) d=sl d:=by split;exact hu sl;rfl
   have h2:(if S' x.i then Cz n sl' x.o.dst x.val else sl') d=sl' d:=by split;exact hu sl';rfl
   rw[h1,h2,h]
theorem dI(xs:List Rec){sl:Nat->SV}(hs:∀x∈xs,x.o.dst=some d->S x.i=false):FU n sl xs S d=sl d:=by
 have h1:=S2 (n:=n) (S:=S) (S':=λ_=>false) xs (sl:=sl) (sl':=sl) (d:=d) rfl hs;rw[h1];clear h1 hs
 induction xs generalizing sl with
 |nil=>rfl
 |cons x xs ih=>exact ih
theorem fA(hd:n<=d):∀(xs:List Rec) {sl:Nat->SV},FU n sl xs S d=sl d
 | [],_=>rfl
 |x::xs,sl=>by
  have:=fA hd xs (sl:=if S x.i then Cz n sl x.o.dst x.val else sl);refine Eq.trans this ?_;split
  ·simp only[Cz];rw[if_neg (by omega)]
  ·rfl
theorem sL{y:Rec}(hd:d<n)(hy:y.o.dst=some d)(hS:S y.i=true):∀(xs:List Rec) {sl:Nat->SV},y∈xs->(∀x∈xs,x≠y->x.o.dst≠some d)->FU n sl xs S d=y.val
 | [],_,h,_=>by simp at h
 |x::xs,sl,h,hu=>by
  by_cases hm:y∈xs
  ·exact sL hd hy hS xs (sl:=if S x.i then Cz n sl x.o.dst x.val else sl) hm λz hz=>hu z (by simp[hz])
  ·have hx:y=x:=by rcases Ad.1 h with h|h;exact h;exact absurd h hm
   subst hx;have:=dI (n:=n) (S:=S) (d:=d) xs (sl:=Cz n sl y.o.dst y.val) (λz hz Ib=>absurd Ib (hu z (by simp[hz]) (λhh=>hm (hh▸hz))));show FU n (if S y.i then Cz n sl y.o.dst y.val else sl) xs S d=_;rw[if_pos hS,this];simp[Cz,hy,hd]
theorem mT{hp hp':Nat->Option Ae}{l:List (Nat × Ae)}(h:hp t=hp' t):A9 hp l t=A9 hp' l t:=by
 induction l generalizing hp hp' with
 |nil=>exact h
 |cons p l ih=>
  refine ih ?_;show(if t=p.1 then some p.2 else hp t)=(if t=p.1 then some p.2 else hp' t)
  rw[h]
theorem ztv{hp hp':Nat->Option Ae}{l:List (Nat × Ae)}(h:t∈l.map (·.1)):A9 hp l t=A9 hp' l t:=by
 induction l generalizing hp hp' with
 |nil=>simp at h
 |cons p l ih=>
  by_cases hm:t∈l.map (·.1)
  ·exact ih hm
  ·have ht:t=p.1:=by simp only[List.map_cons,Ad]at h;exact h.resolve_right hm
   refine mT (l:=l) ?_;show(if t=p.1 then some p.2 else hp t)=(if t=p.1 then some p.2 else hp' t)
   rw[if_pos ht,if_pos ht]
theorem dK{hp:Nat->Option Ae}{l:List (Nat × Ae)}(h:t∉l.map (·.1)):A9 hp l t=hp t:=
 KO λe he=>h (List.mem_map.2 ⟨_,he,rfl⟩)
theorem S0:∀(xs:List Rec) {hp hp':Nat->Option Ae},hp t=hp' t->(∀x∈xs,t∈x.bc.map (·.1)->S x.i=S' x.i)->Gx hp xs S t=Gx hp' xs S' t
 | [],_,_,h,_=>h
 |x::xs,hp,hp',h,hs=>by
  refine S0 xs (hp:=if S x.i then A9 hp x.bc else hp) (hp':=if S' x.i then A9 hp' x.bc else hp') ?_ λy hy=>hs y (by simp[hy]);by_cases hd:t∈x.bc.map (·.1)
  ·rw[<-hs x (by simp) hd];split
   ·exact mT h
   ·exact h
  ·have h1:(if S x.i then A9 hp x.bc else hp) t=hp t:=by split;exact dK hd;rfl
   have h2:(if S' x.i then A9 hp' x.bc else hp') t=hp' t:=by split;exact dK hd;rfl
   rw[h1,h2,h]
theorem dP(xs:List Rec){hp:Nat->Option Ae}(hs:∀x∈xs,t∈x.bc.map (·.1)->S x.i=false):Gx hp xs S t=hp t:=by
 have h1:=S0 (S:=S) (S':=λ_=>false) xs (hp:=hp) (hp':=hp) (t:=t) rfl hs;rw[h1];clear h1 hs
 induction xs generalizing hp with
 |nil=>rfl
 |cons x xs ih=>exact ih
end
section
variable {n:Nat} {S:Nat->Bool} {d t:Nat}
theorem Rec.ju(x:Rec):BI x.next=Cz x.σ.sl.length (BI x.σ) x.o.dst x.val:=by
 obtain⟨i,o,σ,r⟩:=x;cases r with
 |none=>exact bV
 |some ge=>exact pI
theorem Rec.jo(x:Rec):AA x.next.hp=A9 (AA x.σ.hp) x.bc:=by
 obtain⟨i,o,σ,r⟩:=x;cases r with
 |none=>simp only[Rec.next,Rec.bc,cC];rfl
 |some ge=>exact pR
theorem Rec.jd(x:Rec):x.next.sl.length=x.σ.sl.length:=by
 obtain⟨i,o,σ,r⟩:=x;cases r with
 |none=>exact bC
 |some ge=>exact nU
theorem DW.range:∀{xs:List Rec} {i:Nat} {σ σ':St},DW i σ xs σ'-> ∀x∈xs,i<=x.i/\x.i<i+xs.length
 | [],_,_,_,_,x,hx=>by simp at hx
 |y::xs,i,σ,σ',h,x,hx=>by
  rcases Ad.1 hx with rfl|hx
  ·have:=h.1;simp only[AR];omega
  ·have:=DW.range h.2.2 x hx;simp only[AR];omega
theorem DW.ex:∀{xs:List Rec} {i:Nat} {σ σ':St},DW i σ xs σ'-> ∀j,i<=j->j<i+xs.length-> ∃x∈xs,x.i=j
 | [],i,_,_,_,j,h1,h2=>by simp at h2;omega
 |y::xs,i,σ,σ',h,j,h1,h2=>by
  by_cases hj:j=i
  ·exact⟨y,by simp,by rw[hj];exact h.1⟩
  ·simp only[AR]at h2;obtain⟨x,hx,he⟩:=DW.ex h.2.2 j (by omega) (by omega);exact⟨x,by simp[hx],he⟩
theorem DW.inj:∀{xs:List Rec} {i:Nat} {σ σ':St},DW i σ xs σ'-> ∀x∈xs,∀y∈xs,x.i=y.i->x=y
 | [],_,_,_,_,x,hx,_,_,_=>by simp at hx
 |z::xs,i,σ,σ',h,x,hx,y,hy,he=>by
  have hz:=h.1;rcases Ad.1 hx with h1|h1<;>rcases Ad.1 hy with h2|h2
  ·rw[h1,h2]
  ·subst h1;have:=(DW.range h.2.2 y h2).1;omega
  ·subst h2;have:=(DW.range h.2.2 x h1).1;omega
  ·exact DW.inj h.2.2 x h1 y h2 he
theorem DW.sl:∀{xs:List Rec} {i:Nat} {σ σ':St},DW i σ xs σ'->σ.sl.length=n->(∀x∈xs,x.σ.sl.length=n/\ ∀d,BI x.σ d=FU n (BI σ) xs (λk=>decide (k<x.i)) d)/\σ'.sl.length=n/\BI σ'=FU n (BI σ) xs λ_=>true
 | [],i,σ,σ',h,hn=>by have h:σ=σ':=h;subst h;exact⟨by simp,hn,rfl⟩
 |y::xs,i,σ,σ',h,hn=>by
  obtain⟨h1,h2,h3⟩:=h;subst h2;obtain⟨q1,q2,q3⟩:=DW.sl h3 (by rw[y.jd];exact hn);rw[y.ju,hn]at q1 q3;refine⟨λx hx=> ?_,q2,q3⟩;rcases Ad.1 hx with rfl|hx
  ·refine⟨hn,λd=>(dI _ λz hz _=> ?_).symm⟩;rcases Ad.1 hz with rfl|hz
   ·simp
   ·have:=(DW.range h3 z hz).1;simp only[decide_eq_false_iff_not];omega
  ·refine⟨(q1 x hx).1,λd=> ?_⟩;rw[(q1 x hx).2 d];have:=(DW.range h3 x hx).1;show _=FU n (if decide (y.i<x.i)then Cz n (BI y.σ) y.o.dst y.val else BI y.σ) xs (λk=>decide (k<x.i)) d;rw[if_pos (by simp only[Aq];omega)]
theorem DW.hp:∀{xs:List Rec} {i:Nat} {σ σ':St},DW i σ xs σ'->(∀x∈xs,∀t,AA x.σ.hp t=Gx (AA σ.hp) xs (λk=>decide (k<x.i)) t)/\AA σ'.hp=Gx (AA σ.hp) xs λ_=>true
 | [],i,σ,σ',h=>by have h:σ=σ':=h;subst h;exact⟨by simp,rfl⟩
 |y::xs,i,σ,σ',h=>by
  obtain⟨h1,h2,h3⟩:=h;subst h2;obtain⟨q1,q3⟩:=DW.hp h3;rw[y.jo]at q1 q3;refine⟨λx hx=> ?_,q3⟩;rcases Ad.1 hx with rfl|hx
  ·refine λd=>(dP _ λz hz _=> ?_).symm;rcases Ad.1 hz with rfl|hz
   ·simp
   ·have:=(DW.range h3 z hz).1;simp only[decide_eq_false_iff_not];omega
  ·intro t;rw[q1 x hx t];have:=(DW.range h3 x hx).1;show _=Gx (if decide (y.i<x.i)then A9 (AA y.σ.hp) y.bc else AA y.σ.hp) xs (λk=>decide (k<x.i)) t;rw[if_pos (by simp only[Aq];omega)]
theorem sC{y:Rec}{YI:Nat->Option Ae}(hS:S y.i=true)(ht:t∈y.bc.map (·.1)):∀{xs:List Rec} {i:Nat} {σ σ':St} {hp0:Nat->Option Ae},DW i σ xs σ'->y∈xs->(∀x∈xs,x.i≠y.i->t∈x.bc.map (·.1)->S x.i=decide (x.i<y.i))->Gx hp0 xs S t=A9 YI y.bc t
 | [],_,_,_,_,_,h,_=>by simp at h
 |x::xs,i,σ,σ',hp0,hc,hm,hs=>by
  by_cases hx:y=x
  ·subst hx;have:=dP (S:=S) (t:=t) xs (hp:=A9 hp0 y.bc) (λz hz Ib=>by
    have AL:=(DW.range hc.2.2 z hz).1;have h1:=hc.1;rw[hs z (by simp[hz]) (by omega) Ib];simp only[decide_eq_false_iff_not];omega)
   show Gx (if S y.i then A9 hp0 y.bc else hp0) xs S t=_;rw[if_pos hS,this];exact ztv ht
  ·have E1:y∈xs:=by rcases Ad.1 hm with h|h;exact absurd h hx;exact h
   exact sC hS ht (hp0:=if S x.i then A9 hp0 x.bc else hp0) hc.2.2 E1 λz hz=>hs z (by simp[hz])
end
theorem oA{α:Type}{p p':α->Bool}:∀(l:List α),(∀k∈l,p' k=true->p k=true)->(∃j∈l,p j=true/\p' j=false)->(l.filter p').length<(l.filter p).length
 | [],_,h=>by obtain⟨j,hj,_⟩:=h;simp at hj
 |x::l,hs,h=>by
  have hle:(l.filter p').length<=(l.filter p).length:=by
   have:∀(l:List α),(∀k∈l,p' k=true->p k=true)->(l.filter p').length<=(l.filter p).length:=by
    intro l
    induction l with
    |nil=>intro _;simp
    |cons y l ih=>
     intro h;have:=ih λk hk=>h k (by simp[hk]);have hy:=h y (by simp);cases h1:p' y with
     |false=>
      cases h2:p y with
      |false=>simpa[h1,h2]using this
      |true=>simp only[List.filter_cons,h1,h2,Bv,if_false,if_true,AR];omega
     |true=>simpa[h1,hy h1]using this
   exact this l λk hk=>hs k (by simp[hk])
  obtain⟨j,hj,h1,h2⟩:=h;rcases Ad.1 hj with rfl|hj
  ·simp only[List.filter_cons,h1,h2,Bv,if_false,if_true,AR];omega
  ·have:=oA l (λk hk=>hs k (by simp[hk])) ⟨j,hj,h1,h2⟩;have hx:=hs x (by simp);cases h3:p' x with
   |false=>
    cases h4:p x with
    |false=>simpa[h3,h4]using this
    |true=>simp only[List.filter_cons,h3,h4,Bv,if_false,if_true,AR];omega
   |true=>simpa[h3,hx h3]using this
section
variable {ops:Array Oper} {listed:Array Bool}
theorem zvs(hb:∀j o,ops[j]?=some o-> ∀e∈o.after.toList,Region.binds .any e=true->e.on<j)(BF:listed.size=ops.size)(hr:Region.ready .any ops listed=[]):∀k,k<ops.size->listed.getD k true=true:=by
 intro k
 induction k using Nat.strongRecOn with
 |_ k ih=>
  intro hk;cases hs:listed.getD k true with
  |true=>rfl
  |false=>
   have:k∈Region.ready .any ops listed:=mem_ready.2 ⟨hs,ops[k],by simp[hk],λe he Kg=>by
    have AL:=hb k ops[k] (by simp[hk]) e (by simpa using he) Kg;have:=ih e.on AL (by omega);have h2:e.on<listed.size:=by omega
    simp only[Array.getD_eq_getD_getElem?,Array.getElem?_eq_getElem h2,CR]at this ⊢;exact this⟩
   rw[hr]at this;cases this
theorem zxo(BF:listed.size=ops.size){j:Nat}(hj:j<ops.size)(k:Nat):(listed.setIfInBounds j true).getD k true=(decide (k=j)||listed.getD k true):=by
 by_cases h:j=k
 ·subst h;simp[Array.getD_eq_getD_getElem?,show j<listed.size by omega]
 ·rw[getD_set_ne true h];simp[Ne.symm h]
variable {P:Program} {sg:BN} {Rt:Nat->List AV->AV->Prop}
theorem zug(AQ:On P sg Rt){F:Fix}{σ σ':St}{xs:List Rec}{ρ:List AV}{lg:List Log}{n:Nat}{Q:Exit->Act->World->Prop}(hc:DW 0 σ xs σ')(hlen:xs.length=ops.size)(AS:∀x∈xs,jE P sg Rt ops σ.nx ρ x)(H0:W7 ops lg=true)(Rq:∀x∈xs,∀y,x.log=some y->y∈lg)(hn:σ.sl.length=n)
  (hQ:∀(c:Cx) (a:Act),c.ρ=ρ->c.w0=F.w0->c.A=F.A->c.Mu=F.Mu->(∀t,c.U t->t<σ.nx+BJ*ops.size)->Rel c n (BI σ') (AA σ'.hp) a->Q .normal a c.w):
  ∀(fuel:Nat) (listed:Array Bool) (a:Act) (c:Cx),listed.size=ops.size->TH ops (λk=>listed.getD k true)->c.ρ=ρ->c.w0=F.w0->c.A=F.A->c.Mu=F.Mu->
   (∀t,c.U t->t<σ.nx\/ ∃k,k<ops.size/\listed.getD k true=true/\σ.nx+BJ*k<=t/\t<σ.nx+BJ*k+BJ)->Rel c n (FU n (BI σ) xs λk=>listed.getD k true) (Gx (AA σ.hp) xs λk=>listed.getD k true) a->
   ((List.range ops.size).filter λk=> !listed.getD k true).length<=fuel->wpAny P .any ops Q fuel listed a c.w:=by
 simp only[W7,Ab,A7,Bool.or_eq_true,AJ,Br,Aq]at H0;obtain⟨⟨d1,d2⟩,d3⟩:=H0;have Rx:∀j o,ops[j]?=some o->(o,j)∈ops.toList.zipIdx:=λj o h=>List.mk_mem_zipIdx_iff_getElem?.2 (by simpa using h);have hb:∀j o,ops[j]?=some o-> ∀e∈o.after.toList,Region.binds .any e=true->e.on<j:=λj o h e he Kg=>by
  rcases d2 (o,j) (Rx j o h) e he with h|h
  ·rw[Kg]at h;cases h
  ·exact h
 obtain⟨c1,c2,c3⟩:=hc.sl hn;obtain⟨c4,c5⟩:=hc.hp;have D1:∀(listed:Array Bool) (a:Act) (c:Cx),listed.size=ops.size->c.ρ=ρ->c.w0=F.w0->c.A=F.A->c.Mu=F.Mu->
   (∀t,c.U t->t<σ.nx\/ ∃k,k<ops.size/\listed.getD k true=true/\σ.nx+BJ*k<=t/\t<σ.nx+BJ*k+BJ)->Rel c n (FU n (BI σ) xs λk=>listed.getD k true) (Gx (AA σ.hp) xs λk=>listed.getD k true) a->
   (∀k,k<ops.size->listed.getD k true=true)->Q .normal a c.w:=by
  intro listed a c BF h1 h2 h3 h4 h5 h6 CD;refine hQ c a h1 h2 h3 h4 (λt ht=> ?_) ?_
  ·rcases h5 t ht with h|⟨k,hk,_,_,h⟩
   ·simp only[BJ]at*;omega
   ·simp only[BJ]at*;omega
  ·have e1:(FU n (BI σ) xs λk=>listed.getD k true)=BI σ':=by
    rw[c3];funext d;exact S2 xs rfl λx hx _=>by have:=(hc.range x hx).2;exact CD x.i (by omega)
   have e2:(Gx (AA σ.hp) xs λk=>listed.getD k true)=AA σ'.hp:=by rw[c5];funext d;exact S0 xs rfl λx hx _=>by have:=(hc.range x hx).2;exact CD x.i (by omega)
   rw[e1,e2]at h6;exact h6
 intro fuel
 induction fuel with
 |zero=>
  intro listed a c BF Ar h1 h2 h3 h4 h5 h6 Q7;have CD:∀k,k<ops.size->listed.getD k true=true:=by intro k hk;have:=List.length_eq_zero_iff.1 (Nat.le_zero.1 Q7);have:=List.filter_eq_nil_iff.1 this k (by simpa using hk);simpa using this
  refine⟨?_,D1 listed a c BF h1 h2 h3 h4 h5 h6 CD⟩;refine List.eq_nil_iff_forall_not_mem.2 λj hj=> ?_;obtain⟨q1,o,q2,_⟩:=mem_ready.1 hj;rw[CD j (Array.getElem?_eq_some_iff.1 q2).1]at q1;cases q1
 |succ fuel ih=>
  intro listed a c BF Ar h1 h2 h3 h4 h5 h6 Q7;refine⟨λhr=>D1 listed a c BF h1 h2 h3 h4 h5 h6 (zvs hb BF hr),λj hj=> ?_⟩;obtain⟨q1,o,q2,q3⟩:=mem_ready.1 hj;have Yr:j<ops.size:=(Array.getElem?_eq_some_iff.1 q2).1;have Lq:∀e∈o.after.toList,Region.binds .any e=true->listed.getD e.on true=true:=λe he Kg=>by
   have h9:=q3 e (by simpa using he) Kg;have AL:=hb j o q2 e he Kg;have h8:e.on<listed.size:=by omega
   simp only[Array.getD_eq_getD_getElem?,Array.getElem?_eq_getElem h8,CR]at h9 ⊢;exact h9
  obtain⟨y,hy,F9⟩:=hc.ex j (by omega) (by omega);have Nq:y.o=o:=by have:=(AS y hy).1;rw[F9,q2]at this;exact(Option.some.inj this).symm
  have Un:∀x∈xs,x.i<ops.size:=λx hx=>by have:=(hc.range x hx).2;omega
  have iO:∀x∈xs,ops[x.i]?=some x.o:=λx hx=>(AS x hx).1;have agree:∀x∈xs,x.i≠j->I7 (J5 ops.toList []) x.i j=true->listed.getD x.i true=decide (x.i<j):=λx hx BM ho=>zu2 (S:=λk=>listed.getD k true) Ar q2 (Un x hx) q1 Lq BM ho;have LM:∀x∈xs,x.i=j->listed.getD x.i true=decide (x.i<j):=λx hx he=>by rw[he,q1];simp
  have GZ:∀d,d∈Xa ops o->BI y.σ d=FU n (BI σ) xs (λk=>listed.getD k true) d:=by
   intro d hd;rw[(c1 y hy).2 d,F9];refine S2 xs rfl λx hx R0=> ?_;by_cases he:x.i=j
   ·exact(LM x hx he).symm
   ·rcases d3 (o,j) (Rx j o q2) (x.o,x.i) (Rx _ _ (iO x hx))with h|h
    ·exact absurd h he
    ·simp only[R0,Ab,Bool.or_eq_true,Br]at h;rcases h.2 with h|h
     ·rw[List.contains_iff_mem.2 hd]at h;cases h
     ·exact(agree x hx he h).symm
  have hW:∀x∈xs,∀t,t∈x.bc.map (·.1)-> ∀ly,y.log=some ly->(t∈ly.R\/t∈ly.W)->listed.getD x.i true=decide (x.i<j):=by
   intro x hx t ht ly Rr hm;by_cases he:x.i=j
   ·exact LM x hx he
   ·cases Y4:x.r with
    |none=>simp[Rec.bc,Y4]at ht
    |some ge=>
     obtain⟨gs,e⟩:=ge;have u7:x.log=some ⟨x.i,Tt x.σ gs x.o,e.bc.map (·.1)⟩:=by simp[Rec.log,Y4]
     have Yx:ly.i=j:=by unfold Rec.log at Rr;obtain⟨ge',_,rfl⟩:=An.1 Rr;exact F9
     have h9:=d1 _ (Rq x hx _ u7) _ (Rq y hy _ Rr);simp only[Yx]at h9;rcases h9 with(h|h)|h
     ·exact absurd h he
     ·exfalso;have:fO (e.bc.map (·.1)) (ly.R++ly.W)=true:=by
       simp only[fO,List.any_eq_true];exact⟨t,by simpa[Rec.bc,Y4]using ht,List.contains_iff_mem.2 (by simpa using hm)⟩
      rw[this]at h;cases h
     ·exact agree x hx he h
  have Cs:∀k,(listed.setIfInBounds j true).getD k true=(decide (k=j)||listed.getD k true):=zxo BF Yr;have YT:FU n (BI σ) xs (λk=>(listed.setIfInBounds j true).getD k true)=Cz n (FU n (BI σ) xs λk=>listed.getD k true) o.dst y.val:=by
   funext d;unfold Cz;split
   ·rename_i hd;refine sL hd.2 (by rw[Nq];exact hd.1) (by rw[Cs,F9];simp) xs hy λx hx BM R0=> ?_;have he:x.i≠j:=λh=>BM (hc.inj x hx y hy (by rw[h,F9]));rcases d3 (o,j) (Rx j o q2) (x.o,x.i) (Rx _ _ (iO x hx))with h|h
    ·exact he h
    ·simp only[R0,Ab,bne_iff_ne,ne_eq]at h;exact h.1 hd.1
   ·rename_i hd;by_cases MO:d<n
    ·refine S2 xs rfl λx hx R0=> ?_;have he:x.i≠j:=λh=>by
      have:x=y:=hc.inj x hx y hy (by rw[h,F9]);subst this;exact hd ⟨by rw[<-Nq];exact R0,MO⟩
     rw[Cs];simp[he]
    ·rw[fA (by omega),fA (by omega)]
  have Yk:Gx (AA σ.hp) xs (λk=>(listed.setIfInBounds j true).getD k true)=A9 (Gx (AA σ.hp) xs λk=>listed.getD k true) y.bc:=by
   funext t;by_cases ht:t∈y.bc.map (·.1)
   ·refine sC (by rw[Cs,F9];simp) ht hc hy λx hx BM Y5=> ?_;rw[F9]at BM ⊢;rw[Cs];simp only[BM,decide_false,Bool.false_or];cases I5:y.r with
    |none=>simp[Rec.bc,I5]at ht
    |some ge=>exact hW x hx t Y5 _ (by simp only[Rec.log,I5,Option.map_some];rfl) (.inr (by simpa[Rec.bc,I5]using ht))
   ·rw[dK ht];refine S0 xs rfl λx hx Y5=> ?_;have he:x.i≠j:=λh=>by
     have:x=y:=hc.inj x hx y hy (by rw[h,F9]);subst this;exact ht Y5
    rw[Cs];simp[he]
  have Q8:((List.range ops.size).filter λk=> !(listed.setIfInBounds j true).getD k true).length<=fuel:=by have:=oA (p:=λk=> !listed.getD k true) (p':=λk=> !(listed.setIfInBounds j true).getD k true) (List.range ops.size) (λk _ hk=>by rw[Cs]at hk;simp at hk ⊢;exact hk.2) ⟨j,by simpa using Yr,by simp[q1],by rw[Cs];simp⟩;omega
  have XX:TH ops (λk=>(listed.setIfInBounds j true).getD k true):=by
   intro k ok hk Ys e he Kg;simp only[Cs,Bool.or_eq_true,Aq]at hk ⊢;rcases hk with rfl|hk
   ·rw[q2]at Ys;cases Ys;exact .inr (Lq e he Kg)
   ·exact .inr (Ar k ok hk Ys e he Kg)
  have Lu:∀(a':Act) (c':Cx),c'.ρ=ρ->c'.w0=F.w0->c'.A=F.A->c'.Mu=F.Mu->(∀t,c'.U t->c.U t\/(σ.nx+BJ*j<=t/\t<σ.nx+BJ*j+BJ))->Rel c' n (Cz n (FU n (BI σ) xs λk=>listed.getD k true) o.dst y.val) (A9 (Gx (AA σ.hp) xs λk=>listed.getD k true) y.bc) a'->
    wpAny P .any ops Q fuel (listed.setIfInBounds j true) a' c'.w:=by
   intro a' c' g1 g2 g3 g4 g5 g6;refine ih _ a' c' (by simpa using BF) XX g1 g2 g3 g4 (λt ht=> ?_) (by rw[YT,Yk];exact g6) Q8;rcases g5 t ht with h|h
   ·rcases h5 t h with h|⟨k,k1,k2,k3,k4⟩
    ·exact .inl h
    ·exact .inr ⟨k,k1,by rw[Cs,k2];simp,k3,k4⟩
   ·exact .inr ⟨j,Yr,by rw[Cs];simp,h.1,h.2⟩
  have gW:∀j' want d,o.guard=some (j',want)->(ops[j']?).bind (·.dst)=some d->SR c [BI y.σ d] [a.tmps.getD d Go.undef]:=by intro j' want d hg hd;rw[GZ d (by simp only[Xa,hg,Af];exact .inr (by simp[hd]))];exact h6.ct d
  obtain⟨_,CX⟩:=AS y hy;cases I5:y.r with
  |none=>
   rw[I5]at CX;have E0:=dE (c:=c) (a:=a) CX (λj' want d hg hd=>gW j' want d (by rw[<-Nq];exact hg) hd);unfold wpOp;simp only[q2];rw[Nq]at E0;rw[if_neg (by simp[show Region.wanted o (yielded ops a.tmps)=false from E0])];have hv:y.val=GO:=by simp[Rec.val,I5]
   have he:y.bc=[]:=by simp[Rec.bc,I5]
   refine Lu _ c h1 h2 h3 h4 (λt ht=> .inl ht) ?_;rw[hv,he];exact h6.put eJ o.dst
  |some ge=>
   obtain⟨gs,e⟩:=ge;rw[I5]at CX;simp only at CX;obtain⟨r1,r2,r3,r4,r5,r6⟩:=CX;rw[Nq,F9]at r2;rw[F9]at r4;rw[Nq]at r1;have E0:=dE (c:=c) (a:=a) r1 gW;have hv:y.val=mkGd gs e.val:=by simp[Rec.val,I5]
   have he:y.bc=e.bc:=by simp[Rec.bc,I5]
   simp only[QB,Ab,A7]at r4;obtain⟨_,YR⟩:=r4;have Rr:y.log=some ⟨y.i,Tt y.σ gs y.o,e.bc.map (·.1)⟩:=by simp[Rec.log,I5]
   refine rL (c:=c) AQ q2 h6 E0 (λt ht=>GZ t (by simp only[Xa,Af,List.mem_filterMap];exact .inl ⟨.tmp t,by simpa using ht,rfl⟩)) (λt x hx=> ?_) (λt t1 t2 hU=> ?_) r2 (λBM t x hx=> ?_) (by rw[h1];exact r5) (by rw[h1];exact r6) (λx hx=>by rw[r3]at hx;cases hx) (λa' c' hs hr=> ?_)
   ·unfold QI at hx;split at hx
    ·rename_i hR;rw[(c4 y hy) t]at hx;rw[<-hx];refine S0 xs rfl λz hz wR=> ?_;rw[F9];exact hW z hz t wR _ Rr (.inl (by rw[Nq];simpa using hR))
    ·cases hx
   ·rcases h5 t hU with h|⟨k,k1,k2,k3,k4⟩
    ·simp only[BJ]at*;omega
    ·have:k≠j:=by rintro rfl;rw[q1]at k2;cases k2
     simp only[BJ]at*;omega
   ·have:=YR _ hx;have Rc:gs.isEmpty=false:=by cases gs;exact absurd rfl BM;rfl
    simp only[Rc,Bool.false_or,Bool.false_and,Bool.or_false,Ab,Aq]at this;refine⟨this.1.1,this.1.2,?_⟩;have h3:=this.2;split at h3
    ·exact⟨_,_,rfl,h3⟩
    ·cases h3
   ·exact Lu a' c' (hs.ρ.trans h1) (hs.w0.trans h2) (hs.A.trans h3) (hs.Mu.trans h4) hs.U (by rw[hv,he];exact hr)
end
theorem Rel.world{c:Cx}{n:Nat}{sl:Nat->SV}{hp:Nat->Option Ae}{a:Act}(h:Rel c n sl hp a)(w:World)(h1:w.heap=c.w.heap)(h2:w.os=c.w.os)(h3:w.tape=c.w.tape)(h4:w.output=c.w.output):Rel {c with w:=w} n sl hp a:=by
 refine h.change (λ_=>False) ⟨rfl,rfl,λ_ _ hb=>hb,λb _ _=>by show w.heap[b]?=_;rw[h1],λ_ _ hk=>⟨hk,rfl⟩,λ_ _ _=>⟨Av _,λ_=>⟨rfl,λb _ _=>by show w.heap[b]?=_;rw[h1]⟩⟩⟩ ⟨h2.trans h.base.os,h3.trans h.base.tape,h4.trans h.base.output,by show _<=w.heap.size;rw[h1];exact h.base.size,h.base.pins,λb hb hm=>by show w.heap[b]?=_;rw[h1];exact h.base.block b hb hm,h.base.pk,h.base.lo⟩ (λt _=>⟨rfl,rfl,rfl,λg hk=>hk⟩) (λt _ b _=>by show w.heap[b]?=_;rw[h1]) (λt ht=>ht.elim)
  ⟨h.gw.nodup,h.gw.cd,h.gw.allow,λt b hb=>by show b<w.heap.size;rw[h1];exact h.gw.inb t b hb⟩ h.bd h.ch
theorem zwa{P:Program}{sg:BN}{Rt:Nat->List AV->AV->Prop}(Ud:P.follows .mixedOrders=true)(AQ:On P sg Rt)(Dp:TK P sg):qQ P sg Rt:=by
 intro id ops draw σ t _ DL Nc ht F R L js ρ a w hL hd hr Q hq;obtain⟨c,rfl,rfl,h1,h2,h3,h4,h5,h6⟩:=hr;rw[List.range_eq_range']at ht;cases draw with
 |false=>refine wp_region ?_;rw[List.range_eq_range'];exact rH AQ Dp (n:=σ.sl.length) ops.size 0 [] σ t (by omega) ht c a ⟨h1,h2,h3,h4,rfl,by simpa using h5,h6⟩ hd (λc' a' σ' hp hl hrel=>hq [] .normal σ' c'.ρ a' c'.w hp hl hrel)
 |true=>
  refine wp_region_any Ud ?_;obtain⟨τ,xs,σ',lg',g1,g2,g3,g4,g5,g6,_,g8⟩:=cU ops.size 0 [] σ t c.ρ (by omega) ht hd h4;have X8:=h6.ext (λi=>by rw[h4];exact St.kj DL i) (λt e he=>by rw[h4];exact St.jy DL t e he) τ;have hw:=X8.world {c.w with drawn:=c.w.drawn+1} rfl rfl rfl rfl;have Gq:∀k,k<ops.size->(Array.replicate ops.size false).getD k true=false:=λk hk=>by simp[Array.getD_eq_getD_getElem?,hk]
  have Un:∀x∈xs,x.i<ops.size:=λx hx=>by have:=(g1.range x hx).2;omega
  have e1:(FU σ.sl.length (BI σ) xs λk=>(Array.replicate ops.size false).getD k true)=BI σ:=by funext d;exact dI _ λx hx _=>Gq x.i (Un x hx)
  have e2:(Gx (AA σ.hp) xs λk=>(Array.replicate ops.size false).getD k true)=AA σ.hp:=by funext d;exact dP _ λx hx _=>Gq x.i (Un x hx)
  refine zug (F:=F) (n:=σ.sl.length) (c:={c.ext τ with w:={c.w with drawn:=c.w.drawn+1}}) AQ g1 g2 g3 g6 g8 rfl (λc' a' k1 k2 k3 k4 k5 k6=> ?_) ops.size (Array.replicate ops.size false) a (by simp) (λk o hk ho=> ?_) rfl h1 h2 h3 (λt ht=> .inl (h5 t ht)) (by rw[e1,e2];exact hw) (Nat.le_trans (List.length_filter_le _ _) (by simp))
  ·have hlen:=(g1.sl rfl).2.1;refine hq [] .normal _ c'.ρ a' c'.w (by rw[k1];exact List.prefix_append _ _) (by rw[k1];exact g5) ⟨c',rfl,rfl,k2,k3,k4,by rw[k1];exact g4,k5,?_⟩;show Rel c' σ'.sl.length _ _ a';rw[hlen];exact k6
  ·have:=Gq k (Array.getElem?_eq_some_iff.1 ho).1;have B7:(Array.replicate ops.size false).getD k true=true:=hk;rw[this]at B7;cases B7
section
variable {P:Program} {c:Cx} {n nx:Nat} {sl sl0:Nat->SV} {hp hp0:Nat->Option Ae} {a:Act} {o:Oper} {gs:Gd} {e:A3} {sg:BN} {nv:Nat}
theorem oS(h:Bk P c n nx sl hp a sl0 hp0 o gs){op:BinOp}{t el:TypeId}{x y:Operand}{ty:TypeId}(ho:o.op= .binOp op t x y ty)(hu:P.underlying t=some (.slice el)){p:Option Addr}{q r:Nat}(hv:a.eval x= .slice p q r)(r2:SR c [.bq] [a.eval y])
  (AQ:op= .eql\/op= .neq) (FP:c.ρ[nv]?=some (.bool (JP a o))) (x':Option E) {ck:List Cn}:Aw P o c n nx sl hp gs a {bu:=ck,bm:=x',val:= .e (if op= .eql then .var nv else .not (.var nv))}:=by
 have hb:JP a o=p.isNone:=by simp only[JP,ho,hv];cases p<;>rfl
 rw[hb]at FP;have ex:=λ(v u:Value) (hv:a.eval x=v) (hu:a.eval y=u)=>Og (P:=P) (o:=o) ho c.w hv hu;generalize CQ:a.eval y=v2 at r2;cases r2 with
 |bq _=>
  refine Aw.pure h (v:= .bool (if op= .eql then p.isNone else !p.isNone)) ?_ ?_ rfl
  ·rw[ex _ _ hv CQ,eqGuard_at_slice];rcases AQ with rfl|rfl
   ·simp[Go.Lib.run_eql_slice_nil c.w t el p q r 0 0 hu]
   ·simp[binOp,Op.equal,Op.maxDepth,Go.Lib.run_equalIn_slice_nil c.w 9999 t el p q r 0 0 hu]
  ·rcases AQ with rfl|rfl
   ·refine .e (f:=[]) ?_ (by simp) .nil;simp only[if_true,E.den,FP,CR];exact .bool .nil
   ·refine .e (f:=[]) ?_ (by simp) .nil;simp only[reduceCtorEq,if_false,E.den,FP,CR,AV.ec];exact .bool .nil
end
section
variable {P:Program} {c:Cx} {n nx:Nat} {sl sl0:Nat->SV} {hp hp0:Nat->Option Ae} {a:Act} {o:Oper} {gs:Gd} {e:A3} {sg:BN} {nv:Nat}
theorem Tc{hp:Nat->Option Ae}{gs:Gd}{m:Nat}{cs:BD}{x:E}(h:Bp hp gs m (.agg cs)=some x):∃k l,m=k+1/\Cp hp gs k cs.toList=some l/\x= .mk l:=by
 cases m with
 |zero=>simp[Bp]at h
 |succ m=>simp only[Bp,An]at h;obtain⟨l,h1,h2⟩:=h;exact⟨m,l,rfl,h1,h2.symm⟩
theorem JX{hp:Nat->Option Ae}{gs:Gd}{m:Nat}{y x:E}(h:Bp hp gs m (.e y)=some x):x=y:=by
 cases m with
 |zero=>simp[Bp]at h
 |succ m=>simp[Bp]at h;exact h.symm
theorem KL{hp:Nat->Option Ae}{gs:Gd}{m:Nat}{x:E}(h:Bp hp gs m .bq=some x):x= .lst .nil:=by
 cases m with
 |zero=>simp[Bp]at h
 |succ m=>simp[Bp]at h;exact h.symm
theorem JH{hp:Nat->Option Ae}{gs:Gd}{m:Nat}{s:SV}{ss:List SV}{x:EL}(h:Cp hp gs m (s::ss)=some x):∃k y l,m=k+1/\Bp hp gs k s=some y/\Cp hp gs k ss=some l/\x= .cons y l:=by
 cases m with
 |zero=>simp[Cp]at h
 |succ m=>
  simp only[Cp]at h;split at h
  ·rename_i y l h1 h2;simp at h;exact⟨m,y,l,rfl,h1,h2,h.symm⟩
  ·cases h
theorem Pz{hp:Nat->Option Ae}{gs:Gd}{ρ:List AV}{w:World}:∀(vs:List Value) (ss:List SV) (m:Nat) (x:EL),EK.go vs=some ss->Cp hp gs m ss=some x->Rd w vs (x.den ρ) []
 | [],ss,m,x,h,hx=>by
  simp[EK.go]at h;subst h;cases m with
  |zero=>simp[Cp]at hx
  |succ m=>simp[Cp]at hx;subst hx;exact .nil
 |v::vs,ss,m,x,h,hx=>by
  unfold EK.go at h;split at h
  ·rename_i hh;cases hh
  ·rename_i k q l hh;cases hh;split at h
   ·rename_i hk;obtain⟨l',h1,rfl⟩:=An.1 h;obtain⟨j,y,l2,rfl,h2,h3,rfl⟩:=JH hx;rw[JX h2];exact .int hk (Pz _ _ _ _ h1 h3)
   ·cases h
  ·rename_i q l hh;cases hh;obtain⟨l',h1,rfl⟩:=An.1 h;obtain⟨j,y,l2,rfl,h2,h3,rfl⟩:=JH hx;rw[JX h2];exact .bool (Pz _ _ _ _ h1 h3)
  ·rename_i q l hh;cases hh;split at h
   ·rename_i hk;obtain⟨l',h1,rfl⟩:=An.1 h;obtain⟨j,y,l2,rfl,h2,h3,rfl⟩:=JH hx;rw[JX h2];exact .str hk (Pz _ _ _ _ h1 h3)
   ·cases h
  ·rename_i l hh;cases hh;obtain⟨l',h1,rfl⟩:=An.1 h;obtain⟨j,y,l2,rfl,h2,h3,rfl⟩:=JH hx;rw[KL h2];exact .dn (Pz _ _ _ _ h1 h3)
  ·rename_i l hh;cases hh;obtain⟨l',h1,rfl⟩:=An.1 h;obtain⟨j,y,l2,rfl,h2,h3,rfl⟩:=JH hx;rw[JX h2];exact .de (Pz _ _ _ _ h1 h3)
  ·cases h
theorem bI{hp:Nat->Option Ae}{gs:Gd}{ρ:List AV}{w:World}{v:Value}{s:SV}{m:Nat}{x:E}(h:EK v=some s)(hx:Bp hp gs m s=some x):
  Rd w v.cells.toList (x.den ρ).cells []/\(∀u∈v.cells.toList,u.oneCell'=true):=by
 have one:∀{v:Value} {y:AV},Rd w [v] [y] []->(∀cs,y≠ .agg cs)->(∀cs,y≠ .tup cs)->Rd w v.cells.toList y.cells []/\(∀u∈v.cells.toList,u.oneCell'=true):=by
  intro v y hr h1 h2;have h3:=bA hr h1 h2;have h4:y.cells=[y]:=by cases y<;>first|rfl|exact absurd rfl (h1 _)
  rw[one_cells h3,h4];exact⟨by simpa using hr,by simpa using h3⟩
 unfold EK at h;split at h
 ·split at h
  ·rename_i hk;simp at h;subst h;rw[JX hx];exact one (.int hk .nil) (by simp[E.den]) (by simp[E.den])
  ·cases h
 ·simp at h;subst h;rw[JX hx];exact one (.bool .nil) (by simp[E.den]) (by simp[E.den])
 ·split at h
  ·rename_i hk;simp at h;subst h;rw[JX hx];exact one (.str hk .nil) (by simp[E.den]) (by simp[E.den])
  ·cases h
 ·simp at h;subst h;rw[KL hx];exact one (.dn .nil) (by simp[E.den]) (by simp[E.den])
 ·simp at h;subst h;rw[JX hx];exact one (.de .nil) (by simp[E.den]) (by simp[E.den])
 ·rename_i cs;simp only[Option.bind_eq_bind,Ao,Ac]at h;obtain⟨l,hl,rfl⟩:=h;obtain⟨k,l',rfl,h1,rfl⟩:=Tc hx;rw[BD.ar]at h1;exact⟨Pz _ _ _ _ hl h1,bF _ _ hl⟩
 ·cases h
theorem eZ{w:World}{vs:List Value}{x:AV}(h:Rd w vs x.cells []):∀k,Rd w (List.replicate k vs).flatten (Ap (List.replicate k x)) []
 |0=> .nil
 |k+1=>by simp only[List.replicate_succ,List.flatten_cons,Ap,List.flatMap_cons];have:=h.app (eZ h k);simpa[Ap]using this
theorem VB(z:Array Value)(hz:0<z.size):∀k,(madeCells z (k*z.size)).toList=(List.replicate k z.toList).flatten
 |0=>by simp[madeCells]
 |k+1=>by
  have ih:=VB z hz k;simp only[madeCells,Array.toList_map,Array.toList_range]at ih ⊢;rw[Nat.add_mul,Nat.one_mul,List.range_add,List.map_append,ih,List.replicate_succ',List.flatten_append];congr 1;simp only[List.map_map,List.flatten_cons,List.flatten_nil,AB];apply List.ext_getElem?;intro i;simp only[List.getElem?_map,List.getElem?_range'];by_cases hi:i<z.size
  ·simp only[List.getElem?_range hi,Option.map_some,Function.comp_apply];have:(k*z.size+i) % z.size=i:=by rw[Nat.add_comm,Nat.add_mul_mod_self_right,Nat.mod_eq_of_lt hi]
   simp[this,hi]
  ·rw[List.getElem?_eq_none (by simpa using hi),List.getElem?_eq_none (by simpa using hi)];rfl
theorem ztX(h:Bk P c n nx sl hp a sl0 hp0 o gs){t:TypeId}{l m:Operand}(ho:o.op= .makeSlice t l m){s1 s2:SV}(BE:By sl0 gs l=some s1)(A1:By sl0 gs m=some s2)(he:eI P hp0 gs nx t s1 s2=some e)(hc:∀q∈e.bu,Cn.den c.ρ q):Aw P o c n nx sl hp gs a e:=by
 have DK:l∈o.op.operands:=by simp[ho,Op.operands]
 have Dn:m∈o.op.operands:=by simp[ho,Op.operands]
 unfold eI at he;split at he
 ·rename_i el x y Bm;have Bm:=Ig Bm;split at he
  ·cases he
  rename_i hz;have hz:GH P el=true:=by simpa using hz
  obtain⟨i,z,hi,Fj,Dr,BF,B9,Fu⟩:=JF hz;have r1:=h.cj BE DK;have r2:=h.cj A1 Dn;have ival:∀{x:E} {kk:IntKind} {k:Int} {v:Value},SR c [.e x] [v]->x.den c.ρ= .int kk k->v= .int kk k:=by
   intro x kk k v hr hx;cases hr with
   |e h1 _ _=>exact(FA h1 hx).1
  split at he
  ·rename_i Fw;split at he
   ·rename_i s hs;have hs:EK z=some s:=by simpa[hi,Fj]using hs
    obtain⟨w,hw,rfl⟩:=An.1 he;obtain⟨kk,k,hk,h0,hb,hle⟩:Cn.den c.ρ (.mkroom x (P.bytesOf el)):=BW hc;have E8:=ival r1 hk;have CQ:=ival r2 (by rw[<-E.ak c.ρ _ _ Fw];exact hk);obtain⟨c1,c2⟩:=bI (w:=c.w) (ρ:=c.ρ) hs hw;obtain⟨kn,rfl⟩:=Int.eq_ofNat_of_zero_le h0;have DH:(i.bytes:Int)*(kn:Int)<=281474976710656:=by rw[Fu]at hb;rw[Int.mul_comm];omega
    have hlen:=c1.len;have M5:=VB z.cells (by omega) kn;have AI:=run_make (P:=P) c.w t el i z Bm hi Fj kk kk kn kn (by omega) (Int.le_refl _) DH (by omega);have E6:(madeCells z.cells (kn*z.cells.size)).size=kn*P.cellsOf el:=by rw[size_madeCells,Dr,B9]
    have Bo:(madeCells z.cells (kn*z.cells.size)).toList.take ((List.replicate kn (w.den c.ρ)).length*P.cellsOf el)=(List.replicate kn z.cells.toList).flatten:=by rw[List.length_replicate,List.take_of_length_le (by rw[BG,E6];exact Av _),M5]
    refine Aw.newRow (xs:=List.replicate kn (w.den c.ρ)) (N:=[]) (C:=madeCells z.cells (kn*z.cells.size)) (cap:=kn) (wd:=c.w) (fz:=[]) (ts:=[]) h rfl ⟨rfl,rfl,rfl,rfl⟩ ?_ ?_ (by omega) (λu hu=> ?_) (by simp) (by simp only[maxLen];omega) E6 ?_ ?_ (by simp) (λ_=>rfl)
    ·simp only[execOp,ho,E8,CQ,Sem.run_bind,Int.ofNat_eq_natCast,List.length_replicate];rw[AI,Dr];rfl
    ·simp[E.den,hk,AV.rep]
    ·rw[List.eq_of_mem_replicate hu,<-hlen,BG,Dr,B9]
    ·rw[Bo];intro u hu;obtain⟨q,hq,hu⟩:=List.mem_flatten.1 hu;rw[List.eq_of_mem_replicate hq]at hu;exact c2 u hu
    ·rw[Bo];exact eZ c1 kn
   ·cases he
  ·split at he
   ·rename_i k0 _;simp only[Ac]at he;subst he;obtain⟨kk,k,hk,h0,hb,hle⟩:Cn.den c.ρ (.mkroom y (P.bytesOf el)):=BW hc;have E8:=ival r1 (show(E.int k0 0).den c.ρ= .int k0 0 from rfl);have CQ:=ival r2 hk;obtain⟨kn,rfl⟩:=Int.eq_ofNat_of_zero_le h0;have DH:(i.bytes:Int)*(kn:Int)<=281474976710656:=by
     rw[Fu]at hb;rw[Int.mul_comm];omega
    have AI:=run_make (P:=P) c.w t el i z Bm hi Fj k0 kk 0 kn (by omega) (by omega) DH (by omega);refine Aw.newRow (xs:=[]) (N:=[]) (C:=madeCells z.cells (kn*i.size)) (cap:=kn) (wd:=c.w) (fz:=[]) (ts:=[]) h rfl ⟨rfl,rfl,rfl,rfl⟩ ?_ rfl (by omega) (by simp) (by simp) (by simp only[maxLen];omega) (by rw[size_madeCells,B9]) (by simp) (by simpa[Ap]using Rd.nil) (by simp) (λ_=>rfl);simp only[execOp,ho,E8,CQ,Sem.run_bind,Int.ofNat_eq_natCast];rw[AI];rfl
   ·cases he
 ·cases he
end
section
variable {P:Program} {c:Cx} {n nx:Nat} {sl sl0:Nat->SV} {hp hp0:Nat->Option Ae} {a:Act} {o:Oper} {gs:Gd} {e:A3} {sg:BN} {nv:Nat}
def Qa(v:Option Value)(k d:Nat):Prop:=(v=none/\k=d)\/ ∃kk,v=some (.int kk (k:Int))
theorem Ss{w:World}{t el:TypeId}(hu:P.underlying t=some (.slice el))(Bc:C4 P el=true)(p:Option Addr)(m r l h:Nat){lo hi:Option Value}(BQ:Qa lo l 0)(IL:Qa hi h m)(h1:l<=h)(h2:h<=m)(h3:m<=r):
  (Instr.sliceAt t (.slice p m r) lo hi none).run P w= .ok (sliced p l h r (P.cellsOf el)) w:=by
 have Fm:P.underlying t=some (.slice (P.elem t)):=by simp[Program.elem,hu]
 have he:P.elem t=el:=by simp[Program.elem,hu]
 have hs:(sizeOf (P.elem t)).run P w= .ok (P.cellsOf el) w:=by rw[he];exact NO Bc w
 rw[run_sliceAt_slice w t _ _ _ _ Fm];rcases BQ with⟨rfl,rfl⟩|⟨kl,rfl⟩<;>rcases IL with⟨rfl,rfl⟩|⟨kh,rfl⟩
 ·rw[run_slice_all w t p h r Fm,hs];rfl
 ·rw[run_slice_h w t p m r Fm kh _ (by omega) (by omega),hs];rfl
 ·rw[run_slice_l w t p h r Fm kl _ (by omega) (by omega),hs];rfl
 ·rw[run_slice_lh w t p m r Fm kl kh _ _ (by omega) (by omega) (by omega),hs];rfl
theorem zrG(s:ByteArray)(a b:Nat):(s.extract a b).data.toList=(s.data.toList.drop a).take (b-a):=by rw[ByteArray.data_extract,Array.toList_extract,List.extract_eq_take_drop]
theorem zmz{w:World}{t:TypeId}(hu:P.underlying t=some .string)(s:ByteArray)(l h:Nat){lo hi:Option Value}(BQ:Qa lo l 0)(IL:Qa hi h s.size)(h1:l<=h)(h2:h<=s.size):
  (Instr.sliceAt t (.string s) lo hi none).run P w= .ok (.string (s.extract l h)) w:=by
 rw[run_sliceAt_string w t _ _ _ _ hu];rcases BQ with⟨rfl,rfl⟩|⟨kl,rfl⟩<;>rcases IL with⟨rfl,rfl⟩|⟨kh,rfl⟩
 ·rw[run_slice_string_all w t s hu]
 ·rw[run_slice_string_h w t s hu kh _ (by omega) (by omega)];rfl
 ·rw[run_slice_string_l w t s hu kl _ (by omega) (by omega)];rfl
 ·rw[run_slice_string w t s kl kh _ _ hu (by omega) (by omega) (by omega)];rfl
theorem cM{sz:Nat}(ys:List AV)(hs:∀y∈ys,y.cells.length=sz)(l h:Nat)(hl:l<=h)(hh:h<=ys.length):((Ap ys).drop (l*sz)).take ((h-l)*sz)=Ap ((ys.take h).drop l):=by
 have e:ys=ys.take l++((ys.take h).drop l++ys.drop h):=by
  rw[<-List.append_assoc];have:ys.take l++(ys.take h).drop l=ys.take h:=by
   have h2:ys.take l=(ys.take h).take l:=by rw[List.take_take,Nat.min_eq_left hl]
   rw[h2,BC]
  rw[this,BC]
 have f1:Ap ys=Ap (ys.take l)++(Ap ((ys.take h).drop l)++Ap (ys.drop h)):=by
  conv=>lhs;rw[e]
  simp[Ap]
 have l1:(Ap (ys.take l)).length=l*sz:=by rw[JI _ (λy hy=>hs y (Bw hy)),Ax,Nat.min_eq_left (by omega)]
 have l2:(Ap ((ys.take h).drop l)).length=(h-l)*sz:=by rw[JI _ (λy hy=>hs y (Bw (B1 hy))),BU,Ax,Nat.min_eq_left (by omega)]
 rw[f1,<-l1,List.drop_left,<-l2,List.take_left]
theorem zzP{w:World}{v:Value}{ys:List AV}{f:List Nat}{sz:Nat}(hr:Rd w [v] [.sl ys] f)(hs:∀y∈ys,y.cells.length=sz)(l h:Nat)(hl:l<=h)(hh:h<=ys.length):
  ∃p r g,v= .slice p ys.length r/\ys.length<=r/\Rd w [sliced p l h r sz] [.sl ((ys.take h).drop l)] g/\ ∀b∈g,b∈f:=by
 cases hr with
 |dn _=>
  rename_i p r;have hh:h=0:=by simpa using hh
  subst hh;have hl:l=0:=by omega
  subst hl;exact⟨_,_,[],rfl,Nat.zero_le _,by simpa[sliced]using Rd.dn .nil,by simp⟩
 |scons hb h1 h2 h3 h4 h5 h6 GV h7 h8=>
  rename_i b o m r cs C t fz sz' f1 f2;have hy:∃y,y∈ys:=by cases ys with|nil=>simp at h3;omega|cons y _=>exact⟨y,by simp⟩
  obtain⟨y0,G3⟩:=hy;have FR:sz'=sz:=(h4 y0 G3).symm.trans (hs y0 G3);subst FR;subst h3;refine⟨some ⟨b,o,none⟩,r,?_⟩;rcases Nat.eq_or_lt_of_le hl with he|AL
  ·subst he;refine⟨[],rfl,h2.2,?_,by simp⟩;have:(ys.take l).drop l=[]:=List.drop_eq_nil_of_le (by simp;omega);rw[this];simp only[sliced,Nat.sub_self];exact .dn .nil
  ·have C6:=h7.len;obtain⟨g,hg,Db⟩:=h7.piece (l*sz') ((h-l)*sz');rw[cM ys h4 l h hl hh]at Db;refine⟨b::(g++ []),rfl,h2.2,?_,λx hx=> ?_⟩
   ·have CU:sliced (some (⟨b,o,none⟩:Addr)) l h r sz'= .slice (some ⟨b,o+l*sz',none⟩) (h-l) (r-l):=by
     unfold sliced;split
     ·exfalso;omega
     ·simp[Addr.add_lit]
    rw[CU];refine Rd.scons (cs:=(cs.drop (l*sz')).take ((h-l)*sz')) hb (by omega) ⟨by omega,by omega⟩ (by simp;omega) (λy hy=>h4 y (Bw (B1 hy))) h5 (λj u hu=> ?_) (λu hu=>GV u (B1 (Bw hu))) Db .nil;rw[List.getElem?_take]at hu;split at hu
    ·rw[List.getElem?_drop]at hu;have:=h6 _ _ hu;rw[<-this];congr 1;omega
    ·cases hu
   ·simp only[AB,Ad]at hx;rcases hx with rfl|hx
    ·simp
    ·have:=hg x hx;simp[this]
theorem Gb{f:Operand->Option SV}{x:Option Operand}{r:Option SV}(h:Hc f x=some r):(x=none/\r=none)\/ ∃y z,x=some y/\f y=some z/\r=some z:=by
 cases x with
 |none=>simp[Hc]at h;exact .inl ⟨rfl,h.symm⟩
 |some y=>obtain⟨z,hz,rfl⟩:=An.1 h;exact .inr ⟨y,z,rfl,hz,rfl⟩
theorem Wg{s:Option SV}{d l:E}(h:Mv s d=some l):(s=none/\l=d)\/s=some (.e l):=by
 unfold Mv at h;split at h
 ·simp at h;exact .inl ⟨rfl,h.symm⟩
 ·simp at h;subst h;exact .inr rfl
 ·cases h
theorem zsc(h:Bk P c n nx sl hp a sl0 hp0 o gs){t:TypeId}{x:Operand}{lo hi mx:Option Operand}(ho:o.op= .slice t x lo hi mx){s:SV}(hs:By sl0 gs x=some s){l' h' m':Option SV}(Bz:Hc (By sl0 gs) lo=some l')(H3:Hc (By sl0 gs) hi=some h')(E1:Hc (By sl0 gs) mx=some m')(he:dQ P hp0 gs t s l' h' m'=some e)(hc:∀q∈e.bu,Cn.den c.ρ q):Aw P o c n nx sl hp gs a e:=by
 have hm:x∈o.op.operands:=by simp[ho,Op.operands]
 have IU:∀y,lo=some y->y∈o.op.operands:=λy hy=>by simp[ho,Op.operands,hy]
 have Hs:∀y,hi=some y->y∈o.op.operands:=λy hy=>by simp[ho,Op.operands,hy]
 have YA:∀y,mx=some y->y∈o.op.operands:=λy hy=>by simp[ho,Op.operands,hy]
 have hx:=h.cj hs hm;have ival:∀{x:E} {kk:IntKind} {k:Int} {v:Value},SR c [.e x] [v]->x.den c.ρ= .int kk k->v= .int kk k:=by
  intro x kk k v hr hx;cases hr with
  |e h1 _ _=>exact(FA h1 hx).1
 unfold dQ at he;split at he
 ·cases he
 rename_i y hy;obtain⟨f,q1,q2⟩:=h.ji hs hm hy;have ex:(execOp a.eval o).run P c.w=((Instr.sliceAt t (a.eval x) (lo.map a.eval) (hi.map a.eval) (mx.map a.eval)).run P c.w).andThen λv w=> .ok (.value v) w:=by simp[execOp,ho]
 split at he
 ·split at he
  ·rename_i el _ _ hu;split at he
   ·rename_i Bc;simp only[Ac]at he;subst he;have hd:(y.den c.ρ).len≠ .undef:=BW hc;cases BA:y.den c.ρ<;>simp only[BA,AV.len,ne_eq,not_true_eq_false]at hd;rename_i xs;have hl:(y.den c.ρ).len= .int .i64 (xs.length:Int):=by rw[BA];rfl
    obtain⟨p,q,r,hv⟩:∃p q r,a.eval x= .slice p q r:=by
     rcases PZ q1 hl with⟨p,q,hv,Dy⟩|⟨b,o',k,q,hv,Dy⟩
     ·exact⟨_,_,_,hv⟩
     ·exact⟨_,_,_,hv⟩
    rcases Gb Bz with⟨rfl,_⟩|⟨_,_,_,_,hh⟩
    ·rcases Gb H3 with⟨_,hh⟩|⟨oh,sh,rfl,vW,hh⟩
     ·cases hh
     ·cases hh;rcases Gb E1 with⟨_,hh⟩|⟨om,sm,rfl,YU,hh⟩
      ·cases hh
      ·cases hh;have v1:=(λ{kk:IntKind} (hr:SR c [.e (.int kk 0)] [a.eval oh])=>ival hr (show(E.int kk 0).den c.ρ= .int kk 0 from by simp only[E.den])) (h.cj vW (Hs _ rfl))
       have v2:=(λ{kk:IntKind} (hr:SR c [.e (.int kk 0)] [a.eval om])=>ival hr (show(E.int kk 0).den c.ρ= .int kk 0 from by simp only[E.den])) (h.cj YU (YA _ rfl))
       have Fm:P.underlying t=some (.slice (P.elem t)):=by simp[Program.elem,hu]
       have Bm:P.elem t=el:=by simp[Program.elem,hu]
       refine Aw.pure h (v:= .slice p 0 0) ?_ (.emp .nil) rfl;rw[ex,hv];simp only[Option.map_none,Option.map_some,v1,v2];rw[run_sliceAt_slice c.w t _ _ _ _ Fm,run_slice_hm c.w t p q r Fm _ _ 0 0 (by omega) (by omega) (by omega),Bm,NO Bc];simp[sliced]
    ·cases hh
   ·cases he
  ·cases he
 ·have IV:mx=none:=by
   rcases Gb E1 with⟨hh,_⟩|⟨_,_,_,_,hh⟩
   ·exact hh
   ·cases hh
  subst IV;have blo:∀(l:E) (kk:IntKind) (k:Nat),Mv l' (.int .i64 0)=some l->l.den c.ρ= .int kk k->Qa (lo.map a.eval) k 0:=by
   intro l kk k hl hk;rcases Gb Bz with⟨rfl,rfl⟩|⟨ol,sl',rfl,CU,rfl⟩
   ·rcases Wg hl with⟨_,rfl⟩|hh
    ·simp only[E.den,AV.int.injEq]at hk;exact .inl ⟨rfl,by omega⟩
    ·cases hh
   ·rcases Wg hl with⟨hh,_⟩|hh
    ·cases hh
    ·cases hh;exact .inr ⟨kk,by rw[Option.map_some,ival (h.cj CU (IU _ rfl)) hk]⟩
  have bhi:∀(d l:E) (kk:IntKind) (k m:Nat),Mv h' d=some l->l.den c.ρ= .int kk k->d.den c.ρ= .int .i64 (m:Int)->Qa (hi.map a.eval) k m:=by
   intro d l kk k m hl hk hd;rcases Gb H3 with⟨rfl,rfl⟩|⟨ol,sl',rfl,CU,rfl⟩
   ·rcases Wg hl with⟨_,rfl⟩|hh
    ·rw[hd]at hk;simp only[AV.int.injEq]at hk;exact .inl ⟨rfl,by omega⟩
    ·cases hh
   ·rcases Wg hl with⟨hh,_⟩|hh
    ·cases hh
    ·cases hh;exact .inr ⟨kk,by rw[Option.map_some,ival (h.cj CU (Hs _ rfl)) hk]⟩
  split at he
  ·rename_i hu;split at he
   ·rename_i l hb q IP IK;simp only[Ac]at he;subst he;obtain⟨ka,ai,kb,bi,bs,d1,d2,d3,d4,d5,d6⟩:Cn.den c.ρ (.winS y l hb):=BW hc;obtain⟨an,rfl⟩:=Int.eq_ofNat_of_zero_le d4;obtain⟨bn,rfl⟩:=Int.eq_ofNat_of_zero_le (Int.le_trans d4 d5);obtain⟨ss,hv,rfl,hle⟩:=Qh q1 d3;have BF:ss.data.toList.length=ss.size:=by simp
    have AI:=zmz (P:=P) (w:=c.w) hu ss an bn (blo l ka an IP d1) (bhi (.slen y) hb kb bn ss.size IK d2 (by simp only[E.den,d3,AV.slen];simp)) (by omega) (by omega);refine Aw.pure h (v:= .string (ss.extract an bn)) ?_ (.cr ?_) rfl
    ·rw[ex,hv,Option.map_none,AI];rfl
    ·simp only[E.den,d1,d2,d3,AV.swin];have:(List.take (bn:Int).toNat ss.data.toList).drop (an:Int).toNat=(ss.extract an bn).data.toList:=by
      simp[zrG,List.drop_take]
     rw[this];exact .str (by simp only[ByteArray.size_extract];omega) .nil
   ·cases he
  ·rename_i el hu;split at he
   ·cases he
   rename_i Bc;have Bc:C4 P el=true:=by simpa using Bc
   split at he
   ·rename_i l hb fz IP IK GY;simp only[Ac]at he;subst he;have Bi:Cn.den c.ρ (.issl y (P.cellsOf el)):=BW hc;obtain⟨ys,CY,H9⟩:=Bi;obtain⟨ka,ai,kb,bi,m,d1,d2,d3,d4,d5,d6⟩:Cn.den c.ρ (.win y l hb):=hc _ (by simp);obtain⟨an,rfl⟩:=Int.eq_ofNat_of_zero_le d4;obtain⟨bn,rfl⟩:=Int.eq_ofNat_of_zero_le (Int.le_trans d4 d5);rw[CY]at q1;have hm9:(m:Int)=ys.length:=by rw[CY]at d3;simpa[AV.len]using d3.symm
    split at GY
    ·rename_i Ht;obtain⟨p,r,g,hv,hr,Db,hg⟩:=zzP q1 H9 an bn (by omega) (by omega);have AI:=Ss (P:=P) (w:=c.w) hu Bc p ys.length r an bn (blo l ka an IP d1) (bhi (.len y) hb kb bn ys.length IK d2 (by simp only[E.den,CY,AV.len])) (by omega) (by omega) hr;intro next Q hk
     unfold Oper.wp;rw[ex,hv,Option.map_none,AI];show Oper.upon P o a next Q (.ok (.value _) c.w)
     rw[Oper.upon_value];have hrel:=h.rel.freeze h.hp h.gs GY;have AS:∀b∈g,(c.bf (fz.map (·.1))).ok b:=λb hb=>SU h.rel h.eh h.gs GY Ht (q2 b (hg b hb));refine hk _ (c.bf (fz.map (·.1))) ⟨rfl,rfl,rfl,rfl,λt ht=> .inl ht⟩ (hrel.put (SR.mkGd (.e (f:=g) ?_ AS .nil) gs h.gs) o.dst);show Rd c.w _ [(E.win y l hb).den c.ρ] g;simp only[E.den,d1,d2,CY,AV.win,Int.ofNat_eq_natCast,DN];exact Db
    ·cases GY
   ·cases he
  ·cases he
end
section
variable {P:Program} {c:Cx} {n nx:Nat} {sl sl0:Nat->SV} {hp hp0:Nat->Option Ae} {a:Act} {o:Oper} {gs:Gd} {e:A3} {sg:BN} {nv:Nat}
theorem Qw{w:World}{v:Value}{x:AV}{f:List Nat}{k:SK}(h:Rd w [v] [x] f)(hk:x.sk=some k):(∃kk n,k= .int kk/\v= .int kk n/\x= .int kk n)\/(∃b,k= .bool/\v= .bool b/\x= .bool b)\/ ∃s:ByteArray,k= .str/\v= .string s/\x= .str s.data.toList:=by
 cases h<;>simp[AV.sk]at hk
 ·exact .inl ⟨_,_,hk.symm,rfl,rfl⟩
 ·exact .inr (.inl ⟨_,hk.symm,rfl,rfl⟩)
 ·exact .inr (.inr ⟨_,hk.symm,rfl,rfl⟩)
theorem aX{t:TypeId}(h:(∃k,P.underlying t=some (.int k))\/P.underlying t=some .bool\/P.underlying t=some .string):Aj P t=false:=by rcases h with⟨k,h⟩|h|h<;>simp[Aj,h]
theorem lD{w:World}(d:Nat):∀(fs:List Field) (j:Nat) (ks:List SK) {as_ bs:List Value} {cs ds:List AV} {f g:List Nat},Qo P j fs=some ks->Rd w as_ cs f->Rd w bs ds g->(cs.drop j).map AV.sk=ks.map some->(ds.drop j).map AV.sk=ks.map some->
  (Op.eqFields (d+1) as_.toArray bs.toArray fs).run P w= .ok (AV.leq (cs.drop j) (ds.drop j)) w
 | [],j,ks,as_,bs,cs,ds,f,g,hk,h1,h2,k1,k2=>by
  simp[Qo]at hk;subst hk;have e1:cs.drop j=[]:=by simpa using k1
  have e2:ds.drop j=[]:=by simpa using k2
  rw[e1,e2];simp[Op.eqFields,AV.leq]
 |fd::fs,j,ks,as_,bs,cs,ds,f,g,hk,h1,h2,k1,k2=>by
  unfold Qo at hk;split at hk
  ·cases hk
  rename_i As;simp only[not_or,Br,Decidable.not_not,ne_eq,Bool.not_eq_false]at As;obtain⟨hn,ho,Bc,BW⟩:=As;have main:∀(k:SK) (l:List SK),ks=k::l->Qo P (j+1) fs=some l->(∀a b (x y:AV) f g,Rd w [a] [x] f->Rd w [b] [y] g->x.sk=some k->y.sk=some k->(Op.equalIn (d+1) fd.type a b).run P w= .ok (x.seq y) w)->Aj P fd.type=false->
    (Op.eqFields (d+1) as_.toArray bs.toArray (fd::fs)).run P w= .ok (AV.leq (cs.drop j) (ds.drop j)) w:=by
   rintro k l rfl hl heq Hi;have MZ:j<cs.length:=by
    rcases Nat.lt_or_ge j cs.length with hh|hh
    ·exact hh
    ·rw[List.drop_eq_nil_of_le hh]at k1;simp at k1
   have Yp:j<ds.length:=by
    rcases Nat.lt_or_ge j ds.length with hh|hh
    ·exact hh
    ·rw[List.drop_eq_nil_of_le hh]at k2;simp at k2
   rw[Be MZ]at k1;rw[Be Yp]at k2;simp only[List.map_cons,List.cons.injEq]at k1 k2;have l1:=h1.len;have l2:=h2.len;obtain⟨v,f1,hv,_,r1⟩:=h1.at (show cs[j]?=some cs[j] by simp[MZ])
   obtain⟨u,g1,hu,_,r2⟩:=h2.at (show ds[j]?=some ds[j] by simp[Yp])
   have p1:=S9 Bc as_ fd.offset (by omega) (.inr BW) w;have p2:=S9 Bc bs fd.offset (by omega) (.inr BW) w;have e1:((as_.drop fd.offset).take (P.cellsOf fd.type)).headD Go.undef=v:=by rw[BW,ho,Be (by omega),List.take_succ_cons];simpa[show j<as_.length by omega]using hv
   have e2:((bs.drop fd.offset).take (P.cellsOf fd.type)).headD Go.undef=u:=by rw[BW,ho,Be (by omega),List.take_succ_cons];simpa[show j<bs.length by omega]using hu
   rw[Hi,e1]at p1;rw[Hi,e2]at p2;have ih:=lD (w:=w) d fs (j+1) l hl h1 h2 k1.2 k2.2;rw[Be MZ,Be Yp];simp only[Op.eqFields,ne_eq,hn,not_false_eq_true,if_true,Sem.run_bind,p1,p2,Bv,if_false,Result.andThen_ok,heq v u _ _ _ _ r1 r2 k1.1 k2.1];cases hb:(cs[j]).seq ds[j]with
   |true=>simpa[AV.leq,hb]using ih
   |false=>simp[AV.leq,hb]
  split at hk
  ·rename_i k l hu hl;simp at hk;refine main _ _ hk.symm hl (λa b x y f g ra rb hx hy=> ?_) (aX (.inl ⟨_,hu⟩));rcases Qw ra hx with⟨kk,m,h5,rfl,rfl⟩|⟨_,h5,_⟩|⟨_,h5,_⟩<;>cases h5
   rcases Qw rb hy with⟨kk,m2,h5,rfl,rfl⟩|⟨_,h5,_⟩|⟨_,h5,_⟩<;>cases h5
   exact run_equalIn_int w d fd.type _ _ _ _ hu
  ·rename_i l hu hl;simp at hk;refine main _ _ hk.symm hl (λa b x y f g ra rb hx hy=> ?_) (aX (.inr (.inl hu)));rcases Qw ra hx with⟨kk,m,h5,_⟩|⟨_,_,rfl,rfl⟩|⟨_,h5,_⟩<;>try cases h5
   rcases Qw rb hy with⟨kk,m,h5,_⟩|⟨_,_,rfl,rfl⟩|⟨_,h5,_⟩<;>try cases h5
   exact bY d _ _ hu w
  ·rename_i l hu hl;simp at hk;refine main _ _ hk.symm hl (λa b x y f g ra rb hx hy=> ?_) (aX (.inr (.inr hu)));rcases Qw ra hx with⟨kk,m,h5,_⟩|⟨_,h5,_⟩|⟨_,_,rfl,rfl⟩<;>try cases h5
   rcases Qw rb hy with⟨kk,m,h5,_⟩|⟨_,h5,_⟩|⟨_,_,rfl,rfl⟩<;>try cases h5
   rw[run_equalIn_string w d _ _ _ hu,zpb];rfl
  ·cases hk
theorem zxd(h:Bk P c n nx sl hp a sl0 hp0 o gs){op:BinOp}{t:TypeId}{x y:Operand}{ty:TypeId}(ho:o.op= .binOp op t x y ty){fs:Array Field}(hu:P.underlying t=some (.struct fs))(he:BL P sg sl0 hp0 nv nx gs o=some e)(hc:∀q∈e.bu,Cn.den c.ρ q):Aw P o c n nx sl hp gs a e:=by
 have DK:x∈o.op.operands:=by simp[ho,Op.operands]
 have Dn:y∈o.op.operands:=by simp[ho,Op.operands]
 simp only[BL,ho,Ao]at he;obtain⟨s1,BE,s2,A1,he⟩:=he;unfold Qn at he;simp only[hu]at he;split at he
 ·cases he
 rename_i hg;simp only[Bool.or_eq_true,not_or,Bool.not_eq_true]at hg;split at he
 ·rename_i ks x' y' uX DA BA;obtain⟨f1,q1,_⟩:=h.ji BE DK DA;obtain⟨f2,q2,_⟩:=h.ji A1 Dn BA;have Cr:P.underlying t=some (.struct (P.fieldsOf t)):=by simp[Program.fieldsOf,hu]
  have Lr:P.fieldsOf t=fs:=by simp[Program.fieldsOf,hu]
  have key:∀(k1:Cn.den c.ρ (.kinds x' ks)) (k2:Cn.den c.ρ (.kinds y' ks)),∃as_ bs:List Value,∃b,a.eval x= .agg as_.toArray/\a.eval y= .agg bs.toArray/\(E.aeq x' y').den c.ρ= .bool b/\(Op.equalIn 10000 t (.agg as_.toArray) (.agg bs.toArray)).run P c.w= .ok b c.w:=by rintro⟨cs,Bi,k1⟩ ⟨ds,Gp,k2⟩;obtain⟨as_,E8,_,r1⟩:=Io q1 Bi;obtain⟨bs,CQ,_,r2⟩:=Io q2 Gp;refine⟨as_,bs,AV.leq cs ds,E8,CQ,by simp only[E.den,Bi,Gp,AV.aeq],?_⟩;rw[run_equalIn_struct c.w 9999 t _ _ Cr hg.1,Lr];exact lD (w:=c.w) 9998 fs.toList 0 ks uX r1 r2 (by simpa using k1) (by simpa using k2)
  split at he
  ·simp only[Ac]at he;subst he;obtain⟨as_,bs,b,E8,CQ,hd,hr⟩:=key (hc _ (by simp)) (hc _ (by simp));refine Aw.pure h (v:= .bool b) ?_ (.cr (by rw[hd];exact .bool .nil)) rfl;rw[Og ho c.w E8 CQ];simp[run_eqGuard_agg c.w _ t x y _ _ hg.2,run_eql_struct,hr]
  ·simp only[Ac]at he;subst he;obtain⟨as_,bs,b,E8,CQ,hd,hr⟩:=key (hc _ (by simp)) (hc _ (by simp));refine Aw.pure h (v:= .bool (!b)) ?_ (.cr (by simp only[E.den]at hd ⊢;rw[hd];exact .bool .nil)) rfl;rw[Og ho c.w E8 CQ];simp[run_eqGuard_agg c.w _ t x y _ _ hg.2,run_neq_struct,hr]
  ·cases he
 ·cases he
theorem lL(h:Bk P c n nx sl hp a sl0 hp0 o gs){x y:Operand}{cl:Call}(ho:o.op= .call cl){op:BinOp}(AQ:(op= .gtr/\cl.callee= .builtin .max)\/(op= .lss/\cl.callee= .builtin .min))(CC:cl.args.toList=[x,y]){s1 s2:SV}(BE:By sl0 gs x=some s1)(A1:By sl0 gs y=some s2)
  (he:Wk op s1 s2=some e) (hc:∀q∈e.bu,Cn.den c.ρ q):Aw P o c n nx sl hp gs a e:=by
 have Ah:cl.args= #[x,y]:=by apply Array.ext';simp[CC]
 have DK:x∈o.op.operands:=by rcases AQ with⟨_,hh⟩|⟨_,hh⟩<;>simp[ho,Op.operands,Call.operands,hh,Ah]
 have Dn:y∈o.op.operands:=by rcases AQ with⟨_,hh⟩|⟨_,hh⟩<;>simp[ho,Op.operands,Call.operands,hh,Ah]
 unfold Wk at he;split at he
 ·rename_i x' y';simp only[Ac]at he;subst he;obtain⟨f1,q1,_⟩:=G6 (h.cj BE DK) rfl;obtain⟨f2,q2,_⟩:=G6 (h.cj A1 Dn) rfl;have hd:AV.bin op (y'.den c.ρ) (x'.den c.ρ)≠ .undef:=BW hc;cases hx:x'.den c.ρ<;>cases hy:y'.den c.ρ<;>simp only[hx,hy,AV.bin,ne_eq,not_true_eq_false]at hd;rename_i k m k' m';split at hd
  ·rename_i hk;have hk:k'=k:=by rcases hk with hk|hk|hk;exact hk;all_goals (rcases AQ with⟨h1,_⟩|⟨h1,_⟩<;>rw[h1]at hk<;>cases hk)
   subst hk;obtain⟨v1,i1⟩:=FA q1 hx;obtain⟨v2,i2⟩:=FA q2 hy;rcases AQ with⟨rfl,Ar⟩|⟨rfl,Ar⟩
   ·refine Aw.pure h (v:= .int k' (if m'>m then m' else m)) ?_ (.cr ?_) rfl
    ·simp[execOp,ho,resolve,Ar,Ah,invoke,builtin,Builtin.max_,Builtin.max2,v1,v2]
    ·simp only[E.den,hx,hy,AV.bin,true_or,if_true,CG];by_cases hh:m'>m
     ·simp only[hh,decide_true,AV.cond,if_true];exact .int i2 .nil
     ·simp only[hh,decide_false,AV.cond,if_false];exact .int i1 .nil
   ·refine Aw.pure h (v:= .int k' (if m'<m then m' else m)) ?_ (.cr ?_) rfl
    ·simp[execOp,ho,resolve,Ar,Ah,invoke,builtin,Builtin.min_,Builtin.min2,v1,v2]
    ·simp only[E.den,hx,hy,AV.bin,true_or,if_true,CG];by_cases hh:m'<m
     ·simp only[hh,decide_true,AV.cond,if_true];exact .int i2 .nil
     ·simp only[hh,decide_false,AV.cond,if_false];exact .int i1 .nil
  ·exact absurd rfl hd
 ·cases he
end
inductive Cj(P:Program)(w:World):List TypeId->List Bool->List Value->List AV->List Nat->List Nat->Prop where
 |nil {fl}:Cj P w [] fl [] [] [] []
 |own {t ts fl el u us y ys top N rf hs}:fl.headD false=true->Co P t=some el->(B4 P el=true/\N=[]\/B4 P el=false/\DO P t=none)->CA w el (P.cellsOf el) u y top N->Cj P w ts fl.tail us ys rf hs->Cj P w (t::ts) fl (u::us) (y::ys) (N++rf) (top++hs)
 |deep {t ts fl el e z l u us y ys top rf hs}:fl.headD false=true->Co P t=some el->B4 P el=false->DO P t=some (.row e z l)->DC w [.row e z l] [u] [y] top->Cj P w ts fl.tail us ys rf hs->Cj P w (t::ts) fl (u::us) (y::ys) rf (top++hs)
 |rd {t ts fl u us y ys f rf hs}:(fl.headD false=true->Co P t=none)->Rd w [u] [y] f->Cj P w ts fl.tail us ys rf hs->Cj P w (t::ts) fl (u::us) (y::ys) (f++rf) hs
def Oi(P:Program)(w:World)(t:TypeId)(fl:List Bool)(v:Value)(x:AV)(rf hs:List Nat):Prop:=
 ∃us ys,(if Aj P t then v= .agg us.toArray/\x= .agg ys/\ ∀u∈us,u.oneCell'=true else us=[v]/\ys=[x])/\Cj P w (A2 P t) fl us ys rf hs
def Eb(P:Program)(w:World)(t:TypeId)(fl:List Bool)(v:Value)(x:AV)(rf hs:List Nat):Prop:=
 if FW P t fl then Oi P w t fl v x rf hs else Rd w [v] [x] rf/\hs=[]
inductive Jn(P:Program)(w:World):List TypeId->List Bool->List Value->List AV->List Nat->List Nat->Prop where
 |nil {fl}:Jn P w [] fl [] [] [] []
 |cons {t ts fl v vs x xs f h rf hs}:Eb P w t fl v x f h->Jn P w ts (fl.drop (A2 P t).length) vs xs rf hs->Jn P w (t::ts) fl (v::vs) (x::xs) (f++rf) (h++hs)
theorem Cj.len{P:Program}{w:World}{ts:List TypeId}{fl:List Bool}{us:List Value}{ys:List AV}{rf hs:List Nat}(h:Cj P w ts fl us ys rf hs):us.length=ts.length/\ys.length=ts.length:=by induction h<;>simp_all
theorem Cj.inb{P:Program}{w:World}{ts:List TypeId}{fl:List Bool}{us:List Value}{ys:List AV}{rf hs:List Nat}(h:Cj P w ts fl us ys rf hs):(∀b∈rf,b<w.heap.size)/\ ∀b∈hs,b<w.heap.size:=by
 induction h with
 |nil=>simp
 |deep _ _ _ _ h _ ih=>
  refine⟨ih.1,λb hb=> ?_⟩;rcases Af.1 hb with hb|hb
  ·exact h.inb b hb
  ·exact ih.2 b hb
 |own _ _ _ h _ ih=>
  refine⟨λb hb=> ?_,λb hb=> ?_⟩
  ·rcases Af.1 hb with hb|hb
   ·obtain⟨xs,_,_,_,⟨_,_,_,rfl⟩|⟨g,cap,C,_,_,_,_,_,_,_,hr⟩⟩:=h
    ·simp at hb
    ·exact hr.inb b hb
   ·exact ih.1 b hb
  ·rcases Af.1 hb with hb|hb
   ·obtain⟨xs,_,_,_,⟨_,_,rfl,_⟩|⟨g,cap,C,_,_,_,hh,_,rfl,_⟩⟩:=h
    ·simp at hb
    ·simp at hb;subst hb;exact De hh
   ·exact ih.2 b hb
 |rd _ h _ ih=>
  refine⟨λb hb=> ?_,ih.2⟩;rcases Af.1 hb with hb|hb
  ·exact h.inb b hb
  ·exact ih.1 b hb
structure AN where
 tag:Nat
 new:Option Value
 top:List Nat
 bc:Ae
def AN.pair(r:AN):Nat × Ae:=(r.tag,r.bc)
structure EO(c c':Cx)(w':World)(recs:List AN):Prop where
 ρ:c'.ρ=c.ρ
 w:c'.w=w'
 G:∀r∈recs,c'.G r.tag=⟨r.top,[]⟩
 new:∀r∈recs,∀hv,r.new=some hv->c'.K r.tag 0/\(∀g,c'.K r.tag g->g<=0)/\c'.H r.tag 0=hv
 K:∀t g,c.K t g->c'.K t g/\c'.H t g=c.H t g
 old:∀t,c.U t-> ∀g,c'.K t g->c.K t g
 ic:∀r∈recs,r.new.isSome=true->c'.E r.tag=0
 fm:∀r∈recs,r.new=none->c'.E r.tag=c.E r.tag+1
theorem EO.mono{c c':Cx}{w':World}{recs recs':List AN}(h:EO c c' w' recs)(hs:∀r∈recs',r∈recs):EO c c' w' recs':=
 ⟨h.ρ,h.w,λr hr=>h.G r (hs r hr),λr hr=>h.new r (hs r hr),h.K,h.old,λr hr=>h.ic r (hs r hr),λr hr=>h.fm r (hs r hr)⟩
section
variable {P:Program} {c:Cx} {w':World}
theorem zyk{c':Cx}{t:Nat}{u:Value}{el sz:Nat}{y:AV}{top N:List Nat}(h:CA w' el sz u y top N)(hk:c'.K t 0)(hh:c'.H t 0=u):SR c' [.own t 0] [u]:=by
 obtain⟨xs,_,_,_,⟨_,⟨a,rfl⟩,_⟩|⟨g,cap,C,rfl,_⟩⟩:=h
 ·exact .own hk hh .nil
 ·exact .own hk hh .nil
theorem Pn{nx:Nat}{mk:Nat->E}{ts:List TypeId}{fl:List Bool}{us:List Value}{ys:List AV}{rf hs:List Nat}(h:Cj P w' ts fl us ys rf hs):∀(j:Nat),(∀i y,ys[i]?=some y->(mk (j+i)).den c.ρ=y)->
  ∃recs:List AN,(CJ P nx mk j ts fl).2=recs.map AN.pair/\recs.flatMap AN.top=hs/\(∀r∈recs,nx+j<=r.tag/\r.tag<nx+j+ts.length/\r.new.isSome)/\(recs.map AN.tag).Nodup/\(∀r∈recs,r.new=us[r.tag-(nx+j)]?)/\
   ∀c',EO c c' w' recs->(∀b∈rf,c'.ok b)->SR c' (CJ P nx mk j ts fl).1 us/\ ∀r∈recs,C5 c' r.tag r.bc:=by
 induction h with
 |nil=>exact λj _=>⟨[],rfl,rfl,by simp,by simp,by simp,λc' _ _=>⟨.nil,by simp⟩⟩
 | @own t ts fl el u us y ys top N rf hs h1 h2 Iy h3 _ ih=>
  intro j FJ;obtain⟨recs,e1,e2,e3,e4,e4',e5⟩:=ih (j+1) (λi y hy=>by rw[show j+1+i=j+(i+1)from by omega];exact FJ (i+1) y (by simpa using hy));have hy:=FJ 0 y rfl;have YE:Qi P t el 0 0 (mk j)= .row el (P.cellsOf el) 0 (mk j) (B4 P el):=by
   unfold Qi;rcases Iy with⟨h,_⟩|⟨h,h'⟩
   ·rw[if_pos h,h]
   ·rw[if_neg (by rw[h];simp),h',h]
  simp only[CJ,h1,h2,YE];refine⟨⟨nx+j,some u,top, .row el (P.cellsOf el) 0 (mk j) (B4 P el)⟩::recs,by simp[e1,AN.pair],by simp[e2],λr hr=> ?_,?_,λr hr=> ?_,λc' ha AS=> ?_⟩
  ·rcases Ad.1 hr with rfl|hr
   ·simp
   ·have:=e3 r hr;simp only[AR];exact⟨by omega,by omega,this.2.2⟩
  ·simp only[List.map_cons,List.nodup_cons];refine⟨λhm=> ?_,e4⟩;obtain⟨r,hr,IZ⟩:=List.mem_map.1 hm;have:=e3 r hr;omega
  ·rcases Ad.1 hr with rfl|hr
   ·simp
   ·rw[e4' r hr];have:=e3 r hr;rw[show r.tag-(nx+j)=(r.tag-(nx+(j+1)))+1 from by omega,List.getElem?_cons_succ]
  ·obtain⟨q1,q2⟩:=e5 c' (ha.mono λr hr=>by simp[hr]) λb hb=>AS b (by simp[hb]);obtain⟨k1,k2,k3⟩:=ha.new _ (List.mem_cons_self ..) u rfl;have kg:=ha.G _ (List.mem_cons_self ..);simp only at k1 k2 k3 kg;refine⟨(zyk h3 k1 k3).cons q1,λr hr=> ?_⟩;rcases Ad.1 hr with rfl|hr
   ·refine⟨k1,k2,N,?_,λb hb=>AS b (by simp[hb]),λhd=> ?_,λ_=>by rw[kg]⟩
    rotate_left
    ·rcases Iy with⟨_,h⟩|⟨h,_⟩
     ·subst h;exact⟨rfl,by rw[kg]⟩
     ·rw[h]at hd;cases hd
    rw[k3,kg,ha.w,ha.ρ];have BA:(mk j).den c.ρ=y:=by simpa using hy
    rw[BA];exact h3
   ·exact q2 r hr
 | @deep t ts fl el e z l u us y ys top rf hs h1 h2 QO Ow h3 _ ih=>
  intro j FJ;obtain⟨recs,e1,e2,e3,e4,e4',e5⟩:=ih (j+1) (λi y hy=>by rw[show j+1+i=j+(i+1)from by omega];exact FJ (i+1) y (by simpa using hy));have hy:=FJ 0 y rfl;have YE:Qi P t el 0 0 (mk j)= .deep e z l.toList 0 0 (mk j):=by unfold Qi;rw[if_neg (by rw[QO];simp),Ow]
  simp only[CJ,h1,h2,YE];refine⟨⟨nx+j,some u,top, .deep e z l.toList 0 0 (mk j)⟩::recs,by simp[e1,AN.pair],by simp[e2],λr hr=> ?_,?_,λr hr=> ?_,λc' ha AS=> ?_⟩
  ·rcases Ad.1 hr with rfl|hr
   ·simp
   ·have:=e3 r hr;simp only[AR];exact⟨by omega,by omega,this.2.2⟩
  ·simp only[List.map_cons,List.nodup_cons];refine⟨λhm=> ?_,e4⟩;obtain⟨r,hr,IZ⟩:=List.mem_map.1 hm;have:=e3 r hr;omega
  ·rcases Ad.1 hr with rfl|hr
   ·simp
   ·rw[e4' r hr];have:=e3 r hr;rw[show r.tag-(nx+j)=(r.tag-(nx+(j+1)))+1 from by omega,List.getElem?_cons_succ]
  ·obtain⟨q1,q2⟩:=e5 c' (ha.mono λr hr=>by simp[hr]) AS;obtain⟨k1,k2,k3⟩:=ha.new _ (List.mem_cons_self ..) u rfl;have kg:=ha.G _ (List.mem_cons_self ..);have ke:=ha.ic _ (List.mem_cons_self ..) rfl;simp only at k1 k2 k3 kg ke;obtain⟨p1,p2,p3,rfl⟩:=h3.head;refine⟨(SR.own k1 k3 .nil).cons q1,λr hr=> ?_⟩;rcases Ad.1 hr with rfl|hr
   ·refine⟨k1,k2,ke,?_,by rw[kg]⟩;have BA:(mk j).den c.ρ=y:=by simpa using hy
    rw[k3,kg,ha.w,ha.ρ,BA,AH.cm];exact h3
   ·exact q2 r hr
 | @rd t ts fl u us y ys f rf hs h1 h3 _ ih=>
  intro j FJ;obtain⟨recs,e1,e2,e3,e4,e4',e5⟩:=ih (j+1) (λi y hy=>by rw[show j+1+i=j+(i+1)from by omega];exact FJ (i+1) y (by simpa using hy));have hy:=FJ 0 y rfl;have Ya:CJ P nx mk j (t::ts) fl=(.e (mk j)::(CJ P nx mk (j+1) ts fl.tail).1,(CJ P nx mk (j+1) ts fl.tail).2):=by
   simp only[CJ];split
   ·rename_i h8 h9;rw[h1 h8]at h9;cases h9
   ·rfl
  rw[Ya];refine⟨recs,e1,e2,λr hr=> ?_,e4,λr hr=> ?_,λc' ha AS=> ?_⟩
  ·have:=e3 r hr;simp only[AR];exact⟨by omega,by omega,this.2.2⟩
  ·rw[e4' r hr];have:=e3 r hr;rw[show r.tag-(nx+j)=(r.tag-(nx+(j+1)))+1 from by omega,List.getElem?_cons_succ]
  ·obtain⟨q1,q2⟩:=e5 c' ha λb hb=>AS b (by simp[hb]);have BA:(mk j).den c.ρ=y:=by simpa using hy
   exact⟨(SR.e (f:=f) (by rw[ha.w,ha.ρ,BA];exact h3) (λb hb=>AS b (by simp[hb])) .nil).cons q1,q2⟩
theorem NM{nx:Nat}{mk:Nat->E}:∀(j:Nat) (ts:List TypeId) (fl:List Bool) (t:Nat) (e:Ae) {gs:Gd} {f:Ae},(t,e)∈(CJ P nx mk j ts fl).2->e≠ .gd gs f
 |_,[],_,_,_,_,_,h=>by simp[CJ]at h
 |j,u::ts,fl,t,e,gs,f,h=>by
  unfold CJ at h;split at h
  ·rcases Ad.1 h with h|h
   ·cases h;unfold Qi;split
    ·simp
    ·split<;>simp
   ·exact NM _ _ _ _ _ h
  ·exact NM _ _ _ _ _ h
theorem S5{ρ:List AV}{x:E}{ys:List AV}(hx:x.den ρ= .agg ys):∀i y,ys[i]?=some y->(Du x true (0+i)).den ρ=y:=by intro i y hy;simp[Du,E.den,hx,AV.fld,AV.cells,hy]
theorem kO{nx:Nat}{t:TypeId}{fl:List Bool}{x:E}{v:Value}{y:AV}{rf hs:List Nat}(h:Eb P w' t fl v y rf hs)(hx:x.den c.ρ=y):
  ∃recs:List AN,(NU P nx t fl x).2=recs.map AN.pair/\recs.flatMap AN.top=hs/\(∀r∈recs,nx<=r.tag/\r.tag<nx+(A2 P t).length/\r.new.isSome)/\(recs.map AN.tag).Nodup/\
   ∀c',EO c c' w' recs->(∀b∈rf,c'.ok b)->SR c' [(NU P nx t fl x).1] [v]/\ ∀r∈recs,C5 c' r.tag r.bc:=by
 unfold Eb at h;unfold NU;split at h
 ·rename_i hf;simp only[hf,if_true];obtain⟨us,ys,hg,hc⟩:=h;split at hg
  ·rename_i Ay;obtain⟨rfl,rfl,Cw⟩:=hg;obtain⟨recs,e1,e2,e3,e4,_,e5⟩:=Pn (c:=c) (nx:=nx) (mk:=Du x (Aj P t)) hc 0 (by rw[Ay];exact S5 hx);refine⟨recs,e1,e2,λr hr=>by have:=e3 r hr;exact⟨by omega,by omega,this.2.2⟩,e4,λc' ha AS=> ?_⟩;obtain⟨q1,q2⟩:=e5 c' ha AS;rw[if_pos Ay];exact⟨.agg Cw (by rw[BD.ar];exact q1) .nil,q2⟩
  ·rename_i Ay;obtain⟨rfl,rfl⟩:=hg;have Gm:Aj P t=false:=by simpa using Ay
   obtain⟨recs,e1,e2,e3,e4,_,e5⟩:=Pn (c:=c) (nx:=nx) (mk:=Du x (Aj P t)) hc 0 (by
    intro i z hz;cases i with
    |zero=>simp at hz;subst hz;simp[Du,Gm,hx]
    |succ i=>simp at hz)
   refine⟨recs,e1,e2,λr hr=>by have:=e3 r hr;exact⟨by omega,by omega,this.2.2⟩,e4,λc' ha AS=> ?_⟩;obtain⟨q1,q2⟩:=e5 c' ha AS;refine⟨?_,q2⟩;rw[if_neg Ay];have hl:=q1.len;generalize (CJ P nx (Du x (Aj P t)) 0 (A2 P t) fl).1=l at q1 hl
   match l,hl with
   | [s],_=>exact q1
 ·rename_i hf;simp only[hf,if_false,Bv];obtain⟨h1,rfl⟩:=h;exact⟨[],rfl,rfl,by simp,by simp,λc' ha AS=>⟨.e (f:=rf) (by rw[ha.w,ha.ρ,hx];exact h1) AS .nil,by simp⟩⟩
theorem zod{ts:List TypeId}{fl:List Bool}{x:E}{vs:List Value}{ys:List AV}{rf hs:List Nat}(h:Jn P w' ts fl vs ys rf hs):∀(nx i:Nat),(∀k y,ys[k]?=some y->(E.proj x (i+k)).den c.ρ=y)->
  ∃recs:List AN,(L6 P nx ts fl x i).2=recs.map AN.pair/\recs.flatMap AN.top=hs/\(∀r∈recs,nx<=r.tag/\r.tag<nx+(ts.flatMap (A2 P)).length/\r.new.isSome)/\(recs.map AN.tag).Nodup/\
   ∀c',EO c c' w' recs->(∀b∈rf,c'.ok b)->SR c' (L6 P nx ts fl x i).1 vs/\ ∀r∈recs,C5 c' r.tag r.bc:=by
 induction h with
 |nil=>exact λnx i _=>⟨[],rfl,rfl,by simp,by simp,λc' _ _=>⟨.nil,by simp⟩⟩
 | @cons t ts fl v vs y ys f h rf hs h1 _ ih=>
  intro nx i hx;obtain⟨r1,a1,a2,a3,a4,a5⟩:=kO (c:=c) (nx:=nx) (x:= .proj x i) h1 (hx 0 y rfl);obtain⟨r2,b1,b2,b3,b4,b5⟩:=ih (nx+(A2 P t).length) (i+1) (λk z hz=>by rw[show i+1+k=i+(k+1)from by omega];exact hx (k+1) z (by simpa using hz));simp only[L6];refine⟨r1++r2,by simp[a1,b1],by simp[a2,b2],λr hr=> ?_,?_,λc' ha AS=> ?_⟩
  ·simp only[List.flatMap_cons,AE];rcases Af.1 hr with hr|hr
   ·have:=a3 r hr;exact⟨this.1,by omega,this.2.2⟩
   ·have:=b3 r hr;exact⟨by omega,by omega,this.2.2⟩
  ·rw[List.map_append,List.nodup_append];refine⟨a4,b4,λt1 LQ t2 JA he=> ?_⟩;obtain⟨q1,OD,rfl⟩:=List.mem_map.1 LQ;obtain⟨q2,H6,rfl⟩:=List.mem_map.1 JA;have:=a3 q1 OD;have:=b3 q2 H6;omega
  ·obtain⟨p1,p2⟩:=a5 c' (ha.mono λr hr=>by simp[hr]) λb hb=>AS b (by simp[hb]);obtain⟨q1,q2⟩:=b5 c' (ha.mono λr hr=>by simp[hr]) λb hb=>AS b (by simp[hb]);refine⟨p1.cons q1,λr hr=> ?_⟩;rcases Af.1 hr with hr|hr
   ·exact p2 r hr
   ·exact q2 r hr
end
theorem SS{α:Type}{f:α->List Nat}:∀{l:List α},(l.flatMap f).Nodup->(∀a∈l,(f a).Nodup)/\ ∀(i j:Nat) (a b:α) (x:Nat),l[i]?=some a->l[j]?=some b->x∈f a->x∈f b->i=j
 | [],_=>⟨by simp,by simp⟩
 |a::l,h=>by
  rw[List.flatMap_cons,List.nodup_append]at h;obtain⟨h1,h2,h3⟩:=h;obtain⟨k1,k2⟩:=SS h2;refine⟨λb hb=> ?_,λi j p q x hi hj hp hq=> ?_⟩
  ·rcases Ad.1 hb with rfl|hb
   ·exact h1
   ·exact k1 b hb
  ·cases i with
   |zero=>
    cases j with
    |zero=>rfl
    |succ j=>simp at hi hj;subst hi;exact absurd rfl (h3 x hp x (List.mem_flatMap.2 ⟨q,List.mem_of_getElem? hj,hq⟩))
   |succ i=>
    cases j with
    |zero=>simp at hi hj;subst hj;exact absurd rfl (h3 x hq x (List.mem_flatMap.2 ⟨p,List.mem_of_getElem? hi,hp⟩))
    |succ j=>rw[k2 i j p q x (by simpa using hi) (by simpa using hj) hp hq]
theorem PI{recs:List AN}(hn:(recs.map AN.tag).Nodup){r:AN}(hr:r∈recs)(p:AN->Bool)(hp:p r=true)(D3:∀q,p q=true->q.tag=r.tag):recs.find? p=some r:=by
 induction recs with
 |nil=>simp at hr
 |cons q recs ih=>
  simp only[List.map_cons,List.nodup_cons]at hn;rw[List.find?_cons];rcases Ad.1 hr with rfl|hr
  ·simp[hp]
  ·have:p q=false:=by
    cases hq:p q with
    |false=>rfl
    |true=>exact absurd (List.mem_map.2 ⟨r,hr,(D3 q hq).symm⟩) hn.1
   rw[this];exact ih hn.2 hr
def Cx.dd(c:Cx)(w':World)(recs:List AN):Cx:=
 {c with w:=w',G:=λt=>(match recs.find? (λr=>r.tag==t)with|some r=>⟨r.top,[]⟩|none=>c.G t),K:=λt g=>c.K t g\/ ∃r∈recs,r.tag=t/\r.new.isSome=true/\g=0,H:=λt g=>(match recs.find? (λr=>r.tag==t&&r.new.isSome)with|some r=>r.new.getD undef|none=>c.H t g),U:=λt=>c.U t\/ ∃r∈recs,r.tag=t,E:=λt=>match recs.find? (λr=>r.tag==t)with|some r=>if r.new.isSome then 0 else c.E t+1|none=>c.E t}
section
variable {P:Program} {c:Cx} {n:Nat} {sl:Nat->SV} {hp:Nat->Option Ae} {a:Act} {w':World} {recs:List AN}
theorem Cx.df(hn:(recs.map AN.tag).Nodup){r:AN}(hr:r∈recs):(c.dd w' recs).G r.tag=⟨r.top,[]⟩:=by simp only[Cx.dd];rw[PI hn hr (λq=>q.tag==r.tag) (by simp) (λq hq=>by simpa using hq)]
theorem Cx.cy{t:Nat}(ht:∀r∈recs,r.tag≠t):(c.dd w' recs).G t=c.G t:=by
 simp only[Cx.dd];have:recs.find? (λr=>r.tag==t)=none:=by rw[List.find?_eq_none];intro r hr;simpa using ht r hr
 rw[this]
theorem Cx.da(hU:∀t g,c.K t g->c.U t)(hn:(recs.map AN.tag).Nodup)(A0:∀r∈recs,r.new.isSome=true-> ¬c.U r.tag):EO c (c.dd w' recs) w' recs:=by
 refine⟨rfl,rfl,λr hr=>Cx.df hn hr,λr hr hv Uj=>⟨.inr ⟨r,hr,rfl,by simp[Uj],rfl⟩,λg hg=> ?_,?_⟩,λt g hk=>⟨.inl hk,?_⟩,λt ht g hk=> ?_,λr hr hs=> ?_,λr hr hs=> ?_⟩
 ·rcases hg with hg|⟨_,_,_,_,rfl⟩
  ·exact absurd (hU _ _ hg) (A0 r hr (by simp[Uj]))
  ·exact Av _
 ·simp only[Cx.dd];rw[PI hn hr (λq=>q.tag==r.tag&&q.new.isSome) (by simp[Uj]) (λq hq=>by simp only[Ab,AJ]at hq;exact hq.1)];simp[Uj]
 ·simp only[Cx.dd];have:recs.find? (λr=>r.tag==t&&r.new.isSome)=none:=by
   rw[List.find?_eq_none];rintro r hr hh;simp only[Ab,AJ]at hh;exact A0 r hr hh.2 (hh.1▸hU t g hk)
  rw[this]
 ·rcases hk with hk|⟨r,hr,rfl,hh,_⟩
  ·exact hk
  ·exact absurd ht (A0 r hr hh)
 ·simp only[Cx.dd];rw[PI hn hr (λq=>q.tag==r.tag) (by simp) (λq hq=>by simpa using hq)];simp[hs]
 ·simp only[Cx.dd];rw[PI hn hr (λq=>q.tag==r.tag) (by simp) (λq hq=>by simpa using hq)];simp[hs]
theorem Cx.im{t:Nat}(ht:∀r∈recs,r.tag≠t):(c.dd w' recs).E t=c.E t:=by
 simp only[Cx.dd];have:recs.find? (λr=>r.tag==t)=none:=by rw[List.find?_eq_none];intro r hr;simpa using ht r hr
 rw[this]
theorem Rel.changes(h:Rel c n sl hp a){hs:List Nat}{gs:Gd}(k:Bg c.ρ gs)(BO:Mod hs c.w w')(hn:(recs.map AN.tag).Nodup)(A0:∀r∈recs,r.new.isSome=true-> ¬c.U r.tag)
  (Gv:∀b∈hs,∃r∈recs,b∈(c.G r.tag).top) (EA:(recs.flatMap AN.top).Nodup) (Cc:∀r∈recs,∀b∈r.top,(b∈hs\/c.w.heap.size<=b)/\b<w'.heap.size)
  (BM:∀r∈recs,∀hs f,r.bc≠ .gd hs f) (Bu:DE c (c.dd w' recs)-> ∀r∈recs,C5 (c.dd w' recs) r.tag r.bc):
  Rel (c.dd w' recs) n sl (A9 hp (recs.map λr=>(r.tag,CB gs r.bc))) a/\DE c (c.dd w' recs):=by
 have aft:=Cx.da (w':=w') h.bd hn A0;have iK:∀b∈hs,c.M b:=λb hb=>by obtain⟨r,_,hr⟩:=Gv b hb;exact⟨_,hr⟩
 have Bd:∀b∈hs,c.B<=b\/c.Mu b:=λb hb=>by obtain⟨r,_,hr⟩:=Gv b hb;exact h.gw.allow r.tag b (by simp[GI.own,hr])
 have BX:DE c (c.dd w' recs):=by
  refine⟨rfl,rfl,λb hb AS=>⟨λ⟨t,ht⟩=> ?_,AS.2⟩,λb hb AS=>BO.block b hb λhh=>AS.1 (iK b hh),aft.K,λt g hk=> ?_⟩;by_cases hT:∃r∈recs,r.tag=t
  ·obtain⟨r,hr,rfl⟩:=hT;rw[Cx.df hn hr]at ht;rcases(Cc r hr b ht).1 with hh|hh
   ·exact AS.1 (iK b hh)
   ·omega
  ·rw[Cx.cy λr hr hh=>hT ⟨r,hr,hh⟩]at ht;exact AS.1 ⟨t,ht⟩
  ·by_cases hT:∃r∈recs,r.tag=t
   ·obtain⟨r,hr,rfl⟩:=hT;have DQ:r.new=none:=by
     cases hh:r.new with
     |none=>rfl
     |some v=>exact absurd (h.bd _ _ hk) (A0 r hr (by simp[hh]))
    rw[aft.fm r hr DQ];exact⟨by omega,λh=>by omega⟩
   ·have gK:∀r∈recs,r.tag≠t:=λr hr hh=>hT ⟨r,hr,hh⟩;rw[Cx.im gK,Cx.cy gK];refine⟨Av _,λ_=>⟨rfl,λb hb GX=>BO.block b GX λhh=> ?_⟩⟩;obtain⟨r,hr,MJ⟩:=Gv b hh;exact h.gw.cd t r.tag (λhh=>hT ⟨r,hr,hh.symm⟩) b (by simp[GI.own,hb]) (by simp[GI.own,MJ])
 have Bu:=Bu BX;have I3:∀r∈recs,∀e',(r.tag,e')∈(recs.map λr=>(r.tag,CB gs r.bc))->e'=CB gs r.bc:=by
  intro r hr e' EI;obtain⟨q,hq,Jz⟩:=List.mem_map.1 EI;simp only[AP]at Jz;obtain⟨h1,rfl⟩:=Jz;have e1:=Cx.df (c:=c) (w':=w') hn hr;have:q=r:=by have f1:=PI hn hr (λq=>q.tag==r.tag) (by simp) (λq hq=>by simpa using hq);have f2:=PI hn hq (λp=>p.tag==r.tag) (by simp[h1]) (λp hp=>by rw[h1];simpa using hp);rw[f1]at f2;cases f2;rfl
  rw[this]
 refine⟨h.change (λt=> ∃r∈recs,r.tag=t) BX ⟨BO.os.trans h.base.os,BO.tape.trans h.base.tape,BO.output.trans h.base.output,Nat.le_trans h.base.size BO.size,λt v OC=>⟨.inl (h.base.pins t v OC).1,λhk=> ?_⟩,λb hb EU=> ?_,h.base.pk,h.base.lo⟩
  (λt ht=>⟨KO λe he=> ?_,Cx.cy λr hr hh=>ht ⟨r,hr,hh⟩,Cx.im λr hr hh=>ht ⟨r,hr,hh⟩,λg hg=> ?_⟩) (λt ht b hb=>BO.block b (h.gw.inb t b (by simp[GI.own,hb])) λhh=> ?_) (λt ht=> ?_) ⟨λt=> ?_,λt u LR b hb BS=> ?_,λt b hb=> ?_,λt b hb=> ?_⟩ (λt g hk=> ?_) (λt e he=> ?_),BX⟩
 ·have B7:=aft.old t (h.base.pins t v OC).1 0 hk;rw[(aft.K t 0 B7).2];exact(h.base.pins t v OC).2 B7
 ·refine(BO.block b (Nat.lt_of_lt_of_le hb h.base.size) λhh=> ?_).trans (h.base.block b hb EU);rcases Bd b hh with h1|h1
  ·exact absurd h1 (Nat.not_le.2 hb)
  ·exact EU h1
 ·obtain⟨q,hq,Jz⟩:=List.mem_map.1 he;simp only[AP]at Jz;exact ht ⟨q,hq,Jz.1⟩
 ·rcases hg with hg|⟨r,hr,IZ,_⟩
  ·exact hg
  ·exact absurd ⟨r,hr,IZ⟩ ht
 ·obtain⟨r,hr,GX⟩:=Gv b hh;exact h.gw.cd t r.tag (λhh=>ht ⟨r,hr,hh.symm⟩) b (by simp[GI.own,hb]) (by simp[GI.own,GX])
 ·obtain⟨r,hr,rfl⟩:=ht;have DM:=dY (hp:=hp) (l:=recs.map λr=>(r.tag,CB gs r.bc)) (List.mem_map.2 ⟨r,hr,rfl⟩) (I3 r hr);rw[DM];refine⟨λe' RJ=> ?_,λDQ=> ?_⟩
  ·rw[(PJ k (BM r hr)).1 RJ];exact Bu r hr
  ·exact absurd ((PJ k (BM r hr)).2 rfl) (DQ r.bc)
 ·by_cases hT:∃r∈recs,r.tag=t
  ·obtain⟨r,hr,rfl⟩:=hT;rw[Cx.df hn hr];simpa[GI.own]using(SS EA).1 r hr
  ·rw[Cx.cy λr hr hh=>hT ⟨r,hr,hh⟩];exact h.gw.nodup t
 ·by_cases hT:∃r∈recs,r.tag=t
  ·obtain⟨r,hr,rfl⟩:=hT;rw[Cx.df hn hr]at hb;simp only[GI.own,AB]at hb;by_cases hV:∃r∈recs,r.tag=u
   ·obtain⟨q,hq,rfl⟩:=hV;rw[Cx.df hn hq]at BS;simp only[GI.own,AB]at BS;obtain⟨i,hi⟩:=List.getElem?_of_mem hr;obtain⟨j,hj⟩:=List.getElem?_of_mem hq;have:=(SS EA).2 i j r q b hi hj hb BS;subst this;rw[hi]at hj;cases hj;exact LR rfl
   ·rw[Cx.cy λr hr hh=>hV ⟨r,hr,hh⟩]at BS;rcases(Cc r hr b hb).1 with hh|hh
    ·obtain⟨q,hq,uC⟩:=Gv b hh;exact h.gw.cd q.tag u (λhh=>hV ⟨q,hq,hh⟩) b (by simp[GI.own,uC]) BS
    ·have:=h.gw.inb u b BS;omega
  ·rw[Cx.cy λr hr hh=>hT ⟨r,hr,hh⟩]at hb;by_cases hV:∃r∈recs,r.tag=u
   ·obtain⟨q,hq,rfl⟩:=hV;rw[Cx.df hn hq]at BS;simp only[GI.own,AB]at BS;rcases(Cc q hq b BS).1 with hh|hh
    ·obtain⟨r,hr,T9⟩:=Gv b hh;exact h.gw.cd r.tag t (λhh=>hT ⟨r,hr,hh⟩) b (by simp[GI.own,T9]) hb
    ·have:=h.gw.inb t b hb;omega
   ·rw[Cx.cy λr hr hh=>hV ⟨r,hr,hh⟩]at BS;exact h.gw.cd t u LR b hb BS
 ·by_cases hT:∃r∈recs,r.tag=t
  ·obtain⟨r,hr,rfl⟩:=hT;rw[Cx.df hn hr]at hb;simp only[GI.own,AB]at hb;rcases(Cc r hr b hb).1 with hh|hh
   ·exact Bd b hh
   ·exact .inl (Nat.le_trans h.base.size hh)
  ·rw[Cx.cy λr hr hh=>hT ⟨r,hr,hh⟩]at hb;exact h.gw.allow t b hb
 ·by_cases hT:∃r∈recs,r.tag=t
  ·obtain⟨r,hr,rfl⟩:=hT;rw[Cx.df hn hr]at hb;simp only[GI.own,AB]at hb;exact(Cc r hr b hb).2
  ·rw[Cx.cy λr hr hh=>hT ⟨r,hr,hh⟩]at hb;exact Nat.lt_of_lt_of_le (h.gw.inb t b hb) BO.size
 ·rcases hk with hk|⟨r,hr,IZ,_⟩
  ·exact .inl (h.bd t g hk)
  ·exact .inr ⟨r,hr,IZ⟩
 ·by_cases hT:∃r∈recs,r.tag=t
  ·exact .inr hT
  ·rw[KO]at he
   ·exact .inl (h.ch t e he)
   ·intro e' EI;obtain⟨q,hq,Jz⟩:=List.mem_map.1 EI;simp only[AP]at Jz;exact hT ⟨q,hq,Jz.1⟩
end
def Zl(P:Program)(w:World)(t:TypeId):PM->Value->AV->List Nat->List Nat->Prop
 | .ro,v,x,rf,hs=>Rd w [v] [x] rf/\hs=[]
 | .va own,v,x,rf,hs=>Oi P w t own v x rf hs
 | .mu own,v,x,rf,hs=>Oi P w t own v x rf hs
 | .bx own _,v,x,rf,hs=> ∃(ty:TypeId) (b:Nat) (C:Array Value) (ys:List AV) (h:List Nat),J4 P t=some ty/\v= .pointer (some ⟨b,0,none⟩)/\w.heap[b]?=some (.cells C ty (0,0))/\(∀u∈C.toList,u.oneCell'=true)/\x= .ref (.agg ys)/\
   Cj P w (A2 P ty) own C.toList ys rf h/\hs=b::h
inductive Dt(P:Program)(w:World):List TypeId->List PM->List Bool->List Value->List AV->List Nat->List Nat->List Nat->Prop where
 |nil {ms lo}:Dt P w [] ms lo [] [] [] [] []
 |cons {t ts ms lo v vs x xs f h rf lf hs}:Zl P w t (ms.headD .ro) v x f h->Dt P w ts ms.tail lo.tail vs xs rf lf hs->Dt P w (t::ts) ms lo (v::vs) (x::xs) (f++rf) lf (h++hs)
 |lent {t ts ms lo v vs x xs f rf lf hs}:lo.headD false=true->ms.headD .ro= .ro->Rd w [v] [x] f->Dt P w ts ms.tail lo.tail vs xs rf lf hs->Dt P w (t::ts) ms lo (v::vs) (x::xs) rf (f++lf) hs
 |free {ms lo v vs x xs f rf lf hs}:Rd w [v] [x] f->Dt P w [] ms.tail lo.tail vs xs rf lf hs->Dt P w [] ms lo (v::vs) (x::xs) (f++rf) lf hs
inductive Gh(P:Program)(c:Cx):List TypeId->List Bool->List Value->List (Option RI)->Prop where
 |nil {fl}:Gh P c [] fl [] []
 |row {t ts fl v vs u g el rs}:fl.headD false=true->Co P t=some el->(B4 P el=true\/DO P t=none)->c.K u g->c.H u g=v->(∀g',c.K u g'->g'<=g)->Gh P c ts fl.tail vs rs->Gh P c (t::ts) fl (v::vs) (some (.fl u g el (P.cellsOf el) (B4 P el))::rs)
 |deep {t ts fl v vs u g el e z l ep rs}:fl.headD false=true->Co P t=some el->B4 P el=false->DO P t=some (.row e z (AH.of l))->c.K u g->c.H u g=v->(∀g',c.K u g'->g'<=g)->c.E u=ep->Gh P c ts fl.tail vs rs->Gh P c (t::ts) fl (v::vs) (some (.dp u g e z l ep)::rs)
 |none {t ts fl v vs rs}:(fl.headD false=true->Co P t=none\/ ∃a,v= .slice a 0 0)->Gh P c ts fl.tail vs rs->Gh P c (t::ts) fl (v::vs) (none::rs)
inductive Ii(P:Program)(c:Cx):List TypeId->List PM->List Value->List PA->Prop where
 |nil {ts ms}:Ii P c ts ms [] []
 |ro {ts ms v vs bs}:ms.headD .ro= .ro->Ii P c ts.tail ms.tail vs bs->Ii P c ts ms (v::vs) bs
 |va {ts ms own v vs bs us}:ms.headD .ro= .va own->(∀u∈us,c.U u)->Ii P c ts.tail ms.tail vs bs->Ii P c ts ms (v::vs) (.va us::bs)
 |mu {t ts ms own v vs bs us rs}:ms.headD .ro= .mu own->(if Aj P t then v= .agg us.toArray else us=[v])->Gh P c (A2 P t) own us rs->Ii P c ts ms.tail vs bs->Ii P c (t::ts) ms (v::vs) (.mu rs (Aj P t)::bs)
 |bx {t ts ms own own' ty v vs bs T b g olds}:ms.headD .ro= .bx own own'->J4 P t=some ty->v= .pointer (some ⟨b,0,none⟩)->c.K T 0->c.H T 0=v->(∀u∈olds,c.U u)->Ii P c ts ms.tail vs bs->Ii P c (t::ts) ms (v::vs) (.box T g own' ty olds::bs)
section
variable {P:Program} {c:Cx} {hp:Nat->Option Ae} {gs:Gd}
theorem Tf{t el:TypeId}{d:DT}(Bm:Co P t=some el)(h:DO P t=some d):P.cellsOf el≠0/\(A2 P el).length=P.cellsOf el/\ ∃l:List DT,d= .row el (P.cellsOf el) (AH.of l)/\l.length=P.cellsOf el:=by
 have hu:=Ig Bm;unfold DO at h;split at h
 ·cases h
 simp only[Xq,hu]at h;split at h
 ·cases h
 ·rename_i hh;simp only[not_or,Decidable.not_not,ne_eq]at hh;obtain⟨l,hl,rfl⟩:=An.1 h;exact⟨hh.1,hh.2,l,rfl,by rw[mapM_len _ _ hl];exact hh.2⟩
where
 mapM_len {α β:Type} {f:α->Option β}:∀(l:List α) (l':List β),l.mapM f=some l'->l'.length=l.length
  | [],l',h=>by simp at h;subst h;rfl
  |a::l,l',h=>by simp only[List.mapM_cons,Option.bind_eq_bind,Ao,Option.pure_def,Ac]at h;obtain⟨b,_,bs,Ln,rfl⟩:=h;simp[mapM_len l bs Ln]
theorem Cj.void{w:World}{t el:TypeId}{ts:List TypeId}{fl:List Bool}{a:Option Addr}{us:List Value}{ys:List AV}{rf hs:List Nat}(h1:fl.headD false=true)(h2:Co P t=some el)(hz:P.cellsOf el≠0)(h:Cj P w ts fl.tail us ys rf hs):Cj P w (t::ts) fl (.slice a 0 0::us) (.sl []::ys) rf ([]++hs):=by
 have Bd:CA w el (P.cellsOf el) (.slice a 0 0) (.sl []) [] []:=⟨[],rfl,by simp,by omega, .inl ⟨rfl,⟨a,rfl⟩,rfl,rfl⟩⟩
 cases hf:B4 P el with
 |true=>exact .own h1 h2 (.inl ⟨hf,rfl⟩) Bd h
 |false=>
  cases hd:DO P t with
  |none=>exact .own h1 h2 (.inr ⟨hf,hd⟩) Bd h
  |some d=>obtain⟨_,_,l,rfl,hl⟩:=Tf h2 hd;exact .deep h1 h2 hf hd (.void (by omega) (by rw[AH.ar];exact hl) .nil) h
theorem lP{as_ bs:List Value}(h:Value.agg as_.toArray= .agg bs.toArray):as_=bs:=by
 have h1:as_.toArray=bs.toArray:=by injection h
 have:=congrArg Array.toList h1;simpa using this
theorem aU(eh:EH c hp)(k:Bg c.ρ gs)(hU:∀t g,c.K t g->c.U t):∀(ts:List TypeId) {cs:List SV} {fl:List Bool} {rs:List (Option RI)} {us:List Nat} {vs:List Value} {xs:EL} {m:Nat},GC P hp gs ts cs fl=some (rs,us)->SR c cs vs->Cp hp gs m cs=some xs->m<=AZ->
  ∃rf hs,Cj P c.w ts fl vs (xs.den c.ρ) rf hs/\(∀b∈rf,c.dr us b)/\hs=(Cy rs).flatMap (λt=>(c.G t).top)/\Gh P c ts fl vs rs/\ ∀u∈Cy rs,c.U u
 | [],[],fl,rs,us,vs,xs,m,h,hs,hx,hm=>by
  simp[GC]at h;obtain⟨rfl,rfl⟩:=h;cases hs;cases m with
  |zero=>simp[Cp]at hx
  |succ m=>simp[Cp]at hx;subst hx;exact⟨[],[], .nil,by simp,by simp[Cy], .nil,by simp[Cy]⟩
 | [],s::cs,fl,rs,us,vs,xs,m,h,hs,hx,hm=>by simp[GC]at h
 |t::ts,[],fl,rs,us,vs,xs,m,h,hs,hx,hm=>by simp[GC]at h
 |t::ts,s::cs,fl,rs,us,[],xs,m,h,hs,hx,hm=>by have:=hs.len;simp at this
 |t::ts,s::cs,fl,rs,us,v::vs,xs,m,h,hs,hx,hm=>by
  obtain⟨j,y,ys,rfl,hy,CY,rfl⟩:=JH hx;obtain⟨r1,r2⟩:=hs.br;unfold GC at h;split at h
  ·cases h
  rename_i rs' us' CX;obtain⟨rf,Ba,q1,q2,q3,q4,q5⟩:=aU eh k hU ts CX r2 CY (by omega);split at h
  ·rename_i hf;split at h
   ·rename_i r hr;simp only[Ac,AP]at h;obtain⟨rfl,rfl⟩:=h;unfold dU at hr;split at hr
    ·cases hr
    rename_i el Bm;split at hr
    ·cases hr
    rename_i hz;have empt:∀a,v= .slice a 0 0->y.den c.ρ= .sl []->r=none-> ∃rf hs,Cj P c.w (t::ts) fl (v::vs) ((EL.cons y ys).den c.ρ) rf hs/\(∀b∈rf,c.dr us' b)/\hs=(Cy (r::rs')).flatMap (λt=>(c.G t).top)/\Gh P c (t::ts) fl (v::vs) (r::rs')/\ ∀u∈Cy (r::rs'),c.U u:=by rintro a rfl G3 rfl;refine⟨rf,[]++Ba,?_,q2,by simpa[Cy]using q3, .none (λ_=> .inr ⟨a,rfl⟩) q4,by simpa[Cy]using q5⟩;rw[EL.den,G3];exact Cj.void hf Bm (by omega) q1
    split at hr
    ·simp only[Ac]at hr;subst hr;cases r1 with
     |bq _=>exact empt _ rfl (by rw[KL hy];rfl) rfl
    ·simp only[Ac]at hr;subst hr;cases r1 with
     |emp _=>
      refine empt _ rfl ?_ rfl;cases j with
      |zero=>simp[Bp]at hy
      |succ j=>simp[Bp]at hy;subst hy;rfl
    ·rename_i u g;split at hr
     ·rename_i e z g' x d hl;split at hr
      ·rename_i hh;obtain⟨rfl,rfl,rfl,Gs⟩:=hh;simp only[Ac]at hr;subst hr;obtain⟨p1,p2,N,p3,p4,p5,_⟩:=eh u _ (Cu hl k);have MQ:B4 P e=true\/DO P t=none:=Gs.imp (·.1) (by rintro⟨_,h⟩;simpa using h);have Gs:B4 P e=true/\N=[]\/B4 P e=false/\DO P t=none:=by
        rcases Gs with⟨h1,h2⟩|⟨h1,h2⟩
        ·exact .inl ⟨h1,(p5 h2).1⟩
        ·exact .inr ⟨h1,by simpa using h2⟩
       have GA:y=x:=by
        cases j with
        |zero=>simp[Bp]at hy
        |succ j=>simp[Bp,HD,hl]at hy;exact hy.symm
       subst GA;have hv:c.H u g=v:=by
        cases r1 with
        |own _ k2 _=>exact k2
       rw[hv]at p3;refine⟨N++rf,(c.G u).top++Ba,Cj.own hf Bm Gs p3 q1,λb hb=> ?_,by simp[Cy,RI.tag,q3], .row hf Bm MQ p1 hv p2 q4,λw hw=> ?_⟩
       ·rcases Af.1 hb with hb|hb
        ·exact .inl (p4 b hb)
        ·exact q2 b hb
       simp only[Cy,List.filterMap_cons,Option.map_some,RI.tag,Ad]at hw;rcases hw with rfl|hw
       ·exact hU _ _ p1
       ·exact q5 w hw
      ·cases hr
     ·rename_i e z l g' ep x hl;split at hr
      ·rename_i hh;obtain⟨rfl,FM,Dl⟩:=hh;have Dl:=V9 Dl;simp only[Ac]at hr;subst hr;obtain⟨p1,p2,pE,p3,_⟩:=eh u _ (Cu hl k);have GA:y=x:=by
        cases j with
        |zero=>simp[Bp]at hy
        |succ j=>simp[Bp,HD,hl]at hy;exact hy.symm
       subst GA;have hv:c.H u g=v:=by
        cases r1 with
        |own _ k2 _=>exact k2
       rw[hv]at p3;refine⟨rf,(c.G u).top++Ba,Cj.deep hf Bm FM Dl p3 q1,q2,by simp[Cy,RI.tag,q3], .deep hf Bm FM Dl p1 hv p2 pE q4,λw hw=> ?_⟩;simp only[Cy,List.filterMap_cons,Option.map_some,RI.tag,Ad]at hw;rcases hw with rfl|hw
       ·exact hU _ _ p1
       ·exact q5 w hw
      ·cases hr
     ·cases hr
    ·cases hr
   ·cases h
  ·rename_i hf;simp only[Ac,AP]at h;obtain⟨rfl,rfl⟩:=h;obtain⟨f,p1,p2⟩:=G8 eh k j hy r1 AZ (by omega);refine⟨f++rf,Ba,Cj.rd (λhh=>absurd hh hf) p1 q1,λb hb=> ?_,by simpa[Cy]using q3, .none (λhh=>absurd hh hf) q4,by simpa[Cy]using q5⟩;rcases Af.1 hb with hb|hb
   ·exact(p2 b hb).mono λt ht=>by simp[ht]
   ·exact(q2 b hb).mono λt ht=>by simp[ht]
theorem lO(eh:EH c hp)(k:Bg c.ρ gs)(hU:∀t g,c.K t g->c.U t){t:TypeId}{s:SV}{v:Value}{fl:List Bool}{rs:List (Option RI)}{us:List Nat}{x:E}(hs:SR c [s] [v])(hx:Bp hp gs AZ s=some x)(hg:(G7 s).2=Aj P t)
  (h:GC P hp gs (A2 P t) (G7 s).1 fl=some (rs,us)):
  ∃rf hs,Oi P c.w t fl v (x.den c.ρ) rf hs/\(∀b∈rf,c.dr us b)/\hs=(Cy rs).flatMap (λt=>(c.G t).top)/\(∃vs',(if Aj P t then v= .agg vs'.toArray else vs'=[v])/\Gh P c (A2 P t) fl vs' rs)/\ ∀u∈Cy rs,c.U u:=by
 have single:∀(s:SV),SR c [s] [v]->Bp hp gs AZ s=some x->Aj P t=false->GC P hp gs (A2 P t) [s] fl=some (rs,us)-> ∃rf hs,Oi P c.w t fl v (x.den c.ρ) rf hs/\(∀b∈rf,c.dr us b)/\hs=(Cy rs).flatMap (λt=>(c.G t).top)/\(∃vs',(if Aj P t then v= .agg vs'.toArray else vs'=[v])/\Gh P c (A2 P t) fl vs' rs)/\ ∀u∈Cy rs,c.U u:=by
  intro s hs hx Ay h;obtain⟨t0,LP⟩:∃t0,A2 P t=[t0]:=by
   cases hh:A2 P t with
   |nil=>rw[hh]at h;simp[GC]at h
   |cons t0 l=>
    cases l with
    |nil=>exact⟨t0,rfl⟩
    |cons t1 l=>rw[hh]at h;simp[GC]at h
  rw[LP]at h;have key:∃rf hs,Cj P c.w [t0] fl [v] [x.den c.ρ] rf hs/\(∀b∈rf,c.dr us b)/\hs=(Cy rs).flatMap (λt=>(c.G t).top)/\Gh P c [t0] fl [v] rs/\ ∀u∈Cy rs,c.U u:=by
   unfold GC at h;simp only[GC]at h;split at h
   ·rename_i hf;split at h
    ·rename_i r hr;simp only[Ac,AP]at h;obtain⟨rfl,rfl⟩:=h;unfold dU at hr;split at hr
     ·cases hr
     rename_i el Bm;split at hr
     ·cases hr
     rename_i hz;have empt:∀a,v= .slice a 0 0->x.den c.ρ= .sl []->r=none-> ∃rf hs,Cj P c.w [t0] fl [v] [x.den c.ρ] rf hs/\(∀b∈rf,c.dr ([]:List Nat) b)/\hs=(Cy [r]).flatMap (λt=>(c.G t).top)/\Gh P c [t0] fl [v] [r]/\ ∀u∈Cy [r],c.U u:=by rintro a rfl G3 rfl;refine⟨[],[]++ [],?_,by simp,by simp[Cy], .none (λ_=> .inr ⟨a,rfl⟩) .nil,by simp[Cy]⟩;rw[G3];exact Cj.void hf Bm (by omega) .nil
     split at hr
     ·simp only[Ac]at hr;subst hr;cases hs with
      |bq _=>exact empt _ rfl (by rw[KL hx];rfl) rfl
     ·simp only[Ac]at hr;subst hr;cases hs with
      |emp _=>refine empt _ rfl ?_ rfl;simp[AZ,Bp]at hx;subst hx;rfl
     ·rename_i u g;split at hr
      ·rename_i e z g' x0 d hl;split at hr
       ·rename_i hh;obtain⟨rfl,rfl,rfl,Gs⟩:=hh;simp only[Ac]at hr;subst hr;obtain⟨p1,p2,N,p3,p4,p5,_⟩:=eh u _ (Cu hl k);have MQ:B4 P e=true\/DO P t0=none:=Gs.imp (·.1) (by rintro⟨_,h⟩;simpa using h);have Gs:B4 P e=true/\N=[]\/B4 P e=false/\DO P t0=none:=by
         rcases Gs with⟨h1,h2⟩|⟨h1,h2⟩
         ·exact .inl ⟨h1,(p5 h2).1⟩
         ·exact .inr ⟨h1,by simpa using h2⟩
        have GA:x=x0:=by simp[AZ,Bp,HD,hl]at hx;exact hx.symm
        subst GA;have hv:c.H u g=v:=by
         cases hs with
         |own _ k2 _=>exact k2
        rw[hv]at p3;refine⟨N++ [],(c.G u).top++ [],Cj.own hf Bm Gs p3 .nil,λb hb=> .inl (p4 b (by simpa using hb)),by simp[Cy,RI.tag], .row hf Bm MQ p1 hv p2 .nil,λw hw=> ?_⟩;simp only[Cy,List.filterMap_cons,Option.map_some,RI.tag,List.filterMap_nil,Ad,List.not_mem_nil,or_false]at hw;subst hw;exact hU _ _ p1
       ·cases hr
      ·rename_i e z l g' ep x0 hl;split at hr
       ·rename_i hh;obtain⟨rfl,FM,Dl⟩:=hh;have Dl:=V9 Dl;simp only[Ac]at hr;subst hr;obtain⟨p1,p2,pE,p3,_⟩:=eh u _ (Cu hl k);have GA:x=x0:=by
         simp[AZ,Bp,HD,hl]at hx;exact hx.symm
        subst GA;have hv:c.H u g=v:=by
         cases hs with
         |own _ k2 _=>exact k2
        rw[hv]at p3;refine⟨[],(c.G u).top++ [],Cj.deep hf Bm FM Dl p3 .nil,by simp,by simp[Cy,RI.tag], .deep hf Bm FM Dl p1 hv p2 pE .nil,λw hw=> ?_⟩;simp only[Cy,List.filterMap_cons,Option.map_some,RI.tag,List.filterMap_nil,Ad,List.not_mem_nil,or_false]at hw;subst hw;exact hU _ _ p1
       ·cases hr
      ·cases hr
     ·cases hr
    ·cases h
   ·rename_i hf;simp only[Ac,AP]at h;obtain⟨rfl,rfl⟩:=h;obtain⟨f,p1,p2⟩:=G8 eh k AZ hx hs AZ (Av _);refine⟨f++ [],[],Cj.rd (λhh=>absurd hh hf) p1 .nil,λb hb=> ?_,by simp[Cy], .none (λhh=>absurd hh hf) .nil,by simp[Cy]⟩;rw[AB]at hb;exact(p2 b hb).mono λt ht=>by simp[ht]
  obtain⟨rf,Ba,q1,q2,q3,q4,q5⟩:=key;refine⟨rf,Ba,⟨[v],[x.den c.ρ],?_,by rw[LP];exact q1⟩,q2,q3,⟨[v],?_,by rw[LP];exact q4⟩,q5⟩
  ·rw[if_neg (by rw[Ay];simp)];exact⟨rfl,rfl⟩
  ·rw[if_neg (by rw[Ay];simp)]
 cases s with
 |agg cs=>
  simp only[G7]at hg h;obtain⟨m,l,hm,hl,rfl⟩:=Tc hx;cases hs with
  |agg h9 h1 h8=>
   rename_i as_;have E1:m<=AZ:=by simp only[AZ]at hm ⊢;omega
   obtain⟨rf,Ba,q1,q2,q3,q4,q5⟩:=aU (P:=P) eh k hU (A2 P t) h h1 hl E1;refine⟨rf,Ba,⟨as_,l.den c.ρ,?_,q1⟩,q2,q3,⟨as_,?_,q4⟩,q5⟩
   ·rw[if_pos hg.symm];exact⟨rfl,rfl,h9⟩
   ·rw[if_pos hg.symm]
 |_=>exact single _ hs hx hg.symm h
end
end
end Go.Proofs.YtndikjghnmhdmaaGreat

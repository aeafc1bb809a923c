/- Parts of a proof, joined: VX, WB, WC, WD, WE, WF, WG, WH, WI, WJ, WK, WL, WM, WN, WO. -/
import Derived.Test.YtalagilebkaegaaGreatJ3
import Derived.Orders
import Derived.Lib.SliceRun
import Derived.Laws.Slices
import Derived.Laws.MakeOwn
import Derived.Laws.StructEq
set_option linter.unusedVariables false
set_option linter.unusedSimpArgs false
namespace Go.Proofs.YtalagilebkaegaaGreat
open Go.RowKit
section
theorem Bi(n:Nat):((n:Int)).toNat=n:=Int.toNat_natCast n
section
variable {P:Program} {c:Cx} {n nx:Nat} {sl sl0:Nat->SV} {hp hp0:Nat->Option Af} {a:Act} {o:Oper} {gs:Gd} {e:Bb} {sg:B1} {nv:Nat}
def Cx.ey(c:Cx)(w':World)(t:Nat)(O:List Nat):Cx:={c with w:=w',G:=λu=>if u=t then⟨(c.G t).top,O⟩else c.G u,E:=λu=>if u=t then c.E u+1 else c.E u}
theorem Rel.jb(h:Rel c n sl hp a){t:Nat}{e0:Af}{b:Nat}{w':World}{O:List Nat}(AO:CH c.ρ (hp t) e0)(Cj:b∈(c.G t).top)(hO:O=[]\/O=(c.G t).O)(hm:Mod [b] c.w w')(Bz:w'.heap.size=c.w.heap.size)(e1:Af)(BF:∀hs f,e1≠ .gd hs f)
  (he:DY c (c.ey w' t O)->Dv (c.ey w' t O) t e1):
  Rel (c.ey w' t O) n sl (Bk hp [(t,e1)]) a:=by
 have Be:b∈(c.G t).own:=by simp[GI.own,Cj]
 have hG:∀u,(c.ey w' t O).G u=if u=t then⟨(c.G t).top,O⟩else c.G u:=λu=>rfl;have EY:∀u,((c.ey w' t O).G u).top=(c.G u).top:=by
  intro u;rw[hG];split
  ·rename_i hu;rw[hu]
  ·rfl
 have BZ:∀u,∀q∈((c.ey w' t O).G u).own,q∈(c.G u).own:=by
  intro u q hq;rw[hG]at hq;split at hq
  ·rename_i hu;subst hu;simp only[GI.own,Ac]at hq ⊢;rcases hq with hq|hq
   ·exact .inl hq
   ·rcases hO with rfl|rfl
    ·simp at hq
    ·exact .inr hq
  ·exact hq
 have Cd:DY c (c.ey w' t O):=by
  refine⟨rfl,rfl,λq _ hq=>⟨λ⟨u,hu⟩=>hq.1 ⟨u,by rw[EY]at hu;exact hu⟩,hq.2⟩,λq hq AZ=>hm.block q hq ?_,λu g hu=>⟨hu,rfl⟩,λu g hu=> ?_⟩
  ·simp only[List.mem_singleton];rintro rfl;exact AZ.1 ⟨t,Cj⟩
  ·by_cases GQ:u=t
   ·have e1:(c.ey w' t O).E u=c.E u+1:=by simp only[Cx.ey,if_pos GQ]
    exact⟨by omega,λh=>by omega⟩
   ·have e1:(c.ey w' t O).E u=c.E u:=by simp only[Cx.ey,if_neg GQ]
    have e2:(c.ey w' t O).G u=c.G u:=by simp only[Cx.ey,if_neg GQ]
    rw[e1];refine⟨AJ _,λ_=>⟨e2,λq hq I6=>hm.block q I6 ?_⟩⟩;simp only[List.mem_singleton];rintro rfl;exact h.gw.cq t u (Ne.symm GQ) q Be (by simp[GI.own,hq])
 have D4:∀u,Bk hp [(t,e1)] u=if u=t then some e1 else hp u:=λu=>rfl;refine h.change (λu=>u=t) Cd ⟨hm.os.trans h.base.os,hm.tape.trans h.base.tape,hm.output.trans h.base.output,Nat.le_trans h.base.size hm.size,h.base.pins,λq hq Gg=> ?_,h.base.pk,h.base.lo⟩
  (λu hu=>⟨by rw[D4,if_neg hu],by rw[hG,if_neg hu],by simp[Cx.ey,hu],λg hg=>hg⟩) (λu hu q hq=>hm.block q (h.gw.inb u q (by simp[GI.own,hq])) ?_) (λu hu=> ?_) ⟨λu=> ?_,λu v eY q hq GO=>h.gw.cq u v eY q (BZ u q hq) (BZ v q GO),λu q hq=>h.gw.allow u q (BZ u q hq),λu q hq=> ?_⟩ h.bq (λu f hf=> ?_)
 ·refine(hm.block q (Nat.lt_of_lt_of_le hq h.base.size) ?_).trans (h.base.block q hq Gg);simp only[List.mem_singleton];rintro rfl;rcases h.gw.allow t q Be with hh|hh
  ·exact absurd hh (Nat.not_le.2 hq)
  ·exact Gg hh
 ·simp only[List.mem_singleton];rintro rfl;exact h.gw.cq t u (Ne.symm hu) q Be (by simp[GI.own,hq])
 ·subst hu;rw[D4,if_pos rfl];refine⟨λe' hr=> ?_,λhn=> ?_⟩
  ·cases e1<;>first
    |(simp only[CH]at hr;subst hr;exact he Cd)
    |exact absurd rfl (BF _ _)
  ·cases e1<;>first
    |exact absurd rfl (BF _ _)
    |exact absurd rfl (hn _)
 ·rw[hG];split
  ·rename_i hu;subst hu;have h0:=h.gw.nodup u;simp only[GI.own]at h0 ⊢;rcases hO with rfl|rfl
   ·rw[AE];exact(List.nodup_append.1 h0).1
   ·exact h0
  ·exact h.gw.nodup u
 ·show q<w'.heap.size;rw[Bz];exact h.gw.inb u q (BZ u q hq)
 ·rw[D4]at hf;split at hf
  ·rename_i hu;subst hu;cases hh:hp u with
   |none=>rw[hh]at AO;exact AO.elim
   |some e9=>exact h.ct u e9 hh
  ·exact h.ct u f hf
theorem Sd{α:Type}(L vs:List α)(p m:Nat)(h:p+vs.length<=m)(hm:m<=L.length):(setVs L p vs).take m=setVs (L.take m) p vs:=by
 apply List.ext_getElem?;intro j;have hl:(L.take m).length=m:=by rw[Aw];omega
 rw[List.getElem?_take,Sj (L.take m) vs p (by omega) j,Sj L vs p (by omega) j,List.getElem?_take];by_cases h1:p<=j/\j<p+vs.length
 ·rw[if_pos (by omega),if_pos h1,if_pos h1]
 ·rw[if_neg h1,if_neg h1]
theorem Rd.setVs{w:World}{L V:List Value}{X Y:List AV}{N f:List Nat}{p:Nat}(h:Rd w L X N)(k:Rd w V Y f)(hp:p+V.length<=L.length):
  ∃n1 n2 n3,N=n1++n2++n3/\Rd w (Go.Proofs.YtalagilebkaegaaGreat.setVs L p V) (Go.Proofs.YtalagilebkaegaaGreat.setVs X p Y) (n1++f++n3)/\Rd w ((L.drop p).take V.length) ((X.drop p).take V.length) n2:=by
 have hl:=h.len;have hk:=k.len;have e1:L=L.take p++((L.drop p).take V.length++L.drop (p+V.length)):=by rw[<-List.drop_drop,B9,B9]
 have e2:X=X.take p++((X.drop p).take V.length++X.drop (p+V.length)):=by rw[<-List.drop_drop,B9,B9]
 have h':=h;rw[e1,e2]at h';obtain⟨n1,m,rfl,g1,g2⟩:=Rd.dt (by simp;omega) h';obtain⟨n2,n3,rfl,g3,g4⟩:=Rd.dt (by simp;omega) g2;refine⟨n1,n2,n3,by simp,?_,g3⟩;unfold Go.Proofs.YtalagilebkaegaaGreat.setVs;rw[<-hk];exact(g1.app k).app g4
theorem ZX{sz:Nat}:∀(ys:List AV) (k:Nat) (z y:AV) (o:Nat) (vc:List AV),(∀y∈ys,y.cells.length=sz)->ys[k]?=some y->o+vc.length<=sz->z.cells=setVs y.cells o vc->Aq (ys.set k z)=setVs (Aq ys) (k*sz+o) vc
 | [],k,z,y,o,vc,_,h,_,_=>by simp at h
 |q::ys,0,z,y,o,vc,hs,h,ho,hz=>by simp at h;subst h;have hq:=hs q (by simp);simp only[Aq,List.set_cons_zero,List.flatMap_cons,Nat.zero_mul,Nat.zero_add,hz];unfold setVs;rw[List.take_append_of_le_length (by omega),List.drop_append_of_le_length (by omega)];simp
 |q::ys,k+1,z,y,o,vc,hs,h,ho,hz=>by
  have hq:=hs q (by simp);have ih:=ZX ys k z y o vc (λu hu=>hs u (by simp[hu])) (by simpa using h) ho hz;simp only[Aq,List.set_cons_succ,List.flatMap_cons]at ih ⊢;rw[ih];unfold setVs;have e0:(k+1)*sz+o=q.cells.length+(k*sz+o):=by rw[hq,Nat.add_mul];omega
  rw[e0,List.take_length_add_append,Nat.add_assoc (q.cells.length),List.drop_length_add_append];simp
theorem mU{y x:AV}{k:Nat}{g:Bool}(hx:(∀cs,x≠ .agg cs)\/g=true)(hy:g=false->y.cells.length=1/\k=0/\x.cells=[x]):(y.c9 k x g).cells=setVs y.cells k x.cells:=by
 cases g with
 |true=>simp[AV.c9,AV.cells,setVs]
 |false=>obtain⟨h1,h2,h3⟩:=hy rfl;subst h2;simp only[AV.c9,h3,setVs];rw[if_neg (by simp)];rw[h3];simp only[List.take_zero,List.nil_append,A3,List.length_nil,Nat.zero_add];rw[List.drop_eq_nil_of_le (by omega)];simp
theorem zue(h:BA P c n nx sl hp a sl0 hp0 o gs){t:TypeId}{x y:Operand}(ho:o.op= .store t x y){b g:Nat}{ix:E}{sz k:Nat}{s:SV}(AY:∃e z g c d,Di hp0 gs b=some (.row e z g c d))(hx:BL sl0 gs x=some (.cr b g ix sz k))(hy:BL sl0 gs y=some s)
  (he:Ns P hp0 gs t (.cr b g ix sz k) s=some e) (hc:∀q∈e.cc,Cn.den c.ρ q):AB P o c n nx sl hp gs a e:=by
 have r1:=h.cu hx (by simp[ho,Op.operands]);have r2:=h.cu hy (by simp[ho,Op.operands]);simp only[Ns]at he;split at he
 ·rename_i el sz' g' c0 d hl;split at he
  ·rename_i hh;obtain⟨rfl,rfl,rfl,Bn,hle,FL,Eg⟩:=hh;split at he
   ·rename_i xe fz dx ck Cv;split at he
    ·cases he
    rename_i Ek;simp only[Ad]at he;subst he;have Ek:∀f,(b,f)∉fz:=λf hf=>Ek (by simp only[List.contains_eq_mem,AR];exact List.mem_map.2 ⟨_,hf,rfl⟩);obtain⟨f,q1,q2,⟨ts,q3⟩,q5⟩:=xP h.rel h.hp h.gs r2 Cv (λq hq=>hc q (by simp[hq]));obtain⟨q3,q4⟩:=q3;have AO:=Mb h.hp (CJ hl h.gs);have DA:=h.rel.freeze h.hp h.gs q3;have MN:CH (c.bu (fz.map (·.1))).ρ (Bk hp fz b) (.row el sz g c0 d):=by rw[L2 Ek];exact AO
    obtain⟨e1,e2,N,e3,e4,e5,e6⟩:=DA.ents b _ MN;obtain⟨o1,o2,o3,o4⟩:=nO (P:=P) q1 Eg q5;generalize hv:a.eval x=v at r1;cases r1 with
    |cr k1 k2 k3 k4 k5 _=>
     rename_i m len cap kk kv k6;obtain⟨xs,p1,p2,p3,pcase⟩:=e3;have p1':c0.den c.ρ= .sl xs:=p1;rcases pcase with⟨_,⟨_,pv⟩,_⟩|⟨g9,cap9,C,pv,p4,p5,p6,p7,p8,p9,p10⟩
     ·exfalso;have:c.H b g=_:=pv;rw[k2]at this;cases this;omega
     ·have pv':c.H b g= .slice (some ⟨g9,0,none⟩) xs.length cap9:=pv;rw[k2]at pv';simp only[Value.slice.injEq,Ad,Addr.mk.injEq,and_true]at pv';obtain⟨rfl,rfl,rfl⟩:=pv';have Ix:kv.toNat<xs.length:=by omega
      have Gk:=NM Ix;generalize Jb:(AV.sl xs).nth kv.toNat=yk at Gk;have FU:=p2 yk (List.mem_of_getElem? Gk);have En:(a.eval y).cells.toList.length=P.cellsOf t:=by simpa using o4
      have hmul:(kv.toNat+1)*sz<=xs.length*sz:=Br _ (by omega);have DF:C.toList.length=cap*sz:=by simpa using p7
      have ES:xs.length*sz<=cap*sz:=Br _ p4;rw[Nat.add_mul]at hmul;have p6':c.w.heap[m]?=some (.cells C el (0,0)):=p6;obtain⟨m1,m2,m3⟩:=Zd (vs:=(a.eval y).cells.toList) p6' (show(kv.toNat*sz+k)+_<=C.size by rw[En,p7];omega);have Oz:(C.toList.take (xs.length*sz)).length=xs.length*sz:=by rw[Aw,DF];omega
      obtain⟨n1,n2,n3,hN,s1,s2⟩:=Rd.setVs (p:=kv.toNat*sz+k) p10 o1 (by rw[Oz,En];omega);have FP:∀z,z<c.w.heap.size->(c.bu (fz.map (·.1))).ok z->(putCells c.w m (kv.toNat*sz+k) (a.eval y).cells.toList).heap[z]?=c.w.heap[z]?:=by intro z hz AZ;refine m1.block z hz ?_;simp only[List.mem_singleton];rintro rfl;exact AZ.1 ⟨b,by rw[p8];simp⟩
      have B4:(d&&dx)=true->n2=[]/\f=[]:=by
       intro E6;have hcf:Cn.den c.ρ (.flat (.fld (.idx c0 ix) k (P.cellsOf t) (Ao P t)) (P.cellsOf t) (Ao P t)):=hc _ (by simp[E6]);obtain⟨f1,f2,f3,f4⟩:=hcf;simp only[Ab]at E6;refine⟨?_,q2 E6.2⟩;have OH:((Aq xs).drop (kv.toNat*sz+k)).take (a.eval y).cells.toList.length=(yk.cells.drop k).take (P.cellsOf t):=by rw[En];exact VY xs p2 _ _ Gk k (P.cellsOf t) hle
       rw[OH]at s2;have Cp:(E.fld (.idx c0 ix) k (P.cellsOf t) (Ao P t)).den c.ρ=yk.fld k (P.cellsOf t) (Ao P t):=by simp only[E.den,p1',k3,AV.idx,Jb]
       rw[Cp]at f2;refine Hw s2 ?_;cases hg:Ao P t with
       |true=>rw[hg]at f2;simpa[AV.fld,AV.cells]using f2
       |false=>
        have h1:P.cellsOf t=1:=by rcases Eg with h'|h';rw[hg]at h';cases h';exact h'
        rw[Cp]at f4;have f4:=f4 hg;rw[hg]at f4;have AH:k<yk.cells.length:=by omega
        rw[h1,Bw AH,List.take_succ_cons,List.take_zero];simp only[List.mem_singleton,forall_eq];simpa[AV.fld,AH]using f4
      have hz:(yk.c9 k (xe.den c.ρ) (Ao P el)).cells=setVs yk.cells k (xe.den c.ρ).cells:=by
       refine mU ?_ (λhg=> ?_)
       ·cases hg:Ao P el with
        |true=>exact .inr rfl
        |false=>
         left;rcases FL with h'|⟨_,h'⟩
         ·rw[hg]at h';cases h'
         ·have h':Ao P t=false:=by simpa using h'
          rw[h']at q5;exact λcs=>(q5.1 cs)
       ·rcases FL with h'|⟨h1,h'⟩
        ·rw[hg]at h';cases h'
        ·have h':Ao P t=false:=by simpa using h'
         rw[h']at q5;have TG:P.cellsOf t=1:=by rcases Eg with h2|h2;rw[h']at h2;cases h2;exact h2
         refine⟨by omega,by omega,?_⟩;cases fB:xe.den c.ρ<;>first|rfl|exact absurd fB (q5.1 _)
      have EJ:Aq (xs.set kv.toNat (yk.c9 k (xe.den c.ρ) (Ao P el)))=setVs (Aq xs) (kv.toNat*sz+k) (xe.den c.ρ).cells:=
       ZX xs _ _ yk k _ p2 Gk (by rw[o3];exact hle) hz
      have D1:=DA.jb (t:=b) (b:=m) (w':=putCells c.w m (kv.toNat*sz+k) (a.eval y).cells.toList) (O:=if(d&&dx)=true then((c.bu (fz.map (·.1))).G b).O else []) MN (by rw[p8];simp) (by split;exact .inr rfl;exact .inl rfl) m1 m3
       (.row el sz g (.set c0 ix (.put (.idx c0 ix) k xe (Ao P el))) (d&&dx)) (by intros;simp) (λGN=>by
        have F8:∀z∈n1++f++n3,(c.bu (fz.map (·.1))).ok z:=by
         intro z hz;simp only[Ac]at hz;rcases hz with(hz|hz)|hz
         ·exact e4 z (by rw[hN];simp[hz])
         ·exact q4 z hz
         ·exact e4 z (by rw[hN];simp[hz])
        have To:∀z∈n1++f++n3,z<c.w.heap.size:=s1.inb;refine⟨e1,e2,n1++f++n3,⟨xs.set kv.toNat (yk.c9 k (xe.den c.ρ) (Ao P el)),?_,λz fI=> ?_,p3, .inr ⟨m,cap,_,?_,by simpa using p4,p5,m2,?_,?_,?_,?_⟩⟩,λz hz=>GN.ok z (To z hz) (F8 z hz),λE6=> ?_,λE6=> ?_⟩
        ·show AV.c7 (c0.den c.ρ) (ix.den c.ρ) (((c0.den c.ρ).idx (ix.den c.ρ)).c9 k (xe.den c.ρ) (Ao P el))=_;rw[p1',k3];simp only[AV.idx,Jb,AV.c7]
        ·rcases List.mem_or_eq_of_mem_set fI with fI|rfl
         ·exact p2 z fI
         ·rw[hz,Sp _ _ _ (by rw[o3,FU];exact hle)];exact FU
        ·rw[List.length_set];exact k2
        ·rw[List.size_toArray,Sp _ _ _ (by rw[En,DF];omega),BC];exact p7
        ·simpa[Cx.ey]using p8
        ·simp only[List.length_set,List.toList_toArray];rw[Sd _ _ _ _ (by rw[En];omega) (by rw[DF];omega)];intro u hu;unfold setVs at hu;simp only[Ac]at hu;rcases hu with(hu|hu)|hu
         ·exact p9 u (Bt hu)
         ·exact o2 u hu
         ·exact p9 u (BO hu)
        ·simp only[List.length_set,List.toList_toArray];rw[Sd _ _ _ _ (by rw[En];omega) (by rw[DF];omega),EJ];exact s1.frame λz hz=>FP z (To z hz) (F8 z hz)
        ·obtain⟨z1,z2⟩:=B4 E6;have hd:d=true:=by simp only[Ab]at E6;exact E6.1
         obtain⟨u1,u2⟩:=e5 hd;have WU:n1++f++n3=N:=by rw[hN,z1,z2]
         rw[WU];refine⟨u1.frame λz hz=>FP z (p10.inb z hz) (e4 z hz),?_⟩;simp only[Cx.ey,if_true,E6];exact u2
        ·simp[Cx.ey,E6])
      intro next Q hk
      unfold Oper.wp;have hr:(execOp a.eval o).run P c.w= .ok .skip (putCells c.w m (kv.toNat*sz+k) (a.eval y).cells.toList):=by have:=lZ (P:=P) (t:=t) (v:=a.eval y) (off:=kv.toNat*sz+k) p6' Bn o4 (by rw[o4,p7];omega) o2;simp[execOp,ho,hv,this]
      rw[hr,Oper.upon_skip];refine hk _ ((c.bu (fz.map (·.1))).ey (putCells c.w m (kv.toNat*sz+k) (a.eval y).cells.toList) b (if(d&&dx)=true then((c.bu (fz.map (·.1))).G b).O else [])) ⟨rfl,rfl,rfl,rfl,λt ht=> .inl ht⟩ ?_;have:=D1.put (v:=Go.undef) ((SR.undef .nil).mkGd []) o.dst;rw[PB];exact this
   ·cases he
  ·cases he
 all_goals (rename_i hl;obtain⟨_,_,_,_,_,BH⟩:=AY;first|(rw[BH]at hl;cases hl;done)|exact absurd BH (hl _ _ _ _ _)|cases he)
end
def KZ(a:Act)(o:Oper):Bool:=match o.op with| .binOp _ _ x _ _=>(match a.eval x with| .slice none _ _=>true|_=>false)|_=>false
section
variable (P:Program) (sg:B1) (Rt:Nat->List AV->AV->Prop)
def OX:Prop:= ∀(c:Cx) (n nx:Nat) (sl:Nat->SV) (hp:Nat->Option Af) (a:Act) (sl0:Nat->SV) (hp0:Nat->Option Af) (o:Oper) (gs:Gd) (e:Bb) (nv:Nat),BA P c n nx sl hp a sl0 hp0 o gs-> ¬c.U (nx+999)->Md P sg sl0 hp0 nv nx gs o=some e->
 (∀q∈e.cc,q.den c.ρ)->(∀cl,e.call=some cl-> ∃r,c.ρ[nv]?=some r/\IN Rt cl.fn ((EL.of cl.args).den c.ρ) c.ρ r)->(∀x,e.ca=some x->c.ρ[nv]?=some (.bool (KZ a o)))->AB P o c n nx sl hp gs a e
def UB:Prop:= ∀(c:Cx) (n nx:Nat) (sl:Nat->SV) (hp:Nat->Option Af) (a:Act) (sl0:Nat->SV) (hp0:Nat->Option Af) (o:Oper) (gs:Gd) (e:Bb) (nv:Nat) (x:E),BA P c n nx sl hp a sl0 hp0 o gs->Md P sg sl0 hp0 nv nx gs o=some e->e.ca=some x->KZ a o=true->x.den c.ρ= .sl []
end
theorem yM{hp:Nat->Option Af}(l:List (Nat × Af))(t:Nat):(Bk hp l t=hp t/\ ∀e,(t,e)∉l)\/ ∃e,(t,e)∈l/\Bk hp l t=some e:=by
 induction l generalizing hp with
 |nil=>exact .inl ⟨rfl,by simp⟩
 |cons p l ih=>
  obtain⟨u,f⟩:=p;rcases ih (hp:=λv=>if v=u then some f else hp v)with⟨h1,h2⟩|⟨e,h1,h2⟩
  ·by_cases ht:t=u
   ·subst ht;refine .inr ⟨f,by simp,?_⟩;have:Bk hp ((t,f)::l) t=Bk (λv=>if v=t then some f else hp v) l t:=rfl;rw[this,h1];simp
   ·refine .inl ⟨?_,λe he=> ?_⟩
    ·have:Bk hp ((u,f)::l) t=Bk (λv=>if v=u then some f else hp v) l t:=rfl;rw[this,h1,if_neg ht]
    ·rcases Ae.1 he with he|he
     ·cases he;exact ht rfl
     ·exact h2 e he
  ·exact .inr ⟨e,by simp[h1],h2⟩
section
variable {P:Program} {sg:B1} {Rt:Nat->List AV->AV->Prop} {c:Cx} {n nx:Nat} {sl:Nat->SV} {hp:Nat->Option Af} {a:Act} {ops:Array Oper} {o:Oper} {gs:Gd} {e:Bb}
theorem Rel.skip(h:Rel c n sl hp a)(hg: ¬Bu c.ρ gs){l:List (Nat × Af)}(hl:∀t x,(t,x)∈l->nx<=t/\t<nx+BV/\ ∃hs y,x= .gd hs y/\Mq gs hs=true)(Ba:∀t,nx<=t->t<nx+BV-> ¬c.U t)(s:SV)(d:Option Nat):
  Rel {c with U:=λt=>c.U t\/(nx<=t/\t<nx+BV)} n (CQ n sl d (mkGd gs s)) (Bk hp l) (a.put d undef):=by
 have hs:SR {c with U:=λt=>c.U t\/(nx<=t/\t<nx+BV)} [mkGd gs s] [undef]:=by
  cases gs with
  |nil=>exact absurd (E1 _) hg
  |cons g gs=>exact .gd (λhh=>absurd hh hg) (λ_=>rfl) .nil
 refine Rel.put ?_ hs d;refine h.change (λt=> ∃x,(t,x)∈l) ⟨rfl,rfl,λ_ _ hb=>hb,λ_ _ _=>rfl,λ_ _ hk=>⟨hk,rfl⟩,λ_ _ _=>⟨AJ _,λ_=>⟨rfl,λ_ _ _=>rfl⟩⟩⟩ ⟨h.base.os,h.base.tape,h.base.output,h.base.size,λt v hp=>⟨.inl (h.base.pins t v hp).1,(h.base.pins t v hp).2⟩,h.base.block,h.base.pk,h.base.lo⟩ (λt ht=> ?_) (λ_ _ _ _=>rfl) (λt ht=> ?_) ⟨h.gw.nodup,h.gw.cq,h.gw.allow,h.gw.inb⟩ (λt g hk=> .inl (h.bq t g hk)) (λt x hx=> ?_)
 ·exact⟨L2 λx hx=>ht ⟨x,hx⟩,rfl,rfl,λg hk=>hk⟩
 ·obtain⟨x,hx⟩:=ht;rcases yM (hp:=hp) l t with⟨_,h2⟩|⟨x',h1,h2⟩
  ·exact absurd hx (h2 x)
  ·obtain⟨q1,q2,hs,y,rfl,BZ⟩:=hl t x' h1;have DU:∀e',¬CH c.ρ (Bk hp l t) e':=by
    rw[h2];exact λe' hr=>hg (Z7 BZ hr.1)
   refine⟨λe' hr=>absurd hr (DU e'),λ_=>h.off t λe' hr=> ?_⟩;cases hh:hp t with
   |none=>rw[hh]at hr;exact hr.elim
   |some e9=>exact Ba t q1 q2 (h.ct t e9 hh)
 ·rcases yM (hp:=hp) l t with⟨h1,_⟩|⟨x',h1,_⟩
  ·rw[h1]at hx;exact .inl (h.ct t x hx)
  ·obtain⟨q1,q2,_⟩:=hl t x' h1;exact .inr ⟨q1,q2⟩
def WN(ρ:List AV)(ops:Array Oper)(o:Oper)(a:Act):Option Gd->Prop
 |none=>Region.wanted o (yielded ops a.tmps)=false
 |some gs=>(Bu ρ gs->Region.wanted o (yielded ops a.tmps)=true)/\(¬Bu ρ gs->Region.wanted o (yielded ops a.tmps)=false)
theorem nQ{σ:St}{r:Option Gd}(hg:Pz σ ops o=some r)(hs:∀j want d,o.guard=some (j,want)->(ops[j]?).bind (·.dst)=some d->SR c [BS σ d] [a.tmps.getD d undef]):WN c.ρ ops o a r:=by
 unfold Pz at hg;cases Hf:o.guard with
 |none=>rw[Hf]at hg;simp only[Ad]at hg;subst hg;exact⟨λ_=>by simp[Region.wanted,Hf],λhn=>absurd (E1 _) hn⟩
 |some jw=>
  obtain⟨j,want⟩:=jw;rw[Hf]at hg;simp only at hg;cases hd:(ops[j]?).bind (·.dst)with
  |none=>rw[hd]at hg;simp only[Ad]at hg;subst hg;simp[WN,Region.wanted,Hf,yielded,hd]
  |some d=>
   rw[hd]at hg;simp only at hg;have hr:=hs j want d Hf hd;have hw:∀v,a.tmps.getD d undef=v->Region.wanted o (yielded ops a.tmps)=(match v with| .bool b=>b==want|_=>false):=by
    intro v hv;simp only[Region.wanted,Hf,yielded,hd,Aa];rw[Array.getD_eq_getD_getElem?]at hv;cases hq:a.tmps[d]? with
    |none=>rw[hq]at hv;simp at hv;subst hv;simp[undef]
    |some u=>rw[hq]at hv;simp at hv;subst hv;cases u<;>simp
   generalize a.tmps.getD d undef=v at hr hw;have hw:=hw v rfl;have LA:v=undef->Region.wanted o (yielded ops a.tmps)=false:=by rintro rfl;rw[hw];simp[undef]
   have HV:∀x f,Rd c.w [v] [x] f->(x= .bool want->Region.wanted o (yielded ops a.tmps)=true)/\(x≠ .bool want->Region.wanted o (yielded ops a.tmps)=false):=by
    intro x f hx;refine⟨λh=> ?_,λh=> ?_⟩
    ·rw[hw,IM hx h];simp
    ·rw[hw];cases v<;>simp only;rename_i b;cases hx with
     |bool _=>simpa using λhh=>h (by rw[hh])
   split at hg
   ·rename_i b Dj;rw[Dj]at hr;cases hr with
    |e h1 _ _=>
     simp only[Ad]at hg;subst hg;obtain⟨q1,q2⟩:=HV _ _ h1;simp only[E.den,AV.bool.injEq]at q1 q2;split
     ·rename_i hb;simp only[AM]at hb;exact⟨λ_=>q1 hb,λhn=>absurd (E1 _) hn⟩
     ·rename_i hb;simp only[AM]at hb;exact q2 (by simpa using hb)
   ·rename_i x _ Dj;rw[Dj]at hr;cases hr with
    |e h1 _ _=>simp only[Ad]at hg;subst hg;obtain⟨q1,q2⟩:=HV _ _ h1;exact⟨λhh=>q1 (hh (x,want) (by simp)),λhn=>q2 λhh=>hn (by intro g hg;simp at hg;subst hg;exact hh)⟩
   ·rename_i A5 s Dj;rw[Dj]at hr;cases hr with
    |gd h1 h2 _=>
     split at hg
     ·rename_i hf;simp only[Ad]at hg;subst hg;refine LA (h2 λhk=> ?_);simp only[zz3,List.any_eq_true]at hf;obtain⟨g,hg,cX⟩:=hf;have:=hk g hg;split at cX
      ·rename_i b hb;rw[hb]at this;simp only[E.den,AV.bool.injEq]at this;simp[this]at cX
      ·cases cX
     ·split at hg
      ·rename_i b;simp only[Ad]at hg;subst hg;by_cases hk:Bu c.ρ A5
       ·have h1:=h1 hk;cases h1 with
        |e h1 _ _=>
         obtain⟨q1,q2⟩:=HV _ _ h1;simp only[E.den,AV.bool.injEq]at q1 q2;split
         ·rename_i hb;simp only[AM]at hb;exact⟨λ_=>q1 hb,λhn=>absurd hk hn⟩
         ·rename_i hb;simp only[AM]at hb;exact q2 (by simpa using hb)
       ·split
        ·exact⟨λhh=>absurd hh hk,λ_=>LA (h2 hk)⟩
        ·exact LA (h2 hk)
      ·rename_i x _;simp only[Ad]at hg;subst hg;by_cases hk:Bu c.ρ A5
       ·have h1:=h1 hk;cases h1 with
        |e h1 _ _=>obtain⟨q1,q2⟩:=HV _ _ h1;exact⟨λhh=>q1 (hh (x,want) (by simp)),λhn=>q2 λhh=>hn (by intro g hg;rcases Ae.1 hg with rfl|hg;exact hh;exact hk g hg)⟩
       ·exact⟨λhh=>absurd (λg hg=>hh g (by simp[hg])) hk,λ_=>LA (h2 hk)⟩
      ·cases hg
   ·cases hg
theorem tJ(AU:OX P sg Rt){Q:Exit->Act->World->Prop}{K:Act->World->Prop}{i nv:Nat}(hi:ops[i]?=some o)(hrel:Rel c n sl hp a){sl0:Nat->SV}{hp0:Nat->Option Af}(EM:WN c.ρ ops o a (some gs))
  (Dj:∀t,Operand.tmp t∈o.op.operands->sl0 t=sl t) (hhp:∀t e,hp0 t=some e->hp t=some e) (Ba:∀t,nx<=t->t<nx+BV-> ¬c.U t)
  (he:Md P sg sl0 hp0 nv nx gs o=some e) (BG:gs≠ []-> ∀t x,(t,x)∈e.bk->nx<=t/\t<nx+BV/\ ∃hs y,x= .gd hs y/\Mq gs hs=true)
  (hc:Bu c.ρ gs-> ∀q∈e.cc,q.den c.ρ) (Bm:∀cl,e.call=some cl-> ∃r,c.ρ[nv]?=some r/\(Bu c.ρ gs->IN Rt cl.fn ((EL.of cl.args).den c.ρ) c.ρ r)) (C5:∀x,e.ca=some x->Bu c.ρ gs->c.ρ[nv]?=some (.bool (KZ a o)))
  (hK:∀a' c',M3 c c' nx->Rel c' n (CQ n sl o.dst (mkGd gs e.val)) (Bk hp e.bk) a'->K a' c'.w):wpOp P ops Q i K a c.w:=by
 unfold wpOp;simp only[hi];by_cases hg:Bu c.ρ gs
 ·rw[if_pos (EM.1 hg)];exact .inl (AU c n nx sl hp a sl0 hp0 o gs e nv ⟨hrel,hg,Dj,hhp,λt h1 h2=>Ba t h1 (by simp only[BV];omega)⟩ (Ba _ (by omega) (by simp[BV])) he (hc hg) (λcl Ax=>by obtain⟨r,h1,h2⟩:=Bm cl Ax;exact⟨r,h1,h2 hg⟩) (λx hx=>C5 x hx hg) _ _ hK)
 ·rw[if_neg (by rw[EM.2 hg];simp)];have BF:gs≠ []:=by rintro rfl;exact hg (E1 _)
  exact hK _ {c with U:=λt=>c.U t\/(nx<=t/\t<nx+BV)} ⟨rfl,rfl,rfl,rfl,λt ht=>ht⟩ (hrel.skip hg (BG BF) Ba e.val o.dst)
end
def Cx.ext(c:Cx)(τ:List AV):Cx:={c with ρ:=c.ρ++τ}
theorem den_app{ρ τ:List AV}{x:E}(h:x.sc ρ.length=true):x.den (ρ++τ)=x.den ρ:=by have:=E.bd ρ τ [] x h;rw[AE]at this;exact this
theorem zBI{ρ τ:List AV}{x:EL}(h:x.sc ρ.length=true):x.den (ρ++τ)=x.den ρ:=by have:=EL.bd ρ τ [] x h;rw[AE]at this;exact this
theorem LY{ρ τ:List AV}{gs:Gd}(h:UR ρ.length gs=true):Bu (ρ++τ) gs↔Bu ρ gs:=by simp only[UR,Bl]at h;exact⟨λk g hg=>by rw[<-den_app (τ:=τ) (h g hg)];exact k g hg,λk g hg=>by rw[den_app (h g hg)];exact k g hg⟩
theorem BP.fh{n:Nat}:∀{cs:BP},cs.sc n=true-> ∀s∈cs.toList,s.sc n=true
 | .nil,_,s,h=>by simp[BP.toList]at h
 | .cons s cs,h,u,hu=>by
  simp only[BP.sc,Ab]at h;simp only[BP.toList,Ae]at hu;rcases hu with rfl|hu
  ·exact h.1
  ·exact BP.fh h.2 u hu
section
variable {c:Cx} {n:Nat} {sl:Nat->SV} {hp:Nat->Option Af} {a:Act} {τ:List AV}
theorem IU.ext{t g:Nat}{p:NZ}{v:Value}(hs:(match p with|some q=>q.1.sc c.ρ.length|none=>true)=true)(h:IU c t g p v):IU (c.ext τ) t g p v:=by
 cases p with
 |none=>exact trivial
 |some p=>obtain⟨i,z,o⟩:=p;obtain⟨b,n,cap,C,ty,fz,kk,k,h1,h2,h3,h4,h5⟩:=h;exact⟨b,n,cap,C,ty,fz,kk,k,h1,h2,h3,by show i.den (c.ρ++τ)=_;rw[den_app hs];exact h4,h5⟩
theorem SR.ext{ss:List SV}{vs:List Value}(h:SR c ss vs):(∀s∈ss,s.sc c.ρ.length=true)->SR (c.ext τ) ss vs:=by
 have tl:∀{s:SV} {ss:List SV},(∀x∈s::ss,x.sc c.ρ.length=true)-> ∀x∈ss,x.sc c.ρ.length=true:=λh x hx=>h x (by simp[hx]);have hd:∀{s:SV} {ss:List SV},(∀x∈s::ss,x.sc c.ρ.length=true)->s.sc c.ρ.length=true:=λh=>h _ (by simp);have hρ:(c.ext τ).ρ=c.ρ++τ:=rfl
 induction h with
 |nil=>exact λ_=> .nil
 |undef _ ih=>exact λhs=> .undef (ih (tl hs))
 |e h1 h2 _ ih=>exact λhs=> .e (by rw[hρ,den_app (hd hs)];exact h1) h2 (ih (tl hs))
 |cd _ ih=>exact λhs=> .cd (ih (tl hs))
 |emp _ ih=>exact λhs=> .emp (ih (tl hs))
 |own h1 h2 _ ih=>exact λhs=> .own h1 h2 (ih (tl hs))
 |cj h1 h2 _ ih=>exact λhs=> .cj h1 h2 (ih (tl hs))
 |cr h1 h2 h3 h4 h5 _ ih=>exact λhs=> .cr h1 h2 (by rw[hρ,den_app (hd hs)];exact h3) h4 h5 (ih (tl hs))
 |de h1 h2 h3 h4 h5 h6 _ ih=>intro hs;have:=hd hs;simp only[SV.sc,Ab]at this;exact .de (by rw[hρ,den_app this.1];exact h1) h2 (by rw[hρ,den_app this.2];exact h3) h4 h5 (by rw[hρ,den_app this.1];exact h6) (ih (tl hs))
 |db h1 h2 _ ih=>exact λhs=> .db (by rw[hρ,den_app (hd hs)];exact h1) h2 (ih (tl hs))
 |agg h9 _ _ ih1 ih2=>exact λhs=> .agg h9 (ih1 (BP.fh (hd hs))) (ih2 (tl hs))
 |tup _ _ ih1 ih2=>exact λhs=> .tup (ih1 (BP.fh (hd hs))) (ih2 (tl hs))
 |fn _ _ ih1 ih2=>exact λhs=> .fn (ih1 (BP.fh (hd hs))) (ih2 (tl hs))
 |gd _ h2 _ ih1 ih2=>intro hs;have:=hd hs;simp only[SV.sc,Ab]at this;exact .gd (λhg=>ih1 ((LY this.1).1 hg) (by simpa using this.2)) (λhg=>h2 λk=>hg ((LY this.1).2 k)) (ih2 (tl hs))
 | @via t g n p x v ss vs h1 h2 h3 _ ih=>intro hs;have:=hd hs;simp only[SV.sc,Ab]at this;refine .via h1 h2 (λhe=> ?_) (ih (tl hs));obtain⟨q1,q2⟩:=h3 he;exact⟨by rw[hρ,den_app this.2];exact q1,IU.ext (τ:=τ) this.1 q2⟩
 | @vptr t g n p x i sz o v ss vs h1 h2 h3 _ ih=>intro hs;have:=hd hs;simp only[SV.sc,Ab]at this;refine .vptr h1 h2 (λhe=> ?_) (ih (tl hs));obtain⟨b,off,len,cap,kk,k,q1,q2,q3,q4,q5,q6,q7⟩:=h3 he;exact⟨b,off,len,cap,kk,k,by rw[hρ,den_app this.1.2];exact q1,IU.ext (τ:=τ) this.1.1 q2,by rw[hρ,den_app this.2];exact q3,q4,q5,by rw[hρ,den_app this.1.2];exact q6,q7⟩
 |wown h1 h2 h3 h4 h5 h6 _ ih=>exact λhs=> .wown h1 h2 (by rw[hρ,den_app (hd hs)];exact h3) h4 h5 h6 (ih (tl hs))
 | @lent i _ _ _ h1 _ ih=>exact λhs=> .lent (by rw[hρ,den_app (x:= .var i) (by simpa[SV.sc,E.sc]using hd hs)];exact h1) (ih (tl hs))
theorem Dv.ext{t:Nat}{e:Af}(h:Dv c t e)(hs:e.sc c.ρ.length=true):Dv (c.ext τ) t e:=by
 have hρ:(c.ext τ).ρ=c.ρ++τ:=rfl;cases e with
 |box ty g cs=>obtain⟨b,C,h1,h2,h3,h4,h5,h6,h7⟩:=h;exact⟨b,C,h1,h2,h3,h4,h5,h6,h7.ext (by simpa[Af.sc]using hs)⟩
 |row ety sz g x d=>obtain⟨h1,h2,N,h3,h4,h5⟩:=h;exact⟨h1,h2,N,by rw[hρ,den_app hs];exact h3,h4,h5⟩
 |bu g x=>obtain⟨h1,⟨f,h2,h3⟩,h4⟩:=h;exact⟨h1,⟨f,by rw[hρ,den_app hs];exact h2,h3⟩,h4⟩
 |gd gs e=>exact h
 |dead=>exact h
 |deep e z l g ep x=>obtain⟨h1,h2,h3,h4,h5⟩:=h;exact⟨h1,h2,h3,by rw[hρ,den_app hs];exact h4,h5⟩
 |hol e z l g ep x i o u=>simp only[Af.sc,Ab]at hs;obtain⟨h1,h2,h3,h4,h5⟩:=h;exact⟨h1,h2,h3,by rw[hρ,den_app hs.1,den_app hs.2];exact h4,h5⟩
 |pre e z l g ep x k=>simp only[Af.sc,Ab]at hs;obtain⟨h1,h2,h3,h4,h5⟩:=h;exact⟨h1,h2,h3,by rw[hρ,den_app hs.1,den_app hs.2];exact h4,h5⟩
theorem zEs{ρ:List AV}{e0 e:Af}(hs:e0.sc ρ.length=true):CH (ρ++τ) (some e0) e↔CH ρ (some e0) e:=by
 cases e0 with
 |gd gs x=>simp only[Af.sc,Ab]at hs;simp only[CH];rw[LY hs.1]
 |_=>simp[CH]
theorem Rel.ext(h:Rel c n sl hp a)(h1:∀i,(sl i).sc c.ρ.length=true)(h2:∀t e,hp t=some e->e.sc c.ρ.length=true)(τ:List AV):Rel (c.ext τ) n sl hp a:=by
 have key:∀t e,CH (c.ρ++τ) (hp t) e↔CH c.ρ (hp t) e:=by
  intro t e;cases hh:hp t with
  |none=>exact Iff.rfl
  |some e0=>exact zEs (h2 t e0 hh)
 refine⟨h.defers,h.size,⟨h.base.os,h.base.tape,h.base.output,h.base.size,h.base.pins,h.base.block,h.base.pk,h.base.lo⟩,λi=>(h.cz i).ext (by simpa using h1 i),λt e hr=> ?_,λt hn=>h.off t λe hr=>hn e ((key t e).2 hr),⟨h.gw.nodup,h.gw.cq,h.gw.allow,h.gw.inb⟩,h.bq,h.ct⟩;have CB:=(key t e).1 hr;have he:=h.ents t e CB;cases hh:hp t with
 |none=>rw[hh]at CB;exact CB.elim
 |some e0=>
  have E8:=h2 t e0 hh;rw[hh]at CB;cases e0 with
  |gd gs x=>
   obtain⟨_,rfl⟩:=CB;simp only[Af.sc,Ab]at E8;cases x with
   |gd=>exact he
   |dead=>exact he
   |box=>exact he.ext (by simpa[Af.sc]using E8.2)
   |row=>exact he.ext (by simpa[Af.sc]using E8.2)
   |bu=>exact he.ext (by simpa[Af.sc]using E8.2)
   |deep=>exact he.ext (by simpa[Af.sc]using E8.2)
   |hol=>exact he.ext (by simpa[Af.sc]using E8.2)
   |pre=>exact he.ext (by simpa[Af.sc]using E8.2)
  |_=>simp only[CH]at CB;subst CB;exact he.ext E8
theorem St.km{σ:St}(h:σ.sc=true)(i:Nat):(BS σ i).sc σ.nv=true:=by
 simp only[St.sc,Ab,Bl]at h;unfold BS;cases hi:σ.sl[i]? with
 |none=>simp[SV.sc]
 |some s=>exact h.1 s (List.mem_of_getElem? hi)
theorem St.j0{σ:St}(h:σ.sc=true)(t:Nat)(e:Af)(he:AL σ.hp t=some e):e.sc σ.nv=true:=by simp only[St.sc,Ab,Bl]at h;exact h.2 _ (Jh he)
theorem Cn.iz{ρ τ:List AV}{q:Cn}(h:q.sc ρ.length=true):q.den (ρ++τ)↔q.den ρ:=by
 cases q<;>simp only[Cn.sc,Ab]at h<;>simp only[Cn.den]
 case dfd=>rw[den_app h]
 case agg=>rw[den_app h]
 case cells=>rw[den_app h]
 case inb=>rw[den_app h.1,den_app h.2]
 case inbS=>rw[den_app h.1,den_app h.2]
 case win=>rw[den_app h.1.1,den_app h.1.2,den_app h.2]
 case winS=>rw[den_app h.1.1,den_app h.1.2,den_app h.2]
 case room=>rw[den_app h.1,den_app h.2]
 case roomS=>rw[den_app h.1,den_app h.2]
 case mkroom=>rw[den_app h]
 case nz=>rw[den_app h]
 case nn=>rw[den_app h]
 case isref=>rw[den_app h]
 case issl=>rw[den_app h]
 case flat=>rw[den_app h]
 case flatS=>rw[den_app h]
 case kinds=>rw[den_app h]
theorem qA:SR c [HG] [Go.undef]:= .gd (λhg=>by have:=hg (.bool false,true) (by simp);simp[E.den]at this) (λ_=>rfl) .nil
theorem zQ{ρ:List AV}{x:E}{b:Bool}{hs:Gd}(hx:x.den ρ= .bool b)(h:PZ (x, !b) hs=true): ¬Bu ρ hs:=by intro k;have:=zx6 h k;simp only at this;rw[hx]at this;simp at this
theorem mP{ρ:List AV}{x:E}{b:Bool}{hs:Gd}(hx:x.den ρ= .bool b):Bu ρ (hs.filter λh=> !(h.1.beq x&&h.2==b))↔Bu ρ hs:=by
 refine⟨λk g hg=> ?_,λk g hg=>k g (List.mem_filter.1 hg).1⟩;by_cases hh:(g.1.beq x&&g.2==b)=true
 ·simp only[Ab,AM]at hh;rw[E.az ρ _ _ hh.1,hx,hh.2]
 ·exact k g (List.mem_filter.2 ⟨hg,by rw[Bool.not_eq_true]at hh;rw[hh];rfl⟩)
theorem SR.jf{s:SV}{v:Value}{gs:Gd}(h1:Bu c.ρ gs->SR c [s] [v])(h2: ¬Bu c.ρ gs->v=Go.undef):SR c [Go.Proofs.YtalagilebkaegaaGreat.mkGd gs s] [v]:=by
 cases gs with
 |nil=>exact h1 (E1 _)
 |cons g gs=>exact .gd h1 h2 .nil
theorem SR.ff{x:E}{b:Bool}(hx:x.den c.ρ= .bool b){s:SV}{v:Value}(h:SR c [s] [v]):SR c [assumeS x b s] [v]:=by
 cases s with
 |gd hs s=>
  simp only[Go.Proofs.YtalagilebkaegaaGreat.assumeS];cases h with
  |gd h1 h2 _=>
   split
   ·rename_i hm;rw[h2 (zQ hx hm)];exact qA
   ·exact SR.jf (λk=>h1 ((mP hx).1 k)) (λk=>h2 λk'=>k ((mP hx).2 k'))
 |_=>exact h
theorem zBv(f:Af->Af)(l:List (Nat × Af))(t:Nat):AL (l.map λ(t,e)=>(t,f e)) t=(AL l t).map f:=by
 induction l with
 |nil=>rfl
 |cons p l ih=>
  obtain⟨u,e⟩:=p;simp only[List.map_cons,AL];split
  ·rfl
  ·exact ih
theorem Rel.ff{x:E}{b:Bool}(hx:x.den c.ρ= .bool b)(h:Rel c n sl hp a):Rel c n (λi=>assumeS x b (sl i)) (λt=>(hp t).map (assumeE x b)) a:=by
 have MI:∀t,(∀e,CH c.ρ (hp t) e-> ∃gs y,e= .gd gs y\/e= .dead)->(c.G t).top=[]/\(c.G t).O=[]:=by
  intro t ht;by_cases hh:∃e,CH c.ρ (hp t) e
  ·obtain⟨e,he⟩:=hh;obtain⟨gs,y,rfl|rfl⟩:=ht e he
   ·exact h.ents t _ he
   ·exact h.ents t _ he
  ·exact h.off t λe he=>hh ⟨e,he⟩
 have cases':∀t,((∀e,CH c.ρ ((hp t).map (assumeE x b)) e↔CH c.ρ (hp t) e))\/((hp t).map (assumeE x b)=some .dead/\(c.G t).top=[]/\(c.G t).O=[]):=by
  intro t;cases hh:hp t with
  |none=>exact .inl λe=>Iff.rfl
  |some e0=>
   cases e0 with
   |gd hs y=>
    by_cases hm:PZ (x, !b) hs=true
    ·refine .inr ⟨by simp[Go.Proofs.YtalagilebkaegaaGreat.assumeE,hm],MI t λe he=> ?_⟩;rw[hh]at he;exact absurd he.1 (zQ hx hm)
    ·by_cases hy:∃gs z,y= .gd gs z
     ·obtain⟨gs,z,rfl⟩:=hy;refine .inr ⟨by simp[Go.Proofs.YtalagilebkaegaaGreat.assumeE,hm],MI t λe he=> ?_⟩;rw[hh]at he;exact⟨gs,z, .inl he.2.symm⟩
     ·refine .inl λe=> ?_;have he:assumeE x b (.gd hs y)=CS (hs.filter λh=> !(h.1.beq x&&h.2==b)) y:=by
       simp only[Go.Proofs.YtalagilebkaegaaGreat.assumeE,hm,AS,if_false];cases y<;>first|rfl|exact absurd ⟨_,_,rfl⟩ hy
      simp only[Option.map_some,he];show _↔Bu c.ρ hs/\y=e;rw[<-mP hx];generalize (hs.filter λh=> !(h.1.beq x&&h.2==b))=fs;cases fs with
      |nil=>simp only[CS,E1,true_and];cases y<;>first|exact absurd ⟨_,_,rfl⟩ hy|exact Iff.rfl
      |cons g fs=>exact Iff.rfl
   |_=>exact .inl λe=>Iff.rfl
 refine⟨h.defers,h.size,h.base,λi=>(h.cz i).ff hx,λt e hr=> ?_,λt hn=> ?_,h.gw,h.bq,λt e he=> ?_⟩
 ·rcases cases' t with hc|⟨hc,h1,h2⟩
  ·exact h.ents t e ((hc e).1 hr)
  ·rw[hc]at hr;have:Af.dead=e:=hr;subst this;exact⟨h1,h2⟩
 ·rcases cases' t with hc|⟨hc,h1,h2⟩
  ·exact h.off t λe he=>hn e ((hc e).2 he)
  ·exact⟨h1,h2⟩
 ·cases hh:hp t with
  |none=>rw[hh]at he;cases he
  |some e0=>exact h.ct t e0 hh
end
theorem mV{σ:St}{d:Option Nat}{s:SV}:BS (H7 σ d s)=CQ σ.sl.length (BS σ) d s:=by
 funext i;cases d with
 |none=>simp[H7,CQ]
 |some d=>
  simp only[H7,BS,CQ,Ad,List.getElem?_set];by_cases h:d=i
  ·subst h;by_cases h2:d<σ.sl.length
   ·simp[h2]
   ·simp[h2,List.getElem?_eq_none (Nat.le_of_not_lt h2)]
  ·simp[h]
theorem mE{σ:St}{d:Option Nat}{s:SV}:(H7 σ d s).sl.length=σ.sl.length:=by cases d<;>simp[H7]
theorem nF{σ:St}{d:Option Nat}{s:SV}:(H7 σ d s).hp=σ.hp:=by cases d<;>rfl
theorem mZ{σ:St}{d:Option Nat}{s:SV}:(H7 σ d s).nv=σ.nv:=by cases d<;>rfl
theorem zAz(l:List (Nat × Af))(t:Nat)(e:Af)(u:Nat):AL (Mo l t e) u=if u=t then some e else AL l u:=by
 induction l with
 |nil=>
  simp only[Mo,AL];by_cases h:t=u
  ·simp[h]
  ·rw[if_neg h,if_neg (Ne.symm h)]
 |cons p l ih=>
  obtain⟨v,f⟩:=p;simp only[Mo];split
  ·rename_i hv;subst hv;simp only[AL];by_cases h:v=u
   ·simp[h]
   ·rw[if_neg h,if_neg (Ne.symm h),if_neg h]
  ·rename_i hv;simp only[AL];by_cases h:v=u
   ·subst h;rw[if_pos rfl,if_neg hv,if_pos rfl]
   ·rw[if_neg h,ih,if_neg h]
theorem yJ:∀(ents:List (Nat × Af)) (l:List (Nat × Af)),AL (ents.foldl (λl (p:Nat × Af)=>Mo l p.1 p.2) l)=Bk (AL l) ents
 | [],l=>rfl
 |(t,e)::ents,l=>by
  simp only[List.foldl_cons];rw[yJ ents];have:AL (Mo l t e)=λu=>if u=t then some e else AL l u:=by funext u;exact zAz l t e u
  rw[this];rfl
section
variable {P:Program} {sg:B1} {Rt:Nat->List AV->AV->Prop} {ops:Array Oper}
theorem zx8{σ:St}{gs:Gd}{o:Oper}{e:Bb}:BS (L1 σ gs o e)=CQ σ.sl.length (BS σ) o.dst (mkGd gs e.val):=by rw[<-mV];rfl
theorem zyi{σ:St}{gs:Gd}{o:Oper}{e:Bb}:AL (L1 σ gs o e).hp=Bk (AL σ.hp) e.bk:=by
 have:(L1 σ gs o e).hp=e.bk.foldl (λl (p:Nat × Af)=>Mo l p.1 p.2) σ.hp:=by show e.bk.foldl (λl (p:Nat × Af)=>Mo l p.1 p.2) (H7 σ o.dst (mkGd gs e.val)).hp=_;rw[nF]
 rw[this,yJ]
theorem zH{σ:St}{gs:Gd}{o:Oper}{e:Bb}:(L1 σ gs o e).sl.length=σ.sl.length:=by show(H7 σ o.dst (mkGd gs e.val)).sl.length=_;rw[mE]
theorem o0{σ:St}{gs:Gd}{o:Oper}{e:Bb}:(L1 σ gs o e).nv=if e.call.isSome||e.ca.isSome then σ.nv+1 else σ.nv:=by show(if e.call.isSome||e.ca.isSome then(H7 σ o.dst (mkGd gs e.val)).nv+1 else(H7 σ o.dst (mkGd gs e.val)).nv)=_;rw[mZ]
theorem oO{R:AV->Prop}{gs:Gd}{k:Tr}{L:LK}{js:List JK}{ρ:List AV}:∀{cs:List Cn},(cs.foldr (λc k=> .cc gs c k) k:Tr).den Rt R L js ρ->(Bu ρ gs-> ∀q∈cs,q.den ρ)/\k.den Rt R L js ρ
 | [],h=>⟨by simp,h⟩
 |c::cs,h=>by
  obtain⟨h1,h2⟩:=h;obtain⟨h3,h4⟩:=oO h2;refine⟨λhg q hq=> ?_,h4⟩;rcases Ae.1 hq with rfl|hq
  ·exact h1 hg
  ·exact h3 hg q hq
theorem zx5{l:List (Nat × Af)}{R:List Nat}{t:Nat}{e:Af}(h:Qy l R t=some e):AL l t=some e:=by
 unfold Qy at h;split at h
 ·exact h
 ·cases h
theorem zD{f:Nat ⊕ E}{as_:EL}{ρ τ:List AV}{r:AV}(h1:(match f with| .inl _=>true| .inr x=>x.sc ρ.length)=true)(h2:as_.sc ρ.length=true):IN Rt f (as_.den (ρ++τ)) (ρ++τ) r↔IN Rt f (as_.den ρ) ρ r:=by
 rw[zBI h2];cases f with
 |inl f=>exact Iff.rfl
 |inr x=>simp only[IN];rw[den_app h1]
theorem EL.ji{n:Nat}:∀{l:List E},l.all (E.sc n)=true->(EL.of l).sc n=true
 | [],_=>rfl
 |x::l,h=>by simp only[List.all_cons,Ab]at h;simp only[EL.of,EL.sc,Ab];exact⟨h.1,EL.ji h.2⟩
structure Jt(F:Fix)(c:Cx)(σ:St)(a:Act)(n m:Nat):Prop where
 w0:c.w0=F.w0
 A:c.A=F.A
 Mu:c.Mu=F.Mu
 nv:c.ρ.length=σ.nv
 len:σ.sl.length=n
 U:∀t,c.U t->t<m
 rel:Rel c n (BS σ) (AL σ.hp) a
theorem Jt.ext{F:Fix}{c:Cx}{σ:St}{a:Act}{n m:Nat}(h:Jt F c σ a n m)(hs:σ.sc=true)(τ:List AV):Rel (c.ext τ) n (BS σ) (AL σ.hp) a:=
 h.rel.ext (λi=>by rw[h.nv];exact St.km hs i) (λt e he=>by rw[h.nv];exact St.j0 hs t e he) τ
theorem zGo(AU:OX P sg Rt)(Ej:UB P sg){F:Fix}{c:Cx}{σ:St}{a:Act}{n i base:Nat}{o:Oper}{gs:Gd}{e:Bb}{k:Tr}{R:AV->Prop}{L:LK}{js:List JK}{Q:Exit->Act->World->Prop}{K:Act->World->Prop}
  (hi:ops[i]?=some o) (hm:Jt F c σ a n (base+BV*i)) (EM:WN c.ρ ops o a (some gs)) {Rs:List Nat} (he:Md P sg (BS σ) (Qy σ.hp Rs) σ.nv (base+BV*i) gs o=some e) (E8:Ta σ.nv (base+BV*i) σ.hp gs e=true)
  (Ud:(e.call.isSome||e.ca.isSome)=true->σ.sc=true) (hd:(aR gs e k).den Rt R L js c.ρ)
  (hK:∀(c':Cx) (a':Act),c.ρ<+:c'.ρ->Jt F c' (L1 σ gs o e) a' n (base+BV*(i+1))->k.den Rt R L js c'.ρ->K a' c'.w):wpOp P ops Q i K a c.w:=by
 simp only[Ta,Ab,Bl]at E8;obtain⟨⟨⟨⟨BM,A8⟩,Hl⟩,rX⟩,eQ⟩:=E8;have BG:gs≠ []-> ∀t x,(t,x)∈e.bk->base+BV*i<=t/\t<base+BV*i+BV/\ ∃hs y,x= .gd hs y/\Mq gs hs=true:=by
  intro BF t x hx;have:=eQ _ hx;have TH:gs.isEmpty=false:=by cases gs;exact absurd rfl BF;rfl
  simp only[TH,Bool.false_or,Bool.false_and,Bool.or_false,Ab,AR]at this;refine⟨this.1.1,this.1.2,?_⟩;have h3:=this.2;split at h3
  ·exact⟨_,_,rfl,h3⟩
  ·cases h3
 have Ba:∀t,base+BV*i<=t->t<base+BV*i+BV-> ¬c.U t:=λt h1 _ h3=>by have:=hm.U t h3;omega
 have Gq:∀(τ:List AV),Rel (c.ext τ) n (BS σ) (AL σ.hp) a->τ.length=(if e.call.isSome||e.ca.isSome then 1 else 0)->k.den Rt R L js (c.ρ++τ)->(Bu c.ρ gs-> ∀q∈e.cc,q.den c.ρ)->
   (∀cl,e.call=some cl-> ∃r,τ=[r]/\(Bu c.ρ gs->IN Rt cl.fn ((EL.of cl.args).den c.ρ) c.ρ r))->(∀x,e.ca=some x->τ=[.bool (KZ a o)])->wpOp P ops Q i K a c.w:=by
  intro τ hrel hτ hk hc Bm C5;have Gl:σ.nv=c.ρ.length:=hm.nv.symm;rw[Gl]at BM A8 Hl;have TQ:∀r,τ=[r]->(c.ρ++τ)[σ.nv]?=some r:=by rintro r rfl;rw[Gl];simp
  refine tJ (c:=c.ext τ) AU hi hrel ⟨λhg=>EM.1 ((LY BM).1 hg),λhg=>EM.2 λk=>hg ((LY BM).2 k)⟩ (λ_ _=>rfl) (λt e h=>zx5 h) Ba he BG (λhg q hq=> ?_) (λcl Ax=> ?_) (λx hx _=>TQ _ (C5 x hx)) (λa' c' Bc hr=> ?_)
  ·exact(Cn.iz (A8 q hq)).2 (hc ((LY BM).1 hg) q hq)
  ·obtain⟨r,rfl,h2⟩:=Bm cl Ax;rw[Ax]at Hl;simp only[Ab]at Hl;exact⟨r,TQ r rfl,λhg=>(zD Hl.1 (EL.ji Hl.2)).2 (h2 ((LY BM).1 hg))⟩
  ·have hρ:c'.ρ=c.ρ++τ:=Bc.ρ;refine hK c' a' ⟨τ,hρ.symm⟩ ⟨Bc.w0.trans hm.w0,Bc.A.trans hm.A,Bc.Mu.trans hm.Mu,?_,by rw[zH];exact hm.len,λt ht=> ?_,?_⟩ (by rw[hρ];exact hk)
   ·rw[hρ,o0,AP,hτ,Gl];split<;>rfl
   ·have hmul:base+BV*(i+1)=base+BV*i+BV:=by rw[Nat.mul_add];omega
    rw[hmul];rcases Bc.U t ht with h|h
    ·have:=hm.U t h;omega
    ·exact h.2
   ·rw[zx8,zyi,hm.len];exact hr
 unfold aR at hd;obtain⟨hc,hd⟩:=oO hd;cases Ax:e.call with
 |none=>
  simp only[Ax]at hd;cases C5:e.ca with
  |none=>simp only[C5]at hd;refine Gq [] (by have:=hm.rel;simpa[Cx.ext]using this) (by simp[Ax,C5]) (by simpa using hd) hc (λcl h=>by rw[Ax]at h;cases h) (λx h=>by rw[C5]at h;cases h)
  |some x=>simp only[C5]at hd;have Gp:=Ud (by simp[C5]);refine Gq [.bool (KZ a o)] (hm.ext Gp _) (by simp[C5]) (hd _ λhg hb=> ?_) hc (λcl h=>by rw[Ax]at h;cases h) (λx h=>rfl);exact Ej c n _ _ _ a _ _ o gs e _ x ⟨hm.rel,hg,λ_ _=>rfl,λt e h=>zx5 h,λt h1 h2=>Ba t h1 (Nat.lt_of_lt_of_le h2 (Nat.add_le_add_left (by decide) _))⟩ he C5 hb
 |some cl=>
  simp only[Ax]at hd;cases C5:e.ca with
  |some x=>rw[C5]at rX;simp[Ax]at rX
  |none=>simp only[C5]at hd;obtain⟨r,h1,h2⟩:=hd;have Gp:=Ud (by simp[Ax]);refine Gq [r] (hm.ext Gp _) (by simp[Ax]) h2 hc (λcl' h=>by rw[Ax]at h;cases h;exact⟨r,rfl,h1⟩) (λx h=>by rw[C5]at h;cases h)
theorem zAA{σ:St}{x:E}{b:Bool}{d:Nat}:BS (assume x b d σ)=CQ σ.sl.length (λi=>assumeS x b (BS σ i)) (some d) (.e (.bool b)):=by
 funext i;simp only[assume,BS,CQ,Ad,List.getElem?_set,List.length_map,List.getElem?_map];by_cases h:d=i
 ·subst h;by_cases h2:d<σ.sl.length
  ·simp[h2]
  ·simp[h2,List.getElem?_eq_none (Nat.le_of_not_lt h2),assumeS]
 ·simp only[h,false_and,if_false];cases hh:σ.sl[i]?<;>simp[assumeS]
theorem zAk{σ:St}{x:E}{b:Bool}{d:Nat}:AL (assume x b d σ).hp=λt=>(AL σ.hp t).map (assumeE x b):=by funext t;exact zBv _ _ _
theorem Jt.assume{F:Fix}{c:Cx}{σ:St}{a:Act}{n m:Nat}(h:Jt F c σ a n m){x:E}{b:Bool}(hx:x.den c.ρ= .bool b){d:Nat}(hd:BS σ d= .e x):Jt F c (Go.Proofs.YtalagilebkaegaaGreat.assume x b d σ) a n m:=by
 refine⟨h.w0,h.A,h.Mu,h.nv,?_,h.U,?_⟩
 ·simp only[Go.Proofs.YtalagilebkaegaaGreat.assume,List.length_set,List.length_map];exact h.len
 ·rw[zAA,zAk];have hr:=h.rel.ff hx;refine{hr with cz:=λi=> ?_};unfold CQ;split
  ·rename_i hi;obtain⟨hi,_⟩:=hi;cases hi;have:=h.rel.cz d;rw[hd]at this;generalize a.tmps.getD d Go.undef=v at this;cases this with
   |e h1 h2 _=>exact .e (f:=[]) (by rw[hx]at h1;rw[IM h1 rfl];exact .bool .nil) (by simp) .nil
  ·exact hr.cz i
theorem zAy(AU:OX P sg Rt)(Ej:UB P sg){F:Fix}{base:Nat}{R:AV->Prop}{L:LK}{js:List JK}{Q:Exit->Act->World->Prop}{n:Nat}{next:List Log->St->Option Tr}{i:Nat}{o:Oper}{lg:List Log}{rest:List Nat}(hi:ops[i]?=some o)
  (CI:∀(lg:List Log) (σ:St) (t:Tr),next lg σ=some t-> ∀(c:Cx) (a:Act),Jt F c σ a n (base+BV*(i+1))->t.den Rt R L js c.ρ->(∀(c':Cx) (a':Act) (σ':St),c.ρ<+:c'.ρ->L js .normal σ' c'.ρ->G5 F c'.ρ σ' a' c'.w->Q .normal a' c'.w)->wpOps P ops Q rest a c.w):
  ∀(m:Nat) (σ:St) (t:Tr),UD P sg ops false base next i o lg m σ=some t->
  ∀(c:Cx) (a:Act),Jt F c σ a n (base+BV*i)->t.den Rt R L js c.ρ->(∀(c':Cx) (a':Act) (σ':St),c.ρ<+:c'.ρ->L js .normal σ' c'.ρ->G5 F c'.ρ σ' a' c'.w->Q .normal a' c'.w)->wpOps P ops Q (i::rest) a c.w:=by
 have OF:base+BV*i<=base+BV*(i+1):=by rw[Nat.mul_add];omega
 have try_:∀(fail:Unit->Option Tr) (σ:St) (t:Tr),UI P sg ops false base next i o lg fail σ=some t-> ∀(c:Cx) (a:Act),Jt F c σ a n (base+BV*i)->t.den Rt R L js c.ρ->(∀(c':Cx) (a':Act) (σ':St),c.ρ<+:c'.ρ->L js .normal σ' c'.ρ->G5 F c'.ρ σ' a' c'.w->Q .normal a' c'.w)->
   (fail ()=some t->wpOps P ops Q (i::rest) a c.w)->wpOps P ops Q (i::rest) a c.w:=by
  intro fail σ t ht c a hm hd hq TL;unfold UI at ht;cases Hf:Pz σ ops o with
  |none=>rw[Hf]at ht;cases ht
  |some r=>
   have EM:=nQ (c:=c) (a:=a) Hf (λj want d _ _=>hm.rel.cz d);rw[Hf]at ht;cases r with
   |none=>simp only at ht;rw[wpOps_cons];unfold wpOp;simp only[hi];rw[if_neg (by simp[show Region.wanted o (yielded ops a.tmps)=false from EM])];refine CI lg _ t ht c _ ⟨hm.w0,hm.A,hm.Mu,by rw[mZ];exact hm.nv,by rw[mE];exact hm.len,λt ht=>Nat.lt_of_lt_of_le (hm.U t ht) OF,?_⟩ hd hq;rw[mV,nF,hm.len];exact hm.rel.put qA o.dst
   |some gs=>
    simp only at ht;split at ht
    ·rename_i e he;split at ht
     ·cases ht
     ·rename_i AA;split at ht
      ·cases ht
      ·rename_i k hk;simp only[Ad]at ht;subst ht;simp only[Bool.false_and,Bool.false_or,Bool.not_false,Bool.true_and,Bool.or_eq_true,Bg,Ab,not_or,Bool.not_eq_false]at AA;rw[wpOps_cons];refine zGo AU Ej hi hm EM he AA.1 (λhh=> ?_) hd λc' a' hp CX Cq=>CI _ _ k hk c' a' CX Cq λc'' a'' σ' hp'=>hq c'' a'' σ' (hp.trans hp');have:=AA.2;simp only[Bool.or_eq_true]at hh;simpa[hh]using this
    ·exact TL ht
 intro m
 induction m with
 |zero=>exact λσ t ht c a hm hd hq=>try_ _ σ t ht c a hm hd hq λh=>by cases h
 |succ m ih=>
  intro σ t ht c a hm hd hq;refine try_ _ σ t ht c a hm hd hq λh=> ?_;split at h
  ·rename_i d _ _;split at h
   ·rename_i x Qa;split at h
    ·rename_i k1 k0 GM Qc;simp only[Ad]at h;subst h;obtain⟨tt,h1,h2,h3⟩:=hd;cases tt with
     |true=>exact ih _ k1 GM c a (hm.assume h1 Qa) (h2 rfl) hq
     |false=>exact ih _ k0 Qc c a (hm.assume h1 Qa) (h3 rfl) hq
    ·cases h
   ·cases h
  ·cases h
theorem tD(AU:OX P sg Rt)(Ej:UB P sg){F:Fix}{base:Nat}{R:AV->Prop}{L:LK}{js:List JK}{Q:Exit->Act->World->Prop}{n:Nat}:∀(len i:Nat) (lg:List Log) (σ:St) (t:Tr),i+len=ops.size->Ml P sg ops false base (List.range' i len) lg σ=some t->
  ∀(c:Cx) (a:Act),Jt F c σ a n (base+BV*i)->t.den Rt R L js c.ρ->(∀(c':Cx) (a':Act) (σ':St),c.ρ<+:c'.ρ->L js .normal σ' c'.ρ->G5 F c'.ρ σ' a' c'.w->Q .normal a' c'.w)->wpOps P ops Q (List.range' i len) a c.w
 |0,i,lg,σ,t,hl,ht,c,a,hm,hd,hq=>by
  simp only[List.range'_zero,Ml,Bool.false_and,AS,if_false,Ad]at ht ⊢;subst ht;refine hq c a _ (List.prefix_refl _) hd ⟨c,rfl,rfl,hm.w0,hm.A,hm.Mu,hm.nv,λt ht=> ?_,?_⟩
  ·have:=hm.U t ht;have h9:i=ops.size:=by omega
   subst h9;exact this
  ·have:=hm.rel;rw[<-hm.len]at this;exact this
 |len+1,i,lg,σ,t,hl,ht,c,a,hm,hd,hq=>by
  rw[List.range'_succ]at ht ⊢;unfold Ml at ht;obtain⟨o,hi⟩:∃o,ops[i]?=some o:=⟨ops[i]'(by omega),by simp[show i<ops.size by omega]⟩
  rw[hi]at ht;simp only at ht;exact zAy AU Ej hi (λlg σ t ht c a=>tD AU Ej (n:=n) len (i+1) lg σ t (by omega) ht c a) 4 σ t ht c a hm hd hq
end
def gB(l:List Oper)(bs:List Nat):Prop:=bs.length=l.length/\ ∀(j:Nat) (o:Oper),l[j]?=some o-> ∀i,((bs[j]?).getD 0).testBit i=true-> ∃e∈o.after.toList,Region.binds .any e=true/\(i=e.on\/(e.on<j/\((bs[e.on]?).getD 0).testBit i=true))
theorem xA(acc:List Nat)(i:Nat):∀(es:List Edge) (s:Nat),(es.foldl (λs e=>if Region.binds .any e then s|||2^e.on|||(acc[e.on]?).getD 0 else s) s).testBit i=true->
  s.testBit i=true\/ ∃e∈es,Region.binds .any e=true/\(i=e.on\/((acc[e.on]?).getD 0).testBit i=true)
 | [],s,h=> .inl h
 |e::es,s,h=>by
  simp only[List.foldl_cons]at h;rcases xA acc i es _ h with h|⟨e',h1,h2⟩
  ·split at h
   ·rename_i hb;simp only[Nat.testBit_or,Nat.testBit_two_pow,Bool.or_eq_true,AR]at h;rcases h with(h|h)|h
    ·exact .inl h
    ·exact .inr ⟨e,by simp,hb, .inl h.symm⟩
    ·exact .inr ⟨e,by simp,hb, .inr h⟩
   ·exact .inl h
  ·exact .inr ⟨e',by simp[h1],h2⟩
theorem zwi:∀(os pre:List Oper) (acc:List Nat),gB pre acc->gB (pre++os) (KK os acc)
 | [],pre,acc,h=>by simpa[KK]using h
 |o::os,pre,acc,h=>by
  obtain⟨hl,hb⟩:=h;have:=zwi os (pre++ [o]) (acc++ [pK acc o]) ⟨by simp[hl],λj o' ho i hi=> ?_⟩
  ·simpa[KK]using this
  ·have AH:∀k,k<acc.length->((acc++ [pK acc o])[k]?).getD 0=(acc[k]?).getD 0:=λk hk=>by rw[List.getElem?_append_left hk]
   by_cases hj:j<pre.length
   ·rw[List.getElem?_append_left hj]at ho;rw[AH j (by omega)]at hi;obtain⟨e,h1,h2,h3⟩:=hb j o' ho i hi;exact⟨e,h1,h2,h3.imp id λh=>⟨h.1,by rw[AH _ (by omega)];exact h.2⟩⟩
   ·rw[List.getElem?_append_right (by omega)]at ho;have hj0:j-pre.length=0:=by
     cases hh:j-pre.length with
     |zero=>rfl
     |succ k=>rw[hh]at ho;simp at ho
    rw[hj0]at ho;simp at ho;subst ho;have Ox:j=acc.length:=by omega
    rw[Ox,List.getElem?_append_right (AJ _)]at hi;simp only[Nat.sub_self,List.getElem?_cons_zero,Dg]at hi;rcases xA acc i _ 0 hi with h|⟨e,h1,h2,h3⟩
    ·simp at h
    ·refine⟨e,h1,h2,h3.imp id λh=> ?_⟩;have he:e.on<acc.length:=by
      rcases Nat.lt_or_ge e.on acc.length with hh|hh
      ·exact hh
      ·rw[List.getElem?_eq_none hh]at h;simp at h
     exact⟨by omega,by rw[AH _ he];exact h⟩
def WH(ops:Array Oper)(S:Nat->Bool):Prop:= ∀k o,S k=true->ops[k]?=some o-> ∀e∈o.after.toList,Region.binds .any e=true->S e.on=true
theorem uM(ops:Array Oper):gB ops.toList (KK ops.toList []):=by have:=zwi ops.toList [] [] ⟨rfl,by simp⟩;simpa using this
theorem zA{ops:Array Oper}{S:Nat->Bool}(hS:WH ops S):∀(k i:Nat),S k=true->k<ops.size->(((KK ops.toList [])[k]?).getD 0).testBit i=true->S i=true:=by
 intro k
 induction k using Nat.strongRecOn with
 |_ k ih=>
  intro i hk AH hb;have ho:ops.toList[k]?=some ops[k]:=by simp[AH]
  obtain⟨e,h1,h2,h3⟩:=(uM ops).2 k _ ho i hb;have T7:=hS k ops[k] hk (by simp[AH]) e h1 h2;rcases h3 with rfl|⟨h3,h4⟩
  ·exact T7
  ·exact ih e.on h3 i T7 (by omega) h4
theorem zBM{ops:Array Oper}{S:Nat->Bool}(hS:WH ops S){j i:Nat}{o:Oper}(ho:ops[j]?=some o)(hr:∀e∈o.after.toList,Region.binds .any e=true->S e.on=true)(hb:(((KK ops.toList [])[j]?).getD 0).testBit i=true):S i=true:=by
 have AH:j<ops.size:=(Array.getElem?_eq_some_iff.1 ho).1;obtain⟨e,h1,h2,h3⟩:=(uM ops).2 j o (by simpa using ho) i hb;have T7:=hr e h1 h2;rcases h3 with rfl|⟨h3,h4⟩
 ·exact T7
 ·exact zA hS e.on i T7 (by omega) h4
theorem zAH{ops:Array Oper}{S:Nat->Bool}(hS:WH ops S){j i:Nat}{o:Oper}(ho:ops[j]?=some o)(hi:i<ops.size)(hj:S j=false)(hr:∀e∈o.after.toList,Region.binds .any e=true->S e.on=true)(BF:i≠j)(Lv:J3 (KK ops.toList []) i j=true):S i=decide (i<j):=by
 unfold J3 at Lv;split at Lv
 ·rename_i h;rw[zBM hS ho hr Lv];simp[h]
 ·rename_i h;cases hs:S i with
  |false=>simp[h]
  |true=>have:=zA hS i j hs hi Lv;rw[hj]at this;cases this
structure Rec where
 i:Nat
 o:Oper
 σ:St
 r:Option (Gd × Bb)
def Rec.next(x:Rec):St:=match x.r with|none=>H7 x.σ x.o.dst HG|some (gs,e)=>L1 x.σ gs x.o e
def Rec.val(x:Rec):SV:=match x.r with|none=>HG|some (gs,e)=>mkGd gs e.val
def Rec.bk(x:Rec):List (Nat × Af):=match x.r with|none=> []|some (_,e)=>e.bk
def uU(P:Program)(sg:B1)(Rt:Nat->List AV->AV->Prop)(ops:Array Oper)(base:Nat)(ρ:List AV)(x:Rec):Prop:=
 ops[x.i]?=some x.o/\match x.r with
  |none=>Pz x.σ ops x.o=some none
  |some (gs,e)=>Pz x.σ ops x.o=some (some gs)/\Md P sg (BS x.σ) (Qy x.σ.hp (Wj x.σ gs x.o)) x.σ.nv (base+BV*x.i) gs x.o=some e/\e.ca=none/\Ta x.σ.nv (base+BV*x.i) x.σ.hp gs e=true/\
   (Bu ρ gs-> ∀q∈e.cc,q.den ρ)/\ ∀cl,e.call=some cl-> ∃r,ρ[x.σ.nv]?=some r/\(Bu ρ gs->IN Rt cl.fn ((EL.of cl.args).den ρ) ρ r)
def Ec:Nat->St->List Rec->St->Prop
 |_,σ,[],σ'=>σ=σ'
 |i,σ,x::xs,σ'=>x.i=i/\x.σ=σ/\Ec (i+1) x.next xs σ'
def Rec.log(x:Rec):Option Log:=x.r.map λ(gs,e)=>⟨x.i,Wj x.σ gs x.o,e.bk.map (·.1)⟩
theorem nY{P:Program}{sg:B1}{Rt:Nat->List AV->AV->Prop}{ops:Array Oper}{base:Nat}{R:AV->Prop}{L:LK}{js:List JK}:∀(len i:Nat) (lg:List Log) (σ:St) (t:Tr) (ρ:List AV),i+len=ops.size->
  Ml P sg ops true base (List.range' i len) lg σ=some t->t.den Rt R L js ρ->ρ.length=σ.nv->
  ∃(τ:List AV) (xs:List Rec) (σ':St) (lg':List Log),Ec i σ xs σ'/\xs.length=len/\(∀x∈xs,uU P sg Rt ops base (ρ++τ) x)/\(ρ++τ).length=σ'.nv/\L js .normal {σ' with nx:=base+BV*ops.size} (ρ++τ)/\bB ops lg'=true/\(∀y∈lg,y∈lg')/\ ∀x∈xs,∀y,x.log=some y->y∈lg'
 |0,i,lg,σ,t,ρ,hl,ht,hd,hn=>by
  simp only[List.range'_zero,Ml,Bool.true_and]at ht;split at ht
  ·cases ht
  ·rename_i W2;simp only[Ad]at ht;subst ht;exact⟨[],[],σ,lg,rfl,rfl,by simp,by simpa using hn,by simpa[Tr.den]using hd,by simpa using W2,λy hy=>hy,by simp⟩
 |len+1,i,lg,σ,t,ρ,hl,ht,hd,hn=>by
  rw[List.range'_succ]at ht;unfold Ml at ht;obtain⟨o,hi⟩:∃o,ops[i]?=some o:=⟨ops[i]'(by omega),by simp[show i<ops.size by omega]⟩
  rw[hi]at ht;simp only at ht;unfold UD UI at ht;cases Hf:Pz σ ops o with
  |none=>rw[Hf]at ht;cases ht
  |some r=>
   rw[Hf]at ht;cases r with
   |none=>
    simp only at ht;obtain⟨τ,xs,σ',lg',h1,h2,h3,h4,h5,h6,h7,h8⟩:=nY len (i+1) lg _ t ρ (by omega) ht hd (by rw[mZ];exact hn);refine⟨τ,⟨i,o,σ,none⟩::xs,σ',lg',⟨rfl,rfl,h1⟩,by simp[h2],λx hx=> ?_,h4,h5,h6,h7,λx hx y hy=> ?_⟩
    ·rcases Ae.1 hx with rfl|hx
     ·exact⟨hi,Hf⟩
     ·exact h3 x hx
    ·rcases Ae.1 hx with rfl|hx
     ·simp[Rec.log]at hy
     ·exact h8 x hx y hy
   |some gs=>
    simp only at ht;split at ht
    ·rename_i e he;split at ht
     ·cases ht
     ·rename_i AA;simp only[Bool.true_and,Bool.not_true,Bool.false_and,Bool.or_false,Bool.or_eq_true,Bg,not_or,Bool.not_eq_false]at AA;have C5:e.ca=none:=by cases hh:e.ca with|none=>rfl|some x=>rw[hh]at AA;simp at AA
      split at ht
      ·cases ht
      ·rename_i k hk;simp only[Ad]at ht;subst ht;have E8:=AA.2;simp only[Ta,Ab,Bl]at E8;obtain⟨⟨⟨⟨BM,A8⟩,Hl⟩,_⟩,_⟩:=E8;rw[<-hn]at BM A8 Hl;unfold aR at hd;obtain⟨hc,hd⟩:=oO hd;simp only[C5]at hd;obtain⟨τ0,hτ0,Bm,Cq⟩:∃τ0:List AV,(ρ++τ0).length=(L1 σ gs o e).nv/\(∀cl,e.call=some cl-> ∃r,τ0=[r]/\(Bu ρ gs->IN Rt cl.fn ((EL.of cl.args).den ρ) ρ r))/\k.den Rt R L js (ρ++τ0):=by
        cases Ax:e.call with
        |none=>rw[Ax]at hd;exact⟨[],by rw[o0];simp[Ax,C5,hn],by simp,by simpa using hd⟩
        |some cl=>rw[Ax]at hd;obtain⟨r,h1,h2⟩:=hd;exact⟨[r],by rw[o0];simp[Ax,hn],λcl' h=>by cases h;exact⟨r,rfl,h1⟩,h2⟩
       obtain⟨τ,xs,σ',lg',h1,h2,h3,h4,h5,h6,h7,h8⟩:=nY len (i+1) _ _ k (ρ++τ0) (by omega) hk Cq hτ0;have cC:ρ++τ0++τ=ρ++(τ0++τ):=List.append_assoc ..;rw[cC]at h3 h4 h5;refine⟨τ0++τ,⟨i,o,σ,some (gs,e)⟩::xs,σ',lg',⟨rfl,rfl,h1⟩,by simp[h2],λx hx=> ?_,h4,h5,h6,λy hy=>h7 y (by simp[hy]),λx hx y hy=> ?_⟩
       ·rcases Ae.1 hx with rfl|hx
        ·refine⟨hi,Hf,he,C5,AA.2,λhg q hq=>(Cn.iz (A8 q hq)).2 (hc ((LY BM).1 hg) q hq),λcl Ax=> ?_⟩;obtain⟨r,hr,h2⟩:=Bm cl Ax;rw[Ax]at Hl;simp only[Ab]at Hl;subst hr;exact⟨r,by simp only;rw[<-hn];simp,λhg=>(zD Hl.1 (EL.ji (by simpa using Hl.2))).2 (h2 ((LY BM).1 hg))⟩
        ·exact h3 x hx
       ·rcases Ae.1 hx with rfl|hx
        ·simp only[Rec.log,Option.map_some,Ad]at hy;subst hy;exact h7 _ (by simp)
        ·exact h8 x hx y hy
    ·cases ht
def Gs(n:Nat)(sl0:Nat->SV)(xs:List Rec)(S:Nat->Bool):Nat->SV:=xs.foldl (λsl x=>if S x.i then CQ n sl x.o.dst x.val else sl) sl0
def Hj(hp0:Nat->Option Af)(xs:List Rec)(S:Nat->Bool):Nat->Option Af:=xs.foldl (λhp x=>if S x.i then Bk hp x.bk else hp) hp0
section
variable {n:Nat} {S S':Nat->Bool} {d t:Nat}
theorem V0:∀(xs:List Rec) {sl sl':Nat->SV},sl d=sl' d->(∀x∈xs,x.o.dst=some d->S x.i=S' x.i)->Gs n sl xs S d=Gs n sl' xs S' d
 | [],_,_,h,_=>h
 |x::xs,sl,sl',h,hs=>by
  refine V0 xs (sl:=if S x.i then CQ n sl x.o.dst x.val else sl) (sl':=if S' x.i then CQ n sl' x.o.dst x.val else sl') ?_ λy hy=>hs y (by simp[hy]);by_cases hd:x.o.dst=some d
  ·rw[<-hs x (by simp) hd];split
   ·simp only[CQ,hd,true_and];rw[h]
   ·exact h
  ·have hu:∀sl:Nat->SV,CQ n sl x.o.dst x.val d=sl d:=λsl=>by simp[CQ,hd]
   have h1:(if S x.i then CQ n sl x.o.dst x.val else sl) d=sl d:=by split;exact hu sl;rfl
   have h2:(if S' x.i then CQ n sl' x.o.dst x.val else sl') d=sl' d:=by split;exact hu sl';rfl
   rw[h1,h2,h]
theorem oG(xs:List Rec){sl:Nat->SV}(hs:∀x∈xs,x.o.dst=some d->S x.i=false):Gs n sl xs S d=sl d:=by
 have h1:=V0 (n:=n) (S:=S) (S':=λ_=>false) xs (sl:=sl) (sl':=sl) (d:=d) rfl hs;rw[h1];clear h1 hs
 induction xs generalizing sl with
 |nil=>rfl
 |cons x xs ih=>exact ih
theorem fU(hd:n<=d):∀(xs:List Rec) {sl:Nat->SV},Gs n sl xs S d=sl d
 | [],_=>rfl
 |x::xs,sl=>by
  have:=fU hd xs (sl:=if S x.i then CQ n sl x.o.dst x.val else sl);refine Eq.trans this ?_;split
  ·simp only[CQ];rw[if_neg (by omega)]
  ·rfl
theorem tW{y:Rec}(hd:d<n)(hy:y.o.dst=some d)(hS:S y.i=true):∀(xs:List Rec) {sl:Nat->SV},y∈xs->(∀x∈xs,x≠y->x.o.dst≠some d)->Gs n sl xs S d=y.val
 | [],_,h,_=>by simp at h
 |x::xs,sl,h,hu=>by
  by_cases hm:y∈xs
  ·exact tW hd hy hS xs (sl:=if S x.i then CQ n sl x.o.dst x.val else sl) hm λz hz=>hu z (by simp[hz])
  ·have hx:y=x:=by rcases Ae.1 h with h|h;exact h;exact absurd h hm
   subst hx;have:=oG (n:=n) (S:=S) (d:=d) xs (sl:=CQ n sl y.o.dst y.val) (λz hz Qk=>absurd Qk (hu z (by simp[hz]) (λhh=>hm (hh▸hz))));show Gs n (if S y.i then CQ n sl y.o.dst y.val else sl) xs S d=_;rw[if_pos hS,this];simp[CQ,hy,hd]
theorem yN{hp hp':Nat->Option Af}{l:List (Nat × Af)}(h:hp t=hp' t):Bk hp l t=Bk hp' l t:=by
 induction l generalizing hp hp' with
 |nil=>exact h
 |cons p l ih=>
  refine ih ?_;show(if t=p.1 then some p.2 else hp t)=(if t=p.1 then some p.2 else hp' t)
  rw[h]
theorem zyT{hp hp':Nat->Option Af}{l:List (Nat × Af)}(h:t∈l.map (·.1)):Bk hp l t=Bk hp' l t:=by
 induction l generalizing hp hp' with
 |nil=>simp at h
 |cons p l ih=>
  by_cases hm:t∈l.map (·.1)
  ·exact ih hm
  ·have ht:t=p.1:=by simp only[List.map_cons,Ae]at h;exact h.resolve_right hm
   refine yN (l:=l) ?_;show(if t=p.1 then some p.2 else hp t)=(if t=p.1 then some p.2 else hp' t)
   rw[if_pos ht,if_pos ht]
theorem oI{hp:Nat->Option Af}{l:List (Nat × Af)}(h:t∉l.map (·.1)):Bk hp l t=hp t:=
 L2 λe he=>h (List.mem_map.2 ⟨_,he,rfl⟩)
theorem VS:∀(xs:List Rec) {hp hp':Nat->Option Af},hp t=hp' t->(∀x∈xs,t∈x.bk.map (·.1)->S x.i=S' x.i)->Hj hp xs S t=Hj hp' xs S' t
 | [],_,_,h,_=>h
 |x::xs,hp,hp',h,hs=>by
  refine VS xs (hp:=if S x.i then Bk hp x.bk else hp) (hp':=if S' x.i then Bk hp' x.bk else hp') ?_ λy hy=>hs y (by simp[hy]);by_cases hd:t∈x.bk.map (·.1)
  ·rw[<-hs x (by simp) hd];split
   ·exact yN h
   ·exact h
  ·have h1:(if S x.i then Bk hp x.bk else hp) t=hp t:=by split;exact oI hd;rfl
   have h2:(if S' x.i then Bk hp' x.bk else hp') t=hp' t:=by split;exact oI hd;rfl
   rw[h1,h2,h]
theorem oS(xs:List Rec){hp:Nat->Option Af}(hs:∀x∈xs,t∈x.bk.map (·.1)->S x.i=false):Hj hp xs S t=hp t:=by
 have h1:=VS (S:=S) (S':=λ_=>false) xs (hp:=hp) (hp':=hp) (t:=t) rfl hs;rw[h1];clear h1 hs
 induction xs generalizing hp with
 |nil=>rfl
 |cons x xs ih=>exact ih
end
section
variable {n:Nat} {S:Nat->Bool} {d t:Nat}
theorem Rec.jv(x:Rec):BS x.next=CQ x.σ.sl.length (BS x.σ) x.o.dst x.val:=by
 obtain⟨i,o,σ,r⟩:=x;cases r with
 |none=>exact mV
 |some ge=>exact zx8
theorem Rec.jo(x:Rec):AL x.next.hp=Bk (AL x.σ.hp) x.bk:=by
 obtain⟨i,o,σ,r⟩:=x;cases r with
 |none=>simp only[Rec.next,Rec.bk,nF];rfl
 |some ge=>exact zyi
theorem Rec.jd(x:Rec):x.next.sl.length=x.σ.sl.length:=by
 obtain⟨i,o,σ,r⟩:=x;cases r with
 |none=>exact mE
 |some ge=>exact zH
theorem Ec.range:∀{xs:List Rec} {i:Nat} {σ σ':St},Ec i σ xs σ'-> ∀x∈xs,i<=x.i/\x.i<i+xs.length
 | [],_,_,_,_,x,hx=>by simp at hx
 |y::xs,i,σ,σ',h,x,hx=>by
  rcases Ae.1 hx with rfl|hx
  ·have:=h.1;simp only[A3];omega
  ·have:=Ec.range h.2.2 x hx;simp only[A3];omega
theorem Ec.ex:∀{xs:List Rec} {i:Nat} {σ σ':St},Ec i σ xs σ'-> ∀j,i<=j->j<i+xs.length-> ∃x∈xs,x.i=j
 | [],i,_,_,_,j,h1,h2=>by simp at h2;omega
 |y::xs,i,σ,σ',h,j,h1,h2=>by
  by_cases hj:j=i
  ·exact⟨y,by simp,by rw[hj];exact h.1⟩
  ·simp only[A3]at h2;obtain⟨x,hx,he⟩:=Ec.ex h.2.2 j (by omega) (by omega);exact⟨x,by simp[hx],he⟩
theorem Ec.inj:∀{xs:List Rec} {i:Nat} {σ σ':St},Ec i σ xs σ'-> ∀x∈xs,∀y∈xs,x.i=y.i->x=y
 | [],_,_,_,_,x,hx,_,_,_=>by simp at hx
 |z::xs,i,σ,σ',h,x,hx,y,hy,he=>by
  have hz:=h.1;rcases Ae.1 hx with h1|h1<;>rcases Ae.1 hy with h2|h2
  ·rw[h1,h2]
  ·subst h1;have:=(Ec.range h.2.2 y h2).1;omega
  ·subst h2;have:=(Ec.range h.2.2 x h1).1;omega
  ·exact Ec.inj h.2.2 x h1 y h2 he
theorem Ec.sl:∀{xs:List Rec} {i:Nat} {σ σ':St},Ec i σ xs σ'->σ.sl.length=n->(∀x∈xs,x.σ.sl.length=n/\ ∀d,BS x.σ d=Gs n (BS σ) xs (λk=>decide (k<x.i)) d)/\σ'.sl.length=n/\BS σ'=Gs n (BS σ) xs λ_=>true
 | [],i,σ,σ',h,hn=>by have h:σ=σ':=h;subst h;exact⟨by simp,hn,rfl⟩
 |y::xs,i,σ,σ',h,hn=>by
  obtain⟨h1,h2,h3⟩:=h;subst h2;obtain⟨q1,q2,q3⟩:=Ec.sl h3 (by rw[y.jd];exact hn);rw[y.jv,hn]at q1 q3;refine⟨λx hx=> ?_,q2,q3⟩;rcases Ae.1 hx with rfl|hx
  ·refine⟨hn,λd=>(oG _ λz hz _=> ?_).symm⟩;rcases Ae.1 hz with rfl|hz
   ·simp
   ·have:=(Ec.range h3 z hz).1;simp only[decide_eq_false_iff_not];omega
  ·refine⟨(q1 x hx).1,λd=> ?_⟩;rw[(q1 x hx).2 d];have:=(Ec.range h3 x hx).1;show _=Gs n (if decide (y.i<x.i)then CQ n (BS y.σ) y.o.dst y.val else BS y.σ) xs (λk=>decide (k<x.i)) d;rw[if_pos (by simp only[AR];omega)]
theorem Ec.hp:∀{xs:List Rec} {i:Nat} {σ σ':St},Ec i σ xs σ'->(∀x∈xs,∀t,AL x.σ.hp t=Hj (AL σ.hp) xs (λk=>decide (k<x.i)) t)/\AL σ'.hp=Hj (AL σ.hp) xs λ_=>true
 | [],i,σ,σ',h=>by have h:σ=σ':=h;subst h;exact⟨by simp,rfl⟩
 |y::xs,i,σ,σ',h=>by
  obtain⟨h1,h2,h3⟩:=h;subst h2;obtain⟨q1,q3⟩:=Ec.hp h3;rw[y.jo]at q1 q3;refine⟨λx hx=> ?_,q3⟩;rcases Ae.1 hx with rfl|hx
  ·refine λd=>(oS _ λz hz _=> ?_).symm;rcases Ae.1 hz with rfl|hz
   ·simp
   ·have:=(Ec.range h3 z hz).1;simp only[decide_eq_false_iff_not];omega
  ·intro t;rw[q1 x hx t];have:=(Ec.range h3 x hx).1;show _=Hj (if decide (y.i<x.i)then Bk (AL y.σ.hp) y.bk else AL y.σ.hp) xs (λk=>decide (k<x.i)) t;rw[if_pos (by simp only[AR];omega)]
theorem uD{y:Rec}{eF:Nat->Option Af}(hS:S y.i=true)(ht:t∈y.bk.map (·.1)):∀{xs:List Rec} {i:Nat} {σ σ':St} {hp0:Nat->Option Af},Ec i σ xs σ'->y∈xs->(∀x∈xs,x.i≠y.i->t∈x.bk.map (·.1)->S x.i=decide (x.i<y.i))->Hj hp0 xs S t=Bk eF y.bk t
 | [],_,_,_,_,_,h,_=>by simp at h
 |x::xs,i,σ,σ',hp0,hc,hm,hs=>by
  by_cases hx:y=x
  ·subst hx;have:=oS (S:=S) (t:=t) xs (hp:=Bk hp0 y.bk) (λz hz Qk=>by
    have AH:=(Ec.range hc.2.2 z hz).1;have h1:=hc.1;rw[hs z (by simp[hz]) (by omega) Qk];simp only[decide_eq_false_iff_not];omega)
   show Hj (if S y.i then Bk hp0 y.bk else hp0) xs S t=_;rw[if_pos hS,this];exact zyT ht
  ·have CX:y∈xs:=by rcases Ae.1 hm with h|h;exact absurd h hx;exact h
   exact uD hS ht (hp0:=if S x.i then Bk hp0 x.bk else hp0) hc.2.2 CX λz hz=>hs z (by simp[hz])
end
theorem zwj{α:Type}{p p':α->Bool}:∀(l:List α),(∀k∈l,p' k=true->p k=true)->(∃j∈l,p j=true/\p' j=false)->(l.filter p').length<(l.filter p).length
 | [],_,h=>by obtain⟨j,hj,_⟩:=h;simp at hj
 |x::l,hs,h=>by
  have hle:(l.filter p').length<=(l.filter p).length:=by
   have:∀(l:List α),(∀k∈l,p' k=true->p k=true)->(l.filter p').length<=(l.filter p).length:=by
    intro l
    induction l with
    |nil=>intro _;simp
    |cons y l ih=>
     intro h;have:=ih λk hk=>h k (by simp[hk]);have hy:=h y (by simp);cases h1:p' y with
     |false=>
      cases h2:p y with
      |false=>simpa[h1,h2]using this
      |true=>simp only[List.filter_cons,h1,h2,AS,if_false,if_true,A3];omega
     |true=>simpa[h1,hy h1]using this
   exact this l λk hk=>hs k (by simp[hk])
  obtain⟨j,hj,h1,h2⟩:=h;rcases Ae.1 hj with rfl|hj
  ·simp only[List.filter_cons,h1,h2,AS,if_false,if_true,A3];omega
  ·have:=zwj l (λk hk=>hs k (by simp[hk])) ⟨j,hj,h1,h2⟩;have hx:=hs x (by simp);cases h3:p' x with
   |false=>
    cases h4:p x with
    |false=>simpa[h3,h4]using this
    |true=>simp only[List.filter_cons,h3,h4,AS,if_false,if_true,A3];omega
   |true=>simpa[h3,hx h3]using this
section
variable {ops:Array Oper} {listed:Array Bool}
theorem zA4(hb:∀j o,ops[j]?=some o-> ∀e∈o.after.toList,Region.binds .any e=true->e.on<j)(Bz:listed.size=ops.size)(hr:Region.ready .any ops listed=[]):∀k,k<ops.size->listed.getD k true=true:=by
 intro k
 induction k using Nat.strongRecOn with
 |_ k ih=>
  intro hk;cases hs:listed.getD k true with
  |true=>rfl
  |false=>
   have:k∈Region.ready .any ops listed:=mem_ready.2 ⟨hs,ops[k],by simp[hk],λe he Lh=>by
    have AH:=hb k ops[k] (by simp[hk]) e (by simpa using he) Lh;have:=ih e.on AH (by omega);have h2:e.on<listed.size:=by omega
    simp only[Array.getD_eq_getD_getElem?,Array.getElem?_eq_getElem h2,Dg]at this ⊢;exact this⟩
   rw[hr]at this;cases this
theorem zDG(Bz:listed.size=ops.size){j:Nat}(hj:j<ops.size)(k:Nat):(listed.setIfInBounds j true).getD k true=(decide (k=j)||listed.getD k true):=by
 by_cases h:j=k
 ·subst h;simp[Array.getD_eq_getD_getElem?,show j<listed.size by omega]
 ·rw[getD_set_ne true h];simp[Ne.symm h]
variable {P:Program} {sg:B1} {Rt:Nat->List AV->AV->Prop}
theorem zzH(AU:OX P sg Rt){F:Fix}{σ σ':St}{xs:List Rec}{ρ:List AV}{lg:List Log}{n:Nat}{Q:Exit->Act->World->Prop}(hc:Ec 0 σ xs σ')(hlen:xs.length=ops.size)(AZ:∀x∈xs,uU P sg Rt ops σ.nx ρ x)(W2:bB ops lg=true)(TW:∀x∈xs,∀y,x.log=some y->y∈lg)(hn:σ.sl.length=n)
  (hQ:∀(c:Cx) (a:Act),c.ρ=ρ->c.w0=F.w0->c.A=F.A->c.Mu=F.Mu->(∀t,c.U t->t<σ.nx+BV*ops.size)->Rel c n (BS σ') (AL σ'.hp) a->Q .normal a c.w):
  ∀(fuel:Nat) (listed:Array Bool) (a:Act) (c:Cx),listed.size=ops.size->WH ops (λk=>listed.getD k true)->c.ρ=ρ->c.w0=F.w0->c.A=F.A->c.Mu=F.Mu->
   (∀t,c.U t->t<σ.nx\/ ∃k,k<ops.size/\listed.getD k true=true/\σ.nx+BV*k<=t/\t<σ.nx+BV*k+BV)->Rel c n (Gs n (BS σ) xs λk=>listed.getD k true) (Hj (AL σ.hp) xs λk=>listed.getD k true) a->
   ((List.range ops.size).filter λk=> !listed.getD k true).length<=fuel->wpAny P .any ops Q fuel listed a c.w:=by
 simp only[bB,Ab,Bl,Bool.or_eq_true,AM,Bg,AR]at W2;obtain⟨⟨d1,d2⟩,d3⟩:=W2;have T1:∀j o,ops[j]?=some o->(o,j)∈ops.toList.zipIdx:=λj o h=>List.mk_mem_zipIdx_iff_getElem?.2 (by simpa using h);have hb:∀j o,ops[j]?=some o-> ∀e∈o.after.toList,Region.binds .any e=true->e.on<j:=λj o h e he Lh=>by
  rcases d2 (o,j) (T1 j o h) e he with h|h
  ·rw[Lh]at h;cases h
  ·exact h
 obtain⟨c1,c2,c3⟩:=hc.sl hn;obtain⟨c4,c5⟩:=hc.hp;have Eh:∀(listed:Array Bool) (a:Act) (c:Cx),listed.size=ops.size->c.ρ=ρ->c.w0=F.w0->c.A=F.A->c.Mu=F.Mu->
   (∀t,c.U t->t<σ.nx\/ ∃k,k<ops.size/\listed.getD k true=true/\σ.nx+BV*k<=t/\t<σ.nx+BV*k+BV)->Rel c n (Gs n (BS σ) xs λk=>listed.getD k true) (Hj (AL σ.hp) xs λk=>listed.getD k true) a->
   (∀k,k<ops.size->listed.getD k true=true)->Q .normal a c.w:=by
  intro listed a c Bz h1 h2 h3 h4 h5 h6 BX;refine hQ c a h1 h2 h3 h4 (λt ht=> ?_) ?_
  ·rcases h5 t ht with h|⟨k,hk,_,_,h⟩
   ·simp only[BV]at*;omega
   ·simp only[BV]at*;omega
  ·have e1:(Gs n (BS σ) xs λk=>listed.getD k true)=BS σ':=by
    rw[c3];funext d;exact V0 xs rfl λx hx _=>by have:=(hc.range x hx).2;exact BX x.i (by omega)
   have e2:(Hj (AL σ.hp) xs λk=>listed.getD k true)=AL σ'.hp:=by rw[c5];funext d;exact VS xs rfl λx hx _=>by have:=(hc.range x hx).2;exact BX x.i (by omega)
   rw[e1,e2]at h6;exact h6
 intro fuel
 induction fuel with
 |zero=>
  intro listed a c Bz Ax h1 h2 h3 h4 h5 h6 TD;have BX:∀k,k<ops.size->listed.getD k true=true:=by intro k hk;have:=List.length_eq_zero_iff.1 (Nat.le_zero.1 TD);have:=List.filter_eq_nil_iff.1 this k (by simpa using hk);simpa using this
  refine⟨?_,Eh listed a c Bz h1 h2 h3 h4 h5 h6 BX⟩;refine List.eq_nil_iff_forall_not_mem.2 λj hj=> ?_;obtain⟨q1,o,q2,_⟩:=mem_ready.1 hj;rw[BX j (Array.getElem?_eq_some_iff.1 q2).1]at q1;cases q1
 |succ fuel ih=>
  intro listed a c Bz Ax h1 h2 h3 h4 h5 h6 TD;refine⟨λhr=>Eh listed a c Bz h1 h2 h3 h4 h5 h6 (zA4 hb Bz hr),λj hj=> ?_⟩;obtain⟨q1,o,q2,q3⟩:=mem_ready.1 hj;have dI:j<ops.size:=(Array.getElem?_eq_some_iff.1 q2).1;have My:∀e∈o.after.toList,Region.binds .any e=true->listed.getD e.on true=true:=λe he Lh=>by
   have h9:=q3 e (by simpa using he) Lh;have AH:=hb j o q2 e he Lh;have h8:e.on<listed.size:=by omega
   simp only[Array.getD_eq_getD_getElem?,Array.getElem?_eq_getElem h8,Dg]at h9 ⊢;exact h9
  obtain⟨y,hy,GU⟩:=hc.ex j (by omega) (by omega);have OT:y.o=o:=by have:=(AZ y hy).1;rw[GU,q2]at this;exact(Option.some.inj this).symm
  have Xf:∀x∈xs,x.i<ops.size:=λx hx=>by have:=(hc.range x hx).2;omega
  have sA:∀x∈xs,ops[x.i]?=some x.o:=λx hx=>(AZ x hx).1;have agree:∀x∈xs,x.i≠j->J3 (KK ops.toList []) x.i j=true->listed.getD x.i true=decide (x.i<j):=λx hx BF ho=>zAH (S:=λk=>listed.getD k true) Ax q2 (Xf x hx) q1 My BF ho;have MP:∀x∈xs,x.i=j->listed.getD x.i true=decide (x.i<j):=λx hx he=>by rw[he,q1];simp
  have HR:∀d,d∈bH ops o->BS y.σ d=Gs n (BS σ) xs (λk=>listed.getD k true) d:=by
   intro d hd;rw[(c1 y hy).2 d,GU];refine V0 xs rfl λx hx Up=> ?_;by_cases he:x.i=j
   ·exact(MP x hx he).symm
   ·rcases d3 (o,j) (T1 j o q2) (x.o,x.i) (T1 _ _ (sA x hx))with h|h
    ·exact absurd h he
    ·simp only[Up,Ab,Bool.or_eq_true,Bg]at h;rcases h.2 with h|h
     ·rw[List.contains_iff_mem.2 hd]at h;cases h
     ·exact(agree x hx he h).symm
  have hW:∀x∈xs,∀t,t∈x.bk.map (·.1)-> ∀ly,y.log=some ly->(t∈ly.R\/t∈ly.W)->listed.getD x.i true=decide (x.i<j):=by
   intro x hx t ht ly TX hm;by_cases he:x.i=j
   ·exact MP x hx he
   ·cases fC:x.r with
    |none=>simp[Rec.bk,fC]at ht
    |some ge=>
     obtain⟨gs,e⟩:=ge;have hlx:x.log=some ⟨x.i,Wj x.σ gs x.o,e.bk.map (·.1)⟩:=by simp[Rec.log,fC]
     have dO:ly.i=j:=by unfold Rec.log at TX;obtain⟨ge',_,rfl⟩:=As.1 TX;exact GU
     have h9:=d1 _ (TW x hx _ hlx) _ (TW y hy _ TX);simp only[dO]at h9;rcases h9 with(h|h)|h
     ·exact absurd h he
     ·exfalso;have:fY (e.bk.map (·.1)) (ly.R++ly.W)=true:=by
       simp only[fY,List.any_eq_true];exact⟨t,by simpa[Rec.bk,fC]using ht,List.contains_iff_mem.2 (by simpa using hm)⟩
      rw[this]at h;cases h
     ·exact agree x hx he h
  have CI:∀k,(listed.setIfInBounds j true).getD k true=(decide (k=j)||listed.getD k true):=zDG Bz dI;have eT:Gs n (BS σ) xs (λk=>(listed.setIfInBounds j true).getD k true)=CQ n (Gs n (BS σ) xs λk=>listed.getD k true) o.dst y.val:=by
   funext d;unfold CQ;split
   ·rename_i hd;refine tW hd.2 (by rw[OT];exact hd.1) (by rw[CI,GU];simp) xs hy λx hx BF Up=> ?_;have he:x.i≠j:=λh=>BF (hc.inj x hx y hy (by rw[h,GU]));rcases d3 (o,j) (T1 j o q2) (x.o,x.i) (T1 _ _ (sA x hx))with h|h
    ·exact he h
    ·simp only[Up,Ab,bne_iff_ne,ne_eq]at h;exact h.1 hd.1
   ·rename_i hd;by_cases Oj:d<n
    ·refine V0 xs rfl λx hx Up=> ?_;have he:x.i≠j:=λh=>by
      have:x=y:=hc.inj x hx y hy (by rw[h,GU]);subst this;exact hd ⟨by rw[<-OT];exact Up,Oj⟩
     rw[CI];simp[he]
    ·rw[fU (by omega),fU (by omega)]
  have dB:Hj (AL σ.hp) xs (λk=>(listed.setIfInBounds j true).getD k true)=Bk (Hj (AL σ.hp) xs λk=>listed.getD k true) y.bk:=by
   funext t;by_cases ht:t∈y.bk.map (·.1)
   ·refine uD (by rw[CI,GU];simp) ht hc hy λx hx BF fD=> ?_;rw[GU]at BF ⊢;rw[CI];simp only[BF,decide_false,Bool.false_or];cases J1:y.r with
    |none=>simp[Rec.bk,J1]at ht
    |some ge=>exact hW x hx t fD _ (by simp only[Rec.log,J1,Option.map_some];rfl) (.inr (by simpa[Rec.bk,J1]using ht))
   ·rw[oI ht];refine VS xs rfl λx hx fD=> ?_;have he:x.i≠j:=λh=>by
     have:x=y:=hc.inj x hx y hy (by rw[h,GU]);subst this;exact ht fD
    rw[CI];simp[he]
  have TE:((List.range ops.size).filter λk=> !(listed.setIfInBounds j true).getD k true).length<=fuel:=by have:=zwj (p:=λk=> !listed.getD k true) (p':=λk=> !(listed.setIfInBounds j true).getD k true) (List.range ops.size) (λk _ hk=>by rw[CI]at hk;simp at hk ⊢;exact hk.2) ⟨j,by simpa using dI,by simp[q1],by rw[CI];simp⟩;omega
  have cI:WH ops (λk=>(listed.setIfInBounds j true).getD k true):=by
   intro k ok hk dJ e he Lh;simp only[CI,Bool.or_eq_true,AR]at hk ⊢;rcases hk with rfl|hk
   ·rw[q2]at dJ;cases dJ;exact .inr (My e he Lh)
   ·exact .inr (Ax k ok hk dJ e he Lh)
  have MB:∀(a':Act) (c':Cx),c'.ρ=ρ->c'.w0=F.w0->c'.A=F.A->c'.Mu=F.Mu->(∀t,c'.U t->c.U t\/(σ.nx+BV*j<=t/\t<σ.nx+BV*j+BV))->Rel c' n (CQ n (Gs n (BS σ) xs λk=>listed.getD k true) o.dst y.val) (Bk (Hj (AL σ.hp) xs λk=>listed.getD k true) y.bk) a'->
    wpAny P .any ops Q fuel (listed.setIfInBounds j true) a' c'.w:=by
   intro a' c' g1 g2 g3 g4 g5 g6;refine ih _ a' c' (by simpa using Bz) cI g1 g2 g3 g4 (λt ht=> ?_) (by rw[eT,dB];exact g6) TE;rcases g5 t ht with h|h
   ·rcases h5 t h with h|⟨k,k1,k2,k3,k4⟩
    ·exact .inl h
    ·exact .inr ⟨k,k1,by rw[CI,k2];simp,k3,k4⟩
   ·exact .inr ⟨j,dI,by rw[CI];simp,h.1,h.2⟩
  have rF:∀j' want d,o.guard=some (j',want)->(ops[j']?).bind (·.dst)=some d->SR c [BS y.σ d] [a.tmps.getD d Go.undef]:=by intro j' want d hg hd;rw[HR d (by simp only[bH,hg,Ac];exact .inr (by simp[hd]))];exact h6.cz d
  obtain⟨_,Dn⟩:=AZ y hy;cases J1:y.r with
  |none=>
   rw[J1]at Dn;have EM:=nQ (c:=c) (a:=a) Dn (λj' want d hg hd=>rF j' want d (by rw[<-OT];exact hg) hd);unfold wpOp;simp only[q2];rw[OT]at EM;rw[if_neg (by simp[show Region.wanted o (yielded ops a.tmps)=false from EM])];have hv:y.val=HG:=by simp[Rec.val,J1]
   have he:y.bk=[]:=by simp[Rec.bk,J1]
   refine MB _ c h1 h2 h3 h4 (λt ht=> .inl ht) ?_;rw[hv,he];exact h6.put qA o.dst
  |some ge=>
   obtain⟨gs,e⟩:=ge;rw[J1]at Dn;simp only at Dn;obtain⟨r1,r2,r3,r4,r5,r6⟩:=Dn;rw[OT,GU]at r2;rw[GU]at r4;rw[OT]at r1;have EM:=nQ (c:=c) (a:=a) r1 rF;have hv:y.val=mkGd gs e.val:=by simp[Rec.val,J1]
   have he:y.bk=e.bk:=by simp[Rec.bk,J1]
   simp only[Ta,Ab,Bl]at r4;obtain⟨_,eQ⟩:=r4;have TX:y.log=some ⟨y.i,Wj y.σ gs y.o,e.bk.map (·.1)⟩:=by simp[Rec.log,J1]
   refine tJ (c:=c) AU q2 h6 EM (λt ht=>HR t (by simp only[bH,Ac,List.mem_filterMap];exact .inl ⟨.tmp t,by simpa using ht,rfl⟩)) (λt x hx=> ?_) (λt t1 t2 hU=> ?_) r2 (λBF t x hx=> ?_) (by rw[h1];exact r5) (by rw[h1];exact r6) (λx hx=>by rw[r3]at hx;cases hx) (λa' c' hs hr=> ?_)
   ·unfold Qy at hx;split at hx
    ·rename_i hR;rw[(c4 y hy) t]at hx;rw[<-hx];refine VS xs rfl λz hz hzt=> ?_;rw[GU];exact hW z hz t hzt _ TX (.inl (by rw[OT];simpa using hR))
    ·cases hx
   ·rcases h5 t hU with h|⟨k,k1,k2,k3,k4⟩
    ·simp only[BV]at*;omega
    ·have:k≠j:=by rintro rfl;rw[q1]at k2;cases k2
     simp only[BV]at*;omega
   ·have:=eQ _ hx;have TH:gs.isEmpty=false:=by cases gs;exact absurd rfl BF;rfl
    simp only[TH,Bool.false_or,Bool.false_and,Bool.or_false,Ab,AR]at this;refine⟨this.1.1,this.1.2,?_⟩;have h3:=this.2;split at h3
    ·exact⟨_,_,rfl,h3⟩
    ·cases h3
   ·exact MB a' c' (hs.ρ.trans h1) (hs.w0.trans h2) (hs.A.trans h3) (hs.Mu.trans h4) hs.U (by rw[hv,he];exact hr)
end
theorem Rel.world{c:Cx}{n:Nat}{sl:Nat->SV}{hp:Nat->Option Af}{a:Act}(h:Rel c n sl hp a)(w:World)(h1:w.heap=c.w.heap)(h2:w.os=c.w.os)(h3:w.tape=c.w.tape)(h4:w.output=c.w.output):Rel {c with w:=w} n sl hp a:=by
 refine h.change (λ_=>False) ⟨rfl,rfl,λ_ _ hb=>hb,λb _ _=>by show w.heap[b]?=_;rw[h1],λ_ _ hk=>⟨hk,rfl⟩,λ_ _ _=>⟨AJ _,λ_=>⟨rfl,λb _ _=>by show w.heap[b]?=_;rw[h1]⟩⟩⟩ ⟨h2.trans h.base.os,h3.trans h.base.tape,h4.trans h.base.output,by show _<=w.heap.size;rw[h1];exact h.base.size,h.base.pins,λb hb hm=>by show w.heap[b]?=_;rw[h1];exact h.base.block b hb hm,h.base.pk,h.base.lo⟩ (λt _=>⟨rfl,rfl,rfl,λg hk=>hk⟩) (λt _ b _=>by show w.heap[b]?=_;rw[h1]) (λt ht=>ht.elim)
  ⟨h.gw.nodup,h.gw.cq,h.gw.allow,λt b hb=>by show b<w.heap.size;rw[h1];exact h.gw.inb t b hb⟩ h.bq h.ct
theorem zBV{P:Program}{sg:B1}{Rt:Nat->List AV->AV->Prop}(dS:P.follows .mixedOrders=true)(AU:OX P sg Rt)(Ej:UB P sg):zyC P sg Rt:=by
 intro id ops draw σ t _ E8 hnx ht F R L js ρ a w hL hd hr Q hq;obtain⟨c,rfl,rfl,h1,h2,h3,h4,h5,h6⟩:=hr;rw[List.range_eq_range']at ht;cases draw with
 |false=>refine wp_region ?_;rw[List.range_eq_range'];exact tD AU Ej (n:=σ.sl.length) ops.size 0 [] σ t (by omega) ht c a ⟨h1,h2,h3,h4,rfl,by simpa using h5,h6⟩ hd (λc' a' σ' hp hl hrel=>hq [] .normal σ' c'.ρ a' c'.w hp hl hrel)
 |true=>
  refine wp_region_any dS ?_;obtain⟨τ,xs,σ',lg',g1,g2,g3,g4,g5,g6,_,g8⟩:=nY ops.size 0 [] σ t c.ρ (by omega) ht hd h4;have cQ:=h6.ext (λi=>by rw[h4];exact St.km E8 i) (λt e he=>by rw[h4];exact St.j0 E8 t e he) τ;have hw:=cQ.world {c.w with drawn:=c.w.drawn+1} rfl rfl rfl rfl;have Hc:∀k,k<ops.size->(Array.replicate ops.size false).getD k true=false:=λk hk=>by simp[Array.getD_eq_getD_getElem?,hk]
  have Xf:∀x∈xs,x.i<ops.size:=λx hx=>by have:=(g1.range x hx).2;omega
  have e1:(Gs σ.sl.length (BS σ) xs λk=>(Array.replicate ops.size false).getD k true)=BS σ:=by funext d;exact oG _ λx hx _=>Hc x.i (Xf x hx)
  have e2:(Hj (AL σ.hp) xs λk=>(Array.replicate ops.size false).getD k true)=AL σ.hp:=by funext d;exact oS _ λx hx _=>Hc x.i (Xf x hx)
  refine zzH (F:=F) (n:=σ.sl.length) (c:={c.ext τ with w:={c.w with drawn:=c.w.drawn+1}}) AU g1 g2 g3 g6 g8 rfl (λc' a' k1 k2 k3 k4 k5 k6=> ?_) ops.size (Array.replicate ops.size false) a (by simp) (λk o hk ho=> ?_) rfl h1 h2 h3 (λt ht=> .inl (h5 t ht)) (by rw[e1,e2];exact hw) (Nat.le_trans (List.length_filter_le _ _) (by simp))
  ·have hlen:=(g1.sl rfl).2.1;refine hq [] .normal _ c'.ρ a' c'.w (by rw[k1];exact List.prefix_append _ _) (by rw[k1];exact g5) ⟨c',rfl,rfl,k2,k3,k4,by rw[k1];exact g4,k5,?_⟩;show Rel c' σ'.sl.length _ _ a';rw[hlen];exact k6
  ·have:=Hc k (Array.getElem?_eq_some_iff.1 ho).1;have Cq:(Array.replicate ops.size false).getD k true=true:=hk;rw[this]at Cq;cases Cq
section
variable {P:Program} {c:Cx} {n nx:Nat} {sl sl0:Nat->SV} {hp hp0:Nat->Option Af} {a:Act} {o:Oper} {gs:Gd} {e:Bb} {sg:B1} {nv:Nat}
theorem z8(h:BA P c n nx sl hp a sl0 hp0 o gs){op:BinOp}{t el:TypeId}{x y:Operand}{ty:TypeId}(ho:o.op= .binOp op t x y ty)(hu:P.underlying t=some (.slice el)){p:Option Addr}{q r:Nat}(hv:a.eval x= .slice p q r)(r2:SR c [.cd] [a.eval y])
  (AU:op= .eql\/op= .neq) (Gl:c.ρ[nv]?=some (.bool (KZ a o))) (x':Option E) {ck:List Cn}:AB P o c n nx sl hp gs a {cc:=ck,ca:=x',val:= .e (if op= .eql then .var nv else .not (.var nv))}:=by
 have hb:KZ a o=p.isNone:=by simp only[KZ,ho,hv];cases p<;>rfl
 rw[hb]at Gl;have ex:=λ(v u:Value) (hv:a.eval x=v) (hu:a.eval y=u)=>PL (P:=P) (o:=o) ho c.w hv hu;generalize Df:a.eval y=v2 at r2;cases r2 with
 |cd _=>
  refine AB.pure h (v:= .bool (if op= .eql then p.isNone else !p.isNone)) ?_ ?_ rfl
  ·rw[ex _ _ hv Df,eqGuard_at_slice];rcases AU with rfl|rfl
   ·simp[Go.Lib.run_eql_slice_nil c.w t el p q r 0 0 hu]
   ·simp[binOp,Op.equal,Op.maxDepth,Go.Lib.run_equalIn_slice_nil c.w 9999 t el p q r 0 0 hu]
  ·rcases AU with rfl|rfl
   ·refine .e (f:=[]) ?_ (by simp) .nil;simp only[if_true,E.den,Gl,Dg];exact .bool .nil
   ·refine .e (f:=[]) ?_ (by simp) .nil;simp only[reduceCtorEq,if_false,E.den,Gl,Dg,AV.ek];exact .bool .nil
end
section
variable {P:Program} {c:Cx} {n nx:Nat} {sl sl0:Nat->SV} {hp hp0:Nat->Option Af} {a:Act} {o:Oper} {gs:Gd} {e:Bb} {sg:B1} {nv:Nat}
theorem V2{hp:Nat->Option Af}{gs:Gd}{m:Nat}{cs:BP}{x:E}(h:BB hp gs m (.agg cs)=some x):∃k l,m=k+1/\CF hp gs k cs.toList=some l/\x= .mk l:=by
 cases m with
 |zero=>simp[BB]at h
 |succ m=>simp only[BB,As]at h;obtain⟨l,h1,h2⟩:=h;exact⟨m,l,rfl,h1,h2.symm⟩
theorem KX{hp:Nat->Option Af}{gs:Gd}{m:Nat}{y x:E}(h:BB hp gs m (.e y)=some x):x=y:=by
 cases m with
 |zero=>simp[BB]at h
 |succ m=>simp[BB]at h;exact h.symm
theorem LW{hp:Nat->Option Af}{gs:Gd}{m:Nat}{x:E}(h:BB hp gs m .cd=some x):x= .lst .nil:=by
 cases m with
 |zero=>simp[BB]at h
 |succ m=>simp[BB]at h;exact h.symm
theorem KP{hp:Nat->Option Af}{gs:Gd}{m:Nat}{s:SV}{ss:List SV}{x:EL}(h:CF hp gs m (s::ss)=some x):∃k y l,m=k+1/\BB hp gs k s=some y/\CF hp gs k ss=some l/\x= .cons y l:=by
 cases m with
 |zero=>simp[CF]at h
 |succ m=>
  simp only[CF]at h;split at h
  ·rename_i y l h1 h2;simp at h;exact⟨m,y,l,rfl,h1,h2,h.symm⟩
  ·cases h
theorem R9{hp:Nat->Option Af}{gs:Gd}{ρ:List AV}{w:World}:∀(vs:List Value) (ss:List SV) (m:Nat) (x:EL),Fc.go vs=some ss->CF hp gs m ss=some x->Rd w vs (x.den ρ) []
 | [],ss,m,x,h,hx=>by
  simp[Fc.go]at h;subst h;cases m with
  |zero=>simp[CF]at hx
  |succ m=>simp[CF]at hx;subst hx;exact .nil
 |v::vs,ss,m,x,h,hx=>by
  unfold Fc.go at h;split at h
  ·rename_i hh;cases hh
  ·rename_i k q l hh;cases hh;split at h
   ·rename_i hk;obtain⟨l',h1,rfl⟩:=As.1 h;obtain⟨j,y,l2,rfl,h2,h3,rfl⟩:=KP hx;rw[KX h2];exact .int hk (R9 _ _ _ _ h1 h3)
   ·cases h
  ·rename_i q l hh;cases hh;obtain⟨l',h1,rfl⟩:=As.1 h;obtain⟨j,y,l2,rfl,h2,h3,rfl⟩:=KP hx;rw[KX h2];exact .bool (R9 _ _ _ _ h1 h3)
  ·rename_i q l hh;cases hh;split at h
   ·rename_i hk;obtain⟨l',h1,rfl⟩:=As.1 h;obtain⟨j,y,l2,rfl,h2,h3,rfl⟩:=KP hx;rw[KX h2];exact .str hk (R9 _ _ _ _ h1 h3)
   ·cases h
  ·rename_i l hh;cases hh;obtain⟨l',h1,rfl⟩:=As.1 h;obtain⟨j,y,l2,rfl,h2,h3,rfl⟩:=KP hx;rw[LW h2];exact .dv (R9 _ _ _ _ h1 h3)
  ·rename_i l hh;cases hh;obtain⟨l',h1,rfl⟩:=As.1 h;obtain⟨j,y,l2,rfl,h2,h3,rfl⟩:=KP hx;rw[KX h2];exact .dk (R9 _ _ _ _ h1 h3)
  ·cases h
theorem mJ{hp:Nat->Option Af}{gs:Gd}{ρ:List AV}{w:World}{v:Value}{s:SV}{m:Nat}{x:E}(h:Fc v=some s)(hx:BB hp gs m s=some x):
  Rd w v.cells.toList (x.den ρ).cells []/\(∀u∈v.cells.toList,u.oneCell'=true):=by
 have one:∀{v:Value} {y:AV},Rd w [v] [y] []->(∀cs,y≠ .agg cs)->(∀cs,y≠ .tup cs)->Rd w v.cells.toList y.cells []/\(∀u∈v.cells.toList,u.oneCell'=true):=by
  intro v y hr h1 h2;have h3:=mD hr h1 h2;have h4:y.cells=[y]:=by cases y<;>first|rfl|exact absurd rfl (h1 _)
  rw[one_cells h3,h4];exact⟨by simpa using hr,by simpa using h3⟩
 unfold Fc at h;split at h
 ·split at h
  ·rename_i hk;simp at h;subst h;rw[KX hx];exact one (.int hk .nil) (by simp[E.den]) (by simp[E.den])
  ·cases h
 ·simp at h;subst h;rw[KX hx];exact one (.bool .nil) (by simp[E.den]) (by simp[E.den])
 ·split at h
  ·rename_i hk;simp at h;subst h;rw[KX hx];exact one (.str hk .nil) (by simp[E.den]) (by simp[E.den])
  ·cases h
 ·simp at h;subst h;rw[LW hx];exact one (.dv .nil) (by simp[E.den]) (by simp[E.den])
 ·simp at h;subst h;rw[KX hx];exact one (.dk .nil) (by simp[E.den]) (by simp[E.den])
 ·rename_i cs;simp only[Option.bind_eq_bind,Av,Ad]at h;obtain⟨l,hl,rfl⟩:=h;obtain⟨k,l',rfl,h1,rfl⟩:=V2 hx;rw[BP.ax]at h1;exact⟨R9 _ _ _ _ hl h1,mH _ _ hl⟩
 ·cases h
theorem qB{w:World}{vs:List Value}{x:AV}(h:Rd w vs x.cells []):∀k,Rd w (List.replicate k vs).flatten (Aq (List.replicate k x)) []
 |0=> .nil
 |k+1=>by simp only[List.replicate_succ,List.flatten_cons,Aq,List.flatMap_cons];have:=h.app (qB h k);simpa[Aq]using this
theorem Zf(z:Array Value)(hz:0<z.size):∀k,(madeCells z (k*z.size)).toList=(List.replicate k z.toList).flatten
 |0=>by simp[madeCells]
 |k+1=>by
  have ih:=Zf z hz k;simp only[madeCells,Array.toList_map,Array.toList_range]at ih ⊢;rw[Nat.add_mul,Nat.one_mul,List.range_add,List.map_append,ih,List.replicate_succ',List.flatten_append];congr 1;simp only[List.map_map,List.flatten_cons,List.flatten_nil,AE];apply List.ext_getElem?;intro i;simp only[List.getElem?_map,List.getElem?_range'];by_cases hi:i<z.size
  ·simp only[List.getElem?_range hi,Option.map_some,Function.comp_apply];have:(k*z.size+i) % z.size=i:=by rw[Nat.add_comm,Nat.add_mul_mod_self_right,Nat.mod_eq_of_lt hi]
   simp[this,hi]
  ·rw[List.getElem?_eq_none (by simpa using hi),List.getElem?_eq_none (by simpa using hi)];rfl
theorem zzp(h:BA P c n nx sl hp a sl0 hp0 o gs){t:TypeId}{l m:Operand}(ho:o.op= .makeSlice t l m){s1 s2:SV}(BM:BL sl0 gs l=some s1)(A8:BL sl0 gs m=some s2)(he:pY P hp0 gs nx t s1 s2=some e)(hc:∀q∈e.cc,Cn.den c.ρ q):AB P o c n nx sl hp gs a e:=by
 have Dz:l∈o.op.operands:=by simp[ho,Op.operands]
 have CM:m∈o.op.operands:=by simp[ho,Op.operands]
 unfold pY at he;split at he
 ·rename_i el x y Bp;have Bp:=Jg Bp;split at he
  ·cases he
  rename_i hz;have hz:Hx P el=true:=by simpa using hz
  obtain⟨i,z,hi,FO,CY,Bz,Co,E5⟩:=KO hz;have r1:=h.cu BM Dz;have r2:=h.cu A8 CM;have ival:∀{x:E} {kk:IntKind} {k:Int} {v:Value},SR c [.e x] [v]->x.den c.ρ= .int kk k->v= .int kk k:=by
   intro x kk k v hr hx;cases hr with
   |e h1 _ _=>exact(F2 h1 hx).1
  split at he
  ·rename_i Hm;split at he
   ·rename_i s hs;have hs:Fc z=some s:=by simpa[hi,FO]using hs
    obtain⟨w,hw,rfl⟩:=As.1 he;obtain⟨kk,k,hk,h0,hb,hle⟩:Cn.den c.ρ (.mkroom x (P.bytesOf el)):=Ci hc;have FB:=ival r1 hk;have Df:=ival r2 (by rw[<-E.az c.ρ _ _ Hm];exact hk);obtain⟨c1,c2⟩:=mJ (w:=c.w) (ρ:=c.ρ) hs hw;obtain⟨kn,rfl⟩:=Int.eq_ofNat_of_zero_le h0;have D0:(i.bytes:Int)*(kn:Int)<=281474976710656:=by rw[E5]at hb;rw[Int.mul_comm];omega
    have hlen:=c1.len;have W3:=Zf z.cells (by omega) kn;have AQ:=run_make (P:=P) c.w t el i z Bp hi FO kk kk kn kn (by omega) (Int.le_refl _) D0 (by omega);have Fz:(madeCells z.cells (kn*z.cells.size)).size=kn*P.cellsOf el:=by rw[size_madeCells,CY,Co]
    have B0:(madeCells z.cells (kn*z.cells.size)).toList.take ((List.replicate kn (w.den c.ρ)).length*P.cellsOf el)=(List.replicate kn z.cells.toList).flatten:=by rw[List.length_replicate,List.take_of_length_le (by rw[BC,Fz];exact AJ _),W3]
    refine AB.newRow (xs:=List.replicate kn (w.den c.ρ)) (N:=[]) (C:=madeCells z.cells (kn*z.cells.size)) (cap:=kn) (wd:=c.w) (fz:=[]) (ts:=[]) h rfl ⟨rfl,rfl,rfl,rfl⟩ ?_ ?_ (by omega) (λu hu=> ?_) (by simp) (by simp only[maxLen];omega) Fz ?_ ?_ (by simp) (λ_=>rfl)
    ·simp only[execOp,ho,FB,Df,Sem.run_bind,Int.ofNat_eq_natCast,List.length_replicate];rw[AQ,CY];rfl
    ·simp[E.den,hk,AV.rep]
    ·rw[List.eq_of_mem_replicate hu,<-hlen,BC,CY,Co]
    ·rw[B0];intro u hu;obtain⟨q,hq,hu⟩:=List.mem_flatten.1 hu;rw[List.eq_of_mem_replicate hq]at hu;exact c2 u hu
    ·rw[B0];exact qB c1 kn
   ·cases he
  ·split at he
   ·rename_i k0 _;simp only[Ad]at he;subst he;obtain⟨kk,k,hk,h0,hb,hle⟩:Cn.den c.ρ (.mkroom y (P.bytesOf el)):=Ci hc;have FB:=ival r1 (show(E.int k0 0).den c.ρ= .int k0 0 from rfl);have Df:=ival r2 hk;obtain⟨kn,rfl⟩:=Int.eq_ofNat_of_zero_le h0;have D0:(i.bytes:Int)*(kn:Int)<=281474976710656:=by
     rw[E5]at hb;rw[Int.mul_comm];omega
    have AQ:=run_make (P:=P) c.w t el i z Bp hi FO k0 kk 0 kn (by omega) (by omega) D0 (by omega);refine AB.newRow (xs:=[]) (N:=[]) (C:=madeCells z.cells (kn*i.size)) (cap:=kn) (wd:=c.w) (fz:=[]) (ts:=[]) h rfl ⟨rfl,rfl,rfl,rfl⟩ ?_ rfl (by omega) (by simp) (by simp) (by simp only[maxLen];omega) (by rw[size_madeCells,Co]) (by simp) (by simpa[Aq]using Rd.nil) (by simp) (λ_=>rfl);simp only[execOp,ho,FB,Df,Sem.run_bind,Int.ofNat_eq_natCast];rw[AQ];rfl
   ·cases he
 ·cases he
end
section
variable {P:Program} {c:Cx} {n nx:Nat} {sl sl0:Nat->SV} {hp hp0:Nat->Option Af} {a:Act} {o:Oper} {gs:Gd} {e:Bb} {sg:B1} {nv:Nat}
def SG(v:Option Value)(k d:Nat):Prop:=(v=none/\k=d)\/ ∃kk,v=some (.int kk (k:Int))
theorem Vg{w:World}{t el:TypeId}(hu:P.underlying t=some (.slice el))(Bn:Du P el=true)(p:Option Addr)(m r l h:Nat){lo hi:Option Value}(B2:SG lo l 0)(JH:SG hi h m)(h1:l<=h)(h2:h<=m)(h3:m<=r):
  (Instr.sliceAt t (.slice p m r) lo hi none).run P w= .ok (sliced p l h r (P.cellsOf el)) w:=by
 have FT:P.underlying t=some (.slice (P.elem t)):=by simp[Program.elem,hu]
 have he:P.elem t=el:=by simp[Program.elem,hu]
 have hs:(sizeOf (P.elem t)).run P w= .ok (P.cellsOf el) w:=by rw[he];exact Pq Bn w
 rw[run_sliceAt_slice w t _ _ _ _ FT];rcases B2 with⟨rfl,rfl⟩|⟨kl,rfl⟩<;>rcases JH with⟨rfl,rfl⟩|⟨kh,rfl⟩
 ·rw[run_slice_all w t p h r FT,hs];rfl
 ·rw[run_slice_h w t p m r FT kh _ (by omega) (by omega),hs];rfl
 ·rw[run_slice_l w t p h r FT kl _ (by omega) (by omega),hs];rfl
 ·rw[run_slice_lh w t p m r FT kl kh _ _ (by omega) (by omega) (by omega),hs];rfl
theorem zw5(s:ByteArray)(a b:Nat):(s.extract a b).data.toList=(s.data.toList.drop a).take (b-a):=by rw[ByteArray.data_extract,Array.toList_extract,List.extract_eq_take_drop]
theorem zqP{w:World}{t:TypeId}(hu:P.underlying t=some .string)(s:ByteArray)(l h:Nat){lo hi:Option Value}(B2:SG lo l 0)(JH:SG hi h s.size)(h1:l<=h)(h2:h<=s.size):
  (Instr.sliceAt t (.string s) lo hi none).run P w= .ok (.string (s.extract l h)) w:=by
 rw[run_sliceAt_string w t _ _ _ _ hu];rcases B2 with⟨rfl,rfl⟩|⟨kl,rfl⟩<;>rcases JH with⟨rfl,rfl⟩|⟨kh,rfl⟩
 ·rw[run_slice_string_all w t s hu]
 ·rw[run_slice_string_h w t s hu kh _ (by omega) (by omega)];rfl
 ·rw[run_slice_string_l w t s hu kl _ (by omega) (by omega)];rfl
 ·rw[run_slice_string w t s kl kh _ _ hu (by omega) (by omega) (by omega)];rfl
theorem nM{sz:Nat}(ys:List AV)(hs:∀y∈ys,y.cells.length=sz)(l h:Nat)(hl:l<=h)(hh:h<=ys.length):((Aq ys).drop (l*sz)).take ((h-l)*sz)=Aq ((ys.take h).drop l):=by
 have e:ys=ys.take l++((ys.take h).drop l++ys.drop h):=by
  rw[<-List.append_assoc];have:ys.take l++(ys.take h).drop l=ys.take h:=by
   have h2:ys.take l=(ys.take h).take l:=by rw[List.take_take,Nat.min_eq_left hl]
   rw[h2,B9]
  rw[this,B9]
 have f1:Aq ys=Aq (ys.take l)++(Aq ((ys.take h).drop l)++Aq (ys.drop h)):=by
  conv=>lhs;rw[e]
  simp[Aq]
 have l1:(Aq (ys.take l)).length=l*sz:=by rw[KQ _ (λy hy=>hs y (Bt hy)),Aw,Nat.min_eq_left (by omega)]
 have l2:(Aq ((ys.take h).drop l)).length=(h-l)*sz:=by rw[KQ _ (λy hy=>hs y (Bt (BO hy))),BD,Aw,Nat.min_eq_left (by omega)]
 rw[f1,<-l1,List.drop_left,<-l2,List.take_left]
theorem zFY{w:World}{v:Value}{ys:List AV}{f:List Nat}{sz:Nat}(hr:Rd w [v] [.sl ys] f)(hs:∀y∈ys,y.cells.length=sz)(l h:Nat)(hl:l<=h)(hh:h<=ys.length):
  ∃p r g,v= .slice p ys.length r/\ys.length<=r/\Rd w [sliced p l h r sz] [.sl ((ys.take h).drop l)] g/\ ∀b∈g,b∈f:=by
 cases hr with
 |dv _=>
  rename_i p r;have hh:h=0:=by simpa using hh
  subst hh;have hl:l=0:=by omega
  subst hl;exact⟨_,_,[],rfl,Nat.zero_le _,by simpa[sliced]using Rd.dv .nil,by simp⟩
 |scons hb h1 h2 h3 h4 h5 h6 HN h7 h8=>
  rename_i b o m r cs C t fz sz' f1 f2;have hy:∃y,y∈ys:=by cases ys with|nil=>simp at h3;omega|cons y _=>exact⟨y,by simp⟩
  obtain⟨y0,HY⟩:=hy;have Gp:sz'=sz:=(h4 y0 HY).symm.trans (hs y0 HY);subst Gp;subst h3;refine⟨some ⟨b,o,none⟩,r,?_⟩;rcases Nat.eq_or_lt_of_le hl with he|AH
  ·subst he;refine⟨[],rfl,h2.2,?_,by simp⟩;have:(ys.take l).drop l=[]:=List.drop_eq_nil_of_le (by simp;omega);rw[this];simp only[sliced,Nat.sub_self];exact .dv .nil
  ·have B7:=h7.len;obtain⟨g,hg,Db⟩:=h7.piece (l*sz') ((h-l)*sz');rw[nM ys h4 l h hl hh]at Db;refine⟨b::(g++ []),rfl,h2.2,?_,λx hx=> ?_⟩
   ·have Dj:sliced (some (⟨b,o,none⟩:Addr)) l h r sz'= .slice (some ⟨b,o+l*sz',none⟩) (h-l) (r-l):=by
     unfold sliced;split
     ·exfalso;omega
     ·simp[Addr.add_lit]
    rw[Dj];refine Rd.scons (cs:=(cs.drop (l*sz')).take ((h-l)*sz')) hb (by omega) ⟨by omega,by omega⟩ (by simp;omega) (λy hy=>h4 y (Bt (BO hy))) h5 (λj u hu=> ?_) (λu hu=>HN u (BO (Bt hu))) Db .nil;rw[List.getElem?_take]at hu;split at hu
    ·rw[List.getElem?_drop]at hu;have:=h6 _ _ hu;rw[<-this];congr 1;omega
    ·cases hu
   ·simp only[AE,Ae]at hx;rcases hx with rfl|hx
    ·simp
    ·have:=hg x hx;simp[this]
theorem GY{f:Operand->Option SV}{x:Option Operand}{r:Option SV}(h:Ig f x=some r):(x=none/\r=none)\/ ∃y z,x=some y/\f y=some z/\r=some z:=by
 cases x with
 |none=>simp[Ig]at h;exact .inl ⟨rfl,h.symm⟩
 |some y=>obtain⟨z,hz,rfl⟩:=As.1 h;exact .inr ⟨y,z,rfl,hz,rfl⟩
theorem ZF{s:Option SV}{d l:E}(h:Na s d=some l):(s=none/\l=d)\/s=some (.e l):=by
 unfold Na at h;split at h
 ·simp at h;exact .inl ⟨rfl,h.symm⟩
 ·simp at h;subst h;exact .inr rfl
 ·cases h
theorem zxJ(h:BA P c n nx sl hp a sl0 hp0 o gs){t:TypeId}{x:Operand}{lo hi mx:Option Operand}(ho:o.op= .slice t x lo hi mx){s:SV}(hs:BL sl0 gs x=some s){l' h' m':Option SV}(BH:Ig (BL sl0 gs) lo=some l')(I4:Ig (BL sl0 gs) hi=some h')(CX:Ig (BL sl0 gs) mx=some m')(he:oT P hp0 gs t s l' h' m'=some e)(hc:∀q∈e.cc,Cn.den c.ρ q):AB P o c n nx sl hp gs a e:=by
 have hm:x∈o.op.operands:=by simp[ho,Op.operands]
 have JP:∀y,lo=some y->y∈o.op.operands:=λy hy=>by simp[ho,Op.operands,hy]
 have IA:∀y,hi=some y->y∈o.op.operands:=λy hy=>by simp[ho,Op.operands,hy]
 have dR:∀y,mx=some y->y∈o.op.operands:=λy hy=>by simp[ho,Op.operands,hy]
 have hx:=h.cu hs hm;have ival:∀{x:E} {kk:IntKind} {k:Int} {v:Value},SR c [.e x] [v]->x.den c.ρ= .int kk k->v= .int kk k:=by
  intro x kk k v hr hx;cases hr with
  |e h1 _ _=>exact(F2 h1 hx).1
 unfold oT at he;split at he
 ·cases he
 rename_i y hy;obtain⟨f,q1,q2⟩:=h.jj hs hm hy;have ex:(execOp a.eval o).run P c.w=((Instr.sliceAt t (a.eval x) (lo.map a.eval) (hi.map a.eval) (mx.map a.eval)).run P c.w).andThen λv w=> .ok (.value v) w:=by simp[execOp,ho]
 split at he
 ·split at he
  ·rename_i el _ _ hu;split at he
   ·rename_i Bn;simp only[Ad]at he;subst he;have hd:(y.den c.ρ).len≠ .undef:=Ci hc;cases BN:y.den c.ρ<;>simp only[BN,AV.len,ne_eq,not_true_eq_false]at hd;rename_i xs;have hl:(y.den c.ρ).len= .int .i64 (xs.length:Int):=by rw[BN];rfl
    obtain⟨p,q,r,hv⟩:∃p q r,a.eval x= .slice p q r:=by
     rcases Sw q1 hl with⟨p,q,hv,Ck⟩|⟨b,o',k,q,hv,Ck⟩
     ·exact⟨_,_,_,hv⟩
     ·exact⟨_,_,_,hv⟩
    rcases GY BH with⟨rfl,_⟩|⟨_,_,_,_,hh⟩
    ·rcases GY I4 with⟨_,hh⟩|⟨oh,sh,rfl,eS,hh⟩
     ·cases hh
     ·cases hh;rcases GY CX with⟨_,hh⟩|⟨om,sm,rfl,hsm,hh⟩
      ·cases hh
      ·cases hh;have v1:=(λ{kk:IntKind} (hr:SR c [.e (.int kk 0)] [a.eval oh])=>ival hr (show(E.int kk 0).den c.ρ= .int kk 0 from by simp only[E.den])) (h.cu eS (IA _ rfl))
       have v2:=(λ{kk:IntKind} (hr:SR c [.e (.int kk 0)] [a.eval om])=>ival hr (show(E.int kk 0).den c.ρ= .int kk 0 from by simp only[E.den])) (h.cu hsm (dR _ rfl))
       have FT:P.underlying t=some (.slice (P.elem t)):=by simp[Program.elem,hu]
       have Bp:P.elem t=el:=by simp[Program.elem,hu]
       refine AB.pure h (v:= .slice p 0 0) ?_ (.emp .nil) rfl;rw[ex,hv];simp only[Option.map_none,Option.map_some,v1,v2];rw[run_sliceAt_slice c.w t _ _ _ _ FT,run_slice_hm c.w t p q r FT _ _ 0 0 (by omega) (by omega) (by omega),Bp,Pq Bn];simp[sliced]
    ·cases hh
   ·cases he
  ·cases he
 ·have JQ:mx=none:=by
   rcases GY CX with⟨hh,_⟩|⟨_,_,_,_,hh⟩
   ·exact hh
   ·cases hh
  subst JQ;have blo:∀(l:E) (kk:IntKind) (k:Nat),Na l' (.int .i64 0)=some l->l.den c.ρ= .int kk k->SG (lo.map a.eval) k 0:=by
   intro l kk k hl hk;rcases GY BH with⟨rfl,rfl⟩|⟨ol,sl',rfl,Dj,rfl⟩
   ·rcases ZF hl with⟨_,rfl⟩|hh
    ·simp only[E.den,AV.int.injEq]at hk;exact .inl ⟨rfl,by omega⟩
    ·cases hh
   ·rcases ZF hl with⟨hh,_⟩|hh
    ·cases hh
    ·cases hh;exact .inr ⟨kk,by rw[Option.map_some,ival (h.cu Dj (JP _ rfl)) hk]⟩
  have bhi:∀(d l:E) (kk:IntKind) (k m:Nat),Na h' d=some l->l.den c.ρ= .int kk k->d.den c.ρ= .int .i64 (m:Int)->SG (hi.map a.eval) k m:=by
   intro d l kk k m hl hk hd;rcases GY I4 with⟨rfl,rfl⟩|⟨ol,sl',rfl,Dj,rfl⟩
   ·rcases ZF hl with⟨_,rfl⟩|hh
    ·rw[hd]at hk;simp only[AV.int.injEq]at hk;exact .inl ⟨rfl,by omega⟩
    ·cases hh
   ·rcases ZF hl with⟨hh,_⟩|hh
    ·cases hh
    ·cases hh;exact .inr ⟨kk,by rw[Option.map_some,ival (h.cu Dj (IA _ rfl)) hk]⟩
  split at he
  ·rename_i hu;split at he
   ·rename_i l hb q I5 JG;simp only[Ad]at he;subst he;obtain⟨ka,ai,kb,bi,bs,d1,d2,d3,d4,d5,d6⟩:Cn.den c.ρ (.winS y l hb):=Ci hc;obtain⟨an,rfl⟩:=Int.eq_ofNat_of_zero_le d4;obtain⟨bn,rfl⟩:=Int.eq_ofNat_of_zero_le (Int.le_trans d4 d5);obtain⟨ss,hv,rfl,hle⟩:=S4 q1 d3;have Bz:ss.data.toList.length=ss.size:=by simp
    have AQ:=zqP (P:=P) (w:=c.w) hu ss an bn (blo l ka an I5 d1) (bhi (.slen y) hb kb bn ss.size JG d2 (by simp only[E.den,d3,AV.slen];simp)) (by omega) (by omega);refine AB.pure h (v:= .string (ss.extract an bn)) ?_ (.cy ?_) rfl
    ·rw[ex,hv,Option.map_none,AQ];rfl
    ·simp only[E.den,d1,d2,d3,AV.swin];have:(List.take (bn:Int).toNat ss.data.toList).drop (an:Int).toNat=(ss.extract an bn).data.toList:=by
      simp[zw5,List.drop_take]
     rw[this];exact .str (by simp only[ByteArray.size_extract];omega) .nil
   ·cases he
  ·rename_i el hu;split at he
   ·cases he
   rename_i Bn;have Bn:Du P el=true:=by simpa using Bn
   split at he
   ·rename_i l hb fz I5 JG HO;simp only[Ad]at he;subst he;have By:Cn.den c.ρ (.issl y (P.cellsOf el)):=Ci hc;obtain⟨ys,Dp,Ja⟩:=By;obtain⟨ka,ai,kb,bi,m,d1,d2,d3,d4,d5,d6⟩:Cn.den c.ρ (.win y l hb):=hc _ (by simp);obtain⟨an,rfl⟩:=Int.eq_ofNat_of_zero_le d4;obtain⟨bn,rfl⟩:=Int.eq_ofNat_of_zero_le (Int.le_trans d4 d5);rw[Dp]at q1;have hm9:(m:Int)=ys.length:=by rw[Dp]at d3;simpa[AV.len]using d3.symm
    split at HO
    ·rename_i IB;obtain⟨p,r,g,hv,hr,Db,hg⟩:=zFY q1 Ja an bn (by omega) (by omega);have AQ:=Vg (P:=P) (w:=c.w) hu Bn p ys.length r an bn (blo l ka an I5 d1) (bhi (.len y) hb kb bn ys.length JG d2 (by simp only[E.den,Dp,AV.len])) (by omega) (by omega) hr;intro next Q hk
     unfold Oper.wp;rw[ex,hv,Option.map_none,AQ];show Oper.upon P o a next Q (.ok (.value _) c.w)
     rw[Oper.upon_value];have hrel:=h.rel.freeze h.hp h.gs HO;have AZ:∀b∈g,(c.bu (fz.map (·.1))).ok b:=λb hb=>VM h.rel h.eh h.gs HO IB (q2 b (hg b hb));refine hk _ (c.bu (fz.map (·.1))) ⟨rfl,rfl,rfl,rfl,λt ht=> .inl ht⟩ (hrel.put (SR.mkGd (.e (f:=g) ?_ AZ .nil) gs h.gs) o.dst);show Rd c.w _ [(E.win y l hb).den c.ρ] g;simp only[E.den,d1,d2,Dp,AV.win,Int.ofNat_eq_natCast,Bi];exact Db
    ·cases HO
   ·cases he
  ·cases he
end
section
variable {P:Program} {c:Cx} {n nx:Nat} {sl sl0:Nat->SV} {hp hp0:Nat->Option Af} {a:Act} {o:Oper} {gs:Gd} {e:Bb} {sg:B1} {nv:Nat}
theorem Tc{w:World}{v:Value}{x:AV}{f:List Nat}{k:SK}(h:Rd w [v] [x] f)(hk:x.sk=some k):(∃kk n,k= .int kk/\v= .int kk n/\x= .int kk n)\/(∃b,k= .bool/\v= .bool b/\x= .bool b)\/ ∃s:ByteArray,k= .str/\v= .string s/\x= .str s.data.toList:=by
 cases h<;>simp[AV.sk]at hk
 ·exact .inl ⟨_,_,hk.symm,rfl,rfl⟩
 ·exact .inr (.inl ⟨_,hk.symm,rfl,rfl⟩)
 ·exact .inr (.inr ⟨_,hk.symm,rfl,rfl⟩)
theorem mQ{t:TypeId}(h:(∃k,P.underlying t=some (.int k))\/P.underlying t=some .bool\/P.underlying t=some .string):Ao P t=false:=by rcases h with⟨k,h⟩|h|h<;>simp[Ao,h]
theorem xC{w:World}(d:Nat):∀(fs:List Field) (j:Nat) (ks:List SK) {as_ bs:List Value} {cs ds:List AV} {f g:List Nat},SY P j fs=some ks->Rd w as_ cs f->Rd w bs ds g->(cs.drop j).map AV.sk=ks.map some->(ds.drop j).map AV.sk=ks.map some->
  (Op.eqFields (d+1) as_.toArray bs.toArray fs).run P w= .ok (AV.leq (cs.drop j) (ds.drop j)) w
 | [],j,ks,as_,bs,cs,ds,f,g,hk,h1,h2,k1,k2=>by
  simp[SY]at hk;subst hk;have e1:cs.drop j=[]:=by simpa using k1
  have e2:ds.drop j=[]:=by simpa using k2
  rw[e1,e2];simp[Op.eqFields,AV.leq]
 |fd::fs,j,ks,as_,bs,cs,ds,f,g,hk,h1,h2,k1,k2=>by
  unfold SY at hk;split at hk
  ·cases hk
  rename_i AA;simp only[not_or,Bg,Decidable.not_not,ne_eq,Bool.not_eq_false]at AA;obtain⟨hn,ho,Bn,Ci⟩:=AA;have main:∀(k:SK) (l:List SK),ks=k::l->SY P (j+1) fs=some l->(∀a b (x y:AV) f g,Rd w [a] [x] f->Rd w [b] [y] g->x.sk=some k->y.sk=some k->(Op.equalIn (d+1) fd.type a b).run P w= .ok (x.seq y) w)->Ao P fd.type=false->
    (Op.eqFields (d+1) as_.toArray bs.toArray (fd::fs)).run P w= .ok (AV.leq (cs.drop j) (ds.drop j)) w:=by
   rintro k l rfl hl heq Ip;have JL:j<cs.length:=by
    rcases Nat.lt_or_ge j cs.length with hh|hh
    ·exact hh
    ·rw[List.drop_eq_nil_of_le hh]at k1;simp at k1
   have dG:j<ds.length:=by
    rcases Nat.lt_or_ge j ds.length with hh|hh
    ·exact hh
    ·rw[List.drop_eq_nil_of_le hh]at k2;simp at k2
   rw[Bw JL]at k1;rw[Bw dG]at k2;simp only[List.map_cons,List.cons.injEq]at k1 k2;have l1:=h1.len;have l2:=h2.len;obtain⟨v,f1,hv,_,r1⟩:=h1.at (show cs[j]?=some cs[j] by simp[JL])
   obtain⟨u,g1,hu,_,r2⟩:=h2.at (show ds[j]?=some ds[j] by simp[dG])
   have p1:=V8 Bn as_ fd.offset (by omega) (.inr Ci) w;have p2:=V8 Bn bs fd.offset (by omega) (.inr Ci) w;have e1:((as_.drop fd.offset).take (P.cellsOf fd.type)).headD Go.undef=v:=by rw[Ci,ho,Bw (by omega),List.take_succ_cons];simpa[show j<as_.length by omega]using hv
   have e2:((bs.drop fd.offset).take (P.cellsOf fd.type)).headD Go.undef=u:=by rw[Ci,ho,Bw (by omega),List.take_succ_cons];simpa[show j<bs.length by omega]using hu
   rw[Ip,e1]at p1;rw[Ip,e2]at p2;have ih:=xC (w:=w) d fs (j+1) l hl h1 h2 k1.2 k2.2;rw[Bw JL,Bw dG];simp only[Op.eqFields,ne_eq,hn,not_false_eq_true,if_true,Sem.run_bind,p1,p2,AS,if_false,Result.andThen_ok,heq v u _ _ _ _ r1 r2 k1.1 k2.1];cases hb:(cs[j]).seq ds[j]with
   |true=>simpa[AV.leq,hb]using ih
   |false=>simp[AV.leq,hb]
  split at hk
  ·rename_i k l hu hl;simp at hk;refine main _ _ hk.symm hl (λa b x y f g ra rb hx hy=> ?_) (mQ (.inl ⟨_,hu⟩));rcases Tc ra hx with⟨kk,m,h5,rfl,rfl⟩|⟨_,h5,_⟩|⟨_,h5,_⟩<;>cases h5
   rcases Tc rb hy with⟨kk,m2,h5,rfl,rfl⟩|⟨_,h5,_⟩|⟨_,h5,_⟩<;>cases h5
   exact run_equalIn_int w d fd.type _ _ _ _ hu
  ·rename_i l hu hl;simp at hk;refine main _ _ hk.symm hl (λa b x y f g ra rb hx hy=> ?_) (mQ (.inr (.inl hu)));rcases Tc ra hx with⟨kk,m,h5,_⟩|⟨_,_,rfl,rfl⟩|⟨_,h5,_⟩<;>try cases h5
   rcases Tc rb hy with⟨kk,m,h5,_⟩|⟨_,_,rfl,rfl⟩|⟨_,h5,_⟩<;>try cases h5
   exact nA d _ _ hu w
  ·rename_i l hu hl;simp at hk;refine main _ _ hk.symm hl (λa b x y f g ra rb hx hy=> ?_) (mQ (.inr (.inr hu)));rcases Tc ra hx with⟨kk,m,h5,_⟩|⟨_,h5,_⟩|⟨_,_,rfl,rfl⟩<;>try cases h5
   rcases Tc rb hy with⟨kk,m,h5,_⟩|⟨_,h5,_⟩|⟨_,_,rfl,rfl⟩<;>try cases h5
   rw[run_equalIn_string w d _ _ _ hu,zt4];rfl
  ·cases hk
theorem zDn(h:BA P c n nx sl hp a sl0 hp0 o gs){op:BinOp}{t:TypeId}{x y:Operand}{ty:TypeId}(ho:o.op= .binOp op t x y ty){fs:Array Field}(hu:P.underlying t=some (.struct fs))(he:BW P sg sl0 hp0 nv nx gs o=some e)(hc:∀q∈e.cc,Cn.den c.ρ q):AB P o c n nx sl hp gs a e:=by
 have Dz:x∈o.op.operands:=by simp[ho,Op.operands]
 have CM:y∈o.op.operands:=by simp[ho,Op.operands]
 simp only[BW,ho,Av]at he;obtain⟨s1,BM,s2,A8,he⟩:=he;unfold SX at he;simp only[hu]at he;split at he
 ·cases he
 rename_i hg;simp only[Bool.or_eq_true,not_or,Bool.not_eq_true]at hg;split at he
 ·rename_i ks x' y' hks DW BN;obtain⟨f1,q1,_⟩:=h.jj BM Dz DW;obtain⟨f2,q2,_⟩:=h.jj A8 CM BN;have CA:P.underlying t=some (.struct (P.fieldsOf t)):=by simp[Program.fieldsOf,hu]
  have Mz:P.fieldsOf t=fs:=by simp[Program.fieldsOf,hu]
  have key:∀(k1:Cn.den c.ρ (.kinds x' ks)) (k2:Cn.den c.ρ (.kinds y' ks)),∃as_ bs:List Value,∃b,a.eval x= .agg as_.toArray/\a.eval y= .agg bs.toArray/\(E.aeq x' y').den c.ρ= .bool b/\(Op.equalIn 10000 t (.agg as_.toArray) (.agg bs.toArray)).run P c.w= .ok b c.w:=by rintro⟨cs,By,k1⟩ ⟨ds,Hb,k2⟩;obtain⟨as_,FB,_,r1⟩:=Kt q1 By;obtain⟨bs,Df,_,r2⟩:=Kt q2 Hb;refine⟨as_,bs,AV.leq cs ds,FB,Df,by simp only[E.den,By,Hb,AV.aeq],?_⟩;rw[run_equalIn_struct c.w 9999 t _ _ CA hg.1,Mz];exact xC (w:=c.w) 9998 fs.toList 0 ks hks r1 r2 (by simpa using k1) (by simpa using k2)
  split at he
  ·simp only[Ad]at he;subst he;obtain⟨as_,bs,b,FB,Df,hd,hr⟩:=key (hc _ (by simp)) (hc _ (by simp));refine AB.pure h (v:= .bool b) ?_ (.cy (by rw[hd];exact .bool .nil)) rfl;rw[PL ho c.w FB Df];simp[run_eqGuard_agg c.w _ t x y _ _ hg.2,run_eql_struct,hr]
  ·simp only[Ad]at he;subst he;obtain⟨as_,bs,b,FB,Df,hd,hr⟩:=key (hc _ (by simp)) (hc _ (by simp));refine AB.pure h (v:= .bool (!b)) ?_ (.cy (by simp only[E.den]at hd ⊢;rw[hd];exact .bool .nil)) rfl;rw[PL ho c.w FB Df];simp[run_eqGuard_agg c.w _ t x y _ _ hg.2,run_neq_struct,hr]
  ·cases he
 ·cases he
theorem xG(h:BA P c n nx sl hp a sl0 hp0 o gs){x y:Operand}{cl:Call}(ho:o.op= .call cl){op:BinOp}(AU:(op= .gtr/\cl.callee= .builtin .max)\/(op= .lss/\cl.callee= .builtin .min))(CW:cl.args.toList=[x,y]){s1 s2:SV}(BM:BL sl0 gs x=some s1)(A8:BL sl0 gs y=some s2)
  (he:ZL op s1 s2=some e) (hc:∀q∈e.cc,Cn.den c.ρ q):AB P o c n nx sl hp gs a e:=by
 have Ah:cl.args= #[x,y]:=by apply Array.ext';simp[CW]
 have Dz:x∈o.op.operands:=by rcases AU with⟨_,hh⟩|⟨_,hh⟩<;>simp[ho,Op.operands,Call.operands,hh,Ah]
 have CM:y∈o.op.operands:=by rcases AU with⟨_,hh⟩|⟨_,hh⟩<;>simp[ho,Op.operands,Call.operands,hh,Ah]
 unfold ZL at he;split at he
 ·rename_i x' y';simp only[Ad]at he;subst he;obtain⟨f1,q1,_⟩:=H4 (h.cu BM Dz) rfl;obtain⟨f2,q2,_⟩:=H4 (h.cu A8 CM) rfl;have hd:AV.bin op (y'.den c.ρ) (x'.den c.ρ)≠ .undef:=Ci hc;cases hx:x'.den c.ρ<;>cases hy:y'.den c.ρ<;>simp only[hx,hy,AV.bin,ne_eq,not_true_eq_false]at hd;rename_i k m k' m';split at hd
  ·rename_i hk;have hk:k'=k:=by rcases hk with hk|hk|hk;exact hk;all_goals (rcases AU with⟨h1,_⟩|⟨h1,_⟩<;>rw[h1]at hk<;>cases hk)
   subst hk;obtain⟨v1,i1⟩:=F2 q1 hx;obtain⟨v2,i2⟩:=F2 q2 hy;rcases AU with⟨rfl,Ax⟩|⟨rfl,Ax⟩
   ·refine AB.pure h (v:= .int k' (if m'>m then m' else m)) ?_ (.cy ?_) rfl
    ·simp[execOp,ho,resolve,Ax,Ah,invoke,builtin,Builtin.max_,Builtin.max2,v1,v2]
    ·simp only[E.den,hx,hy,AV.bin,true_or,if_true,Cy];by_cases hh:m'>m
     ·simp only[hh,decide_true,AV.cond,if_true];exact .int i2 .nil
     ·simp only[hh,decide_false,AV.cond,if_false];exact .int i1 .nil
   ·refine AB.pure h (v:= .int k' (if m'<m then m' else m)) ?_ (.cy ?_) rfl
    ·simp[execOp,ho,resolve,Ax,Ah,invoke,builtin,Builtin.min_,Builtin.min2,v1,v2]
    ·simp only[E.den,hx,hy,AV.bin,true_or,if_true,Cy];by_cases hh:m'<m
     ·simp only[hh,decide_true,AV.cond,if_true];exact .int i2 .nil
     ·simp only[hh,decide_false,AV.cond,if_false];exact .int i1 .nil
  ·exact absurd rfl hd
 ·cases he
end
inductive Cs(P:Program)(w:World):List TypeId->List Bool->List Value->List AV->List Nat->List Nat->Prop where
 |nil {fl}:Cs P w [] fl [] [] [] []
 |own {t ts fl el u us y ys top N rf hs}:fl.headD false=true->CT P t=some el->(Cc P el=true/\N=[]\/Cc P el=false/\DE P t=none)->C3 w el (P.cellsOf el) u y top N->Cs P w ts fl.tail us ys rf hs->Cs P w (t::ts) fl (u::us) (y::ys) (N++rf) (top++hs)
 |deep {t ts fl el e z l u us y ys top rf hs}:fl.headD false=true->CT P t=some el->Cc P el=false->DE P t=some (.row e z l)->DC w [.row e z l] [u] [y] top->Cs P w ts fl.tail us ys rf hs->Cs P w (t::ts) fl (u::us) (y::ys) rf (top++hs)
 |rd {t ts fl u us y ys f rf hs}:(fl.headD false=true->CT P t=none)->Rd w [u] [y] f->Cs P w ts fl.tail us ys rf hs->Cs P w (t::ts) fl (u::us) (y::ys) (f++rf) hs
def NQ(P:Program)(w:World)(t:TypeId)(fl:List Bool)(v:Value)(x:AV)(rf hs:List Nat):Prop:=
 ∃us ys,(if Ao P t then v= .agg us.toArray/\x= .agg ys/\ ∀u∈us,u.oneCell'=true else us=[v]/\ys=[x])/\Cs P w (A9 P t) fl us ys rf hs
def D7(P:Program)(w:World)(t:TypeId)(fl:List Bool)(v:Value)(x:AV)(rf hs:List Nat):Prop:=
 if F6 P t fl then NQ P w t fl v x rf hs else Rd w [v] [x] rf/\hs=[]
inductive Mm(P:Program)(w:World):List TypeId->List Bool->List Value->List AV->List Nat->List Nat->Prop where
 |nil {fl}:Mm P w [] fl [] [] [] []
 |cons {t ts fl v vs x xs f h rf hs}:D7 P w t fl v x f h->Mm P w ts (fl.drop (A9 P t).length) vs xs rf hs->Mm P w (t::ts) fl (v::vs) (x::xs) (f++rf) (h++hs)
theorem Cs.len{P:Program}{w:World}{ts:List TypeId}{fl:List Bool}{us:List Value}{ys:List AV}{rf hs:List Nat}(h:Cs P w ts fl us ys rf hs):us.length=ts.length/\ys.length=ts.length:=by induction h<;>simp_all
theorem Cs.inb{P:Program}{w:World}{ts:List TypeId}{fl:List Bool}{us:List Value}{ys:List AV}{rf hs:List Nat}(h:Cs P w ts fl us ys rf hs):(∀b∈rf,b<w.heap.size)/\ ∀b∈hs,b<w.heap.size:=by
 induction h with
 |nil=>simp
 |deep _ _ _ _ h _ ih=>
  refine⟨ih.1,λb hb=> ?_⟩;rcases Ac.1 hb with hb|hb
  ·exact h.inb b hb
  ·exact ih.2 b hb
 |own _ _ _ h _ ih=>
  refine⟨λb hb=> ?_,λb hb=> ?_⟩
  ·rcases Ac.1 hb with hb|hb
   ·obtain⟨xs,_,_,_,⟨_,_,_,rfl⟩|⟨g,cap,C,_,_,_,_,_,_,_,hr⟩⟩:=h
    ·simp at hb
    ·exact hr.inb b hb
   ·exact ih.1 b hb
  ·rcases Ac.1 hb with hb|hb
   ·obtain⟨xs,_,_,_,⟨_,_,rfl,_⟩|⟨g,cap,C,_,_,_,hh,_,rfl,_⟩⟩:=h
    ·simp at hb
    ·simp at hb;subst hb;exact Dq hh
   ·exact ih.2 b hb
 |rd _ h _ ih=>
  refine⟨λb hb=> ?_,ih.2⟩;rcases Ac.1 hb with hb|hb
  ·exact h.inb b hb
  ·exact ih.1 b hb
structure AW where
 tag:Nat
 new:Option Value
 top:List Nat
 bk:Af
def AW.pair(r:AW):Nat × Af:=(r.tag,r.bk)
structure Fh(c c':Cx)(w':World)(recs:List AW):Prop where
 ρ:c'.ρ=c.ρ
 w:c'.w=w'
 G:∀r∈recs,c'.G r.tag=⟨r.top,[]⟩
 new:∀r∈recs,∀hv,r.new=some hv->c'.K r.tag 0/\(∀g,c'.K r.tag g->g<=0)/\c'.H r.tag 0=hv
 K:∀t g,c.K t g->c'.K t g/\c'.H t g=c.H t g
 old:∀t,c.U t-> ∀g,c'.K t g->c.K t g
 ie:∀r∈recs,r.new.isSome=true->c'.E r.tag=0
 fy:∀r∈recs,r.new=none->c'.E r.tag=c.E r.tag+1
theorem Fh.mono{c c':Cx}{w':World}{recs recs':List AW}(h:Fh c c' w' recs)(hs:∀r∈recs',r∈recs):Fh c c' w' recs':=
 ⟨h.ρ,h.w,λr hr=>h.G r (hs r hr),λr hr=>h.new r (hs r hr),h.K,h.old,λr hr=>h.ie r (hs r hr),λr hr=>h.fy r (hs r hr)⟩
section
variable {P:Program} {c:Cx} {w':World}
theorem zEA{c':Cx}{t:Nat}{u:Value}{el sz:Nat}{y:AV}{top N:List Nat}(h:C3 w' el sz u y top N)(hk:c'.K t 0)(hh:c'.H t 0=u):SR c' [.own t 0] [u]:=by
 obtain⟨xs,_,_,_,⟨_,⟨a,rfl⟩,_⟩|⟨g,cap,C,rfl,_⟩⟩:=h
 ·exact .own hk hh .nil
 ·exact .own hk hh .nil
theorem RS{nx:Nat}{mk:Nat->E}{ts:List TypeId}{fl:List Bool}{us:List Value}{ys:List AV}{rf hs:List Nat}(h:Cs P w' ts fl us ys rf hs):∀(j:Nat),(∀i y,ys[i]?=some y->(mk (j+i)).den c.ρ=y)->
  ∃recs:List AW,(C7 P nx mk j ts fl).2=recs.map AW.pair/\recs.flatMap AW.top=hs/\(∀r∈recs,nx+j<=r.tag/\r.tag<nx+j+ts.length/\r.new.isSome)/\(recs.map AW.tag).Nodup/\(∀r∈recs,r.new=us[r.tag-(nx+j)]?)/\
   ∀c',Fh c c' w' recs->(∀b∈rf,c'.ok b)->SR c' (C7 P nx mk j ts fl).1 us/\ ∀r∈recs,Dv c' r.tag r.bk:=by
 induction h with
 |nil=>exact λj _=>⟨[],rfl,rfl,by simp,by simp,by simp,λc' _ _=>⟨.nil,by simp⟩⟩
 | @own t ts fl el u us y ys top N rf hs h1 h2 Ms h3 _ ih=>
  intro j Gf;obtain⟨recs,e1,e2,e3,e4,e4',e5⟩:=ih (j+1) (λi y hy=>by rw[show j+1+i=j+(i+1)from by omega];exact Gf (i+1) y (by simpa using hy));have hy:=Gf 0 y rfl;have dZ:SQ P t el 0 0 (mk j)= .row el (P.cellsOf el) 0 (mk j) (Cc P el):=by
   unfold SQ;rcases Ms with⟨h,_⟩|⟨h,h'⟩
   ·rw[if_pos h,h]
   ·rw[if_neg (by rw[h];simp),h',h]
  simp only[C7,h1,h2,dZ];refine⟨⟨nx+j,some u,top, .row el (P.cellsOf el) 0 (mk j) (Cc P el)⟩::recs,by simp[e1,AW.pair],by simp[e2],λr hr=> ?_,?_,λr hr=> ?_,λc' ha AZ=> ?_⟩
  ·rcases Ae.1 hr with rfl|hr
   ·simp
   ·have:=e3 r hr;simp only[A3];exact⟨by omega,by omega,this.2.2⟩
  ·simp only[List.map_cons,List.nodup_cons];refine⟨λhm=> ?_,e4⟩;obtain⟨r,hr,HX⟩:=List.mem_map.1 hm;have:=e3 r hr;omega
  ·rcases Ae.1 hr with rfl|hr
   ·simp
   ·rw[e4' r hr];have:=e3 r hr;rw[show r.tag-(nx+j)=(r.tag-(nx+(j+1)))+1 from by omega,List.getElem?_cons_succ]
  ·obtain⟨q1,q2⟩:=e5 c' (ha.mono λr hr=>by simp[hr]) λb hb=>AZ b (by simp[hb]);obtain⟨k1,k2,k3⟩:=ha.new _ (List.mem_cons_self ..) u rfl;have kg:=ha.G _ (List.mem_cons_self ..);simp only at k1 k2 k3 kg;refine⟨(zEA h3 k1 k3).cons q1,λr hr=> ?_⟩;rcases Ae.1 hr with rfl|hr
   ·refine⟨k1,k2,N,?_,λb hb=>AZ b (by simp[hb]),λhd=> ?_,λ_=>by rw[kg]⟩
    rotate_left
    ·rcases Ms with⟨_,h⟩|⟨h,_⟩
     ·subst h;exact⟨rfl,by rw[kg]⟩
     ·rw[h]at hd;cases hd
    rw[k3,kg,ha.w,ha.ρ];have BN:(mk j).den c.ρ=y:=by simpa using hy
    rw[BN];exact h3
   ·exact q2 r hr
 | @deep t ts fl el e z l u us y ys top rf hs h1 h2 Th P4 h3 _ ih=>
  intro j Gf;obtain⟨recs,e1,e2,e3,e4,e4',e5⟩:=ih (j+1) (λi y hy=>by rw[show j+1+i=j+(i+1)from by omega];exact Gf (i+1) y (by simpa using hy));have hy:=Gf 0 y rfl;have dZ:SQ P t el 0 0 (mk j)= .deep e z l.toList 0 0 (mk j):=by unfold SQ;rw[if_neg (by rw[Th];simp),P4]
  simp only[C7,h1,h2,dZ];refine⟨⟨nx+j,some u,top, .deep e z l.toList 0 0 (mk j)⟩::recs,by simp[e1,AW.pair],by simp[e2],λr hr=> ?_,?_,λr hr=> ?_,λc' ha AZ=> ?_⟩
  ·rcases Ae.1 hr with rfl|hr
   ·simp
   ·have:=e3 r hr;simp only[A3];exact⟨by omega,by omega,this.2.2⟩
  ·simp only[List.map_cons,List.nodup_cons];refine⟨λhm=> ?_,e4⟩;obtain⟨r,hr,HX⟩:=List.mem_map.1 hm;have:=e3 r hr;omega
  ·rcases Ae.1 hr with rfl|hr
   ·simp
   ·rw[e4' r hr];have:=e3 r hr;rw[show r.tag-(nx+j)=(r.tag-(nx+(j+1)))+1 from by omega,List.getElem?_cons_succ]
  ·obtain⟨q1,q2⟩:=e5 c' (ha.mono λr hr=>by simp[hr]) AZ;obtain⟨k1,k2,k3⟩:=ha.new _ (List.mem_cons_self ..) u rfl;have kg:=ha.G _ (List.mem_cons_self ..);have ke:=ha.ie _ (List.mem_cons_self ..) rfl;simp only at k1 k2 k3 kg ke;obtain⟨p1,p2,p3,rfl⟩:=h3.head;refine⟨(SR.own k1 k3 .nil).cons q1,λr hr=> ?_⟩;rcases Ae.1 hr with rfl|hr
   ·refine⟨k1,k2,ke,?_,by rw[kg]⟩;have BN:(mk j).den c.ρ=y:=by simpa using hy
    rw[k3,kg,ha.w,ha.ρ,BN,Az.cw];exact h3
   ·exact q2 r hr
 | @rd t ts fl u us y ys f rf hs h1 h3 _ ih=>
  intro j Gf;obtain⟨recs,e1,e2,e3,e4,e4',e5⟩:=ih (j+1) (λi y hy=>by rw[show j+1+i=j+(i+1)from by omega];exact Gf (i+1) y (by simpa using hy));have hy:=Gf 0 y rfl;have TM:C7 P nx mk j (t::ts) fl=(.e (mk j)::(C7 P nx mk (j+1) ts fl.tail).1,(C7 P nx mk (j+1) ts fl.tail).2):=by
   simp only[C7];split
   ·rename_i h8 h9;rw[h1 h8]at h9;cases h9
   ·rfl
  rw[TM];refine⟨recs,e1,e2,λr hr=> ?_,e4,λr hr=> ?_,λc' ha AZ=> ?_⟩
  ·have:=e3 r hr;simp only[A3];exact⟨by omega,by omega,this.2.2⟩
  ·rw[e4' r hr];have:=e3 r hr;rw[show r.tag-(nx+j)=(r.tag-(nx+(j+1)))+1 from by omega,List.getElem?_cons_succ]
  ·obtain⟨q1,q2⟩:=e5 c' ha λb hb=>AZ b (by simp[hb]);have BN:(mk j).den c.ρ=y:=by simpa using hy
   exact⟨(SR.e (f:=f) (by rw[ha.w,ha.ρ,BN];exact h3) (λb hb=>AZ b (by simp[hb])) .nil).cons q1,q2⟩
theorem Ph{nx:Nat}{mk:Nat->E}:∀(j:Nat) (ts:List TypeId) (fl:List Bool) (t:Nat) (e:Af) {gs:Gd} {f:Af},(t,e)∈(C7 P nx mk j ts fl).2->e≠ .gd gs f
 |_,[],_,_,_,_,_,h=>by simp[C7]at h
 |j,u::ts,fl,t,e,gs,f,h=>by
  unfold C7 at h;split at h
  ·rcases Ae.1 h with h|h
   ·cases h;unfold SQ;split
    ·simp
    ·split<;>simp
   ·exact Ph _ _ _ _ _ h
  ·exact Ph _ _ _ _ _ h
theorem VX{ρ:List AV}{x:E}{ys:List AV}(hx:x.den ρ= .agg ys):∀i y,ys[i]?=some y->(DP x true (0+i)).den ρ=y:=by intro i y hy;simp[DP,E.den,hx,AV.fld,AV.cells,hy]
theorem wV{nx:Nat}{t:TypeId}{fl:List Bool}{x:E}{v:Value}{y:AV}{rf hs:List Nat}(h:D7 P w' t fl v y rf hs)(hx:x.den c.ρ=y):
  ∃recs:List AW,(Px P nx t fl x).2=recs.map AW.pair/\recs.flatMap AW.top=hs/\(∀r∈recs,nx<=r.tag/\r.tag<nx+(A9 P t).length/\r.new.isSome)/\(recs.map AW.tag).Nodup/\
   ∀c',Fh c c' w' recs->(∀b∈rf,c'.ok b)->SR c' [(Px P nx t fl x).1] [v]/\ ∀r∈recs,Dv c' r.tag r.bk:=by
 unfold D7 at h;unfold Px;split at h
 ·rename_i hf;simp only[hf,if_true];obtain⟨us,ys,hg,hc⟩:=h;split at hg
  ·rename_i AI;obtain⟨rfl,rfl,CN⟩:=hg;obtain⟨recs,e1,e2,e3,e4,_,e5⟩:=RS (c:=c) (nx:=nx) (mk:=DP x (Ao P t)) hc 0 (by rw[AI];exact VX hx);refine⟨recs,e1,e2,λr hr=>by have:=e3 r hr;exact⟨by omega,by omega,this.2.2⟩,e4,λc' ha AZ=> ?_⟩;obtain⟨q1,q2⟩:=e5 c' ha AZ;rw[if_pos AI];exact⟨.agg CN (by rw[BP.ax];exact q1) .nil,q2⟩
  ·rename_i AI;obtain⟨rfl,rfl⟩:=hg;have G8:Ao P t=false:=by simpa using AI
   obtain⟨recs,e1,e2,e3,e4,_,e5⟩:=RS (c:=c) (nx:=nx) (mk:=DP x (Ao P t)) hc 0 (by
    intro i z hz;cases i with
    |zero=>simp at hz;subst hz;simp[DP,G8,hx]
    |succ i=>simp at hz)
   refine⟨recs,e1,e2,λr hr=>by have:=e3 r hr;exact⟨by omega,by omega,this.2.2⟩,e4,λc' ha AZ=> ?_⟩;obtain⟨q1,q2⟩:=e5 c' ha AZ;refine⟨?_,q2⟩;rw[if_neg AI];have hl:=q1.len;generalize (C7 P nx (DP x (Ao P t)) 0 (A9 P t) fl).1=l at q1 hl
   match l,hl with
   | [s],_=>exact q1
 ·rename_i hf;simp only[hf,if_false,AS];obtain⟨h1,rfl⟩:=h;exact⟨[],rfl,rfl,by simp,by simp,λc' ha AZ=>⟨.e (f:=rf) (by rw[ha.w,ha.ρ,hx];exact h1) AZ .nil,by simp⟩⟩
theorem zsW{ts:List TypeId}{fl:List Bool}{x:E}{vs:List Value}{ys:List AV}{rf hs:List Nat}(h:Mm P w' ts fl vs ys rf hs):∀(nx i:Nat),(∀k y,ys[k]?=some y->(E.proj x (i+k)).den c.ρ=y)->
  ∃recs:List AW,(Nq P nx ts fl x i).2=recs.map AW.pair/\recs.flatMap AW.top=hs/\(∀r∈recs,nx<=r.tag/\r.tag<nx+(ts.flatMap (A9 P)).length/\r.new.isSome)/\(recs.map AW.tag).Nodup/\
   ∀c',Fh c c' w' recs->(∀b∈rf,c'.ok b)->SR c' (Nq P nx ts fl x i).1 vs/\ ∀r∈recs,Dv c' r.tag r.bk:=by
 induction h with
 |nil=>exact λnx i _=>⟨[],rfl,rfl,by simp,by simp,λc' _ _=>⟨.nil,by simp⟩⟩
 | @cons t ts fl v vs y ys f h rf hs h1 _ ih=>
  intro nx i hx;obtain⟨r1,a1,a2,a3,a4,a5⟩:=wV (c:=c) (nx:=nx) (x:= .proj x i) h1 (hx 0 y rfl);obtain⟨r2,b1,b2,b3,b4,b5⟩:=ih (nx+(A9 P t).length) (i+1) (λk z hz=>by rw[show i+1+k=i+(k+1)from by omega];exact hx (k+1) z (by simpa using hz));simp only[Nq];refine⟨r1++r2,by simp[a1,b1],by simp[a2,b2],λr hr=> ?_,?_,λc' ha AZ=> ?_⟩
  ·simp only[List.flatMap_cons,AP];rcases Ac.1 hr with hr|hr
   ·have:=a3 r hr;exact⟨this.1,by omega,this.2.2⟩
   ·have:=b3 r hr;exact⟨by omega,by omega,this.2.2⟩
  ·rw[List.map_append,List.nodup_append];refine⟨a4,b4,λt1 JW t2 KD he=> ?_⟩;obtain⟨q1,Qe,rfl⟩:=List.mem_map.1 JW;obtain⟨q2,I6,rfl⟩:=List.mem_map.1 KD;have:=a3 q1 Qe;have:=b3 q2 I6;omega
  ·obtain⟨p1,p2⟩:=a5 c' (ha.mono λr hr=>by simp[hr]) λb hb=>AZ b (by simp[hb]);obtain⟨q1,q2⟩:=b5 c' (ha.mono λr hr=>by simp[hr]) λb hb=>AZ b (by simp[hb]);refine⟨p1.cons q1,λr hr=> ?_⟩;rcases Ac.1 hr with hr|hr
   ·exact p2 r hr
   ·exact q2 r hr
end
theorem VK{α:Type}{f:α->List Nat}:∀{l:List α},(l.flatMap f).Nodup->(∀a∈l,(f a).Nodup)/\ ∀(i j:Nat) (a b:α) (x:Nat),l[i]?=some a->l[j]?=some b->x∈f a->x∈f b->i=j
 | [],_=>⟨by simp,by simp⟩
 |a::l,h=>by
  rw[List.flatMap_cons,List.nodup_append]at h;obtain⟨h1,h2,h3⟩:=h;obtain⟨k1,k2⟩:=VK h2;refine⟨λb hb=> ?_,λi j p q x hi hj hp hq=> ?_⟩
  ·rcases Ae.1 hb with rfl|hb
   ·exact h1
   ·exact k1 b hb
  ·cases i with
   |zero=>
    cases j with
    |zero=>rfl
    |succ j=>simp at hi hj;subst hi;exact absurd rfl (h3 x hp x (List.mem_flatMap.2 ⟨q,List.mem_of_getElem? hj,hq⟩))
   |succ i=>
    cases j with
    |zero=>simp at hi hj;subst hj;exact absurd rfl (h3 x hq x (List.mem_flatMap.2 ⟨p,List.mem_of_getElem? hi,hp⟩))
    |succ j=>rw[k2 i j p q x (by simpa using hi) (by simpa using hj) hp hq]
theorem Sm{recs:List AW}(hn:(recs.map AW.tag).Nodup){r:AW}(hr:r∈recs)(p:AW->Bool)(hp:p r=true)(El:∀q,p q=true->q.tag=r.tag):recs.find? p=some r:=by
 induction recs with
 |nil=>simp at hr
 |cons q recs ih=>
  simp only[List.map_cons,List.nodup_cons]at hn;rw[List.find?_cons];rcases Ae.1 hr with rfl|hr
  ·simp[hp]
  ·have:p q=false:=by
    cases hq:p q with
    |false=>rfl
    |true=>exact absurd (List.mem_map.2 ⟨r,hr,(El q hq).symm⟩) hn.1
   rw[this];exact ih hn.2 hr
def Cx.dh(c:Cx)(w':World)(recs:List AW):Cx:=
 {c with w:=w',G:=λt=>(match recs.find? (λr=>r.tag==t)with|some r=>⟨r.top,[]⟩|none=>c.G t),K:=λt g=>c.K t g\/ ∃r∈recs,r.tag=t/\r.new.isSome=true/\g=0,H:=λt g=>(match recs.find? (λr=>r.tag==t&&r.new.isSome)with|some r=>r.new.getD undef|none=>c.H t g),U:=λt=>c.U t\/ ∃r∈recs,r.tag=t,E:=λt=>match recs.find? (λr=>r.tag==t)with|some r=>if r.new.isSome then 0 else c.E t+1|none=>c.E t}
section
variable {P:Program} {c:Cx} {n:Nat} {sl:Nat->SV} {hp:Nat->Option Af} {a:Act} {w':World} {recs:List AW}
theorem Cx.dr(hn:(recs.map AW.tag).Nodup){r:AW}(hr:r∈recs):(c.dh w' recs).G r.tag=⟨r.top,[]⟩:=by simp only[Cx.dh];rw[Sm hn hr (λq=>q.tag==r.tag) (by simp) (λq hq=>by simpa using hq)]
theorem Cx.c8{t:Nat}(ht:∀r∈recs,r.tag≠t):(c.dh w' recs).G t=c.G t:=by
 simp only[Cx.dh];have:recs.find? (λr=>r.tag==t)=none:=by rw[List.find?_eq_none];intro r hr;simpa using ht r hr
 rw[this]
theorem Cx.df(hU:∀t g,c.K t g->c.U t)(hn:(recs.map AW.tag).Nodup)(Ba:∀r∈recs,r.new.isSome=true-> ¬c.U r.tag):Fh c (c.dh w' recs) w' recs:=by
 refine⟨rfl,rfl,λr hr=>Cx.dr hn hr,λr hr hv I9=>⟨.inr ⟨r,hr,rfl,by simp[I9],rfl⟩,λg hg=> ?_,?_⟩,λt g hk=>⟨.inl hk,?_⟩,λt ht g hk=> ?_,λr hr hs=> ?_,λr hr hs=> ?_⟩
 ·rcases hg with hg|⟨_,_,_,_,rfl⟩
  ·exact absurd (hU _ _ hg) (Ba r hr (by simp[I9]))
  ·exact AJ _
 ·simp only[Cx.dh];rw[Sm hn hr (λq=>q.tag==r.tag&&q.new.isSome) (by simp[I9]) (λq hq=>by simp only[Ab,AM]at hq;exact hq.1)];simp[I9]
 ·simp only[Cx.dh];have:recs.find? (λr=>r.tag==t&&r.new.isSome)=none:=by
   rw[List.find?_eq_none];rintro r hr hh;simp only[Ab,AM]at hh;exact Ba r hr hh.2 (hh.1▸hU t g hk)
  rw[this]
 ·rcases hk with hk|⟨r,hr,rfl,hh,_⟩
  ·exact hk
  ·exact absurd ht (Ba r hr hh)
 ·simp only[Cx.dh];rw[Sm hn hr (λq=>q.tag==r.tag) (by simp) (λq hq=>by simpa using hq)];simp[hs]
 ·simp only[Cx.dh];rw[Sm hn hr (λq=>q.tag==r.tag) (by simp) (λq hq=>by simpa using hq)];simp[hs]
theorem Cx.iq{t:Nat}(ht:∀r∈recs,r.tag≠t):(c.dh w' recs).E t=c.E t:=by
 simp only[Cx.dh];have:recs.find? (λr=>r.tag==t)=none:=by rw[List.find?_eq_none];intro r hr;simpa using ht r hr
 rw[this]
theorem Rel.changes(h:Rel c n sl hp a){hs:List Nat}{gs:Gd}(k:Bu c.ρ gs)(Bq:Mod hs c.w w')(hn:(recs.map AW.tag).Nodup)(Ba:∀r∈recs,r.new.isSome=true-> ¬c.U r.tag)
  (Hg:∀b∈hs,∃r∈recs,b∈(c.G r.tag).top) (EY:(recs.flatMap AW.top).Nodup) (Ce:∀r∈recs,∀b∈r.top,(b∈hs\/c.w.heap.size<=b)/\b<w'.heap.size)
  (BF:∀r∈recs,∀hs f,r.bk≠ .gd hs f) (BG:DY c (c.dh w' recs)-> ∀r∈recs,Dv (c.dh w' recs) r.tag r.bk):
  Rel (c.dh w' recs) n sl (Bk hp (recs.map λr=>(r.tag,CS gs r.bk))) a/\DY c (c.dh w' recs):=by
 have aft:=Cx.df (w':=w') h.bq hn Ba;have rY:∀b∈hs,c.M b:=λb hb=>by obtain⟨r,_,hr⟩:=Hg b hb;exact⟨_,hr⟩
 have Be:∀b∈hs,c.B<=b\/c.Mu b:=λb hb=>by obtain⟨r,_,hr⟩:=Hg b hb;exact h.gw.allow r.tag b (by simp[GI.own,hr])
 have Cd:DY c (c.dh w' recs):=by
  refine⟨rfl,rfl,λb hb AZ=>⟨λ⟨t,ht⟩=> ?_,AZ.2⟩,λb hb AZ=>Bq.block b hb λhh=>AZ.1 (rY b hh),aft.K,λt g hk=> ?_⟩;by_cases hT:∃r∈recs,r.tag=t
  ·obtain⟨r,hr,rfl⟩:=hT;rw[Cx.dr hn hr]at ht;rcases(Ce r hr b ht).1 with hh|hh
   ·exact AZ.1 (rY b hh)
   ·omega
  ·rw[Cx.c8 λr hr hh=>hT ⟨r,hr,hh⟩]at ht;exact AZ.1 ⟨t,ht⟩
  ·by_cases hT:∃r∈recs,r.tag=t
   ·obtain⟨r,hr,rfl⟩:=hT;have DU:r.new=none:=by
     cases hh:r.new with
     |none=>rfl
     |some v=>exact absurd (h.bq _ _ hk) (Ba r hr (by simp[hh]))
    rw[aft.fy r hr DU];exact⟨by omega,λh=>by omega⟩
   ·have qT:∀r∈recs,r.tag≠t:=λr hr hh=>hT ⟨r,hr,hh⟩;rw[Cx.iq qT,Cx.c8 qT];refine⟨AJ _,λ_=>⟨rfl,λb hb F9=>Bq.block b F9 λhh=> ?_⟩⟩;obtain⟨r,hr,Of⟩:=Hg b hh;exact h.gw.cq t r.tag (λhh=>hT ⟨r,hr,hh.symm⟩) b (by simp[GI.own,hb]) (by simp[GI.own,Of])
 have BG:=BG Cd;have JY:∀r∈recs,∀e',(r.tag,e')∈(recs.map λr=>(r.tag,CS gs r.bk))->e'=CS gs r.bk:=by
  intro r hr e' E7;obtain⟨q,hq,I7⟩:=List.mem_map.1 E7;simp only[AX]at I7;obtain⟨h1,rfl⟩:=I7;have e1:=Cx.dr (c:=c) (w':=w') hn hr;have:q=r:=by have f1:=Sm hn hr (λq=>q.tag==r.tag) (by simp) (λq hq=>by simpa using hq);have f2:=Sm hn hq (λp=>p.tag==r.tag) (by simp[h1]) (λp hp=>by rw[h1];simpa using hp);rw[f1]at f2;cases f2;rfl
  rw[this]
 refine⟨h.change (λt=> ∃r∈recs,r.tag=t) Cd ⟨Bq.os.trans h.base.os,Bq.tape.trans h.base.tape,Bq.output.trans h.base.output,Nat.le_trans h.base.size Bq.size,λt v Qd=>⟨.inl (h.base.pins t v Qd).1,λhk=> ?_⟩,λb hb Gg=> ?_,h.base.pk,h.base.lo⟩
  (λt ht=>⟨L2 λe he=> ?_,Cx.c8 λr hr hh=>ht ⟨r,hr,hh⟩,Cx.iq λr hr hh=>ht ⟨r,hr,hh⟩,λg hg=> ?_⟩) (λt ht b hb=>Bq.block b (h.gw.inb t b (by simp[GI.own,hb])) λhh=> ?_) (λt ht=> ?_) ⟨λt=> ?_,λt u MU b hb Cb=> ?_,λt b hb=> ?_,λt b hb=> ?_⟩ (λt g hk=> ?_) (λt e he=> ?_),Cd⟩
 ·have Cq:=aft.old t (h.base.pins t v Qd).1 0 hk;rw[(aft.K t 0 Cq).2];exact(h.base.pins t v Qd).2 Cq
 ·refine(Bq.block b (Nat.lt_of_lt_of_le hb h.base.size) λhh=> ?_).trans (h.base.block b hb Gg);rcases Be b hh with h1|h1
  ·exact absurd h1 (Nat.not_le.2 hb)
  ·exact Gg h1
 ·obtain⟨q,hq,I7⟩:=List.mem_map.1 he;simp only[AX]at I7;exact ht ⟨q,hq,I7.1⟩
 ·rcases hg with hg|⟨r,hr,HX,_⟩
  ·exact hg
  ·exact absurd ⟨r,hr,HX⟩ ht
 ·obtain⟨r,hr,F9⟩:=Hg b hh;exact h.gw.cq t r.tag (λhh=>ht ⟨r,hr,hh.symm⟩) b (by simp[GI.own,hb]) (by simp[GI.own,F9])
 ·obtain⟨r,hr,rfl⟩:=ht;have D4:=oL (hp:=hp) (l:=recs.map λr=>(r.tag,CS gs r.bk)) (List.mem_map.2 ⟨r,hr,rfl⟩) (JY r hr);rw[D4];refine⟨λe' Ub=> ?_,λDU=> ?_⟩
  ·rw[(Sn k (BF r hr)).1 Ub];exact BG r hr
  ·exact absurd ((Sn k (BF r hr)).2 rfl) (DU r.bk)
 ·by_cases hT:∃r∈recs,r.tag=t
  ·obtain⟨r,hr,rfl⟩:=hT;rw[Cx.dr hn hr];simpa[GI.own]using(VK EY).1 r hr
  ·rw[Cx.c8 λr hr hh=>hT ⟨r,hr,hh⟩];exact h.gw.nodup t
 ·by_cases hT:∃r∈recs,r.tag=t
  ·obtain⟨r,hr,rfl⟩:=hT;rw[Cx.dr hn hr]at hb;simp only[GI.own,AE]at hb;by_cases hV:∃r∈recs,r.tag=u
   ·obtain⟨q,hq,rfl⟩:=hV;rw[Cx.dr hn hq]at Cb;simp only[GI.own,AE]at Cb;obtain⟨i,hi⟩:=List.getElem?_of_mem hr;obtain⟨j,hj⟩:=List.getElem?_of_mem hq;have:=(VK EY).2 i j r q b hi hj hb Cb;subst this;rw[hi]at hj;cases hj;exact MU rfl
   ·rw[Cx.c8 λr hr hh=>hV ⟨r,hr,hh⟩]at Cb;rcases(Ce r hr b hb).1 with hh|hh
    ·obtain⟨q,hq,hbq⟩:=Hg b hh;exact h.gw.cq q.tag u (λhh=>hV ⟨q,hq,hh⟩) b (by simp[GI.own,hbq]) Cb
    ·have:=h.gw.inb u b Cb;omega
  ·rw[Cx.c8 λr hr hh=>hT ⟨r,hr,hh⟩]at hb;by_cases hV:∃r∈recs,r.tag=u
   ·obtain⟨q,hq,rfl⟩:=hV;rw[Cx.dr hn hq]at Cb;simp only[GI.own,AE]at Cb;rcases(Ce q hq b Cb).1 with hh|hh
    ·obtain⟨r,hr,WZ⟩:=Hg b hh;exact h.gw.cq r.tag t (λhh=>hT ⟨r,hr,hh⟩) b (by simp[GI.own,WZ]) hb
    ·have:=h.gw.inb t b hb;omega
   ·rw[Cx.c8 λr hr hh=>hV ⟨r,hr,hh⟩]at Cb;exact h.gw.cq t u MU b hb Cb
 ·by_cases hT:∃r∈recs,r.tag=t
  ·obtain⟨r,hr,rfl⟩:=hT;rw[Cx.dr hn hr]at hb;simp only[GI.own,AE]at hb;rcases(Ce r hr b hb).1 with hh|hh
   ·exact Be b hh
   ·exact .inl (Nat.le_trans h.base.size hh)
  ·rw[Cx.c8 λr hr hh=>hT ⟨r,hr,hh⟩]at hb;exact h.gw.allow t b hb
 ·by_cases hT:∃r∈recs,r.tag=t
  ·obtain⟨r,hr,rfl⟩:=hT;rw[Cx.dr hn hr]at hb;simp only[GI.own,AE]at hb;exact(Ce r hr b hb).2
  ·rw[Cx.c8 λr hr hh=>hT ⟨r,hr,hh⟩]at hb;exact Nat.lt_of_lt_of_le (h.gw.inb t b hb) Bq.size
 ·rcases hk with hk|⟨r,hr,HX,_⟩
  ·exact .inl (h.bq t g hk)
  ·exact .inr ⟨r,hr,HX⟩
 ·by_cases hT:∃r∈recs,r.tag=t
  ·exact .inr hT
  ·rw[L2]at he
   ·exact .inl (h.ct t e he)
   ·intro e' E7;obtain⟨q,hq,I7⟩:=List.mem_map.1 E7;simp only[AX]at I7;exact hT ⟨q,hq,I7.1⟩
end
def gK(P:Program)(w:World)(t:TypeId):PM->Value->AV->List Nat->List Nat->Prop
 | .ro,v,x,rf,hs=>Rd w [v] [x] rf/\hs=[]
 | .va own,v,x,rf,hs=>NQ P w t own v x rf hs
 | .mu own,v,x,rf,hs=>NQ P w t own v x rf hs
 | .bx own _,v,x,rf,hs=> ∃(ty:TypeId) (b:Nat) (C:Array Value) (ys:List AV) (h:List Nat),KH P t=some ty/\v= .pointer (some ⟨b,0,none⟩)/\w.heap[b]?=some (.cells C ty (0,0))/\(∀u∈C.toList,u.oneCell'=true)/\x= .ref (.agg ys)/\
   Cs P w (A9 P ty) own C.toList ys rf h/\hs=b::h
inductive DO(P:Program)(w:World):List TypeId->List PM->List Bool->List Value->List AV->List Nat->List Nat->List Nat->Prop where
 |nil {ms lo}:DO P w [] ms lo [] [] [] [] []
 |cons {t ts ms lo v vs x xs f h rf lf hs}:gK P w t (ms.headD .ro) v x f h->DO P w ts ms.tail lo.tail vs xs rf lf hs->DO P w (t::ts) ms lo (v::vs) (x::xs) (f++rf) lf (h++hs)
 |lent {t ts ms lo v vs x xs f rf lf hs}:lo.headD false=true->ms.headD .ro= .ro->Rd w [v] [x] f->DO P w ts ms.tail lo.tail vs xs rf lf hs->DO P w (t::ts) ms lo (v::vs) (x::xs) rf (f++lf) hs
 |free {ms lo v vs x xs f rf lf hs}:Rd w [v] [x] f->DO P w [] ms.tail lo.tail vs xs rf lf hs->DO P w [] ms lo (v::vs) (x::xs) (f++rf) lf hs
inductive G2(P:Program)(c:Cx):List TypeId->List Bool->List Value->List (Option RI)->Prop where
 |nil {fl}:G2 P c [] fl [] []
 |row {t ts fl v vs u g el rs}:fl.headD false=true->CT P t=some el->(Cc P el=true\/DE P t=none)->c.K u g->c.H u g=v->(∀g',c.K u g'->g'<=g)->G2 P c ts fl.tail vs rs->G2 P c (t::ts) fl (v::vs) (some (.fl u g el (P.cellsOf el) (Cc P el))::rs)
 |deep {t ts fl v vs u g el e z l ep rs}:fl.headD false=true->CT P t=some el->Cc P el=false->DE P t=some (.row e z (Az.of l))->c.K u g->c.H u g=v->(∀g',c.K u g'->g'<=g)->c.E u=ep->G2 P c ts fl.tail vs rs->G2 P c (t::ts) fl (v::vs) (some (.dp u g e z l ep)::rs)
 |none {t ts fl v vs rs}:(fl.headD false=true->CT P t=none\/ ∃a,v= .slice a 0 0)->G2 P c ts fl.tail vs rs->G2 P c (t::ts) fl (v::vs) (none::rs)
inductive Ji(P:Program)(c:Cx):List TypeId->List PM->List Value->List PA->Prop where
 |nil {ts ms}:Ji P c ts ms [] []
 |ro {ts ms v vs bs}:ms.headD .ro= .ro->Ji P c ts.tail ms.tail vs bs->Ji P c ts ms (v::vs) bs
 |va {ts ms own v vs bs us}:ms.headD .ro= .va own->(∀u∈us,c.U u)->Ji P c ts.tail ms.tail vs bs->Ji P c ts ms (v::vs) (.va us::bs)
 |mu {t ts ms own v vs bs us rs}:ms.headD .ro= .mu own->(if Ao P t then v= .agg us.toArray else us=[v])->G2 P c (A9 P t) own us rs->Ji P c ts ms.tail vs bs->Ji P c (t::ts) ms (v::vs) (.mu rs (Ao P t)::bs)
 |bx {t ts ms own own' ty v vs bs T b g olds}:ms.headD .ro= .bx own own'->KH P t=some ty->v= .pointer (some ⟨b,0,none⟩)->c.K T 0->c.H T 0=v->(∀u∈olds,c.U u)->Ji P c ts ms.tail vs bs->Ji P c (t::ts) ms (v::vs) (.box T g own' ty olds::bs)
section
variable {P:Program} {c:Cx} {hp:Nat->Option Af} {gs:Gd}
theorem Wa{t el:TypeId}{d:DT}(Bp:CT P t=some el)(h:DE P t=some d):P.cellsOf el≠0/\(A9 P el).length=P.cellsOf el/\ ∃l:List DT,d= .row el (P.cellsOf el) (Az.of l)/\l.length=P.cellsOf el:=by
 have hu:P.underlying t=some (.slice el):=by
  unfold CT at Bp;split at Bp
  ·simp at Bp;subst Bp;assumption
  ·cases Bp
  ·rename_i hu;unfold DE at h;split at h
   ·cases h
   ·simp[WO,hu]at h
 unfold DE at h;split at h
 ·cases h
 simp only[WO,hu]at h;split at h
 ·cases h
 ·rename_i hh;simp only[not_or,Decidable.not_not,ne_eq]at hh;obtain⟨l,hl,rfl⟩:=As.1 h;exact⟨hh.1,hh.2,l,rfl,by rw[mapM_len _ _ hl];exact hh.2⟩
where
 mapM_len {α β:Type} {f:α->Option β}:∀(l:List α) (l':List β),l.mapM f=some l'->l'.length=l.length
  | [],l',h=>by simp at h;subst h;rfl
  |a::l,l',h=>by simp only[List.mapM_cons,Option.bind_eq_bind,Av,Option.pure_def,Ad]at h;obtain⟨b,_,bs,P8,rfl⟩:=h;simp[mapM_len l bs P8]
theorem Cs.void{w:World}{t el:TypeId}{ts:List TypeId}{fl:List Bool}{a:Option Addr}{us:List Value}{ys:List AV}{rf hs:List Nat}(h1:fl.headD false=true)(h2:CT P t=some el)(hz:P.cellsOf el≠0)(h:Cs P w ts fl.tail us ys rf hs):Cs P w (t::ts) fl (.slice a 0 0::us) (.sl []::ys) rf ([]++hs):=by
 have Be:C3 w el (P.cellsOf el) (.slice a 0 0) (.sl []) [] []:=⟨[],rfl,by simp,by omega, .inl ⟨rfl,⟨a,rfl⟩,rfl,rfl⟩⟩
 cases hf:Cc P el with
 |true=>exact .own h1 h2 (.inl ⟨hf,rfl⟩) Be h
 |false=>
  cases hd:DE P t with
  |none=>exact .own h1 h2 (.inr ⟨hf,hd⟩) Be h
  |some d=>obtain⟨_,_,l,rfl,hl⟩:=Wa h2 hd;exact .deep h1 h2 hf hd (.void (by omega) (by rw[Az.ax];exact hl) .nil) h
theorem xY{as_ bs:List Value}(h:Value.agg as_.toArray= .agg bs.toArray):as_=bs:=by
 have h1:as_.toArray=bs.toArray:=by injection h
 have:=congrArg Array.toList h1;simpa using this
theorem lO(eh:EH c hp)(k:Bu c.ρ gs)(hU:∀t g,c.K t g->c.U t):∀(ts:List TypeId) {cs:List SV} {fl:List Bool} {rs:List (Option RI)} {us:List Nat} {vs:List Value} {xs:EL} {m:Nat},Ht P hp gs ts cs fl=some (rs,us)->SR c cs vs->CF hp gs m cs=some xs->m<=A6->
  ∃rf hs,Cs P c.w ts fl vs (xs.den c.ρ) rf hs/\(∀b∈rf,c.dy us b)/\hs=(CP rs).flatMap (λt=>(c.G t).top)/\G2 P c ts fl vs rs/\ ∀u∈CP rs,c.U u
 | [],[],fl,rs,us,vs,xs,m,h,hs,hx,hm=>by
  simp[Ht]at h;obtain⟨rfl,rfl⟩:=h;cases hs;cases m with
  |zero=>simp[CF]at hx
  |succ m=>simp[CF]at hx;subst hx;exact⟨[],[], .nil,by simp,by simp[CP], .nil,by simp[CP]⟩
 | [],s::cs,fl,rs,us,vs,xs,m,h,hs,hx,hm=>by simp[Ht]at h
 |t::ts,[],fl,rs,us,vs,xs,m,h,hs,hx,hm=>by simp[Ht]at h
 |t::ts,s::cs,fl,rs,us,[],xs,m,h,hs,hx,hm=>by have:=hs.len;simp at this
 |t::ts,s::cs,fl,rs,us,v::vs,xs,m,h,hs,hx,hm=>by
  obtain⟨j,y,ys,rfl,hy,Dp,rfl⟩:=KP hx;obtain⟨r1,r2⟩:=hs.cf;unfold Ht at h;split at h
  ·cases h
  rename_i rs' us' Dn;obtain⟨rf,A5,q1,q2,q3,q4,q5⟩:=lO eh k hU ts Dn r2 Dp (by omega);split at h
  ·rename_i hf;split at h
   ·rename_i r hr;simp only[Ad,AX]at h;obtain⟨rfl,rfl⟩:=h;unfold oV at hr;split at hr
    ·cases hr
    rename_i el Bp;split at hr
    ·cases hr
    rename_i hz;have empt:∀a,v= .slice a 0 0->y.den c.ρ= .sl []->r=none-> ∃rf hs,Cs P c.w (t::ts) fl (v::vs) ((EL.cons y ys).den c.ρ) rf hs/\(∀b∈rf,c.dy us' b)/\hs=(CP (r::rs')).flatMap (λt=>(c.G t).top)/\G2 P c (t::ts) fl (v::vs) (r::rs')/\ ∀u∈CP (r::rs'),c.U u:=by rintro a rfl HY rfl;refine⟨rf,[]++A5,?_,q2,by simpa[CP]using q3, .none (λ_=> .inr ⟨a,rfl⟩) q4,by simpa[CP]using q5⟩;rw[EL.den,HY];exact Cs.void hf Bp (by omega) q1
    split at hr
    ·simp only[Ad]at hr;subst hr;cases r1 with
     |cd _=>exact empt _ rfl (by rw[LW hy];rfl) rfl
    ·simp only[Ad]at hr;subst hr;cases r1 with
     |emp _=>
      refine empt _ rfl ?_ rfl;cases j with
      |zero=>simp[BB]at hy
      |succ j=>simp[BB]at hy;subst hy;rfl
    ·rename_i u g;split at hr
     ·rename_i e z g' x d hl;split at hr
      ·rename_i hh;obtain⟨rfl,rfl,rfl,Hd⟩:=hh;simp only[Ad]at hr;subst hr;obtain⟨p1,p2,N,p3,p4,p5,_⟩:=eh u _ (CJ hl k);have Om:Cc P e=true\/DE P t=none:=Hd.imp (·.1) (by rintro⟨_,h⟩;simpa using h);have Hd:Cc P e=true/\N=[]\/Cc P e=false/\DE P t=none:=by
        rcases Hd with⟨h1,h2⟩|⟨h1,h2⟩
        ·exact .inl ⟨h1,(p5 h2).1⟩
        ·exact .inr ⟨h1,by simpa using h2⟩
       have Hn:y=x:=by
        cases j with
        |zero=>simp[BB]at hy
        |succ j=>simp[BB,IK,hl]at hy;exact hy.symm
       subst Hn;have hv:c.H u g=v:=by
        cases r1 with
        |own _ k2 _=>exact k2
       rw[hv]at p3;refine⟨N++rf,(c.G u).top++A5,Cs.own hf Bp Hd p3 q1,λb hb=> ?_,by simp[CP,RI.tag,q3], .row hf Bp Om p1 hv p2 q4,λw hw=> ?_⟩
       ·rcases Ac.1 hb with hb|hb
        ·exact .inl (p4 b hb)
        ·exact q2 b hb
       simp only[CP,List.filterMap_cons,Option.map_some,RI.tag,Ae]at hw;rcases hw with rfl|hw
       ·exact hU _ _ p1
       ·exact q5 w hw
      ·cases hr
     ·rename_i e z l g' ep x hl;split at hr
      ·rename_i hh;obtain⟨rfl,Gj,DJ⟩:=hh;have DJ:=Pr DJ;simp only[Ad]at hr;subst hr;obtain⟨p1,p2,pE,p3,_⟩:=eh u _ (CJ hl k);have Hn:y=x:=by
        cases j with
        |zero=>simp[BB]at hy
        |succ j=>simp[BB,IK,hl]at hy;exact hy.symm
       subst Hn;have hv:c.H u g=v:=by
        cases r1 with
        |own _ k2 _=>exact k2
       rw[hv]at p3;refine⟨rf,(c.G u).top++A5,Cs.deep hf Bp Gj DJ p3 q1,q2,by simp[CP,RI.tag,q3], .deep hf Bp Gj DJ p1 hv p2 pE q4,λw hw=> ?_⟩;simp only[CP,List.filterMap_cons,Option.map_some,RI.tag,Ae]at hw;rcases hw with rfl|hw
       ·exact hU _ _ p1
       ·exact q5 w hw
      ·cases hr
     ·cases hr
    ·cases hr
   ·cases h
  ·rename_i hf;simp only[Ad,AX]at h;obtain⟨rfl,rfl⟩:=h;obtain⟨f,p1,p2⟩:=H8 eh k j hy r1 A6 (by omega);refine⟨f++rf,A5,Cs.rd (λhh=>absurd hh hf) p1 q1,λb hb=> ?_,by simpa[CP]using q3, .none (λhh=>absurd hh hf) q4,by simpa[CP]using q5⟩;rcases Ac.1 hb with hb|hb
   ·exact(p2 b hb).mono λt ht=>by simp[ht]
   ·exact(q2 b hb).mono λt ht=>by simp[ht]
theorem xJ(eh:EH c hp)(k:Bu c.ρ gs)(hU:∀t g,c.K t g->c.U t){t:TypeId}{s:SV}{v:Value}{fl:List Bool}{rs:List (Option RI)}{us:List Nat}{x:E}(hs:SR c [s] [v])(hx:BB hp gs A6 s=some x)(hg:(H6 s).2=Ao P t)
  (h:Ht P hp gs (A9 P t) (H6 s).1 fl=some (rs,us)):
  ∃rf hs,NQ P c.w t fl v (x.den c.ρ) rf hs/\(∀b∈rf,c.dy us b)/\hs=(CP rs).flatMap (λt=>(c.G t).top)/\(∃vs',(if Ao P t then v= .agg vs'.toArray else vs'=[v])/\G2 P c (A9 P t) fl vs' rs)/\ ∀u∈CP rs,c.U u:=by
 have single:∀(s:SV),SR c [s] [v]->BB hp gs A6 s=some x->Ao P t=false->Ht P hp gs (A9 P t) [s] fl=some (rs,us)-> ∃rf hs,NQ P c.w t fl v (x.den c.ρ) rf hs/\(∀b∈rf,c.dy us b)/\hs=(CP rs).flatMap (λt=>(c.G t).top)/\(∃vs',(if Ao P t then v= .agg vs'.toArray else vs'=[v])/\G2 P c (A9 P t) fl vs' rs)/\ ∀u∈CP rs,c.U u:=by
  intro s hs hx AI h;obtain⟨t0,MS⟩:∃t0,A9 P t=[t0]:=by
   cases hh:A9 P t with
   |nil=>rw[hh]at h;simp[Ht]at h
   |cons t0 l=>
    cases l with
    |nil=>exact⟨t0,rfl⟩
    |cons t1 l=>rw[hh]at h;simp[Ht]at h
  rw[MS]at h;have key:∃rf hs,Cs P c.w [t0] fl [v] [x.den c.ρ] rf hs/\(∀b∈rf,c.dy us b)/\hs=(CP rs).flatMap (λt=>(c.G t).top)/\G2 P c [t0] fl [v] rs/\ ∀u∈CP rs,c.U u:=by
   unfold Ht at h;simp only[Ht]at h;split at h
   ·rename_i hf;split at h
    ·rename_i r hr;simp only[Ad,AX]at h;obtain⟨rfl,rfl⟩:=h;unfold oV at hr;split at hr
     ·cases hr
     rename_i el Bp;split at hr
     ·cases hr
     rename_i hz;have empt:∀a,v= .slice a 0 0->x.den c.ρ= .sl []->r=none-> ∃rf hs,Cs P c.w [t0] fl [v] [x.den c.ρ] rf hs/\(∀b∈rf,c.dy ([]:List Nat) b)/\hs=(CP [r]).flatMap (λt=>(c.G t).top)/\G2 P c [t0] fl [v] [r]/\ ∀u∈CP [r],c.U u:=by rintro a rfl HY rfl;refine⟨[],[]++ [],?_,by simp,by simp[CP], .none (λ_=> .inr ⟨a,rfl⟩) .nil,by simp[CP]⟩;rw[HY];exact Cs.void hf Bp (by omega) .nil
     split at hr
     ·simp only[Ad]at hr;subst hr;cases hs with
      |cd _=>exact empt _ rfl (by rw[LW hx];rfl) rfl
     ·simp only[Ad]at hr;subst hr;cases hs with
      |emp _=>refine empt _ rfl ?_ rfl;simp[A6,BB]at hx;subst hx;rfl
     ·rename_i u g;split at hr
      ·rename_i e z g' x0 d hl;split at hr
       ·rename_i hh;obtain⟨rfl,rfl,rfl,Hd⟩:=hh;simp only[Ad]at hr;subst hr;obtain⟨p1,p2,N,p3,p4,p5,_⟩:=eh u _ (CJ hl k);have Om:Cc P e=true\/DE P t0=none:=Hd.imp (·.1) (by rintro⟨_,h⟩;simpa using h);have Hd:Cc P e=true/\N=[]\/Cc P e=false/\DE P t0=none:=by
         rcases Hd with⟨h1,h2⟩|⟨h1,h2⟩
         ·exact .inl ⟨h1,(p5 h2).1⟩
         ·exact .inr ⟨h1,by simpa using h2⟩
        have Hn:x=x0:=by simp[A6,BB,IK,hl]at hx;exact hx.symm
        subst Hn;have hv:c.H u g=v:=by
         cases hs with
         |own _ k2 _=>exact k2
        rw[hv]at p3;refine⟨N++ [],(c.G u).top++ [],Cs.own hf Bp Hd p3 .nil,λb hb=> .inl (p4 b (by simpa using hb)),by simp[CP,RI.tag], .row hf Bp Om p1 hv p2 .nil,λw hw=> ?_⟩;simp only[CP,List.filterMap_cons,Option.map_some,RI.tag,List.filterMap_nil,Ae,List.not_mem_nil,or_false]at hw;subst hw;exact hU _ _ p1
       ·cases hr
      ·rename_i e z l g' ep x0 hl;split at hr
       ·rename_i hh;obtain⟨rfl,Gj,DJ⟩:=hh;have DJ:=Pr DJ;simp only[Ad]at hr;subst hr;obtain⟨p1,p2,pE,p3,_⟩:=eh u _ (CJ hl k);have Hn:x=x0:=by
         simp[A6,BB,IK,hl]at hx;exact hx.symm
        subst Hn;have hv:c.H u g=v:=by
         cases hs with
         |own _ k2 _=>exact k2
        rw[hv]at p3;refine⟨[],(c.G u).top++ [],Cs.deep hf Bp Gj DJ p3 .nil,by simp,by simp[CP,RI.tag], .deep hf Bp Gj DJ p1 hv p2 pE .nil,λw hw=> ?_⟩;simp only[CP,List.filterMap_cons,Option.map_some,RI.tag,List.filterMap_nil,Ae,List.not_mem_nil,or_false]at hw;subst hw;exact hU _ _ p1
       ·cases hr
      ·cases hr
     ·cases hr
    ·cases h
   ·rename_i hf;simp only[Ad,AX]at h;obtain⟨rfl,rfl⟩:=h;obtain⟨f,p1,p2⟩:=H8 eh k A6 hx hs A6 (AJ _);refine⟨f++ [],[],Cs.rd (λhh=>absurd hh hf) p1 .nil,λb hb=> ?_,by simp[CP], .none (λhh=>absurd hh hf) .nil,by simp[CP]⟩;rw[AE]at hb;exact(p2 b hb).mono λt ht=>by simp[ht]
  obtain⟨rf,A5,q1,q2,q3,q4,q5⟩:=key;refine⟨rf,A5,⟨[v],[x.den c.ρ],?_,by rw[MS];exact q1⟩,q2,q3,⟨[v],?_,by rw[MS];exact q4⟩,q5⟩
  ·rw[if_neg (by rw[AI];simp)];exact⟨rfl,rfl⟩
  ·rw[if_neg (by rw[AI];simp)]
 cases s with
 |agg cs=>
  simp only[H6]at hg h;obtain⟨m,l,hm,hl,rfl⟩:=V2 hx;cases hs with
  |agg h9 h1 h8=>
   rename_i as_;have CX:m<=A6:=by simp only[A6]at hm ⊢;omega
   obtain⟨rf,A5,q1,q2,q3,q4,q5⟩:=lO (P:=P) eh k hU (A9 P t) h h1 hl CX;refine⟨rf,A5,⟨as_,l.den c.ρ,?_,q1⟩,q2,q3,⟨as_,?_,q4⟩,q5⟩
   ·rw[if_pos hg.symm];exact⟨rfl,rfl,h9⟩
   ·rw[if_pos hg.symm]
 |_=>exact single _ hs hx hg.symm h
end
end
end Go.Proofs.YtalagilebkaegaaGreat

/- Parts of a proof, joined: VX, WB, WC, WD, WE, WF, WG, WH, WI, WJ, WK, WL, WM, WN, WO. -/
import Derived.Test.YtagokdejdanfcaaGreatDoorE3
import Derived.Orders
import Derived.Lib.SliceRun
import Derived.Laws.Slices
import Derived.Laws.MakeOwn
import Derived.Laws.StructEq
set_option linter.unusedVariables false
set_option linter.unusedSimpArgs false
section
namespace Go.Proofs.YtagokdejdanfcaaGreatDoor
open Go.RowKit
section
variable {P:Program} {c:Cx} {n nx:Nat} {sl sl0:Nat→SV} {hp hp0:Nat→Option Af} {a:Act} {o:Oper} {gs:Gd} {e:AO} {sg:BB} {nv:Nat}
def Cx.ea (c:Cx) (w':World) (t:Nat) (O:List Nat):Cx:={c with w:=w',G:=fun u=>if u=t then⟨(c.G t).top,O⟩else c.G u,E:=fun u=>if u=t then c.E u+1 else c.E u}
theorem Rel.ij (h:Rel c n sl hp a) {t:Nat} {e0:Af} {b:Nat} {w':World} {O:List Nat} (AN:BR c.ρ (hp t) e0) (BV:b∈(c.G t).top) (hO:O= []∨O=(c.G t).O) (hm:Mod [b] c.w w') (BU:w'.heap.size=c.w.heap.size) (e1:Af) (Bk: ∀hs f,e1≠ .gd hs f)
  (he:CQ c (c.ea w' t O)→Co (c.ea w' t O) t e1):
  Rel (c.ea w' t O) n sl (AX hp [(t,e1)]) a:=by
 have Bl:b∈(c.G t).own:=by simp [GI.own,BV]
 have hG: ∀u,(c.ea w' t O).G u=if u=t then⟨(c.G t).top,O⟩else c.G u:=fun u=>rfl;have DI: ∀u,((c.ea w' t O).G u).top=(c.G u).top:=by
  intro u;rw [hG];split
  ·rename_i hu;rw [hu]
  ·rfl
 have Br: ∀u,∀q∈((c.ea w' t O).G u).own,q∈(c.G u).own:=by
  intro u q hq;rw [hG]at hq;split at hq
  ·rename_i hu;subst hu;simp only [GI.own,Ag]at hq ⊢;rcases hq with hq|hq
   ·exact .inl hq
   ·rcases hO with rfl|rfl
    ·simp at hq
    ·exact .inr hq
  ·exact hq
 have Bv:CQ c (c.ea w' t O):=by
  refine⟨rfl,rfl,fun q _ hq=>⟨fun⟨u,hu⟩=>hq.1 ⟨u,by rw [DI]at hu;exact hu⟩,hq.2⟩,fun q hq AE=>hm.block q hq ?_,fun u g hu=>⟨hu,rfl⟩,fun u g hu=> ?_⟩
  ·simp only [List.mem_singleton];rintro rfl;exact AE.1 ⟨t,BV⟩
  ·by_cases E5:u=t
   ·have e1:(c.ea w' t O).E u=c.E u+1:=by simp only [Cx.ea,if_pos E5]
    exact⟨by omega,fun h=>by omega⟩
   ·have e1:(c.ea w' t O).E u=c.E u:=by simp only [Cx.ea,if_neg E5]
    have e2:(c.ea w' t O).G u=c.G u:=by simp only [Cx.ea,if_neg E5]
    rw [e1];refine⟨Nat.le_refl _,fun _=>⟨e2,fun q hq FJ=>hm.block q FJ ?_⟩⟩;simp only [List.mem_singleton];rintro rfl;exact h.gw.cc t u (Ne.symm E5) q Bl (by simp [GI.own,hq])
 have C1: ∀u,AX hp [(t,e1)] u=if u=t then some e1 else hp u:=fun u=>rfl;refine h.change (fun u=>u=t) Bv ⟨hm.os.trans h.base.os,hm.tape.trans h.base.tape,hm.output.trans h.base.output,Nat.le_trans h.base.size hm.size,h.base.pins,fun q hq Gc=> ?_,h.base.pk,h.base.lo⟩
  (fun u hu=>⟨by rw [C1,if_neg hu],by rw [hG,if_neg hu],by simp [Cx.ea,hu],fun g hg=>hg⟩) (fun u hu q hq=>hm.block q (h.gw.inb u q (by simp [GI.own,hq])) ?_) (fun u hu=> ?_) ⟨fun u=> ?_,fun u v Uu q hq Ui=>h.gw.cc u v Uu q (Br u q hq) (Br v q Ui),fun u q hq=>h.gw.allow u q (Br u q hq),fun u q hq=> ?_⟩ h.bm (fun u f hf=> ?_)
 ·refine(hm.block q (Nat.lt_of_lt_of_le hq h.base.size) ?_).trans (h.base.block q hq Gc);simp only [List.mem_singleton];rintro rfl;rcases h.gw.allow t q Bl with hh|hh
  ·exact absurd hh (Nat.not_le.2 hq)
  ·exact Gc hh
 ·simp only [List.mem_singleton];rintro rfl;exact h.gw.cc t u (Ne.symm hu) q Bl (by simp [GI.own,hq])
 ·subst hu;rw [C1,if_pos rfl];refine⟨fun e' hr=> ?_,fun hn=> ?_⟩
  ·cases e1<;>first
    |(simp only [BR]at hr;subst hr;exact he Bv)
    |exact absurd rfl (Bk _ _)
  ·cases e1<;>first
    |exact absurd rfl (Bk _ _)
    |exact absurd rfl (hn _)
 ·rw [hG];split
  ·rename_i hu;subst hu;have h0:=h.gw.nodup u;simp only [GI.own]at h0 ⊢;rcases hO with rfl|rfl
   ·rw [List.append_nil];exact(List.nodup_append.1 h0).1
   ·exact h0
  ·exact h.gw.nodup u
 ·show q<w'.heap.size;rw [BU];exact h.gw.inb u q (Br u q hq)
 ·rw [C1]at hf;split at hf
  ·rename_i hu;subst hu;cases hh:hp u with
   |none=>rw [hh]at AN;exact AN.elim
   |some e9=>exact h.cf u e9 hh
  ·exact h.cf u f hf
theorem MC {α:Type} (L vs:List α) (p m:Nat) (h:p+vs.length≤m) (hm:m≤L.length):(setVs L p vs).take m=setVs (L.take m) p vs:=by
 apply List.ext_getElem?;intro j;have hl:(L.take m).length=m:=by rw [List.length_take];omega
 rw [List.getElem?_take,MF (L.take m) vs p (by omega) j,MF L vs p (by omega) j,List.getElem?_take];by_cases h1:p≤j∧j<p+vs.length
 ·rw [if_pos (by omega),if_pos h1,if_pos h1]
 ·rw [if_neg h1,if_neg h1]
theorem Rd.setVs {w:World} {L V:List Value} {X Y:List AV} {N f:List Nat} {p:Nat} (h:Rd w L X N) (k:Rd w V Y f) (hp:p+V.length≤L.length):
  ∃n1 n2 n3,N=n1++n2++n3∧Rd w (Go.Proofs.YtagokdejdanfcaaGreatDoor.setVs L p V) (Go.Proofs.YtagokdejdanfcaaGreatDoor.setVs X p Y) (n1++f++n3)∧Rd w ((L.drop p).take V.length) ((X.drop p).take V.length) n2:=by
 have hl:=h.len;have hk:=k.len;have e1:L=L.take p++((L.drop p).take V.length++L.drop (p+V.length)):=by rw [←List.drop_drop,List.take_append_drop,List.take_append_drop]
 have e2:X=X.take p++((X.drop p).take V.length++X.drop (p+V.length)):=by rw [←List.drop_drop,List.take_append_drop,List.take_append_drop]
 have h':=h;rw [e1,e2]at h';obtain⟨n1,m,rfl,g1,g2⟩:=Rd.dq (by simp;omega) h';obtain⟨n2,n3,rfl,g3,g4⟩:=Rd.dq (by simp;omega) g2;refine⟨n1,n2,n3,by simp, ?_,g3⟩;unfold Go.Proofs.YtagokdejdanfcaaGreatDoor.setVs;rw [←hk];exact(g1.app k).app g4
theorem Sf {sz:Nat}: ∀(ys:List AV) (k:Nat) (z y:AV) (o:Nat) (vc:List AV),(∀y∈ys,y.cells.length=sz)→ys[k]?=some y→o+vc.length≤sz→z.cells=setVs y.cells o vc→AH (ys.set k z)=setVs (AH ys) (k*sz+o) vc
 | [],k,z,y,o,vc,_,h,_,_=>by simp at h
 |q::ys,0,z,y,o,vc,hs,h,ho,hz=>by simp at h;subst h;have hq:=hs q (by simp);simp only [AH,List.set_cons_zero,List.flatMap_cons,Nat.zero_mul,Nat.zero_add,hz];unfold setVs;rw [List.take_append_of_le_length (by omega),List.drop_append_of_le_length (by omega)];simp
 |q::ys,k+1,z,y,o,vc,hs,h,ho,hz=>by
  have hq:=hs q (by simp);have ih:=Sf ys k z y o vc (fun u hu=>hs u (by simp [hu])) (by simpa using h) ho hz;simp only [AH,List.set_cons_succ,List.flatMap_cons]at ih ⊢;rw [ih];unfold setVs;have e0:(k+1)*sz+o=q.cells.length+(k*sz+o):=by rw [hq,Nat.add_mul];omega
  rw [e0,List.take_length_add_append,Nat.add_assoc (q.cells.length),List.drop_length_add_append];simp
theorem VW {y x:AV} {k:Nat} {g:Bool} (hx:(∀cs,x≠ .agg cs)∨g=true) (hy:g=false→y.cells.length=1∧k=0∧x.cells= [x]):(y.c9 k x g).cells=setVs y.cells k x.cells:=by
 cases g with
 |true=>simp [AV.c9,AV.cells,setVs]
 |false=>obtain⟨h1,h2,h3⟩:=hy rfl;subst h2;simp only [AV.c9,h3,setVs];rw [if_neg (by simp)];rw [h3];simp only [List.take_zero,List.nil_append,An,List.length_nil,Nat.zero_add];rw [List.drop_eq_nil_of_le (by omega)];simp
theorem lZ (h:Ba P c n nx sl hp a sl0 hp0 o gs) {t:TypeId} {x y:Operand} (ho:o.op= .store t x y) {b g:Nat} {ix:E} {sz k:Nat} {s:SV} (Cu: ∃e z g c d,Cs hp0 gs b=some (.row e z g c d)) (hx:Bo sl0 gs x=some (.cg b g ix sz k)) (hy:Bo sl0 gs y=some s)
  (he:Kc P hp0 gs t (.cg b g ix sz k) s=some e) (hc: ∀q∈e.cd,Cn.den c.ρ q):Ar P o c n nx sl hp gs a e:=by
 have r1:=h.cm hx (by simp [ho,Op.operands]);have r2:=h.cm hy (by simp [ho,Op.operands]);simp only [Kc]at he;split at he
 ·rename_i el sz' g' c0 d hl;split at he
  ·rename_i hh;obtain⟨rfl,rfl,rfl,A8,hle,El,Dg⟩:=hh;split at he
   ·rename_i xe fz dx ck BF;split at he
    ·cases he
    rename_i D0;simp only [Ae]at he;subst he;have D0: ∀f,(b,f)∉fz:=fun f hf=>D0 (by simp only [List.contains_eq_mem,decide_eq_true_eq];exact List.mem_map.2 ⟨_,hf,rfl⟩);obtain⟨f,q1,q2,⟨ts,q3⟩,q5⟩:=YM h.rel h.hp h.gs r2 BF (fun q hq=>hc q (by simp [hq]));obtain⟨q3,q4⟩:=q3;have AN:=I9 h.hp (Ce hl h.gs);have Cq:=h.rel.freeze h.hp h.gs q3;have JU:BR (c.bg (fz.map (·.1))).ρ (AX hp fz b) (.row el sz g c0 d):=by rw [I8 D0];exact AN
    obtain⟨e1,e2,N,e3,e4,e5,e6⟩:=Cq.ents b _ JU;obtain⟨o1,o2,o3,o4⟩:=V8 (P:=P) q1 Dg q5;generalize hv:a.eval x=v at r1;cases r1 with
    |cg k1 k2 k3 k4 k5 _=>
     rename_i m len cap kk kv k6;obtain⟨xs,p1,p2,p3,pcase⟩:=e3;have p1':c0.den c.ρ= .sl xs:=p1;rcases pcase with⟨_,⟨_,pv⟩,_⟩|⟨g9,cap9,C,pv,p4,p5,p6,p7,p8,p9,p10⟩
     ·exfalso;have:c.H b g=_:=pv;rw [k2]at this;cases this;omega
     ·have pv':c.H b g= .slice (some ⟨g9,0,none⟩) xs.length cap9:=pv;rw [k2]at pv';simp only [Value.slice.injEq,Ae,Addr.mk.injEq,and_true]at pv';obtain⟨rfl,rfl,rfl⟩:=pv';have Ga:kv.toNat<xs.length:=by omega
      have EM:=Kn Ga;generalize GH:(AV.sl xs).nth kv.toNat=yk at EM;have Ep:=p2 yk (List.mem_of_getElem? EM);have Ev:(a.eval y).cells.toList.length=P.cellsOf t:=by simpa using o4
      have hmul:(kv.toNat+1)*sz≤xs.length*sz:=Nat.mul_le_mul_right _ (by omega);have C4:C.toList.length=cap*sz:=by simpa using p7
      have EG:xs.length*sz≤cap*sz:=Nat.mul_le_mul_right _ p4;rw [Nat.add_mul]at hmul;have p6':c.w.heap[m]?=some (.cells C el (0,0)):=p6;obtain⟨m1,m2,m3⟩:=RC (vs:=(a.eval y).cells.toList) p6' (show(kv.toNat*sz+k)+_≤C.size by rw [Ev,p7];omega);have KY:(C.toList.take (xs.length*sz)).length=xs.length*sz:=by rw [List.length_take,C4];omega
      obtain⟨n1,n2,n3,hN,s1,s2⟩:=Rd.setVs (p:=kv.toNat*sz+k) p10 o1 (by rw [KY,Ev];omega);have En: ∀z,z<c.w.heap.size→(c.bg (fz.map (·.1))).ok z→(Ch c.w m (kv.toNat*sz+k) (a.eval y).cells.toList).heap[z]?=c.w.heap[z]?:=by intro z hz AE;refine m1.block z hz ?_;simp only [List.mem_singleton];rintro rfl;exact AE.1 ⟨b,by rw [p8];simp⟩
      have BD:(d&&dx)=true→n2= []∧f= []:=by
       intro DO;have eU:Cn.den c.ρ (.flat (.fld (.idx c0 ix) k (P.cellsOf t) (Ak P t)) (P.cellsOf t) (Ak P t)):=hc _ (by simp [DO]);obtain⟨f1,f2,f3,f4⟩:=eU;simp only [Ac]at DO;refine⟨?_,q2 DO.2⟩;have K5:((AH xs).drop (kv.toNat*sz+k)).take (a.eval y).cells.toList.length=(yk.cells.drop k).take (P.cellsOf t):=by rw [Ev];exact Po xs p2 _ _ EM k (P.cellsOf t) hle
       rw [K5]at s2;have BC:(E.fld (.idx c0 ix) k (P.cellsOf t) (Ak P t)).den c.ρ=yk.fld k (P.cellsOf t) (Ak P t):=by simp only [E.den,p1',k3,AV.idx,GH]
       rw [BC]at f2;refine FR s2 ?_;cases hg:Ak P t with
       |true=>rw [hg]at f2;simpa [AV.fld,AV.cells]using f2
       |false=>
        have h1:P.cellsOf t=1:=by rcases Dg with h'|h';rw [hg]at h';cases h';exact h'
        rw [BC]at f4;have f4:=f4 hg;rw [hg]at f4;have AD:k<yk.cells.length:=by omega
        rw [h1,List.drop_eq_getElem_cons AD,List.take_succ_cons,List.take_zero];simp only [List.mem_singleton,forall_eq];simpa [AV.fld,AD]using f4
      have hz:(yk.c9 k (xe.den c.ρ) (Ak P el)).cells=setVs yk.cells k (xe.den c.ρ).cells:=by
       refine VW ?_ (fun hg=> ?_)
       ·cases hg:Ak P el with
        |true=>exact .inr rfl
        |false=>
         left;rcases El with h'|⟨_,h'⟩
         ·rw [hg]at h';cases h'
         ·have h':Ak P t=false:=by simpa using h'
          rw [h']at q5;exact fun cs=>(q5.1 cs)
       ·rcases El with h'|⟨h1,h'⟩
        ·rw [hg]at h';cases h'
        ·have h':Ak P t=false:=by simpa using h'
         rw [h']at q5;have L3:P.cellsOf t=1:=by rcases Dg with h2|h2;rw [h']at h2;cases h2;exact h2
         refine⟨by omega,by omega, ?_⟩;cases Lf:xe.den c.ρ<;>first|rfl|exact absurd Lf (q5.1 _)
      have Dy:AH (xs.set kv.toNat (yk.c9 k (xe.den c.ρ) (Ak P el)))=setVs (AH xs) (kv.toNat*sz+k) (xe.den c.ρ).cells:=
       Sf xs _ _ yk k _ p2 EM (by rw [o3];exact hle) hz
      have CU:=Cq.ij (t:=b) (b:=m) (w':=Ch c.w m (kv.toNat*sz+k) (a.eval y).cells.toList) (O:=if(d&&dx)=true then((c.bg (fz.map (·.1))).G b).O else []) JU (by rw [p8];simp) (by split;exact .inr rfl;exact .inl rfl) m1 m3
       (.row el sz g (.set c0 ix (.put (.idx c0 ix) k xe (Ak P el))) (d&&dx)) (by intros;simp) (fun E3=>by
        have Ez: ∀z∈n1++f++n3,(c.bg (fz.map (·.1))).ok z:=by
         intro z hz;simp only [Ag]at hz;rcases hz with(hz|hz)|hz
         ·exact e4 z (by rw [hN];simp [hz])
         ·exact q4 z hz
         ·exact e4 z (by rw [hN];simp [hz])
        have NI: ∀z∈n1++f++n3,z<c.w.heap.size:=s1.inb;refine⟨e1,e2,n1++f++n3,⟨xs.set kv.toNat (yk.c9 k (xe.den c.ρ) (Ak P el)), ?_,fun z UF=> ?_,p3, .inr ⟨m,cap,_, ?_,by simpa using p4,p5,m2, ?_, ?_, ?_, ?_⟩⟩,fun z hz=>E3.ok z (NI z hz) (Ez z hz),fun DO=> ?_,fun DO=> ?_⟩
        ·show AV.da (c0.den c.ρ) (ix.den c.ρ) (((c0.den c.ρ).idx (ix.den c.ρ)).c9 k (xe.den c.ρ) (Ak P el))=_;rw [p1',k3];simp only [AV.idx,GH,AV.da]
        ·rcases List.mem_or_eq_of_mem_set UF with UF|rfl
         ·exact p2 z UF
         ·rw [hz,MJ _ _ _ (by rw [o3,Ep];exact hle)];exact Ep
        ·rw [List.length_set];exact k2
        ·rw [List.size_toArray,MJ _ _ _ (by rw [Ev,C4];omega),Array.length_toList];exact p7
        ·simpa [Cx.ea]using p8
        ·simp only [List.length_set,List.toList_toArray];rw [MC _ _ _ _ (by rw [Ev];omega) (by rw [C4];omega)];intro u hu;unfold setVs at hu;simp only [Ag]at hu;rcases hu with(hu|hu)|hu
         ·exact p9 u (List.mem_of_mem_take hu)
         ·exact o2 u hu
         ·exact p9 u (List.mem_of_mem_drop hu)
        ·simp only [List.length_set,List.toList_toArray];rw [MC _ _ _ _ (by rw [Ev];omega) (by rw [C4];omega),Dy];exact s1.frame fun z hz=>En z (NI z hz) (Ez z hz)
        ·obtain⟨z1,z2⟩:=BD DO;have hd:d=true:=by simp only [Ac]at DO;exact DO.1
         obtain⟨u1,u2⟩:=e5 hd;have Qm:n1++f++n3=N:=by rw [hN,z1,z2]
         rw [Qm];refine⟨u1.frame fun z hz=>En z (p10.inb z hz) (e4 z hz), ?_⟩;simp only [Cx.ea,if_true,DO];exact u2
        ·simp [Cx.ea,DO])
      intro next Q hk
      unfold Oper.wp;have hr:(execOp a.eval o).run P c.w= .ok .skip (Ch c.w m (kv.toNat*sz+k) (a.eval y).cells.toList):=by have:=VP (P:=P) (t:=t) (v:=a.eval y) (off:=kv.toNat*sz+k) p6' A8 o4 (by rw [o4,p7];omega) o2;simp [execOp,ho,hv,this]
      rw [hr,Oper.upon_skip];refine hk _ ((c.bg (fz.map (·.1))).ea (Ch c.w m (kv.toNat*sz+k) (a.eval y).cells.toList) b (if(d&&dx)=true then((c.bg (fz.map (·.1))).G b).O else [])) ⟨rfl,rfl,rfl,rfl,fun t ht=> .inl ht⟩ ?_;have:=CU.put (v:=Go.undef) ((SR.undef .nil).mkGd []) o.dst;rw [LB];exact this
   ·cases he
  ·cases he
 all_goals (rename_i hl;obtain⟨_,_,_,_,_,Bm⟩:=Cu;first|(rw [Bm]at hl;cases hl;done)|exact absurd Bm (hl _ _ _ _ _)|cases he)
end
def H9 (a:Act) (o:Oper):Bool:=match o.op with| .binOp _ _ x _ _=>(match a.eval x with| .slice none _ _=>true|_=>false)|_=>false
section
variable (P:Program) (sg:BB) (Rt:Nat→List AV→AV→Prop)
def LX:Prop:= ∀(c:Cx) (n nx:Nat) (sl:Nat→SV) (hp:Nat→Option Af) (a:Act) (sl0:Nat→SV) (hp0:Nat→Option Af) (o:Oper) (gs:Gd) (e:AO) (nv:Nat),Ba P c n nx sl hp a sl0 hp0 o gs→ ¬c.U (nx+999)→Jm P sg sl0 hp0 nv nx gs o=some e→
 (∀q∈e.cd,q.den c.ρ)→(∀cl,e.call=some cl→ ∃r,c.ρ[nv]?=some r∧Gn Rt cl.fn ((EL.of cl.args).den c.ρ) c.ρ r)→(∀x,e.bq=some x→c.ρ[nv]?=some (.bool (H9 a o)))→Ar P o c n nx sl hp gs a e
def P0:Prop:= ∀(c:Cx) (n nx:Nat) (sl:Nat→SV) (hp:Nat→Option Af) (a:Act) (sl0:Nat→SV) (hp0:Nat→Option Af) (o:Oper) (gs:Gd) (e:AO) (nv:Nat) (x:E),Ba P c n nx sl hp a sl0 hp0 o gs→Jm P sg sl0 hp0 nv nx gs o=some e→e.bq=some x→H9 a o=true→x.den c.ρ= .sl []
end
theorem Zi {hp:Nat→Option Af} (l:List (Nat × Af)) (t:Nat):(AX hp l t=hp t∧ ∀e,(t,e)∉l)∨ ∃e,(t,e)∈l∧AX hp l t=some e:=by
 induction l generalizing hp with
 |nil=>exact .inl ⟨rfl,by simp⟩
 |cons p l ih=>
  obtain⟨u,f⟩:=p;rcases ih (hp:=fun v=>if v=u then some f else hp v)with⟨h1,h2⟩|⟨e,h1,h2⟩
  ·by_cases ht:t=u
   ·subst ht;refine .inr ⟨f,by simp, ?_⟩;have:AX hp ((t,f)::l) t=AX (fun v=>if v=t then some f else hp v) l t:=rfl;rw [this,h1];simp
   ·refine .inl ⟨?_,fun e he=> ?_⟩
    ·have:AX hp ((u,f)::l) t=AX (fun v=>if v=u then some f else hp v) l t:=rfl;rw [this,h1,if_neg ht]
    ·rcases Ad.1 he with he|he
     ·cases he;exact ht rfl
     ·exact h2 e he
  ·exact .inr ⟨e,by simp [h1],h2⟩
section
variable {P:Program} {sg:BB} {Rt:Nat→List AV→AV→Prop} {c:Cx} {n nx:Nat} {sl:Nat→SV} {hp:Nat→Option Af} {a:Act} {ops:Array Oper} {o:Oper} {gs:Gd} {e:AO}
theorem Rel.skip (h:Rel c n sl hp a) (hg: ¬A2 c.ρ gs) {l:List (Nat × Af)} (hl: ∀t x,(t,x)∈l→nx≤t∧t<nx+Bj∧ ∃hs y,x= .gd hs y∧Jt gs hs=true) (AS: ∀t,nx≤t→t<nx+Bj→ ¬c.U t) (s:SV) (d:Option Nat):
  Rel {c with U:=fun t=>c.U t∨(nx≤t∧t<nx+Bj)} n (B1 n sl d (mkGd gs s)) (AX hp l) (a.put d undef):=by
 have hs:SR {c with U:=fun t=>c.U t∨(nx≤t∧t<nx+Bj)} [mkGd gs s] [undef]:=by
  cases gs with
  |nil=>exact absurd (DR _) hg
  |cons g gs=>exact .gd (fun hh=>absurd hh hg) (fun _=>rfl) .nil
 refine Rel.put ?_ hs d;refine h.change (fun t=> ∃x,(t,x)∈l) ⟨rfl,rfl,fun _ _ hb=>hb,fun _ _ _=>rfl,fun _ _ hk=>⟨hk,rfl⟩,fun _ _ _=>⟨Nat.le_refl _,fun _=>⟨rfl,fun _ _ _=>rfl⟩⟩⟩ ⟨h.base.os,h.base.tape,h.base.output,h.base.size,fun t v hp=>⟨.inl (h.base.pins t v hp).1,(h.base.pins t v hp).2⟩,h.base.block,h.base.pk,h.base.lo⟩ (fun t ht=> ?_) (fun _ _ _ _=>rfl) (fun t ht=> ?_) ⟨h.gw.nodup,h.gw.cc,h.gw.allow,h.gw.inb⟩ (fun t g hk=> .inl (h.bm t g hk)) (fun t x hx=> ?_)
 ·exact⟨I8 fun x hx=>ht ⟨x,hx⟩,rfl,rfl,fun g hk=>hk⟩
 ·obtain⟨x,hx⟩:=ht;rcases Zi (hp:=hp) l t with⟨_,h2⟩|⟨x',h1,h2⟩
  ·exact absurd hx (h2 x)
  ·obtain⟨q1,q2,hs,y,rfl,Br⟩:=hl t x' h1;have DE: ∀e',¬BR c.ρ (AX hp l t) e':=by
    rw [h2];exact fun e' hr=>hg (Sq Br hr.1)
   refine⟨fun e' hr=>absurd hr (DE e'),fun _=>h.off t fun e' hr=> ?_⟩;cases hh:hp t with
   |none=>rw [hh]at hr;exact hr.elim
   |some e9=>exact AS t q1 q2 (h.cf t e9 hh)
 ·rcases Zi (hp:=hp) l t with⟨h1,_⟩|⟨x',h1,_⟩
  ·rw [h1]at hx;exact .inl (h.cf t x hx)
  ·obtain⟨q1,q2,_⟩:=hl t x' h1;exact .inr ⟨q1,q2⟩
def Qh (ρ:List AV) (ops:Array Oper) (o:Oper) (a:Act):Option Gd→Prop
 |none=>Region.wanted o (yielded ops a.tmps)=false
 |some gs=>(A2 ρ gs→Region.wanted o (yielded ops a.tmps)=true)∧(¬A2 ρ gs→Region.wanted o (yielded ops a.tmps)=false)
theorem We {σ:St} {r:Option Gd} (hg:LA σ ops o=some r) (hs: ∀j want d,o.guard=some (j,want)→(ops[j]?).bind (·.dst)=some d→SR c [Bf σ d] [a.tmps.getD d undef]):Qh c.ρ ops o a r:=by
 unfold LA at hg;cases Fm:o.guard with
 |none=>rw [Fm]at hg;simp only [Ae]at hg;subst hg;exact⟨fun _=>by simp [Region.wanted,Fm],fun hn=>absurd (DR _) hn⟩
 |some jw=>
  obtain⟨j,want⟩:=jw;rw [Fm]at hg;simp only at hg;cases hd:(ops[j]?).bind (·.dst)with
  |none=>rw [hd]at hg;simp only [Ae]at hg;subst hg;simp [Qh,Region.wanted,Fm,yielded,hd]
  |some d=>
   rw [hd]at hg;simp only at hg;have hr:=hs j want d Fm hd;have hw: ∀v,a.tmps.getD d undef=v→Region.wanted o (yielded ops a.tmps)=(match v with| .bool b=>b==want|_=>false):=by
    intro v hv;simp only [Region.wanted,Fm,yielded,hd,Ab];rw [Array.getD_eq_getD_getElem?]at hv;cases hq:a.tmps[d]? with
    |none=>rw [hq]at hv;simp at hv;subst hv;simp [undef]
    |some u=>rw [hq]at hv;simp at hv;subst hv;cases u<;>simp
   generalize a.tmps.getD d undef=v at hr hw;have hw:=hw v rfl;have IH:v=undef→Region.wanted o (yielded ops a.tmps)=false:=by rintro rfl;rw [hw];simp [undef]
   have FL: ∀x f,Rd c.w [v] [x] f→(x= .bool want→Region.wanted o (yielded ops a.tmps)=true)∧(x≠ .bool want→Region.wanted o (yielded ops a.tmps)=false):=by
    intro x f hx;refine⟨fun h=> ?_,fun h=> ?_⟩
    ·rw [hw,Gi hx h];simp
    ·rw [hw];cases v<;>simp only;rename_i b;cases hx with
     |bool _=>simpa using fun hh=>h (by rw [hh])
   split at hg
   ·rename_i b Cr;rw [Cr]at hr;cases hr with
    |e h1 _ _=>
     simp only [Ae]at hg;subst hg;obtain⟨q1,q2⟩:=FL _ _ h1;simp only [E.den,AV.bool.injEq]at q1 q2;split
     ·rename_i hb;simp only [beq_iff_eq]at hb;exact⟨fun _=>q1 hb,fun hn=>absurd (DR _) hn⟩
     ·rename_i hb;simp only [beq_iff_eq]at hb;exact q2 (by simpa using hb)
   ·rename_i x _ Cr;rw [Cr]at hr;cases hr with
    |e h1 _ _=>simp only [Ae]at hg;subst hg;obtain⟨q1,q2⟩:=FL _ _ h1;exact⟨fun hh=>q1 (hh (x,want) (by simp)),fun hn=>q2 fun hh=>hn (by intro g hg;simp at hg;subst hg;exact hh)⟩
   ·rename_i A5 s Cr;rw [Cr]at hr;cases hr with
    |gd h1 h2 _=>
     split at hg
     ·rename_i hf;simp only [Ae]at hg;subst hg;refine IH (h2 fun hk=> ?_);simp only [bI,List.any_eq_true]at hf;obtain⟨g,hg,TH⟩:=hf;have:=hk g hg;split at TH
      ·rename_i b hb;rw [hb]at this;simp only [E.den,AV.bool.injEq]at this;simp [this]at TH
      ·cases TH
     ·split at hg
      ·rename_i b;simp only [Ae]at hg;subst hg;by_cases hk:A2 c.ρ A5
       ·have h1:=h1 hk;cases h1 with
        |e h1 _ _=>
         obtain⟨q1,q2⟩:=FL _ _ h1;simp only [E.den,AV.bool.injEq]at q1 q2;split
         ·rename_i hb;simp only [beq_iff_eq]at hb;exact⟨fun _=>q1 hb,fun hn=>absurd hk hn⟩
         ·rename_i hb;simp only [beq_iff_eq]at hb;exact q2 (by simpa using hb)
       ·split
        ·exact⟨fun hh=>absurd hh hk,fun _=>IH (h2 hk)⟩
        ·exact IH (h2 hk)
      ·rename_i x _;simp only [Ae]at hg;subst hg;by_cases hk:A2 c.ρ A5
       ·have h1:=h1 hk;cases h1 with
        |e h1 _ _=>obtain⟨q1,q2⟩:=FL _ _ h1;exact⟨fun hh=>q1 (hh (x,want) (by simp)),fun hn=>q2 fun hh=>hn (by intro g hg;rcases Ad.1 hg with rfl|hg;exact hh;exact hk g hg)⟩
       ·exact⟨fun hh=>absurd (fun g hg=>hh g (by simp [hg])) hk,fun _=>IH (h2 hk)⟩
      ·cases hg
   ·cases hg
theorem bW (AB:LX P sg Rt) {Q:Exit→Act→World→Prop} {K:Act→World→Prop} {i nv:Nat} (hi:ops[i]?=some o) (Am:Rel c n sl hp a) {sl0:Nat→SV} {hp0:Nat→Option Af} (F9:Qh c.ρ ops o a (some gs))
  (Cr: ∀t,Operand.tmp t∈o.op.operands→sl0 t=sl t) (fD: ∀t e,hp0 t=some e→hp t=some e) (AS: ∀t,nx≤t→t<nx+Bj→ ¬c.U t)
  (he:Jm P sg sl0 hp0 nv nx gs o=some e) (Bb:gs≠ []→ ∀t x,(t,x)∈e.bb→nx≤t∧t<nx+Bj∧ ∃hs y,x= .gd hs y∧Jt gs hs=true)
  (hc:A2 c.ρ gs→ ∀q∈e.cd,q.den c.ρ) (AZ: ∀cl,e.call=some cl→ ∃r,c.ρ[nv]?=some r∧(A2 c.ρ gs→Gn Rt cl.fn ((EL.of cl.args).den c.ρ) c.ρ r)) (B7: ∀x,e.bq=some x→A2 c.ρ gs→c.ρ[nv]?=some (.bool (H9 a o)))
  (hK: ∀a' c',Kw c c' nx→Rel c' n (B1 n sl o.dst (mkGd gs e.val)) (AX hp e.bb) a'→K a' c'.w):wpOp P ops Q i K a c.w:=by
 unfold wpOp;simp only [hi];by_cases hg:A2 c.ρ gs
 ·rw [if_pos (F9.1 hg)];exact .inl (AB c n nx sl hp a sl0 hp0 o gs e nv ⟨Am,hg,Cr,fD,fun t h1 h2=>AS t h1 (by simp only [Bj];omega)⟩ (AS _ (by omega) (by simp [Bj])) he (hc hg) (fun cl At=>by obtain⟨r,h1,h2⟩:=AZ cl At;exact⟨r,h1,h2 hg⟩) (fun x hx=>B7 x hx hg) _ _ hK)
 ·rw [if_neg (by rw [F9.2 hg];simp)];have Bk:gs≠ []:=by rintro rfl;exact hg (DR _)
  exact hK _ {c with U:=fun t=>c.U t∨(nx≤t∧t<nx+Bj)} ⟨rfl,rfl,rfl,rfl,fun t ht=>ht⟩ (Am.skip hg (Bb Bk) AS e.val o.dst)
end
def Cx.ext (c:Cx) (τ:List AV):Cx:={c with ρ:=c.ρ++τ}
theorem den_app {ρ τ:List AV} {x:E} (h:x.sc ρ.length=true):x.den (ρ++τ)=x.den ρ:=by have:=E.ao ρ τ [] x h;rw [List.append_nil]at this;exact this
theorem pV {ρ τ:List AV} {x:EL} (h:x.sc ρ.length=true):x.den (ρ++τ)=x.den ρ:=by have:=EL.ao ρ τ [] x h;rw [List.append_nil]at this;exact this
theorem I6 {ρ τ:List AV} {gs:Gd} (h:Qd ρ.length gs=true):A2 (ρ++τ) gs↔A2 ρ gs:=by simp only [Qd,A1]at h;exact⟨fun k g hg=>by rw [←den_app (τ:=τ) (h g hg)];exact k g hg,fun k g hg=>by rw [den_app (h g hg)];exact k g hg⟩
theorem Be.ek {n:Nat}: ∀{cs:Be},cs.sc n=true→ ∀s∈cs.toList,s.sc n=true
 | .nil,_,s,h=>by simp [Be.toList]at h
 | .cons s cs,h,u,hu=>by
  simp only [Be.sc,Ac]at h;simp only [Be.toList,Ad]at hu;rcases hu with rfl|hu
  ·exact h.1
  ·exact Be.ek h.2 u hu
section
variable {c:Cx} {n:Nat} {sl:Nat→SV} {hp:Nat→Option Af} {a:Act} {τ:List AV}
theorem Gu.ext {t g:Nat} {p:KE} {v:Value} (hs:(match p with|some q=>q.1.sc c.ρ.length|none=>true)=true) (h:Gu c t g p v):Gu (c.ext τ) t g p v:=by
 cases p with
 |none=>exact trivial
 |some p=>obtain⟨i,z,o⟩:=p;obtain⟨b,n,cap,C,ty,fz,kk,k,h1,h2,h3,h4,h5⟩:=h;exact⟨b,n,cap,C,ty,fz,kk,k,h1,h2,h3,by show i.den (c.ρ++τ)=_;rw [den_app hs];exact h4,h5⟩
theorem SR.ext {ss:List SV} {vs:List Value} (h:SR c ss vs):(∀s∈ss,s.sc c.ρ.length=true)→SR (c.ext τ) ss vs:=by
 have tl: ∀{s:SV} {ss:List SV},(∀x∈s::ss,x.sc c.ρ.length=true)→ ∀x∈ss,x.sc c.ρ.length=true:=fun h x hx=>h x (by simp [hx]);have hd: ∀{s:SV} {ss:List SV},(∀x∈s::ss,x.sc c.ρ.length=true)→s.sc c.ρ.length=true:=fun h=>h _ (by simp);have hρ:(c.ext τ).ρ=c.ρ++τ:=rfl
 induction h with
 |nil=>exact fun _=> .nil
 |undef _ ih=>exact fun hs=> .undef (ih (tl hs))
 |e h1 h2 _ ih=>exact fun hs=> .e (by rw [hρ,den_app (hd hs)];exact h1) h2 (ih (tl hs))
 |bp _ ih=>exact fun hs=> .bp (ih (tl hs))
 |emp _ ih=>exact fun hs=> .emp (ih (tl hs))
 |own h1 h2 _ ih=>exact fun hs=> .own h1 h2 (ih (tl hs))
 |bz h1 h2 _ ih=>exact fun hs=> .bz h1 h2 (ih (tl hs))
 |cg h1 h2 h3 h4 h5 _ ih=>exact fun hs=> .cg h1 h2 (by rw [hρ,den_app (hd hs)];exact h3) h4 h5 (ih (tl hs))
 |cz h1 h2 h3 h4 h5 h6 _ ih=>intro hs;have:=hd hs;simp only [SV.sc,Ac]at this;exact .cz (by rw [hρ,den_app this.1];exact h1) h2 (by rw [hρ,den_app this.2];exact h3) h4 h5 (by rw [hρ,den_app this.1];exact h6) (ih (tl hs))
 |cx h1 h2 _ ih=>exact fun hs=> .cx (by rw [hρ,den_app (hd hs)];exact h1) h2 (ih (tl hs))
 |agg h9 _ _ ih1 ih2=>exact fun hs=> .agg h9 (ih1 (Be.ek (hd hs))) (ih2 (tl hs))
 |tup _ _ ih1 ih2=>exact fun hs=> .tup (ih1 (Be.ek (hd hs))) (ih2 (tl hs))
 |fn _ _ ih1 ih2=>exact fun hs=> .fn (ih1 (Be.ek (hd hs))) (ih2 (tl hs))
 |gd _ h2 _ ih1 ih2=>intro hs;have:=hd hs;simp only [SV.sc,Ac]at this;exact .gd (fun hg=>ih1 ((I6 this.1).1 hg) (by simpa using this.2)) (fun hg=>h2 fun k=>hg ((I6 this.1).2 k)) (ih2 (tl hs))
 | @via t g n p x v ss vs h1 h2 h3 _ ih=>intro hs;have:=hd hs;simp only [SV.sc,Ac]at this;refine .via h1 h2 (fun he=> ?_) (ih (tl hs));obtain⟨q1,q2⟩:=h3 he;exact⟨by rw [hρ,den_app this.2];exact q1,Gu.ext (τ:=τ) this.1 q2⟩
 | @vptr t g n p x i sz o v ss vs h1 h2 h3 _ ih=>intro hs;have:=hd hs;simp only [SV.sc,Ac]at this;refine .vptr h1 h2 (fun he=> ?_) (ih (tl hs));obtain⟨b,off,len,cap,kk,k,q1,q2,q3,q4,q5,q6,q7⟩:=h3 he;exact⟨b,off,len,cap,kk,k,by rw [hρ,den_app this.1.2];exact q1,Gu.ext (τ:=τ) this.1.1 q2,by rw [hρ,den_app this.2];exact q3,q4,q5,by rw [hρ,den_app this.1.2];exact q6,q7⟩
 |wown h1 h2 h3 h4 h5 h6 _ ih=>exact fun hs=> .wown h1 h2 (by rw [hρ,den_app (hd hs)];exact h3) h4 h5 h6 (ih (tl hs))
 | @lent i _ _ _ h1 _ ih=>exact fun hs=> .lent (by rw [hρ,den_app (x:= .var i) (by simpa [SV.sc,E.sc]using hd hs)];exact h1) (ih (tl hs))
theorem Co.ext {t:Nat} {e:Af} (h:Co c t e) (hs:e.sc c.ρ.length=true):Co (c.ext τ) t e:=by
 have hρ:(c.ext τ).ρ=c.ρ++τ:=rfl;cases e with
 |box ty g cs=>obtain⟨b,C,h1,h2,h3,h4,h5,h6,h7⟩:=h;exact⟨b,C,h1,h2,h3,h4,h5,h6,h7.ext (by simpa [Af.sc]using hs)⟩
 |row ety sz g x d=>obtain⟨h1,h2,N,h3,h4,h5⟩:=h;exact⟨h1,h2,N,by rw [hρ,den_app hs];exact h3,h4,h5⟩
 |bg g x=>obtain⟨h1,⟨f,h2,h3⟩,h4⟩:=h;exact⟨h1,⟨f,by rw [hρ,den_app hs];exact h2,h3⟩,h4⟩
 |gd gs e=>exact h
 |dead=>exact h
 |deep e z l g ep x=>obtain⟨h1,h2,h3,h4,h5⟩:=h;exact⟨h1,h2,h3,by rw [hρ,den_app hs];exact h4,h5⟩
 |hol e z l g ep x i o u=>simp only [Af.sc,Ac]at hs;obtain⟨h1,h2,h3,h4,h5⟩:=h;exact⟨h1,h2,h3,by rw [hρ,den_app hs.1,den_app hs.2];exact h4,h5⟩
theorem sU {ρ:List AV} {e0 e:Af} (hs:e0.sc ρ.length=true):BR (ρ++τ) (some e0) e↔BR ρ (some e0) e:=by
 cases e0 with
 |gd gs x=>simp only [Af.sc,Ac]at hs;simp only [BR];rw [I6 hs.1]
 |_=>simp [BR]
theorem Rel.ext (h:Rel c n sl hp a) (h1: ∀i,(sl i).sc c.ρ.length=true) (h2: ∀t e,hp t=some e→e.sc c.ρ.length=true) (τ:List AV):Rel (c.ext τ) n sl hp a:=by
 have key: ∀t e,BR (c.ρ++τ) (hp t) e↔BR c.ρ (hp t) e:=by
  intro t e;cases hh:hp t with
  |none=>exact Iff.rfl
  |some e0=>exact sU (h2 t e0 hh)
 refine⟨h.defers,h.size,⟨h.base.os,h.base.tape,h.base.output,h.base.size,h.base.pins,h.base.block,h.base.pk,h.base.lo⟩,fun i=>(h.ct i).ext (by simpa using h1 i),fun t e hr=> ?_,fun t hn=>h.off t fun e hr=>hn e ((key t e).2 hr),⟨h.gw.nodup,h.gw.cc,h.gw.allow,h.gw.inb⟩,h.bm,h.cf⟩;have CX:=(key t e).1 hr;have he:=h.ents t e CX;cases hh:hp t with
 |none=>rw [hh]at CX;exact CX.elim
 |some e0=>
  have D2:=h2 t e0 hh;rw [hh]at CX;cases e0 with
  |gd gs x=>
   obtain⟨_,rfl⟩:=CX;simp only [Af.sc,Ac]at D2;cases x with
   |gd=>exact he
   |dead=>exact he
   |box=>exact he.ext (by simpa [Af.sc]using D2.2)
   |row=>exact he.ext (by simpa [Af.sc]using D2.2)
   |bg=>exact he.ext (by simpa [Af.sc]using D2.2)
   |deep=>exact he.ext (by simpa [Af.sc]using D2.2)
   |hol=>exact he.ext (by simpa [Af.sc]using D2.2)
  |_=>simp only [BR]at CX;subst CX;exact he.ext D2
theorem St.jv {σ:St} (h:σ.sc=true) (i:Nat):(Bf σ i).sc σ.nv=true:=by
 simp only [St.sc,Ac,A1]at h;unfold Bf;cases hi:σ.sl[i]? with
 |none=>simp [SV.sc]
 |some s=>exact h.1 s (List.mem_of_getElem? hi)
theorem St.jm {σ:St} (h:σ.sc=true) (t:Nat) (e:Af) (he:Av σ.hp t=some e):e.sc σ.nv=true:=by simp only [St.sc,Ac,A1]at h;exact h.2 _ (GL he)
theorem Cn.ie {ρ τ:List AV} {q:Cn} (h:q.sc ρ.length=true):q.den (ρ++τ)↔q.den ρ:=by
 cases q<;>simp only [Cn.sc,Ac]at h<;>simp only [Cn.den]
 case dfd=>rw [den_app h]
 case agg=>rw [den_app h]
 case cells=>rw [den_app h]
 case inb=>rw [den_app h.1,den_app h.2]
 case inbS=>rw [den_app h.1,den_app h.2]
 case win=>rw [den_app h.1.1,den_app h.1.2,den_app h.2]
 case winS=>rw [den_app h.1.1,den_app h.1.2,den_app h.2]
 case room=>rw [den_app h.1,den_app h.2]
 case roomS=>rw [den_app h.1,den_app h.2]
 case mkroom=>rw [den_app h]
 case nz=>rw [den_app h]
 case nn=>rw [den_app h]
 case isref=>rw [den_app h]
 case issl=>rw [den_app h]
 case flat=>rw [den_app h]
 case flatS=>rw [den_app h]
 case kinds=>rw [den_app h]
theorem WW:SR c [Kz] [Go.undef]:= .gd (fun hg=>by have:=hg (.bool false,true) (by simp);simp [E.den]at this) (fun _=>rfl) .nil
theorem Zw {ρ:List AV} {x:E} {b:Bool} {hs:Gd} (hx:x.den ρ= .bool b) (h:LQ (x, !b) hs=true): ¬A2 ρ hs:=by intro k;have:=aB h k;simp only at this;rw [hx]at this;simp at this
theorem VK {ρ:List AV} {x:E} {b:Bool} {hs:Gd} (hx:x.den ρ= .bool b):A2 ρ (hs.filter fun h=> !(h.1.beq x&&h.2==b))↔A2 ρ hs:=by
 refine⟨fun k g hg=> ?_,fun k g hg=>k g (List.mem_filter.1 hg).1⟩;by_cases hh:(g.1.beq x&&g.2==b)=true
 ·simp only [Ac,beq_iff_eq]at hh;rw [E.aj ρ _ _ hh.1,hx,hh.2]
 ·exact k g (List.mem_filter.2 ⟨hg,by rw [Bool.not_eq_true]at hh;rw [hh];rfl⟩)
theorem SR.iq {s:SV} {v:Value} {gs:Gd} (h1:A2 c.ρ gs→SR c [s] [v]) (h2: ¬A2 c.ρ gs→v=Go.undef):SR c [Go.Proofs.YtagokdejdanfcaaGreatDoor.mkGd gs s] [v]:=by
 cases gs with
 |nil=>exact h1 (DR _)
 |cons g gs=>exact .gd h1 h2 .nil
theorem SR.ee {x:E} {b:Bool} (hx:x.den c.ρ= .bool b) {s:SV} {v:Value} (h:SR c [s] [v]):SR c [assumeS x b s] [v]:=by
 cases s with
 |gd hs s=>
  simp only [Go.Proofs.YtagokdejdanfcaaGreatDoor.assumeS];cases h with
  |gd h1 h2 _=>
   split
   ·rename_i hm;rw [h2 (Zw hx hm)];exact WW
   ·exact SR.iq (fun k=>h1 ((VK hx).1 k)) (fun k=>h2 fun k'=>k ((VK hx).2 k'))
 |_=>exact h
theorem pN (f:Af→Af) (l:List (Nat × Af)) (t:Nat):Av (l.map fun(t,e)=>(t,f e)) t=(Av l t).map f:=by
 induction l with
 |nil=>rfl
 |cons p l ih=>
  obtain⟨u,e⟩:=p;simp only [List.map_cons,Av];split
  ·rfl
  ·exact ih
theorem Rel.ee {x:E} {b:Bool} (hx:x.den c.ρ= .bool b) (h:Rel c n sl hp a):Rel c n (fun i=>assumeS x b (sl i)) (fun t=>(hp t).map (assumeE x b)) a:=by
 have JP: ∀t,(∀e,BR c.ρ (hp t) e→ ∃gs y,e= .gd gs y∨e= .dead)→(c.G t).top= []∧(c.G t).O= []:=by
  intro t ht;by_cases hh: ∃e,BR c.ρ (hp t) e
  ·obtain⟨e,he⟩:=hh;obtain⟨gs,y,rfl|rfl⟩:=ht e he
   ·exact h.ents t _ he
   ·exact h.ents t _ he
  ·exact h.off t fun e he=>hh ⟨e,he⟩
 have cases': ∀t,((∀e,BR c.ρ ((hp t).map (assumeE x b)) e↔BR c.ρ (hp t) e))∨((hp t).map (assumeE x b)=some .dead∧(c.G t).top= []∧(c.G t).O= []):=by
  intro t;cases hh:hp t with
  |none=>exact .inl fun e=>Iff.rfl
  |some e0=>
   cases e0 with
   |gd hs y=>
    by_cases hm:LQ (x, !b) hs=true
    ·refine .inr ⟨by simp [Go.Proofs.YtagokdejdanfcaaGreatDoor.assumeE,hm],JP t fun e he=> ?_⟩;rw [hh]at he;exact absurd he.1 (Zw hx hm)
    ·by_cases hy: ∃gs z,y= .gd gs z
     ·obtain⟨gs,z,rfl⟩:=hy;refine .inr ⟨by simp [Go.Proofs.YtagokdejdanfcaaGreatDoor.assumeE,hm],JP t fun e he=> ?_⟩;rw [hh]at he;exact⟨gs,z, .inl he.2.symm⟩
     ·refine .inl fun e=> ?_;have he:assumeE x b (.gd hs y)=B9 (hs.filter fun h=> !(h.1.beq x&&h.2==b)) y:=by
       simp only [Go.Proofs.YtagokdejdanfcaaGreatDoor.assumeE,hm,BW,if_false];cases y<;>first|rfl|exact absurd ⟨_,_,rfl⟩ hy
      simp only [Option.map_some,he];show _↔A2 c.ρ hs∧y=e;rw [←VK hx];generalize (hs.filter fun h=> !(h.1.beq x&&h.2==b))=fs;cases fs with
      |nil=>simp only [B9,DR,true_and];cases y<;>first|exact absurd ⟨_,_,rfl⟩ hy|exact Iff.rfl
      |cons g fs=>exact Iff.rfl
   |_=>exact .inl fun e=>Iff.rfl
 refine⟨h.defers,h.size,h.base,fun i=>(h.ct i).ee hx,fun t e hr=> ?_,fun t hn=> ?_,h.gw,h.bm,fun t e he=> ?_⟩
 ·rcases cases' t with hc|⟨hc,h1,h2⟩
  ·exact h.ents t e ((hc e).1 hr)
  ·rw [hc]at hr;have:Af.dead=e:=hr;subst this;exact⟨h1,h2⟩
 ·rcases cases' t with hc|⟨hc,h1,h2⟩
  ·exact h.off t fun e he=>hn e ((hc e).2 he)
  ·exact⟨h1,h2⟩
 ·cases hh:hp t with
  |none=>rw [hh]at he;cases he
  |some e0=>exact h.cf t e0 hh
end
theorem VX {σ:St} {d:Option Nat} {s:SV}:Bf (FT σ d s)=B1 σ.sl.length (Bf σ) d s:=by
 funext i;cases d with
 |none=>simp [FT,B1]
 |some d=>
  simp only [FT,Bf,B1,Ae,List.getElem?_set];by_cases h:d=i
  ·subst h;by_cases h2:d<σ.sl.length
   ·simp [h2]
   ·simp [h2,List.getElem?_eq_none (Nat.le_of_not_lt h2)]
  ·simp [h]
theorem Vx {σ:St} {d:Option Nat} {s:SV}:(FT σ d s).sl.length=σ.sl.length:=by cases d<;>simp [FT]
theorem VT {σ:St} {d:Option Nat} {s:SV}:(FT σ d s).hp=σ.hp:=by cases d<;>rfl
theorem V0 {σ:St} {d:Option Nat} {s:SV}:(FT σ d s).nv=σ.nv:=by cases d<;>rfl
theorem o5 (l:List (Nat × Af)) (t:Nat) (e:Af) (u:Nat):Av (Jr l t e) u=if u=t then some e else Av l u:=by
 induction l with
 |nil=>
  simp only [Jr,Av];by_cases h:t=u
  ·simp [h]
  ·rw [if_neg h,if_neg (Ne.symm h)]
 |cons p l ih=>
  obtain⟨v,f⟩:=p;simp only [Jr];split
  ·rename_i hv;subst hv;simp only [Av];by_cases h:v=u
   ·simp [h]
   ·rw [if_neg h,if_neg (Ne.symm h),if_neg h]
  ·rename_i hv;simp only [Av];by_cases h:v=u
   ·subst h;rw [if_pos rfl,if_neg hv,if_pos rfl]
   ·rw [if_neg h,ih,if_neg h]
theorem Zf: ∀(ents:List (Nat × Af)) (l:List (Nat × Af)),Av (ents.foldl (fun l (p:Nat × Af)=>Jr l p.1 p.2) l)=AX (Av l) ents
 | [],l=>rfl
 |(t,e)::ents,l=>by
  simp only [List.foldl_cons];rw [Zf ents];have:Av (Jr l t e)=fun u=>if u=t then some e else Av l u:=by funext u;exact o5 l t e u
  rw [this];rfl
section
variable {P:Program} {sg:BB} {Rt:Nat→List AV→AV→Prop} {ops:Array Oper}
theorem aF {σ:St} {gs:Gd} {o:Oper} {e:AO}:Bf (I7 σ gs o e)=B1 σ.sl.length (Bf σ) o.dst (mkGd gs e.val):=by rw [←VX];rfl
theorem ZY {σ:St} {gs:Gd} {o:Oper} {e:AO}:Av (I7 σ gs o e).hp=AX (Av σ.hp) e.bb:=by
 have:(I7 σ gs o e).hp=e.bb.foldl (fun l (p:Nat × Af)=>Jr l p.1 p.2) σ.hp:=by show e.bb.foldl (fun l (p:Nat × Af)=>Jr l p.1 p.2) (FT σ o.dst (mkGd gs e.val)).hp=_;rw [VT]
 rw [this,Zf]
theorem ZK {σ:St} {gs:Gd} {o:Oper} {e:AO}:(I7 σ gs o e).sl.length=σ.sl.length:=by show(FT σ o.dst (mkGd gs e.val)).sl.length=_;rw [Vx]
theorem WA {σ:St} {gs:Gd} {o:Oper} {e:AO}:(I7 σ gs o e).nv=if e.call.isSome||e.bq.isSome then σ.nv+1 else σ.nv:=by show(if e.call.isSome||e.bq.isSome then(FT σ o.dst (mkGd gs e.val)).nv+1 else(FT σ o.dst (mkGd gs e.val)).nv)=_;rw [V0]
theorem WG {R:AV→Prop} {gs:Gd} {k:Tr} {L:LK} {js:List JK} {ρ:List AV}: ∀{cs:List Cn},(cs.foldr (fun c k=> .cd gs c k) k:Tr).den Rt R L js ρ→(A2 ρ gs→ ∀q∈cs,q.den ρ)∧k.den Rt R L js ρ
 | [],h=>⟨by simp,h⟩
 |c::cs,h=>by
  obtain⟨h1,h2⟩:=h;obtain⟨h3,h4⟩:=WG h2;refine⟨fun hg q hq=> ?_,h4⟩;rcases Ad.1 hq with rfl|hq
  ·exact h1 hg
  ·exact h3 hg q hq
theorem aA {l:List (Nat × Af)} {R:List Nat} {t:Nat} {e:Af} (h:Nx l R t=some e):Av l t=some e:=by
 unfold Nx at h;split at h
 ·exact h
 ·cases h
theorem Zb {f:Nat ⊕ E} {as_:EL} {ρ τ:List AV} {r:AV} (h1:(match f with| .inl _=>true| .inr x=>x.sc ρ.length)=true) (h2:as_.sc ρ.length=true):Gn Rt f (as_.den (ρ++τ)) (ρ++τ) r↔Gn Rt f (as_.den ρ) ρ r:=by
 rw [pV h2];cases f with
 |inl f=>exact Iff.rfl
 |inr x=>simp only [Gn];rw [den_app h1]
theorem EL.iv {n:Nat}: ∀{l:List E},l.all (E.sc n)=true→(EL.of l).sc n=true
 | [],_=>rfl
 |x::l,h=>by simp only [List.all_cons,Ac]at h;simp only [EL.of,EL.sc,Ac];exact⟨h.1,EL.iv h.2⟩
structure G1 (F:Fix) (c:Cx) (σ:St) (a:Act) (n m:Nat):Prop where
 w0:c.w0=F.w0
 A:c.A=F.A
 Mu:c.Mu=F.Mu
 nv:c.ρ.length=σ.nv
 len:σ.sl.length=n
 U: ∀t,c.U t→t<m
 rel:Rel c n (Bf σ) (Av σ.hp) a
theorem G1.ext {F:Fix} {c:Cx} {σ:St} {a:Act} {n m:Nat} (h:G1 F c σ a n m) (hs:σ.sc=true) (τ:List AV):Rel (c.ext τ) n (Bf σ) (Av σ.hp) a:=
 h.rel.ext (fun i=>by rw [h.nv];exact St.jv hs i) (fun t e he=>by rw [h.nv];exact St.jm hs t e he) τ
theorem uV (AB:LX P sg Rt) (EK:P0 P sg) {F:Fix} {c:Cx} {σ:St} {a:Act} {n i base:Nat} {o:Oper} {gs:Gd} {e:AO} {k:Tr} {R:AV→Prop} {L:LK} {js:List JK} {Q:Exit→Act→World→Prop} {K:Act→World→Prop}
  (hi:ops[i]?=some o) (hm:G1 F c σ a n (base+Bj*i)) (F9:Qh c.ρ ops o a (some gs)) {Rs:List Nat} (he:Jm P sg (Bf σ) (Nx σ.hp Rs) σ.nv (base+Bj*i) gs o=some e) (D2:Nn σ.nv (base+Bj*i) σ.hp gs e=true)
  (Oz:(e.call.isSome||e.bq.isSome)=true→σ.sc=true) (hd:(SB gs e k).den Rt R L js c.ρ)
  (hK: ∀(c':Cx) (a':Act),c.ρ<+:c'.ρ→G1 F c' (I7 σ gs o e) a' n (base+Bj*(i+1))→k.den Rt R L js c'.ρ→K a' c'.w):wpOp P ops Q i K a c.w:=by
 simp only [Nn,Ac,A1]at D2;obtain⟨⟨⟨⟨Bq,AQ⟩,GD⟩,X0⟩,Un⟩:=D2;have Bb:gs≠ []→ ∀t x,(t,x)∈e.bb→base+Bj*i≤t∧t<base+Bj*i+Bj∧ ∃hs y,x= .gd hs y∧Jt gs hs=true:=by
  intro Bk t x hx;have:=Un _ hx;have NW:gs.isEmpty=false:=by cases gs;exact absurd rfl Bk;rfl
  simp only [NW,Bool.false_or,Bool.false_and,Bool.or_false,Ac,decide_eq_true_eq]at this;refine⟨this.1.1,this.1.2, ?_⟩;have h3:=this.2;split at h3
  ·exact⟨_,_,rfl,h3⟩
  ·cases h3
 have AS: ∀t,base+Bj*i≤t→t<base+Bj*i+Bj→ ¬c.U t:=fun t h1 _ h3=>by have:=hm.U t h3;omega
 have ET: ∀(τ:List AV),Rel (c.ext τ) n (Bf σ) (Av σ.hp) a→τ.length=(if e.call.isSome||e.bq.isSome then 1 else 0)→k.den Rt R L js (c.ρ++τ)→(A2 c.ρ gs→ ∀q∈e.cd,q.den c.ρ)→
   (∀cl,e.call=some cl→ ∃r,τ= [r]∧(A2 c.ρ gs→Gn Rt cl.fn ((EL.of cl.args).den c.ρ) c.ρ r))→(∀x,e.bq=some x→τ= [.bool (H9 a o)])→wpOp P ops Q i K a c.w:=by
  intro τ Am hτ hk hc AZ B7;have EN:σ.nv=c.ρ.length:=hm.nv.symm;rw [EN]at Bq AQ GD;have N7: ∀r,τ= [r]→(c.ρ++τ)[σ.nv]?=some r:=by rintro r rfl;rw [EN];simp
  refine bW (c:=c.ext τ) AB hi Am ⟨fun hg=>F9.1 ((I6 Bq).1 hg),fun hg=>F9.2 fun k=>hg ((I6 Bq).2 k)⟩ (fun _ _=>rfl) (fun t e h=>aA h) AS he Bb (fun hg q hq=> ?_) (fun cl At=> ?_) (fun x hx _=>N7 _ (B7 x hx)) (fun a' c' AW hr=> ?_)
  ·exact(Cn.ie (AQ q hq)).2 (hc ((I6 Bq).1 hg) q hq)
  ·obtain⟨r,rfl,h2⟩:=AZ cl At;rw [At]at GD;simp only [Ac]at GD;exact⟨r,N7 r rfl,fun hg=>(Zb GD.1 (EL.iv GD.2)).2 (h2 ((I6 Bq).1 hg))⟩
  ·have hρ:c'.ρ=c.ρ++τ:=AW.ρ;refine hK c' a' ⟨τ,hρ.symm⟩ ⟨AW.w0.trans hm.w0,AW.A.trans hm.A,AW.Mu.trans hm.Mu, ?_,by rw [ZK];exact hm.len,fun t ht=> ?_, ?_⟩ (by rw [hρ];exact hk)
   ·rw [hρ,WA,Aj,hτ,EN];split<;>rfl
   ·have hmul:base+Bj*(i+1)=base+Bj*i+Bj:=by rw [Nat.mul_add];omega
    rw [hmul];rcases AW.U t ht with h|h
    ·have:=hm.U t h;omega
    ·exact h.2
   ·rw [aF,ZY,hm.len];exact hr
 unfold SB at hd;obtain⟨hc,hd⟩:=WG hd;cases At:e.call with
 |none=>
  simp only [At]at hd;cases B7:e.bq with
  |none=>simp only [B7]at hd;refine ET [] (by have:=hm.rel;simpa [Cx.ext]using this) (by simp [At,B7]) (by simpa using hd) hc (fun cl h=>by rw [At]at h;cases h) (fun x h=>by rw [B7]at h;cases h)
  |some x=>simp only [B7]at hd;have ES:=Oz (by simp [B7]);refine ET [.bool (H9 a o)] (hm.ext ES _) (by simp [B7]) (hd _ fun hg hb=> ?_) hc (fun cl h=>by rw [At]at h;cases h) (fun x h=>rfl);exact EK c n _ _ _ a _ _ o gs e _ x ⟨hm.rel,hg,fun _ _=>rfl,fun t e h=>aA h,fun t h1 h2=>AS t h1 (Nat.lt_of_lt_of_le h2 (Nat.add_le_add_left (by decide) _))⟩ he B7 hb
 |some cl=>
  simp only [At]at hd;cases B7:e.bq with
  |some x=>rw [B7]at X0;simp [At]at X0
  |none=>simp only [B7]at hd;obtain⟨r,h1,h2⟩:=hd;have ES:=Oz (by simp [At]);refine ET [r] (hm.ext ES _) (by simp [At]) h2 hc (fun cl' h=>by rw [At]at h;cases h;exact⟨r,rfl,h1⟩) (fun x h=>by rw [B7]at h;cases h)
theorem o6 {σ:St} {x:E} {b:Bool} {d:Nat}:Bf (assume x b d σ)=B1 σ.sl.length (fun i=>assumeS x b (Bf σ i)) (some d) (.e (.bool b)):=by
 funext i;simp only [assume,Bf,B1,Ae,List.getElem?_set,List.length_map,List.getElem?_map];by_cases h:d=i
 ·subst h;by_cases h2:d<σ.sl.length
  ·simp [h2]
  ·simp [h2,List.getElem?_eq_none (Nat.le_of_not_lt h2),assumeS]
 ·simp only [h,false_and,if_false];cases hh:σ.sl[i]?<;>simp [assumeS]
theorem oX {σ:St} {x:E} {b:Bool} {d:Nat}:Av (assume x b d σ).hp=fun t=>(Av σ.hp t).map (assumeE x b):=by funext t;exact pN _ _ _
theorem G1.assume {F:Fix} {c:Cx} {σ:St} {a:Act} {n m:Nat} (h:G1 F c σ a n m) {x:E} {b:Bool} (hx:x.den c.ρ= .bool b) {d:Nat} (hd:Bf σ d= .e x):G1 F c (Go.Proofs.YtagokdejdanfcaaGreatDoor.assume x b d σ) a n m:=by
 refine⟨h.w0,h.A,h.Mu,h.nv, ?_,h.U, ?_⟩
 ·simp only [Go.Proofs.YtagokdejdanfcaaGreatDoor.assume,List.length_set,List.length_map];exact h.len
 ·rw [o6,oX];have hr:=h.rel.ee hx;refine{hr with ct:=fun i=> ?_};unfold B1;split
  ·rename_i hi;obtain⟨hi,_⟩:=hi;cases hi;have:=h.rel.ct d;rw [hd]at this;generalize a.tmps.getD d Go.undef=v at this;cases this with
   |e h1 h2 _=>exact .e (f:= []) (by rw [hx]at h1;rw [Gi h1 rfl];exact .bool .nil) (by simp) .nil
  ·exact hr.ct i
theorem oZ (AB:LX P sg Rt) (EK:P0 P sg) {F:Fix} {base:Nat} {R:AV→Prop} {L:LK} {js:List JK} {Q:Exit→Act→World→Prop} {n:Nat} {next:List Log→St→Option Tr} {i:Nat} {o:Oper} {lg:List Log} {rest:List Nat} (hi:ops[i]?=some o)
  (BT: ∀(lg:List Log) (σ:St) (t:Tr),next lg σ=some t→ ∀(c:Cx) (a:Act),G1 F c σ a n (base+Bj*(i+1))→t.den Rt R L js c.ρ→(∀(c':Cx) (a':Act) (σ':St),c.ρ<+:c'.ρ→L js .normal σ' c'.ρ→E8 F c'.ρ σ' a' c'.w→Q .normal a' c'.w)→wpOps P ops Q rest a c.w):
  ∀(m:Nat) (σ:St) (t:Tr),P7 P sg ops false base next i o lg m σ=some t→
  ∀(c:Cx) (a:Act),G1 F c σ a n (base+Bj*i)→t.den Rt R L js c.ρ→(∀(c':Cx) (a':Act) (σ':St),c.ρ<+:c'.ρ→L js .normal σ' c'.ρ→E8 F c'.ρ σ' a' c'.w→Q .normal a' c'.w)→wpOps P ops Q (i::rest) a c.w:=by
 have K3:base+Bj*i≤base+Bj*(i+1):=by rw [Nat.mul_add];omega
 have try_: ∀(fail:Unit→Option Tr) (σ:St) (t:Tr),P6 P sg ops false base next i o lg fail σ=some t→ ∀(c:Cx) (a:Act),G1 F c σ a n (base+Bj*i)→t.den Rt R L js c.ρ→(∀(c':Cx) (a':Act) (σ':St),c.ρ<+:c'.ρ→L js .normal σ' c'.ρ→E8 F c'.ρ σ' a' c'.w→Q .normal a' c'.w)→
   (fail ()=some t→wpOps P ops Q (i::rest) a c.w)→wpOps P ops Q (i::rest) a c.w:=by
  intro fail σ t ht c a hm hd hq N4;unfold P6 at ht;cases Fm:LA σ ops o with
  |none=>rw [Fm]at ht;cases ht
  |some r=>
   have F9:=We (c:=c) (a:=a) Fm (fun j want d _ _=>hm.rel.ct d);rw [Fm]at ht;cases r with
   |none=>simp only at ht;rw [wpOps_cons];unfold wpOp;simp only [hi];rw [if_neg (by simp [show Region.wanted o (yielded ops a.tmps)=false from F9])];refine BT lg _ t ht c _ ⟨hm.w0,hm.A,hm.Mu,by rw [V0];exact hm.nv,by rw [Vx];exact hm.len,fun t ht=>Nat.lt_of_lt_of_le (hm.U t ht) K3, ?_⟩ hd hq;rw [VX,VT,hm.len];exact hm.rel.put WW o.dst
   |some gs=>
    simp only at ht;split at ht
    ·rename_i e he;split at ht
     ·cases ht
     ·rename_i Ax;split at ht
      ·cases ht
      ·rename_i k hk;simp only [Ae]at ht;subst ht;simp only [Bool.false_and,Bool.false_or,Bool.not_false,Bool.true_and,Bool.or_eq_true,Bool.not_eq_true',Ac,not_or,Bool.not_eq_false]at Ax;rw [wpOps_cons];refine uV AB EK hi hm F9 he Ax.1 (fun hh=> ?_) hd fun c' a' hp EE Bw=>BT _ _ k hk c' a' EE Bw fun c'' a'' σ' hp'=>hq c'' a'' σ' (hp.trans hp');have:=Ax.2;simp only [Bool.or_eq_true]at hh;simpa [hh]using this
    ·exact N4 ht
 intro m
 induction m with
 |zero=>exact fun σ t ht c a hm hd hq=>try_ _ σ t ht c a hm hd hq fun h=>by cases h
 |succ m ih=>
  intro σ t ht c a hm hd hq;refine try_ _ σ t ht c a hm hd hq fun h=> ?_;split at h
  ·rename_i d _ _;split at h
   ·rename_i x Qu;split at h
    ·rename_i k1 k0 GA TU;simp only [Ae]at h;subst h;obtain⟨tt,h1,h2,h3⟩:=hd;cases tt with
     |true=>exact ih _ k1 GA c a (hm.assume h1 Qu) (h2 rfl) hq
     |false=>exact ih _ k0 TU c a (hm.assume h1 Qu) (h3 rfl) hq
    ·cases h
   ·cases h
  ·cases h
theorem bP (AB:LX P sg Rt) (EK:P0 P sg) {F:Fix} {base:Nat} {R:AV→Prop} {L:LK} {js:List JK} {Q:Exit→Act→World→Prop} {n:Nat}: ∀(len i:Nat) (lg:List Log) (σ:St) (t:Tr),i+len=ops.size→Jp P sg ops false base (List.range' i len) lg σ=some t→
  ∀(c:Cx) (a:Act),G1 F c σ a n (base+Bj*i)→t.den Rt R L js c.ρ→(∀(c':Cx) (a':Act) (σ':St),c.ρ<+:c'.ρ→L js .normal σ' c'.ρ→E8 F c'.ρ σ' a' c'.w→Q .normal a' c'.w)→wpOps P ops Q (List.range' i len) a c.w
 |0,i,lg,σ,t,hl,ht,c,a,hm,hd,hq=>by
  simp only [List.range'_zero,Jp,Bool.false_and,BW,if_false,Ae]at ht ⊢;subst ht;refine hq c a _ (List.prefix_refl _) hd ⟨c,rfl,rfl,hm.w0,hm.A,hm.Mu,hm.nv,fun t ht=> ?_, ?_⟩
  ·have:=hm.U t ht;have h9:i=ops.size:=by omega
   subst h9;exact this
  ·have:=hm.rel;rw [←hm.len]at this;exact this
 |len+1,i,lg,σ,t,hl,ht,c,a,hm,hd,hq=>by
  rw [List.range'_succ]at ht ⊢;unfold Jp at ht;obtain⟨o,hi⟩: ∃o,ops[i]?=some o:=⟨ops[i]'(by omega),by simp [show i<ops.size by omega]⟩
  rw [hi]at ht;simp only at ht;exact oZ AB EK hi (fun lg σ t ht c a=>bP AB EK (n:=n) len (i+1) lg σ t (by omega) ht c a) 4 σ t ht c a hm hd hq
end
def Xk (l:List Oper) (bs:List Nat):Prop:=bs.length=l.length∧ ∀(j:Nat) (o:Oper),l[j]?=some o→ ∀i,((bs[j]?).getD 0).testBit i=true→ ∃e∈o.after.toList,Region.binds .any e=true∧(i=e.on∨(e.on<j∧((bs[e.on]?).getD 0).testBit i=true))
theorem YR (acc:List Nat) (i:Nat): ∀(es:List Edge) (s:Nat),(es.foldl (fun s e=>if Region.binds .any e then s|||2^e.on|||(acc[e.on]?).getD 0 else s) s).testBit i=true→
  s.testBit i=true∨ ∃e∈es,Region.binds .any e=true∧(i=e.on∨((acc[e.on]?).getD 0).testBit i=true)
 | [],s,h=> .inl h
 |e::es,s,h=>by
  simp only [List.foldl_cons]at h;rcases YR acc i es _ h with h|⟨e',h1,h2⟩
  ·split at h
   ·rename_i hb;simp only [Nat.testBit_or,Nat.testBit_two_pow,Bool.or_eq_true,decide_eq_true_eq]at h;rcases h with(h|h)|h
    ·exact .inl h
    ·exact .inr ⟨e,by simp,hb, .inl h.symm⟩
    ·exact .inr ⟨e,by simp,hb, .inr h⟩
   ·exact .inl h
  ·exact .inr ⟨e',by simp [h1],h2⟩
theorem ZP: ∀(os pre:List Oper) (acc:List Nat),Xk pre acc→Xk (pre++os) (Ip os acc)
 | [],pre,acc,h=>by simpa [Ip]using h
 |o::os,pre,acc,h=>by
  obtain⟨hl,hb⟩:=h;have:=ZP os (pre++ [o]) (acc++ [WL acc o]) ⟨by simp [hl],fun j o' ho i hi=> ?_⟩
  ·simpa [Ip]using this
  ·have AD: ∀k,k<acc.length→((acc++ [WL acc o])[k]?).getD 0=(acc[k]?).getD 0:=fun k hk=>by rw [List.getElem?_append_left hk]
   by_cases hj:j<pre.length
   ·rw [List.getElem?_append_left hj]at ho;rw [AD j (by omega)]at hi;obtain⟨e,h1,h2,h3⟩:=hb j o' ho i hi;exact⟨e,h1,h2,h3.imp id fun h=>⟨h.1,by rw [AD _ (by omega)];exact h.2⟩⟩
   ·rw [List.getElem?_append_right (by omega)]at ho;have fG:j-pre.length=0:=by
     cases hh:j-pre.length with
     |zero=>rfl
     |succ k=>rw [hh]at ho;simp at ho
    rw [fG]at ho;simp at ho;subst ho;have L6:j=acc.length:=by omega
    rw [L6,List.getElem?_append_right (Nat.le_refl _)]at hi;simp only [Nat.sub_self,List.getElem?_cons_zero,Option.getD_some]at hi;rcases YR acc i _ 0 hi with h|⟨e,h1,h2,h3⟩
    ·simp at h
    ·refine⟨e,h1,h2,h3.imp id fun h=> ?_⟩;have he:e.on<acc.length:=by
      rcases Nat.lt_or_ge e.on acc.length with hh|hh
      ·exact hh
      ·rw [List.getElem?_eq_none hh]at h;simp at h
     exact⟨by omega,by rw [AD _ he];exact h⟩
def PS (ops:Array Oper) (S:Nat→Bool):Prop:= ∀k o,S k=true→ops[k]?=some o→ ∀e∈o.after.toList,Region.binds .any e=true→S e.on=true
theorem cU (ops:Array Oper):Xk ops.toList (Ip ops.toList []):=by have:=ZP ops.toList [] [] ⟨rfl,by simp⟩;simpa using this
theorem Za {ops:Array Oper} {S:Nat→Bool} (hS:PS ops S): ∀(k i:Nat),S k=true→k<ops.size→(((Ip ops.toList [])[k]?).getD 0).testBit i=true→S i=true:=by
 intro k
 induction k using Nat.strongRecOn with
 |_ k ih=>
  intro i hk AD hb;have ho:ops.toList[k]?=some ops[k]:=by simp [AD]
  obtain⟨e,h1,h2,h3⟩:=(cU ops).2 k _ ho i hb;have Ou:=hS k ops[k] hk (by simp [AD]) e h1 h2;rcases h3 with rfl|⟨h3,h4⟩
  ·exact Ou
  ·exact ih e.on h3 i Ou (by omega) h4
theorem pX {ops:Array Oper} {S:Nat→Bool} (hS:PS ops S) {j i:Nat} {o:Oper} (ho:ops[j]?=some o) (hr: ∀e∈o.after.toList,Region.binds .any e=true→S e.on=true) (hb:(((Ip ops.toList [])[j]?).getD 0).testBit i=true):S i=true:=by
 have AD:j<ops.size:=(Array.getElem?_eq_some_iff.1 ho).1;obtain⟨e,h1,h2,h3⟩:=(cU ops).2 j o (by simpa using ho) i hb;have Ou:=hr e h1 h2;rcases h3 with rfl|⟨h3,h4⟩
 ·exact Ou
 ·exact Za hS e.on i Ou (by omega) h4
theorem oO {ops:Array Oper} {S:Nat→Bool} (hS:PS ops S) {j i:Nat} {o:Oper} (ho:ops[j]?=some o) (hi:i<ops.size) (hj:S j=false) (hr: ∀e∈o.after.toList,Region.binds .any e=true→S e.on=true) (Bk:i≠j) (ID:Hy (Ip ops.toList []) i j=true):S i=decide (i<j):=by
 unfold Hy at ID;split at ID
 ·rename_i h;rw [pX hS ho hr ID];simp [h]
 ·rename_i h;cases hs:S i with
  |false=>simp [h]
  |true=>have:=Za hS i j hs hi ID;rw [hj]at this;cases this
structure Rec where
 i:Nat
 o:Oper
 σ:St
 r:Option (Gd × AO)
def Rec.next (x:Rec):St:=match x.r with|none=>FT x.σ x.o.dst Kz|some (gs,e)=>I7 x.σ gs x.o e
def Rec.val (x:Rec):SV:=match x.r with|none=>Kz|some (gs,e)=>mkGd gs e.val
def Rec.bb (x:Rec):List (Nat × Af):=match x.r with|none=> []|some (_,e)=>e.bb
def dP (P:Program) (sg:BB) (Rt:Nat→List AV→AV→Prop) (ops:Array Oper) (base:Nat) (ρ:List AV) (x:Rec):Prop:=
 ops[x.i]?=some x.o∧match x.r with
  |none=>LA x.σ ops x.o=some none
  |some (gs,e)=>LA x.σ ops x.o=some (some gs)∧Jm P sg (Bf x.σ) (Nx x.σ.hp (PJ x.σ gs x.o)) x.σ.nv (base+Bj*x.i) gs x.o=some e∧e.bq=none∧Nn x.σ.nv (base+Bj*x.i) x.σ.hp gs e=true∧
   (A2 ρ gs→ ∀q∈e.cd,q.den ρ)∧ ∀cl,e.call=some cl→ ∃r,ρ[x.σ.nv]?=some r∧(A2 ρ gs→Gn Rt cl.fn ((EL.of cl.args).den ρ) ρ r)
def Dc:Nat→St→List Rec→St→Prop
 |_,σ, [],σ'=>σ=σ'
 |i,σ,x::xs,σ'=>x.i=i∧x.σ=σ∧Dc (i+1) x.next xs σ'
def Rec.log (x:Rec):Option Log:=x.r.map fun(gs,e)=>⟨x.i,PJ x.σ gs x.o,e.bb.map (·.1)⟩
theorem Wi {P:Program} {sg:BB} {Rt:Nat→List AV→AV→Prop} {ops:Array Oper} {base:Nat} {R:AV→Prop} {L:LK} {js:List JK}: ∀(len i:Nat) (lg:List Log) (σ:St) (t:Tr) (ρ:List AV),i+len=ops.size→
  Jp P sg ops true base (List.range' i len) lg σ=some t→t.den Rt R L js ρ→ρ.length=σ.nv→
  ∃(τ:List AV) (xs:List Rec) (σ':St) (lg':List Log),Dc i σ xs σ'∧xs.length=len∧(∀x∈xs,dP P sg Rt ops base (ρ++τ) x)∧(ρ++τ).length=σ'.nv∧L js .normal {σ' with nx:=base+Bj*ops.size} (ρ++τ)∧SJ ops lg'=true∧(∀y∈lg,y∈lg')∧ ∀x∈xs,∀y,x.log=some y→y∈lg'
 |0,i,lg,σ,t,ρ,hl,ht,hd,hn=>by
  simp only [List.range'_zero,Jp,Bool.true_and]at ht;split at ht
  ·cases ht
  ·rename_i Qr;simp only [Ae]at ht;subst ht;exact⟨[], [],σ,lg,rfl,rfl,by simp,by simpa using hn,by simpa [Tr.den]using hd,by simpa using Qr,fun y hy=>hy,by simp⟩
 |len+1,i,lg,σ,t,ρ,hl,ht,hd,hn=>by
  rw [List.range'_succ]at ht;unfold Jp at ht;obtain⟨o,hi⟩: ∃o,ops[i]?=some o:=⟨ops[i]'(by omega),by simp [show i<ops.size by omega]⟩
  rw [hi]at ht;simp only at ht;unfold P7 P6 at ht;cases Fm:LA σ ops o with
  |none=>rw [Fm]at ht;cases ht
  |some r=>
   rw [Fm]at ht;cases r with
   |none=>
    simp only at ht;obtain⟨τ,xs,σ',lg',h1,h2,h3,h4,h5,h6,h7,h8⟩:=Wi len (i+1) lg _ t ρ (by omega) ht hd (by rw [V0];exact hn);refine⟨τ,⟨i,o,σ,none⟩::xs,σ',lg',⟨rfl,rfl,h1⟩,by simp [h2],fun x hx=> ?_,h4,h5,h6,h7,fun x hx y hy=> ?_⟩
    ·rcases Ad.1 hx with rfl|hx
     ·exact⟨hi,Fm⟩
     ·exact h3 x hx
    ·rcases Ad.1 hx with rfl|hx
     ·simp [Rec.log]at hy
     ·exact h8 x hx y hy
   |some gs=>
    simp only at ht;split at ht
    ·rename_i e he;split at ht
     ·cases ht
     ·rename_i Ax;simp only [Bool.true_and,Bool.not_true,Bool.false_and,Bool.or_false,Bool.or_eq_true,Bool.not_eq_true',not_or,Bool.not_eq_false]at Ax;have B7:e.bq=none:=by cases hh:e.bq with|none=>rfl|some x=>rw [hh]at Ax;simp at Ax
      split at ht
      ·cases ht
      ·rename_i k hk;simp only [Ae]at ht;subst ht;have D2:=Ax.2;simp only [Nn,Ac,A1]at D2;obtain⟨⟨⟨⟨Bq,AQ⟩,GD⟩,_⟩,_⟩:=D2;rw [←hn]at Bq AQ GD;unfold SB at hd;obtain⟨hc,hd⟩:=WG hd;simp only [B7]at hd;obtain⟨τ0,iA,AZ,Bw⟩: ∃τ0:List AV,(ρ++τ0).length=(I7 σ gs o e).nv∧(∀cl,e.call=some cl→ ∃r,τ0= [r]∧(A2 ρ gs→Gn Rt cl.fn ((EL.of cl.args).den ρ) ρ r))∧k.den Rt R L js (ρ++τ0):=by
        cases At:e.call with
        |none=>rw [At]at hd;exact⟨[],by rw [WA];simp [At,B7,hn],by simp,by simpa using hd⟩
        |some cl=>rw [At]at hd;obtain⟨r,h1,h2⟩:=hd;exact⟨[r],by rw [WA];simp [At,hn],fun cl' h=>by cases h;exact⟨r,rfl,h1⟩,h2⟩
       obtain⟨τ,xs,σ',lg',h1,h2,h3,h4,h5,h6,h7,h8⟩:=Wi len (i+1) _ _ k (ρ++τ0) (by omega) hk Bw iA;have Tk:ρ++τ0++τ=ρ++(τ0++τ):=List.append_assoc ..;rw [Tk]at h3 h4 h5;refine⟨τ0++τ,⟨i,o,σ,some (gs,e)⟩::xs,σ',lg',⟨rfl,rfl,h1⟩,by simp [h2],fun x hx=> ?_,h4,h5,h6,fun y hy=>h7 y (by simp [hy]),fun x hx y hy=> ?_⟩
       ·rcases Ad.1 hx with rfl|hx
        ·refine⟨hi,Fm,he,B7,Ax.2,fun hg q hq=>(Cn.ie (AQ q hq)).2 (hc ((I6 Bq).1 hg) q hq),fun cl At=> ?_⟩;obtain⟨r,hr,h2⟩:=AZ cl At;rw [At]at GD;simp only [Ac]at GD;subst hr;exact⟨r,by simp only;rw [←hn];simp,fun hg=>(Zb GD.1 (EL.iv (by simpa using GD.2))).2 (h2 ((I6 Bq).1 hg))⟩
        ·exact h3 x hx
       ·rcases Ad.1 hx with rfl|hx
        ·simp only [Rec.log,Option.map_some,Ae]at hy;subst hy;exact h7 _ (by simp)
        ·exact h8 x hx y hy
    ·cases ht
def EU (n:Nat) (sl0:Nat→SV) (xs:List Rec) (S:Nat→Bool):Nat→SV:=xs.foldl (fun sl x=>if S x.i then B1 n sl x.o.dst x.val else sl) sl0
def Fs (hp0:Nat→Option Af) (xs:List Rec) (S:Nat→Bool):Nat→Option Af:=xs.foldl (fun hp x=>if S x.i then AX hp x.bb else hp) hp0
section
variable {n:Nat} {S S':Nat→Bool} {d t:Nat}
theorem Pj: ∀(xs:List Rec) {sl sl':Nat→SV},sl d=sl' d→(∀x∈xs,x.o.dst=some d→S x.i=S' x.i)→EU n sl xs S d=EU n sl' xs S' d
 | [],_,_,h,_=>h
 |x::xs,sl,sl',h,hs=>by
  refine Pj xs (sl:=if S x.i then B1 n sl x.o.dst x.val else sl) (sl':=if S' x.i then B1 n sl' x.o.dst x.val else sl') ?_ fun y hy=>hs y (by simp [hy]);by_cases hd:x.o.dst=some d
  ·rw [←hs x (by simp) hd];split
   ·simp only [B1,hd,true_and];rw [h]
   ·exact h
  ·have hu: ∀sl:Nat→SV,B1 n sl x.o.dst x.val d=sl d:=fun sl=>by simp [B1,hd]
   have h1:(if S x.i then B1 n sl x.o.dst x.val else sl) d=sl d:=by split;exact hu sl;rfl
   have h2:(if S' x.i then B1 n sl' x.o.dst x.val else sl') d=sl' d:=by split;exact hu sl';rfl
   rw [h1,h2,h]
theorem Wk (xs:List Rec) {sl:Nat→SV} (hs: ∀x∈xs,x.o.dst=some d→S x.i=false):EU n sl xs S d=sl d:=by
 have h1:=Pj (n:=n) (S:=S) (S':=fun _=>false) xs (sl:=sl) (sl':=sl) (d:=d) rfl hs;rw [h1];clear h1 hs
 induction xs generalizing sl with
 |nil=>rfl
 |cons x xs ih=>exact ih
theorem Xa (hd:n≤d): ∀(xs:List Rec) {sl:Nat→SV},EU n sl xs S d=sl d
 | [],_=>rfl
 |x::xs,sl=>by
  have:=Xa hd xs (sl:=if S x.i then B1 n sl x.o.dst x.val else sl);refine Eq.trans this ?_;split
  ·simp only [B1];rw [if_neg (by omega)]
  ·rfl
theorem bX {y:Rec} (hd:d<n) (hy:y.o.dst=some d) (hS:S y.i=true): ∀(xs:List Rec) {sl:Nat→SV},y∈xs→(∀x∈xs,x≠y→x.o.dst≠some d)→EU n sl xs S d=y.val
 | [],_,h,_=>by simp at h
 |x::xs,sl,h,hu=>by
  by_cases hm:y∈xs
  ·exact bX hd hy hS xs (sl:=if S x.i then B1 n sl x.o.dst x.val else sl) hm fun z hz=>hu z (by simp [hz])
  ·have hx:y=x:=by rcases Ad.1 h with h|h;exact h;exact absurd h hm
   subst hx;have:=Wk (n:=n) (S:=S) (d:=d) xs (sl:=B1 n sl y.o.dst y.val) (fun z hz Mb=>absurd Mb (hu z (by simp [hz]) (fun hh=>hm (hh▸hz))));show EU n (if S y.i then B1 n sl y.o.dst y.val else sl) xs S d=_;rw [if_pos hS,this];simp [B1,hy,hd]
theorem Zj {hp hp':Nat→Option Af} {l:List (Nat × Af)} (h:hp t=hp' t):AX hp l t=AX hp' l t:=by
 induction l generalizing hp hp' with
 |nil=>exact h
 |cons p l ih=>
  refine ih ?_;show(if t=p.1 then some p.2 else hp t)=(if t=p.1 then some p.2 else hp' t)
  rw [h]
theorem nQ {hp hp':Nat→Option Af} {l:List (Nat × Af)} (h:t∈l.map (·.1)):AX hp l t=AX hp' l t:=by
 induction l generalizing hp hp' with
 |nil=>simp at h
 |cons p l ih=>
  by_cases hm:t∈l.map (·.1)
  ·exact ih hm
  ·have ht:t=p.1:=by simp only [List.map_cons,Ad]at h;exact h.resolve_right hm
   refine Zj (l:=l) ?_;show(if t=p.1 then some p.2 else hp t)=(if t=p.1 then some p.2 else hp' t)
   rw [if_pos ht,if_pos ht]
theorem Wm {hp:Nat→Option Af} {l:List (Nat × Af)} (h:t∉l.map (·.1)):AX hp l t=hp t:=
 I8 fun e he=>h (List.mem_map.2 ⟨_,he,rfl⟩)
theorem Pg: ∀(xs:List Rec) {hp hp':Nat→Option Af},hp t=hp' t→(∀x∈xs,t∈x.bb.map (·.1)→S x.i=S' x.i)→Fs hp xs S t=Fs hp' xs S' t
 | [],_,_,h,_=>h
 |x::xs,hp,hp',h,hs=>by
  refine Pg xs (hp:=if S x.i then AX hp x.bb else hp) (hp':=if S' x.i then AX hp' x.bb else hp') ?_ fun y hy=>hs y (by simp [hy]);by_cases hd:t∈x.bb.map (·.1)
  ·rw [←hs x (by simp) hd];split
   ·exact Zj h
   ·exact h
  ·have h1:(if S x.i then AX hp x.bb else hp) t=hp t:=by split;exact Wm hd;rfl
   have h2:(if S' x.i then AX hp' x.bb else hp') t=hp' t:=by split;exact Wm hd;rfl
   rw [h1,h2,h]
theorem WI (xs:List Rec) {hp:Nat→Option Af} (hs: ∀x∈xs,t∈x.bb.map (·.1)→S x.i=false):Fs hp xs S t=hp t:=by
 have h1:=Pg (S:=S) (S':=fun _=>false) xs (hp:=hp) (hp':=hp) (t:=t) rfl hs;rw [h1];clear h1 hs
 induction xs generalizing hp with
 |nil=>rfl
 |cons x xs ih=>exact ih
end
section
variable {n:Nat} {S:Nat→Bool} {d t:Nat}
theorem Rec.jg (x:Rec):Bf x.next=B1 x.σ.sl.length (Bf x.σ) x.o.dst x.val:=by
 obtain⟨i,o,σ,r⟩:=x;cases r with
 |none=>exact VX
 |some ge=>exact aF
theorem Rec.jb (x:Rec):Av x.next.hp=AX (Av x.σ.hp) x.bb:=by
 obtain⟨i,o,σ,r⟩:=x;cases r with
 |none=>simp only [Rec.next,Rec.bb,VT];rfl
 |some ge=>exact ZY
theorem Rec.il (x:Rec):x.next.sl.length=x.σ.sl.length:=by
 obtain⟨i,o,σ,r⟩:=x;cases r with
 |none=>exact Vx
 |some ge=>exact ZK
theorem Dc.range: ∀{xs:List Rec} {i:Nat} {σ σ':St},Dc i σ xs σ'→ ∀x∈xs,i≤x.i∧x.i<i+xs.length
 | [],_,_,_,_,x,hx=>by simp at hx
 |y::xs,i,σ,σ',h,x,hx=>by
  rcases Ad.1 hx with rfl|hx
  ·have:=h.1;simp only [An];omega
  ·have:=Dc.range h.2.2 x hx;simp only [An];omega
theorem Dc.ex: ∀{xs:List Rec} {i:Nat} {σ σ':St},Dc i σ xs σ'→ ∀j,i≤j→j<i+xs.length→ ∃x∈xs,x.i=j
 | [],i,_,_,_,j,h1,h2=>by simp at h2;omega
 |y::xs,i,σ,σ',h,j,h1,h2=>by
  by_cases hj:j=i
  ·exact⟨y,by simp,by rw [hj];exact h.1⟩
  ·simp only [An]at h2;obtain⟨x,hx,he⟩:=Dc.ex h.2.2 j (by omega) (by omega);exact⟨x,by simp [hx],he⟩
theorem Dc.inj: ∀{xs:List Rec} {i:Nat} {σ σ':St},Dc i σ xs σ'→ ∀x∈xs,∀y∈xs,x.i=y.i→x=y
 | [],_,_,_,_,x,hx,_,_,_=>by simp at hx
 |z::xs,i,σ,σ',h,x,hx,y,hy,he=>by
  have hz:=h.1;rcases Ad.1 hx with h1|h1<;>rcases Ad.1 hy with h2|h2
  ·rw [h1,h2]
  ·subst h1;have:=(Dc.range h.2.2 y h2).1;omega
  ·subst h2;have:=(Dc.range h.2.2 x h1).1;omega
  ·exact Dc.inj h.2.2 x h1 y h2 he
theorem Dc.sl: ∀{xs:List Rec} {i:Nat} {σ σ':St},Dc i σ xs σ'→σ.sl.length=n→(∀x∈xs,x.σ.sl.length=n∧ ∀d,Bf x.σ d=EU n (Bf σ) xs (fun k=>decide (k<x.i)) d)∧σ'.sl.length=n∧Bf σ'=EU n (Bf σ) xs fun _=>true
 | [],i,σ,σ',h,hn=>by have h:σ=σ':=h;subst h;exact⟨by simp,hn,rfl⟩
 |y::xs,i,σ,σ',h,hn=>by
  obtain⟨h1,h2,h3⟩:=h;subst h2;obtain⟨q1,q2,q3⟩:=Dc.sl h3 (by rw [y.il];exact hn);rw [y.jg,hn]at q1 q3;refine⟨fun x hx=> ?_,q2,q3⟩;rcases Ad.1 hx with rfl|hx
  ·refine⟨hn,fun d=>(Wk _ fun z hz _=> ?_).symm⟩;rcases Ad.1 hz with rfl|hz
   ·simp
   ·have:=(Dc.range h3 z hz).1;simp only [decide_eq_false_iff_not];omega
  ·refine⟨(q1 x hx).1,fun d=> ?_⟩;rw [(q1 x hx).2 d];have:=(Dc.range h3 x hx).1;show _=EU n (if decide (y.i<x.i)then B1 n (Bf y.σ) y.o.dst y.val else Bf y.σ) xs (fun k=>decide (k<x.i)) d;rw [if_pos (by simp only [decide_eq_true_eq];omega)]
theorem Dc.hp: ∀{xs:List Rec} {i:Nat} {σ σ':St},Dc i σ xs σ'→(∀x∈xs,∀t,Av x.σ.hp t=Fs (Av σ.hp) xs (fun k=>decide (k<x.i)) t)∧Av σ'.hp=Fs (Av σ.hp) xs fun _=>true
 | [],i,σ,σ',h=>by have h:σ=σ':=h;subst h;exact⟨by simp,rfl⟩
 |y::xs,i,σ,σ',h=>by
  obtain⟨h1,h2,h3⟩:=h;subst h2;obtain⟨q1,q3⟩:=Dc.hp h3;rw [y.jb]at q1 q3;refine⟨fun x hx=> ?_,q3⟩;rcases Ad.1 hx with rfl|hx
  ·refine fun d=>(WI _ fun z hz _=> ?_).symm;rcases Ad.1 hz with rfl|hz
   ·simp
   ·have:=(Dc.range h3 z hz).1;simp only [decide_eq_false_iff_not];omega
  ·intro t;rw [q1 x hx t];have:=(Dc.range h3 x hx).1;show _=Fs (if decide (y.i<x.i)then AX (Av y.σ.hp) y.bb else Av y.σ.hp) xs (fun k=>decide (k<x.i)) t;rw [if_pos (by simp only [decide_eq_true_eq];omega)]
theorem cQ {y:Rec} {Uf:Nat→Option Af} (hS:S y.i=true) (ht:t∈y.bb.map (·.1)): ∀{xs:List Rec} {i:Nat} {σ σ':St} {hp0:Nat→Option Af},Dc i σ xs σ'→y∈xs→(∀x∈xs,x.i≠y.i→t∈x.bb.map (·.1)→S x.i=decide (x.i<y.i))→Fs hp0 xs S t=AX Uf y.bb t
 | [],_,_,_,_,_,h,_=>by simp at h
 |x::xs,i,σ,σ',hp0,hc,hm,hs=>by
  by_cases hx:y=x
  ·subst hx;have:=WI (S:=S) (t:=t) xs (hp:=AX hp0 y.bb) (fun z hz Mb=>by
    have AD:=(Dc.range hc.2.2 z hz).1;have h1:=hc.1;rw [hs z (by simp [hz]) (by omega) Mb];simp only [decide_eq_false_iff_not];omega)
   show Fs (if S y.i then AX hp0 y.bb else hp0) xs S t=_;rw [if_pos hS,this];exact nQ ht
  ·have EE:y∈xs:=by rcases Ad.1 hm with h|h;exact absurd h hx;exact h
   exact cQ hS ht (hp0:=if S x.i then AX hp0 x.bb else hp0) hc.2.2 EE fun z hz=>hs z (by simp [hz])
end
theorem ZR {α:Type} {p p':α→Bool}: ∀(l:List α),(∀k∈l,p' k=true→p k=true)→(∃j∈l,p j=true∧p' j=false)→(l.filter p').length<(l.filter p).length
 | [],_,h=>by obtain⟨j,hj,_⟩:=h;simp at hj
 |x::l,hs,h=>by
  have hle:(l.filter p').length≤(l.filter p).length:=by
   have: ∀(l:List α),(∀k∈l,p' k=true→p k=true)→(l.filter p').length≤(l.filter p).length:=by
    intro l
    induction l with
    |nil=>intro _;simp
    |cons y l ih=>
     intro h;have:=ih fun k hk=>h k (by simp [hk]);have hy:=h y (by simp);cases h1:p' y with
     |false=>
      cases h2:p y with
      |false=>simpa [h1,h2]using this
      |true=>simp only [List.filter_cons,h1,h2,BW,if_false,if_true,An];omega
     |true=>simpa [h1,hy h1]using this
   exact this l fun k hk=>hs k (by simp [hk])
  obtain⟨j,hj,h1,h2⟩:=h;rcases Ad.1 hj with rfl|hj
  ·simp only [List.filter_cons,h1,h2,BW,if_false,if_true,An];omega
  ·have:=ZR l (fun k hk=>hs k (by simp [hk])) ⟨j,hj,h1,h2⟩;have hx:=hs x (by simp);cases h3:p' x with
   |false=>
    cases h4:p x with
    |false=>simpa [h3,h4]using this
    |true=>simp only [List.filter_cons,h3,h4,BW,if_false,if_true,An];omega
   |true=>simpa [h3,hx h3]using this
section
variable {ops:Array Oper} {listed:Array Bool}
theorem qL (hb: ∀j o,ops[j]?=some o→ ∀e∈o.after.toList,Region.binds .any e=true→e.on<j) (BU:listed.size=ops.size) (hr:Region.ready .any ops listed= []): ∀k,k<ops.size→listed.getD k true=true:=by
 intro k
 induction k using Nat.strongRecOn with
 |_ k ih=>
  intro hk;cases hs:listed.getD k true with
  |true=>rfl
  |false=>
   have:k∈Region.ready .any ops listed:=mem_ready.2 ⟨hs,ops[k],by simp [hk],fun e he Iv=>by
    have AD:=hb k ops[k] (by simp [hk]) e (by simpa using he) Iv;have:=ih e.on AD (by omega);have h2:e.on<listed.size:=by omega
    simp only [Array.getD_eq_getD_getElem?,Array.getElem?_eq_getElem h2,Option.getD_some]at this ⊢;exact this⟩
   rw [hr]at this;cases this
theorem rR (BU:listed.size=ops.size) {j:Nat} (hj:j<ops.size) (k:Nat):(listed.setIfInBounds j true).getD k true=(decide (k=j)||listed.getD k true):=by
 by_cases h:j=k
 ·subst h;simp [Array.getD_eq_getD_getElem?,show j<listed.size by omega]
 ·rw [getD_set_ne true h];simp [Ne.symm h]
variable {P:Program} {sg:BB} {Rt:Nat→List AV→AV→Prop}
theorem pB (AB:LX P sg Rt) {F:Fix} {σ σ':St} {xs:List Rec} {ρ:List AV} {lg:List Log} {n:Nat} {Q:Exit→Act→World→Prop} (hc:Dc 0 σ xs σ') (hlen:xs.length=ops.size) (AE: ∀x∈xs,dP P sg Rt ops σ.nx ρ x) (Qr:SJ ops lg=true) (Of: ∀x∈xs,∀y,x.log=some y→y∈lg) (hn:σ.sl.length=n)
  (hQ: ∀(c:Cx) (a:Act),c.ρ=ρ→c.w0=F.w0→c.A=F.A→c.Mu=F.Mu→(∀t,c.U t→t<σ.nx+Bj*ops.size)→Rel c n (Bf σ') (Av σ'.hp) a→Q .normal a c.w):
  ∀(fuel:Nat) (listed:Array Bool) (a:Act) (c:Cx),listed.size=ops.size→PS ops (fun k=>listed.getD k true)→c.ρ=ρ→c.w0=F.w0→c.A=F.A→c.Mu=F.Mu→
   (∀t,c.U t→t<σ.nx∨ ∃k,k<ops.size∧listed.getD k true=true∧σ.nx+Bj*k≤t∧t<σ.nx+Bj*k+Bj)→Rel c n (EU n (Bf σ) xs fun k=>listed.getD k true) (Fs (Av σ.hp) xs fun k=>listed.getD k true) a→
   ((List.range ops.size).filter fun k=> !listed.getD k true).length≤fuel→wpAny P .any ops Q fuel listed a c.w:=by
 simp only [SJ,Ac,A1,Bool.or_eq_true,beq_iff_eq,Bool.not_eq_true',decide_eq_true_eq]at Qr;obtain⟨⟨d1,d2⟩,d3⟩:=Qr;have Oj: ∀j o,ops[j]?=some o→(o,j)∈ops.toList.zipIdx:=fun j o h=>List.mk_mem_zipIdx_iff_getElem?.2 (by simpa using h);have hb: ∀j o,ops[j]?=some o→ ∀e∈o.after.toList,Region.binds .any e=true→e.on<j:=fun j o h e he Iv=>by
  rcases d2 (o,j) (Oj j o h) e he with h|h
  ·rw [Iv]at h;cases h
  ·exact h
 obtain⟨c1,c2,c3⟩:=hc.sl hn;obtain⟨c4,c5⟩:=hc.hp;have Dh: ∀(listed:Array Bool) (a:Act) (c:Cx),listed.size=ops.size→c.ρ=ρ→c.w0=F.w0→c.A=F.A→c.Mu=F.Mu→
   (∀t,c.U t→t<σ.nx∨ ∃k,k<ops.size∧listed.getD k true=true∧σ.nx+Bj*k≤t∧t<σ.nx+Bj*k+Bj)→Rel c n (EU n (Bf σ) xs fun k=>listed.getD k true) (Fs (Av σ.hp) xs fun k=>listed.getD k true) a→
   (∀k,k<ops.size→listed.getD k true=true)→Q .normal a c.w:=by
  intro listed a c BU h1 h2 h3 h4 h5 h6 CF;refine hQ c a h1 h2 h3 h4 (fun t ht=> ?_) ?_
  ·rcases h5 t ht with h|⟨k,hk,_,_,h⟩
   ·simp only [Bj]at*;omega
   ·simp only [Bj]at*;omega
  ·have e1:(EU n (Bf σ) xs fun k=>listed.getD k true)=Bf σ':=by
    rw [c3];funext d;exact Pj xs rfl fun x hx _=>by have:=(hc.range x hx).2;exact CF x.i (by omega)
   have e2:(Fs (Av σ.hp) xs fun k=>listed.getD k true)=Av σ'.hp:=by rw [c5];funext d;exact Pg xs rfl fun x hx _=>by have:=(hc.range x hx).2;exact CF x.i (by omega)
   rw [e1,e2]at h6;exact h6
 intro fuel
 induction fuel with
 |zero=>
  intro listed a c BU At h1 h2 h3 h4 h5 h6 NU;have CF: ∀k,k<ops.size→listed.getD k true=true:=by intro k hk;have:=List.length_eq_zero_iff.1 (Nat.le_zero.1 NU);have:=List.filter_eq_nil_iff.1 this k (by simpa using hk);simpa using this
  refine⟨?_,Dh listed a c BU h1 h2 h3 h4 h5 h6 CF⟩;refine List.eq_nil_iff_forall_not_mem.2 fun j hj=> ?_;obtain⟨q1,o,q2,_⟩:=mem_ready.1 hj;rw [CF j (Array.getElem?_eq_some_iff.1 q2).1]at q1;cases q1
 |succ fuel ih=>
  intro listed a c BU At h1 h2 h3 h4 h5 h6 NU;refine⟨fun hr=>Dh listed a c BU h1 h2 h3 h4 h5 h6 (qL hb BU hr),fun j hj=> ?_⟩;obtain⟨q1,o,q2,q3⟩:=mem_ready.1 hj;have TT:j<ops.size:=(Array.getElem?_eq_some_iff.1 q2).1;have JB: ∀e∈o.after.toList,Region.binds .any e=true→listed.getD e.on true=true:=fun e he Iv=>by
   have h9:=q3 e (by simpa using he) Iv;have AD:=hb j o q2 e he Iv;have h8:e.on<listed.size:=by omega
   simp only [Array.getD_eq_getD_getElem?,Array.getElem?_eq_getElem h8,Option.getD_some]at h9 ⊢;exact h9
  obtain⟨y,hy,GG⟩:=hc.ex j (by omega) (by omega);have Li:y.o=o:=by have:=(AE y hy).1;rw [GG,q2]at this;exact(Option.some.inj this).symm
  have QG: ∀x∈xs,x.i<ops.size:=fun x hx=>by have:=(hc.range x hx).2;omega
  have X3: ∀x∈xs,ops[x.i]?=some x.o:=fun x hx=>(AE x hx).1;have agree: ∀x∈xs,x.i≠j→Hy (Ip ops.toList []) x.i j=true→listed.getD x.i true=decide (x.i<j):=fun x hx Bk ho=>oO (S:=fun k=>listed.getD k true) At q2 (QG x hx) q1 JB Bk ho;have JW: ∀x∈xs,x.i=j→listed.getD x.i true=decide (x.i<j):=fun x hx he=>by rw [he,q1];simp
  have FG: ∀d,d∈SE ops o→Bf y.σ d=EU n (Bf σ) xs (fun k=>listed.getD k true) d:=by
   intro d hd;rw [(c1 y hy).2 d,GG];refine Pj xs rfl fun x hx OI=> ?_;by_cases he:x.i=j
   ·exact(JW x hx he).symm
   ·rcases d3 (o,j) (Oj j o q2) (x.o,x.i) (Oj _ _ (X3 x hx))with h|h
    ·exact absurd h he
    ·simp only [OI,Ac,Bool.or_eq_true,Bool.not_eq_true']at h;rcases h.2 with h|h
     ·rw [List.contains_iff_mem.2 hd]at h;cases h
     ·exact(agree x hx he h).symm
  have hW: ∀x∈xs,∀t,t∈x.bb.map (·.1)→ ∀ly,y.log=some ly→(t∈ly.R∨t∈ly.W)→listed.getD x.i true=decide (x.i<j):=by
   intro x hx t ht ly Og hm;by_cases he:x.i=j
   ·exact JW x hx he
   ·cases UA:x.r with
    |none=>simp [Rec.bb,UA]at ht
    |some ge=>
     obtain⟨gs,e⟩:=ge;have fR:x.log=some ⟨x.i,PJ x.σ gs x.o,e.bb.map (·.1)⟩:=by simp [Rec.log,UA]
     have T1:ly.i=j:=by unfold Rec.log at Og;obtain⟨ge',_,rfl⟩:=Ap.1 Og;exact GG
     have h9:=d1 _ (Of x hx _ fR) _ (Of y hy _ Og);simp only [T1]at h9;rcases h9 with(h|h)|h
     ·exact absurd h he
     ·exfalso;have:Xc (e.bb.map (·.1)) (ly.R++ly.W)=true:=by
       simp only [Xc,List.any_eq_true];exact⟨t,by simpa [Rec.bb,UA]using ht,List.contains_iff_mem.2 (by simpa using hm)⟩
      rw [this]at h;cases h
     ·exact agree x hx he h
  have BT: ∀k,(listed.setIfInBounds j true).getD k true=(decide (k=j)||listed.getD k true):=rR BU TT;have Up:EU n (Bf σ) xs (fun k=>(listed.setIfInBounds j true).getD k true)=B1 n (EU n (Bf σ) xs fun k=>listed.getD k true) o.dst y.val:=by
   funext d;unfold B1;split
   ·rename_i hd;refine bX hd.2 (by rw [Li];exact hd.1) (by rw [BT,GG];simp) xs hy fun x hx Bk OI=> ?_;have he:x.i≠j:=fun h=>Bk (hc.inj x hx y hy (by rw [h,GG]));rcases d3 (o,j) (Oj j o q2) (x.o,x.i) (Oj _ _ (X3 x hx))with h|h
    ·exact he h
    ·simp only [OI,Ac,bne_iff_ne,ne_eq]at h;exact h.1 hd.1
   ·rename_i hd;by_cases Tz:d<n
    ·refine Pj xs rfl fun x hx OI=> ?_;have he:x.i≠j:=fun h=>by
      have:x=y:=hc.inj x hx y hy (by rw [h,GG]);subst this;exact hd ⟨by rw [←Li];exact OI,Tz⟩
     rw [BT];simp [he]
    ·rw [Xa (by omega),Xa (by omega)]
  have TN:Fs (Av σ.hp) xs (fun k=>(listed.setIfInBounds j true).getD k true)=AX (Fs (Av σ.hp) xs fun k=>listed.getD k true) y.bb:=by
   funext t;by_cases ht:t∈y.bb.map (·.1)
   ·refine cQ (by rw [BT,GG];simp) ht hc hy fun x hx Bk UB=> ?_;rw [GG]at Bk ⊢;rw [BT];simp only [Bk,decide_false,Bool.false_or];cases Hw:y.r with
    |none=>simp [Rec.bb,Hw]at ht
    |some ge=>exact hW x hx t UB _ (by simp only [Rec.log,Hw,Option.map_some];rfl) (.inr (by simpa [Rec.bb,Hw]using ht))
   ·rw [Wm ht];refine Pg xs rfl fun x hx UB=> ?_;have he:x.i≠j:=fun h=>by
     have:x=y:=hc.inj x hx y hy (by rw [h,GG]);subst this;exact ht UB
    rw [BT];simp [he]
  have NV:((List.range ops.size).filter fun k=> !(listed.setIfInBounds j true).getD k true).length≤fuel:=by have:=ZR (p:=fun k=> !listed.getD k true) (p':=fun k=> !(listed.setIfInBounds j true).getD k true) (List.range ops.size) (fun k _ hk=>by rw [BT]at hk;simp at hk ⊢;exact hk.2) ⟨j,by simpa using TT,by simp [q1],by rw [BT];simp⟩;omega
  have Ts:PS ops (fun k=>(listed.setIfInBounds j true).getD k true):=by
   intro k ok hk TV e he Iv;simp only [BT,Bool.or_eq_true,decide_eq_true_eq]at hk ⊢;rcases hk with rfl|hk
   ·rw [q2]at TV;cases TV;exact .inr (JB e he Iv)
   ·exact .inr (At k ok hk TV e he Iv)
  have JF: ∀(a':Act) (c':Cx),c'.ρ=ρ→c'.w0=F.w0→c'.A=F.A→c'.Mu=F.Mu→(∀t,c'.U t→c.U t∨(σ.nx+Bj*j≤t∧t<σ.nx+Bj*j+Bj))→Rel c' n (B1 n (EU n (Bf σ) xs fun k=>listed.getD k true) o.dst y.val) (AX (Fs (Av σ.hp) xs fun k=>listed.getD k true) y.bb) a'→
    wpAny P .any ops Q fuel (listed.setIfInBounds j true) a' c'.w:=by
   intro a' c' g1 g2 g3 g4 g5 g6;refine ih _ a' c' (by simpa using BU) Ts g1 g2 g3 g4 (fun t ht=> ?_) (by rw [Up,TN];exact g6) NV;rcases g5 t ht with h|h
   ·rcases h5 t h with h|⟨k,k1,k2,k3,k4⟩
    ·exact .inl h
    ·exact .inr ⟨k,k1,by rw [BT,k2];simp,k3,k4⟩
   ·exact .inr ⟨j,TT,by rw [BT];simp,h.1,h.2⟩
  have XP: ∀j' want d,o.guard=some (j',want)→(ops[j']?).bind (·.dst)=some d→SR c [Bf y.σ d] [a.tmps.getD d Go.undef]:=by intro j' want d hg hd;rw [FG d (by simp only [SE,hg,Ag];exact .inr (by simp [hd]))];exact h6.ct d
  obtain⟨_,Cl⟩:=AE y hy;cases Hw:y.r with
  |none=>
   rw [Hw]at Cl;have F9:=We (c:=c) (a:=a) Cl (fun j' want d hg hd=>XP j' want d (by rw [←Li];exact hg) hd);unfold wpOp;simp only [q2];rw [Li]at F9;rw [if_neg (by simp [show Region.wanted o (yielded ops a.tmps)=false from F9])];have hv:y.val=Kz:=by simp [Rec.val,Hw]
   have he:y.bb= []:=by simp [Rec.bb,Hw]
   refine JF _ c h1 h2 h3 h4 (fun t ht=> .inl ht) ?_;rw [hv,he];exact h6.put WW o.dst
  |some ge=>
   obtain⟨gs,e⟩:=ge;rw [Hw]at Cl;simp only at Cl;obtain⟨r1,r2,r3,r4,r5,r6⟩:=Cl;rw [Li,GG]at r2;rw [GG]at r4;rw [Li]at r1;have F9:=We (c:=c) (a:=a) r1 XP;have hv:y.val=mkGd gs e.val:=by simp [Rec.val,Hw]
   have he:y.bb=e.bb:=by simp [Rec.bb,Hw]
   simp only [Nn,Ac,A1]at r4;obtain⟨_,Un⟩:=r4;have Og:y.log=some ⟨y.i,PJ y.σ gs y.o,e.bb.map (·.1)⟩:=by simp [Rec.log,Hw]
   refine bW (c:=c) AB q2 h6 F9 (fun t ht=>FG t (by simp only [SE,Ag,List.mem_filterMap];exact .inl ⟨.tmp t,by simpa using ht,rfl⟩)) (fun t x hx=> ?_) (fun t t1 t2 hU=> ?_) r2 (fun Bk t x hx=> ?_) (by rw [h1];exact r5) (by rw [h1];exact r6) (fun x hx=>by rw [r3]at hx;cases hx) (fun a' c' hs hr=> ?_)
   ·unfold Nx at hx;split at hx
    ·rename_i hR;rw [(c4 y hy) t]at hx;rw [←hx];refine Pg xs rfl fun z hz hP=> ?_;rw [GG];exact hW z hz t hP _ Og (.inl (by rw [Li];simpa using hR))
    ·cases hx
   ·rcases h5 t hU with h|⟨k,k1,k2,k3,k4⟩
    ·simp only [Bj]at*;omega
    ·have:k≠j:=by rintro rfl;rw [q1]at k2;cases k2
     simp only [Bj]at*;omega
   ·have:=Un _ hx;have NW:gs.isEmpty=false:=by cases gs;exact absurd rfl Bk;rfl
    simp only [NW,Bool.false_or,Bool.false_and,Bool.or_false,Ac,decide_eq_true_eq]at this;refine⟨this.1.1,this.1.2, ?_⟩;have h3:=this.2;split at h3
    ·exact⟨_,_,rfl,h3⟩
    ·cases h3
   ·exact JF a' c' (hs.ρ.trans h1) (hs.w0.trans h2) (hs.A.trans h3) (hs.Mu.trans h4) hs.U (by rw [hv,he];exact hr)
end
theorem Rel.world {c:Cx} {n:Nat} {sl:Nat→SV} {hp:Nat→Option Af} {a:Act} (h:Rel c n sl hp a) (w:World) (h1:w.heap=c.w.heap) (h2:w.os=c.w.os) (h3:w.tape=c.w.tape) (h4:w.output=c.w.output):Rel {c with w:=w} n sl hp a:=by
 refine h.change (fun _=>False) ⟨rfl,rfl,fun _ _ hb=>hb,fun b _ _=>by show w.heap[b]?=_;rw [h1],fun _ _ hk=>⟨hk,rfl⟩,fun _ _ _=>⟨Nat.le_refl _,fun _=>⟨rfl,fun b _ _=>by show w.heap[b]?=_;rw [h1]⟩⟩⟩ ⟨h2.trans h.base.os,h3.trans h.base.tape,h4.trans h.base.output,by show _≤w.heap.size;rw [h1];exact h.base.size,h.base.pins,fun b hb hm=>by show w.heap[b]?=_;rw [h1];exact h.base.block b hb hm,h.base.pk,h.base.lo⟩ (fun t _=>⟨rfl,rfl,rfl,fun g hk=>hk⟩) (fun t _ b _=>by show w.heap[b]?=_;rw [h1]) (fun t ht=>ht.elim)
  ⟨h.gw.nodup,h.gw.cc,h.gw.allow,fun t b hb=>by show b<w.heap.size;rw [h1];exact h.gw.inb t b hb⟩ h.bm h.cf
theorem qC {P:Program} {sg:BB} {Rt:Nat→List AV→AV→Prop} (T7:P.follows .mixedOrders=true) (AB:LX P sg Rt) (EK:P0 P sg):aU P sg Rt:=by
 intro id ops draw σ t _ D2 fY ht F R L js ρ a w hL hd hr Q hq;obtain⟨c,rfl,rfl,h1,h2,h3,h4,h5,h6⟩:=hr;rw [List.range_eq_range']at ht;cases draw with
 |false=>refine wp_region ?_;rw [List.range_eq_range'];exact bP AB EK (n:=σ.sl.length) ops.size 0 [] σ t (by omega) ht c a ⟨h1,h2,h3,h4,rfl,by simpa using h5,h6⟩ hd (fun c' a' σ' hp hl Am=>hq [] .normal σ' c'.ρ a' c'.w hp hl Am)
 |true=>
  refine wp_region_any T7 ?_;obtain⟨τ,xs,σ',lg',g1,g2,g3,g4,g5,g6,_,g8⟩:=Wi ops.size 0 [] σ t c.ρ (by omega) ht hd h4;have TB:=h6.ext (fun i=>by rw [h4];exact St.jv D2 i) (fun t e he=>by rw [h4];exact St.jm D2 t e he) τ;have hw:=TB.world {c.w with drawn:=c.w.drawn+1} rfl rfl rfl rfl;have Fh: ∀k,k<ops.size→(Array.replicate ops.size false).getD k true=false:=fun k hk=>by simp [Array.getD_eq_getD_getElem?,hk]
  have QG: ∀x∈xs,x.i<ops.size:=fun x hx=>by have:=(g1.range x hx).2;omega
  have e1:(EU σ.sl.length (Bf σ) xs fun k=>(Array.replicate ops.size false).getD k true)=Bf σ:=by funext d;exact Wk _ fun x hx _=>Fh x.i (QG x hx)
  have e2:(Fs (Av σ.hp) xs fun k=>(Array.replicate ops.size false).getD k true)=Av σ.hp:=by funext d;exact WI _ fun x hx _=>Fh x.i (QG x hx)
  refine pB (F:=F) (n:=σ.sl.length) (c:={c.ext τ with w:={c.w with drawn:=c.w.drawn+1}}) AB g1 g2 g3 g6 g8 rfl (fun c' a' k1 k2 k3 k4 k5 k6=> ?_) ops.size (Array.replicate ops.size false) a (by simp) (fun k o hk ho=> ?_) rfl h1 h2 h3 (fun t ht=> .inl (h5 t ht)) (by rw [e1,e2];exact hw) (Nat.le_trans (List.length_filter_le _ _) (by simp))
  ·have hlen:=(g1.sl rfl).2.1;refine hq [] .normal _ c'.ρ a' c'.w (by rw [k1];exact List.prefix_append _ _) (by rw [k1];exact g5) ⟨c',rfl,rfl,k2,k3,k4,by rw [k1];exact g4,k5, ?_⟩;show Rel c' σ'.sl.length _ _ a';rw [hlen];exact k6
  ·have:=Fh k (Array.getElem?_eq_some_iff.1 ho).1;have Bw:(Array.replicate ops.size false).getD k true=true:=hk;rw [this]at Bw;cases Bw
section
variable {P:Program} {c:Cx} {n nx:Nat} {sl sl0:Nat→SV} {hp hp0:Nat→Option Af} {a:Act} {o:Oper} {gs:Gd} {e:AO} {sg:BB} {nv:Nat}
theorem ZF (h:Ba P c n nx sl hp a sl0 hp0 o gs) {op:BinOp} {t el:TypeId} {x y:Operand} {ty:TypeId} (ho:o.op= .binOp op t x y ty) (hu:P.underlying t=some (.slice el)) {p:Option Addr} {q r:Nat} (hv:a.eval x= .slice p q r) (r2:SR c [.bp] [a.eval y])
  (AB:op= .eql∨op= .neq) (EN:c.ρ[nv]?=some (.bool (H9 a o))) (x':Option E) {ck:List Cn}:Ar P o c n nx sl hp gs a {cd:=ck,bq:=x',val:= .e (if op= .eql then .var nv else .not (.var nv))}:=by
 have hb:H9 a o=p.isNone:=by simp only [H9,ho,hv];cases p<;>rfl
 rw [hb]at EN;have ex:=fun(v u:Value) (hv:a.eval x=v) (hu:a.eval y=u)=>LI (P:=P) (o:=o) ho c.w hv hu;generalize CL:a.eval y=v2 at r2;cases r2 with
 |bp _=>
  refine Ar.pure h (v:= .bool (if op= .eql then p.isNone else !p.isNone)) ?_ ?_ rfl
  ·rw [ex _ _ hv CL,eqGuard_at_slice];rcases AB with rfl|rfl
   ·simp [Go.Lib.run_eql_slice_nil c.w t el p q r 0 0 hu]
   ·simp [binOp,Op.equal,Op.maxDepth,Go.Lib.run_equalIn_slice_nil c.w 9999 t el p q r 0 0 hu]
  ·rcases AB with rfl|rfl
   ·refine .e (f:= []) ?_ (by simp) .nil;simp only [if_true,E.den,EN,Option.getD_some];exact .bool .nil
   ·refine .e (f:= []) ?_ (by simp) .nil;simp only [reduceCtorEq,if_false,E.den,EN,Option.getD_some,AV.dv];exact .bool .nil
end
section
variable {P:Program} {c:Cx} {n nx:Nat} {sl sl0:Nat→SV} {hp hp0:Nat→Option Af} {a:Act} {o:Oper} {gs:Gd} {e:AO} {sg:BB} {nv:Nat}
theorem Pp {hp:Nat→Option Af} {gs:Gd} {m:Nat} {cs:Be} {x:E} (h:A9 hp gs m (.agg cs)=some x): ∃k l,m=k+1∧BQ hp gs k cs.toList=some l∧x= .mk l:=by
 cases m with
 |zero=>simp [A9]at h
 |succ m=>simp only [A9,Ap]at h;obtain⟨l,h1,h2⟩:=h;exact⟨m,l,rfl,h1,h2.symm⟩
theorem Ic {hp:Nat→Option Af} {gs:Gd} {m:Nat} {y x:E} (h:A9 hp gs m (.e y)=some x):x=y:=by
 cases m with
 |zero=>simp [A9]at h
 |succ m=>simp [A9]at h;exact h.symm
theorem I5 {hp:Nat→Option Af} {gs:Gd} {m:Nat} {x:E} (h:A9 hp gs m .bp=some x):x= .lst .nil:=by
 cases m with
 |zero=>simp [A9]at h
 |succ m=>simp [A9]at h;exact h.symm
theorem H4 {hp:Nat→Option Af} {gs:Gd} {m:Nat} {s:SV} {ss:List SV} {x:EL} (h:BQ hp gs m (s::ss)=some x): ∃k y l,m=k+1∧A9 hp gs k s=some y∧BQ hp gs k ss=some l∧x= .cons y l:=by
 cases m with
 |zero=>simp [BQ]at h
 |succ m=>
  simp only [BQ]at h;split at h
  ·rename_i y l h1 h2;simp at h;exact⟨m,y,l,rfl,h1,h2,h.symm⟩
  ·cases h
theorem My {hp:Nat→Option Af} {gs:Gd} {ρ:List AV} {w:World}: ∀(vs:List Value) (ss:List SV) (m:Nat) (x:EL),DU.go vs=some ss→BQ hp gs m ss=some x→Rd w vs (x.den ρ) []
 | [],ss,m,x,h,hx=>by
  simp [DU.go]at h;subst h;cases m with
  |zero=>simp [BQ]at hx
  |succ m=>simp [BQ]at hx;subst hx;exact .nil
 |v::vs,ss,m,x,h,hx=>by
  unfold DU.go at h;split at h
  ·rename_i hh;cases hh
  ·rename_i k q l hh;cases hh;split at h
   ·rename_i hk;obtain⟨l',h1,rfl⟩:=Ap.1 h;obtain⟨j,y,l2,rfl,h2,h3,rfl⟩:=H4 hx;rw [Ic h2];exact .int hk (My _ _ _ _ h1 h3)
   ·cases h
  ·rename_i q l hh;cases hh;obtain⟨l',h1,rfl⟩:=Ap.1 h;obtain⟨j,y,l2,rfl,h2,h3,rfl⟩:=H4 hx;rw [Ic h2];exact .bool (My _ _ _ _ h1 h3)
  ·rename_i q l hh;cases hh;split at h
   ·rename_i hk;obtain⟨l',h1,rfl⟩:=Ap.1 h;obtain⟨j,y,l2,rfl,h2,h3,rfl⟩:=H4 hx;rw [Ic h2];exact .str hk (My _ _ _ _ h1 h3)
   ·cases h
  ·rename_i l hh;cases hh;obtain⟨l',h1,rfl⟩:=Ap.1 h;obtain⟨j,y,l2,rfl,h2,h3,rfl⟩:=H4 hx;rw [I5 h2];exact .dh (My _ _ _ _ h1 h3)
  ·rename_i l hh;cases hh;obtain⟨l',h1,rfl⟩:=Ap.1 h;obtain⟨j,y,l2,rfl,h2,h3,rfl⟩:=H4 hx;rw [Ic h2];exact .dd (My _ _ _ _ h1 h3)
  ·cases h
theorem VE {hp:Nat→Option Af} {gs:Gd} {ρ:List AV} {w:World} {v:Value} {s:SV} {m:Nat} {x:E} (h:DU v=some s) (hx:A9 hp gs m s=some x):
  Rd w v.cells.toList (x.den ρ).cells []∧(∀u∈v.cells.toList,u.oneCell'=true):=by
 have one: ∀{v:Value} {y:AV},Rd w [v] [y] []→(∀cs,y≠ .agg cs)→(∀cs,y≠ .tup cs)→Rd w v.cells.toList y.cells []∧(∀u∈v.cells.toList,u.oneCell'=true):=by
  intro v y hr h1 h2;have h3:=Vw hr h1 h2;have h4:y.cells= [y]:=by cases y<;>first|rfl|exact absurd rfl (h1 _)
  rw [one_cells h3,h4];exact⟨by simpa using hr,by simpa using h3⟩
 unfold DU at h;split at h
 ·split at h
  ·rename_i hk;simp at h;subst h;rw [Ic hx];exact one (.int hk .nil) (by simp [E.den]) (by simp [E.den])
  ·cases h
 ·simp at h;subst h;rw [Ic hx];exact one (.bool .nil) (by simp [E.den]) (by simp [E.den])
 ·split at h
  ·rename_i hk;simp at h;subst h;rw [Ic hx];exact one (.str hk .nil) (by simp [E.den]) (by simp [E.den])
  ·cases h
 ·simp at h;subst h;rw [I5 hx];exact one (.dh .nil) (by simp [E.den]) (by simp [E.den])
 ·simp at h;subst h;rw [Ic hx];exact one (.dd .nil) (by simp [E.den]) (by simp [E.den])
 ·rename_i cs;simp only [Option.bind_eq_bind,Aq,Ae]at h;obtain⟨l,hl,rfl⟩:=h;obtain⟨k,l',rfl,h1,rfl⟩:=Pp hx;rw [Be.aq]at h1;exact⟨My _ _ _ _ hl h1,Vz _ _ hl⟩
 ·cases h
theorem W6 {w:World} {vs:List Value} {x:AV} (h:Rd w vs x.cells []): ∀k,Rd w (List.replicate k vs).flatten (AH (List.replicate k x)) []
 |0=> .nil
 |k+1=>by simp only [List.replicate_succ,List.flatten_cons,AH,List.flatMap_cons];have:=h.app (W6 h k);simpa [AH]using this
theorem RE (z:Array Value) (hz:0<z.size): ∀k,(madeCells z (k*z.size)).toList=(List.replicate k z.toList).flatten
 |0=>by simp [madeCells]
 |k+1=>by
  have ih:=RE z hz k;simp only [madeCells,Array.toList_map,Array.toList_range]at ih ⊢;rw [Nat.add_mul,Nat.one_mul,List.range_add,List.map_append,ih,List.replicate_succ',List.flatten_append];congr 1;simp only [List.map_map,List.flatten_cons,List.flatten_nil,List.append_nil];apply List.ext_getElem?;intro i;simp only [List.getElem?_map,List.getElem?_range'];by_cases hi:i<z.size
  ·simp only [List.getElem?_range hi,Option.map_some,Function.comp_apply];have:(k*z.size+i) % z.size=i:=by rw [Nat.add_comm,Nat.add_mul_mod_self_right,Nat.mod_eq_of_lt hi]
   simp [this,hi]
  ·rw [List.getElem?_eq_none (by simpa using hi),List.getElem?_eq_none (by simpa using hi)];rfl
theorem nI (h:Ba P c n nx sl hp a sl0 hp0 o gs) {t:TypeId} {l m:Operand} (ho:o.op= .makeSlice t l m) {s1 s2:SV} (Bq:Bo sl0 gs l=some s1) (AQ:Bo sl0 gs m=some s2) (he:WV P hp0 gs nx t s1 s2=some e) (hc: ∀q∈e.cd,Cn.den c.ρ q):Ar P o c n nx sl hp gs a e:=by
 have Dk:l∈o.op.operands:=by simp [ho,Op.operands]
 have CV:m∈o.op.operands:=by simp [ho,Op.operands]
 unfold WV at he;split at he
 ·rename_i el x y A7;have A7:=H3 A7;split at he
  ·cases he
  rename_i hz;have hz:Gk P el=true:=by simpa using hz
  obtain⟨i,z,hi,EC,D3,BU,BY,G7⟩:=I0 hz;have r1:=h.cm Bq Dk;have r2:=h.cm AQ CV;have ival: ∀{x:E} {kk:IntKind} {k:Int} {v:Value},SR c [.e x] [v]→x.den c.ρ= .int kk k→v= .int kk k:=by
   intro x kk k v hr hx;cases hr with
   |e h1 _ _=>exact(E6 h1 hx).1
  split at he
  ·rename_i Fv;split at he
   ·rename_i s hs;have hs:DU z=some s:=by simpa [hi,EC]using hs
    obtain⟨w,hw,rfl⟩:=Ap.1 he;obtain⟨kk,k,hk,h0,hb,hle⟩:Cn.den c.ρ (.mkroom x (P.bytesOf el)):=Bu hc;have Ee:=ival r1 hk;have CL:=ival r2 (by rw [←E.aj c.ρ _ _ Fv];exact hk);obtain⟨c1,c2⟩:=VE (w:=c.w) (ρ:=c.ρ) hs hw;obtain⟨kn,rfl⟩:=Int.eq_ofNat_of_zero_le h0;have CS:(i.bytes:Int)*(kn:Int)≤281474976710656:=by rw [G7]at hb;rw [Int.mul_comm];omega
    have hlen:=c1.len;have Qx:=RE z.cells (by omega) kn;have AG:=run_make (P:=P) c.w t el i z A7 hi EC kk kk kn kn (by omega) (Int.le_refl _) CS (by omega);have Ed:(madeCells z.cells (kn*z.cells.size)).size=kn*P.cellsOf el:=by rw [size_madeCells,D3,BY]
    have B4:(madeCells z.cells (kn*z.cells.size)).toList.take ((List.replicate kn (w.den c.ρ)).length*P.cellsOf el)=(List.replicate kn z.cells.toList).flatten:=by rw [List.length_replicate,List.take_of_length_le (by rw [Array.length_toList,Ed];exact Nat.le_refl _),Qx]
    refine Ar.newRow (xs:=List.replicate kn (w.den c.ρ)) (N:= []) (C:=madeCells z.cells (kn*z.cells.size)) (cap:=kn) (wd:=c.w) (fz:= []) (ts:= []) h rfl ⟨rfl,rfl,rfl,rfl⟩ ?_ ?_ (by omega) (fun u hu=> ?_) (by simp) (by simp only [maxLen];omega) Ed ?_ ?_ (by simp) (fun _=>rfl)
    ·simp only [execOp,ho,Ee,CL,Sem.run_bind,Int.ofNat_eq_natCast,List.length_replicate];rw [AG,D3];rfl
    ·simp [E.den,hk,AV.rep]
    ·rw [List.eq_of_mem_replicate hu,←hlen,Array.length_toList,D3,BY]
    ·rw [B4];intro u hu;obtain⟨q,hq,hu⟩:=List.mem_flatten.1 hu;rw [List.eq_of_mem_replicate hq]at hu;exact c2 u hu
    ·rw [B4];exact W6 c1 kn
   ·cases he
  ·split at he
   ·rename_i k0 _;simp only [Ae]at he;subst he;obtain⟨kk,k,hk,h0,hb,hle⟩:Cn.den c.ρ (.mkroom y (P.bytesOf el)):=Bu hc;have Ee:=ival r1 (show(E.int k0 0).den c.ρ= .int k0 0 from rfl);have CL:=ival r2 hk;obtain⟨kn,rfl⟩:=Int.eq_ofNat_of_zero_le h0;have CS:(i.bytes:Int)*(kn:Int)≤281474976710656:=by
     rw [G7]at hb;rw [Int.mul_comm];omega
    have AG:=run_make (P:=P) c.w t el i z A7 hi EC k0 kk 0 kn (by omega) (by omega) CS (by omega);refine Ar.newRow (xs:= []) (N:= []) (C:=madeCells z.cells (kn*i.size)) (cap:=kn) (wd:=c.w) (fz:= []) (ts:= []) h rfl ⟨rfl,rfl,rfl,rfl⟩ ?_ rfl (by omega) (by simp) (by simp) (by simp only [maxLen];omega) (by rw [size_madeCells,BY]) (by simp) (by simpa [AH]using Rd.nil) (by simp) (fun _=>rfl);simp only [execOp,ho,Ee,CL,Sem.run_bind,Int.ofNat_eq_natCast];rw [AG];rfl
   ·cases he
 ·cases he
end
section
variable {P:Program} {c:Cx} {n nx:Nat} {sl sl0:Nat→SV} {hp hp0:Nat→Option Af} {a:Act} {o:Oper} {gs:Gd} {e:AO} {sg:BB} {nv:Nat}
def MX (v:Option Value) (k d:Nat):Prop:=(v=none∧k=d)∨ ∃kk,v=some (.int kk (k:Int))
theorem Vb {w:World} {t el:TypeId} (hu:P.underlying t=some (.slice el)) (A8:CA P el=true) (p:Option Addr) (m r l h:Nat) {lo hi:Option Value} (BN:MX lo l 0) (KU:MX hi h m) (h1:l≤h) (h2:h≤m) (h3:m≤r):
  (Instr.sliceAt t (.slice p m r) lo hi none).run P w= .ok (sliced p l h r (P.cellsOf el)) w:=by
 have Eo:P.underlying t=some (.slice (P.elem t)):=by simp [Program.elem,hu]
 have he:P.elem t=el:=by simp [Program.elem,hu]
 have hs:(sizeOf (P.elem t)).run P w= .ok (P.cellsOf el) w:=by rw [he];exact Lv A8 w
 rw [run_sliceAt_slice w t _ _ _ _ Eo];rcases BN with⟨rfl,rfl⟩|⟨kl,rfl⟩<;>rcases KU with⟨rfl,rfl⟩|⟨kh,rfl⟩
 ·rw [run_slice_all w t p h r Eo,hs];rfl
 ·rw [run_slice_h w t p m r Eo kh _ (by omega) (by omega),hs];rfl
 ·rw [run_slice_l w t p h r Eo kl _ (by omega) (by omega),hs];rfl
 ·rw [run_slice_lh w t p m r Eo kl kh _ _ (by omega) (by omega) (by omega),hs];rfl
theorem mC (s:ByteArray) (a b:Nat):(s.extract a b).data.toList=(s.data.toList.drop a).take (b-a):=by rw [ByteArray.data_extract,Array.toList_extract,List.extract_eq_take_drop]
theorem jX {w:World} {t:TypeId} (hu:P.underlying t=some .string) (s:ByteArray) (l h:Nat) {lo hi:Option Value} (BN:MX lo l 0) (KU:MX hi h s.size) (h1:l≤h) (h2:h≤s.size):
  (Instr.sliceAt t (.string s) lo hi none).run P w= .ok (.string (s.extract l h)) w:=by
 rw [run_sliceAt_string w t _ _ _ _ hu];rcases BN with⟨rfl,rfl⟩|⟨kl,rfl⟩<;>rcases KU with⟨rfl,rfl⟩|⟨kh,rfl⟩
 ·rw [run_slice_string_all w t s hu]
 ·rw [run_slice_string_h w t s hu kh _ (by omega) (by omega)];rfl
 ·rw [run_slice_string_l w t s hu kl _ (by omega) (by omega)];rfl
 ·rw [run_slice_string w t s kl kh _ _ hu (by omega) (by omega) (by omega)];rfl
theorem V6 {sz:Nat} (ys:List AV) (hs: ∀y∈ys,y.cells.length=sz) (l h:Nat) (hl:l≤h) (hh:h≤ys.length):((AH ys).drop (l*sz)).take ((h-l)*sz)=AH ((ys.take h).drop l):=by
 have e:ys=ys.take l++((ys.take h).drop l++ys.drop h):=by
  rw [←List.append_assoc];have:ys.take l++(ys.take h).drop l=ys.take h:=by
   have h2:ys.take l=(ys.take h).take l:=by rw [List.take_take,Nat.min_eq_left hl]
   rw [h2,List.take_append_drop]
  rw [this,List.take_append_drop]
 have f1:AH ys=AH (ys.take l)++(AH ((ys.take h).drop l)++AH (ys.drop h)):=by
  conv=>lhs;rw [e]
  simp [AH]
 have l1:(AH (ys.take l)).length=l*sz:=by rw [MH _ (fun y hy=>hs y (List.mem_of_mem_take hy)),List.length_take,Nat.min_eq_left (by omega)]
 have l2:(AH ((ys.take h).drop l)).length=(h-l)*sz:=by rw [MH _ (fun y hy=>hs y (List.mem_of_mem_take (List.mem_of_mem_drop hy))),List.length_drop,List.length_take,Nat.min_eq_left (by omega)]
 rw [f1,←l1,List.drop_left,←l2,List.take_left]
theorem tQ {w:World} {v:Value} {ys:List AV} {f:List Nat} {sz:Nat} (hr:Rd w [v] [.sl ys] f) (hs: ∀y∈ys,y.cells.length=sz) (l h:Nat) (hl:l≤h) (hh:h≤ys.length):
  ∃p r g,v= .slice p ys.length r∧ys.length≤r∧Rd w [sliced p l h r sz] [.sl ((ys.take h).drop l)] g∧ ∀b∈g,b∈f:=by
 cases hr with
 |dh _=>
  rename_i p r;have hh:h=0:=by simpa using hh
  subst hh;have hl:l=0:=by omega
  subst hl;exact⟨_,_, [],rfl,Nat.zero_le _,by simpa [sliced]using Rd.dh .nil,by simp⟩
 |dw hb h1 h2 h3 h4 h5 h6 Fc h7 h8=>
  rename_i b o m r cs C t fz sz' f1 f2;have hy: ∃y,y∈ys:=by cases ys with|nil=>simp at h3;omega|cons y _=>exact⟨y,by simp⟩
  obtain⟨y0,GF⟩:=hy;have ES:sz'=sz:=(h4 y0 GF).symm.trans (hs y0 GF);subst ES;subst h3;refine⟨some ⟨b,o,none⟩,r, ?_⟩;rcases Nat.eq_or_lt_of_le hl with he|AD
  ·subst he;refine⟨[],rfl,h2.2, ?_,by simp⟩;have:(ys.take l).drop l= []:=List.drop_eq_nil_of_le (by simp;omega);rw [this];simp only [sliced,Nat.sub_self];exact .dh .nil
  ·have E2:=h7.len;obtain⟨g,hg,CZ⟩:=h7.piece (l*sz') ((h-l)*sz');rw [V6 ys h4 l h hl hh]at CZ;refine⟨b::(g++ []),rfl,h2.2, ?_,fun x hx=> ?_⟩
   ·have Cr:sliced (some (⟨b,o,none⟩:Addr)) l h r sz'= .slice (some ⟨b,o+l*sz',none⟩) (h-l) (r-l):=by
     unfold sliced;split
     ·exfalso;omega
     ·simp [Addr.add_lit]
    rw [Cr];refine Rd.dw (cs:=(cs.drop (l*sz')).take ((h-l)*sz')) hb (by omega) ⟨by omega,by omega⟩ (by simp;omega) (fun y hy=>h4 y (List.mem_of_mem_take (List.mem_of_mem_drop hy))) h5 (fun j u hu=> ?_) (fun u hu=>Fc u (List.mem_of_mem_drop (List.mem_of_mem_take hu))) CZ .nil;rw [List.getElem?_take]at hu;split at hu
    ·rw [List.getElem?_drop]at hu;have:=h6 _ _ hu;rw [←this];congr 1;omega
    ·cases hu
   ·simp only [List.append_nil,Ad]at hx;rcases hx with rfl|hx
    ·simp
    ·have:=hg x hx;simp [this]
theorem HG {f:Operand→Option SV} {x:Option Operand} {r:Option SV} (h:HO f x=some r):(x=none∧r=none)∨ ∃y z,x=some y∧f y=some z∧r=some z:=by
 cases x with
 |none=>simp [HO]at h;exact .inl ⟨rfl,h.symm⟩
 |some y=>obtain⟨z,hz,rfl⟩:=Ap.1 h;exact .inr ⟨y,z,rfl,hz,rfl⟩
theorem R0 {s:Option SV} {d l:E} (h:KB s d=some l):(s=none∧l=d)∨s=some (.e l):=by
 unfold KB at h;split at h
 ·simp at h;exact .inl ⟨rfl,h.symm⟩
 ·simp at h;subst h;exact .inr rfl
 ·cases h
theorem mU (h:Ba P c n nx sl hp a sl0 hp0 o gs) {t:TypeId} {x:Operand} {lo hi mx:Option Operand} (ho:o.op= .slice t x lo hi mx) {s:SV} (hs:Bo sl0 gs x=some s) {l' h' m':Option SV} (Bm:HO (Bo sl0 gs) lo=some l') (JG:HO (Bo sl0 gs) hi=some h') (EE:HO (Bo sl0 gs) mx=some m') (he:Ws P hp0 gs t s l' h' m'=some e) (hc: ∀q∈e.cd,Cn.den c.ρ q):Ar P o c n nx sl hp gs a e:=by
 have hm:x∈o.op.operands:=by simp [ho,Op.operands]
 have KZ: ∀y,lo=some y→y∈o.op.operands:=fun y hy=>by simp [ho,Op.operands,hy]
 have IC: ∀y,hi=some y→y∈o.op.operands:=fun y hy=>by simp [ho,Op.operands,hy]
 have T6: ∀y,mx=some y→y∈o.op.operands:=fun y hy=>by simp [ho,Op.operands,hy]
 have hx:=h.cm hs hm;have ival: ∀{x:E} {kk:IntKind} {k:Int} {v:Value},SR c [.e x] [v]→x.den c.ρ= .int kk k→v= .int kk k:=by
  intro x kk k v hr hx;cases hr with
  |e h1 _ _=>exact(E6 h1 hx).1
 unfold Ws at he;split at he
 ·cases he
 rename_i y hy;obtain⟨f,q1,q2⟩:=h.iy hs hm hy;have ex:(execOp a.eval o).run P c.w=((Instr.sliceAt t (a.eval x) (lo.map a.eval) (hi.map a.eval) (mx.map a.eval)).run P c.w).andThen fun v w=> .ok (.value v) w:=by simp [execOp,ho]
 split at he
 ·split at he
  ·rename_i el _ _ hu;split at he
   ·rename_i A8;simp only [Ae]at he;subst he;have hd:(y.den c.ρ).len≠ .undef:=Bu hc;cases Bc:y.den c.ρ<;>simp only [Bc,AV.len,ne_eq,not_true_eq_false]at hd;rename_i xs;have hl:(y.den c.ρ).len= .int .i64 (xs.length:Int):=by rw [Bc];rfl
    obtain⟨p,q,r,hv⟩: ∃p q r,a.eval x= .slice p q r:=by
     rcases MP q1 hl with⟨p,q,hv,Dj⟩|⟨b,o',k,q,hv,Dj⟩
     ·exact⟨_,_,_,hv⟩
     ·exact⟨_,_,_,hv⟩
    rcases HG Bm with⟨rfl,_⟩|⟨_,_,_,_,hh⟩
    ·rcases HG JG with⟨_,hh⟩|⟨oh,sh,rfl,gL,hh⟩
     ·cases hh
     ·cases hh;rcases HG EE with⟨_,hh⟩|⟨om,sm,rfl,gM,hh⟩
      ·cases hh
      ·cases hh;have v1:=(fun{kk:IntKind} (hr:SR c [.e (.int kk 0)] [a.eval oh])=>ival hr (show(E.int kk 0).den c.ρ= .int kk 0 from by simp only [E.den])) (h.cm gL (IC _ rfl))
       have v2:=(fun{kk:IntKind} (hr:SR c [.e (.int kk 0)] [a.eval om])=>ival hr (show(E.int kk 0).den c.ρ= .int kk 0 from by simp only [E.den])) (h.cm gM (T6 _ rfl))
       have Eo:P.underlying t=some (.slice (P.elem t)):=by simp [Program.elem,hu]
       have A7:P.elem t=el:=by simp [Program.elem,hu]
       refine Ar.pure h (v:= .slice p 0 0) ?_ (.emp .nil) rfl;rw [ex,hv];simp only [Option.map_none,Option.map_some,v1,v2];rw [run_sliceAt_slice c.w t _ _ _ _ Eo,run_slice_hm c.w t p q r Eo _ _ 0 0 (by omega) (by omega) (by omega),A7,Lv A8];simp [sliced]
    ·cases hh
   ·cases he
  ·cases he
 ·have K0:mx=none:=by
   rcases HG EE with⟨hh,_⟩|⟨_,_,_,_,hh⟩
   ·exact hh
   ·cases hh
  subst K0;have blo: ∀(l:E) (kk:IntKind) (k:Nat),KB l' (.int .i64 0)=some l→l.den c.ρ= .int kk k→MX (lo.map a.eval) k 0:=by
   intro l kk k hl hk;rcases HG Bm with⟨rfl,rfl⟩|⟨ol,sl',rfl,Cr,rfl⟩
   ·rcases R0 hl with⟨_,rfl⟩|hh
    ·simp only [E.den,AV.int.injEq]at hk;exact .inl ⟨rfl,by omega⟩
    ·cases hh
   ·rcases R0 hl with⟨hh,_⟩|hh
    ·cases hh
    ·cases hh;exact .inr ⟨kk,by rw [Option.map_some,ival (h.cm Cr (KZ _ rfl)) hk]⟩
  have bhi: ∀(d l:E) (kk:IntKind) (k m:Nat),KB h' d=some l→l.den c.ρ= .int kk k→d.den c.ρ= .int .i64 (m:Int)→MX (hi.map a.eval) k m:=by
   intro d l kk k m hl hk hd;rcases HG JG with⟨rfl,rfl⟩|⟨ol,sl',rfl,Cr,rfl⟩
   ·rcases R0 hl with⟨_,rfl⟩|hh
    ·rw [hd]at hk;simp only [AV.int.injEq]at hk;exact .inl ⟨rfl,by omega⟩
    ·cases hh
   ·rcases R0 hl with⟨hh,_⟩|hh
    ·cases hh
    ·cases hh;exact .inr ⟨kk,by rw [Option.map_some,ival (h.cm Cr (IC _ rfl)) hk]⟩
  split at he
  ·rename_i hu;split at he
   ·rename_i l hb q IB KT;simp only [Ae]at he;subst he;obtain⟨ka,ai,kb,bi,bs,d1,d2,d3,d4,d5,d6⟩:Cn.den c.ρ (.winS y l hb):=Bu hc;obtain⟨an,rfl⟩:=Int.eq_ofNat_of_zero_le d4;obtain⟨bn,rfl⟩:=Int.eq_ofNat_of_zero_le (Int.le_trans d4 d5);obtain⟨ss,hv,rfl,hle⟩:=M9 q1 d3;have BU:ss.data.toList.length=ss.size:=by simp
    have AG:=jX (P:=P) (w:=c.w) hu ss an bn (blo l ka an IB d1) (bhi (.slen y) hb kb bn ss.size KT d2 (by simp only [E.den,d3,AV.slen];simp)) (by omega) (by omega);refine Ar.pure h (v:= .string (ss.extract an bn)) ?_ (.cr ?_) rfl
    ·rw [ex,hv,Option.map_none,AG];rfl
    ·simp only [E.den,d1,d2,d3,AV.swin];have:(List.take (bn:Int).toNat ss.data.toList).drop (an:Int).toNat=(ss.extract an bn).data.toList:=by
      simp [mC,List.drop_take]
     rw [this];exact .str (by simp only [ByteArray.size_extract];omega) .nil
   ·cases he
  ·rename_i el hu;split at he
   ·cases he
   rename_i A8;have A8:CA P el=true:=by simpa using A8
   split at he
   ·rename_i l hb fz IB KT FF;simp only [Ae]at he;subst he;have Bp:Cn.den c.ρ (.issl y (P.cellsOf el)):=Bu hc;obtain⟨ys,CC,Lg⟩:=Bp;obtain⟨ka,ai,kb,bi,m,d1,d2,d3,d4,d5,d6⟩:Cn.den c.ρ (.win y l hb):=hc _ (by simp);obtain⟨an,rfl⟩:=Int.eq_ofNat_of_zero_le d4;obtain⟨bn,rfl⟩:=Int.eq_ofNat_of_zero_le (Int.le_trans d4 d5);rw [CC]at q1;have vO:(m:Int)=ys.length:=by rw [CC]at d3;simpa [AV.len]using d3.symm
    split at FF
    ·rename_i Hj;obtain⟨p,r,g,hv,hr,CZ,hg⟩:=tQ q1 Lg an bn (by omega) (by omega);have AG:=Vb (P:=P) (w:=c.w) hu A8 p ys.length r an bn (blo l ka an IB d1) (bhi (.len y) hb kb bn ys.length KT d2 (by simp only [E.den,CC,AV.len])) (by omega) (by omega) hr;intro next Q hk
     unfold Oper.wp;rw [ex,hv,Option.map_none,AG];show Oper.upon P o a next Q (.ok (.value _) c.w)
     rw [Oper.upon_value];have Am:=h.rel.freeze h.hp h.gs FF;have AE: ∀b∈g,(c.bg (fz.map (·.1))).ok b:=fun b hb=>Pc h.rel h.eh h.gs FF Hj (q2 b (hg b hb));refine hk _ (c.bg (fz.map (·.1))) ⟨rfl,rfl,rfl,rfl,fun t ht=> .inl ht⟩ (Am.put (SR.mkGd (.e (f:=g) ?_ AE .nil) gs h.gs) o.dst);show Rd c.w _ [(E.win y l hb).den c.ρ] g;simp only [E.den,d1,d2,CC,AV.win,Int.ofNat_eq_natCast,Int.toNat_natCast];exact CZ
    ·cases FF
   ·cases he
  ·cases he
end
section
variable {P:Program} {c:Cx} {n nx:Nat} {sl sl0:Nat→SV} {hp hp0:Nat→Option Af} {a:Act} {o:Oper} {gs:Gd} {e:AO} {sg:BB} {nv:Nat}
theorem Nj {w:World} {v:Value} {x:AV} {f:List Nat} {k:SK} (h:Rd w [v] [x] f) (hk:x.sk=some k):(∃kk n,k= .int kk∧v= .int kk n∧x= .int kk n)∨(∃b,k= .bool∧v= .bool b∧x= .bool b)∨ ∃s:ByteArray,k= .str∧v= .string s∧x= .str s.data.toList:=by
 cases h<;>simp [AV.sk]at hk
 ·exact .inl ⟨_,_,hk.symm,rfl,rfl⟩
 ·exact .inr (.inl ⟨_,hk.symm,rfl,rfl⟩)
 ·exact .inr (.inr ⟨_,hk.symm,rfl,rfl⟩)
theorem VM {t:TypeId} (h:(∃k,P.underlying t=some (.int k))∨P.underlying t=some .bool∨P.underlying t=some .string):Ak P t=false:=by rcases h with⟨k,h⟩|h|h<;>simp [Ak,h]
theorem YT {w:World} (d:Nat): ∀(fs:List Field) (j:Nat) (ks:List SK) {as_ bs:List Value} {cs ds:List AV} {f g:List Nat},Nh P j fs=some ks→Rd w as_ cs f→Rd w bs ds g→(cs.drop j).map AV.sk=ks.map some→(ds.drop j).map AV.sk=ks.map some→
  (Op.eqFields (d+1) as_.toArray bs.toArray fs).run P w= .ok (AV.leq (cs.drop j) (ds.drop j)) w
 | [],j,ks,as_,bs,cs,ds,f,g,hk,h1,h2,k1,k2=>by
  simp [Nh]at hk;subst hk;have e1:cs.drop j= []:=by simpa using k1
  have e2:ds.drop j= []:=by simpa using k2
  rw [e1,e2];simp [Op.eqFields,AV.leq]
 |fd::fs,j,ks,as_,bs,cs,ds,f,g,hk,h1,h2,k1,k2=>by
  unfold Nh at hk;split at hk
  ·cases hk
  rename_i Ax;simp only [not_or,Bool.not_eq_true',Decidable.not_not,ne_eq,Bool.not_eq_false]at Ax;obtain⟨hn,ho,A8,Bu⟩:=Ax;have main: ∀(k:SK) (l:List SK),ks=k::l→Nh P (j+1) fs=some l→(∀a b (x y:AV) f g,Rd w [a] [x] f→Rd w [b] [y] g→x.sk=some k→y.sk=some k→(Op.equalIn (d+1) fd.type a b).run P w= .ok (x.seq y) w)→Ak P fd.type=false→
    (Op.eqFields (d+1) as_.toArray bs.toArray (fd::fs)).run P w= .ok (AV.leq (cs.drop j) (ds.drop j)) w:=by
   rintro k l rfl hl heq F5;have TP:j<cs.length:=by
    rcases Nat.lt_or_ge j cs.length with hh|hh
    ·exact hh
    ·rw [List.drop_eq_nil_of_le hh]at k1;simp at k1
   have TQ:j<ds.length:=by
    rcases Nat.lt_or_ge j ds.length with hh|hh
    ·exact hh
    ·rw [List.drop_eq_nil_of_le hh]at k2;simp at k2
   rw [List.drop_eq_getElem_cons TP]at k1;rw [List.drop_eq_getElem_cons TQ]at k2;simp only [List.map_cons,List.cons.injEq]at k1 k2;have l1:=h1.len;have l2:=h2.len;obtain⟨v,f1,hv,_,r1⟩:=h1.at (show cs[j]?=some cs[j] by simp [TP])
   obtain⟨u,g1,hu,_,r2⟩:=h2.at (show ds[j]?=some ds[j] by simp [TQ])
   have p1:=Ps A8 as_ fd.offset (by omega) (.inr Bu) w;have p2:=Ps A8 bs fd.offset (by omega) (.inr Bu) w;have e1:((as_.drop fd.offset).take (P.cellsOf fd.type)).headD Go.undef=v:=by rw [Bu,ho,List.drop_eq_getElem_cons (by omega),List.take_succ_cons];simpa [show j<as_.length by omega]using hv
   have e2:((bs.drop fd.offset).take (P.cellsOf fd.type)).headD Go.undef=u:=by rw [Bu,ho,List.drop_eq_getElem_cons (by omega),List.take_succ_cons];simpa [show j<bs.length by omega]using hu
   rw [F5,e1]at p1;rw [F5,e2]at p2;have ih:=YT (w:=w) d fs (j+1) l hl h1 h2 k1.2 k2.2;rw [List.drop_eq_getElem_cons TP,List.drop_eq_getElem_cons TQ];simp only [Op.eqFields,ne_eq,hn,not_false_eq_true,if_true,Sem.run_bind,p1,p2,BW,if_false,Result.andThen_ok,heq v u _ _ _ _ r1 r2 k1.1 k2.1];cases hb:(cs[j]).seq ds[j]with
   |true=>simpa [AV.leq,hb]using ih
   |false=>simp [AV.leq,hb]
  split at hk
  ·rename_i k l hu hl;simp at hk;refine main _ _ hk.symm hl (fun a b x y f g ra rb hx hy=> ?_) (VM (.inl ⟨_,hu⟩));rcases Nj ra hx with⟨kk,m,h5,rfl,rfl⟩|⟨_,h5,_⟩|⟨_,h5,_⟩<;>cases h5
   rcases Nj rb hy with⟨kk,m2,h5,rfl,rfl⟩|⟨_,h5,_⟩|⟨_,h5,_⟩<;>cases h5
   exact run_equalIn_int w d fd.type _ _ _ _ hu
  ·rename_i l hu hl;simp at hk;refine main _ _ hk.symm hl (fun a b x y f g ra rb hx hy=> ?_) (VM (.inr (.inl hu)));rcases Nj ra hx with⟨kk,m,h5,_⟩|⟨_,_,rfl,rfl⟩|⟨_,h5,_⟩<;>try cases h5
   rcases Nj rb hy with⟨kk,m,h5,_⟩|⟨_,_,rfl,rfl⟩|⟨_,h5,_⟩<;>try cases h5
   exact V1 d _ _ hu w
  ·rename_i l hu hl;simp at hk;refine main _ _ hk.symm hl (fun a b x y f g ra rb hx hy=> ?_) (VM (.inr (.inr hu)));rcases Nj ra hx with⟨kk,m,h5,_⟩|⟨_,h5,_⟩|⟨_,_,rfl,rfl⟩<;>try cases h5
   rcases Nj rb hy with⟨kk,m,h5,_⟩|⟨_,h5,_⟩|⟨_,_,rfl,rfl⟩<;>try cases h5
   rw [run_equalIn_string w d _ _ _ hu,lX];rfl
  ·cases hk
theorem rF (h:Ba P c n nx sl hp a sl0 hp0 o gs) {op:BinOp} {t:TypeId} {x y:Operand} {ty:TypeId} (ho:o.op= .binOp op t x y ty) {fs:Array Field} (hu:P.underlying t=some (.struct fs)) (he:Bg P sg sl0 hp0 nv nx gs o=some e) (hc: ∀q∈e.cd,Cn.den c.ρ q):Ar P o c n nx sl hp gs a e:=by
 have Dk:x∈o.op.operands:=by simp [ho,Op.operands]
 have CV:y∈o.op.operands:=by simp [ho,Op.operands]
 simp only [Bg,ho,Aq]at he;obtain⟨s1,Bq,s2,AQ,he⟩:=he;unfold Ng at he;simp only [hu]at he;split at he
 ·cases he
 rename_i hg;simp only [Bool.or_eq_true,not_or,Bool.not_eq_true]at hg;split at he
 ·rename_i ks x' y' fK Cg Bc;obtain⟨f1,q1,_⟩:=h.iy Bq Dk Cg;obtain⟨f2,q2,_⟩:=h.iy AQ CV Bc;have Fk:P.underlying t=some (.struct (P.fieldsOf t)):=by simp [Program.fieldsOf,hu]
  have JD:P.fieldsOf t=fs:=by simp [Program.fieldsOf,hu]
  have key: ∀(k1:Cn.den c.ρ (.kinds x' ks)) (k2:Cn.den c.ρ (.kinds y' ks)),∃as_ bs:List Value,∃b,a.eval x= .agg as_.toArray∧a.eval y= .agg bs.toArray∧(E.aeq x' y').den c.ρ= .bool b∧(Op.equalIn 10000 t (.agg as_.toArray) (.agg bs.toArray)).run P c.w= .ok b c.w:=by rintro⟨cs,Bp,k1⟩ ⟨ds,Fg,k2⟩;obtain⟨as_,Ee,_,r1⟩:=HK q1 Bp;obtain⟨bs,CL,_,r2⟩:=HK q2 Fg;refine⟨as_,bs,AV.leq cs ds,Ee,CL,by simp only [E.den,Bp,Fg,AV.aeq], ?_⟩;rw [run_equalIn_struct c.w 9999 t _ _ Fk hg.1,JD];exact YT (w:=c.w) 9998 fs.toList 0 ks fK r1 r2 (by simpa using k1) (by simpa using k2)
  split at he
  ·simp only [Ae]at he;subst he;obtain⟨as_,bs,b,Ee,CL,hd,hr⟩:=key (hc _ (by simp)) (hc _ (by simp));refine Ar.pure h (v:= .bool b) ?_ (.cr (by rw [hd];exact .bool .nil)) rfl;rw [LI ho c.w Ee CL];simp [run_eqGuard_agg c.w _ t x y _ _ hg.2,run_eql_struct,hr]
  ·simp only [Ae]at he;subst he;obtain⟨as_,bs,b,Ee,CL,hd,hr⟩:=key (hc _ (by simp)) (hc _ (by simp));refine Ar.pure h (v:= .bool (!b)) ?_ (.cr (by simp only [E.den]at hd ⊢;rw [hd];exact .bool .nil)) rfl;rw [LI ho c.w Ee CL];simp [run_eqGuard_agg c.w _ t x y _ _ hg.2,run_neq_struct,hr]
  ·cases he
 ·cases he
theorem YN (h:Ba P c n nx sl hp a sl0 hp0 o gs) {x y:Operand} {cl:Call} (ho:o.op= .call cl) {op:BinOp} (AB:(op= .gtr∧cl.callee= .builtin .max)∨(op= .lss∧cl.callee= .builtin .min)) (Ct:cl.args.toList= [x,y]) {s1 s2:SV} (Bq:Bo sl0 gs x=some s1) (AQ:Bo sl0 gs y=some s2)
  (he:R5 op s1 s2=some e) (hc: ∀q∈e.cd,Cn.den c.ρ q):Ar P o c n nx sl hp gs a e:=by
 have Az:cl.args= #[x,y]:=by apply Array.ext';simp [Ct]
 have Dk:x∈o.op.operands:=by rcases AB with⟨_,hh⟩|⟨_,hh⟩<;>simp [ho,Op.operands,Call.operands,hh,Az]
 have CV:y∈o.op.operands:=by rcases AB with⟨_,hh⟩|⟨_,hh⟩<;>simp [ho,Op.operands,Call.operands,hh,Az]
 unfold R5 at he;split at he
 ·rename_i x' y';simp only [Ae]at he;subst he;obtain⟨f1,q1,_⟩:=FP (h.cm Bq Dk) rfl;obtain⟨f2,q2,_⟩:=FP (h.cm AQ CV) rfl;have hd:AV.bin op (y'.den c.ρ) (x'.den c.ρ)≠ .undef:=Bu hc;cases hx:x'.den c.ρ<;>cases hy:y'.den c.ρ<;>simp only [hx,hy,AV.bin,ne_eq,not_true_eq_false]at hd;rename_i k m k' m';split at hd
  ·rename_i hk;have hk:k'=k:=by rcases hk with hk|hk|hk;exact hk;all_goals (rcases AB with⟨h1,_⟩|⟨h1,_⟩<;>rw [h1]at hk<;>cases hk)
   subst hk;obtain⟨v1,i1⟩:=E6 q1 hx;obtain⟨v2,i2⟩:=E6 q2 hy;rcases AB with⟨rfl,At⟩|⟨rfl,At⟩
   ·refine Ar.pure h (v:= .int k' (if m'>m then m' else m)) ?_ (.cr ?_) rfl
    ·simp [execOp,ho,resolve,At,Az,invoke,builtin,Builtin.max_,Builtin.max2,v1,v2]
    ·simp only [E.den,hx,hy,AV.bin,true_or,if_true,CH];by_cases hh:m'>m
     ·simp only [hh,decide_true,AV.cond,if_true];exact .int i2 .nil
     ·simp only [hh,decide_false,AV.cond,if_false];exact .int i1 .nil
   ·refine Ar.pure h (v:= .int k' (if m'<m then m' else m)) ?_ (.cr ?_) rfl
    ·simp [execOp,ho,resolve,At,Az,invoke,builtin,Builtin.min_,Builtin.min2,v1,v2]
    ·simp only [E.den,hx,hy,AV.bin,true_or,if_true,CH];by_cases hh:m'<m
     ·simp only [hh,decide_true,AV.cond,if_true];exact .int i2 .nil
     ·simp only [hh,decide_false,AV.cond,if_false];exact .int i1 .nil
  ·exact absurd rfl hd
 ·cases he
end
inductive BX (P:Program) (w:World):List TypeId→List Bool→List Value→List AV→List Nat→List Nat→Prop where
 |nil {fl}:BX P w [] fl [] [] [] []
 |own {t ts fl el u us y ys top N rf hs}:fl.headD false=true→Cf P t=some el→(BH P el=true∧N= []∨BH P el=false∧De P t=none)→Cy w el (P.cellsOf el) u y top N→BX P w ts fl.tail us ys rf hs→BX P w (t::ts) fl (u::us) (y::ys) (N++rf) (top++hs)
 |deep {t ts fl el e z l u us y ys top rf hs}:fl.headD false=true→Cf P t=some el→BH P el=false→De P t=some (.row e z l)→DC w [.row e z l] [u] [y] top→BX P w ts fl.tail us ys rf hs→BX P w (t::ts) fl (u::us) (y::ys) rf (top++hs)
 |rd {t ts fl u us y ys f rf hs}:(fl.headD false=true→Cf P t=none)→Rd w [u] [y] f→BX P w ts fl.tail us ys rf hs→BX P w (t::ts) fl (u::us) (y::ys) (f++rf) hs
def No (P:Program) (w:World) (t:TypeId) (fl:List Bool) (v:Value) (x:AV) (rf hs:List Nat):Prop:=
 ∃us ys,(if Ak P t then v= .agg us.toArray∧x= .agg ys∧ ∀u∈us,u.oneCell'=true else us= [v]∧ys= [x])∧BX P w (A0 P t) fl us ys rf hs
def EZ (P:Program) (w:World) (t:TypeId) (fl:List Bool) (v:Value) (x:AV) (rf hs:List Nat):Prop:=
 if Gs P t fl then No P w t fl v x rf hs else Rd w [v] [x] rf∧hs= []
inductive Jq (P:Program) (w:World):List TypeId→List Bool→List Value→List AV→List Nat→List Nat→Prop where
 |nil {fl}:Jq P w [] fl [] [] [] []
 |cons {t ts fl v vs x xs f h rf hs}:EZ P w t fl v x f h→Jq P w ts (fl.drop (A0 P t).length) vs xs rf hs→Jq P w (t::ts) fl (v::vs) (x::xs) (f++rf) (h++hs)
theorem BX.len {P:Program} {w:World} {ts:List TypeId} {fl:List Bool} {us:List Value} {ys:List AV} {rf hs:List Nat} (h:BX P w ts fl us ys rf hs):us.length=ts.length∧ys.length=ts.length:=by induction h<;>simp_all
theorem BX.inb {P:Program} {w:World} {ts:List TypeId} {fl:List Bool} {us:List Value} {ys:List AV} {rf hs:List Nat} (h:BX P w ts fl us ys rf hs):(∀b∈rf,b<w.heap.size)∧ ∀b∈hs,b<w.heap.size:=by
 induction h with
 |nil=>simp
 |deep _ _ _ _ h _ ih=>
  refine⟨ih.1,fun b hb=> ?_⟩;rcases Ag.1 hb with hb|hb
  ·exact h.inb b hb
  ·exact ih.2 b hb
 |own _ _ _ h _ ih=>
  refine⟨fun b hb=> ?_,fun b hb=> ?_⟩
  ·rcases Ag.1 hb with hb|hb
   ·obtain⟨xs,_,_,_,⟨_,_,_,rfl⟩|⟨g,cap,C,_,_,_,_,_,_,_,hr⟩⟩:=h
    ·simp at hb
    ·exact hr.inb b hb
   ·exact ih.1 b hb
  ·rcases Ag.1 hb with hb|hb
   ·obtain⟨xs,_,_,_,⟨_,_,rfl,_⟩|⟨g,cap,C,_,_,_,hh,_,rfl,_⟩⟩:=h
    ·simp at hb
    ·simp at hb;subst hb;exact Fy hh
   ·exact ih.2 b hb
 |rd _ h _ ih=>
  refine⟨fun b hb=> ?_,ih.2⟩;rcases Ag.1 hb with hb|hb
  ·exact h.inb b hb
  ·exact ih.1 b hb
structure AA where
 tag:Nat
 new:Option Value
 top:List Nat
 bb:Af
def AA.pair (r:AA):Nat × Af:=(r.tag,r.bb)
structure DW (c c':Cx) (w':World) (recs:List AA):Prop where
 ρ:c'.ρ=c.ρ
 w:c'.w=w'
 G: ∀r∈recs,c'.G r.tag=⟨r.top, []⟩
 new: ∀r∈recs,∀hv,r.new=some hv→c'.K r.tag 0∧(∀g,c'.K r.tag g→g≤0)∧c'.H r.tag 0=hv
 K: ∀t g,c.K t g→c'.K t g∧c'.H t g=c.H t g
 old: ∀t,c.U t→ ∀g,c'.K t g→c.K t g
 iw: ∀r∈recs,r.new.isSome=true→c'.E r.tag=0
 fq: ∀r∈recs,r.new=none→c'.E r.tag=c.E r.tag+1
theorem DW.mono {c c':Cx} {w':World} {recs recs':List AA} (h:DW c c' w' recs) (hs: ∀r∈recs',r∈recs):DW c c' w' recs':=
 ⟨h.ρ,h.w,fun r hr=>h.G r (hs r hr),fun r hr=>h.new r (hs r hr),h.K,h.old,fun r hr=>h.iw r (hs r hr),fun r hr=>h.fq r (hs r hr)⟩
section
variable {P:Program} {c:Cx} {w':World}
theorem s4 {c':Cx} {t:Nat} {u:Value} {el sz:Nat} {y:AV} {top N:List Nat} (h:Cy w' el sz u y top N) (hk:c'.K t 0) (hh:c'.H t 0=u):SR c' [.own t 0] [u]:=by
 obtain⟨xs,_,_,_,⟨_,⟨a,rfl⟩,_⟩|⟨g,cap,C,rfl,_⟩⟩:=h
 ·exact .own hk hh .nil
 ·exact .own hk hh .nil
theorem Mv {nx:Nat} {mk:Nat→E} {ts:List TypeId} {fl:List Bool} {us:List Value} {ys:List AV} {rf hs:List Nat} (h:BX P w' ts fl us ys rf hs): ∀(j:Nat),(∀i y,ys[i]?=some y→(mk (j+i)).den c.ρ=y)→
  ∃recs:List AA,(B8 P nx mk j ts fl).2=recs.map AA.pair∧recs.flatMap AA.top=hs∧(∀r∈recs,nx+j≤r.tag∧r.tag<nx+j+ts.length∧r.new.isSome)∧(recs.map AA.tag).Nodup∧(∀r∈recs,r.new=us[r.tag-(nx+j)]?)∧
   ∀c',DW c c' w' recs→(∀b∈rf,c'.ok b)→SR c' (B8 P nx mk j ts fl).1 us∧ ∀r∈recs,Co c' r.tag r.bb:=by
 induction h with
 |nil=>exact fun j _=>⟨[],rfl,rfl,by simp,by simp,by simp,fun c' _ _=>⟨.nil,by simp⟩⟩
 | @own t ts fl el u us y ys top N rf hs h1 h2 ND h3 _ ih=>
  intro j EF;obtain⟨recs,e1,e2,e3,e4,e4',e5⟩:=ih (j+1) (fun i y hy=>by rw [show j+1+i=j+(i+1)from by omega];exact EF (i+1) y (by simpa using hy));have hy:=EF 0 y rfl;have Ud:Na P t el 0 0 (mk j)= .row el (P.cellsOf el) 0 (mk j) (BH P el):=by
   unfold Na;rcases ND with⟨h,_⟩|⟨h,h'⟩
   ·rw [if_pos h,h]
   ·rw [if_neg (by rw [h];simp),h',h]
  simp only [B8,h1,h2,Ud];refine⟨⟨nx+j,some u,top, .row el (P.cellsOf el) 0 (mk j) (BH P el)⟩::recs,by simp [e1,AA.pair],by simp [e2],fun r hr=> ?_, ?_,fun r hr=> ?_,fun c' ha AE=> ?_⟩
  ·rcases Ad.1 hr with rfl|hr
   ·simp
   ·have:=e3 r hr;simp only [An];exact⟨by omega,by omega,this.2.2⟩
  ·simp only [List.map_cons,List.nodup_cons];refine⟨fun hm=> ?_,e4⟩;obtain⟨r,hr,Hn⟩:=List.mem_map.1 hm;have:=e3 r hr;omega
  ·rcases Ad.1 hr with rfl|hr
   ·simp
   ·rw [e4' r hr];have:=e3 r hr;rw [show r.tag-(nx+j)=(r.tag-(nx+(j+1)))+1 from by omega,List.getElem?_cons_succ]
  ·obtain⟨q1,q2⟩:=e5 c' (ha.mono fun r hr=>by simp [hr]) fun b hb=>AE b (by simp [hb]);obtain⟨k1,k2,k3⟩:=ha.new _ (List.mem_cons_self ..) u rfl;have kg:=ha.G _ (List.mem_cons_self ..);simp only at k1 k2 k3 kg;refine⟨(s4 h3 k1 k3).cons q1,fun r hr=> ?_⟩;rcases Ad.1 hr with rfl|hr
   ·refine⟨k1,k2,N, ?_,fun b hb=>AE b (by simp [hb]),fun hd=> ?_,fun _=>by rw [kg]⟩
    rotate_left
    ·rcases ND with⟨_,h⟩|⟨h,_⟩
     ·subst h;exact⟨rfl,by rw [kg]⟩
     ·rw [h]at hd;cases hd
    rw [k3,kg,ha.w,ha.ρ];have Bc:(mk j).den c.ρ=y:=by simpa using hy
    rw [Bc];exact h3
   ·exact q2 r hr
 | @deep t ts fl el e z l u us y ys top rf hs h1 h2 NC L0 h3 _ ih=>
  intro j EF;obtain⟨recs,e1,e2,e3,e4,e4',e5⟩:=ih (j+1) (fun i y hy=>by rw [show j+1+i=j+(i+1)from by omega];exact EF (i+1) y (by simpa using hy));have hy:=EF 0 y rfl;have Ud:Na P t el 0 0 (mk j)= .deep e z l.toList 0 0 (mk j):=by unfold Na;rw [if_neg (by rw [NC];simp),L0]
  simp only [B8,h1,h2,Ud];refine⟨⟨nx+j,some u,top, .deep e z l.toList 0 0 (mk j)⟩::recs,by simp [e1,AA.pair],by simp [e2],fun r hr=> ?_, ?_,fun r hr=> ?_,fun c' ha AE=> ?_⟩
  ·rcases Ad.1 hr with rfl|hr
   ·simp
   ·have:=e3 r hr;simp only [An];exact⟨by omega,by omega,this.2.2⟩
  ·simp only [List.map_cons,List.nodup_cons];refine⟨fun hm=> ?_,e4⟩;obtain⟨r,hr,Hn⟩:=List.mem_map.1 hm;have:=e3 r hr;omega
  ·rcases Ad.1 hr with rfl|hr
   ·simp
   ·rw [e4' r hr];have:=e3 r hr;rw [show r.tag-(nx+j)=(r.tag-(nx+(j+1)))+1 from by omega,List.getElem?_cons_succ]
  ·obtain⟨q1,q2⟩:=e5 c' (ha.mono fun r hr=>by simp [hr]) AE;obtain⟨k1,k2,k3⟩:=ha.new _ (List.mem_cons_self ..) u rfl;have kg:=ha.G _ (List.mem_cons_self ..);have ke:=ha.iw _ (List.mem_cons_self ..) rfl;simp only at k1 k2 k3 kg ke;obtain⟨p1,p2,p3,rfl⟩:=h3.head;refine⟨(SR.own k1 k3 .nil).cons q1,fun r hr=> ?_⟩;rcases Ad.1 hr with rfl|hr
   ·refine⟨k1,k2,ke, ?_,by rw [kg]⟩;have Bc:(mk j).den c.ρ=y:=by simpa using hy
    rw [k3,kg,ha.w,ha.ρ,Bc,AF.cj];exact h3
   ·exact q2 r hr
 | @rd t ts fl u us y ys f rf hs h1 h3 _ ih=>
  intro j EF;obtain⟨recs,e1,e2,e3,e4,e4',e5⟩:=ih (j+1) (fun i y hy=>by rw [show j+1+i=j+(i+1)from by omega];exact EF (i+1) y (by simpa using hy));have hy:=EF 0 y rfl;have TC:B8 P nx mk j (t::ts) fl=(.e (mk j)::(B8 P nx mk (j+1) ts fl.tail).1,(B8 P nx mk (j+1) ts fl.tail).2):=by
   simp only [B8];split
   ·rename_i h8 h9;rw [h1 h8]at h9;cases h9
   ·rfl
  rw [TC];refine⟨recs,e1,e2,fun r hr=> ?_,e4,fun r hr=> ?_,fun c' ha AE=> ?_⟩
  ·have:=e3 r hr;simp only [An];exact⟨by omega,by omega,this.2.2⟩
  ·rw [e4' r hr];have:=e3 r hr;rw [show r.tag-(nx+j)=(r.tag-(nx+(j+1)))+1 from by omega,List.getElem?_cons_succ]
  ·obtain⟨q1,q2⟩:=e5 c' ha fun b hb=>AE b (by simp [hb]);have Bc:(mk j).den c.ρ=y:=by simpa using hy
   exact⟨(SR.e (f:=f) (by rw [ha.w,ha.ρ,Bc];exact h3) (fun b hb=>AE b (by simp [hb])) .nil).cons q1,q2⟩
theorem Lu {nx:Nat} {mk:Nat→E}: ∀(j:Nat) (ts:List TypeId) (fl:List Bool) (t:Nat) (e:Af) {gs:Gd} {f:Af},(t,e)∈(B8 P nx mk j ts fl).2→e≠ .gd gs f
 |_, [],_,_,_,_,_,h=>by simp [B8]at h
 |j,u::ts,fl,t,e,gs,f,h=>by
  unfold B8 at h;split at h
  ·rcases Ad.1 h with h|h
   ·cases h;unfold Na;split
    ·simp
    ·split<;>simp
   ·exact Lu _ _ _ _ _ h
  ·exact Lu _ _ _ _ _ h
theorem Pm {ρ:List AV} {x:E} {ys:List AV} (hx:x.den ρ= .agg ys): ∀i y,ys[i]?=some y→(CK x true (0+i)).den ρ=y:=by intro i y hy;simp [CK,E.den,hx,AV.fld,AV.cells,hy]
theorem YF {nx:Nat} {t:TypeId} {fl:List Bool} {x:E} {v:Value} {y:AV} {rf hs:List Nat} (h:EZ P w' t fl v y rf hs) (hx:x.den c.ρ=y):
  ∃recs:List AA,(Ly P nx t fl x).2=recs.map AA.pair∧recs.flatMap AA.top=hs∧(∀r∈recs,nx≤r.tag∧r.tag<nx+(A0 P t).length∧r.new.isSome)∧(recs.map AA.tag).Nodup∧
   ∀c',DW c c' w' recs→(∀b∈rf,c'.ok b)→SR c' [(Ly P nx t fl x).1] [v]∧ ∀r∈recs,Co c' r.tag r.bb:=by
 unfold EZ at h;unfold Ly;split at h
 ·rename_i hf;simp only [hf,if_true];obtain⟨us,ys,hg,hc⟩:=h;split at hg
  ·rename_i As;obtain⟨rfl,rfl,Cc⟩:=hg;obtain⟨recs,e1,e2,e3,e4,_,e5⟩:=Mv (c:=c) (nx:=nx) (mk:=CK x (Ak P t)) hc 0 (by rw [As];exact Pm hx);refine⟨recs,e1,e2,fun r hr=>by have:=e3 r hr;exact⟨by omega,by omega,this.2.2⟩,e4,fun c' ha AE=> ?_⟩;obtain⟨q1,q2⟩:=e5 c' ha AE;rw [if_pos As];exact⟨.agg Cc (by rw [Be.aq];exact q1) .nil,q2⟩
  ·rename_i As;obtain⟨rfl,rfl⟩:=hg;have Fe:Ak P t=false:=by simpa using As
   obtain⟨recs,e1,e2,e3,e4,_,e5⟩:=Mv (c:=c) (nx:=nx) (mk:=CK x (Ak P t)) hc 0 (by
    intro i z hz;cases i with
    |zero=>simp at hz;subst hz;simp [CK,Fe,hx]
    |succ i=>simp at hz)
   refine⟨recs,e1,e2,fun r hr=>by have:=e3 r hr;exact⟨by omega,by omega,this.2.2⟩,e4,fun c' ha AE=> ?_⟩;obtain⟨q1,q2⟩:=e5 c' ha AE;refine⟨?_,q2⟩;rw [if_neg As];have hl:=q1.len;generalize (B8 P nx (CK x (Ak P t)) 0 (A0 P t) fl).1=l at q1 hl
   match l,hl with
   | [s],_=>exact q1
 ·rename_i hf;simp only [hf,if_false,BW];obtain⟨h1,rfl⟩:=h;exact⟨[],rfl,rfl,by simp,by simp,fun c' ha AE=>⟨.e (f:=rf) (by rw [ha.w,ha.ρ,hx];exact h1) AE .nil,by simp⟩⟩
theorem lD {ts:List TypeId} {fl:List Bool} {x:E} {vs:List Value} {ys:List AV} {rf hs:List Nat} (h:Jq P w' ts fl vs ys rf hs): ∀(nx i:Nat),(∀k y,ys[k]?=some y→(E.proj x (i+k)).den c.ρ=y)→
  ∃recs:List AA,(Kd P nx ts fl x i).2=recs.map AA.pair∧recs.flatMap AA.top=hs∧(∀r∈recs,nx≤r.tag∧r.tag<nx+(ts.flatMap (A0 P)).length∧r.new.isSome)∧(recs.map AA.tag).Nodup∧
   ∀c',DW c c' w' recs→(∀b∈rf,c'.ok b)→SR c' (Kd P nx ts fl x i).1 vs∧ ∀r∈recs,Co c' r.tag r.bb:=by
 induction h with
 |nil=>exact fun nx i _=>⟨[],rfl,rfl,by simp,by simp,fun c' _ _=>⟨.nil,by simp⟩⟩
 | @cons t ts fl v vs y ys f h rf hs h1 _ ih=>
  intro nx i hx;obtain⟨r1,a1,a2,a3,a4,a5⟩:=YF (c:=c) (nx:=nx) (x:= .proj x i) h1 (hx 0 y rfl);obtain⟨r2,b1,b2,b3,b4,b5⟩:=ih (nx+(A0 P t).length) (i+1) (fun k z hz=>by rw [show i+1+k=i+(k+1)from by omega];exact hx (k+1) z (by simpa using hz));simp only [Kd];refine⟨r1++r2,by simp [a1,b1],by simp [a2,b2],fun r hr=> ?_, ?_,fun c' ha AE=> ?_⟩
  ·simp only [List.flatMap_cons,Aj];rcases Ag.1 hr with hr|hr
   ·have:=a3 r hr;exact⟨this.1,by omega,this.2.2⟩
   ·have:=b3 r hr;exact⟨by omega,by omega,this.2.2⟩
  ·rw [List.map_append,List.nodup_append];refine⟨a4,b4,fun t1 OC t2 OD he=> ?_⟩;obtain⟨q1,E4,rfl⟩:=List.mem_map.1 OC;obtain⟨q2,FJ,rfl⟩:=List.mem_map.1 OD;have:=a3 q1 E4;have:=b3 q2 FJ;omega
  ·obtain⟨p1,p2⟩:=a5 c' (ha.mono fun r hr=>by simp [hr]) fun b hb=>AE b (by simp [hb]);obtain⟨q1,q2⟩:=b5 c' (ha.mono fun r hr=>by simp [hr]) fun b hb=>AE b (by simp [hb]);refine⟨p1.cons q1,fun r hr=> ?_⟩;rcases Ag.1 hr with hr|hr
   ·exact p2 r hr
   ·exact q2 r hr
end
theorem Pb {α:Type} {f:α→List Nat}: ∀{l:List α},(l.flatMap f).Nodup→(∀a∈l,(f a).Nodup)∧ ∀(i j:Nat) (a b:α) (x:Nat),l[i]?=some a→l[j]?=some b→x∈f a→x∈f b→i=j
 | [],_=>⟨by simp,by simp⟩
 |a::l,h=>by
  rw [List.flatMap_cons,List.nodup_append]at h;obtain⟨h1,h2,h3⟩:=h;obtain⟨k1,k2⟩:=Pb h2;refine⟨fun b hb=> ?_,fun i j p q x hi hj hp hq=> ?_⟩
  ·rcases Ad.1 hb with rfl|hb
   ·exact h1
   ·exact k1 b hb
  ·cases i with
   |zero=>
    cases j with
    |zero=>rfl
    |succ j=>simp at hi hj;subst hi;exact absurd rfl (h3 x hp x (List.mem_flatMap.2 ⟨q,List.mem_of_getElem? hj,hq⟩))
   |succ i=>
    cases j with
    |zero=>simp at hi hj;subst hj;exact absurd rfl (h3 x hq x (List.mem_flatMap.2 ⟨p,List.mem_of_getElem? hi,hp⟩))
    |succ j=>rw [k2 i j p q x (by simpa using hi) (by simpa using hj) hp hq]
theorem MG {recs:List AA} (hn:(recs.map AA.tag).Nodup) {r:AA} (hr:r∈recs) (p:AA→Bool) (hp:p r=true) (Dl: ∀q,p q=true→q.tag=r.tag):recs.find? p=some r:=by
 induction recs with
 |nil=>simp at hr
 |cons q recs ih=>
  simp only [List.map_cons,List.nodup_cons]at hn;rw [List.find?_cons];rcases Ad.1 hr with rfl|hr
  ·simp [hp]
  ·have:p q=false:=by
    cases hq:p q with
    |false=>rfl
    |true=>exact absurd (List.mem_map.2 ⟨r,hr,(Dl q hq).symm⟩) hn.1
   rw [this];exact ih hn.2 hr
def Cx.db (c:Cx) (w':World) (recs:List AA):Cx:=
 {c with w:=w',G:=fun t=>(match recs.find? (fun r=>r.tag==t)with|some r=>⟨r.top, []⟩|none=>c.G t),K:=fun t g=>c.K t g∨ ∃r∈recs,r.tag=t∧r.new.isSome=true∧g=0,H:=fun t g=>(match recs.find? (fun r=>r.tag==t&&r.new.isSome)with|some r=>r.new.getD undef|none=>c.H t g),U:=fun t=>c.U t∨ ∃r∈recs,r.tag=t,E:=fun t=>match recs.find? (fun r=>r.tag==t)with|some r=>if r.new.isSome then 0 else c.E t+1|none=>c.E t}
section
variable {P:Program} {c:Cx} {n:Nat} {sl:Nat→SV} {hp:Nat→Option Af} {a:Act} {w':World} {recs:List AA}
theorem Cx.de (hn:(recs.map AA.tag).Nodup) {r:AA} (hr:r∈recs):(c.db w' recs).G r.tag=⟨r.top, []⟩:=by simp only [Cx.db];rw [MG hn hr (fun q=>q.tag==r.tag) (by simp) (fun q hq=>by simpa using hq)]
theorem Cx.cv {t:Nat} (ht: ∀r∈recs,r.tag≠t):(c.db w' recs).G t=c.G t:=by
 simp only [Cx.db];have:recs.find? (fun r=>r.tag==t)=none:=by rw [List.find?_eq_none];intro r hr;simpa using ht r hr
 rw [this]
theorem Cx.dc (hU: ∀t g,c.K t g→c.U t) (hn:(recs.map AA.tag).Nodup) (AS: ∀r∈recs,r.new.isSome=true→ ¬c.U r.tag):DW c (c.db w' recs) w' recs:=by
 refine⟨rfl,rfl,fun r hr=>Cx.de hn hr,fun r hr hv QD=>⟨.inr ⟨r,hr,rfl,by simp [QD],rfl⟩,fun g hg=> ?_, ?_⟩,fun t g hk=>⟨.inl hk, ?_⟩,fun t ht g hk=> ?_,fun r hr hs=> ?_,fun r hr hs=> ?_⟩
 ·rcases hg with hg|⟨_,_,_,_,rfl⟩
  ·exact absurd (hU _ _ hg) (AS r hr (by simp [QD]))
  ·exact Nat.le_refl _
 ·simp only [Cx.db];rw [MG hn hr (fun q=>q.tag==r.tag&&q.new.isSome) (by simp [QD]) (fun q hq=>by simp only [Ac,beq_iff_eq]at hq;exact hq.1)];simp [QD]
 ·simp only [Cx.db];have:recs.find? (fun r=>r.tag==t&&r.new.isSome)=none:=by
   rw [List.find?_eq_none];rintro r hr hh;simp only [Ac,beq_iff_eq]at hh;exact AS r hr hh.2 (hh.1▸hU t g hk)
  rw [this]
 ·rcases hk with hk|⟨r,hr,rfl,hh,_⟩
  ·exact hk
  ·exact absurd ht (AS r hr hh)
 ·simp only [Cx.db];rw [MG hn hr (fun q=>q.tag==r.tag) (by simp) (fun q hq=>by simpa using hq)];simp [hs]
 ·simp only [Cx.db];rw [MG hn hr (fun q=>q.tag==r.tag) (by simp) (fun q hq=>by simpa using hq)];simp [hs]
theorem Cx.gx {t:Nat} (ht: ∀r∈recs,r.tag≠t):(c.db w' recs).E t=c.E t:=by
 simp only [Cx.db];have:recs.find? (fun r=>r.tag==t)=none:=by rw [List.find?_eq_none];intro r hr;simpa using ht r hr
 rw [this]
theorem Rel.changes (h:Rel c n sl hp a) {hs:List Nat} {gs:Gd} (k:A2 c.ρ gs) (CW:Mod hs c.w w') (hn:(recs.map AA.tag).Nodup) (AS: ∀r∈recs,r.new.isSome=true→ ¬c.U r.tag)
  (Fo: ∀b∈hs,∃r∈recs,b∈(c.G r.tag).top) (DI:(recs.flatMap AA.top).Nodup) (B6: ∀r∈recs,∀b∈r.top,(b∈hs∨c.w.heap.size≤b)∧b<w'.heap.size)
  (Bk: ∀r∈recs,∀hs f,r.bb≠ .gd hs f) (Bb:CQ c (c.db w' recs)→ ∀r∈recs,Co (c.db w' recs) r.tag r.bb):
  Rel (c.db w' recs) n sl (AX hp (recs.map fun r=>(r.tag,B9 gs r.bb))) a∧CQ c (c.db w' recs):=by
 have aft:=Cx.dc (w':=w') h.bm hn AS;have X1: ∀b∈hs,c.M b:=fun b hb=>by obtain⟨r,_,hr⟩:=Fo b hb;exact⟨_,hr⟩
 have Bl: ∀b∈hs,c.B≤b∨c.Mu b:=fun b hb=>by obtain⟨r,_,hr⟩:=Fo b hb;exact h.gw.allow r.tag b (by simp [GI.own,hr])
 have Bv:CQ c (c.db w' recs):=by
  refine⟨rfl,rfl,fun b hb AE=>⟨fun⟨t,ht⟩=> ?_,AE.2⟩,fun b hb AE=>CW.block b hb fun hh=>AE.1 (X1 b hh),aft.K,fun t g hk=> ?_⟩;by_cases hT: ∃r∈recs,r.tag=t
  ·obtain⟨r,hr,rfl⟩:=hT;rw [Cx.de hn hr]at ht;rcases(B6 r hr b ht).1 with hh|hh
   ·exact AE.1 (X1 b hh)
   ·omega
  ·rw [Cx.cv fun r hr hh=>hT ⟨r,hr,hh⟩]at ht;exact AE.1 ⟨t,ht⟩
  ·by_cases hT: ∃r∈recs,r.tag=t
   ·obtain⟨r,hr,rfl⟩:=hT;have DE:r.new=none:=by
     cases hh:r.new with
     |none=>rfl
     |some v=>exact absurd (h.bm _ _ hk) (AS r hr (by simp [hh]))
    rw [aft.fq r hr DE];exact⟨by omega,fun h=>by omega⟩
   ·have XE: ∀r∈recs,r.tag≠t:=fun r hr hh=>hT ⟨r,hr,hh⟩;rw [Cx.gx XE,Cx.cv XE];refine⟨Nat.le_refl _,fun _=>⟨rfl,fun b hb G6=>CW.block b G6 fun hh=> ?_⟩⟩;obtain⟨r,hr,eN⟩:=Fo b hh;exact h.gw.cc t r.tag (fun hh=>hT ⟨r,hr,hh.symm⟩) b (by simp [GI.own,hb]) (by simp [GI.own,eN])
 have Bb:=Bb Bv;have Hr: ∀r∈recs,∀e',(r.tag,e')∈(recs.map fun r=>(r.tag,B9 gs r.bb))→e'=B9 gs r.bb:=by
  intro r hr e' DP;obtain⟨q,hq,GB⟩:=List.mem_map.1 DP;simp only [Prod.mk.injEq]at GB;obtain⟨h1,rfl⟩:=GB;have e1:=Cx.de (c:=c) (w':=w') hn hr;have:q=r:=by have f1:=MG hn hr (fun q=>q.tag==r.tag) (by simp) (fun q hq=>by simpa using hq);have f2:=MG hn hq (fun p=>p.tag==r.tag) (by simp [h1]) (fun p hp=>by rw [h1];simpa using hp);rw [f1]at f2;cases f2;rfl
  rw [this]
 refine⟨h.change (fun t=> ∃r∈recs,r.tag=t) Bv ⟨CW.os.trans h.base.os,CW.tape.trans h.base.tape,CW.output.trans h.base.output,Nat.le_trans h.base.size CW.size,fun t v L8=>⟨.inl (h.base.pins t v L8).1,fun hk=> ?_⟩,fun b hb Gc=> ?_,h.base.pk,h.base.lo⟩
  (fun t ht=>⟨I8 fun e he=> ?_,Cx.cv fun r hr hh=>ht ⟨r,hr,hh⟩,Cx.gx fun r hr hh=>ht ⟨r,hr,hh⟩,fun g hg=> ?_⟩) (fun t ht b hb=>CW.block b (h.gw.inb t b (by simp [GI.own,hb])) fun hh=> ?_) (fun t ht=> ?_) ⟨fun t=> ?_,fun t u JY b hb BE=> ?_,fun t b hb=> ?_,fun t b hb=> ?_⟩ (fun t g hk=> ?_) (fun t e he=> ?_),Bv⟩
 ·have Bw:=aft.old t (h.base.pins t v L8).1 0 hk;rw [(aft.K t 0 Bw).2];exact(h.base.pins t v L8).2 Bw
 ·refine(CW.block b (Nat.lt_of_lt_of_le hb h.base.size) fun hh=> ?_).trans (h.base.block b hb Gc);rcases Bl b hh with h1|h1
  ·exact absurd h1 (Nat.not_le.2 hb)
  ·exact Gc h1
 ·obtain⟨q,hq,GB⟩:=List.mem_map.1 he;simp only [Prod.mk.injEq]at GB;exact ht ⟨q,hq,GB.1⟩
 ·rcases hg with hg|⟨r,hr,Hn,_⟩
  ·exact hg
  ·exact absurd ⟨r,hr,Hn⟩ ht
 ·obtain⟨r,hr,G6⟩:=Fo b hh;exact h.gw.cc t r.tag (fun hh=>ht ⟨r,hr,hh.symm⟩) b (by simp [GI.own,hb]) (by simp [GI.own,G6])
 ·obtain⟨r,hr,rfl⟩:=ht;have C1:=Wu (hp:=hp) (l:=recs.map fun r=>(r.tag,B9 gs r.bb)) (List.mem_map.2 ⟨r,hr,rfl⟩) (Hr r hr);rw [C1];refine⟨fun e' Oy=> ?_,fun DE=> ?_⟩
  ·rw [(MI k (Bk r hr)).1 Oy];exact Bb r hr
  ·exact absurd ((MI k (Bk r hr)).2 rfl) (DE r.bb)
 ·by_cases hT: ∃r∈recs,r.tag=t
  ·obtain⟨r,hr,rfl⟩:=hT;rw [Cx.de hn hr];simpa [GI.own]using(Pb DI).1 r hr
  ·rw [Cx.cv fun r hr hh=>hT ⟨r,hr,hh⟩];exact h.gw.nodup t
 ·by_cases hT: ∃r∈recs,r.tag=t
  ·obtain⟨r,hr,rfl⟩:=hT;rw [Cx.de hn hr]at hb;simp only [GI.own,List.append_nil]at hb;by_cases hV: ∃r∈recs,r.tag=u
   ·obtain⟨q,hq,rfl⟩:=hV;rw [Cx.de hn hq]at BE;simp only [GI.own,List.append_nil]at BE;obtain⟨i,hi⟩:=List.getElem?_of_mem hr;obtain⟨j,hj⟩:=List.getElem?_of_mem hq;have:=(Pb DI).2 i j r q b hi hj hb BE;subst this;rw [hi]at hj;cases hj;exact JY rfl
   ·rw [Cx.cv fun r hr hh=>hV ⟨r,hr,hh⟩]at BE;rcases(B6 r hr b hb).1 with hh|hh
    ·obtain⟨q,hq,eQ⟩:=Fo b hh;exact h.gw.cc q.tag u (fun hh=>hV ⟨q,hq,hh⟩) b (by simp [GI.own,eQ]) BE
    ·have:=h.gw.inb u b BE;omega
  ·rw [Cx.cv fun r hr hh=>hT ⟨r,hr,hh⟩]at hb;by_cases hV: ∃r∈recs,r.tag=u
   ·obtain⟨q,hq,rfl⟩:=hV;rw [Cx.de hn hq]at BE;simp only [GI.own,List.append_nil]at BE;rcases(B6 q hq b BE).1 with hh|hh
    ·obtain⟨r,hr,Qp⟩:=Fo b hh;exact h.gw.cc r.tag t (fun hh=>hT ⟨r,hr,hh⟩) b (by simp [GI.own,Qp]) hb
    ·have:=h.gw.inb t b hb;omega
   ·rw [Cx.cv fun r hr hh=>hV ⟨r,hr,hh⟩]at BE;exact h.gw.cc t u JY b hb BE
 ·by_cases hT: ∃r∈recs,r.tag=t
  ·obtain⟨r,hr,rfl⟩:=hT;rw [Cx.de hn hr]at hb;simp only [GI.own,List.append_nil]at hb;rcases(B6 r hr b hb).1 with hh|hh
   ·exact Bl b hh
   ·exact .inl (Nat.le_trans h.base.size hh)
  ·rw [Cx.cv fun r hr hh=>hT ⟨r,hr,hh⟩]at hb;exact h.gw.allow t b hb
 ·by_cases hT: ∃r∈recs,r.tag=t
  ·obtain⟨r,hr,rfl⟩:=hT;rw [Cx.de hn hr]at hb;simp only [GI.own,List.append_nil]at hb;exact(B6 r hr b hb).2
  ·rw [Cx.cv fun r hr hh=>hT ⟨r,hr,hh⟩]at hb;exact Nat.lt_of_lt_of_le (h.gw.inb t b hb) CW.size
 ·rcases hk with hk|⟨r,hr,Hn,_⟩
  ·exact .inl (h.bm t g hk)
  ·exact .inr ⟨r,hr,Hn⟩
 ·by_cases hT: ∃r∈recs,r.tag=t
  ·exact .inr hT
  ·rw [I8]at he
   ·exact .inl (h.cf t e he)
   ·intro e' DP;obtain⟨q,hq,GB⟩:=List.mem_map.1 DP;simp only [Prod.mk.injEq]at GB;exact hT ⟨q,hq,GB.1⟩
end
def Xr (P:Program) (w:World) (t:TypeId):PM→Value→AV→List Nat→List Nat→Prop
 | .ro,v,x,rf,hs=>Rd w [v] [x] rf∧hs= []
 | .va own,v,x,rf,hs=>No P w t own v x rf hs
 | .mu own,v,x,rf,hs=>No P w t own v x rf hs
 | .bx own _,v,x,rf,hs=> ∃(ty:TypeId) (b:Nat) (C:Array Value) (ys:List AV) (h:List Nat),Im P t=some ty∧v= .pointer (some ⟨b,0,none⟩)∧w.heap[b]?=some (.cells C ty (0,0))∧(∀u∈C.toList,u.oneCell'=true)∧x= .ref (.agg ys)∧
   BX P w (A0 P ty) own C.toList ys rf h∧hs=b::h
inductive CJ (P:Program) (w:World):List TypeId→List PM→List Bool→List Value→List AV→List Nat→List Nat→List Nat→Prop where
 |nil {ms lo}:CJ P w [] ms lo [] [] [] [] []
 |cons {t ts ms lo v vs x xs f h rf lf hs}:Xr P w t (ms.headD .ro) v x f h→CJ P w ts ms.tail lo.tail vs xs rf lf hs→CJ P w (t::ts) ms lo (v::vs) (x::xs) (f++rf) lf (h++hs)
 |lent {t ts ms lo v vs x xs f rf lf hs}:lo.headD false=true→ms.headD .ro= .ro→Rd w [v] [x] f→CJ P w ts ms.tail lo.tail vs xs rf lf hs→CJ P w (t::ts) ms lo (v::vs) (x::xs) rf (f++lf) hs
 |free {ms lo v vs x xs f rf lf hs}:Rd w [v] [x] f→CJ P w [] ms.tail lo.tail vs xs rf lf hs→CJ P w [] ms lo (v::vs) (x::xs) (f++rf) lf hs
inductive E7 (P:Program) (c:Cx):List TypeId→List Bool→List Value→List (Option RI)→Prop where
 |nil {fl}:E7 P c [] fl [] []
 |row {t ts fl v vs u g el rs}:fl.headD false=true→Cf P t=some el→(BH P el=true∨De P t=none)→c.K u g→c.H u g=v→(∀g',c.K u g'→g'≤g)→E7 P c ts fl.tail vs rs→E7 P c (t::ts) fl (v::vs) (some (.fl u g el (P.cellsOf el) (BH P el))::rs)
 |deep {t ts fl v vs u g el e z l ep rs}:fl.headD false=true→Cf P t=some el→BH P el=false→De P t=some (.row e z (AF.of l))→c.K u g→c.H u g=v→(∀g',c.K u g'→g'≤g)→c.E u=ep→E7 P c ts fl.tail vs rs→E7 P c (t::ts) fl (v::vs) (some (.dp u g e z l ep)::rs)
 |none {t ts fl v vs rs}:(fl.headD false=true→Cf P t=none∨ ∃a,v= .slice a 0 0)→E7 P c ts fl.tail vs rs→E7 P c (t::ts) fl (v::vs) (none::rs)
inductive GM (P:Program) (c:Cx):List TypeId→List PM→List Value→List PA→Prop where
 |nil {ts ms}:GM P c ts ms [] []
 |ro {ts ms v vs bs}:ms.headD .ro= .ro→GM P c ts.tail ms.tail vs bs→GM P c ts ms (v::vs) bs
 |va {ts ms own v vs bs us}:ms.headD .ro= .va own→(∀u∈us,c.U u)→GM P c ts.tail ms.tail vs bs→GM P c ts ms (v::vs) (.va us::bs)
 |mu {t ts ms own v vs bs us rs}:ms.headD .ro= .mu own→(if Ak P t then v= .agg us.toArray else us= [v])→E7 P c (A0 P t) own us rs→GM P c ts ms.tail vs bs→GM P c (t::ts) ms (v::vs) (.mu rs (Ak P t)::bs)
 |bx {t ts ms own own' ty v vs bs T b g olds}:ms.headD .ro= .bx own own'→Im P t=some ty→v= .pointer (some ⟨b,0,none⟩)→c.K T 0→c.H T 0=v→(∀u∈olds,c.U u)→GM P c ts ms.tail vs bs→GM P c (t::ts) ms (v::vs) (.box T g own' ty olds::bs)
section
variable {P:Program} {c:Cx} {hp:Nat→Option Af} {gs:Gd}
theorem So {t el:TypeId} {d:DT} (A7:Cf P t=some el) (h:De P t=some d):P.cellsOf el≠0∧(A0 P el).length=P.cellsOf el∧ ∃l:List DT,d= .row el (P.cellsOf el) (AF.of l)∧l.length=P.cellsOf el:=by
 have hu:=H3 A7;unfold De at h;split at h
 ·cases h
 simp only [S8,hu]at h;split at h
 ·cases h
 ·rename_i hh;simp only [not_or,Decidable.not_not,ne_eq]at hh;obtain⟨l,hl,rfl⟩:=Ap.1 h;exact⟨hh.1,hh.2,l,rfl,by rw [mapM_len _ _ hl];exact hh.2⟩
where
 mapM_len {α β:Type} {f:α→Option β}: ∀(l:List α) (l':List β),l.mapM f=some l'→l'.length=l.length
  | [],l',h=>by simp at h;subst h;rfl
  |a::l,l',h=>by simp only [List.mapM_cons,Option.bind_eq_bind,Aq,Option.pure_def,Ae]at h;obtain⟨b,_,bs,NO,rfl⟩:=h;simp [mapM_len l bs NO]
theorem BX.void {w:World} {t el:TypeId} {ts:List TypeId} {fl:List Bool} {a:Option Addr} {us:List Value} {ys:List AV} {rf hs:List Nat} (h1:fl.headD false=true) (h2:Cf P t=some el) (hz:P.cellsOf el≠0) (h:BX P w ts fl.tail us ys rf hs):BX P w (t::ts) fl (.slice a 0 0::us) (.sl []::ys) rf ([]++hs):=by
 have Bl:Cy w el (P.cellsOf el) (.slice a 0 0) (.sl []) [] []:=⟨[],rfl,by simp,by omega, .inl ⟨rfl,⟨a,rfl⟩,rfl,rfl⟩⟩
 cases hf:BH P el with
 |true=>exact .own h1 h2 (.inl ⟨hf,rfl⟩) Bl h
 |false=>
  cases hd:De P t with
  |none=>exact .own h1 h2 (.inr ⟨hf,hd⟩) Bl h
  |some d=>obtain⟨_,_,l,rfl,hl⟩:=So h2 hd;exact .deep h1 h2 hf hd (.void (by omega) (by rw [AF.aq];exact hl) .nil) h
theorem Y1 {as_ bs:List Value} (h:Value.agg as_.toArray= .agg bs.toArray):as_=bs:=by
 have h1:as_.toArray=bs.toArray:=by injection h
 have:=congrArg Array.toList h1;simpa using this
theorem Vt (eh:EH c hp) (k:A2 c.ρ gs) (hU: ∀t g,c.K t g→c.U t): ∀(ts:List TypeId) {cs:List SV} {fl:List Bool} {rs:List (Option RI)} {us:List Nat} {vs:List Value} {xs:EL} {m:Nat},Fx P hp gs ts cs fl=some (rs,us)→SR c cs vs→BQ hp gs m cs=some xs→m≤AK→
  ∃rf hs,BX P c.w ts fl vs (xs.den c.ρ) rf hs∧(∀b∈rf,c.dj us b)∧hs=(B0 rs).flatMap (fun t=>(c.G t).top)∧E7 P c ts fl vs rs∧ ∀u∈B0 rs,c.U u
 | [], [],fl,rs,us,vs,xs,m,h,hs,hx,hm=>by
  simp [Fx]at h;obtain⟨rfl,rfl⟩:=h;cases hs;cases m with
  |zero=>simp [BQ]at hx
  |succ m=>simp [BQ]at hx;subst hx;exact⟨[], [], .nil,by simp,by simp [B0], .nil,by simp [B0]⟩
 | [],s::cs,fl,rs,us,vs,xs,m,h,hs,hx,hm=>by simp [Fx]at h
 |t::ts, [],fl,rs,us,vs,xs,m,h,hs,hx,hm=>by simp [Fx]at h
 |t::ts,s::cs,fl,rs,us, [],xs,m,h,hs,hx,hm=>by have:=hs.len;simp at this
 |t::ts,s::cs,fl,rs,us,v::vs,xs,m,h,hs,hx,hm=>by
  obtain⟨j,y,ys,rfl,hy,CC,rfl⟩:=H4 hx;obtain⟨r1,r2⟩:=hs.br;unfold Fx at h;split at h
  ·cases h
  rename_i rs' us' Cl;obtain⟨rf,A5,q1,q2,q3,q4,q5⟩:=Vt eh k hU ts Cl r2 CC (by omega);split at h
  ·rename_i hf;split at h
   ·rename_i r hr;simp only [Ae,Prod.mk.injEq]at h;obtain⟨rfl,rfl⟩:=h;unfold Wt at hr;split at hr
    ·cases hr
    rename_i el A7;split at hr
    ·cases hr
    rename_i hz;have empt: ∀a,v= .slice a 0 0→y.den c.ρ= .sl []→r=none→ ∃rf hs,BX P c.w (t::ts) fl (v::vs) ((EL.cons y ys).den c.ρ) rf hs∧(∀b∈rf,c.dj us' b)∧hs=(B0 (r::rs')).flatMap (fun t=>(c.G t).top)∧E7 P c (t::ts) fl (v::vs) (r::rs')∧ ∀u∈B0 (r::rs'),c.U u:=by rintro a rfl GF rfl;refine⟨rf, []++A5, ?_,q2,by simpa [B0]using q3, .none (fun _=> .inr ⟨a,rfl⟩) q4,by simpa [B0]using q5⟩;rw [EL.den,GF];exact BX.void hf A7 (by omega) q1
    split at hr
    ·simp only [Ae]at hr;subst hr;cases r1 with
     |bp _=>exact empt _ rfl (by rw [I5 hy];rfl) rfl
    ·simp only [Ae]at hr;subst hr;cases r1 with
     |emp _=>
      refine empt _ rfl ?_ rfl;cases j with
      |zero=>simp [A9]at hy
      |succ j=>simp [A9]at hy;subst hy;rfl
    ·rename_i u g;split at hr
     ·rename_i e z g' x d hl;split at hr
      ·rename_i hh;obtain⟨rfl,rfl,rfl,Fi⟩:=hh;simp only [Ae]at hr;subst hr;obtain⟨p1,p2,N,p3,p4,p5,_⟩:=eh u _ (Ce hl k);have KR:BH P e=true∨De P t=none:=Fi.imp (·.1) (by rintro⟨_,h⟩;simpa using h);have Fi:BH P e=true∧N= []∨BH P e=false∧De P t=none:=by
        rcases Fi with⟨h1,h2⟩|⟨h1,h2⟩
        ·exact .inl ⟨h1,(p5 h2).1⟩
        ·exact .inr ⟨h1,by simpa using h2⟩
       have Gg:y=x:=by
        cases j with
        |zero=>simp [A9]at hy
        |succ j=>simp [A9,Gh,hl]at hy;exact hy.symm
       subst Gg;have hv:c.H u g=v:=by
        cases r1 with
        |own _ k2 _=>exact k2
       rw [hv]at p3;refine⟨N++rf,(c.G u).top++A5,BX.own hf A7 Fi p3 q1,fun b hb=> ?_,by simp [B0,RI.tag,q3], .row hf A7 KR p1 hv p2 q4,fun w hw=> ?_⟩
       ·rcases Ag.1 hb with hb|hb
        ·exact .inl (p4 b hb)
        ·exact q2 b hb
       simp only [B0,List.filterMap_cons,Option.map_some,RI.tag,Ad]at hw;rcases hw with rfl|hw
       ·exact hU _ _ p1
       ·exact q5 w hw
      ·cases hr
     ·rename_i e z l g' ep x hl;split at hr
      ·rename_i hh;obtain⟨rfl,EJ,CT⟩:=hh;have CT:=RS CT;simp only [Ae]at hr;subst hr;obtain⟨p1,p2,pE,p3,_⟩:=eh u _ (Ce hl k);have Gg:y=x:=by
        cases j with
        |zero=>simp [A9]at hy
        |succ j=>simp [A9,Gh,hl]at hy;exact hy.symm
       subst Gg;have hv:c.H u g=v:=by
        cases r1 with
        |own _ k2 _=>exact k2
       rw [hv]at p3;refine⟨rf,(c.G u).top++A5,BX.deep hf A7 EJ CT p3 q1,q2,by simp [B0,RI.tag,q3], .deep hf A7 EJ CT p1 hv p2 pE q4,fun w hw=> ?_⟩;simp only [B0,List.filterMap_cons,Option.map_some,RI.tag,Ad]at hw;rcases hw with rfl|hw
       ·exact hU _ _ p1
       ·exact q5 w hw
      ·cases hr
     ·cases hr
    ·cases hr
   ·cases h
  ·rename_i hf;simp only [Ae,Prod.mk.injEq]at h;obtain⟨rfl,rfl⟩:=h;obtain⟨f,p1,p2⟩:=FV eh k j hy r1 AK (by omega);refine⟨f++rf,A5,BX.rd (fun hh=>absurd hh hf) p1 q1,fun b hb=> ?_,by simpa [B0]using q3, .none (fun hh=>absurd hh hf) q4,by simpa [B0]using q5⟩;rcases Ag.1 hb with hb|hb
   ·exact(p2 b hb).mono fun t ht=>by simp [ht]
   ·exact(q2 b hb).mono fun t ht=>by simp [ht]
theorem YJ (eh:EH c hp) (k:A2 c.ρ gs) (hU: ∀t g,c.K t g→c.U t) {t:TypeId} {s:SV} {v:Value} {fl:List Bool} {rs:List (Option RI)} {us:List Nat} {x:E} (hs:SR c [s] [v]) (hx:A9 hp gs AK s=some x) (hg:(FQ s).2=Ak P t)
  (h:Fx P hp gs (A0 P t) (FQ s).1 fl=some (rs,us)):
  ∃rf hs,No P c.w t fl v (x.den c.ρ) rf hs∧(∀b∈rf,c.dj us b)∧hs=(B0 rs).flatMap (fun t=>(c.G t).top)∧(∃vs',(if Ak P t then v= .agg vs'.toArray else vs'= [v])∧E7 P c (A0 P t) fl vs' rs)∧ ∀u∈B0 rs,c.U u:=by
 have single: ∀(s:SV),SR c [s] [v]→A9 hp gs AK s=some x→Ak P t=false→Fx P hp gs (A0 P t) [s] fl=some (rs,us)→ ∃rf hs,No P c.w t fl v (x.den c.ρ) rf hs∧(∀b∈rf,c.dj us b)∧hs=(B0 rs).flatMap (fun t=>(c.G t).top)∧(∃vs',(if Ak P t then v= .agg vs'.toArray else vs'= [v])∧E7 P c (A0 P t) fl vs' rs)∧ ∀u∈B0 rs,c.U u:=by
  intro s hs hx As h;obtain⟨t0,Us⟩: ∃t0,A0 P t= [t0]:=by
   cases hh:A0 P t with
   |nil=>rw [hh]at h;simp [Fx]at h
   |cons t0 l=>
    cases l with
    |nil=>exact⟨t0,rfl⟩
    |cons t1 l=>rw [hh]at h;simp [Fx]at h
  rw [Us]at h;have key: ∃rf hs,BX P c.w [t0] fl [v] [x.den c.ρ] rf hs∧(∀b∈rf,c.dj us b)∧hs=(B0 rs).flatMap (fun t=>(c.G t).top)∧E7 P c [t0] fl [v] rs∧ ∀u∈B0 rs,c.U u:=by
   unfold Fx at h;simp only [Fx]at h;split at h
   ·rename_i hf;split at h
    ·rename_i r hr;simp only [Ae,Prod.mk.injEq]at h;obtain⟨rfl,rfl⟩:=h;unfold Wt at hr;split at hr
     ·cases hr
     rename_i el A7;split at hr
     ·cases hr
     rename_i hz;have empt: ∀a,v= .slice a 0 0→x.den c.ρ= .sl []→r=none→ ∃rf hs,BX P c.w [t0] fl [v] [x.den c.ρ] rf hs∧(∀b∈rf,c.dj ([]:List Nat) b)∧hs=(B0 [r]).flatMap (fun t=>(c.G t).top)∧E7 P c [t0] fl [v] [r]∧ ∀u∈B0 [r],c.U u:=by rintro a rfl GF rfl;refine⟨[], []++ [], ?_,by simp,by simp [B0], .none (fun _=> .inr ⟨a,rfl⟩) .nil,by simp [B0]⟩;rw [GF];exact BX.void hf A7 (by omega) .nil
     split at hr
     ·simp only [Ae]at hr;subst hr;cases hs with
      |bp _=>exact empt _ rfl (by rw [I5 hx];rfl) rfl
     ·simp only [Ae]at hr;subst hr;cases hs with
      |emp _=>refine empt _ rfl ?_ rfl;simp [AK,A9]at hx;subst hx;rfl
     ·rename_i u g;split at hr
      ·rename_i e z g' x0 d hl;split at hr
       ·rename_i hh;obtain⟨rfl,rfl,rfl,Fi⟩:=hh;simp only [Ae]at hr;subst hr;obtain⟨p1,p2,N,p3,p4,p5,_⟩:=eh u _ (Ce hl k);have KR:BH P e=true∨De P t0=none:=Fi.imp (·.1) (by rintro⟨_,h⟩;simpa using h);have Fi:BH P e=true∧N= []∨BH P e=false∧De P t0=none:=by
         rcases Fi with⟨h1,h2⟩|⟨h1,h2⟩
         ·exact .inl ⟨h1,(p5 h2).1⟩
         ·exact .inr ⟨h1,by simpa using h2⟩
        have Gg:x=x0:=by simp [AK,A9,Gh,hl]at hx;exact hx.symm
        subst Gg;have hv:c.H u g=v:=by
         cases hs with
         |own _ k2 _=>exact k2
        rw [hv]at p3;refine⟨N++ [],(c.G u).top++ [],BX.own hf A7 Fi p3 .nil,fun b hb=> .inl (p4 b (by simpa using hb)),by simp [B0,RI.tag], .row hf A7 KR p1 hv p2 .nil,fun w hw=> ?_⟩;simp only [B0,List.filterMap_cons,Option.map_some,RI.tag,List.filterMap_nil,Ad,List.not_mem_nil,or_false]at hw;subst hw;exact hU _ _ p1
       ·cases hr
      ·rename_i e z l g' ep x0 hl;split at hr
       ·rename_i hh;obtain⟨rfl,EJ,CT⟩:=hh;have CT:=RS CT;simp only [Ae]at hr;subst hr;obtain⟨p1,p2,pE,p3,_⟩:=eh u _ (Ce hl k);have Gg:x=x0:=by
         simp [AK,A9,Gh,hl]at hx;exact hx.symm
        subst Gg;have hv:c.H u g=v:=by
         cases hs with
         |own _ k2 _=>exact k2
        rw [hv]at p3;refine⟨[],(c.G u).top++ [],BX.deep hf A7 EJ CT p3 .nil,by simp,by simp [B0,RI.tag], .deep hf A7 EJ CT p1 hv p2 pE .nil,fun w hw=> ?_⟩;simp only [B0,List.filterMap_cons,Option.map_some,RI.tag,List.filterMap_nil,Ad,List.not_mem_nil,or_false]at hw;subst hw;exact hU _ _ p1
       ·cases hr
      ·cases hr
     ·cases hr
    ·cases h
   ·rename_i hf;simp only [Ae,Prod.mk.injEq]at h;obtain⟨rfl,rfl⟩:=h;obtain⟨f,p1,p2⟩:=FV eh k AK hx hs AK (Nat.le_refl _);refine⟨f++ [], [],BX.rd (fun hh=>absurd hh hf) p1 .nil,fun b hb=> ?_,by simp [B0], .none (fun hh=>absurd hh hf) .nil,by simp [B0]⟩;rw [List.append_nil]at hb;exact(p2 b hb).mono fun t ht=>by simp [ht]
  obtain⟨rf,A5,q1,q2,q3,q4,q5⟩:=key;refine⟨rf,A5,⟨[v], [x.den c.ρ], ?_,by rw [Us];exact q1⟩,q2,q3,⟨[v], ?_,by rw [Us];exact q4⟩,q5⟩
  ·rw [if_neg (by rw [As];simp)];exact⟨rfl,rfl⟩
  ·rw [if_neg (by rw [As];simp)]
 cases s with
 |agg cs=>
  simp only [FQ]at hg h;obtain⟨m,l,hm,hl,rfl⟩:=Pp hx;cases hs with
  |agg h9 h1 h8=>
   rename_i as_;have EE:m≤AK:=by simp only [AK]at hm ⊢;omega
   obtain⟨rf,A5,q1,q2,q3,q4,q5⟩:=Vt (P:=P) eh k hU (A0 P t) h h1 hl EE;refine⟨rf,A5,⟨as_,l.den c.ρ, ?_,q1⟩,q2,q3,⟨as_, ?_,q4⟩,q5⟩
   ·rw [if_pos hg.symm];exact⟨rfl,rfl,h9⟩
   ·rw [if_pos hg.symm]
 |_=>exact single _ hs hx hg.symm h
end
end Go.Proofs.YtagokdejdanfcaaGreatDoor
end

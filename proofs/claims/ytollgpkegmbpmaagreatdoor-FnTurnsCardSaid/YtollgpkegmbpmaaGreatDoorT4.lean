/- Parts of a proof, joined: VX, WB, WC, WD, WE, WF, WG, WH, WI, WJ, WK, WL, WM, WN, WO. -/
import Derived.Test.YtollgpkegmbpmaaGreatDoorT3
import Derived.Orders
import Derived.Lib.SliceRun
import Derived.Laws.Slices
import Derived.Laws.MakeOwn
import Derived.Laws.StructEq
set_option linter.unusedVariables false
set_option linter.unusedSimpArgs false
section
namespace Go.Proofs.YtollgpkegmbpmaaGreatDoor
open Go.RowKit
section
variable {P:Program} {c:Cx} {n nx:Nat} {sl sl0:Nat→SV} {hp hp0:Nat→Option Af} {a:Act} {o:Oper} {gs:Gd} {e:AK} {sg:Bo} {nv:Nat}
def Cx.eg (c:Cx) (w':World) (t:Nat) (O:List Nat):Cx:={c with w:=w',G:=fun u=>if u=t then⟨(c.G t).top,O⟩else c.G u,E:=fun u=>if u=t then c.E u+1 else c.E u}
theorem Rel.ir (h:Rel c n sl hp a) {t:Nat} {e0:Af} {b:Nat} {w':World} {O:List Nat} (AG:BS c.ρ (hp t) e0) (BW:b∈(c.G t).top) (hO:O= []∨O=(c.G t).O) (hm:Mod [b] c.w w') (BA:w'.heap.size=c.w.heap.size) (e1:Af) (A8: ∀hs f,e1≠ .gd hs f)
  (he:CU c (c.eg w' t O)→Cu (c.eg w' t O) t e1):
  Rel (c.eg w' t O) n sl (AR hp [(t,e1)]) a:=by
 have Ba:b∈(c.G t).own:=by simp [GI.own,BW]
 have hG: ∀u,(c.eg w' t O).G u=if u=t then⟨(c.G t).top,O⟩else c.G u:=fun u=>rfl;have DL: ∀u,((c.eg w' t O).G u).top=(c.G u).top:=by
  intro u;rw [hG];split
  ·rename_i hu;rw [hu]
  ·rfl
 have Bl: ∀u,∀q∈((c.eg w' t O).G u).own,q∈(c.G u).own:=by
  intro u q hq;rw [hG]at hq;split at hq
  ·rename_i hu;subst hu;simp only [GI.own,Ag]at hq ⊢;rcases hq with hq|hq
   ·exact .inl hq
   ·rcases hO with rfl|rfl
    ·simp at hq
    ·exact .inr hq
  ·exact hq
 have Bp:CU c (c.eg w' t O):=by
  refine⟨rfl,rfl,fun q _ hq=>⟨fun⟨u,hu⟩=>hq.1 ⟨u,by rw [DL]at hu;exact hu⟩,hq.2⟩,fun q hq Au=>hm.block q hq ?_,fun u g hu=>⟨hu,rfl⟩,fun u g hu=> ?_⟩
  ·simp only [List.mem_singleton];rintro rfl;exact Au.1 ⟨t,BW⟩
  ·by_cases Fh:u=t
   ·have e1:(c.eg w' t O).E u=c.E u+1:=by simp only [Cx.eg,if_pos Fh]
    exact⟨by omega,fun h=>by omega⟩
   ·have e1:(c.eg w' t O).E u=c.E u:=by simp only [Cx.eg,if_neg Fh]
    have e2:(c.eg w' t O).G u=c.G u:=by simp only [Cx.eg,if_neg Fh]
    rw [e1];refine⟨Nat.le_refl _,fun _=>⟨e2,fun q hq G2=>hm.block q G2 ?_⟩⟩;simp only [List.mem_singleton];rintro rfl;exact h.gw.bq t u (Ne.symm Fh) q Ba (by simp [GI.own,hq])
 have C3: ∀u,AR hp [(t,e1)] u=if u=t then some e1 else hp u:=fun u=>rfl;refine h.change (fun u=>u=t) Bp ⟨hm.os.trans h.base.os,hm.tape.trans h.base.tape,hm.output.trans h.base.output,Nat.le_trans h.base.size hm.size,h.base.pins,fun q hq GD=> ?_,h.base.pk,h.base.lo⟩
  (fun u hu=>⟨by rw [C3,if_neg hu],by rw [hG,if_neg hu],by simp [Cx.eg,hu],fun g hg=>hg⟩) (fun u hu q hq=>hm.block q (h.gw.inb u q (by simp [GI.own,hq])) ?_) (fun u hu=> ?_) ⟨fun u=> ?_,fun u v Vb q hq UW=>h.gw.bq u v Vb q (Bl u q hq) (Bl v q UW),fun u q hq=>h.gw.allow u q (Bl u q hq),fun u q hq=> ?_⟩ h.a7 (fun u f hf=> ?_)
 ·refine(hm.block q (Nat.lt_of_lt_of_le hq h.base.size) ?_).trans (h.base.block q hq GD);simp only [List.mem_singleton];rintro rfl;rcases h.gw.allow t q Ba with hh|hh
  ·exact absurd hh (Nat.not_le.2 hq)
  ·exact GD hh
 ·simp only [List.mem_singleton];rintro rfl;exact h.gw.bq t u (Ne.symm hu) q Ba (by simp [GI.own,hq])
 ·subst hu;rw [C3,if_pos rfl];refine⟨fun e' hr=> ?_,fun hn=> ?_⟩
  ·cases e1<;>first
    |(simp only [BS]at hr;subst hr;exact he Bp)
    |exact absurd rfl (A8 _ _)
  ·cases e1<;>first
    |exact absurd rfl (A8 _ _)
    |exact absurd rfl (hn _)
 ·rw [hG];split
  ·rename_i hu;subst hu;have h0:=h.gw.nodup u;simp only [GI.own]at h0 ⊢;rcases hO with rfl|rfl
   ·rw [List.append_nil];exact(List.nodup_append.1 h0).1
   ·exact h0
  ·exact h.gw.nodup u
 ·show q<w'.heap.size;rw [BA];exact h.gw.inb u q (Bl u q hq)
 ·rw [C3]at hf;split at hf
  ·rename_i hu;subst hu;cases hh:hp u with
   |none=>rw [hh]at AG;exact AG.elim
   |some e9=>exact h.br u e9 hh
  ·exact h.br u f hf
theorem MT {α:Type} (L vs:List α) (p m:Nat) (h:p+vs.length≤m) (hm:m≤L.length):(setVs L p vs).take m=setVs (L.take m) p vs:=by
 apply List.ext_getElem?;intro j;have hl:(L.take m).length=m:=by rw [List.length_take];omega
 rw [List.getElem?_take,MW (L.take m) vs p (by omega) j,MW L vs p (by omega) j,List.getElem?_take];by_cases h1:p≤j∧j<p+vs.length
 ·rw [if_pos (by omega),if_pos h1,if_pos h1]
 ·rw [if_neg h1,if_neg h1]
theorem Rd.setVs {w:World} {L V:List Value} {X Y:List AV} {N f:List Nat} {p:Nat} (h:Rd w L X N) (k:Rd w V Y f) (hp:p+V.length≤L.length):
  ∃n1 n2 n3,N=n1++n2++n3∧Rd w (Go.Proofs.YtollgpkegmbpmaaGreatDoor.setVs L p V) (Go.Proofs.YtollgpkegmbpmaaGreatDoor.setVs X p Y) (n1++f++n3)∧Rd w ((L.drop p).take V.length) ((X.drop p).take V.length) n2:=by
 have hl:=h.len;have hk:=k.len;have e1:L=L.take p++((L.drop p).take V.length++L.drop (p+V.length)):=by rw [←List.drop_drop,List.take_append_drop,List.take_append_drop]
 have e2:X=X.take p++((X.drop p).take V.length++X.drop (p+V.length)):=by rw [←List.drop_drop,List.take_append_drop,List.take_append_drop]
 have h':=h;rw [e1,e2]at h';obtain⟨n1,m,rfl,g1,g2⟩:=Rd.dr (by simp;omega) h';obtain⟨n2,n3,rfl,g3,g4⟩:=Rd.dr (by simp;omega) g2;refine⟨n1,n2,n3,by simp, ?_,g3⟩;unfold Go.Proofs.YtollgpkegmbpmaaGreatDoor.setVs;rw [←hk];exact(g1.app k).app g4
theorem SG {sz:Nat}: ∀(ys:List AV) (k:Nat) (z y:AV) (o:Nat) (vc:List AV),(∀y∈ys,y.cells.length=sz)→ys[k]?=some y→o+vc.length≤sz→z.cells=setVs y.cells o vc→Ay (ys.set k z)=setVs (Ay ys) (k*sz+o) vc
 | [],k,z,y,o,vc,_,h,_,_=>by simp at h
 |q::ys,0,z,y,o,vc,hs,h,ho,hz=>by simp at h;subst h;have hq:=hs q (by simp);simp only [Ay,List.set_cons_zero,List.flatMap_cons,Nat.zero_mul,Nat.zero_add,hz];unfold setVs;rw [List.take_append_of_le_length (by omega),List.drop_append_of_le_length (by omega)];simp
 |q::ys,k+1,z,y,o,vc,hs,h,ho,hz=>by
  have hq:=hs q (by simp);have ih:=SG ys k z y o vc (fun u hu=>hs u (by simp [hu])) (by simpa using h) ho hz;simp only [Ay,List.set_cons_succ,List.flatMap_cons]at ih ⊢;rw [ih];unfold setVs;have e0:(k+1)*sz+o=q.cells.length+(k*sz+o):=by rw [hq,Nat.add_mul];omega
  rw [e0,List.take_length_add_append,Nat.add_assoc (q.cells.length),List.drop_length_add_append];simp
theorem Wk {y x:AV} {k:Nat} {g:Bool} (hx:(∀cs,x≠ .agg cs)∨g=true) (hy:g=false→y.cells.length=1∧k=0∧x.cells= [x]):(y.cj k x g).cells=setVs y.cells k x.cells:=by
 cases g with
 |true=>simp [AV.cj,AV.cells,setVs]
 |false=>obtain⟨h1,h2,h3⟩:=hy rfl;subst h2;simp only [AV.cj,h3,setVs];rw [if_neg (by simp)];rw [h3];simp only [List.take_zero,List.nil_append,AD,List.length_nil,Nat.zero_add];rw [List.drop_eq_nil_of_le (by omega)];simp
theorem nY (h:A1 P c n nx sl hp a sl0 hp0 o gs) {t:TypeId} {x y:Operand} (ho:o.op= .store t x y) {b g:Nat} {ix:E} {sz k:Nat} {s:SV} (Bg: ∃e z g c d,Cy hp0 gs b=some (.row e z g c d)) (hx:Bk sl0 gs x=some (.bt b g ix sz k)) (hy:Bk sl0 gs y=some s)
  (he:Kh P hp0 gs t (.bt b g ix sz k) s=some e) (hc: ∀q∈e.bc,Cn.den c.ρ q):Ar P o c n nx sl hp gs a e:=by
 have r1:=h.bz hx (by simp [ho,Op.operands]);have r2:=h.bz hy (by simp [ho,Op.operands]);simp only [Kh]at he;split at he
 ·rename_i el sz' g' c0 d hl;split at he
  ·rename_i hh;obtain⟨rfl,rfl,rfl,AZ,hle,Ep,Df⟩:=hh;split at he
   ·rename_i xe fz dx ck BK;split at he
    ·cases he
    rename_i D0;simp only [Ac]at he;subst he;have D0: ∀f,(b,f)∉fz:=fun f hf=>D0 (by simp only [List.contains_eq_mem,decide_eq_true_eq];exact List.mem_map.2 ⟨_,hf,rfl⟩);obtain⟨f,q1,q2,⟨ts,q3⟩,q5⟩:=ZH h.rel h.hp h.gs r2 BK (fun q hq=>hc q (by simp [hq]));obtain⟨q3,q4⟩:=q3;have AG:=Ji h.hp (Cm hl h.gs);have Cw:=h.rel.freeze h.hp h.gs q3;have JY:BS (c.ay (fz.map (·.1))).ρ (AR hp fz b) (.row el sz g c0 d):=by rw [Jd D0];exact AG
    obtain⟨e1,e2,N,e3,e4,e5,e6⟩:=Cw.ents b _ JY;obtain⟨o1,o2,o3,o4⟩:=Wy (P:=P) q1 Df q5;generalize hv:a.eval x=v at r1;cases r1 with
    |bt k1 k2 k3 k4 k5 _=>
     rename_i m len cap kk kv k6;obtain⟨xs,p1,p2,p3,pcase⟩:=e3;have p1':c0.den c.ρ= .sl xs:=p1;rcases pcase with⟨_,⟨_,pv⟩,_⟩|⟨g9,cap9,C,pv,p4,p5,p6,p7,p8,p9,p10⟩
     ·exfalso;have:c.H b g=_:=pv;rw [k2]at this;cases this;omega
     ·have pv':c.H b g= .slice (some ⟨g9,0,none⟩) xs.length cap9:=pv;rw [k2]at pv';simp only [Value.slice.injEq,Ac,Addr.mk.injEq,and_true]at pv';obtain⟨rfl,rfl,rfl⟩:=pv';have Et:kv.toNat<xs.length:=by omega
      have E1:=Ko Et;generalize G7:(AV.sl xs).nth kv.toNat=yk at E1;have Ex:=p2 yk (List.mem_of_getElem? E1);have Dn:(a.eval y).cells.toList.length=P.cellsOf t:=by simpa using o4
      have hmul:(kv.toNat+1)*sz≤xs.length*sz:=Nat.mul_le_mul_right _ (by omega);have C7:C.toList.length=cap*sz:=by simpa using p7
      have EW:xs.length*sz≤cap*sz:=Nat.mul_le_mul_right _ p4;rw [Nat.add_mul]at hmul;have p6':c.w.heap[m]?=some (.cells C el (0,0)):=p6;obtain⟨m1,m2,m3⟩:=RZ (vs:=(a.eval y).cells.toList) p6' (show(kv.toNat*sz+k)+_≤C.size by rw [Dn,p7];omega);have KX:(C.toList.take (xs.length*sz)).length=xs.length*sz:=by rw [List.length_take,C7];omega
      obtain⟨n1,n2,n3,hN,s1,s2⟩:=Rd.setVs (p:=kv.toNat*sz+k) p10 o1 (by rw [KX,Dn];omega);have Es: ∀z,z<c.w.heap.size→(c.ay (fz.map (·.1))).ok z→(Cq c.w m (kv.toNat*sz+k) (a.eval y).cells.toList).heap[z]?=c.w.heap[z]?:=by intro z hz Au;refine m1.block z hz ?_;simp only [List.mem_singleton];rintro rfl;exact Au.1 ⟨b,by rw [p8];simp⟩
      have Bh:(d&&dx)=true→n2= []∧f= []:=by
       intro DQ;have iS:Cn.den c.ρ (.flat (.fld (.idx c0 ix) k (P.cellsOf t) (Ai P t)) (P.cellsOf t) (Ai P t)):=hc _ (by simp [DQ]);obtain⟨f1,f2,f3,f4⟩:=iS;simp only [Ad]at DQ;refine⟨?_,q2 DQ.2⟩;have K6:((Ay xs).drop (kv.toNat*sz+k)).take (a.eval y).cells.toList.length=(yk.cells.drop k).take (P.cellsOf t):=by rw [Dn];exact PN xs p2 _ _ E1 k (P.cellsOf t) hle
       rw [K6]at s2;have Bz:(E.fld (.idx c0 ix) k (P.cellsOf t) (Ai P t)).den c.ρ=yk.fld k (P.cellsOf t) (Ai P t):=by simp only [E.den,p1',k3,AV.idx,G7]
       rw [Bz]at f2;refine Gm s2 ?_;cases hg:Ai P t with
       |true=>rw [hg]at f2;simpa [AV.fld,AV.cells]using f2
       |false=>
        have h1:P.cellsOf t=1:=by rcases Df with h'|h';rw [hg]at h';cases h';exact h'
        rw [Bz]at f4;have f4:=f4 hg;rw [hg]at f4;have Am:k<yk.cells.length:=by omega
        rw [h1,List.drop_eq_getElem_cons Am,List.take_succ_cons,List.take_zero];simp only [List.mem_singleton,forall_eq];simpa [AV.fld,Am]using f4
      have hz:(yk.cj k (xe.den c.ρ) (Ai P el)).cells=setVs yk.cells k (xe.den c.ρ).cells:=by
       refine Wk ?_ (fun hg=> ?_)
       ·cases hg:Ai P el with
        |true=>exact .inr rfl
        |false=>
         left;rcases Ep with h'|⟨_,h'⟩
         ·rw [hg]at h';cases h'
         ·have h':Ai P t=false:=by simpa using h'
          rw [h']at q5;exact fun cs=>(q5.1 cs)
       ·rcases Ep with h'|⟨h1,h'⟩
        ·rw [hg]at h';cases h'
        ·have h':Ai P t=false:=by simpa using h'
         rw [h']at q5;have Oe:P.cellsOf t=1:=by rcases Df with h2|h2;rw [h']at h2;cases h2;exact h2
         refine⟨by omega,by omega, ?_⟩;cases Ve:xe.den c.ρ<;>first|rfl|exact absurd Ve (q5.1 _)
      have DD:Ay (xs.set kv.toNat (yk.cj k (xe.den c.ρ) (Ai P el)))=setVs (Ay xs) (kv.toNat*sz+k) (xe.den c.ρ).cells:=
       SG xs _ _ yk k _ p2 E1 (by rw [o3];exact hle) hz
      have CY:=Cw.ir (t:=b) (b:=m) (w':=Cq c.w m (kv.toNat*sz+k) (a.eval y).cells.toList) (O:=if(d&&dx)=true then((c.ay (fz.map (·.1))).G b).O else []) JY (by rw [p8];simp) (by split;exact .inr rfl;exact .inl rfl) m1 m3
       (.row el sz g (.set c0 ix (.put (.idx c0 ix) k xe (Ai P el))) (d&&dx)) (by intros;simp) (fun Fg=>by
        have EO: ∀z∈n1++f++n3,(c.ay (fz.map (·.1))).ok z:=by
         intro z hz;simp only [Ag]at hz;rcases hz with(hz|hz)|hz
         ·exact e4 z (by rw [hN];simp [hz])
         ·exact q4 z hz
         ·exact e4 z (by rw [hN];simp [hz])
        have NV: ∀z∈n1++f++n3,z<c.w.heap.size:=s1.inb;refine⟨e1,e2,n1++f++n3,⟨xs.set kv.toNat (yk.cj k (xe.den c.ρ) (Ai P el)), ?_,fun z Vl=> ?_,p3, .inr ⟨m,cap,_, ?_,by simpa using p4,p5,m2, ?_, ?_, ?_, ?_⟩⟩,fun z hz=>Fg.ok z (NV z hz) (EO z hz),fun DQ=> ?_,fun DQ=> ?_⟩
        ·show AV.cg (c0.den c.ρ) (ix.den c.ρ) (((c0.den c.ρ).idx (ix.den c.ρ)).cj k (xe.den c.ρ) (Ai P el))=_;rw [p1',k3];simp only [AV.idx,G7,AV.cg]
        ·rcases List.mem_or_eq_of_mem_set Vl with Vl|rfl
         ·exact p2 z Vl
         ·rw [hz,MQ _ _ _ (by rw [o3,Ex];exact hle)];exact Ex
        ·rw [List.length_set];exact k2
        ·rw [List.size_toArray,MQ _ _ _ (by rw [Dn,C7];omega),Array.length_toList];exact p7
        ·simpa [Cx.eg]using p8
        ·simp only [List.length_set,List.toList_toArray];rw [MT _ _ _ _ (by rw [Dn];omega) (by rw [C7];omega)];intro u hu;unfold setVs at hu;simp only [Ag]at hu;rcases hu with(hu|hu)|hu
         ·exact p9 u (List.mem_of_mem_take hu)
         ·exact o2 u hu
         ·exact p9 u (List.mem_of_mem_drop hu)
        ·simp only [List.length_set,List.toList_toArray];rw [MT _ _ _ _ (by rw [Dn];omega) (by rw [C7];omega),DD];exact s1.frame fun z hz=>Es z (NV z hz) (EO z hz)
        ·obtain⟨z1,z2⟩:=Bh DQ;have hd:d=true:=by simp only [Ad]at DQ;exact DQ.1
         obtain⟨u1,u2⟩:=e5 hd;have QN:n1++f++n3=N:=by rw [hN,z1,z2]
         rw [QN];refine⟨u1.frame fun z hz=>Es z (p10.inb z hz) (e4 z hz), ?_⟩;simp only [Cx.eg,if_true,DQ];exact u2
        ·simp [Cx.eg,DQ])
      intro next Q hk
      unfold Oper.wp;have hr:(execOp a.eval o).run P c.w= .ok .skip (Cq c.w m (kv.toNat*sz+k) (a.eval y).cells.toList):=by have:=VY (P:=P) (t:=t) (v:=a.eval y) (off:=kv.toNat*sz+k) p6' AZ o4 (by rw [o4,p7];omega) o2;simp [execOp,ho,hv,this]
      rw [hr,Oper.upon_skip];refine hk _ ((c.ay (fz.map (·.1))).eg (Cq c.w m (kv.toNat*sz+k) (a.eval y).cells.toList) b (if(d&&dx)=true then((c.ay (fz.map (·.1))).G b).O else [])) ⟨rfl,rfl,rfl,rfl,fun t ht=> .inl ht⟩ ?_;have:=CY.put (v:=Go.undef) ((SR.undef .nil).mkGd []) o.dst;rw [LJ];exact this
   ·cases he
  ·cases he
 all_goals (rename_i hl;obtain⟨_,_,_,_,_,Bi⟩:=Bg;first|(rw [Bi]at hl;cases hl;done)|exact absurd Bi (hl _ _ _ _ _)|cases he)
end
def Iu (a:Act) (o:Oper):Bool:=match o.op with| .binOp _ _ x _ _=>(match a.eval x with| .slice none _ _=>true|_=>false)|_=>false
section
variable (P:Program) (sg:Bo) (Rt:Nat→List AV→AV→Prop)
def L8:Prop:= ∀(c:Cx) (n nx:Nat) (sl:Nat→SV) (hp:Nat→Option Af) (a:Act) (sl0:Nat→SV) (hp0:Nat→Option Af) (o:Oper) (gs:Gd) (e:AK) (nv:Nat),A1 P c n nx sl hp a sl0 hp0 o gs→ ¬c.U (nx+999)→Jr P sg sl0 hp0 nv nx gs o=some e→
 (∀q∈e.bc,q.den c.ρ)→(∀cl,e.call=some cl→ ∃r,c.ρ[nv]?=some r∧GN Rt cl.fn ((EL.of cl.args).den c.ρ) c.ρ r)→(∀x,e.a8=some x→c.ρ[nv]?=some (.bool (Iu a o)))→Ar P o c n nx sl hp gs a e
def Qw:Prop:= ∀(c:Cx) (n nx:Nat) (sl:Nat→SV) (hp:Nat→Option Af) (a:Act) (sl0:Nat→SV) (hp0:Nat→Option Af) (o:Oper) (gs:Gd) (e:AK) (nv:Nat) (x:E),A1 P c n nx sl hp a sl0 hp0 o gs→Jr P sg sl0 hp0 nv nx gs o=some e→e.a8=some x→Iu a o=true→x.den c.ρ= .sl []
end
theorem aG {hp:Nat→Option Af} (l:List (Nat × Af)) (t:Nat):(AR hp l t=hp t∧ ∀e,(t,e)∉l)∨ ∃e,(t,e)∈l∧AR hp l t=some e:=by
 induction l generalizing hp with
 |nil=>exact .inl ⟨rfl,by simp⟩
 |cons p l ih=>
  obtain⟨u,f⟩:=p;rcases ih (hp:=fun v=>if v=u then some f else hp v)with⟨h1,h2⟩|⟨e,h1,h2⟩
  ·by_cases ht:t=u
   ·subst ht;refine .inr ⟨f,by simp, ?_⟩;have:AR hp ((t,f)::l) t=AR (fun v=>if v=t then some f else hp v) l t:=rfl;rw [this,h1];simp
   ·refine .inl ⟨?_,fun e he=> ?_⟩
    ·have:AR hp ((u,f)::l) t=AR (fun v=>if v=u then some f else hp v) l t:=rfl;rw [this,h1,if_neg ht]
    ·rcases Ae.1 he with he|he
     ·cases he;exact ht rfl
     ·exact h2 e he
  ·exact .inr ⟨e,by simp [h1],h2⟩
section
variable {P:Program} {sg:Bo} {Rt:Nat→List AV→AV→Prop} {c:Cx} {n nx:Nat} {sl:Nat→SV} {hp:Nat→Option Af} {a:Act} {ops:Array Oper} {o:Oper} {gs:Gd} {e:AK}
theorem Rel.skip (h:Rel c n sl hp a) (hg: ¬AU c.ρ gs) {l:List (Nat × Af)} (hl: ∀t x,(t,x)∈l→nx≤t∧t<nx+Bf∧ ∃hs y,x= .gd hs y∧Ju gs hs=true) (AO: ∀t,nx≤t→t<nx+Bf→ ¬c.U t) (s:SV) (d:Option Nat):
  Rel {c with U:=fun t=>c.U t∨(nx≤t∧t<nx+Bf)} n (B6 n sl d (mkGd gs s)) (AR hp l) (a.put d undef):=by
 have hs:SR {c with U:=fun t=>c.U t∨(nx≤t∧t<nx+Bf)} [mkGd gs s] [undef]:=by
  cases gs with
  |nil=>exact absurd (DS _) hg
  |cons g gs=>exact .gd (fun hh=>absurd hh hg) (fun _=>rfl) .nil
 refine Rel.put ?_ hs d;refine h.change (fun t=> ∃x,(t,x)∈l) ⟨rfl,rfl,fun _ _ hb=>hb,fun _ _ _=>rfl,fun _ _ hk=>⟨hk,rfl⟩,fun _ _ _=>⟨Nat.le_refl _,fun _=>⟨rfl,fun _ _ _=>rfl⟩⟩⟩ ⟨h.base.os,h.base.tape,h.base.output,h.base.size,fun t v hp=>⟨.inl (h.base.pins t v hp).1,(h.base.pins t v hp).2⟩,h.base.block,h.base.pk,h.base.lo⟩ (fun t ht=> ?_) (fun _ _ _ _=>rfl) (fun t ht=> ?_) ⟨h.gw.nodup,h.gw.bq,h.gw.allow,h.gw.inb⟩ (fun t g hk=> .inl (h.a7 t g hk)) (fun t x hx=> ?_)
 ·exact⟨Jd fun x hx=>ht ⟨x,hx⟩,rfl,rfl,fun g hk=>hk⟩
 ·obtain⟨x,hx⟩:=ht;rcases aG (hp:=hp) l t with⟨_,h2⟩|⟨x',h1,h2⟩
  ·exact absurd hx (h2 x)
  ·obtain⟨q1,q2,hs,y,rfl,Bl⟩:=hl t x' h1;have DH: ∀e',¬BS c.ρ (AR hp l t) e':=by
    rw [h2];exact fun e' hr=>hg (SS Bl hr.1)
   refine⟨fun e' hr=>absurd hr (DH e'),fun _=>h.off t fun e' hr=> ?_⟩;cases hh:hp t with
   |none=>rw [hh]at hr;exact hr.elim
   |some e9=>exact AO t q1 q2 (h.br t e9 hh)
 ·rcases aG (hp:=hp) l t with⟨h1,_⟩|⟨x',h1,_⟩
  ·rw [h1]at hx;exact .inl (h.br t x hx)
  ·obtain⟨q1,q2,_⟩:=hl t x' h1;exact .inr ⟨q1,q2⟩
def QI (ρ:List AV) (ops:Array Oper) (o:Oper) (a:Act):Option Gd→Prop
 |none=>Region.wanted o (yielded ops a.tmps)=false
 |some gs=>(AU ρ gs→Region.wanted o (yielded ops a.tmps)=true)∧(¬AU ρ gs→Region.wanted o (yielded ops a.tmps)=false)
theorem WL {σ:St} {r:Option Gd} (hg:LI σ ops o=some r) (hs: ∀j want d,o.guard=some (j,want)→(ops[j]?).bind (·.dst)=some d→SR c [Bb σ d] [a.tmps.getD d undef]):QI c.ρ ops o a r:=by
 unfold LI at hg;cases FH:o.guard with
 |none=>rw [FH]at hg;simp only [Ac]at hg;subst hg;exact⟨fun _=>by simp [Region.wanted,FH],fun hn=>absurd (DS _) hn⟩
 |some jw=>
  obtain⟨j,want⟩:=jw;rw [FH]at hg;simp only at hg;cases hd:(ops[j]?).bind (·.dst)with
  |none=>rw [hd]at hg;simp only [Ac]at hg;subst hg;simp [QI,Region.wanted,FH,yielded,hd]
  |some d=>
   rw [hd]at hg;simp only at hg;have hr:=hs j want d FH hd;have hw: ∀v,a.tmps.getD d undef=v→Region.wanted o (yielded ops a.tmps)=(match v with| .bool b=>b==want|_=>false):=by
    intro v hv;simp only [Region.wanted,FH,yielded,hd,Ab];rw [Array.getD_eq_getD_getElem?]at hv;cases hq:a.tmps[d]? with
    |none=>rw [hq]at hv;simp at hv;subst hv;simp [undef]
    |some u=>rw [hq]at hv;simp at hv;subst hv;cases u<;>simp
   generalize a.tmps.getD d undef=v at hr hw;have hw:=hw v rfl;have I3:v=undef→Region.wanted o (yielded ops a.tmps)=false:=by rintro rfl;rw [hw];simp [undef]
   have Gb: ∀x f,Rd c.w [v] [x] f→(x= .bool want→Region.wanted o (yielded ops a.tmps)=true)∧(x≠ .bool want→Region.wanted o (yielded ops a.tmps)=false):=by
    intro x f hx;refine⟨fun h=> ?_,fun h=> ?_⟩
    ·rw [hw,GK hx h];simp
    ·rw [hw];cases v<;>simp only;rename_i b;cases hx with
     |bool _=>simpa using fun hh=>h (by rw [hh])
   split at hg
   ·rename_i b B7;rw [B7]at hr;cases hr with
    |e h1 _ _=>
     simp only [Ac]at hg;subst hg;obtain⟨q1,q2⟩:=Gb _ _ h1;simp only [E.den,AV.bool.injEq]at q1 q2;split
     ·rename_i hb;simp only [beq_iff_eq]at hb;exact⟨fun _=>q1 hb,fun hn=>absurd (DS _) hn⟩
     ·rename_i hb;simp only [beq_iff_eq]at hb;exact q2 (by simpa using hb)
   ·rename_i x _ B7;rw [B7]at hr;cases hr with
    |e h1 _ _=>simp only [Ac]at hg;subst hg;obtain⟨q1,q2⟩:=Gb _ _ h1;exact⟨fun hh=>q1 (hh (x,want) (by simp)),fun hn=>q2 fun hh=>hn (by intro g hg;simp at hg;subst hg;exact hh)⟩
   ·rename_i AT s B7;rw [B7]at hr;cases hr with
    |gd h1 h2 _=>
     split at hg
     ·rename_i hf;simp only [Ac]at hg;subst hg;refine I3 (h2 fun hk=> ?_);simp only [dS,List.any_eq_true]at hf;obtain⟨g,hg,Uf⟩:=hf;have:=hk g hg;split at Uf
      ·rename_i b hb;rw [hb]at this;simp only [E.den,AV.bool.injEq]at this;simp [this]at Uf
      ·cases Uf
     ·split at hg
      ·rename_i b;simp only [Ac]at hg;subst hg;by_cases hk:AU c.ρ AT
       ·have h1:=h1 hk;cases h1 with
        |e h1 _ _=>
         obtain⟨q1,q2⟩:=Gb _ _ h1;simp only [E.den,AV.bool.injEq]at q1 q2;split
         ·rename_i hb;simp only [beq_iff_eq]at hb;exact⟨fun _=>q1 hb,fun hn=>absurd hk hn⟩
         ·rename_i hb;simp only [beq_iff_eq]at hb;exact q2 (by simpa using hb)
       ·split
        ·exact⟨fun hh=>absurd hh hk,fun _=>I3 (h2 hk)⟩
        ·exact I3 (h2 hk)
      ·rename_i x _;simp only [Ac]at hg;subst hg;by_cases hk:AU c.ρ AT
       ·have h1:=h1 hk;cases h1 with
        |e h1 _ _=>obtain⟨q1,q2⟩:=Gb _ _ h1;exact⟨fun hh=>q1 (hh (x,want) (by simp)),fun hn=>q2 fun hh=>hn (by intro g hg;rcases Ae.1 hg with rfl|hg;exact hh;exact hk g hg)⟩
       ·exact⟨fun hh=>absurd (fun g hg=>hh g (by simp [hg])) hk,fun _=>I3 (h2 hk)⟩
      ·cases hg
   ·cases hg
theorem eH (Az:L8 P sg Rt) {Q:Exit→Act→World→Prop} {K:Act→World→Prop} {i nv:Nat} (hi:ops[i]?=some o) (Aj:Rel c n sl hp a) {sl0:Nat→SV} {hp0:Nat→Option Af} (CA:QI c.ρ ops o a (some gs))
  (B7: ∀t,Operand.tmp t∈o.op.operands→sl0 t=sl t) (iZ: ∀t e,hp0 t=some e→hp t=some e) (AO: ∀t,nx≤t→t<nx+Bf→ ¬c.U t)
  (he:Jr P sg sl0 hp0 nv nx gs o=some e) (A3:gs≠ []→ ∀t x,(t,x)∈e.aw→nx≤t∧t<nx+Bf∧ ∃hs y,x= .gd hs y∧Ju gs hs=true)
  (hc:AU c.ρ gs→ ∀q∈e.bc,q.den c.ρ) (AS: ∀cl,e.call=some cl→ ∃r,c.ρ[nv]?=some r∧(AU c.ρ gs→GN Rt cl.fn ((EL.of cl.args).den c.ρ) c.ρ r)) (Ce: ∀x,e.a8=some x→AU c.ρ gs→c.ρ[nv]?=some (.bool (Iu a o)))
  (hK: ∀a' c',Kv c c' nx→Rel c' n (B6 n sl o.dst (mkGd gs e.val)) (AR hp e.aw) a'→K a' c'.w):wpOp P ops Q i K a c.w:=by
 unfold wpOp;simp only [hi];by_cases hg:AU c.ρ gs
 ·rw [if_pos (CA.1 hg)];exact .inl (Az c n nx sl hp a sl0 hp0 o gs e nv ⟨Aj,hg,B7,iZ,fun t h1 h2=>AO t h1 (by simp only [Bf];omega)⟩ (AO _ (by omega) (by simp [Bf])) he (hc hg) (fun cl Aw=>by obtain⟨r,h1,h2⟩:=AS cl Aw;exact⟨r,h1,h2 hg⟩) (fun x hx=>Ce x hx hg) _ _ hK)
 ·rw [if_neg (by rw [CA.2 hg];simp)];have A8:gs≠ []:=by rintro rfl;exact hg (DS _)
  exact hK _ {c with U:=fun t=>c.U t∨(nx≤t∧t<nx+Bf)} ⟨rfl,rfl,rfl,rfl,fun t ht=>ht⟩ (Aj.skip hg (A3 A8) AO e.val o.dst)
end
def Cx.ext (c:Cx) (τ:List AV):Cx:={c with ρ:=c.ρ++τ}
theorem den_app {ρ τ:List AV} {x:E} (h:x.sc ρ.length=true):x.den (ρ++τ)=x.den ρ:=by have:=E.ah ρ τ [] x h;rw [List.append_nil]at this;exact this
theorem tJ {ρ τ:List AV} {x:EL} (h:x.sc ρ.length=true):x.den (ρ++τ)=x.den ρ:=by have:=EL.ah ρ τ [] x h;rw [List.append_nil]at this;exact this
theorem Jb {ρ τ:List AV} {gs:Gd} (h:QG ρ.length gs=true):AU (ρ++τ) gs↔AU ρ gs:=by simp only [QG,AJ]at h;exact⟨fun k g hg=>by rw [←den_app (τ:=τ) (h g hg)];exact k g hg,fun k g hg=>by rw [den_app (h g hg)];exact k g hg⟩
theorem A6.eu {n:Nat}: ∀{cs:A6},cs.sc n=true→ ∀s∈cs.toList,s.sc n=true
 | .nil,_,s,h=>by simp [A6.toList]at h
 | .cons s cs,h,u,hu=>by
  simp only [A6.sc,Ad]at h;simp only [A6.toList,Ae]at hu;rcases hu with rfl|hu
  ·exact h.1
  ·exact A6.eu h.2 u hu
section
variable {c:Cx} {n:Nat} {sl:Nat→SV} {hp:Nat→Option Af} {a:Act} {τ:List AV}
theorem GV.ext {t g:Nat} {p:KB} {v:Value} (hs:(match p with|some q=>q.1.sc c.ρ.length|none=>true)=true) (h:GV c t g p v):GV (c.ext τ) t g p v:=by
 cases p with
 |none=>exact trivial
 |some p=>obtain⟨i,z,o⟩:=p;obtain⟨b,n,cap,C,ty,fz,kk,k,h1,h2,h3,h4,h5⟩:=h;exact⟨b,n,cap,C,ty,fz,kk,k,h1,h2,h3,by show i.den (c.ρ++τ)=_;rw [den_app hs];exact h4,h5⟩
theorem SR.ext {ss:List SV} {vs:List Value} (h:SR c ss vs):(∀s∈ss,s.sc c.ρ.length=true)→SR (c.ext τ) ss vs:=by
 have tl: ∀{s:SV} {ss:List SV},(∀x∈s::ss,x.sc c.ρ.length=true)→ ∀x∈ss,x.sc c.ρ.length=true:=fun h x hx=>h x (by simp [hx]);have hd: ∀{s:SV} {ss:List SV},(∀x∈s::ss,x.sc c.ρ.length=true)→s.sc c.ρ.length=true:=fun h=>h _ (by simp);have hρ:(c.ext τ).ρ=c.ρ++τ:=rfl
 induction h with
 |nil=>exact fun _=> .nil
 |undef _ ih=>exact fun hs=> .undef (ih (tl hs))
 |e h1 h2 _ ih=>exact fun hs=> .e (by rw [hρ,den_app (hd hs)];exact h1) h2 (ih (tl hs))
 |bb _ ih=>exact fun hs=> .bb (ih (tl hs))
 |emp _ ih=>exact fun hs=> .emp (ih (tl hs))
 |own h1 h2 _ ih=>exact fun hs=> .own h1 h2 (ih (tl hs))
 |bg h1 h2 _ ih=>exact fun hs=> .bg h1 h2 (ih (tl hs))
 |bt h1 h2 h3 h4 h5 _ ih=>exact fun hs=> .bt h1 h2 (by rw [hρ,den_app (hd hs)];exact h3) h4 h5 (ih (tl hs))
 |cu h1 h2 h3 h4 h5 h6 _ ih=>intro hs;have:=hd hs;simp only [SV.sc,Ad]at this;exact .cu (by rw [hρ,den_app this.1];exact h1) h2 (by rw [hρ,den_app this.2];exact h3) h4 h5 (by rw [hρ,den_app this.1];exact h6) (ih (tl hs))
 |cq h1 h2 _ ih=>exact fun hs=> .cq (by rw [hρ,den_app (hd hs)];exact h1) h2 (ih (tl hs))
 |agg h9 _ _ ih1 ih2=>exact fun hs=> .agg h9 (ih1 (A6.eu (hd hs))) (ih2 (tl hs))
 |tup _ _ ih1 ih2=>exact fun hs=> .tup (ih1 (A6.eu (hd hs))) (ih2 (tl hs))
 |fn _ _ ih1 ih2=>exact fun hs=> .fn (ih1 (A6.eu (hd hs))) (ih2 (tl hs))
 |gd _ h2 _ ih1 ih2=>intro hs;have:=hd hs;simp only [SV.sc,Ad]at this;exact .gd (fun hg=>ih1 ((Jb this.1).1 hg) (by simpa using this.2)) (fun hg=>h2 fun k=>hg ((Jb this.1).2 k)) (ih2 (tl hs))
 | @via t g n p x v ss vs h1 h2 h3 _ ih=>intro hs;have:=hd hs;simp only [SV.sc,Ad]at this;refine .via h1 h2 (fun he=> ?_) (ih (tl hs));obtain⟨q1,q2⟩:=h3 he;exact⟨by rw [hρ,den_app this.2];exact q1,GV.ext (τ:=τ) this.1 q2⟩
 | @vptr t g n p x i sz o v ss vs h1 h2 h3 _ ih=>intro hs;have:=hd hs;simp only [SV.sc,Ad]at this;refine .vptr h1 h2 (fun he=> ?_) (ih (tl hs));obtain⟨b,off,len,cap,kk,k,q1,q2,q3,q4,q5,q6,q7⟩:=h3 he;exact⟨b,off,len,cap,kk,k,by rw [hρ,den_app this.1.2];exact q1,GV.ext (τ:=τ) this.1.1 q2,by rw [hρ,den_app this.2];exact q3,q4,q5,by rw [hρ,den_app this.1.2];exact q6,q7⟩
 |wown h1 h2 h3 h4 h5 h6 _ ih=>exact fun hs=> .wown h1 h2 (by rw [hρ,den_app (hd hs)];exact h3) h4 h5 h6 (ih (tl hs))
 | @lent i _ _ _ h1 _ ih=>exact fun hs=> .lent (by rw [hρ,den_app (x:= .var i) (by simpa [SV.sc,E.sc]using hd hs)];exact h1) (ih (tl hs))
theorem Cu.ext {t:Nat} {e:Af} (h:Cu c t e) (hs:e.sc c.ρ.length=true):Cu (c.ext τ) t e:=by
 have hρ:(c.ext τ).ρ=c.ρ++τ:=rfl;cases e with
 |box ty g cs=>obtain⟨b,C,h1,h2,h3,h4,h5,h6,h7⟩:=h;exact⟨b,C,h1,h2,h3,h4,h5,h6,h7.ext (by simpa [Af.sc]using hs)⟩
 |row ety sz g x d=>obtain⟨h1,h2,N,h3,h4,h5⟩:=h;exact⟨h1,h2,N,by rw [hρ,den_app hs];exact h3,h4,h5⟩
 |ay g x=>obtain⟨h1,⟨f,h2,h3⟩,h4⟩:=h;exact⟨h1,⟨f,by rw [hρ,den_app hs];exact h2,h3⟩,h4⟩
 |gd gs e=>exact h
 |dead=>exact h
 |deep e z l g ep x=>obtain⟨h1,h2,h3,h4,h5⟩:=h;exact⟨h1,h2,h3,by rw [hρ,den_app hs];exact h4,h5⟩
 |hol e z l g ep x i o u=>simp only [Af.sc,Ad]at hs;obtain⟨h1,h2,h3,h4,h5⟩:=h;exact⟨h1,h2,h3,by rw [hρ,den_app hs.1,den_app hs.2];exact h4,h5⟩
theorem u7 {ρ:List AV} {e0 e:Af} (hs:e0.sc ρ.length=true):BS (ρ++τ) (some e0) e↔BS ρ (some e0) e:=by
 cases e0 with
 |gd gs x=>simp only [Af.sc,Ad]at hs;simp only [BS];rw [Jb hs.1]
 |_=>simp [BS]
theorem Rel.ext (h:Rel c n sl hp a) (h1: ∀i,(sl i).sc c.ρ.length=true) (h2: ∀t e,hp t=some e→e.sc c.ρ.length=true) (τ:List AV):Rel (c.ext τ) n sl hp a:=by
 have key: ∀t e,BS (c.ρ++τ) (hp t) e↔BS c.ρ (hp t) e:=by
  intro t e;cases hh:hp t with
  |none=>exact Iff.rfl
  |some e0=>exact u7 (h2 t e0 hh)
 refine⟨h.defers,h.size,⟨h.base.os,h.base.tape,h.base.output,h.base.size,h.base.pins,h.base.block,h.base.pk,h.base.lo⟩,fun i=>(h.ca i).ext (by simpa using h1 i),fun t e hr=> ?_,fun t hn=>h.off t fun e hr=>hn e ((key t e).2 hr),⟨h.gw.nodup,h.gw.bq,h.gw.allow,h.gw.inb⟩,h.a7,h.br⟩;have CC:=(key t e).1 hr;have he:=h.ents t e CC;cases hh:hp t with
 |none=>rw [hh]at CC;exact CC.elim
 |some e0=>
  have D4:=h2 t e0 hh;rw [hh]at CC;cases e0 with
  |gd gs x=>
   obtain⟨_,rfl⟩:=CC;simp only [Af.sc,Ad]at D4;cases x with
   |gd=>exact he
   |dead=>exact he
   |box=>exact he.ext (by simpa [Af.sc]using D4.2)
   |row=>exact he.ext (by simpa [Af.sc]using D4.2)
   |ay=>exact he.ext (by simpa [Af.sc]using D4.2)
   |deep=>exact he.ext (by simpa [Af.sc]using D4.2)
   |hol=>exact he.ext (by simpa [Af.sc]using D4.2)
  |_=>simp only [BS]at CC;subst CC;exact he.ext D4
theorem St.j3 {σ:St} (h:σ.sc=true) (i:Nat):(Bb σ i).sc σ.nv=true:=by
 simp only [St.sc,Ad,AJ]at h;unfold Bb;cases hi:σ.sl[i]? with
 |none=>simp [SV.sc]
 |some s=>exact h.1 s (List.mem_of_getElem? hi)
theorem St.jt {σ:St} (h:σ.sc=true) (t:Nat) (e:Af) (he:Av σ.hp t=some e):e.sc σ.nv=true:=by simp only [St.sc,Ad,AJ]at h;exact h.2 _ (Hc he)
theorem Cn.im {ρ τ:List AV} {q:Cn} (h:q.sc ρ.length=true):q.den (ρ++τ)↔q.den ρ:=by
 cases q<;>simp only [Cn.sc,Ad]at h<;>simp only [Cn.den]
 case dfd=>rw [den_app h]
 case agg=>rw [den_app h]
 case cells=>rw [den_app h]
 case inb=>rw [den_app h.1,den_app h.2]
 case inbS=>rw [den_app h.1,den_app h.2]
 case win=>rw [den_app h.1.1,den_app h.1.2,den_app h.2]
 case winS=>rw [den_app h.1.1,den_app h.1.2,den_app h.2]
 case room=>rw [den_app h.1,den_app h.2]
 case roomS=>rw [den_app h.1,den_app h.2]
 case mkroom=>rw [den_app h]
 case nz=>rw [den_app h]
 case nn=>rw [den_app h]
 case isref=>rw [den_app h]
 case issl=>rw [den_app h]
 case flat=>rw [den_app h]
 case flatS=>rw [den_app h]
 case kinds=>rw [den_app h]
theorem Xp:SR c [FY] [Go.undef]:= .gd (fun hg=>by have:=hg (.bool false,true) (by simp);simp [E.den]at this) (fun _=>rfl) .nil
theorem aT {ρ:List AV} {x:E} {b:Bool} {hs:Gd} (hx:x.den ρ= .bool b) (h:LZ (x, !b) hs=true): ¬AU ρ hs:=by intro k;have:=cM h k;simp only at this;rw [hx]at this;simp at this
theorem V9 {ρ:List AV} {x:E} {b:Bool} {hs:Gd} (hx:x.den ρ= .bool b):AU ρ (hs.filter fun h=> !(h.1.beq x&&h.2==b))↔AU ρ hs:=by
 refine⟨fun k g hg=> ?_,fun k g hg=>k g (List.mem_filter.1 hg).1⟩;by_cases hh:(g.1.beq x&&g.2==b)=true
 ·simp only [Ad,beq_iff_eq]at hh;rw [E.af ρ _ _ hh.1,hx,hh.2]
 ·exact k g (List.mem_filter.2 ⟨hg,by rw [Bool.not_eq_true]at hh;rw [hh];rfl⟩)
theorem SR.iw {s:SV} {v:Value} {gs:Gd} (h1:AU c.ρ gs→SR c [s] [v]) (h2: ¬AU c.ρ gs→v=Go.undef):SR c [Go.Proofs.YtollgpkegmbpmaaGreatDoor.mkGd gs s] [v]:=by
 cases gs with
 |nil=>exact h1 (DS _)
 |cons g gs=>exact .gd h1 h2 .nil
theorem SR.ek {x:E} {b:Bool} (hx:x.den c.ρ= .bool b) {s:SV} {v:Value} (h:SR c [s] [v]):SR c [assumeS x b s] [v]:=by
 cases s with
 |gd hs s=>
  simp only [Go.Proofs.YtollgpkegmbpmaaGreatDoor.assumeS];cases h with
  |gd h1 h2 _=>
   split
   ·rename_i hm;rw [h2 (aT hx hm)];exact Xp
   ·exact SR.iw (fun k=>h1 ((V9 hx).1 k)) (fun k=>h2 fun k'=>k ((V9 hx).2 k'))
 |_=>exact h
theorem tG (f:Af→Af) (l:List (Nat × Af)) (t:Nat):Av (l.map fun(t,e)=>(t,f e)) t=(Av l t).map f:=by
 induction l with
 |nil=>rfl
 |cons p l ih=>
  obtain⟨u,e⟩:=p;simp only [List.map_cons,Av];split
  ·rfl
  ·exact ih
theorem Rel.ek {x:E} {b:Bool} (hx:x.den c.ρ= .bool b) (h:Rel c n sl hp a):Rel c n (fun i=>assumeS x b (sl i)) (fun t=>(hp t).map (assumeE x b)) a:=by
 have JU: ∀t,(∀e,BS c.ρ (hp t) e→ ∃gs y,e= .gd gs y∨e= .dead)→(c.G t).top= []∧(c.G t).O= []:=by
  intro t ht;by_cases hh: ∃e,BS c.ρ (hp t) e
  ·obtain⟨e,he⟩:=hh;obtain⟨gs,y,rfl|rfl⟩:=ht e he
   ·exact h.ents t _ he
   ·exact h.ents t _ he
  ·exact h.off t fun e he=>hh ⟨e,he⟩
 have cases': ∀t,((∀e,BS c.ρ ((hp t).map (assumeE x b)) e↔BS c.ρ (hp t) e))∨((hp t).map (assumeE x b)=some .dead∧(c.G t).top= []∧(c.G t).O= []):=by
  intro t;cases hh:hp t with
  |none=>exact .inl fun e=>Iff.rfl
  |some e0=>
   cases e0 with
   |gd hs y=>
    by_cases hm:LZ (x, !b) hs=true
    ·refine .inr ⟨by simp [Go.Proofs.YtollgpkegmbpmaaGreatDoor.assumeE,hm],JU t fun e he=> ?_⟩;rw [hh]at he;exact absurd he.1 (aT hx hm)
    ·by_cases hy: ∃gs z,y= .gd gs z
     ·obtain⟨gs,z,rfl⟩:=hy;refine .inr ⟨by simp [Go.Proofs.YtollgpkegmbpmaaGreatDoor.assumeE,hm],JU t fun e he=> ?_⟩;rw [hh]at he;exact⟨gs,z, .inl he.2.symm⟩
     ·refine .inl fun e=> ?_;have he:assumeE x b (.gd hs y)=Cg (hs.filter fun h=> !(h.1.beq x&&h.2==b)) y:=by
       simp only [Go.Proofs.YtollgpkegmbpmaaGreatDoor.assumeE,hm,AY,if_false];cases y<;>first|rfl|exact absurd ⟨_,_,rfl⟩ hy
      simp only [Option.map_some,he];show _↔AU c.ρ hs∧y=e;rw [←V9 hx];generalize (hs.filter fun h=> !(h.1.beq x&&h.2==b))=fs;cases fs with
      |nil=>simp only [Cg,DS,true_and];cases y<;>first|exact absurd ⟨_,_,rfl⟩ hy|exact Iff.rfl
      |cons g fs=>exact Iff.rfl
   |_=>exact .inl fun e=>Iff.rfl
 refine⟨h.defers,h.size,h.base,fun i=>(h.ca i).ek hx,fun t e hr=> ?_,fun t hn=> ?_,h.gw,h.a7,fun t e he=> ?_⟩
 ·rcases cases' t with hc|⟨hc,h1,h2⟩
  ·exact h.ents t e ((hc e).1 hr)
  ·rw [hc]at hr;have:Af.dead=e:=hr;subst this;exact⟨h1,h2⟩
 ·rcases cases' t with hc|⟨hc,h1,h2⟩
  ·exact h.off t fun e he=>hn e ((hc e).2 he)
  ·exact⟨h1,h2⟩
 ·cases hh:hp t with
  |none=>rw [hh]at he;cases he
  |some e0=>exact h.br t e0 hh
end
theorem Wl {σ:St} {d:Option Nat} {s:SV}:Bb (Gn σ d s)=B6 σ.sl.length (Bb σ) d s:=by
 funext i;cases d with
 |none=>simp [Gn,B6]
 |some d=>
  simp only [Gn,Bb,B6,Ac,List.getElem?_set];by_cases h:d=i
  ·subst h;by_cases h2:d<σ.sl.length
   ·simp [h2]
   ·simp [h2,List.getElem?_eq_none (Nat.le_of_not_lt h2)]
  ·simp [h]
theorem V0 {σ:St} {d:Option Nat} {s:SV}:(Gn σ d s).sl.length=σ.sl.length:=by cases d<;>simp [Gn]
theorem We {σ:St} {d:Option Nat} {s:SV}:(Gn σ d s).hp=σ.hp:=by cases d<;>rfl
theorem Wo {σ:St} {d:Option Nat} {s:SV}:(Gn σ d s).nv=σ.nv:=by cases d<;>rfl
theorem rM (l:List (Nat × Af)) (t:Nat) (e:Af) (u:Nat):Av (Jy l t e) u=if u=t then some e else Av l u:=by
 induction l with
 |nil=>
  simp only [Jy,Av];by_cases h:t=u
  ·simp [h]
  ·rw [if_neg h,if_neg (Ne.symm h)]
 |cons p l ih=>
  obtain⟨v,f⟩:=p;simp only [Jy];split
  ·rename_i hv;subst hv;simp only [Av];by_cases h:v=u
   ·simp [h]
   ·rw [if_neg h,if_neg (Ne.symm h),if_neg h]
  ·rename_i hv;simp only [Av];by_cases h:v=u
   ·subst h;rw [if_pos rfl,if_neg hv,if_pos rfl]
   ·rw [if_neg h,ih,if_neg h]
theorem aD: ∀(ents:List (Nat × Af)) (l:List (Nat × Af)),Av (ents.foldl (fun l (p:Nat × Af)=>Jy l p.1 p.2) l)=AR (Av l) ents
 | [],l=>rfl
 |(t,e)::ents,l=>by
  simp only [List.foldl_cons];rw [aD ents];have:Av (Jy l t e)=fun u=>if u=t then some e else Av l u:=by funext u;exact rM l t e u
  rw [this];rfl
section
variable {P:Program} {sg:Bo} {Rt:Nat→List AV→AV→Prop} {ops:Array Oper}
theorem cP {σ:St} {gs:Gd} {o:Oper} {e:AK}:Bb (Jc σ gs o e)=B6 σ.sl.length (Bb σ) o.dst (mkGd gs e.val):=by rw [←Wl];rfl
theorem cV {σ:St} {gs:Gd} {o:Oper} {e:AK}:Av (Jc σ gs o e).hp=AR (Av σ.hp) e.aw:=by
 have:(Jc σ gs o e).hp=e.aw.foldl (fun l (p:Nat × Af)=>Jy l p.1 p.2) σ.hp:=by show e.aw.foldl (fun l (p:Nat × Af)=>Jy l p.1 p.2) (Gn σ o.dst (mkGd gs e.val)).hp=_;rw [We]
 rw [this,aD]
theorem bA {σ:St} {gs:Gd} {o:Oper} {e:AK}:(Jc σ gs o e).sl.length=σ.sl.length:=by show(Gn σ o.dst (mkGd gs e.val)).sl.length=_;rw [V0]
theorem WW {σ:St} {gs:Gd} {o:Oper} {e:AK}:(Jc σ gs o e).nv=if e.call.isSome||e.a8.isSome then σ.nv+1 else σ.nv:=by show(if e.call.isSome||e.a8.isSome then(Gn σ o.dst (mkGd gs e.val)).nv+1 else(Gn σ o.dst (mkGd gs e.val)).nv)=_;rw [Wo]
theorem W4 {R:AV→Prop} {gs:Gd} {k:Tr} {L:LK} {js:List JK} {ρ:List AV}: ∀{cs:List Cn},(cs.foldr (fun c k=> .bc gs c k) k:Tr).den Rt R L js ρ→(AU ρ gs→ ∀q∈cs,q.den ρ)∧k.den Rt R L js ρ
 | [],h=>⟨by simp,h⟩
 |c::cs,h=>by
  obtain⟨h1,h2⟩:=h;obtain⟨h3,h4⟩:=W4 h2;refine⟨fun hg q hq=> ?_,h4⟩;rcases Ae.1 hq with rfl|hq
  ·exact h1 hg
  ·exact h3 hg q hq
theorem cL {l:List (Nat × Af)} {R:List Nat} {t:Nat} {e:Af} (h:NJ l R t=some e):Av l t=some e:=by
 unfold NJ at h;split at h
 ·exact h
 ·cases h
theorem Z9 {f:Nat ⊕ E} {as_:EL} {ρ τ:List AV} {r:AV} (h1:(match f with| .inl _=>true| .inr x=>x.sc ρ.length)=true) (h2:as_.sc ρ.length=true):GN Rt f (as_.den (ρ++τ)) (ρ++τ) r↔GN Rt f (as_.den ρ) ρ r:=by
 rw [tJ h2];cases f with
 |inl f=>exact Iff.rfl
 |inr x=>simp only [GN];rw [den_app h1]
theorem EL.ja {n:Nat}: ∀{l:List E},l.all (E.sc n)=true→(EL.of l).sc n=true
 | [],_=>rfl
 |x::l,h=>by simp only [List.all_cons,Ad]at h;simp only [EL.of,EL.sc,Ad];exact⟨h.1,EL.ja h.2⟩
structure Hk (F:Fix) (c:Cx) (σ:St) (a:Act) (n m:Nat):Prop where
 w0:c.w0=F.w0
 A:c.A=F.A
 Mu:c.Mu=F.Mu
 nv:c.ρ.length=σ.nv
 len:σ.sl.length=n
 U: ∀t,c.U t→t<m
 rel:Rel c n (Bb σ) (Av σ.hp) a
theorem Hk.ext {F:Fix} {c:Cx} {σ:St} {a:Act} {n m:Nat} (h:Hk F c σ a n m) (hs:σ.sc=true) (τ:List AV):Rel (c.ext τ) n (Bb σ) (Av σ.hp) a:=
 h.rel.ext (fun i=>by rw [h.nv];exact St.j3 hs i) (fun t e he=>by rw [h.nv];exact St.jt hs t e he) τ
theorem xN (Az:L8 P sg Rt) (E0:Qw P sg) {F:Fix} {c:Cx} {σ:St} {a:Act} {n i base:Nat} {o:Oper} {gs:Gd} {e:AK} {k:Tr} {R:AV→Prop} {L:LK} {js:List JK} {Q:Exit→Act→World→Prop} {K:Act→World→Prop}
  (hi:ops[i]?=some o) (hm:Hk F c σ a n (base+Bf*i)) (CA:QI c.ρ ops o a (some gs)) {Rs:List Nat} (he:Jr P sg (Bb σ) (NJ σ.hp Rs) σ.nv (base+Bf*i) gs o=some e) (D4:NA σ.nv (base+Bf*i) σ.hp gs e=true)
  (OP:(e.call.isSome||e.a8.isSome)=true→σ.sc=true) (hd:(SX gs e k).den Rt R L js c.ρ)
  (hK: ∀(c':Cx) (a':Act),c.ρ<+:c'.ρ→Hk F c' (Jc σ gs o e) a' n (base+Bf*(i+1))→k.den Rt R L js c'.ρ→K a' c'.w):wpOp P ops Q i K a c.w:=by
 simp only [NA,Ad,AJ]at D4;obtain⟨⟨⟨⟨Bj,AL⟩,E4⟩,YB⟩,U3⟩:=D4;have A3:gs≠ []→ ∀t x,(t,x)∈e.aw→base+Bf*i≤t∧t<base+Bf*i+Bf∧ ∃hs y,x= .gd hs y∧Ju gs hs=true:=by
  intro A8 t x hx;have:=U3 _ hx;have Of:gs.isEmpty=false:=by cases gs;exact absurd rfl A8;rfl
  simp only [Of,Bool.false_or,Bool.false_and,Bool.or_false,Ad,decide_eq_true_eq]at this;refine⟨this.1.1,this.1.2, ?_⟩;have h3:=this.2;split at h3
  ·exact⟨_,_,rfl,h3⟩
  ·cases h3
 have AO: ∀t,base+Bf*i≤t→t<base+Bf*i+Bf→ ¬c.U t:=fun t h1 _ h3=>by have:=hm.U t h3;omega
 have E6: ∀(τ:List AV),Rel (c.ext τ) n (Bb σ) (Av σ.hp) a→τ.length=(if e.call.isSome||e.a8.isSome then 1 else 0)→k.den Rt R L js (c.ρ++τ)→(AU c.ρ gs→ ∀q∈e.bc,q.den c.ρ)→
   (∀cl,e.call=some cl→ ∃r,τ= [r]∧(AU c.ρ gs→GN Rt cl.fn ((EL.of cl.args).den c.ρ) c.ρ r))→(∀x,e.a8=some x→τ= [.bool (Iu a o)])→wpOp P ops Q i K a c.w:=by
  intro τ Aj hτ hk hc AS Ce;have E2:σ.nv=c.ρ.length:=hm.nv.symm;rw [E2]at Bj AL E4;have Om: ∀r,τ= [r]→(c.ρ++τ)[σ.nv]?=some r:=by rintro r rfl;rw [E2];simp
  refine eH (c:=c.ext τ) Az hi Aj ⟨fun hg=>CA.1 ((Jb Bj).1 hg),fun hg=>CA.2 fun k=>hg ((Jb Bj).2 k)⟩ (fun _ _=>rfl) (fun t e h=>cL h) AO he A3 (fun hg q hq=> ?_) (fun cl Aw=> ?_) (fun x hx _=>Om _ (Ce x hx)) (fun a' c' AQ hr=> ?_)
  ·exact(Cn.im (AL q hq)).2 (hc ((Jb Bj).1 hg) q hq)
  ·obtain⟨r,rfl,h2⟩:=AS cl Aw;rw [Aw]at E4;simp only [Ad]at E4;exact⟨r,Om r rfl,fun hg=>(Z9 E4.1 (EL.ja E4.2)).2 (h2 ((Jb Bj).1 hg))⟩
  ·have hρ:c'.ρ=c.ρ++τ:=AQ.ρ;refine hK c' a' ⟨τ,hρ.symm⟩ ⟨AQ.w0.trans hm.w0,AQ.A.trans hm.A,AQ.Mu.trans hm.Mu, ?_,by rw [bA];exact hm.len,fun t ht=> ?_, ?_⟩ (by rw [hρ];exact hk)
   ·rw [hρ,WW,AB,hτ,E2];split<;>rfl
   ·have hmul:base+Bf*(i+1)=base+Bf*i+Bf:=by rw [Nat.mul_add];omega
    rw [hmul];rcases AQ.U t ht with h|h
    ·have:=hm.U t h;omega
    ·exact h.2
   ·rw [cP,cV,hm.len];exact hr
 unfold SX at hd;obtain⟨hc,hd⟩:=W4 hd;cases Aw:e.call with
 |none=>
  simp only [Aw]at hd;cases Ce:e.a8 with
  |none=>simp only [Ce]at hd;refine E6 [] (by have:=hm.rel;simpa [Cx.ext]using this) (by simp [Aw,Ce]) (by simpa using hd) hc (fun cl h=>by rw [Aw]at h;cases h) (fun x h=>by rw [Ce]at h;cases h)
  |some x=>simp only [Ce]at hd;have E5:=OP (by simp [Ce]);refine E6 [.bool (Iu a o)] (hm.ext E5 _) (by simp [Ce]) (hd _ fun hg hb=> ?_) hc (fun cl h=>by rw [Aw]at h;cases h) (fun x h=>rfl);exact E0 c n _ _ _ a _ _ o gs e _ x ⟨hm.rel,hg,fun _ _=>rfl,fun t e h=>cL h,fun t h1 h2=>AO t h1 (Nat.lt_of_lt_of_le h2 (Nat.add_le_add_left (by decide) _))⟩ he Ce hb
 |some cl=>
  simp only [Aw]at hd;cases Ce:e.a8 with
  |some x=>rw [Ce]at YB;simp [Aw]at YB
  |none=>simp only [Ce]at hd;obtain⟨r,h1,h2⟩:=hd;have E5:=OP (by simp [Aw]);refine E6 [r] (hm.ext E5 _) (by simp [Aw]) h2 hc (fun cl' h=>by rw [Aw]at h;cases h;exact⟨r,rfl,h1⟩) (fun x h=>by rw [Ce]at h;cases h)
theorem rO {σ:St} {x:E} {b:Bool} {d:Nat}:Bb (assume x b d σ)=B6 σ.sl.length (fun i=>assumeS x b (Bb σ i)) (some d) (.e (.bool b)):=by
 funext i;simp only [assume,Bb,B6,Ac,List.getElem?_set,List.length_map,List.getElem?_map];by_cases h:d=i
 ·subst h;by_cases h2:d<σ.sl.length
  ·simp [h2]
  ·simp [h2,List.getElem?_eq_none (Nat.le_of_not_lt h2),assumeS]
 ·simp only [h,false_and,if_false];cases hh:σ.sl[i]?<;>simp [assumeS]
theorem sJ {σ:St} {x:E} {b:Bool} {d:Nat}:Av (assume x b d σ).hp=fun t=>(Av σ.hp t).map (assumeE x b):=by funext t;exact tG _ _ _
theorem Hk.assume {F:Fix} {c:Cx} {σ:St} {a:Act} {n m:Nat} (h:Hk F c σ a n m) {x:E} {b:Bool} (hx:x.den c.ρ= .bool b) {d:Nat} (hd:Bb σ d= .e x):Hk F c (Go.Proofs.YtollgpkegmbpmaaGreatDoor.assume x b d σ) a n m:=by
 refine⟨h.w0,h.A,h.Mu,h.nv, ?_,h.U, ?_⟩
 ·simp only [Go.Proofs.YtollgpkegmbpmaaGreatDoor.assume,List.length_set,List.length_map];exact h.len
 ·rw [rO,sJ];have hr:=h.rel.ek hx;refine{hr with ca:=fun i=> ?_};unfold B6;split
  ·rename_i hi;obtain⟨hi,_⟩:=hi;cases hi;have:=h.rel.ca d;rw [hd]at this;generalize a.tmps.getD d Go.undef=v at this;cases this with
   |e h1 h2 _=>exact .e (f:= []) (by rw [hx]at h1;rw [GK h1 rfl];exact .bool .nil) (by simp) .nil
  ·exact hr.ca i
theorem rL (Az:L8 P sg Rt) (E0:Qw P sg) {F:Fix} {base:Nat} {R:AV→Prop} {L:LK} {js:List JK} {Q:Exit→Act→World→Prop} {n:Nat} {next:List Log→St→Option Tr} {i:Nat} {o:Oper} {lg:List Log} {rest:List Nat} (hi:ops[i]?=some o)
  (BU: ∀(lg:List Log) (σ:St) (t:Tr),next lg σ=some t→ ∀(c:Cx) (a:Act),Hk F c σ a n (base+Bf*(i+1))→t.den Rt R L js c.ρ→(∀(c':Cx) (a':Act) (σ':St),c.ρ<+:c'.ρ→L js .normal σ' c'.ρ→Fv F c'.ρ σ' a' c'.w→Q .normal a' c'.w)→wpOps P ops Q rest a c.w):
  ∀(m:Nat) (σ:St) (t:Tr),QD P sg ops false base next i o lg m σ=some t→
  ∀(c:Cx) (a:Act),Hk F c σ a n (base+Bf*i)→t.den Rt R L js c.ρ→(∀(c':Cx) (a':Act) (σ':St),c.ρ<+:c'.ρ→L js .normal σ' c'.ρ→Fv F c'.ρ σ' a' c'.w→Q .normal a' c'.w)→wpOps P ops Q (i::rest) a c.w:=by
 have K2:base+Bf*i≤base+Bf*(i+1):=by rw [Nat.mul_add];omega
 have try_: ∀(fail:Unit→Option Tr) (σ:St) (t:Tr),Qz P sg ops false base next i o lg fail σ=some t→ ∀(c:Cx) (a:Act),Hk F c σ a n (base+Bf*i)→t.den Rt R L js c.ρ→(∀(c':Cx) (a':Act) (σ':St),c.ρ<+:c'.ρ→L js .normal σ' c'.ρ→Fv F c'.ρ σ' a' c'.w→Q .normal a' c'.w)→
   (fail ()=some t→wpOps P ops Q (i::rest) a c.w)→wpOps P ops Q (i::rest) a c.w:=by
  intro fail σ t ht c a hm hd hq Oj;unfold Qz at ht;cases FH:LI σ ops o with
  |none=>rw [FH]at ht;cases ht
  |some r=>
   have CA:=WL (c:=c) (a:=a) FH (fun j want d _ _=>hm.rel.ca d);rw [FH]at ht;cases r with
   |none=>simp only at ht;rw [wpOps_cons];unfold wpOp;simp only [hi];rw [if_neg (by simp [show Region.wanted o (yielded ops a.tmps)=false from CA])];refine BU lg _ t ht c _ ⟨hm.w0,hm.A,hm.Mu,by rw [Wo];exact hm.nv,by rw [V0];exact hm.len,fun t ht=>Nat.lt_of_lt_of_le (hm.U t ht) K2, ?_⟩ hd hq;rw [Wl,We,hm.len];exact hm.rel.put Xp o.dst
   |some gs=>
    simp only at ht;split at ht
    ·rename_i e he;split at ht
     ·cases ht
     ·rename_i At;split at ht
      ·cases ht
      ·rename_i k hk;simp only [Ac]at ht;subst ht;simp only [Bool.false_and,Bool.false_or,Bool.not_false,Bool.true_and,Bool.or_eq_true,Bool.not_eq_true',Ad,not_or,Bool.not_eq_false]at At;rw [wpOps_cons];refine xN Az E0 hi hm CA he At.1 (fun hh=> ?_) hd fun c' a' hp EU BI=>BU _ _ k hk c' a' EU BI fun c'' a'' σ' hp'=>hq c'' a'' σ' (hp.trans hp');have:=At.2;simp only [Bool.or_eq_true]at hh;simpa [hh]using this
    ·exact Oj ht
 intro m
 induction m with
 |zero=>exact fun σ t ht c a hm hd hq=>try_ _ σ t ht c a hm hd hq fun h=>by cases h
 |succ m ih=>
  intro σ t ht c a hm hd hq;refine try_ _ σ t ht c a hm hd hq fun h=> ?_;split at h
  ·rename_i d _ _;split at h
   ·rename_i x Mh;split at h
    ·rename_i k1 k0 G1 Mj;simp only [Ac]at h;subst h;obtain⟨tt,h1,h2,h3⟩:=hd;cases tt with
     |true=>exact ih _ k1 G1 c a (hm.assume h1 Mh) (h2 rfl) hq
     |false=>exact ih _ k0 Mj c a (hm.assume h1 Mh) (h3 rfl) hq
    ·cases h
   ·cases h
  ·cases h
theorem dZ (Az:L8 P sg Rt) (E0:Qw P sg) {F:Fix} {base:Nat} {R:AV→Prop} {L:LK} {js:List JK} {Q:Exit→Act→World→Prop} {n:Nat}: ∀(len i:Nat) (lg:List Log) (σ:St) (t:Tr),i+len=ops.size→Jx P sg ops false base (List.range' i len) lg σ=some t→
  ∀(c:Cx) (a:Act),Hk F c σ a n (base+Bf*i)→t.den Rt R L js c.ρ→(∀(c':Cx) (a':Act) (σ':St),c.ρ<+:c'.ρ→L js .normal σ' c'.ρ→Fv F c'.ρ σ' a' c'.w→Q .normal a' c'.w)→wpOps P ops Q (List.range' i len) a c.w
 |0,i,lg,σ,t,hl,ht,c,a,hm,hd,hq=>by
  simp only [List.range'_zero,Jx,Bool.false_and,AY,if_false,Ac]at ht ⊢;subst ht;refine hq c a _ (List.prefix_refl _) hd ⟨c,rfl,rfl,hm.w0,hm.A,hm.Mu,hm.nv,fun t ht=> ?_, ?_⟩
  ·have:=hm.U t ht;have h9:i=ops.size:=by omega
   subst h9;exact this
  ·have:=hm.rel;rw [←hm.len]at this;exact this
 |len+1,i,lg,σ,t,hl,ht,c,a,hm,hd,hq=>by
  rw [List.range'_succ]at ht ⊢;unfold Jx at ht;obtain⟨o,hi⟩: ∃o,ops[i]?=some o:=⟨ops[i]'(by omega),by simp [show i<ops.size by omega]⟩
  rw [hi]at ht;simp only at ht;exact rL Az E0 hi (fun lg σ t ht c a=>dZ Az E0 (n:=n) len (i+1) lg σ t (by omega) ht c a) 4 σ t ht c a hm hd hq
end
def XP (l:List Oper) (bs:List Nat):Prop:=bs.length=l.length∧ ∀(j:Nat) (o:Oper),l[j]?=some o→ ∀i,((bs[j]?).getD 0).testBit i=true→ ∃e∈o.after.toList,Region.binds .any e=true∧(i=e.on∨(e.on<j∧((bs[e.on]?).getD 0).testBit i=true))
theorem Zx (acc:List Nat) (i:Nat): ∀(es:List Edge) (s:Nat),(es.foldl (fun s e=>if Region.binds .any e then s|||2^e.on|||(acc[e.on]?).getD 0 else s) s).testBit i=true→
  s.testBit i=true∨ ∃e∈es,Region.binds .any e=true∧(i=e.on∨((acc[e.on]?).getD 0).testBit i=true)
 | [],s,h=> .inl h
 |e::es,s,h=>by
  simp only [List.foldl_cons]at h;rcases Zx acc i es _ h with h|⟨e',h1,h2⟩
  ·split at h
   ·rename_i hb;simp only [Nat.testBit_or,Nat.testBit_two_pow,Bool.or_eq_true,decide_eq_true_eq]at h;rcases h with(h|h)|h
    ·exact .inl h
    ·exact .inr ⟨e,by simp,hb, .inl h.symm⟩
    ·exact .inr ⟨e,by simp,hb, .inr h⟩
   ·exact .inl h
  ·exact .inr ⟨e',by simp [h1],h2⟩
theorem aN: ∀(os pre:List Oper) (acc:List Nat),XP pre acc→XP (pre++os) (IC os acc)
 | [],pre,acc,h=>by simpa [IC]using h
 |o::os,pre,acc,h=>by
  obtain⟨hl,hb⟩:=h;have:=aN os (pre++ [o]) (acc++ [Xi acc o]) ⟨by simp [hl],fun j o' ho i hi=> ?_⟩
  ·simpa [IC]using this
  ·have Am: ∀k,k<acc.length→((acc++ [Xi acc o])[k]?).getD 0=(acc[k]?).getD 0:=fun k hk=>by rw [List.getElem?_append_left hk]
   by_cases hj:j<pre.length
   ·rw [List.getElem?_append_left hj]at ho;rw [Am j (by omega)]at hi;obtain⟨e,h1,h2,h3⟩:=hb j o' ho i hi;exact⟨e,h1,h2,h3.imp id fun h=>⟨h.1,by rw [Am _ (by omega)];exact h.2⟩⟩
   ·rw [List.getElem?_append_right (by omega)]at ho;have jC:j-pre.length=0:=by
     cases hh:j-pre.length with
     |zero=>rfl
     |succ k=>rw [hh]at ho;simp at ho
    rw [jC]at ho;simp at ho;subst ho;have Mi:j=acc.length:=by omega
    rw [Mi,List.getElem?_append_right (Nat.le_refl _)]at hi;simp only [Nat.sub_self,List.getElem?_cons_zero,Option.getD_some]at hi;rcases Zx acc i _ 0 hi with h|⟨e,h1,h2,h3⟩
    ·simp at h
    ·refine⟨e,h1,h2,h3.imp id fun h=> ?_⟩;have he:e.on<acc.length:=by
      rcases Nat.lt_or_ge e.on acc.length with hh|hh
      ·exact hh
      ·rw [List.getElem?_eq_none hh]at h;simp at h
     exact⟨by omega,by rw [Am _ he];exact h⟩
def Qj (ops:Array Oper) (S:Nat→Bool):Prop:= ∀k o,S k=true→ops[k]?=some o→ ∀e∈o.after.toList,Region.binds .any e=true→S e.on=true
theorem fU (ops:Array Oper):XP ops.toList (IC ops.toList []):=by have:=aN ops.toList [] [] ⟨rfl,by simp⟩;simpa using this
theorem Z8 {ops:Array Oper} {S:Nat→Bool} (hS:Qj ops S): ∀(k i:Nat),S k=true→k<ops.size→(((IC ops.toList [])[k]?).getD 0).testBit i=true→S i=true:=by
 intro k
 induction k using Nat.strongRecOn with
 |_ k ih=>
  intro i hk Am hb;have ho:ops.toList[k]?=some ops[k]:=by simp [Am]
  obtain⟨e,h1,h2,h3⟩:=(fU ops).2 k _ ho i hb;have K4:=hS k ops[k] hk (by simp [Am]) e h1 h2;rcases h3 with rfl|⟨h3,h4⟩
  ·exact K4
  ·exact ih e.on h3 i K4 (by omega) h4
theorem sV {ops:Array Oper} {S:Nat→Bool} (hS:Qj ops S) {j i:Nat} {o:Oper} (ho:ops[j]?=some o) (hr: ∀e∈o.after.toList,Region.binds .any e=true→S e.on=true) (hb:(((IC ops.toList [])[j]?).getD 0).testBit i=true):S i=true:=by
 have Am:j<ops.size:=(Array.getElem?_eq_some_iff.1 ho).1;obtain⟨e,h1,h2,h3⟩:=(fU ops).2 j o (by simpa using ho) i hb;have K4:=hr e h1 h2;rcases h3 with rfl|⟨h3,h4⟩
 ·exact K4
 ·exact Z8 hS e.on i K4 (by omega) h4
theorem rQ {ops:Array Oper} {S:Nat→Bool} (hS:Qj ops S) {j i:Nat} {o:Oper} (ho:ops[j]?=some o) (hi:i<ops.size) (hj:S j=false) (hr: ∀e∈o.after.toList,Region.binds .any e=true→S e.on=true) (A8:i≠j) (I0:HM (IC ops.toList []) i j=true):S i=decide (i<j):=by
 unfold HM at I0;split at I0
 ·rename_i h;rw [sV hS ho hr I0];simp [h]
 ·rename_i h;cases hs:S i with
  |false=>simp [h]
  |true=>have:=Z8 hS i j hs hi I0;rw [hj]at this;cases this
structure Rec where
 i:Nat
 o:Oper
 σ:St
 r:Option (Gd × AK)
def Rec.next (x:Rec):St:=match x.r with|none=>Gn x.σ x.o.dst FY|some (gs,e)=>Jc x.σ gs x.o e
def Rec.val (x:Rec):SV:=match x.r with|none=>FY|some (gs,e)=>mkGd gs e.val
def Rec.aw (x:Rec):List (Nat × Af):=match x.r with|none=> []|some (_,e)=>e.aw
def gP (P:Program) (sg:Bo) (Rt:Nat→List AV→AV→Prop) (ops:Array Oper) (base:Nat) (ρ:List AV) (x:Rec):Prop:=
 ops[x.i]?=some x.o∧match x.r with
  |none=>LI x.σ ops x.o=some none
  |some (gs,e)=>LI x.σ ops x.o=some (some gs)∧Jr P sg (Bb x.σ) (NJ x.σ.hp (P9 x.σ gs x.o)) x.σ.nv (base+Bf*x.i) gs x.o=some e∧e.a8=none∧NA x.σ.nv (base+Bf*x.i) x.σ.hp gs e=true∧
   (AU ρ gs→ ∀q∈e.bc,q.den ρ)∧ ∀cl,e.call=some cl→ ∃r,ρ[x.σ.nv]?=some r∧(AU ρ gs→GN Rt cl.fn ((EL.of cl.args).den ρ) ρ r)
def Dc:Nat→St→List Rec→St→Prop
 |_,σ, [],σ'=>σ=σ'
 |i,σ,x::xs,σ'=>x.i=i∧x.σ=σ∧Dc (i+1) x.next xs σ'
def Rec.log (x:Rec):Option Log:=x.r.map fun(gs,e)=>⟨x.i,P9 x.σ gs x.o,e.aw.map (·.1)⟩
theorem Ww {P:Program} {sg:Bo} {Rt:Nat→List AV→AV→Prop} {ops:Array Oper} {base:Nat} {R:AV→Prop} {L:LK} {js:List JK}: ∀(len i:Nat) (lg:List Log) (σ:St) (t:Tr) (ρ:List AV),i+len=ops.size→
  Jx P sg ops true base (List.range' i len) lg σ=some t→t.den Rt R L js ρ→ρ.length=σ.nv→
  ∃(τ:List AV) (xs:List Rec) (σ':St) (lg':List Log),Dc i σ xs σ'∧xs.length=len∧(∀x∈xs,gP P sg Rt ops base (ρ++τ) x)∧(ρ++τ).length=σ'.nv∧L js .normal {σ' with nx:=base+Bf*ops.size} (ρ++τ)∧S9 ops lg'=true∧(∀y∈lg,y∈lg')∧ ∀x∈xs,∀y,x.log=some y→y∈lg'
 |0,i,lg,σ,t,ρ,hl,ht,hd,hn=>by
  simp only [List.range'_zero,Jx,Bool.true_and]at ht;split at ht
  ·cases ht
  ·rename_i QV;simp only [Ac]at ht;subst ht;exact⟨[], [],σ,lg,rfl,rfl,by simp,by simpa using hn,by simpa [Tr.den]using hd,by simpa using QV,fun y hy=>hy,by simp⟩
 |len+1,i,lg,σ,t,ρ,hl,ht,hd,hn=>by
  rw [List.range'_succ]at ht;unfold Jx at ht;obtain⟨o,hi⟩: ∃o,ops[i]?=some o:=⟨ops[i]'(by omega),by simp [show i<ops.size by omega]⟩
  rw [hi]at ht;simp only at ht;unfold QD Qz at ht;cases FH:LI σ ops o with
  |none=>rw [FH]at ht;cases ht
  |some r=>
   rw [FH]at ht;cases r with
   |none=>
    simp only at ht;obtain⟨τ,xs,σ',lg',h1,h2,h3,h4,h5,h6,h7,h8⟩:=Ww len (i+1) lg _ t ρ (by omega) ht hd (by rw [Wo];exact hn);refine⟨τ,⟨i,o,σ,none⟩::xs,σ',lg',⟨rfl,rfl,h1⟩,by simp [h2],fun x hx=> ?_,h4,h5,h6,h7,fun x hx y hy=> ?_⟩
    ·rcases Ae.1 hx with rfl|hx
     ·exact⟨hi,FH⟩
     ·exact h3 x hx
    ·rcases Ae.1 hx with rfl|hx
     ·simp [Rec.log]at hy
     ·exact h8 x hx y hy
   |some gs=>
    simp only at ht;split at ht
    ·rename_i e he;split at ht
     ·cases ht
     ·rename_i At;simp only [Bool.true_and,Bool.not_true,Bool.false_and,Bool.or_false,Bool.or_eq_true,Bool.not_eq_true',not_or,Bool.not_eq_false]at At;have Ce:e.a8=none:=by cases hh:e.a8 with|none=>rfl|some x=>rw [hh]at At;simp at At
      split at ht
      ·cases ht
      ·rename_i k hk;simp only [Ac]at ht;subst ht;have D4:=At.2;simp only [NA,Ad,AJ]at D4;obtain⟨⟨⟨⟨Bj,AL⟩,E4⟩,_⟩,_⟩:=D4;rw [←hn]at Bj AL E4;unfold SX at hd;obtain⟨hc,hd⟩:=W4 hd;simp only [Ce]at hd;obtain⟨τ0,kY,AS,BI⟩: ∃τ0:List AV,(ρ++τ0).length=(Jc σ gs o e).nv∧(∀cl,e.call=some cl→ ∃r,τ0= [r]∧(AU ρ gs→GN Rt cl.fn ((EL.of cl.args).den ρ) ρ r))∧k.den Rt R L js (ρ++τ0):=by
        cases Aw:e.call with
        |none=>rw [Aw]at hd;exact⟨[],by rw [WW];simp [Aw,Ce,hn],by simp,by simpa using hd⟩
        |some cl=>rw [Aw]at hd;obtain⟨r,h1,h2⟩:=hd;exact⟨[r],by rw [WW];simp [Aw,hn],fun cl' h=>by cases h;exact⟨r,rfl,h1⟩,h2⟩
       obtain⟨τ,xs,σ',lg',h1,h2,h3,h4,h5,h6,h7,h8⟩:=Ww len (i+1) _ _ k (ρ++τ0) (by omega) hk BI kY;have TT:ρ++τ0++τ=ρ++(τ0++τ):=List.append_assoc ..;rw [TT]at h3 h4 h5;refine⟨τ0++τ,⟨i,o,σ,some (gs,e)⟩::xs,σ',lg',⟨rfl,rfl,h1⟩,by simp [h2],fun x hx=> ?_,h4,h5,h6,fun y hy=>h7 y (by simp [hy]),fun x hx y hy=> ?_⟩
       ·rcases Ae.1 hx with rfl|hx
        ·refine⟨hi,FH,he,Ce,At.2,fun hg q hq=>(Cn.im (AL q hq)).2 (hc ((Jb Bj).1 hg) q hq),fun cl Aw=> ?_⟩;obtain⟨r,hr,h2⟩:=AS cl Aw;rw [Aw]at E4;simp only [Ad]at E4;subst hr;exact⟨r,by simp only;rw [←hn];simp,fun hg=>(Z9 E4.1 (EL.ja (by simpa using E4.2))).2 (h2 ((Jb Bj).1 hg))⟩
        ·exact h3 x hx
       ·rcases Ae.1 hx with rfl|hx
        ·simp only [Rec.log,Option.map_some,Ac]at hy;subst hy;exact h7 _ (by simp)
        ·exact h8 x hx y hy
    ·cases ht
def E7 (n:Nat) (sl0:Nat→SV) (xs:List Rec) (S:Nat→Bool):Nat→SV:=xs.foldl (fun sl x=>if S x.i then B6 n sl x.o.dst x.val else sl) sl0
def FK (hp0:Nat→Option Af) (xs:List Rec) (S:Nat→Bool):Nat→Option Af:=xs.foldl (fun hp x=>if S x.i then AR hp x.aw else hp) hp0
section
variable {n:Nat} {S S':Nat→Bool} {d t:Nat}
theorem PU: ∀(xs:List Rec) {sl sl':Nat→SV},sl d=sl' d→(∀x∈xs,x.o.dst=some d→S x.i=S' x.i)→E7 n sl xs S d=E7 n sl' xs S' d
 | [],_,_,h,_=>h
 |x::xs,sl,sl',h,hs=>by
  refine PU xs (sl:=if S x.i then B6 n sl x.o.dst x.val else sl) (sl':=if S' x.i then B6 n sl' x.o.dst x.val else sl') ?_ fun y hy=>hs y (by simp [hy]);by_cases hd:x.o.dst=some d
  ·rw [←hs x (by simp) hd];split
   ·simp only [B6,hd,true_and];rw [h]
   ·exact h
  ·have hu: ∀sl:Nat→SV,B6 n sl x.o.dst x.val d=sl d:=fun sl=>by simp [B6,hd]
   have h1:(if S x.i then B6 n sl x.o.dst x.val else sl) d=sl d:=by split;exact hu sl;rfl
   have h2:(if S' x.i then B6 n sl' x.o.dst x.val else sl') d=sl' d:=by split;exact hu sl';rfl
   rw [h1,h2,h]
theorem WS (xs:List Rec) {sl:Nat→SV} (hs: ∀x∈xs,x.o.dst=some d→S x.i=false):E7 n sl xs S d=sl d:=by
 have h1:=PU (n:=n) (S:=S) (S':=fun _=>false) xs (sl:=sl) (sl':=sl) (d:=d) rfl hs;rw [h1];clear h1 hs
 induction xs generalizing sl with
 |nil=>rfl
 |cons x xs ih=>exact ih
theorem XG (hd:n≤d): ∀(xs:List Rec) {sl:Nat→SV},E7 n sl xs S d=sl d
 | [],_=>rfl
 |x::xs,sl=>by
  have:=XG hd xs (sl:=if S x.i then B6 n sl x.o.dst x.val else sl);refine Eq.trans this ?_;split
  ·simp only [B6];rw [if_neg (by omega)]
  ·rfl
theorem eO {y:Rec} (hd:d<n) (hy:y.o.dst=some d) (hS:S y.i=true): ∀(xs:List Rec) {sl:Nat→SV},y∈xs→(∀x∈xs,x≠y→x.o.dst≠some d)→E7 n sl xs S d=y.val
 | [],_,h,_=>by simp at h
 |x::xs,sl,h,hu=>by
  by_cases hm:y∈xs
  ·exact eO hd hy hS xs (sl:=if S x.i then B6 n sl x.o.dst x.val else sl) hm fun z hz=>hu z (by simp [hz])
  ·have hx:y=x:=by rcases Ae.1 h with h|h;exact h;exact absurd h hm
   subst hx;have:=WS (n:=n) (S:=S) (d:=d) xs (sl:=B6 n sl y.o.dst y.val) (fun z hz Mr=>absurd Mr (hu z (by simp [hz]) (fun hh=>hm (hh▸hz))));show E7 n (if S y.i then B6 n sl y.o.dst y.val else sl) xs S d=_;rw [if_pos hS,this];simp [B6,hy,hd]
theorem aH {hp hp':Nat→Option Af} {l:List (Nat × Af)} (h:hp t=hp' t):AR hp l t=AR hp' l t:=by
 induction l generalizing hp hp' with
 |nil=>exact h
 |cons p l ih=>
  refine ih ?_;show(if t=p.1 then some p.2 else hp t)=(if t=p.1 then some p.2 else hp' t)
  rw [h]
theorem qS {hp hp':Nat→Option Af} {l:List (Nat × Af)} (h:t∈l.map (·.1)):AR hp l t=AR hp' l t:=by
 induction l generalizing hp hp' with
 |nil=>simp at h
 |cons p l ih=>
  by_cases hm:t∈l.map (·.1)
  ·exact ih hm
  ·have ht:t=p.1:=by simp only [List.map_cons,Ae]at h;exact h.resolve_right hm
   refine aH (l:=l) ?_;show(if t=p.1 then some p.2 else hp t)=(if t=p.1 then some p.2 else hp' t)
   rw [if_pos ht,if_pos ht]
theorem WU {hp:Nat→Option Af} {l:List (Nat × Af)} (h:t∉l.map (·.1)):AR hp l t=hp t:=
 Jd fun e he=>h (List.mem_map.2 ⟨_,he,rfl⟩)
theorem PS: ∀(xs:List Rec) {hp hp':Nat→Option Af},hp t=hp' t→(∀x∈xs,t∈x.aw.map (·.1)→S x.i=S' x.i)→FK hp xs S t=FK hp' xs S' t
 | [],_,_,h,_=>h
 |x::xs,hp,hp',h,hs=>by
  refine PS xs (hp:=if S x.i then AR hp x.aw else hp) (hp':=if S' x.i then AR hp' x.aw else hp') ?_ fun y hy=>hs y (by simp [hy]);by_cases hd:t∈x.aw.map (·.1)
  ·rw [←hs x (by simp) hd];split
   ·exact aH h
   ·exact h
  ·have h1:(if S x.i then AR hp x.aw else hp) t=hp t:=by split;exact WU hd;rfl
   have h2:(if S' x.i then AR hp' x.aw else hp') t=hp' t:=by split;exact WU hd;rfl
   rw [h1,h2,h]
theorem WN (xs:List Rec) {hp:Nat→Option Af} (hs: ∀x∈xs,t∈x.aw.map (·.1)→S x.i=false):FK hp xs S t=hp t:=by
 have h1:=PS (S:=S) (S':=fun _=>false) xs (hp:=hp) (hp':=hp) (t:=t) rfl hs;rw [h1];clear h1 hs
 induction xs generalizing hp with
 |nil=>rfl
 |cons x xs ih=>exact ih
end
section
variable {n:Nat} {S:Nat→Bool} {d t:Nat}
theorem Rec.jn (x:Rec):Bb x.next=B6 x.σ.sl.length (Bb x.σ) x.o.dst x.val:=by
 obtain⟨i,o,σ,r⟩:=x;cases r with
 |none=>exact Wl
 |some ge=>exact cP
theorem Rec.jg (x:Rec):Av x.next.hp=AR (Av x.σ.hp) x.aw:=by
 obtain⟨i,o,σ,r⟩:=x;cases r with
 |none=>simp only [Rec.next,Rec.aw,We];rfl
 |some ge=>exact cV
theorem Rec.iv (x:Rec):x.next.sl.length=x.σ.sl.length:=by
 obtain⟨i,o,σ,r⟩:=x;cases r with
 |none=>exact V0
 |some ge=>exact bA
theorem Dc.range: ∀{xs:List Rec} {i:Nat} {σ σ':St},Dc i σ xs σ'→ ∀x∈xs,i≤x.i∧x.i<i+xs.length
 | [],_,_,_,_,x,hx=>by simp at hx
 |y::xs,i,σ,σ',h,x,hx=>by
  rcases Ae.1 hx with rfl|hx
  ·have:=h.1;simp only [AD];omega
  ·have:=Dc.range h.2.2 x hx;simp only [AD];omega
theorem Dc.ex: ∀{xs:List Rec} {i:Nat} {σ σ':St},Dc i σ xs σ'→ ∀j,i≤j→j<i+xs.length→ ∃x∈xs,x.i=j
 | [],i,_,_,_,j,h1,h2=>by simp at h2;omega
 |y::xs,i,σ,σ',h,j,h1,h2=>by
  by_cases hj:j=i
  ·exact⟨y,by simp,by rw [hj];exact h.1⟩
  ·simp only [AD]at h2;obtain⟨x,hx,he⟩:=Dc.ex h.2.2 j (by omega) (by omega);exact⟨x,by simp [hx],he⟩
theorem Dc.inj: ∀{xs:List Rec} {i:Nat} {σ σ':St},Dc i σ xs σ'→ ∀x∈xs,∀y∈xs,x.i=y.i→x=y
 | [],_,_,_,_,x,hx,_,_,_=>by simp at hx
 |z::xs,i,σ,σ',h,x,hx,y,hy,he=>by
  have hz:=h.1;rcases Ae.1 hx with h1|h1<;>rcases Ae.1 hy with h2|h2
  ·rw [h1,h2]
  ·subst h1;have:=(Dc.range h.2.2 y h2).1;omega
  ·subst h2;have:=(Dc.range h.2.2 x h1).1;omega
  ·exact Dc.inj h.2.2 x h1 y h2 he
theorem Dc.sl: ∀{xs:List Rec} {i:Nat} {σ σ':St},Dc i σ xs σ'→σ.sl.length=n→(∀x∈xs,x.σ.sl.length=n∧ ∀d,Bb x.σ d=E7 n (Bb σ) xs (fun k=>decide (k<x.i)) d)∧σ'.sl.length=n∧Bb σ'=E7 n (Bb σ) xs fun _=>true
 | [],i,σ,σ',h,hn=>by have h:σ=σ':=h;subst h;exact⟨by simp,hn,rfl⟩
 |y::xs,i,σ,σ',h,hn=>by
  obtain⟨h1,h2,h3⟩:=h;subst h2;obtain⟨q1,q2,q3⟩:=Dc.sl h3 (by rw [y.iv];exact hn);rw [y.jn,hn]at q1 q3;refine⟨fun x hx=> ?_,q2,q3⟩;rcases Ae.1 hx with rfl|hx
  ·refine⟨hn,fun d=>(WS _ fun z hz _=> ?_).symm⟩;rcases Ae.1 hz with rfl|hz
   ·simp
   ·have:=(Dc.range h3 z hz).1;simp only [decide_eq_false_iff_not];omega
  ·refine⟨(q1 x hx).1,fun d=> ?_⟩;rw [(q1 x hx).2 d];have:=(Dc.range h3 x hx).1;show _=E7 n (if decide (y.i<x.i)then B6 n (Bb y.σ) y.o.dst y.val else Bb y.σ) xs (fun k=>decide (k<x.i)) d;rw [if_pos (by simp only [decide_eq_true_eq];omega)]
theorem Dc.hp: ∀{xs:List Rec} {i:Nat} {σ σ':St},Dc i σ xs σ'→(∀x∈xs,∀t,Av x.σ.hp t=FK (Av σ.hp) xs (fun k=>decide (k<x.i)) t)∧Av σ'.hp=FK (Av σ.hp) xs fun _=>true
 | [],i,σ,σ',h=>by have h:σ=σ':=h;subst h;exact⟨by simp,rfl⟩
 |y::xs,i,σ,σ',h=>by
  obtain⟨h1,h2,h3⟩:=h;subst h2;obtain⟨q1,q3⟩:=Dc.hp h3;rw [y.jg]at q1 q3;refine⟨fun x hx=> ?_,q3⟩;rcases Ae.1 hx with rfl|hx
  ·refine fun d=>(WN _ fun z hz _=> ?_).symm;rcases Ae.1 hz with rfl|hz
   ·simp
   ·have:=(Dc.range h3 z hz).1;simp only [decide_eq_false_iff_not];omega
  ·intro t;rw [q1 x hx t];have:=(Dc.range h3 x hx).1;show _=FK (if decide (y.i<x.i)then AR (Av y.σ.hp) y.aw else Av y.σ.hp) xs (fun k=>decide (k<x.i)) t;rw [if_pos (by simp only [decide_eq_true_eq];omega)]
theorem fK {y:Rec} {US:Nat→Option Af} (hS:S y.i=true) (ht:t∈y.aw.map (·.1)): ∀{xs:List Rec} {i:Nat} {σ σ':St} {hp0:Nat→Option Af},Dc i σ xs σ'→y∈xs→(∀x∈xs,x.i≠y.i→t∈x.aw.map (·.1)→S x.i=decide (x.i<y.i))→FK hp0 xs S t=AR US y.aw t
 | [],_,_,_,_,_,h,_=>by simp at h
 |x::xs,i,σ,σ',hp0,hc,hm,hs=>by
  by_cases hx:y=x
  ·subst hx;have:=WN (S:=S) (t:=t) xs (hp:=AR hp0 y.aw) (fun z hz Mr=>by
    have Am:=(Dc.range hc.2.2 z hz).1;have h1:=hc.1;rw [hs z (by simp [hz]) (by omega) Mr];simp only [decide_eq_false_iff_not];omega)
   show FK (if S y.i then AR hp0 y.aw else hp0) xs S t=_;rw [if_pos hS,this];exact qS ht
  ·have EU:y∈xs:=by rcases Ae.1 hm with h|h;exact absurd h hx;exact h
   exact fK hS ht (hp0:=if S x.i then AR hp0 x.aw else hp0) hc.2.2 EU fun z hz=>hs z (by simp [hz])
end
theorem bH {α:Type} {p p':α→Bool}: ∀(l:List α),(∀k∈l,p' k=true→p k=true)→(∃j∈l,p j=true∧p' j=false)→(l.filter p').length<(l.filter p).length
 | [],_,h=>by obtain⟨j,hj,_⟩:=h;simp at hj
 |x::l,hs,h=>by
  have hle:(l.filter p').length≤(l.filter p).length:=by
   have: ∀(l:List α),(∀k∈l,p' k=true→p k=true)→(l.filter p').length≤(l.filter p).length:=by
    intro l
    induction l with
    |nil=>intro _;simp
    |cons y l ih=>
     intro h;have:=ih fun k hk=>h k (by simp [hk]);have hy:=h y (by simp);cases h1:p' y with
     |false=>
      cases h2:p y with
      |false=>simpa [h1,h2]using this
      |true=>simp only [List.filter_cons,h1,h2,AY,if_false,if_true,AD];omega
     |true=>simpa [h1,hy h1]using this
   exact this l fun k hk=>hs k (by simp [hk])
  obtain⟨j,hj,h1,h2⟩:=h;rcases Ae.1 hj with rfl|hj
  ·simp only [List.filter_cons,h1,h2,AY,if_false,if_true,AD];omega
  ·have:=bH l (fun k hk=>hs k (by simp [hk])) ⟨j,hj,h1,h2⟩;have hx:=hs x (by simp);cases h3:p' x with
   |false=>
    cases h4:p x with
    |false=>simpa [h3,h4]using this
    |true=>simp only [List.filter_cons,h3,h4,AY,if_false,if_true,AD];omega
   |true=>simpa [h3,hx h3]using this
section
variable {ops:Array Oper} {listed:Array Bool}
theorem rJ (hb: ∀j o,ops[j]?=some o→ ∀e∈o.after.toList,Region.binds .any e=true→e.on<j) (BA:listed.size=ops.size) (hr:Region.ready .any ops listed= []): ∀k,k<ops.size→listed.getD k true=true:=by
 intro k
 induction k using Nat.strongRecOn with
 |_ k ih=>
  intro hk;cases hs:listed.getD k true with
  |true=>rfl
  |false=>
   have:k∈Region.ready .any ops listed:=mem_ready.2 ⟨hs,ops[k],by simp [hk],fun e he IM=>by
    have Am:=hb k ops[k] (by simp [hk]) e (by simpa using he) IM;have:=ih e.on Am (by omega);have h2:e.on<listed.size:=by omega
    simp only [Array.getD_eq_getD_getElem?,Array.getElem?_eq_getElem h2,Option.getD_some]at this ⊢;exact this⟩
   rw [hr]at this;cases this
theorem tV (BA:listed.size=ops.size) {j:Nat} (hj:j<ops.size) (k:Nat):(listed.setIfInBounds j true).getD k true=(decide (k=j)||listed.getD k true):=by
 by_cases h:j=k
 ·subst h;simp [Array.getD_eq_getD_getElem?,show j<listed.size by omega]
 ·rw [getD_set_ne true h];simp [Ne.symm h]
variable {P:Program} {sg:Bo} {Rt:Nat→List AV→AV→Prop}
theorem qM (Az:L8 P sg Rt) {F:Fix} {σ σ':St} {xs:List Rec} {ρ:List AV} {lg:List Log} {n:Nat} {Q:Exit→Act→World→Prop} (hc:Dc 0 σ xs σ') (hlen:xs.length=ops.size) (Au: ∀x∈xs,gP P sg Rt ops σ.nx ρ x) (QV:S9 ops lg=true) (Oy: ∀x∈xs,∀y,x.log=some y→y∈lg) (hn:σ.sl.length=n)
  (hQ: ∀(c:Cx) (a:Act),c.ρ=ρ→c.w0=F.w0→c.A=F.A→c.Mu=F.Mu→(∀t,c.U t→t<σ.nx+Bf*ops.size)→Rel c n (Bb σ') (Av σ'.hp) a→Q .normal a c.w):
  ∀(fuel:Nat) (listed:Array Bool) (a:Act) (c:Cx),listed.size=ops.size→Qj ops (fun k=>listed.getD k true)→c.ρ=ρ→c.w0=F.w0→c.A=F.A→c.Mu=F.Mu→
   (∀t,c.U t→t<σ.nx∨ ∃k,k<ops.size∧listed.getD k true=true∧σ.nx+Bf*k≤t∧t<σ.nx+Bf*k+Bf)→Rel c n (E7 n (Bb σ) xs fun k=>listed.getD k true) (FK (Av σ.hp) xs fun k=>listed.getD k true) a→
   ((List.range ops.size).filter fun k=> !listed.getD k true).length≤fuel→wpAny P .any ops Q fuel listed a c.w:=by
 simp only [S9,Ad,AJ,Bool.or_eq_true,beq_iff_eq,Bool.not_eq_true',decide_eq_true_eq]at QV;obtain⟨⟨d1,d2⟩,d3⟩:=QV;have OC: ∀j o,ops[j]?=some o→(o,j)∈ops.toList.zipIdx:=fun j o h=>List.mk_mem_zipIdx_iff_getElem?.2 (by simpa using h);have hb: ∀j o,ops[j]?=some o→ ∀e∈o.after.toList,Region.binds .any e=true→e.on<j:=fun j o h e he IM=>by
  rcases d2 (o,j) (OC j o h) e he with h|h
  ·rw [IM]at h;cases h
  ·exact h
 obtain⟨c1,c2,c3⟩:=hc.sl hn;obtain⟨c4,c5⟩:=hc.hp;have Dg: ∀(listed:Array Bool) (a:Act) (c:Cx),listed.size=ops.size→c.ρ=ρ→c.w0=F.w0→c.A=F.A→c.Mu=F.Mu→
   (∀t,c.U t→t<σ.nx∨ ∃k,k<ops.size∧listed.getD k true=true∧σ.nx+Bf*k≤t∧t<σ.nx+Bf*k+Bf)→Rel c n (E7 n (Bb σ) xs fun k=>listed.getD k true) (FK (Av σ.hp) xs fun k=>listed.getD k true) a→
   (∀k,k<ops.size→listed.getD k true=true)→Q .normal a c.w:=by
  intro listed a c BA h1 h2 h3 h4 h5 h6 B2;refine hQ c a h1 h2 h3 h4 (fun t ht=> ?_) ?_
  ·rcases h5 t ht with h|⟨k,hk,_,_,h⟩
   ·simp only [Bf]at*;omega
   ·simp only [Bf]at*;omega
  ·have e1:(E7 n (Bb σ) xs fun k=>listed.getD k true)=Bb σ':=by
    rw [c3];funext d;exact PU xs rfl fun x hx _=>by have:=(hc.range x hx).2;exact B2 x.i (by omega)
   have e2:(FK (Av σ.hp) xs fun k=>listed.getD k true)=Av σ'.hp:=by rw [c5];funext d;exact PS xs rfl fun x hx _=>by have:=(hc.range x hx).2;exact B2 x.i (by omega)
   rw [e1,e2]at h6;exact h6
 intro fuel
 induction fuel with
 |zero=>
  intro listed a c BA Aw h1 h2 h3 h4 h5 h6 Ob;have B2: ∀k,k<ops.size→listed.getD k true=true:=by intro k hk;have:=List.length_eq_zero_iff.1 (Nat.le_zero.1 Ob);have:=List.filter_eq_nil_iff.1 this k (by simpa using hk);simpa using this
  refine⟨?_,Dg listed a c BA h1 h2 h3 h4 h5 h6 B2⟩;refine List.eq_nil_iff_forall_not_mem.2 fun j hj=> ?_;obtain⟨q1,o,q2,_⟩:=mem_ready.1 hj;rw [B2 j (Array.getElem?_eq_some_iff.1 q2).1]at q1;cases q1
 |succ fuel ih=>
  intro listed a c BA Aw h1 h2 h3 h4 h5 h6 Ob;refine⟨fun hr=>Dg listed a c BA h1 h2 h3 h4 h5 h6 (rJ hb BA hr),fun j hj=> ?_⟩;obtain⟨q1,o,q2,q3⟩:=mem_ready.1 hj;have Uv:j<ops.size:=(Array.getElem?_eq_some_iff.1 q2).1;have JG: ∀e∈o.after.toList,Region.binds .any e=true→listed.getD e.on true=true:=fun e he IM=>by
   have h9:=q3 e (by simpa using he) IM;have Am:=hb j o q2 e he IM;have h8:e.on<listed.size:=by omega
   simp only [Array.getD_eq_getD_getElem?,Array.getElem?_eq_getElem h8,Option.getD_some]at h9 ⊢;exact h9
  obtain⟨y,hy,Fi⟩:=hc.ex j (by omega) (by omega);have Lj:y.o=o:=by have:=(Au y hy).1;rw [Fi,q2]at this;exact(Option.some.inj this).symm
  have Q9: ∀x∈xs,x.i<ops.size:=fun x hx=>by have:=(hc.range x hx).2;omega
  have YE: ∀x∈xs,ops[x.i]?=some x.o:=fun x hx=>(Au x hx).1;have agree: ∀x∈xs,x.i≠j→HM (IC ops.toList []) x.i j=true→listed.getD x.i true=decide (x.i<j):=fun x hx A8 ho=>rQ (S:=fun k=>listed.getD k true) Aw q2 (Q9 x hx) q1 JG A8 ho;have J0: ∀x∈xs,x.i=j→listed.getD x.i true=decide (x.i<j):=fun x hx he=>by rw [he,q1];simp
  have F6: ∀d,d∈Tb ops o→Bb y.σ d=E7 n (Bb σ) xs (fun k=>listed.getD k true) d:=by
   intro d hd;rw [(c1 y hy).2 d,Fi];refine PU xs rfl fun x hx O2=> ?_;by_cases he:x.i=j
   ·exact(J0 x hx he).symm
   ·rcases d3 (o,j) (OC j o q2) (x.o,x.i) (OC _ _ (YE x hx))with h|h
    ·exact absurd h he
    ·simp only [O2,Ad,Bool.or_eq_true,Bool.not_eq_true']at h;rcases h.2 with h|h
     ·rw [List.contains_iff_mem.2 hd]at h;cases h
     ·exact(agree x hx he h).symm
  have hW: ∀x∈xs,∀t,t∈x.aw.map (·.1)→ ∀ly,y.log=some ly→(t∈ly.R∨t∈ly.W)→listed.getD x.i true=decide (x.i<j):=by
   intro x hx t ht ly Oz hm;by_cases he:x.i=j
   ·exact J0 x hx he
   ·cases Vf:x.r with
    |none=>simp [Rec.aw,Vf]at ht
    |some ge=>
     obtain⟨gs,e⟩:=ge;have jO:x.log=some ⟨x.i,P9 x.σ gs x.o,e.aw.map (·.1)⟩:=by simp [Rec.log,Vf]
     have UC:ly.i=j:=by unfold Rec.log at Oz;obtain⟨ge',_,rfl⟩:=Ak.1 Oz;exact Fi
     have h9:=d1 _ (Oy x hx _ jO) _ (Oy y hy _ Oz);simp only [UC]at h9;rcases h9 with(h|h)|h
     ·exact absurd h he
     ·exfalso;have:XI (e.aw.map (·.1)) (ly.R++ly.W)=true:=by
       simp only [XI,List.any_eq_true];exact⟨t,by simpa [Rec.aw,Vf]using ht,List.contains_iff_mem.2 (by simpa using hm)⟩
      rw [this]at h;cases h
     ·exact agree x hx he h
  have BU: ∀k,(listed.setIfInBounds j true).getD k true=(decide (k=j)||listed.getD k true):=tV BA Uv;have U5:E7 n (Bb σ) xs (fun k=>(listed.setIfInBounds j true).getD k true)=B6 n (E7 n (Bb σ) xs fun k=>listed.getD k true) o.dst y.val:=by
   funext d;unfold B6;split
   ·rename_i hd;refine eO hd.2 (by rw [Lj];exact hd.1) (by rw [BU,Fi];simp) xs hy fun x hx A8 O2=> ?_;have he:x.i≠j:=fun h=>A8 (hc.inj x hx y hy (by rw [h,Fi]));rcases d3 (o,j) (OC j o q2) (x.o,x.i) (OC _ _ (YE x hx))with h|h
    ·exact he h
    ·simp only [O2,Ad,bne_iff_ne,ne_eq]at h;exact h.1 hd.1
   ·rename_i hd;by_cases T8:d<n
    ·refine PU xs rfl fun x hx O2=> ?_;have he:x.i≠j:=fun h=>by
      have:x=y:=hc.inj x hx y hy (by rw [h,Fi]);subst this;exact hd ⟨by rw [←Lj];exact O2,T8⟩
     rw [BU];simp [he]
    ·rw [XG (by omega),XG (by omega)]
  have Um:FK (Av σ.hp) xs (fun k=>(listed.setIfInBounds j true).getD k true)=AR (FK (Av σ.hp) xs fun k=>listed.getD k true) y.aw:=by
   funext t;by_cases ht:t∈y.aw.map (·.1)
   ·refine fK (by rw [BU,Fi];simp) ht hc hy fun x hx A8 Vg=> ?_;rw [Fi]at A8 ⊢;rw [BU];simp only [A8,decide_false,Bool.false_or];cases HI:y.r with
    |none=>simp [Rec.aw,HI]at ht
    |some ge=>exact hW x hx t Vg _ (by simp only [Rec.log,HI,Option.map_some];rfl) (.inr (by simpa [Rec.aw,HI]using ht))
   ·rw [WU ht];refine PS xs rfl fun x hx Vg=> ?_;have he:x.i≠j:=fun h=>by
     have:x=y:=hc.inj x hx y hy (by rw [h,Fi]);subst this;exact ht Vg
    rw [BU];simp [he]
  have Oc:((List.range ops.size).filter fun k=> !(listed.setIfInBounds j true).getD k true).length≤fuel:=by have:=bH (p:=fun k=> !listed.getD k true) (p':=fun k=> !(listed.setIfInBounds j true).getD k true) (List.range ops.size) (fun k _ hk=>by rw [BU]at hk;simp at hk ⊢;exact hk.2) ⟨j,by simpa using Uv,by simp [q1],by rw [BU];simp⟩;omega
  have T0:Qj ops (fun k=>(listed.setIfInBounds j true).getD k true):=by
   intro k ok hk Uw e he IM;simp only [BU,Bool.or_eq_true,decide_eq_true_eq]at hk ⊢;rcases hk with rfl|hk
   ·rw [q2]at Uw;cases Uw;exact .inr (JG e he IM)
   ·exact .inr (Aw k ok hk Uw e he IM)
  have JJ: ∀(a':Act) (c':Cx),c'.ρ=ρ→c'.w0=F.w0→c'.A=F.A→c'.Mu=F.Mu→(∀t,c'.U t→c.U t∨(σ.nx+Bf*j≤t∧t<σ.nx+Bf*j+Bf))→Rel c' n (B6 n (E7 n (Bb σ) xs fun k=>listed.getD k true) o.dst y.val) (AR (FK (Av σ.hp) xs fun k=>listed.getD k true) y.aw) a'→
    wpAny P .any ops Q fuel (listed.setIfInBounds j true) a' c'.w:=by
   intro a' c' g1 g2 g3 g4 g5 g6;refine ih _ a' c' (by simpa using BA) T0 g1 g2 g3 g4 (fun t ht=> ?_) (by rw [U5,Um];exact g6) Oc;rcases g5 t ht with h|h
   ·rcases h5 t h with h|⟨k,k1,k2,k3,k4⟩
    ·exact .inl h
    ·exact .inr ⟨k,k1,by rw [BU,k2];simp,k3,k4⟩
   ·exact .inr ⟨j,Uv,by rw [BU];simp,h.1,h.2⟩
  have Yq: ∀j' want d,o.guard=some (j',want)→(ops[j']?).bind (·.dst)=some d→SR c [Bb y.σ d] [a.tmps.getD d Go.undef]:=by intro j' want d hg hd;rw [F6 d (by simp only [Tb,hg,Ag];exact .inr (by simp [hd]))];exact h6.ca d
  obtain⟨_,Cs⟩:=Au y hy;cases HI:y.r with
  |none=>
   rw [HI]at Cs;have CA:=WL (c:=c) (a:=a) Cs (fun j' want d hg hd=>Yq j' want d (by rw [←Lj];exact hg) hd);unfold wpOp;simp only [q2];rw [Lj]at CA;rw [if_neg (by simp [show Region.wanted o (yielded ops a.tmps)=false from CA])];have hv:y.val=FY:=by simp [Rec.val,HI]
   have he:y.aw= []:=by simp [Rec.aw,HI]
   refine JJ _ c h1 h2 h3 h4 (fun t ht=> .inl ht) ?_;rw [hv,he];exact h6.put Xp o.dst
  |some ge=>
   obtain⟨gs,e⟩:=ge;rw [HI]at Cs;simp only at Cs;obtain⟨r1,r2,r3,r4,r5,r6⟩:=Cs;rw [Lj,Fi]at r2;rw [Fi]at r4;rw [Lj]at r1;have CA:=WL (c:=c) (a:=a) r1 Yq;have hv:y.val=mkGd gs e.val:=by simp [Rec.val,HI]
   have he:y.aw=e.aw:=by simp [Rec.aw,HI]
   simp only [NA,Ad,AJ]at r4;obtain⟨_,U3⟩:=r4;have Oz:y.log=some ⟨y.i,P9 y.σ gs y.o,e.aw.map (·.1)⟩:=by simp [Rec.log,HI]
   refine eH (c:=c) Az q2 h6 CA (fun t ht=>F6 t (by simp only [Tb,Ag,List.mem_filterMap];exact .inl ⟨.tmp t,by simpa using ht,rfl⟩)) (fun t x hx=> ?_) (fun t t1 t2 hU=> ?_) r2 (fun A8 t x hx=> ?_) (by rw [h1];exact r5) (by rw [h1];exact r6) (fun x hx=>by rw [r3]at hx;cases hx) (fun a' c' hs hr=> ?_)
   ·unfold NJ at hx;split at hx
    ·rename_i hR;rw [(c4 y hy) t]at hx;rw [←hx];refine PS xs rfl fun z hz kW=> ?_;rw [Fi];exact hW z hz t kW _ Oz (.inl (by rw [Lj];simpa using hR))
    ·cases hx
   ·rcases h5 t hU with h|⟨k,k1,k2,k3,k4⟩
    ·simp only [Bf]at*;omega
    ·have:k≠j:=by rintro rfl;rw [q1]at k2;cases k2
     simp only [Bf]at*;omega
   ·have:=U3 _ hx;have Of:gs.isEmpty=false:=by cases gs;exact absurd rfl A8;rfl
    simp only [Of,Bool.false_or,Bool.false_and,Bool.or_false,Ad,decide_eq_true_eq]at this;refine⟨this.1.1,this.1.2, ?_⟩;have h3:=this.2;split at h3
    ·exact⟨_,_,rfl,h3⟩
    ·cases h3
   ·exact JJ a' c' (hs.ρ.trans h1) (hs.w0.trans h2) (hs.A.trans h3) (hs.Mu.trans h4) hs.U (by rw [hv,he];exact hr)
end
theorem Rel.world {c:Cx} {n:Nat} {sl:Nat→SV} {hp:Nat→Option Af} {a:Act} (h:Rel c n sl hp a) (w:World) (h1:w.heap=c.w.heap) (h2:w.os=c.w.os) (h3:w.tape=c.w.tape) (h4:w.output=c.w.output):Rel {c with w:=w} n sl hp a:=by
 refine h.change (fun _=>False) ⟨rfl,rfl,fun _ _ hb=>hb,fun b _ _=>by show w.heap[b]?=_;rw [h1],fun _ _ hk=>⟨hk,rfl⟩,fun _ _ _=>⟨Nat.le_refl _,fun _=>⟨rfl,fun b _ _=>by show w.heap[b]?=_;rw [h1]⟩⟩⟩ ⟨h2.trans h.base.os,h3.trans h.base.tape,h4.trans h.base.output,by show _≤w.heap.size;rw [h1];exact h.base.size,h.base.pins,fun b hb hm=>by show w.heap[b]?=_;rw [h1];exact h.base.block b hb hm,h.base.pk,h.base.lo⟩ (fun t _=>⟨rfl,rfl,rfl,fun g hk=>hk⟩) (fun t _ b _=>by show w.heap[b]?=_;rw [h1]) (fun t ht=>ht.elim)
  ⟨h.gw.nodup,h.gw.bq,h.gw.allow,fun t b hb=>by show b<w.heap.size;rw [h1];exact h.gw.inb t b hb⟩ h.a7 h.br
theorem sZ {P:Program} {sg:Bo} {Rt:Nat→List AV→AV→Prop} (UJ:P.follows .mixedOrders=true) (Az:L8 P sg Rt) (E0:Qw P sg):dG P sg Rt:=by
 intro id ops draw σ t _ D4 jV ht F R L js ρ a w hL hd hr Q hq;obtain⟨c,rfl,rfl,h1,h2,h3,h4,h5,h6⟩:=hr;rw [List.range_eq_range']at ht;cases draw with
 |false=>refine wp_region ?_;rw [List.range_eq_range'];exact dZ Az E0 (n:=σ.sl.length) ops.size 0 [] σ t (by omega) ht c a ⟨h1,h2,h3,h4,rfl,by simpa using h5,h6⟩ hd (fun c' a' σ' hp hl Aj=>hq [] .normal σ' c'.ρ a' c'.w hp hl Aj)
 |true=>
  refine wp_region_any UJ ?_;obtain⟨τ,xs,σ',lg',g1,g2,g3,g4,g5,g6,_,g8⟩:=Ww ops.size 0 [] σ t c.ρ (by omega) ht hd h4;have Ua:=h6.ext (fun i=>by rw [h4];exact St.j3 D4 i) (fun t e he=>by rw [h4];exact St.jt D4 t e he) τ;have hw:=Ua.world {c.w with drawn:=c.w.drawn+1} rfl rfl rfl rfl;have FD: ∀k,k<ops.size→(Array.replicate ops.size false).getD k true=false:=fun k hk=>by simp [Array.getD_eq_getD_getElem?,hk]
  have Q9: ∀x∈xs,x.i<ops.size:=fun x hx=>by have:=(g1.range x hx).2;omega
  have e1:(E7 σ.sl.length (Bb σ) xs fun k=>(Array.replicate ops.size false).getD k true)=Bb σ:=by funext d;exact WS _ fun x hx _=>FD x.i (Q9 x hx)
  have e2:(FK (Av σ.hp) xs fun k=>(Array.replicate ops.size false).getD k true)=Av σ.hp:=by funext d;exact WN _ fun x hx _=>FD x.i (Q9 x hx)
  refine qM (F:=F) (n:=σ.sl.length) (c:={c.ext τ with w:={c.w with drawn:=c.w.drawn+1}}) Az g1 g2 g3 g6 g8 rfl (fun c' a' k1 k2 k3 k4 k5 k6=> ?_) ops.size (Array.replicate ops.size false) a (by simp) (fun k o hk ho=> ?_) rfl h1 h2 h3 (fun t ht=> .inl (h5 t ht)) (by rw [e1,e2];exact hw) (Nat.le_trans (List.length_filter_le _ _) (by simp))
  ·have hlen:=(g1.sl rfl).2.1;refine hq [] .normal _ c'.ρ a' c'.w (by rw [k1];exact List.prefix_append _ _) (by rw [k1];exact g5) ⟨c',rfl,rfl,k2,k3,k4,by rw [k1];exact g4,k5, ?_⟩;show Rel c' σ'.sl.length _ _ a';rw [hlen];exact k6
  ·have:=FD k (Array.getElem?_eq_some_iff.1 ho).1;have BI:(Array.replicate ops.size false).getD k true=true:=hk;rw [this]at BI;cases BI
section
variable {P:Program} {c:Cx} {n nx:Nat} {sl sl0:Nat→SV} {hp hp0:Nat→Option Af} {a:Act} {o:Oper} {gs:Gd} {e:AK} {sg:Bo} {nv:Nat}
theorem bW (h:A1 P c n nx sl hp a sl0 hp0 o gs) {op:BinOp} {t el:TypeId} {x y:Operand} {ty:TypeId} (ho:o.op= .binOp op t x y ty) (hu:P.underlying t=some (.slice el)) {p:Option Addr} {q r:Nat} (hv:a.eval x= .slice p q r) (r2:SR c [.bb] [a.eval y])
  (Az:op= .eql∨op= .neq) (E2:c.ρ[nv]?=some (.bool (Iu a o))) (x':Option E) {ck:List Cn}:Ar P o c n nx sl hp gs a {bc:=ck,a8:=x',val:= .e (if op= .eql then .var nv else .not (.var nv))}:=by
 have hb:Iu a o=p.isNone:=by simp only [Iu,ho,hv];cases p<;>rfl
 rw [hb]at E2;have ex:=fun(v u:Value) (hv:a.eval x=v) (hu:a.eval y=u)=>LW (P:=P) (o:=o) ho c.w hv hu;generalize CM:a.eval y=v2 at r2;cases r2 with
 |bb _=>
  refine Ar.pure h (v:= .bool (if op= .eql then p.isNone else !p.isNone)) ?_ ?_ rfl
  ·rw [ex _ _ hv CM,eqGuard_at_slice];rcases Az with rfl|rfl
   ·simp [Go.Lib.run_eql_slice_nil c.w t el p q r 0 0 hu]
   ·simp [binOp,Op.equal,Op.maxDepth,Go.Lib.run_equalIn_slice_nil c.w 9999 t el p q r 0 0 hu]
  ·rcases Az with rfl|rfl
   ·refine .e (f:= []) ?_ (by simp) .nil;simp only [if_true,E.den,E2,Option.getD_some];exact .bool .nil
   ·refine .e (f:= []) ?_ (by simp) .nil;simp only [reduceCtorEq,if_false,E.den,E2,Option.getD_some,AV.dw];exact .bool .nil
end
section
variable {P:Program} {c:Cx} {n nx:Nat} {sl sl0:Nat→SV} {hp hp0:Nat→Option Af} {a:Act} {o:Oper} {gs:Gd} {e:AK} {sg:Bo} {nv:Nat}
theorem PY {hp:Nat→Option Af} {gs:Gd} {m:Nat} {cs:A6} {x:E} (h:A0 hp gs m (.agg cs)=some x): ∃k l,m=k+1∧BR hp gs k cs.toList=some l∧x= .mk l:=by
 cases m with
 |zero=>simp [A0]at h
 |succ m=>simp only [A0,Ak]at h;obtain⟨l,h1,h2⟩:=h;exact⟨m,l,rfl,h1,h2.symm⟩
theorem Is {hp:Nat→Option Af} {gs:Gd} {m:Nat} {y x:E} (h:A0 hp gs m (.e y)=some x):x=y:=by
 cases m with
 |zero=>simp [A0]at h
 |succ m=>simp [A0]at h;exact h.symm
theorem Ja {hp:Nat→Option Af} {gs:Gd} {m:Nat} {x:E} (h:A0 hp gs m .bb=some x):x= .lst .nil:=by
 cases m with
 |zero=>simp [A0]at h
 |succ m=>simp [A0]at h;exact h.symm
theorem Il {hp:Nat→Option Af} {gs:Gd} {m:Nat} {s:SV} {ss:List SV} {x:EL} (h:BR hp gs m (s::ss)=some x): ∃k y l,m=k+1∧A0 hp gs k s=some y∧BR hp gs k ss=some l∧x= .cons y l:=by
 cases m with
 |zero=>simp [BR]at h
 |succ m=>
  simp only [BR]at h;split at h
  ·rename_i y l h1 h2;simp at h;exact⟨m,y,l,rfl,h1,h2,h.symm⟩
  ·cases h
theorem MO {hp:Nat→Option Af} {gs:Gd} {ρ:List AV} {w:World}: ∀(vs:List Value) (ss:List SV) (m:Nat) (x:EL),DU.go vs=some ss→BR hp gs m ss=some x→Rd w vs (x.den ρ) []
 | [],ss,m,x,h,hx=>by
  simp [DU.go]at h;subst h;cases m with
  |zero=>simp [BR]at hx
  |succ m=>simp [BR]at hx;subst hx;exact .nil
 |v::vs,ss,m,x,h,hx=>by
  unfold DU.go at h;split at h
  ·rename_i hh;cases hh
  ·rename_i k q l hh;cases hh;split at h
   ·rename_i hk;obtain⟨l',h1,rfl⟩:=Ak.1 h;obtain⟨j,y,l2,rfl,h2,h3,rfl⟩:=Il hx;rw [Is h2];exact .int hk (MO _ _ _ _ h1 h3)
   ·cases h
  ·rename_i q l hh;cases hh;obtain⟨l',h1,rfl⟩:=Ak.1 h;obtain⟨j,y,l2,rfl,h2,h3,rfl⟩:=Il hx;rw [Is h2];exact .bool (MO _ _ _ _ h1 h3)
  ·rename_i q l hh;cases hh;split at h
   ·rename_i hk;obtain⟨l',h1,rfl⟩:=Ak.1 h;obtain⟨j,y,l2,rfl,h2,h3,rfl⟩:=Il hx;rw [Is h2];exact .str hk (MO _ _ _ _ h1 h3)
   ·cases h
  ·rename_i l hh;cases hh;obtain⟨l',h1,rfl⟩:=Ak.1 h;obtain⟨j,y,l2,rfl,h2,h3,rfl⟩:=Il hx;rw [Ja h2];exact .df (MO _ _ _ _ h1 h3)
  ·rename_i l hh;cases hh;obtain⟨l',h1,rfl⟩:=Ak.1 h;obtain⟨j,y,l2,rfl,h2,h3,rfl⟩:=Il hx;rw [Is h2];exact .cz (MO _ _ _ _ h1 h3)
  ·cases h
theorem V5 {hp:Nat→Option Af} {gs:Gd} {ρ:List AV} {w:World} {v:Value} {s:SV} {m:Nat} {x:E} (h:DU v=some s) (hx:A0 hp gs m s=some x):
  Rd w v.cells.toList (x.den ρ).cells []∧(∀u∈v.cells.toList,u.oneCell'=true):=by
 have one: ∀{v:Value} {y:AV},Rd w [v] [y] []→(∀cs,y≠ .agg cs)→(∀cs,y≠ .tup cs)→Rd w v.cells.toList y.cells []∧(∀u∈v.cells.toList,u.oneCell'=true):=by
  intro v y hr h1 h2;have h3:=VZ hr h1 h2;have h4:y.cells= [y]:=by cases y<;>first|rfl|exact absurd rfl (h1 _)
  rw [one_cells h3,h4];exact⟨by simpa using hr,by simpa using h3⟩
 unfold DU at h;split at h
 ·split at h
  ·rename_i hk;simp at h;subst h;rw [Is hx];exact one (.int hk .nil) (by simp [E.den]) (by simp [E.den])
  ·cases h
 ·simp at h;subst h;rw [Is hx];exact one (.bool .nil) (by simp [E.den]) (by simp [E.den])
 ·split at h
  ·rename_i hk;simp at h;subst h;rw [Is hx];exact one (.str hk .nil) (by simp [E.den]) (by simp [E.den])
  ·cases h
 ·simp at h;subst h;rw [Ja hx];exact one (.df .nil) (by simp [E.den]) (by simp [E.den])
 ·simp at h;subst h;rw [Is hx];exact one (.cz .nil) (by simp [E.den]) (by simp [E.den])
 ·rename_i cs;simp only [Option.bind_eq_bind,An,Ac]at h;obtain⟨l,hl,rfl⟩:=h;obtain⟨k,l',rfl,h1,rfl⟩:=PY hx;rw [A6.aj]at h1;exact⟨MO _ _ _ _ hl h1,V3 _ _ hl⟩
 ·cases h
theorem Xz {w:World} {vs:List Value} {x:AV} (h:Rd w vs x.cells []): ∀k,Rd w (List.replicate k vs).flatten (Ay (List.replicate k x)) []
 |0=> .nil
 |k+1=>by simp only [List.replicate_succ,List.flatten_cons,Ay,List.flatMap_cons];have:=h.app (Xz h k);simpa [Ay]using this
theorem RR (z:Array Value) (hz:0<z.size): ∀k,(madeCells z (k*z.size)).toList=(List.replicate k z.toList).flatten
 |0=>by simp [madeCells]
 |k+1=>by
  have ih:=RR z hz k;simp only [madeCells,Array.toList_map,Array.toList_range]at ih ⊢;rw [Nat.add_mul,Nat.one_mul,List.range_add,List.map_append,ih,List.replicate_succ',List.flatten_append];congr 1;simp only [List.map_map,List.flatten_cons,List.flatten_nil,List.append_nil];apply List.ext_getElem?;intro i;simp only [List.getElem?_map,List.getElem?_range'];by_cases hi:i<z.size
  ·simp only [List.getElem?_range hi,Option.map_some,Function.comp_apply];have:(k*z.size+i) % z.size=i:=by rw [Nat.add_comm,Nat.add_mul_mod_self_right,Nat.mod_eq_of_lt hi]
   simp [this,hi]
  ·rw [List.getElem?_eq_none (by simpa using hi),List.getElem?_eq_none (by simpa using hi)];rfl
theorem qD (h:A1 P c n nx sl hp a sl0 hp0 o gs) {t:TypeId} {l m:Operand} (ho:o.op= .makeSlice t l m) {s1 s2:SV} (Bj:Bk sl0 gs l=some s1) (AL:Bk sl0 gs m=some s2) (he:Xo P hp0 gs nx t s1 s2=some e) (hc: ∀q∈e.bc,Cn.den c.ρ q):Ar P o c n nx sl hp gs a e:=by
 have Dj:l∈o.op.operands:=by simp [ho,Op.operands]
 have CZ:m∈o.op.operands:=by simp [ho,Op.operands]
 unfold Xo at he;split at he
 ·rename_i el x y A7;have A7:=Ik A7;split at he
  ·cases he
  rename_i hz;have hz:GO P el=true:=by simpa using hz
  obtain⟨i,z,hi,ES,C4,BA,BX,Ff⟩:=I9 hz;have r1:=h.bz Bj Dj;have r2:=h.bz AL CZ;have ival: ∀{x:E} {kk:IntKind} {k:Int} {v:Value},SR c [.e x] [v]→x.den c.ρ= .int kk k→v= .int kk k:=by
   intro x kk k v hr hx;cases hr with
   |e h1 _ _=>exact(Fo h1 hx).1
  split at he
  ·rename_i FO;split at he
   ·rename_i s hs;have hs:DU z=some s:=by simpa [hi,ES]using hs
    obtain⟨w,hw,rfl⟩:=Ak.1 he;obtain⟨kk,k,hk,h0,hb,hle⟩:Cn.den c.ρ (.mkroom x (P.bytesOf el)):=Bw hc;have Eh:=ival r1 hk;have CM:=ival r2 (by rw [←E.af c.ρ _ _ FO];exact hk);obtain⟨c1,c2⟩:=V5 (w:=c.w) (ρ:=c.ρ) hs hw;obtain⟨kn,rfl⟩:=Int.eq_ofNat_of_zero_le h0;have CW:(i.bytes:Int)*(kn:Int)≤281474976710656:=by rw [Ff]at hb;rw [Int.mul_comm];omega
    have hlen:=c1.len;have QY:=RR z.cells (by omega) kn;have AH:=run_make (P:=P) c.w t el i z A7 hi ES kk kk kn kn (by omega) (Int.le_refl _) CW (by omega);have Eg:(madeCells z.cells (kn*z.cells.size)).size=kn*P.cellsOf el:=by rw [size_madeCells,C4,BX]
    have B8:(madeCells z.cells (kn*z.cells.size)).toList.take ((List.replicate kn (w.den c.ρ)).length*P.cellsOf el)=(List.replicate kn z.cells.toList).flatten:=by rw [List.length_replicate,List.take_of_length_le (by rw [Array.length_toList,Eg];exact Nat.le_refl _),QY]
    refine Ar.newRow (xs:=List.replicate kn (w.den c.ρ)) (N:= []) (C:=madeCells z.cells (kn*z.cells.size)) (cap:=kn) (wd:=c.w) (fz:= []) (ts:= []) h rfl ⟨rfl,rfl,rfl,rfl⟩ ?_ ?_ (by omega) (fun u hu=> ?_) (by simp) (by simp only [maxLen];omega) Eg ?_ ?_ (by simp) (fun _=>rfl)
    ·simp only [execOp,ho,Eh,CM,Sem.run_bind,Int.ofNat_eq_natCast,List.length_replicate];rw [AH,C4];rfl
    ·simp [E.den,hk,AV.rep]
    ·rw [List.eq_of_mem_replicate hu,←hlen,Array.length_toList,C4,BX]
    ·rw [B8];intro u hu;obtain⟨q,hq,hu⟩:=List.mem_flatten.1 hu;rw [List.eq_of_mem_replicate hq]at hu;exact c2 u hu
    ·rw [B8];exact Xz c1 kn
   ·cases he
  ·split at he
   ·rename_i k0 _;simp only [Ac]at he;subst he;obtain⟨kk,k,hk,h0,hb,hle⟩:Cn.den c.ρ (.mkroom y (P.bytesOf el)):=Bw hc;have Eh:=ival r1 (show(E.int k0 0).den c.ρ= .int k0 0 from rfl);have CM:=ival r2 hk;obtain⟨kn,rfl⟩:=Int.eq_ofNat_of_zero_le h0;have CW:(i.bytes:Int)*(kn:Int)≤281474976710656:=by
     rw [Ff]at hb;rw [Int.mul_comm];omega
    have AH:=run_make (P:=P) c.w t el i z A7 hi ES k0 kk 0 kn (by omega) (by omega) CW (by omega);refine Ar.newRow (xs:= []) (N:= []) (C:=madeCells z.cells (kn*i.size)) (cap:=kn) (wd:=c.w) (fz:= []) (ts:= []) h rfl ⟨rfl,rfl,rfl,rfl⟩ ?_ rfl (by omega) (by simp) (by simp) (by simp only [maxLen];omega) (by rw [size_madeCells,BX]) (by simp) (by simpa [Ay]using Rd.nil) (by simp) (fun _=>rfl);simp only [execOp,ho,Eh,CM,Sem.run_bind,Int.ofNat_eq_natCast];rw [AH];rfl
   ·cases he
 ·cases he
end
section
variable {P:Program} {c:Cx} {n nx:Nat} {sl sl0:Nat→SV} {hp hp0:Nat→Option Af} {a:Act} {o:Oper} {gs:Gd} {e:AK} {sg:Bo} {nv:Nat}
def Na (v:Option Value) (k d:Nat):Prop:=(v=none∧k=d)∨ ∃kk,v=some (.int kk (k:Int))
theorem VD {w:World} {t el:TypeId} (hu:P.underlying t=some (.slice el)) (AZ:CG P el=true) (p:Option Addr) (m r l h:Nat) {lo hi:Option Value} (BD:Na lo l 0) (KR:Na hi h m) (h1:l≤h) (h2:h≤m) (h3:m≤r):
  (Instr.sliceAt t (.slice p m r) lo hi none).run P w= .ok (sliced p l h r (P.cellsOf el)) w:=by
 have Ew:P.underlying t=some (.slice (P.elem t)):=by simp [Program.elem,hu]
 have he:P.elem t=el:=by simp [Program.elem,hu]
 have hs:(sizeOf (P.elem t)).run P w= .ok (P.cellsOf el) w:=by rw [he];exact LC AZ w
 rw [run_sliceAt_slice w t _ _ _ _ Ew];rcases BD with⟨rfl,rfl⟩|⟨kl,rfl⟩<;>rcases KR with⟨rfl,rfl⟩|⟨kh,rfl⟩
 ·rw [run_slice_all w t p h r Ew,hs];rfl
 ·rw [run_slice_h w t p m r Ew kh _ (by omega) (by omega),hs];rfl
 ·rw [run_slice_l w t p h r Ew kl _ (by omega) (by omega),hs];rfl
 ·rw [run_slice_lh w t p m r Ew kl kh _ _ (by omega) (by omega) (by omega),hs];rfl
theorem pB (s:ByteArray) (a b:Nat):(s.extract a b).data.toList=(s.data.toList.drop a).take (b-a):=by rw [ByteArray.data_extract,Array.toList_extract,List.extract_eq_take_drop]
theorem mN {w:World} {t:TypeId} (hu:P.underlying t=some .string) (s:ByteArray) (l h:Nat) {lo hi:Option Value} (BD:Na lo l 0) (KR:Na hi h s.size) (h1:l≤h) (h2:h≤s.size):
  (Instr.sliceAt t (.string s) lo hi none).run P w= .ok (.string (s.extract l h)) w:=by
 rw [run_sliceAt_string w t _ _ _ _ hu];rcases BD with⟨rfl,rfl⟩|⟨kl,rfl⟩<;>rcases KR with⟨rfl,rfl⟩|⟨kh,rfl⟩
 ·rw [run_slice_string_all w t s hu]
 ·rw [run_slice_string_h w t s hu kh _ (by omega) (by omega)];rfl
 ·rw [run_slice_string_l w t s hu kl _ (by omega) (by omega)];rfl
 ·rw [run_slice_string w t s kl kh _ _ hu (by omega) (by omega) (by omega)];rfl
theorem WG {sz:Nat} (ys:List AV) (hs: ∀y∈ys,y.cells.length=sz) (l h:Nat) (hl:l≤h) (hh:h≤ys.length):((Ay ys).drop (l*sz)).take ((h-l)*sz)=Ay ((ys.take h).drop l):=by
 have e:ys=ys.take l++((ys.take h).drop l++ys.drop h):=by
  rw [←List.append_assoc];have:ys.take l++(ys.take h).drop l=ys.take h:=by
   have h2:ys.take l=(ys.take h).take l:=by rw [List.take_take,Nat.min_eq_left hl]
   rw [h2,List.take_append_drop]
  rw [this,List.take_append_drop]
 have f1:Ay ys=Ay (ys.take l)++(Ay ((ys.take h).drop l)++Ay (ys.drop h)):=by
  conv=>lhs;rw [e]
  simp [Ay]
 have l1:(Ay (ys.take l)).length=l*sz:=by rw [Kj _ (fun y hy=>hs y (List.mem_of_mem_take hy)),List.length_take,Nat.min_eq_left (by omega)]
 have l2:(Ay ((ys.take h).drop l)).length=(h-l)*sz:=by rw [Kj _ (fun y hy=>hs y (List.mem_of_mem_take (List.mem_of_mem_drop hy))),List.length_drop,List.length_take,Nat.min_eq_left (by omega)]
 rw [f1,←l1,List.drop_left,←l2,List.take_left]
theorem wO {w:World} {v:Value} {ys:List AV} {f:List Nat} {sz:Nat} (hr:Rd w [v] [.sl ys] f) (hs: ∀y∈ys,y.cells.length=sz) (l h:Nat) (hl:l≤h) (hh:h≤ys.length):
  ∃p r g,v= .slice p ys.length r∧ys.length≤r∧Rd w [sliced p l h r sz] [.sl ((ys.take h).drop l)] g∧ ∀b∈g,b∈f:=by
 cases hr with
 |df _=>
  rename_i p r;have hh:h=0:=by simpa using hh
  subst hh;have hl:l=0:=by omega
  subst hl;exact⟨_,_, [],rfl,Nat.zero_le _,by simpa [sliced]using Rd.df .nil,by simp⟩
 |dz hb h1 h2 h3 h4 h5 h6 F4 h7 h8=>
  rename_i b o m r cs C t fz sz' f1 f2;have hy: ∃y,y∈ys:=by cases ys with|nil=>simp at h3;omega|cons y _=>exact⟨y,by simp⟩
  obtain⟨y0,G6⟩:=hy;have E5:sz'=sz:=(h4 y0 G6).symm.trans (hs y0 G6);subst E5;subst h3;refine⟨some ⟨b,o,none⟩,r, ?_⟩;rcases Nat.eq_or_lt_of_le hl with he|Am
  ·subst he;refine⟨[],rfl,h2.2, ?_,by simp⟩;have:(ys.take l).drop l= []:=List.drop_eq_nil_of_le (by simp;omega);rw [this];simp only [sliced,Nat.sub_self];exact .df .nil
  ·have Ea:=h7.len;obtain⟨g,hg,CL⟩:=h7.piece (l*sz') ((h-l)*sz');rw [WG ys h4 l h hl hh]at CL;refine⟨b::(g++ []),rfl,h2.2, ?_,fun x hx=> ?_⟩
   ·have B7:sliced (some (⟨b,o,none⟩:Addr)) l h r sz'= .slice (some ⟨b,o+l*sz',none⟩) (h-l) (r-l):=by
     unfold sliced;split
     ·exfalso;omega
     ·simp [Addr.add_lit]
    rw [B7];refine Rd.dz (cs:=(cs.drop (l*sz')).take ((h-l)*sz')) hb (by omega) ⟨by omega,by omega⟩ (by simp;omega) (fun y hy=>h4 y (List.mem_of_mem_take (List.mem_of_mem_drop hy))) h5 (fun j u hu=> ?_) (fun u hu=>F4 u (List.mem_of_mem_drop (List.mem_of_mem_take hu))) CL .nil;rw [List.getElem?_take]at hu;split at hu
    ·rw [List.getElem?_drop]at hu;have:=h6 _ _ hu;rw [←this];congr 1;omega
    ·cases hu
   ·simp only [List.append_nil,Ae]at hx;rcases hx with rfl|hx
    ·simp
    ·have:=hg x hx;simp [this]
theorem HX {f:Operand→Option SV} {x:Option Operand} {r:Option SV} (h:H7 f x=some r):(x=none∧r=none)∨ ∃y z,x=some y∧f y=some z∧r=some z:=by
 cases x with
 |none=>simp [H7]at h;exact .inl ⟨rfl,h.symm⟩
 |some y=>obtain⟨z,hz,rfl⟩:=Ak.1 h;exact .inr ⟨y,z,rfl,hz,rfl⟩
theorem Sl {s:Option SV} {d l:E} (h:Kz s d=some l):(s=none∧l=d)∨s=some (.e l):=by
 unfold Kz at h;split at h
 ·simp at h;exact .inl ⟨rfl,h.symm⟩
 ·simp at h;subst h;exact .inr rfl
 ·cases h
theorem pR (h:A1 P c n nx sl hp a sl0 hp0 o gs) {t:TypeId} {x:Operand} {lo hi mx:Option Operand} (ho:o.op= .slice t x lo hi mx) {s:SV} (hs:Bk sl0 gs x=some s) {l' h' m':Option SV} (Bi:H7 (Bk sl0 gs) lo=some l') (JL:H7 (Bk sl0 gs) hi=some h') (EU:H7 (Bk sl0 gs) mx=some m') (he:WO P hp0 gs t s l' h' m'=some e) (hc: ∀q∈e.bc,Cn.den c.ρ q):Ar P o c n nx sl hp gs a e:=by
 have hm:x∈o.op.operands:=by simp [ho,Op.operands]
 have KY: ∀y,lo=some y→y∈o.op.operands:=fun y hy=>by simp [ho,Op.operands,hy]
 have IZ: ∀y,hi=some y→y∈o.op.operands:=fun y hy=>by simp [ho,Op.operands,hy]
 have UI: ∀y,mx=some y→y∈o.op.operands:=fun y hy=>by simp [ho,Op.operands,hy]
 have hx:=h.bz hs hm;have ival: ∀{x:E} {kk:IntKind} {k:Int} {v:Value},SR c [.e x] [v]→x.den c.ρ= .int kk k→v= .int kk k:=by
  intro x kk k v hr hx;cases hr with
  |e h1 _ _=>exact(Fo h1 hx).1
 unfold WO at he;split at he
 ·cases he
 rename_i y hy;obtain⟨f,q1,q2⟩:=h.jc hs hm hy;have ex:(execOp a.eval o).run P c.w=((Instr.sliceAt t (a.eval x) (lo.map a.eval) (hi.map a.eval) (mx.map a.eval)).run P c.w).andThen fun v w=> .ok (.value v) w:=by simp [execOp,ho]
 split at he
 ·split at he
  ·rename_i el _ _ hu;split at he
   ·rename_i AZ;simp only [Ac]at he;subst he;have hd:(y.den c.ρ).len≠ .undef:=Bw hc;cases A4:y.den c.ρ<;>simp only [A4,AV.len,ne_eq,not_true_eq_false]at hd;rename_i xs;have hl:(y.den c.ρ).len= .int .i64 (xs.length:Int):=by rw [A4];rfl
    obtain⟨p,q,r,hv⟩: ∃p q r,a.eval x= .slice p q r:=by
     rcases M3 q1 hl with⟨p,q,hv,Di⟩|⟨b,o',k,q,hv,Di⟩
     ·exact⟨_,_,_,hv⟩
     ·exact⟨_,_,_,hv⟩
    rcases HX Bi with⟨rfl,_⟩|⟨_,_,_,_,hh⟩
    ·rcases HX JL with⟨_,hh⟩|⟨oh,sh,rfl,kF,hh⟩
     ·cases hh
     ·cases hh;rcases HX EU with⟨_,hh⟩|⟨om,sm,rfl,kG,hh⟩
      ·cases hh
      ·cases hh;have v1:=(fun{kk:IntKind} (hr:SR c [.e (.int kk 0)] [a.eval oh])=>ival hr (show(E.int kk 0).den c.ρ= .int kk 0 from by simp only [E.den])) (h.bz kF (IZ _ rfl))
       have v2:=(fun{kk:IntKind} (hr:SR c [.e (.int kk 0)] [a.eval om])=>ival hr (show(E.int kk 0).den c.ρ= .int kk 0 from by simp only [E.den])) (h.bz kG (UI _ rfl))
       have Ew:P.underlying t=some (.slice (P.elem t)):=by simp [Program.elem,hu]
       have A7:P.elem t=el:=by simp [Program.elem,hu]
       refine Ar.pure h (v:= .slice p 0 0) ?_ (.emp .nil) rfl;rw [ex,hv];simp only [Option.map_none,Option.map_some,v1,v2];rw [run_sliceAt_slice c.w t _ _ _ _ Ew,run_slice_hm c.w t p q r Ew _ _ 0 0 (by omega) (by omega) (by omega),A7,LC AZ];simp [sliced]
    ·cases hh
   ·cases he
  ·cases he
 ·have KZ:mx=none:=by
   rcases HX EU with⟨hh,_⟩|⟨_,_,_,_,hh⟩
   ·exact hh
   ·cases hh
  subst KZ;have blo: ∀(l:E) (kk:IntKind) (k:Nat),Kz l' (.int .i64 0)=some l→l.den c.ρ= .int kk k→Na (lo.map a.eval) k 0:=by
   intro l kk k hl hk;rcases HX Bi with⟨rfl,rfl⟩|⟨ol,sl',rfl,B7,rfl⟩
   ·rcases Sl hl with⟨_,rfl⟩|hh
    ·simp only [E.den,AV.int.injEq]at hk;exact .inl ⟨rfl,by omega⟩
    ·cases hh
   ·rcases Sl hl with⟨hh,_⟩|hh
    ·cases hh
    ·cases hh;exact .inr ⟨kk,by rw [Option.map_some,ival (h.bz B7 (KY _ rfl)) hk]⟩
  have bhi: ∀(d l:E) (kk:IntKind) (k m:Nat),Kz h' d=some l→l.den c.ρ= .int kk k→d.den c.ρ= .int .i64 (m:Int)→Na (hi.map a.eval) k m:=by
   intro d l kk k m hl hk hd;rcases HX JL with⟨rfl,rfl⟩|⟨ol,sl',rfl,B7,rfl⟩
   ·rcases Sl hl with⟨_,rfl⟩|hh
    ·rw [hd]at hk;simp only [AV.int.injEq]at hk;exact .inl ⟨rfl,by omega⟩
    ·cases hh
   ·rcases Sl hl with⟨hh,_⟩|hh
    ·cases hh
    ·cases hh;exact .inr ⟨kk,by rw [Option.map_some,ival (h.bz B7 (IZ _ rfl)) hk]⟩
  split at he
  ·rename_i hu;split at he
   ·rename_i l hb q IY KQ;simp only [Ac]at he;subst he;obtain⟨ka,ai,kb,bi,bs,d1,d2,d3,d4,d5,d6⟩:Cn.den c.ρ (.winS y l hb):=Bw hc;obtain⟨an,rfl⟩:=Int.eq_ofNat_of_zero_le d4;obtain⟨bn,rfl⟩:=Int.eq_ofNat_of_zero_le (Int.le_trans d4 d5);obtain⟨ss,hv,rfl,hle⟩:=Ns q1 d3;have BA:ss.data.toList.length=ss.size:=by simp
    have AH:=mN (P:=P) (w:=c.w) hu ss an bn (blo l ka an IY d1) (bhi (.slen y) hb kb bn ss.size KQ d2 (by simp only [E.den,d3,AV.slen];simp)) (by omega) (by omega);refine Ar.pure h (v:= .string (ss.extract an bn)) ?_ (.b8 ?_) rfl
    ·rw [ex,hv,Option.map_none,AH];rfl
    ·simp only [E.den,d1,d2,d3,AV.swin];have:(List.take (bn:Int).toNat ss.data.toList).drop (an:Int).toNat=(ss.extract an bn).data.toList:=by
      simp [pB,List.drop_take]
     rw [this];exact .str (by simp only [ByteArray.size_extract];omega) .nil
   ·cases he
  ·rename_i el hu;split at he
   ·cases he
   rename_i AZ;have AZ:CG P el=true:=by simpa using AZ
   split at he
   ·rename_i l hb fz IY KQ F5;simp only [Ac]at he;subst he;have A2:Cn.den c.ρ (.issl y (P.cellsOf el)):=Bw hc;obtain⟨ys,CH,Lh⟩:=A2;obtain⟨ka,ai,kb,bi,m,d1,d2,d3,d4,d5,d6⟩:Cn.den c.ρ (.win y l hb):=hc _ (by simp);obtain⟨an,rfl⟩:=Int.eq_ofNat_of_zero_le d4;obtain⟨bn,rfl⟩:=Int.eq_ofNat_of_zero_le (Int.le_trans d4 d5);rw [CH]at q1;have zA:(m:Int)=ys.length:=by rw [CH]at d3;simpa [AV.len]using d3.symm
    split at F5
    ·rename_i Hv;obtain⟨p,r,g,hv,hr,CL,hg⟩:=wO q1 Lh an bn (by omega) (by omega);have AH:=VD (P:=P) (w:=c.w) hu AZ p ys.length r an bn (blo l ka an IY d1) (bhi (.len y) hb kb bn ys.length KQ d2 (by simp only [E.den,CH,AV.len])) (by omega) (by omega) hr;intro next Q hk
     unfold Oper.wp;rw [ex,hv,Option.map_none,AH];show Oper.upon P o a next Q (.ok (.value _) c.w)
     rw [Oper.upon_value];have Aj:=h.rel.freeze h.hp h.gs F5;have Au: ∀b∈g,(c.ay (fz.map (·.1))).ok b:=fun b hb=>Pv h.rel h.eh h.gs F5 Hv (q2 b (hg b hb));refine hk _ (c.ay (fz.map (·.1))) ⟨rfl,rfl,rfl,rfl,fun t ht=> .inl ht⟩ (Aj.put (SR.mkGd (.e (f:=g) ?_ Au .nil) gs h.gs) o.dst);show Rd c.w _ [(E.win y l hb).den c.ρ] g;simp only [E.den,d1,d2,CH,AV.win,Int.ofNat_eq_natCast,Int.toNat_natCast];exact CL
    ·cases F5
   ·cases he
  ·cases he
end
section
variable {P:Program} {c:Cx} {n nx:Nat} {sl sl0:Nat→SV} {hp hp0:Nat→Option Af} {a:Act} {o:Oper} {gs:Gd} {e:AK} {sg:Bo} {nv:Nat}
theorem Nw {w:World} {v:Value} {x:AV} {f:List Nat} {k:SK} (h:Rd w [v] [x] f) (hk:x.sk=some k):(∃kk n,k= .int kk∧v= .int kk n∧x= .int kk n)∨(∃b,k= .bool∧v= .bool b∧x= .bool b)∨ ∃s:ByteArray,k= .str∧v= .string s∧x= .str s.data.toList:=by
 cases h<;>simp [AV.sk]at hk
 ·exact .inl ⟨_,_,hk.symm,rfl,rfl⟩
 ·exact .inr (.inl ⟨_,hk.symm,rfl,rfl⟩)
 ·exact .inr (.inr ⟨_,hk.symm,rfl,rfl⟩)
theorem Wa {t:TypeId} (h:(∃k,P.underlying t=some (.int k))∨P.underlying t=some .bool∨P.underlying t=some .string):Ai P t=false:=by rcases h with⟨k,h⟩|h|h<;>simp [Ai,h]
theorem ZB {w:World} (d:Nat): ∀(fs:List Field) (j:Nat) (ks:List SK) {as_ bs:List Value} {cs ds:List AV} {f g:List Nat},Nl P j fs=some ks→Rd w as_ cs f→Rd w bs ds g→(cs.drop j).map AV.sk=ks.map some→(ds.drop j).map AV.sk=ks.map some→
  (Op.eqFields (d+1) as_.toArray bs.toArray fs).run P w= .ok (AV.leq (cs.drop j) (ds.drop j)) w
 | [],j,ks,as_,bs,cs,ds,f,g,hk,h1,h2,k1,k2=>by
  simp [Nl]at hk;subst hk;have e1:cs.drop j= []:=by simpa using k1
  have e2:ds.drop j= []:=by simpa using k2
  rw [e1,e2];simp [Op.eqFields,AV.leq]
 |fd::fs,j,ks,as_,bs,cs,ds,f,g,hk,h1,h2,k1,k2=>by
  unfold Nl at hk;split at hk
  ·cases hk
  rename_i At;simp only [not_or,Bool.not_eq_true',Decidable.not_not,ne_eq,Bool.not_eq_false]at At;obtain⟨hn,ho,AZ,Bw⟩:=At;have main: ∀(k:SK) (l:List SK),ks=k::l→Nl P (j+1) fs=some l→(∀a b (x y:AV) f g,Rd w [a] [x] f→Rd w [b] [y] g→x.sk=some k→y.sk=some k→(Op.equalIn (d+1) fd.type a b).run P w= .ok (x.seq y) w)→Ai P fd.type=false→
    (Op.eqFields (d+1) as_.toArray bs.toArray (fd::fs)).run P w= .ok (AV.leq (cs.drop j) (ds.drop j)) w:=by
   rintro k l rfl hl heq Gx;have Ur:j<cs.length:=by
    rcases Nat.lt_or_ge j cs.length with hh|hh
    ·exact hh
    ·rw [List.drop_eq_nil_of_le hh]at k1;simp at k1
   have Us:j<ds.length:=by
    rcases Nat.lt_or_ge j ds.length with hh|hh
    ·exact hh
    ·rw [List.drop_eq_nil_of_le hh]at k2;simp at k2
   rw [List.drop_eq_getElem_cons Ur]at k1;rw [List.drop_eq_getElem_cons Us]at k2;simp only [List.map_cons,List.cons.injEq]at k1 k2;have l1:=h1.len;have l2:=h2.len;obtain⟨v,f1,hv,_,r1⟩:=h1.at (show cs[j]?=some cs[j] by simp [Ur])
   obtain⟨u,g1,hu,_,r2⟩:=h2.at (show ds[j]?=some ds[j] by simp [Us])
   have p1:=PV AZ as_ fd.offset (by omega) (.inr Bw) w;have p2:=PV AZ bs fd.offset (by omega) (.inr Bw) w;have e1:((as_.drop fd.offset).take (P.cellsOf fd.type)).headD Go.undef=v:=by rw [Bw,ho,List.drop_eq_getElem_cons (by omega),List.take_succ_cons];simpa [show j<as_.length by omega]using hv
   have e2:((bs.drop fd.offset).take (P.cellsOf fd.type)).headD Go.undef=u:=by rw [Bw,ho,List.drop_eq_getElem_cons (by omega),List.take_succ_cons];simpa [show j<bs.length by omega]using hu
   rw [Gx,e1]at p1;rw [Gx,e2]at p2;have ih:=ZB (w:=w) d fs (j+1) l hl h1 h2 k1.2 k2.2;rw [List.drop_eq_getElem_cons Ur,List.drop_eq_getElem_cons Us];simp only [Op.eqFields,ne_eq,hn,not_false_eq_true,if_true,Sem.run_bind,p1,p2,AY,if_false,Result.andThen_ok,heq v u _ _ _ _ r1 r2 k1.1 k2.1];cases hb:(cs[j]).seq ds[j]with
   |true=>simpa [AV.leq,hb]using ih
   |false=>simp [AV.leq,hb]
  split at hk
  ·rename_i k l hu hl;simp at hk;refine main _ _ hk.symm hl (fun a b x y f g ra rb hx hy=> ?_) (Wa (.inl ⟨_,hu⟩));rcases Nw ra hx with⟨kk,m,h5,rfl,rfl⟩|⟨_,h5,_⟩|⟨_,h5,_⟩<;>cases h5
   rcases Nw rb hy with⟨kk,m2,h5,rfl,rfl⟩|⟨_,h5,_⟩|⟨_,h5,_⟩<;>cases h5
   exact run_equalIn_int w d fd.type _ _ _ _ hu
  ·rename_i l hu hl;simp at hk;refine main _ _ hk.symm hl (fun a b x y f g ra rb hx hy=> ?_) (Wa (.inr (.inl hu)));rcases Nw ra hx with⟨kk,m,h5,_⟩|⟨_,_,rfl,rfl⟩|⟨_,h5,_⟩<;>try cases h5
   rcases Nw rb hy with⟨kk,m,h5,_⟩|⟨_,_,rfl,rfl⟩|⟨_,h5,_⟩<;>try cases h5
   exact Wp d _ _ hu w
  ·rename_i l hu hl;simp at hk;refine main _ _ hk.symm hl (fun a b x y f g ra rb hx hy=> ?_) (Wa (.inr (.inr hu)));rcases Nw ra hx with⟨kk,m,h5,_⟩|⟨_,h5,_⟩|⟨_,_,rfl,rfl⟩<;>try cases h5
   rcases Nw rb hy with⟨kk,m,h5,_⟩|⟨_,h5,_⟩|⟨_,_,rfl,rfl⟩<;>try cases h5
   rw [run_equalIn_string w d _ _ _ hu,Zp];rfl
  ·cases hk
theorem tM (h:A1 P c n nx sl hp a sl0 hp0 o gs) {op:BinOp} {t:TypeId} {x y:Operand} {ty:TypeId} (ho:o.op= .binOp op t x y ty) {fs:Array Field} (hu:P.underlying t=some (.struct fs)) (he:Bc P sg sl0 hp0 nv nx gs o=some e) (hc: ∀q∈e.bc,Cn.den c.ρ q):Ar P o c n nx sl hp gs a e:=by
 have Dj:x∈o.op.operands:=by simp [ho,Op.operands]
 have CZ:y∈o.op.operands:=by simp [ho,Op.operands]
 simp only [Bc,ho,An]at he;obtain⟨s1,Bj,s2,AL,he⟩:=he;unfold Nk at he;simp only [hu]at he;split at he
 ·cases he
 rename_i hg;simp only [Bool.or_eq_true,not_or,Bool.not_eq_true]at hg;split at he
 ·rename_i ks x' y' jH Cp A4;obtain⟨f1,q1,_⟩:=h.jc Bj Dj Cp;obtain⟨f2,q2,_⟩:=h.jc AL CZ A4;have Dt:P.underlying t=some (.struct (P.fieldsOf t)):=by simp [Program.fieldsOf,hu]
  have JH:P.fieldsOf t=fs:=by simp [Program.fieldsOf,hu]
  have key: ∀(k1:Cn.den c.ρ (.kinds x' ks)) (k2:Cn.den c.ρ (.kinds y' ks)),∃as_ bs:List Value,∃b,a.eval x= .agg as_.toArray∧a.eval y= .agg bs.toArray∧(E.aeq x' y').den c.ρ= .bool b∧(Op.equalIn 10000 t (.agg as_.toArray) (.agg bs.toArray)).run P c.w= .ok b c.w:=by rintro⟨cs,A2,k1⟩ ⟨ds,FC,k2⟩;obtain⟨as_,Eh,_,r1⟩:=H0 q1 A2;obtain⟨bs,CM,_,r2⟩:=H0 q2 FC;refine⟨as_,bs,AV.leq cs ds,Eh,CM,by simp only [E.den,A2,FC,AV.aeq], ?_⟩;rw [run_equalIn_struct c.w 9999 t _ _ Dt hg.1,JH];exact ZB (w:=c.w) 9998 fs.toList 0 ks jH r1 r2 (by simpa using k1) (by simpa using k2)
  split at he
  ·simp only [Ac]at he;subst he;obtain⟨as_,bs,b,Eh,CM,hd,hr⟩:=key (hc _ (by simp)) (hc _ (by simp));refine Ar.pure h (v:= .bool b) ?_ (.b8 (by rw [hd];exact .bool .nil)) rfl;rw [LW ho c.w Eh CM];simp [run_eqGuard_agg c.w _ t x y _ _ hg.2,run_eql_struct,hr]
  ·simp only [Ac]at he;subst he;obtain⟨as_,bs,b,Eh,CM,hd,hr⟩:=key (hc _ (by simp)) (hc _ (by simp));refine Ar.pure h (v:= .bool (!b)) ?_ (.b8 (by simp only [E.den]at hd ⊢;rw [hd];exact .bool .nil)) rfl;rw [LW ho c.w Eh CM];simp [run_eqGuard_agg c.w _ t x y _ _ hg.2,run_neq_struct,hr]
  ·cases he
 ·cases he
theorem ZI (h:A1 P c n nx sl hp a sl0 hp0 o gs) {x y:Operand} {cl:Call} (ho:o.op= .call cl) {op:BinOp} (Az:(op= .gtr∧cl.callee= .builtin .max)∨(op= .lss∧cl.callee= .builtin .min)) (Cz:cl.args.toList= [x,y]) {s1 s2:SV} (Bj:Bk sl0 gs x=some s1) (AL:Bk sl0 gs y=some s2)
  (he:SA op s1 s2=some e) (hc: ∀q∈e.bc,Cn.den c.ρ q):Ar P o c n nx sl hp gs a e:=by
 have Ao:cl.args= #[x,y]:=by apply Array.ext';simp [Cz]
 have Dj:x∈o.op.operands:=by rcases Az with⟨_,hh⟩|⟨_,hh⟩<;>simp [ho,Op.operands,Call.operands,hh,Ao]
 have CZ:y∈o.op.operands:=by rcases Az with⟨_,hh⟩|⟨_,hh⟩<;>simp [ho,Op.operands,Call.operands,hh,Ao]
 unfold SA at he;split at he
 ·rename_i x' y';simp only [Ac]at he;subst he;obtain⟨f1,q1,_⟩:=Gi (h.bz Bj Dj) rfl;obtain⟨f2,q2,_⟩:=Gi (h.bz AL CZ) rfl;have hd:AV.bin op (y'.den c.ρ) (x'.den c.ρ)≠ .undef:=Bw hc;cases hx:x'.den c.ρ<;>cases hy:y'.den c.ρ<;>simp only [hx,hy,AV.bin,ne_eq,not_true_eq_false]at hd;rename_i k m k' m';split at hd
  ·rename_i hk;have hk:k'=k:=by rcases hk with hk|hk|hk;exact hk;all_goals (rcases Az with⟨h1,_⟩|⟨h1,_⟩<;>rw [h1]at hk<;>cases hk)
   subst hk;obtain⟨v1,i1⟩:=Fo q1 hx;obtain⟨v2,i2⟩:=Fo q2 hy;rcases Az with⟨rfl,Aw⟩|⟨rfl,Aw⟩
   ·refine Ar.pure h (v:= .int k' (if m'>m then m' else m)) ?_ (.b8 ?_) rfl
    ·simp [execOp,ho,resolve,Aw,Ao,invoke,builtin,Builtin.max_,Builtin.max2,v1,v2]
    ·simp only [E.den,hx,hy,AV.bin,true_or,if_true,BM];by_cases hh:m'>m
     ·simp only [hh,decide_true,AV.cond,if_true];exact .int i2 .nil
     ·simp only [hh,decide_false,AV.cond,if_false];exact .int i1 .nil
   ·refine Ar.pure h (v:= .int k' (if m'<m then m' else m)) ?_ (.b8 ?_) rfl
    ·simp [execOp,ho,resolve,Aw,Ao,invoke,builtin,Builtin.min_,Builtin.min2,v1,v2]
    ·simp only [E.den,hx,hy,AV.bin,true_or,if_true,BM];by_cases hh:m'<m
     ·simp only [hh,decide_true,AV.cond,if_true];exact .int i2 .nil
     ·simp only [hh,decide_false,AV.cond,if_false];exact .int i1 .nil
  ·exact absurd rfl hd
 ·cases he
end
inductive BP (P:Program) (w:World):List TypeId→List Bool→List Value→List AV→List Nat→List Nat→Prop where
 |nil {fl}:BP P w [] fl [] [] [] []
 |own {t ts fl el u us y ys top N rf hs}:fl.headD false=true→Cc P t=some el→(BC P el=true∧N= []∨BC P el=false∧Dd P t=none)→Co w el (P.cellsOf el) u y top N→BP P w ts fl.tail us ys rf hs→BP P w (t::ts) fl (u::us) (y::ys) (N++rf) (top++hs)
 |deep {t ts fl el e z l u us y ys top rf hs}:fl.headD false=true→Cc P t=some el→BC P el=false→Dd P t=some (.row e z l)→DC w [.row e z l] [u] [y] top→BP P w ts fl.tail us ys rf hs→BP P w (t::ts) fl (u::us) (y::ys) rf (top++hs)
 |rd {t ts fl u us y ys f rf hs}:(fl.headD false=true→Cc P t=none)→Rd w [u] [y] f→BP P w ts fl.tail us ys rf hs→BP P w (t::ts) fl (u::us) (y::ys) (f++rf) hs
def L1 (P:Program) (w:World) (t:TypeId) (fl:List Bool) (v:Value) (x:AV) (rf hs:List Nat):Prop:=
 ∃us ys,(if Ai P t then v= .agg us.toArray∧x= .agg ys∧ ∀u∈us,u.oneCell'=true else us= [v]∧ys= [x])∧BP P w (AM P t) fl us ys rf hs
def DO (P:Program) (w:World) (t:TypeId) (fl:List Bool) (v:Value) (x:AV) (rf hs:List Nat):Prop:=
 if Ft P t fl then L1 P w t fl v x rf hs else Rd w [v] [x] rf∧hs= []
inductive He (P:Program) (w:World):List TypeId→List Bool→List Value→List AV→List Nat→List Nat→Prop where
 |nil {fl}:He P w [] fl [] [] [] []
 |cons {t ts fl v vs x xs f h rf hs}:DO P w t fl v x f h→He P w ts (fl.drop (AM P t).length) vs xs rf hs→He P w (t::ts) fl (v::vs) (x::xs) (f++rf) (h++hs)
theorem BP.len {P:Program} {w:World} {ts:List TypeId} {fl:List Bool} {us:List Value} {ys:List AV} {rf hs:List Nat} (h:BP P w ts fl us ys rf hs):us.length=ts.length∧ys.length=ts.length:=by induction h<;>simp_all
theorem BP.inb {P:Program} {w:World} {ts:List TypeId} {fl:List Bool} {us:List Value} {ys:List AV} {rf hs:List Nat} (h:BP P w ts fl us ys rf hs):(∀b∈rf,b<w.heap.size)∧ ∀b∈hs,b<w.heap.size:=by
 induction h with
 |nil=>simp
 |deep _ _ _ _ h _ ih=>
  refine⟨ih.1,fun b hb=> ?_⟩;rcases Ag.1 hb with hb|hb
  ·exact h.inb b hb
  ·exact ih.2 b hb
 |own _ _ _ h _ ih=>
  refine⟨fun b hb=> ?_,fun b hb=> ?_⟩
  ·rcases Ag.1 hb with hb|hb
   ·obtain⟨xs,_,_,_,⟨_,_,_,rfl⟩|⟨g,cap,C,_,_,_,_,_,_,_,hr⟩⟩:=h
    ·simp at hb
    ·exact hr.inb b hb
   ·exact ih.1 b hb
  ·rcases Ag.1 hb with hb|hb
   ·obtain⟨xs,_,_,_,⟨_,_,rfl,_⟩|⟨g,cap,C,_,_,_,hh,_,rfl,_⟩⟩:=h
    ·simp at hb
    ·simp at hb;subst hb;exact EI hh
   ·exact ih.2 b hb
 |rd _ h _ ih=>
  refine⟨fun b hb=> ?_,ih.2⟩;rcases Ag.1 hb with hb|hb
  ·exact h.inb b hb
  ·exact ih.1 b hb
structure AA where
 tag:Nat
 new:Option Value
 top:List Nat
 aw:Af
def AA.pair (r:AA):Nat × Af:=(r.tag,r.aw)
structure DX (c c':Cx) (w':World) (recs:List AA):Prop where
 ρ:c'.ρ=c.ρ
 w:c'.w=w'
 G: ∀r∈recs,c'.G r.tag=⟨r.top, []⟩
 new: ∀r∈recs,∀hv,r.new=some hv→c'.K r.tag 0∧(∀g,c'.K r.tag g→g≤0)∧c'.H r.tag 0=hv
 K: ∀t g,c.K t g→c'.K t g∧c'.H t g=c.H t g
 old: ∀t,c.U t→ ∀g,c'.K t g→c.K t g
 jb: ∀r∈recs,r.new.isSome=true→c'.E r.tag=0
 fu: ∀r∈recs,r.new=none→c'.E r.tag=c.E r.tag+1
theorem DX.mono {c c':Cx} {w':World} {recs recs':List AA} (h:DX c c' w' recs) (hs: ∀r∈recs',r∈recs):DX c c' w' recs':=
 ⟨h.ρ,h.w,fun r hr=>h.G r (hs r hr),fun r hr=>h.new r (hs r hr),h.K,h.old,fun r hr=>h.jb r (hs r hr),fun r hr=>h.fu r (hs r hr)⟩
section
variable {P:Program} {c:Cx} {w':World}
theorem vF {c':Cx} {t:Nat} {u:Value} {el sz:Nat} {y:AV} {top N:List Nat} (h:Co w' el sz u y top N) (hk:c'.K t 0) (hh:c'.H t 0=u):SR c' [.own t 0] [u]:=by
 obtain⟨xs,_,_,_,⟨_,⟨a,rfl⟩,_⟩|⟨g,cap,C,rfl,_⟩⟩:=h
 ·exact .own hk hh .nil
 ·exact .own hk hh .nil
theorem MB {nx:Nat} {mk:Nat→E} {ts:List TypeId} {fl:List Bool} {us:List Value} {ys:List AV} {rf hs:List Nat} (h:BP P w' ts fl us ys rf hs): ∀(j:Nat),(∀i y,ys[i]?=some y→(mk (j+i)).den c.ρ=y)→
  ∃recs:List AA,(Cf P nx mk j ts fl).2=recs.map AA.pair∧recs.flatMap AA.top=hs∧(∀r∈recs,nx+j≤r.tag∧r.tag<nx+j+ts.length∧r.new.isSome)∧(recs.map AA.tag).Nodup∧(∀r∈recs,r.new=us[r.tag-(nx+j)]?)∧
   ∀c',DX c c' w' recs→(∀b∈rf,c'.ok b)→SR c' (Cf P nx mk j ts fl).1 us∧ ∀r∈recs,Cu c' r.tag r.aw:=by
 induction h with
 |nil=>exact fun j _=>⟨[],rfl,rfl,by simp,by simp,by simp,fun c' _ _=>⟨.nil,by simp⟩⟩
 | @own t ts fl el u us y ys top N rf hs h1 h2 NO h3 _ ih=>
  intro j EV;obtain⟨recs,e1,e2,e3,e4,e4',e5⟩:=ih (j+1) (fun i y hy=>by rw [show j+1+i=j+(i+1)from by omega];exact EV (i+1) y (by simpa using hy));have hy:=EV 0 y rfl;have UP:Nt P t el 0 0 (mk j)= .row el (P.cellsOf el) 0 (mk j) (BC P el):=by
   unfold Nt;rcases NO with⟨h,_⟩|⟨h,h'⟩
   ·rw [if_pos h,h]
   ·rw [if_neg (by rw [h];simp),h',h]
  simp only [Cf,h1,h2,UP];refine⟨⟨nx+j,some u,top, .row el (P.cellsOf el) 0 (mk j) (BC P el)⟩::recs,by simp [e1,AA.pair],by simp [e2],fun r hr=> ?_, ?_,fun r hr=> ?_,fun c' ha Au=> ?_⟩
  ·rcases Ae.1 hr with rfl|hr
   ·simp
   ·have:=e3 r hr;simp only [AD];exact⟨by omega,by omega,this.2.2⟩
  ·simp only [List.map_cons,List.nodup_cons];refine⟨fun hm=> ?_,e4⟩;obtain⟨r,hr,HA⟩:=List.mem_map.1 hm;have:=e3 r hr;omega
  ·rcases Ae.1 hr with rfl|hr
   ·simp
   ·rw [e4' r hr];have:=e3 r hr;rw [show r.tag-(nx+j)=(r.tag-(nx+(j+1)))+1 from by omega,List.getElem?_cons_succ]
  ·obtain⟨q1,q2⟩:=e5 c' (ha.mono fun r hr=>by simp [hr]) fun b hb=>Au b (by simp [hb]);obtain⟨k1,k2,k3⟩:=ha.new _ (List.mem_cons_self ..) u rfl;have kg:=ha.G _ (List.mem_cons_self ..);simp only at k1 k2 k3 kg;refine⟨(vF h3 k1 k3).cons q1,fun r hr=> ?_⟩;rcases Ae.1 hr with rfl|hr
   ·refine⟨k1,k2,N, ?_,fun b hb=>Au b (by simp [hb]),fun hd=> ?_,fun _=>by rw [kg]⟩
    rotate_left
    ·rcases NO with⟨_,h⟩|⟨h,_⟩
     ·subst h;exact⟨rfl,by rw [kg]⟩
     ·rw [h]at hd;cases hd
    rw [k3,kg,ha.w,ha.ρ];have A4:(mk j).den c.ρ=y:=by simpa using hy
    rw [A4];exact h3
   ·exact q2 r hr
 | @deep t ts fl el e z l u us y ys top rf hs h1 h2 NN Mc h3 _ ih=>
  intro j EV;obtain⟨recs,e1,e2,e3,e4,e4',e5⟩:=ih (j+1) (fun i y hy=>by rw [show j+1+i=j+(i+1)from by omega];exact EV (i+1) y (by simpa using hy));have hy:=EV 0 y rfl;have UP:Nt P t el 0 0 (mk j)= .deep e z l.toList 0 0 (mk j):=by unfold Nt;rw [if_neg (by rw [NN];simp),Mc]
  simp only [Cf,h1,h2,UP];refine⟨⟨nx+j,some u,top, .deep e z l.toList 0 0 (mk j)⟩::recs,by simp [e1,AA.pair],by simp [e2],fun r hr=> ?_, ?_,fun r hr=> ?_,fun c' ha Au=> ?_⟩
  ·rcases Ae.1 hr with rfl|hr
   ·simp
   ·have:=e3 r hr;simp only [AD];exact⟨by omega,by omega,this.2.2⟩
  ·simp only [List.map_cons,List.nodup_cons];refine⟨fun hm=> ?_,e4⟩;obtain⟨r,hr,HA⟩:=List.mem_map.1 hm;have:=e3 r hr;omega
  ·rcases Ae.1 hr with rfl|hr
   ·simp
   ·rw [e4' r hr];have:=e3 r hr;rw [show r.tag-(nx+j)=(r.tag-(nx+(j+1)))+1 from by omega,List.getElem?_cons_succ]
  ·obtain⟨q1,q2⟩:=e5 c' (ha.mono fun r hr=>by simp [hr]) Au;obtain⟨k1,k2,k3⟩:=ha.new _ (List.mem_cons_self ..) u rfl;have kg:=ha.G _ (List.mem_cons_self ..);have ke:=ha.jb _ (List.mem_cons_self ..) rfl;simp only at k1 k2 k3 kg ke;obtain⟨p1,p2,p3,rfl⟩:=h3.head;refine⟨(SR.own k1 k3 .nil).cons q1,fun r hr=> ?_⟩;rcases Ae.1 hr with rfl|hr
   ·refine⟨k1,k2,ke, ?_,by rw [kg]⟩;have A4:(mk j).den c.ρ=y:=by simpa using hy
    rw [k3,kg,ha.w,ha.ρ,A4,AF.bw];exact h3
   ·exact q2 r hr
 | @rd t ts fl u us y ys f rf hs h1 h3 _ ih=>
  intro j EV;obtain⟨recs,e1,e2,e3,e4,e4',e5⟩:=ih (j+1) (fun i y hy=>by rw [show j+1+i=j+(i+1)from by omega];exact EV (i+1) y (by simpa using hy));have hy:=EV 0 y rfl;have Ub:Cf P nx mk j (t::ts) fl=(.e (mk j)::(Cf P nx mk (j+1) ts fl.tail).1,(Cf P nx mk (j+1) ts fl.tail).2):=by
   simp only [Cf];split
   ·rename_i h8 h9;rw [h1 h8]at h9;cases h9
   ·rfl
  rw [Ub];refine⟨recs,e1,e2,fun r hr=> ?_,e4,fun r hr=> ?_,fun c' ha Au=> ?_⟩
  ·have:=e3 r hr;simp only [AD];exact⟨by omega,by omega,this.2.2⟩
  ·rw [e4' r hr];have:=e3 r hr;rw [show r.tag-(nx+j)=(r.tag-(nx+(j+1)))+1 from by omega,List.getElem?_cons_succ]
  ·obtain⟨q1,q2⟩:=e5 c' ha fun b hb=>Au b (by simp [hb]);have A4:(mk j).den c.ρ=y:=by simpa using hy
   exact⟨(SR.e (f:=f) (by rw [ha.w,ha.ρ,A4];exact h3) (fun b hb=>Au b (by simp [hb])) .nil).cons q1,q2⟩
theorem LB {nx:Nat} {mk:Nat→E}: ∀(j:Nat) (ts:List TypeId) (fl:List Bool) (t:Nat) (e:Af) {gs:Gd} {f:Af},(t,e)∈(Cf P nx mk j ts fl).2→e≠ .gd gs f
 |_, [],_,_,_,_,_,h=>by simp [Cf]at h
 |j,u::ts,fl,t,e,gs,f,h=>by
  unfold Cf at h;split at h
  ·rcases Ae.1 h with h|h
   ·cases h;unfold Nt;split
    ·simp
    ·split<;>simp
   ·exact LB _ _ _ _ _ h
  ·exact LB _ _ _ _ _ h
theorem PK {ρ:List AV} {x:E} {ys:List AV} (hx:x.den ρ= .agg ys): ∀i y,ys[i]?=some y→(CP x true (0+i)).den ρ=y:=by intro i y hy;simp [CP,E.den,hx,AV.fld,AV.cells,hy]
theorem Zm {nx:Nat} {t:TypeId} {fl:List Bool} {x:E} {v:Value} {y:AV} {rf hs:List Nat} (h:DO P w' t fl v y rf hs) (hx:x.den c.ρ=y):
  ∃recs:List AA,(LN P nx t fl x).2=recs.map AA.pair∧recs.flatMap AA.top=hs∧(∀r∈recs,nx≤r.tag∧r.tag<nx+(AM P t).length∧r.new.isSome)∧(recs.map AA.tag).Nodup∧
   ∀c',DX c c' w' recs→(∀b∈rf,c'.ok b)→SR c' [(LN P nx t fl x).1] [v]∧ ∀r∈recs,Cu c' r.tag r.aw:=by
 unfold DO at h;unfold LN;split at h
 ·rename_i hf;simp only [hf,if_true];obtain⟨us,ys,hg,hc⟩:=h;split at hg
  ·rename_i As;obtain⟨rfl,rfl,Ck⟩:=hg;obtain⟨recs,e1,e2,e3,e4,_,e5⟩:=MB (c:=c) (nx:=nx) (mk:=CP x (Ai P t)) hc 0 (by rw [As];exact PK hx);refine⟨recs,e1,e2,fun r hr=>by have:=e3 r hr;exact⟨by omega,by omega,this.2.2⟩,e4,fun c' ha Au=> ?_⟩;obtain⟨q1,q2⟩:=e5 c' ha Au;rw [if_pos As];exact⟨.agg Ck (by rw [A6.aj];exact q1) .nil,q2⟩
  ·rename_i As;obtain⟨rfl,rfl⟩:=hg;have Fz:Ai P t=false:=by simpa using As
   obtain⟨recs,e1,e2,e3,e4,_,e5⟩:=MB (c:=c) (nx:=nx) (mk:=CP x (Ai P t)) hc 0 (by
    intro i z hz;cases i with
    |zero=>simp at hz;subst hz;simp [CP,Fz,hx]
    |succ i=>simp at hz)
   refine⟨recs,e1,e2,fun r hr=>by have:=e3 r hr;exact⟨by omega,by omega,this.2.2⟩,e4,fun c' ha Au=> ?_⟩;obtain⟨q1,q2⟩:=e5 c' ha Au;refine⟨?_,q2⟩;rw [if_neg As];have hl:=q1.len;generalize (Cf P nx (CP x (Ai P t)) 0 (AM P t) fl).1=l at q1 hl
   match l,hl with
   | [s],_=>exact q1
 ·rename_i hf;simp only [hf,if_false,AY];obtain⟨h1,rfl⟩:=h;exact⟨[],rfl,rfl,by simp,by simp,fun c' ha Au=>⟨.e (f:=rf) (by rw [ha.w,ha.ρ,hx];exact h1) Au .nil,by simp⟩⟩
theorem nL {ts:List TypeId} {fl:List Bool} {x:E} {vs:List Value} {ys:List AV} {rf hs:List Nat} (h:He P w' ts fl vs ys rf hs): ∀(nx i:Nat),(∀k y,ys[k]?=some y→(E.proj x (i+k)).den c.ρ=y)→
  ∃recs:List AA,(Ki P nx ts fl x i).2=recs.map AA.pair∧recs.flatMap AA.top=hs∧(∀r∈recs,nx≤r.tag∧r.tag<nx+(ts.flatMap (AM P)).length∧r.new.isSome)∧(recs.map AA.tag).Nodup∧
   ∀c',DX c c' w' recs→(∀b∈rf,c'.ok b)→SR c' (Ki P nx ts fl x i).1 vs∧ ∀r∈recs,Cu c' r.tag r.aw:=by
 induction h with
 |nil=>exact fun nx i _=>⟨[],rfl,rfl,by simp,by simp,fun c' _ _=>⟨.nil,by simp⟩⟩
 | @cons t ts fl v vs y ys f h rf hs h1 _ ih=>
  intro nx i hx;obtain⟨r1,a1,a2,a3,a4,a5⟩:=Zm (c:=c) (nx:=nx) (x:= .proj x i) h1 (hx 0 y rfl);obtain⟨r2,b1,b2,b3,b4,b5⟩:=ih (nx+(AM P t).length) (i+1) (fun k z hz=>by rw [show i+1+k=i+(k+1)from by omega];exact hx (k+1) z (by simpa using hz));simp only [Ki];refine⟨r1++r2,by simp [a1,b1],by simp [a2,b2],fun r hr=> ?_, ?_,fun c' ha Au=> ?_⟩
  ·simp only [List.flatMap_cons,AB];rcases Ag.1 hr with hr|hr
   ·have:=a3 r hr;exact⟨this.1,by omega,this.2.2⟩
   ·have:=b3 r hr;exact⟨by omega,by omega,this.2.2⟩
  ·rw [List.map_append,List.nodup_append];refine⟨a4,b4,fun t1 OT t2 OU he=> ?_⟩;obtain⟨q1,F9,rfl⟩:=List.mem_map.1 OT;obtain⟨q2,G2,rfl⟩:=List.mem_map.1 OU;have:=a3 q1 F9;have:=b3 q2 G2;omega
  ·obtain⟨p1,p2⟩:=a5 c' (ha.mono fun r hr=>by simp [hr]) fun b hb=>Au b (by simp [hb]);obtain⟨q1,q2⟩:=b5 c' (ha.mono fun r hr=>by simp [hr]) fun b hb=>Au b (by simp [hb]);refine⟨p1.cons q1,fun r hr=> ?_⟩;rcases Ag.1 hr with hr|hr
   ·exact p2 r hr
   ·exact q2 r hr
end
theorem PI {α:Type} {f:α→List Nat}: ∀{l:List α},(l.flatMap f).Nodup→(∀a∈l,(f a).Nodup)∧ ∀(i j:Nat) (a b:α) (x:Nat),l[i]?=some a→l[j]?=some b→x∈f a→x∈f b→i=j
 | [],_=>⟨by simp,by simp⟩
 |a::l,h=>by
  rw [List.flatMap_cons,List.nodup_append]at h;obtain⟨h1,h2,h3⟩:=h;obtain⟨k1,k2⟩:=PI h2;refine⟨fun b hb=> ?_,fun i j p q x hi hj hp hq=> ?_⟩
  ·rcases Ae.1 hb with rfl|hb
   ·exact h1
   ·exact k1 b hb
  ·cases i with
   |zero=>
    cases j with
    |zero=>rfl
    |succ j=>simp at hi hj;subst hi;exact absurd rfl (h3 x hp x (List.mem_flatMap.2 ⟨q,List.mem_of_getElem? hj,hq⟩))
   |succ i=>
    cases j with
    |zero=>simp at hi hj;subst hj;exact absurd rfl (h3 x hq x (List.mem_flatMap.2 ⟨p,List.mem_of_getElem? hi,hp⟩))
    |succ j=>rw [k2 i j p q x (by simpa using hi) (by simpa using hj) hp hq]
theorem MX {recs:List AA} (hn:(recs.map AA.tag).Nodup) {r:AA} (hr:r∈recs) (p:AA→Bool) (hp:p r=true) (Dm: ∀q,p q=true→q.tag=r.tag):recs.find? p=some r:=by
 induction recs with
 |nil=>simp at hr
 |cons q recs ih=>
  simp only [List.map_cons,List.nodup_cons]at hn;rw [List.find?_cons];rcases Ae.1 hr with rfl|hr
  ·simp [hp]
  ·have:p q=false:=by
    cases hq:p q with
    |false=>rfl
    |true=>exact absurd (List.mem_map.2 ⟨r,hr,(Dm q hq).symm⟩) hn.1
   rw [this];exact ih hn.2 hr
def Cx.cx (c:Cx) (w':World) (recs:List AA):Cx:=
 {c with w:=w',G:=fun t=>(match recs.find? (fun r=>r.tag==t)with|some r=>⟨r.top, []⟩|none=>c.G t),K:=fun t g=>c.K t g∨ ∃r∈recs,r.tag=t∧r.new.isSome=true∧g=0,H:=fun t g=>(match recs.find? (fun r=>r.tag==t&&r.new.isSome)with|some r=>r.new.getD undef|none=>c.H t g),U:=fun t=>c.U t∨ ∃r∈recs,r.tag=t,E:=fun t=>match recs.find? (fun r=>r.tag==t)with|some r=>if r.new.isSome then 0 else c.E t+1|none=>c.E t}
section
variable {P:Program} {c:Cx} {n:Nat} {sl:Nat→SV} {hp:Nat→Option Af} {a:Act} {w':World} {recs:List AA}
theorem Cx.c6 (hn:(recs.map AA.tag).Nodup) {r:AA} (hr:r∈recs):(c.cx w' recs).G r.tag=⟨r.top, []⟩:=by simp only [Cx.cx];rw [MX hn hr (fun q=>q.tag==r.tag) (by simp) (fun q hq=>by simpa using hq)]
theorem Cx.ch {t:Nat} (ht: ∀r∈recs,r.tag≠t):(c.cx w' recs).G t=c.G t:=by
 simp only [Cx.cx];have:recs.find? (fun r=>r.tag==t)=none:=by rw [List.find?_eq_none];intro r hr;simpa using ht r hr
 rw [this]
theorem Cx.cy (hU: ∀t g,c.K t g→c.U t) (hn:(recs.map AA.tag).Nodup) (AO: ∀r∈recs,r.new.isSome=true→ ¬c.U r.tag):DX c (c.cx w' recs) w' recs:=by
 refine⟨rfl,rfl,fun r hr=>Cx.c6 hn hr,fun r hr hv Q4=>⟨.inr ⟨r,hr,rfl,by simp [Q4],rfl⟩,fun g hg=> ?_, ?_⟩,fun t g hk=>⟨.inl hk, ?_⟩,fun t ht g hk=> ?_,fun r hr hs=> ?_,fun r hr hs=> ?_⟩
 ·rcases hg with hg|⟨_,_,_,_,rfl⟩
  ·exact absurd (hU _ _ hg) (AO r hr (by simp [Q4]))
  ·exact Nat.le_refl _
 ·simp only [Cx.cx];rw [MX hn hr (fun q=>q.tag==r.tag&&q.new.isSome) (by simp [Q4]) (fun q hq=>by simp only [Ad,beq_iff_eq]at hq;exact hq.1)];simp [Q4]
 ·simp only [Cx.cx];have:recs.find? (fun r=>r.tag==t&&r.new.isSome)=none:=by
   rw [List.find?_eq_none];rintro r hr hh;simp only [Ad,beq_iff_eq]at hh;exact AO r hr hh.2 (hh.1▸hU t g hk)
  rw [this]
 ·rcases hk with hk|⟨r,hr,rfl,hh,_⟩
  ·exact hk
  ·exact absurd ht (AO r hr hh)
 ·simp only [Cx.cx];rw [MX hn hr (fun q=>q.tag==r.tag) (by simp) (fun q hq=>by simpa using hq)];simp [hs]
 ·simp only [Cx.cx];rw [MX hn hr (fun q=>q.tag==r.tag) (by simp) (fun q hq=>by simpa using hq)];simp [hs]
theorem Cx.ib {t:Nat} (ht: ∀r∈recs,r.tag≠t):(c.cx w' recs).E t=c.E t:=by
 simp only [Cx.cx];have:recs.find? (fun r=>r.tag==t)=none:=by rw [List.find?_eq_none];intro r hr;simpa using ht r hr
 rw [this]
theorem Rel.changes (h:Rel c n sl hp a) {hs:List Nat} {gs:Gd} (k:AU c.ρ gs) (CB:Mod hs c.w w') (hn:(recs.map AA.tag).Nodup) (AO: ∀r∈recs,r.new.isSome=true→ ¬c.U r.tag)
  (FI: ∀b∈hs,∃r∈recs,b∈(c.G r.tag).top) (DL:(recs.flatMap AA.top).Nodup) (BZ: ∀r∈recs,∀b∈r.top,(b∈hs∨c.w.heap.size≤b)∧b<w'.heap.size)
  (A8: ∀r∈recs,∀hs f,r.aw≠ .gd hs f) (A3:CU c (c.cx w' recs)→ ∀r∈recs,Cu (c.cx w' recs) r.tag r.aw):
  Rel (c.cx w' recs) n sl (AR hp (recs.map fun r=>(r.tag,Cg gs r.aw))) a∧CU c (c.cx w' recs):=by
 have aft:=Cx.cy (w':=w') h.a7 hn AO;have YC: ∀b∈hs,c.M b:=fun b hb=>by obtain⟨r,_,hr⟩:=FI b hb;exact⟨_,hr⟩
 have Ba: ∀b∈hs,c.B≤b∨c.Mu b:=fun b hb=>by obtain⟨r,_,hr⟩:=FI b hb;exact h.gw.allow r.tag b (by simp [GI.own,hr])
 have Bp:CU c (c.cx w' recs):=by
  refine⟨rfl,rfl,fun b hb Au=>⟨fun⟨t,ht⟩=> ?_,Au.2⟩,fun b hb Au=>CB.block b hb fun hh=>Au.1 (YC b hh),aft.K,fun t g hk=> ?_⟩;by_cases hT: ∃r∈recs,r.tag=t
  ·obtain⟨r,hr,rfl⟩:=hT;rw [Cx.c6 hn hr]at ht;rcases(BZ r hr b ht).1 with hh|hh
   ·exact Au.1 (YC b hh)
   ·omega
  ·rw [Cx.ch fun r hr hh=>hT ⟨r,hr,hh⟩]at ht;exact Au.1 ⟨t,ht⟩
  ·by_cases hT: ∃r∈recs,r.tag=t
   ·obtain⟨r,hr,rfl⟩:=hT;have DH:r.new=none:=by
     cases hh:r.new with
     |none=>rfl
     |some v=>exact absurd (h.a7 _ _ hk) (AO r hr (by simp [hh]))
    rw [aft.fu r hr DH];exact⟨by omega,fun h=>by omega⟩
   ·have Ye: ∀r∈recs,r.tag≠t:=fun r hr hh=>hT ⟨r,hr,hh⟩;rw [Cx.ib Ye,Cx.ch Ye];refine⟨Nat.le_refl _,fun _=>⟨rfl,fun b hb GZ=>CB.block b GZ fun hh=> ?_⟩⟩;obtain⟨r,hr,TU⟩:=FI b hh;exact h.gw.bq t r.tag (fun hh=>hT ⟨r,hr,hh.symm⟩) b (by simp [GI.own,hb]) (by simp [GI.own,TU])
 have A3:=A3 Bp;have HE: ∀r∈recs,∀e',(r.tag,e')∈(recs.map fun r=>(r.tag,Cg gs r.aw))→e'=Cg gs r.aw:=by
  intro r hr e' DR;obtain⟨q,hq,G3⟩:=List.mem_map.1 DR;simp only [Prod.mk.injEq]at G3;obtain⟨h1,rfl⟩:=G3;have e1:=Cx.c6 (c:=c) (w':=w') hn hr;have:q=r:=by have f1:=MX hn hr (fun q=>q.tag==r.tag) (by simp) (fun q hq=>by simpa using hq);have f2:=MX hn hq (fun p=>p.tag==r.tag) (by simp [h1]) (fun p hp=>by rw [h1];simpa using hp);rw [f1]at f2;cases f2;rfl
  rw [this]
 refine⟨h.change (fun t=> ∃r∈recs,r.tag=t) Bp ⟨CB.os.trans h.base.os,CB.tape.trans h.base.tape,CB.output.trans h.base.output,Nat.le_trans h.base.size CB.size,fun t v Mm=>⟨.inl (h.base.pins t v Mm).1,fun hk=> ?_⟩,fun b hb GD=> ?_,h.base.pk,h.base.lo⟩
  (fun t ht=>⟨Jd fun e he=> ?_,Cx.ch fun r hr hh=>ht ⟨r,hr,hh⟩,Cx.ib fun r hr hh=>ht ⟨r,hr,hh⟩,fun g hg=> ?_⟩) (fun t ht b hb=>CB.block b (h.gw.inb t b (by simp [GI.own,hb])) fun hh=> ?_) (fun t ht=> ?_) ⟨fun t=> ?_,fun t u J3 b hb Bx=> ?_,fun t b hb=> ?_,fun t b hb=> ?_⟩ (fun t g hk=> ?_) (fun t e he=> ?_),Bp⟩
 ·have BI:=aft.old t (h.base.pins t v Mm).1 0 hk;rw [(aft.K t 0 BI).2];exact(h.base.pins t v Mm).2 BI
 ·refine(CB.block b (Nat.lt_of_lt_of_le hb h.base.size) fun hh=> ?_).trans (h.base.block b hb GD);rcases Ba b hh with h1|h1
  ·exact absurd h1 (Nat.not_le.2 hb)
  ·exact GD h1
 ·obtain⟨q,hq,G3⟩:=List.mem_map.1 he;simp only [Prod.mk.injEq]at G3;exact ht ⟨q,hq,G3.1⟩
 ·rcases hg with hg|⟨r,hr,HA,_⟩
  ·exact hg
  ·exact absurd ⟨r,hr,HA⟩ ht
 ·obtain⟨r,hr,GZ⟩:=FI b hh;exact h.gw.bq t r.tag (fun hh=>ht ⟨r,hr,hh.symm⟩) b (by simp [GI.own,hb]) (by simp [GI.own,GZ])
 ·obtain⟨r,hr,rfl⟩:=ht;have C3:=W9 (hp:=hp) (l:=recs.map fun r=>(r.tag,Cg gs r.aw)) (List.mem_map.2 ⟨r,hr,rfl⟩) (HE r hr);rw [C3];refine⟨fun e' OO=> ?_,fun DH=> ?_⟩
  ·rw [(MY k (A8 r hr)).1 OO];exact A3 r hr
  ·exact absurd ((MY k (A8 r hr)).2 rfl) (DH r.aw)
 ·by_cases hT: ∃r∈recs,r.tag=t
  ·obtain⟨r,hr,rfl⟩:=hT;rw [Cx.c6 hn hr];simpa [GI.own]using(PI DL).1 r hr
  ·rw [Cx.ch fun r hr hh=>hT ⟨r,hr,hh⟩];exact h.gw.nodup t
 ·by_cases hT: ∃r∈recs,r.tag=t
  ·obtain⟨r,hr,rfl⟩:=hT;rw [Cx.c6 hn hr]at hb;simp only [GI.own,List.append_nil]at hb;by_cases hV: ∃r∈recs,r.tag=u
   ·obtain⟨q,hq,rfl⟩:=hV;rw [Cx.c6 hn hq]at Bx;simp only [GI.own,List.append_nil]at Bx;obtain⟨i,hi⟩:=List.getElem?_of_mem hr;obtain⟨j,hj⟩:=List.getElem?_of_mem hq;have:=(PI DL).2 i j r q b hi hj hb Bx;subst this;rw [hi]at hj;cases hj;exact J3 rfl
   ·rw [Cx.ch fun r hr hh=>hV ⟨r,hr,hh⟩]at Bx;rcases(BZ r hr b hb).1 with hh|hh
    ·obtain⟨q,hq,iP⟩:=FI b hh;exact h.gw.bq q.tag u (fun hh=>hV ⟨q,hq,hh⟩) b (by simp [GI.own,iP]) Bx
    ·have:=h.gw.inb u b Bx;omega
  ·rw [Cx.ch fun r hr hh=>hT ⟨r,hr,hh⟩]at hb;by_cases hV: ∃r∈recs,r.tag=u
   ·obtain⟨q,hq,rfl⟩:=hV;rw [Cx.c6 hn hq]at Bx;simp only [GI.own,List.append_nil]at Bx;rcases(BZ q hq b Bx).1 with hh|hh
    ·obtain⟨r,hr,QT⟩:=FI b hh;exact h.gw.bq r.tag t (fun hh=>hT ⟨r,hr,hh⟩) b (by simp [GI.own,QT]) hb
    ·have:=h.gw.inb t b hb;omega
   ·rw [Cx.ch fun r hr hh=>hV ⟨r,hr,hh⟩]at Bx;exact h.gw.bq t u J3 b hb Bx
 ·by_cases hT: ∃r∈recs,r.tag=t
  ·obtain⟨r,hr,rfl⟩:=hT;rw [Cx.c6 hn hr]at hb;simp only [GI.own,List.append_nil]at hb;rcases(BZ r hr b hb).1 with hh|hh
   ·exact Ba b hh
   ·exact .inl (Nat.le_trans h.base.size hh)
  ·rw [Cx.ch fun r hr hh=>hT ⟨r,hr,hh⟩]at hb;exact h.gw.allow t b hb
 ·by_cases hT: ∃r∈recs,r.tag=t
  ·obtain⟨r,hr,rfl⟩:=hT;rw [Cx.c6 hn hr]at hb;simp only [GI.own,List.append_nil]at hb;exact(BZ r hr b hb).2
  ·rw [Cx.ch fun r hr hh=>hT ⟨r,hr,hh⟩]at hb;exact Nat.lt_of_lt_of_le (h.gw.inb t b hb) CB.size
 ·rcases hk with hk|⟨r,hr,HA,_⟩
  ·exact .inl (h.a7 t g hk)
  ·exact .inr ⟨r,hr,HA⟩
 ·by_cases hT: ∃r∈recs,r.tag=t
  ·exact .inr hT
  ·rw [Jd]at he
   ·exact .inl (h.br t e he)
   ·intro e' DR;obtain⟨q,hq,G3⟩:=List.mem_map.1 DR;simp only [Prod.mk.injEq]at G3;exact hT ⟨q,hq,G3.1⟩
end
def X2 (P:Program) (w:World) (t:TypeId):PM→Value→AV→List Nat→List Nat→Prop
 | .ro,v,x,rf,hs=>Rd w [v] [x] rf∧hs= []
 | .va own,v,x,rf,hs=>L1 P w t own v x rf hs
 | .mu own,v,x,rf,hs=>L1 P w t own v x rf hs
 | .bx own _,v,x,rf,hs=> ∃(ty:TypeId) (b:Nat) (C:Array Value) (ys:List AV) (h:List Nat),IA P t=some ty∧v= .pointer (some ⟨b,0,none⟩)∧w.heap[b]?=some (.cells C ty (0,0))∧(∀u∈C.toList,u.oneCell'=true)∧x= .ref (.agg ys)∧
   BP P w (AM P ty) own C.toList ys rf h∧hs=b::h
inductive CQ (P:Program) (w:World):List TypeId→List PM→List Bool→List Value→List AV→List Nat→List Nat→List Nat→Prop where
 |nil {ms lo}:CQ P w [] ms lo [] [] [] [] []
 |cons {t ts ms lo v vs x xs f h rf lf hs}:X2 P w t (ms.headD .ro) v x f h→CQ P w ts ms.tail lo.tail vs xs rf lf hs→CQ P w (t::ts) ms lo (v::vs) (x::xs) (f++rf) lf (h++hs)
 |lent {t ts ms lo v vs x xs f rf lf hs}:lo.headD false=true→ms.headD .ro= .ro→Rd w [v] [x] f→CQ P w ts ms.tail lo.tail vs xs rf lf hs→CQ P w (t::ts) ms lo (v::vs) (x::xs) rf (f++lf) hs
 |free {ms lo v vs x xs f rf lf hs}:Rd w [v] [x] f→CQ P w [] ms.tail lo.tail vs xs rf lf hs→CQ P w [] ms lo (v::vs) (x::xs) (f++rf) lf hs
inductive Fu (P:Program) (c:Cx):List TypeId→List Bool→List Value→List (Option RI)→Prop where
 |nil {fl}:Fu P c [] fl [] []
 |row {t ts fl v vs u g el rs}:fl.headD false=true→Cc P t=some el→(BC P el=true∨Dd P t=none)→c.K u g→c.H u g=v→(∀g',c.K u g'→g'≤g)→Fu P c ts fl.tail vs rs→Fu P c (t::ts) fl (v::vs) (some (.fl u g el (P.cellsOf el) (BC P el))::rs)
 |deep {t ts fl v vs u g el e z l ep rs}:fl.headD false=true→Cc P t=some el→BC P el=false→Dd P t=some (.row e z (AF.of l))→c.K u g→c.H u g=v→(∀g',c.K u g'→g'≤g)→c.E u=ep→Fu P c ts fl.tail vs rs→Fu P c (t::ts) fl (v::vs) (some (.dp u g e z l ep)::rs)
 |none {t ts fl v vs rs}:(fl.headD false=true→Cc P t=none∨ ∃a,v= .slice a 0 0)→Fu P c ts fl.tail vs rs→Fu P c (t::ts) fl (v::vs) (none::rs)
inductive G9 (P:Program) (c:Cx):List TypeId→List PM→List Value→List PA→Prop where
 |nil {ts ms}:G9 P c ts ms [] []
 |ro {ts ms v vs bs}:ms.headD .ro= .ro→G9 P c ts.tail ms.tail vs bs→G9 P c ts ms (v::vs) bs
 |va {ts ms own v vs bs us}:ms.headD .ro= .va own→(∀u∈us,c.U u)→G9 P c ts.tail ms.tail vs bs→G9 P c ts ms (v::vs) (.va us::bs)
 |mu {t ts ms own v vs bs us rs}:ms.headD .ro= .mu own→(if Ai P t then v= .agg us.toArray else us= [v])→Fu P c (AM P t) own us rs→G9 P c ts ms.tail vs bs→G9 P c (t::ts) ms (v::vs) (.mu rs (Ai P t)::bs)
 |bx {t ts ms own own' ty v vs bs T b g olds}:ms.headD .ro= .bx own own'→IA P t=some ty→v= .pointer (some ⟨b,0,none⟩)→c.K T 0→c.H T 0=v→(∀u∈olds,c.U u)→G9 P c ts ms.tail vs bs→G9 P c (t::ts) ms (v::vs) (.box T g own' ty olds::bs)
section
variable {P:Program} {c:Cx} {hp:Nat→Option Af} {gs:Gd}
theorem SO {t el:TypeId} {d:DT} (A7:Cc P t=some el) (h:Dd P t=some d):P.cellsOf el≠0∧(AM P el).length=P.cellsOf el∧ ∃l:List DT,d= .row el (P.cellsOf el) (AF.of l)∧l.length=P.cellsOf el:=by
 have hu:=Ik A7;unfold Dd at h;split at h
 ·cases h
 simp only [Tw,hu]at h;split at h
 ·cases h
 ·rename_i hh;simp only [not_or,Decidable.not_not,ne_eq]at hh;obtain⟨l,hl,rfl⟩:=Ak.1 h;exact⟨hh.1,hh.2,l,rfl,by rw [mapM_len _ _ hl];exact hh.2⟩
where
 mapM_len {α β:Type} {f:α→Option β}: ∀(l:List α) (l':List β),l.mapM f=some l'→l'.length=l.length
  | [],l',h=>by simp at h;subst h;rfl
  |a::l,l',h=>by simp only [List.mapM_cons,Option.bind_eq_bind,An,Option.pure_def,Ac]at h;obtain⟨b,_,bs,N4,rfl⟩:=h;simp [mapM_len l bs N4]
theorem BP.void {w:World} {t el:TypeId} {ts:List TypeId} {fl:List Bool} {a:Option Addr} {us:List Value} {ys:List AV} {rf hs:List Nat} (h1:fl.headD false=true) (h2:Cc P t=some el) (hz:P.cellsOf el≠0) (h:BP P w ts fl.tail us ys rf hs):BP P w (t::ts) fl (.slice a 0 0::us) (.sl []::ys) rf ([]++hs):=by
 have Ba:Co w el (P.cellsOf el) (.slice a 0 0) (.sl []) [] []:=⟨[],rfl,by simp,by omega, .inl ⟨rfl,⟨a,rfl⟩,rfl,rfl⟩⟩
 cases hf:BC P el with
 |true=>exact .own h1 h2 (.inl ⟨hf,rfl⟩) Ba h
 |false=>
  cases hd:Dd P t with
  |none=>exact .own h1 h2 (.inr ⟨hf,hd⟩) Ba h
  |some d=>obtain⟨_,_,l,rfl,hl⟩:=SO h2 hd;exact .deep h1 h2 hf hd (.void (by omega) (by rw [AF.aj];exact hl) .nil) h
theorem ZL {as_ bs:List Value} (h:Value.agg as_.toArray= .agg bs.toArray):as_=bs:=by
 have h1:as_.toArray=bs.toArray:=by injection h
 have:=congrArg Array.toList h1;simpa using this
theorem VJ (eh:EH c hp) (k:AU c.ρ gs) (hU: ∀t g,c.K t g→c.U t): ∀(ts:List TypeId) {cs:List SV} {fl:List Bool} {rs:List (Option RI)} {us:List Nat} {vs:List Value} {xs:EL} {m:Nat},FU P hp gs ts cs fl=some (rs,us)→SR c cs vs→BR hp gs m cs=some xs→m≤AI→
  ∃rf hs,BP P c.w ts fl vs (xs.den c.ρ) rf hs∧(∀b∈rf,c.dj us b)∧hs=(B4 rs).flatMap (fun t=>(c.G t).top)∧Fu P c ts fl vs rs∧ ∀u∈B4 rs,c.U u
 | [], [],fl,rs,us,vs,xs,m,h,hs,hx,hm=>by
  simp [FU]at h;obtain⟨rfl,rfl⟩:=h;cases hs;cases m with
  |zero=>simp [BR]at hx
  |succ m=>simp [BR]at hx;subst hx;exact⟨[], [], .nil,by simp,by simp [B4], .nil,by simp [B4]⟩
 | [],s::cs,fl,rs,us,vs,xs,m,h,hs,hx,hm=>by simp [FU]at h
 |t::ts, [],fl,rs,us,vs,xs,m,h,hs,hx,hm=>by simp [FU]at h
 |t::ts,s::cs,fl,rs,us, [],xs,m,h,hs,hx,hm=>by have:=hs.len;simp at this
 |t::ts,s::cs,fl,rs,us,v::vs,xs,m,h,hs,hx,hm=>by
  obtain⟨j,y,ys,rfl,hy,CH,rfl⟩:=Il hx;obtain⟨r1,r2⟩:=hs.bd;unfold FU at h;split at h
  ·cases h
  rename_i rs' us' Cs;obtain⟨rf,AT,q1,q2,q3,q4,q5⟩:=VJ eh k hU ts Cs r2 CH (by omega);split at h
  ·rename_i hf;split at h
   ·rename_i r hr;simp only [Ac,Prod.mk.injEq]at h;obtain⟨rfl,rfl⟩:=h;unfold WR at hr;split at hr
    ·cases hr
    rename_i el A7;split at hr
    ·cases hr
    rename_i hz;have empt: ∀a,v= .slice a 0 0→y.den c.ρ= .sl []→r=none→ ∃rf hs,BP P c.w (t::ts) fl (v::vs) ((EL.cons y ys).den c.ρ) rf hs∧(∀b∈rf,c.dj us' b)∧hs=(B4 (r::rs')).flatMap (fun t=>(c.G t).top)∧Fu P c (t::ts) fl (v::vs) (r::rs')∧ ∀u∈B4 (r::rs'),c.U u:=by rintro a rfl G6 rfl;refine⟨rf, []++AT, ?_,q2,by simpa [B4]using q3, .none (fun _=> .inr ⟨a,rfl⟩) q4,by simpa [B4]using q5⟩;rw [EL.den,G6];exact BP.void hf A7 (by omega) q1
    split at hr
    ·simp only [Ac]at hr;subst hr;cases r1 with
     |bb _=>exact empt _ rfl (by rw [Ja hy];rfl) rfl
    ·simp only [Ac]at hr;subst hr;cases r1 with
     |emp _=>
      refine empt _ rfl ?_ rfl;cases j with
      |zero=>simp [A0]at hy
      |succ j=>simp [A0]at hy;subst hy;rfl
    ·rename_i u g;split at hr
     ·rename_i e z g' x d hl;split at hr
      ·rename_i hh;obtain⟨rfl,rfl,rfl,FE⟩:=hh;simp only [Ac]at hr;subst hr;obtain⟨p1,p2,N,p3,p4,p5,_⟩:=eh u _ (Cm hl k);have KM:BC P e=true∨Dd P t=none:=FE.imp (·.1) (by rintro⟨_,h⟩;simpa using h);have FE:BC P e=true∧N= []∨BC P e=false∧Dd P t=none:=by
        rcases FE with⟨h1,h2⟩|⟨h1,h2⟩
        ·exact .inl ⟨h1,(p5 h2).1⟩
        ·exact .inr ⟨h1,by simpa using h2⟩
       have FP:y=x:=by
        cases j with
        |zero=>simp [A0]at hy
        |succ j=>simp [A0,GH,hl]at hy;exact hy.symm
       subst FP;have hv:c.H u g=v:=by
        cases r1 with
        |own _ k2 _=>exact k2
       rw [hv]at p3;refine⟨N++rf,(c.G u).top++AT,BP.own hf A7 FE p3 q1,fun b hb=> ?_,by simp [B4,RI.tag,q3], .row hf A7 KM p1 hv p2 q4,fun w hw=> ?_⟩
       ·rcases Ag.1 hb with hb|hb
        ·exact .inl (p4 b hb)
        ·exact q2 b hb
       simp only [B4,List.filterMap_cons,Option.map_some,RI.tag,Ae]at hw;rcases hw with rfl|hw
       ·exact hU _ _ p1
       ·exact q5 w hw
      ·cases hr
     ·rename_i e z l g' ep x hl;split at hr
      ·rename_i hh;obtain⟨rfl,EZ,CX⟩:=hh;have CX:=Ss CX;simp only [Ac]at hr;subst hr;obtain⟨p1,p2,pE,p3,_⟩:=eh u _ (Cm hl k);have FP:y=x:=by
        cases j with
        |zero=>simp [A0]at hy
        |succ j=>simp [A0,GH,hl]at hy;exact hy.symm
       subst FP;have hv:c.H u g=v:=by
        cases r1 with
        |own _ k2 _=>exact k2
       rw [hv]at p3;refine⟨rf,(c.G u).top++AT,BP.deep hf A7 EZ CX p3 q1,q2,by simp [B4,RI.tag,q3], .deep hf A7 EZ CX p1 hv p2 pE q4,fun w hw=> ?_⟩;simp only [B4,List.filterMap_cons,Option.map_some,RI.tag,Ae]at hw;rcases hw with rfl|hw
       ·exact hU _ _ p1
       ·exact q5 w hw
      ·cases hr
     ·cases hr
    ·cases hr
   ·cases h
  ·rename_i hf;simp only [Ac,Prod.mk.injEq]at h;obtain⟨rfl,rfl⟩:=h;obtain⟨f,p1,p2⟩:=Gl eh k j hy r1 AI (by omega);refine⟨f++rf,AT,BP.rd (fun hh=>absurd hh hf) p1 q1,fun b hb=> ?_,by simpa [B4]using q3, .none (fun hh=>absurd hh hf) q4,by simpa [B4]using q5⟩;rcases Ag.1 hb with hb|hb
   ·exact(p2 b hb).mono fun t ht=>by simp [ht]
   ·exact(q2 b hb).mono fun t ht=>by simp [ht]
theorem ZK (eh:EH c hp) (k:AU c.ρ gs) (hU: ∀t g,c.K t g→c.U t) {t:TypeId} {s:SV} {v:Value} {fl:List Bool} {rs:List (Option RI)} {us:List Nat} {x:E} (hs:SR c [s] [v]) (hx:A0 hp gs AI s=some x) (hg:(Gk s).2=Ai P t)
  (h:FU P hp gs (AM P t) (Gk s).1 fl=some (rs,us)):
  ∃rf hs,L1 P c.w t fl v (x.den c.ρ) rf hs∧(∀b∈rf,c.dj us b)∧hs=(B4 rs).flatMap (fun t=>(c.G t).top)∧(∃vs',(if Ai P t then v= .agg vs'.toArray else vs'= [v])∧Fu P c (AM P t) fl vs' rs)∧ ∀u∈B4 rs,c.U u:=by
 have single: ∀(s:SV),SR c [s] [v]→A0 hp gs AI s=some x→Ai P t=false→FU P hp gs (AM P t) [s] fl=some (rs,us)→ ∃rf hs,L1 P c.w t fl v (x.den c.ρ) rf hs∧(∀b∈rf,c.dj us b)∧hs=(B4 rs).flatMap (fun t=>(c.G t).top)∧(∃vs',(if Ai P t then v= .agg vs'.toArray else vs'= [v])∧Fu P c (AM P t) fl vs' rs)∧ ∀u∈B4 rs,c.U u:=by
  intro s hs hx As h;obtain⟨t0,U8⟩: ∃t0,AM P t= [t0]:=by
   cases hh:AM P t with
   |nil=>rw [hh]at h;simp [FU]at h
   |cons t0 l=>
    cases l with
    |nil=>exact⟨t0,rfl⟩
    |cons t1 l=>rw [hh]at h;simp [FU]at h
  rw [U8]at h;have key: ∃rf hs,BP P c.w [t0] fl [v] [x.den c.ρ] rf hs∧(∀b∈rf,c.dj us b)∧hs=(B4 rs).flatMap (fun t=>(c.G t).top)∧Fu P c [t0] fl [v] rs∧ ∀u∈B4 rs,c.U u:=by
   unfold FU at h;simp only [FU]at h;split at h
   ·rename_i hf;split at h
    ·rename_i r hr;simp only [Ac,Prod.mk.injEq]at h;obtain⟨rfl,rfl⟩:=h;unfold WR at hr;split at hr
     ·cases hr
     rename_i el A7;split at hr
     ·cases hr
     rename_i hz;have empt: ∀a,v= .slice a 0 0→x.den c.ρ= .sl []→r=none→ ∃rf hs,BP P c.w [t0] fl [v] [x.den c.ρ] rf hs∧(∀b∈rf,c.dj ([]:List Nat) b)∧hs=(B4 [r]).flatMap (fun t=>(c.G t).top)∧Fu P c [t0] fl [v] [r]∧ ∀u∈B4 [r],c.U u:=by rintro a rfl G6 rfl;refine⟨[], []++ [], ?_,by simp,by simp [B4], .none (fun _=> .inr ⟨a,rfl⟩) .nil,by simp [B4]⟩;rw [G6];exact BP.void hf A7 (by omega) .nil
     split at hr
     ·simp only [Ac]at hr;subst hr;cases hs with
      |bb _=>exact empt _ rfl (by rw [Ja hx];rfl) rfl
     ·simp only [Ac]at hr;subst hr;cases hs with
      |emp _=>refine empt _ rfl ?_ rfl;simp [AI,A0]at hx;subst hx;rfl
     ·rename_i u g;split at hr
      ·rename_i e z g' x0 d hl;split at hr
       ·rename_i hh;obtain⟨rfl,rfl,rfl,FE⟩:=hh;simp only [Ac]at hr;subst hr;obtain⟨p1,p2,N,p3,p4,p5,_⟩:=eh u _ (Cm hl k);have KM:BC P e=true∨Dd P t0=none:=FE.imp (·.1) (by rintro⟨_,h⟩;simpa using h);have FE:BC P e=true∧N= []∨BC P e=false∧Dd P t0=none:=by
         rcases FE with⟨h1,h2⟩|⟨h1,h2⟩
         ·exact .inl ⟨h1,(p5 h2).1⟩
         ·exact .inr ⟨h1,by simpa using h2⟩
        have FP:x=x0:=by simp [AI,A0,GH,hl]at hx;exact hx.symm
        subst FP;have hv:c.H u g=v:=by
         cases hs with
         |own _ k2 _=>exact k2
        rw [hv]at p3;refine⟨N++ [],(c.G u).top++ [],BP.own hf A7 FE p3 .nil,fun b hb=> .inl (p4 b (by simpa using hb)),by simp [B4,RI.tag], .row hf A7 KM p1 hv p2 .nil,fun w hw=> ?_⟩;simp only [B4,List.filterMap_cons,Option.map_some,RI.tag,List.filterMap_nil,Ae,List.not_mem_nil,or_false]at hw;subst hw;exact hU _ _ p1
       ·cases hr
      ·rename_i e z l g' ep x0 hl;split at hr
       ·rename_i hh;obtain⟨rfl,EZ,CX⟩:=hh;have CX:=Ss CX;simp only [Ac]at hr;subst hr;obtain⟨p1,p2,pE,p3,_⟩:=eh u _ (Cm hl k);have FP:x=x0:=by
         simp [AI,A0,GH,hl]at hx;exact hx.symm
        subst FP;have hv:c.H u g=v:=by
         cases hs with
         |own _ k2 _=>exact k2
        rw [hv]at p3;refine⟨[],(c.G u).top++ [],BP.deep hf A7 EZ CX p3 .nil,by simp,by simp [B4,RI.tag], .deep hf A7 EZ CX p1 hv p2 pE .nil,fun w hw=> ?_⟩;simp only [B4,List.filterMap_cons,Option.map_some,RI.tag,List.filterMap_nil,Ae,List.not_mem_nil,or_false]at hw;subst hw;exact hU _ _ p1
       ·cases hr
      ·cases hr
     ·cases hr
    ·cases h
   ·rename_i hf;simp only [Ac,Prod.mk.injEq]at h;obtain⟨rfl,rfl⟩:=h;obtain⟨f,p1,p2⟩:=Gl eh k AI hx hs AI (Nat.le_refl _);refine⟨f++ [], [],BP.rd (fun hh=>absurd hh hf) p1 .nil,fun b hb=> ?_,by simp [B4], .none (fun hh=>absurd hh hf) .nil,by simp [B4]⟩;rw [List.append_nil]at hb;exact(p2 b hb).mono fun t ht=>by simp [ht]
  obtain⟨rf,AT,q1,q2,q3,q4,q5⟩:=key;refine⟨rf,AT,⟨[v], [x.den c.ρ], ?_,by rw [U8];exact q1⟩,q2,q3,⟨[v], ?_,by rw [U8];exact q4⟩,q5⟩
  ·rw [if_neg (by rw [As];simp)];exact⟨rfl,rfl⟩
  ·rw [if_neg (by rw [As];simp)]
 cases s with
 |agg cs=>
  simp only [Gk]at hg h;obtain⟨m,l,hm,hl,rfl⟩:=PY hx;cases hs with
  |agg h9 h1 h8=>
   rename_i as_;have EU:m≤AI:=by simp only [AI]at hm ⊢;omega
   obtain⟨rf,AT,q1,q2,q3,q4,q5⟩:=VJ (P:=P) eh k hU (AM P t) h h1 hl EU;refine⟨rf,AT,⟨as_,l.den c.ρ, ?_,q1⟩,q2,q3,⟨as_, ?_,q4⟩,q5⟩
   ·rw [if_pos hg.symm];exact⟨rfl,rfl,h9⟩
   ·rw [if_pos hg.symm]
 |_=>exact single _ hs hx hg.symm h
end
end Go.Proofs.YtollgpkegmbpmaaGreatDoor
end

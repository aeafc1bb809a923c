/- Parts of a proof, joined: VX, WB, WC, WD, WE, WF, WG, WH, WI, WJ, WK, WL, WM, WN, WO. -/
import Derived.Test.YtollgpkegmbpmaaGreatDoorA3
import Derived.Orders
import Derived.Lib.SliceRun
import Derived.Laws.Slices
import Derived.Laws.MakeOwn
import Derived.Laws.StructEq
set_option linter.unusedVariables false
set_option linter.unusedSimpArgs false
section
namespace Go.Proofs.YtollgpkegmbpmaaGreatDoor
open Go.RowKit
section
variable {P:Program} {c:Cx} {n nx:Nat} {sl sl0:Nat→SV} {hp hp0:Nat→Option Ah} {a:Act} {o:Oper} {gs:Gd} {e:AP} {sg:Bq} {nv:Nat}
def Cx.eu (c:Cx) (w':World) (t:Nat) (O:List Nat):Cx:={c with w:=w',G:=fun u=>if u=t then⟨(c.G t).top,O⟩else c.G u,E:=fun u=>if u=t then c.E u+1 else c.E u}
theorem Rel.jo (h:Rel c n sl hp a) {t:Nat} {e0:Ah} {b:Nat} {w':World} {O:List Nat} (AK:BW c.ρ (hp t) e0) (BJ:b∈(c.G t).top) (hO:O= []∨O=(c.G t).O) (hm:Mod [b] c.w w') (Bz:w'.heap.size=c.w.heap.size) (e1:Ah) (A4: ∀hs f,e1≠ .gd hs f)
  (he:CN c (c.eu w' t O)→Cv (c.eu w' t O) t e1):
  Rel (c.eu w' t O) n sl (AU hp [(t,e1)]) a:=by
 have A6:b∈(c.G t).own:=by simp [GI.own,BJ]
 have hG: ∀u,(c.eu w' t O).G u=if u=t then⟨(c.G t).top,O⟩else c.G u:=fun u=>rfl;have DQ: ∀u,((c.eu w' t O).G u).top=(c.G u).top:=by
  intro u;rw [hG];split
  ·rename_i hu;rw [hu]
  ·rfl
 have Bn: ∀u,∀q∈((c.eu w' t O).G u).own,q∈(c.G u).own:=by
  intro u q hq;rw [hG]at hq;split at hq
  ·rename_i hu;subst hu;simp only [GI.own,Af]at hq ⊢;rcases hq with hq|hq
   ·exact .inl hq
   ·rcases hO with rfl|rfl
    ·simp at hq
    ·exact .inr hq
  ·exact hq
 have Bt:CN c (c.eu w' t O):=by
  refine⟨rfl,rfl,fun q _ hq=>⟨fun⟨u,hu⟩=>hq.1 ⟨u,by rw [DQ]at hu;exact hu⟩,hq.2⟩,fun q hq Aw=>hm.block q hq ?_,fun u g hu=>⟨hu,rfl⟩,fun u g hu=> ?_⟩
  ·simp only [List.mem_singleton];rintro rfl;exact Aw.1 ⟨t,BJ⟩
  ·by_cases Fv:u=t
   ·have e1:(c.eu w' t O).E u=c.E u+1:=by simp only [Cx.eu,if_pos Fv]
    exact⟨by omega,fun h=>by omega⟩
   ·have e1:(c.eu w' t O).E u=c.E u:=by simp only [Cx.eu,if_neg Fv]
    have e2:(c.eu w' t O).G u=c.G u:=by simp only [Cx.eu,if_neg Fv]
    rw [e1];refine⟨Nat.le_refl _,fun _=>⟨e2,fun q hq Hg=>hm.block q Hg ?_⟩⟩;simp only [List.mem_singleton];rintro rfl;exact h.gw.bp t u (Ne.symm Fv) q A6 (by simp [GI.own,hq])
 have CU: ∀u,AU hp [(t,e1)] u=if u=t then some e1 else hp u:=fun u=>rfl;refine h.change (fun u=>u=t) Bt ⟨hm.os.trans h.base.os,hm.tape.trans h.base.tape,hm.output.trans h.base.output,Nat.le_trans h.base.size hm.size,h.base.pins,fun q hq GL=> ?_,h.base.pk,h.base.lo⟩
  (fun u hu=>⟨by rw [CU,if_neg hu],by rw [hG,if_neg hu],by simp [Cx.eu,hu],fun g hg=>hg⟩) (fun u hu q hq=>hm.block q (h.gw.inb u q (by simp [GI.own,hq])) ?_) (fun u hu=> ?_) ⟨fun u=> ?_,fun u v VV q hq VE=>h.gw.bp u v VV q (Bn u q hq) (Bn v q VE),fun u q hq=>h.gw.allow u q (Bn u q hq),fun u q hq=> ?_⟩ h.a6 (fun u f hf=> ?_)
 ·refine(hm.block q (Nat.lt_of_lt_of_le hq h.base.size) ?_).trans (h.base.block q hq GL);simp only [List.mem_singleton];rintro rfl;rcases h.gw.allow t q A6 with hh|hh
  ·exact absurd hh (Nat.not_le.2 hq)
  ·exact GL hh
 ·simp only [List.mem_singleton];rintro rfl;exact h.gw.bp t u (Ne.symm hu) q A6 (by simp [GI.own,hq])
 ·subst hu;rw [CU,if_pos rfl];refine⟨fun e' hr=> ?_,fun hn=> ?_⟩
  ·cases e1<;>first
    |(simp only [BW]at hr;subst hr;exact he Bt)
    |exact absurd rfl (A4 _ _)
  ·cases e1<;>first
    |exact absurd rfl (A4 _ _)
    |exact absurd rfl (hn _)
 ·rw [hG];split
  ·rename_i hu;subst hu;have h0:=h.gw.nodup u;simp only [GI.own]at h0 ⊢;rcases hO with rfl|rfl
   ·rw [List.append_nil];exact(List.nodup_append.1 h0).1
   ·exact h0
  ·exact h.gw.nodup u
 ·show q<w'.heap.size;rw [Bz];exact h.gw.inb u q (Bn u q hq)
 ·rw [CU]at hf;split at hf
  ·rename_i hu;subst hu;cases hh:hp u with
   |none=>rw [hh]at AK;exact AK.elim
   |some e9=>exact h.br u e9 hh
  ·exact h.br u f hf
theorem Nq {α:Type} (L vs:List α) (p m:Nat) (h:p+vs.length≤m) (hm:m≤L.length):(setVs L p vs).take m=setVs (L.take m) p vs:=by
 apply List.ext_getElem?;intro j;have hl:(L.take m).length=m:=by rw [List.length_take];omega
 rw [List.getElem?_take,Nv (L.take m) vs p (by omega) j,Nv L vs p (by omega) j,List.getElem?_take];by_cases h1:p≤j∧j<p+vs.length
 ·rw [if_pos (by omega),if_pos h1,if_pos h1]
 ·rw [if_neg h1,if_neg h1]
theorem Rd.setVs {w:World} {L V:List Value} {X Y:List AV} {N f:List Nat} {p:Nat} (h:Rd w L X N) (k:Rd w V Y f) (hp:p+V.length≤L.length):
  ∃n1 n2 n3,N=n1++n2++n3∧Rd w (Go.Proofs.YtollgpkegmbpmaaGreatDoor.setVs L p V) (Go.Proofs.YtollgpkegmbpmaaGreatDoor.setVs X p Y) (n1++f++n3)∧Rd w ((L.drop p).take V.length) ((X.drop p).take V.length) n2:=by
 have hl:=h.len;have hk:=k.len;have e1:L=L.take p++((L.drop p).take V.length++L.drop (p+V.length)):=by rw [←List.drop_drop,List.take_append_drop,List.take_append_drop]
 have e2:X=X.take p++((X.drop p).take V.length++X.drop (p+V.length)):=by rw [←List.drop_drop,List.take_append_drop,List.take_append_drop]
 have h':=h;rw [e1,e2]at h';obtain⟨n1,m,rfl,g1,g2⟩:=Rd.dy (by simp;omega) h';obtain⟨n2,n3,rfl,g3,g4⟩:=Rd.dy (by simp;omega) g2;refine⟨n1,n2,n3,by simp, ?_,g3⟩;unfold Go.Proofs.YtollgpkegmbpmaaGreatDoor.setVs;rw [←hk];exact(g1.app k).app g4
theorem Tt {sz:Nat}: ∀(ys:List AV) (k:Nat) (z y:AV) (o:Nat) (vc:List AV),(∀y∈ys,y.cells.length=sz)→ys[k]?=some y→o+vc.length≤sz→z.cells=setVs y.cells o vc→Az (ys.set k z)=setVs (Az ys) (k*sz+o) vc
 | [],k,z,y,o,vc,_,h,_,_=>by simp at h
 |q::ys,0,z,y,o,vc,hs,h,ho,hz=>by simp at h;subst h;have hq:=hs q (by simp);simp only [Az,List.set_cons_zero,List.flatMap_cons,Nat.zero_mul,Nat.zero_add,hz];unfold setVs;rw [List.take_append_of_le_length (by omega),List.drop_append_of_le_length (by omega)];simp
 |q::ys,k+1,z,y,o,vc,hs,h,ho,hz=>by
  have hq:=hs q (by simp);have ih:=Tt ys k z y o vc (fun u hu=>hs u (by simp [hu])) (by simpa using h) ho hz;simp only [Az,List.set_cons_succ,List.flatMap_cons]at ih ⊢;rw [ih];unfold setVs;have e0:(k+1)*sz+o=q.cells.length+(k*sz+o):=by rw [hq,Nat.add_mul];omega
  rw [e0,List.take_length_add_append,Nat.add_assoc (q.cells.length),List.drop_length_add_append];simp
theorem Xn {y x:AV} {k:Nat} {g:Bool} (hx:(∀cs,x≠ .agg cs)∨g=true) (hy:g=false→y.cells.length=1∧k=0∧x.cells= [x]):(y.cy k x g).cells=setVs y.cells k x.cells:=by
 cases g with
 |true=>simp [AV.cy,AV.cells,setVs]
 |false=>obtain⟨h1,h2,h3⟩:=hy rfl;subst h2;simp only [AV.cy,h3,setVs];rw [if_neg (by simp)];rw [h3];simp only [List.take_zero,List.nil_append,AA,List.length_nil,Nat.zero_add];rw [List.drop_eq_nil_of_le (by omega)];simp
theorem sR (h:A3 P c n nx sl hp a sl0 hp0 o gs) {t:TypeId} {x y:Operand} (ho:o.op= .store t x y) {b g:Nat} {ix:E} {sz k:Nat} {s:SV} (Bi: ∃e z g c d,Cz hp0 gs b=some (.row e z g c d)) (hx:Bm sl0 gs x=some (.bt b g ix sz k)) (hy:Bm sl0 gs y=some s)
  (he:KA P hp0 gs t (.bt b g ix sz k) s=some e) (hc: ∀q∈e.bu,Cn.den c.ρ q):At P o c n nx sl hp gs a e:=by
 have r1:=h.bz hx (by simp [ho,Op.operands]);have r2:=h.bz hy (by simp [ho,Op.operands]);simp only [KA]at he;split at he
 ·rename_i el sz' g' c0 d hl;split at he
  ·rename_i hh;obtain⟨rfl,rfl,rfl,A1,hle,EE,De⟩:=hh;split at he
   ·rename_i xe fz dx ck BP;split at he
    ·cases he
    rename_i DM;simp only [Ad]at he;subst he;have DM: ∀f,(b,f)∉fz:=fun f hf=>DM (by simp only [List.contains_eq_mem,decide_eq_true_eq];exact List.mem_map.2 ⟨_,hf,rfl⟩);obtain⟨f,q1,q2,⟨ts,q3⟩,q5⟩:=bZ h.rel h.hp h.gs r2 BP (fun q hq=>hc q (by simp [hq]));obtain⟨q3,q4⟩:=q3;have AK:=Jw h.hp (Cm hl h.gs);have Cy:=h.rel.freeze h.hp h.gs q3;have Kf:BW (c.ax (fz.map (·.1))).ρ (AU hp fz b) (.row el sz g c0 d):=by rw [Jp DM];exact AK
    obtain⟨e1,e2,N,e3,e4,e5,e6⟩:=Cy.ents b _ Kf;obtain⟨o1,o2,o3,o4⟩:=XA (P:=P) q1 De q5;generalize hv:a.eval x=v at r1;cases r1 with
    |bt k1 k2 k3 k4 k5 _=>
     rename_i m len cap kk kv k6;obtain⟨xs,p1,p2,p3,pcase⟩:=e3;have p1':c0.den c.ρ= .sl xs:=p1;rcases pcase with⟨_,⟨_,pv⟩,_⟩|⟨g9,cap9,C,pv,p4,p5,p6,p7,p8,p9,p10⟩
     ·exfalso;have:c.H b g=_:=pv;rw [k2]at this;cases this;omega
     ·have pv':c.H b g= .slice (some ⟨g9,0,none⟩) xs.length cap9:=pv;rw [k2]at pv';simp only [Value.slice.injEq,Ad,Addr.mk.injEq,and_true]at pv';obtain⟨rfl,rfl,rfl⟩:=pv';have GJ:kv.toNat<xs.length:=by omega
      have Fb:=KG GJ;generalize FX:(AV.sl xs).nth kv.toNat=yk at Fb;have EM:=p2 yk (List.mem_of_getElem? Fb);have Dl:(a.eval y).cells.toList.length=P.cellsOf t:=by simpa using o4
      have hmul:(kv.toNat+1)*sz≤xs.length*sz:=Nat.mul_le_mul_right _ (by omega);have C4:C.toList.length=cap*sz:=by simpa using p7
      have E6:xs.length*sz≤cap*sz:=Nat.mul_le_mul_right _ p4;rw [Nat.add_mul]at hmul;have p6':c.w.heap[m]?=some (.cells C el (0,0)):=p6;obtain⟨m1,m2,m3⟩:=SL (vs:=(a.eval y).cells.toList) p6' (show(kv.toNat*sz+k)+_≤C.size by rw [Dl,p7];omega);have Ll:(C.toList.take (xs.length*sz)).length=xs.length*sz:=by rw [List.length_take,C4];omega
      obtain⟨n1,n2,n3,hN,s1,s2⟩:=Rd.setVs (p:=kv.toNat*sz+k) p10 o1 (by rw [Ll,Dl];omega);have EG: ∀z,z<c.w.heap.size→(c.ax (fz.map (·.1))).ok z→(putCells c.w m (kv.toNat*sz+k) (a.eval y).cells.toList).heap[z]?=c.w.heap[z]?:=by intro z hz Aw;refine m1.block z hz ?_;simp only [List.mem_singleton];rintro rfl;exact Aw.1 ⟨b,by rw [p8];simp⟩
      have BH:(d&&dx)=true→n2= []∧f= []:=by
       intro DZ;have lW:Cn.den c.ρ (.flat (.fld (.idx c0 ix) k (P.cellsOf t) (Aj P t)) (P.cellsOf t) (Aj P t)):=hc _ (by simp [DZ]);obtain⟨f1,f2,f3,f4⟩:=lW;simp only [Ac]at DZ;refine⟨?_,q2 DZ.2⟩;have Lt:((Az xs).drop (kv.toNat*sz+k)).take (a.eval y).cells.toList.length=(yk.cells.drop k).take (P.cellsOf t):=by rw [Dl];exact P6 xs p2 _ _ Fb k (P.cellsOf t) hle
       rw [Lt]at s2;have BG:(E.fld (.idx c0 ix) k (P.cellsOf t) (Aj P t)).den c.ρ=yk.fld k (P.cellsOf t) (Aj P t):=by simp only [E.den,p1',k3,AV.idx,FX]
       rw [BG]at f2;refine Gz s2 ?_;cases hg:Aj P t with
       |true=>rw [hg]at f2;simpa [AV.fld,AV.cells]using f2
       |false=>
        have h1:P.cellsOf t=1:=by rcases De with h'|h';rw [hg]at h';cases h';exact h'
        rw [BG]at f4;have f4:=f4 hg;rw [hg]at f4;have Au:k<yk.cells.length:=by omega
        rw [h1,List.drop_eq_getElem_cons Au,List.take_succ_cons,List.take_zero];simp only [List.mem_singleton,forall_eq];simpa [AV.fld,Au]using f4
      have hz:(yk.cy k (xe.den c.ρ) (Aj P el)).cells=setVs yk.cells k (xe.den c.ρ).cells:=by
       refine Xn ?_ (fun hg=> ?_)
       ·cases hg:Aj P el with
        |true=>exact .inr rfl
        |false=>
         left;rcases EE with h'|⟨_,h'⟩
         ·rw [hg]at h';cases h'
         ·have h':Aj P t=false:=by simpa using h'
          rw [h']at q5;exact fun cs=>(q5.1 cs)
       ·rcases EE with h'|⟨h1,h'⟩
        ·rw [hg]at h';cases h'
        ·have h':Aj P t=false:=by simpa using h'
         rw [h']at q5;have OJ:P.cellsOf t=1:=by rcases De with h2|h2;rw [h']at h2;cases h2;exact h2
         refine⟨by omega,by omega, ?_⟩;cases VZ:xe.den c.ρ<;>first|rfl|exact absurd VZ (q5.1 _)
      have DG:Az (xs.set kv.toNat (yk.cy k (xe.den c.ρ) (Aj P el)))=setVs (Az xs) (kv.toNat*sz+k) (xe.den c.ρ).cells:=
       Tt xs _ _ yk k _ p2 Fb (by rw [o3];exact hle) hz
      have CR:=Cy.jo (t:=b) (b:=m) (w':=putCells c.w m (kv.toNat*sz+k) (a.eval y).cells.toList) (O:=if(d&&dx)=true then((c.ax (fz.map (·.1))).G b).O else []) Kf (by rw [p8];simp) (by split;exact .inr rfl;exact .inl rfl) m1 m3
       (.row el sz g (.set c0 ix (.put (.idx c0 ix) k xe (Aj P el))) (d&&dx)) (by intros;simp) (fun Fu=>by
        have EY: ∀z∈n1++f++n3,(c.ax (fz.map (·.1))).ok z:=by
         intro z hz;simp only [Af]at hz;rcases hz with(hz|hz)|hz
         ·exact e4 z (by rw [hN];simp [hz])
         ·exact q4 z hz
         ·exact e4 z (by rw [hN];simp [hz])
        have Ow: ∀z∈n1++f++n3,z<c.w.heap.size:=s1.inb;refine⟨e1,e2,n1++f++n3,⟨xs.set kv.toNat (yk.cy k (xe.den c.ρ) (Aj P el)), ?_,fun z V5=> ?_,p3, .inr ⟨m,cap,_, ?_,by simpa using p4,p5,m2, ?_, ?_, ?_, ?_⟩⟩,fun z hz=>Fu.ok z (Ow z hz) (EY z hz),fun DZ=> ?_,fun DZ=> ?_⟩
        ·show AV.cz (c0.den c.ρ) (ix.den c.ρ) (((c0.den c.ρ).idx (ix.den c.ρ)).cy k (xe.den c.ρ) (Aj P el))=_;rw [p1',k3];simp only [AV.idx,FX,AV.cz]
        ·rcases List.mem_or_eq_of_mem_set V5 with V5|rfl
         ·exact p2 z V5
         ·rw [hz,Ns _ _ _ (by rw [o3,EM];exact hle)];exact EM
        ·rw [List.length_set];exact k2
        ·rw [List.size_toArray,Ns _ _ _ (by rw [Dl,C4];omega),Array.length_toList];exact p7
        ·simpa [Cx.eu]using p8
        ·simp only [List.length_set,List.toList_toArray];rw [Nq _ _ _ _ (by rw [Dl];omega) (by rw [C4];omega)];intro u hu;unfold setVs at hu;simp only [Af]at hu;rcases hu with(hu|hu)|hu
         ·exact p9 u (List.mem_of_mem_take hu)
         ·exact o2 u hu
         ·exact p9 u (List.mem_of_mem_drop hu)
        ·simp only [List.length_set,List.toList_toArray];rw [Nq _ _ _ _ (by rw [Dl];omega) (by rw [C4];omega),DG];exact s1.frame fun z hz=>EG z (Ow z hz) (EY z hz)
        ·obtain⟨z1,z2⟩:=BH DZ;have hd:d=true:=by simp only [Ac]at DZ;exact DZ.1
         obtain⟨u1,u2⟩:=e5 hd;have Rb:n1++f++n3=N:=by rw [hN,z1,z2]
         rw [Rb];refine⟨u1.frame fun z hz=>EG z (p10.inb z hz) (e4 z hz), ?_⟩;simp only [Cx.eu,if_true,DZ];exact u2
        ·simp [Cx.eu,DZ])
      intro next Q hk
      unfold Oper.wp;have hr:(execOp a.eval o).run P c.w= .ok .skip (putCells c.w m (kv.toNat*sz+k) (a.eval y).cells.toList):=by have:=WX (P:=P) (t:=t) (v:=a.eval y) (off:=kv.toNat*sz+k) p6' A1 o4 (by rw [o4,p7];omega) o2;simp [execOp,ho,hv,this]
      rw [hr,Oper.upon_skip];refine hk _ ((c.ax (fz.map (·.1))).eu (putCells c.w m (kv.toNat*sz+k) (a.eval y).cells.toList) b (if(d&&dx)=true then((c.ax (fz.map (·.1))).G b).O else [])) ⟨rfl,rfl,rfl,rfl,fun t ht=> .inl ht⟩ ?_;have:=CR.put (v:=Go.undef) ((SR.undef .nil).mkGd []) o.dst;rw [L6];exact this
   ·cases he
  ·cases he
 all_goals (rename_i hl;obtain⟨_,_,_,_,_,Bl⟩:=Bi;first|(rw [Bl]at hl;cases hl;done)|exact absurd Bl (hl _ _ _ _ _)|cases he)
end
def ID (a:Act) (o:Oper):Bool:=match o.op with| .binOp _ _ x _ _=>(match a.eval x with| .slice none _ _=>true|_=>false)|_=>false
section
variable (P:Program) (sg:Bq) (Rt:Nat→List AV→AV→Prop)
def Mv:Prop:= ∀(c:Cx) (n nx:Nat) (sl:Nat→SV) (hp:Nat→Option Ah) (a:Act) (sl0:Nat→SV) (hp0:Nat→Option Ah) (o:Oper) (gs:Gd) (e:AP) (nv:Nat),A3 P c n nx sl hp a sl0 hp0 o gs→ ¬c.U (nx+999)→JD P sg sl0 hp0 nv nx gs o=some e→
 (∀q∈e.bu,q.den c.ρ)→(∀cl,e.call=some cl→ ∃r,c.ρ[nv]?=some r∧GZ Rt cl.fn ((EL.of cl.args).den c.ρ) c.ρ r)→(∀x,e.bc=some x→c.ρ[nv]?=some (.bool (ID a o)))→At P o c n nx sl hp gs a e
def QS:Prop:= ∀(c:Cx) (n nx:Nat) (sl:Nat→SV) (hp:Nat→Option Ah) (a:Act) (sl0:Nat→SV) (hp0:Nat→Option Ah) (o:Oper) (gs:Gd) (e:AP) (nv:Nat) (x:E),A3 P c n nx sl hp a sl0 hp0 o gs→JD P sg sl0 hp0 nv nx gs o=some e→e.bc=some x→ID a o=true→x.den c.ρ= .sl []
end
theorem cM {hp:Nat→Option Ah} (l:List (Nat × Ah)) (t:Nat):(AU hp l t=hp t∧ ∀e,(t,e)∉l)∨ ∃e,(t,e)∈l∧AU hp l t=some e:=by
 induction l generalizing hp with
 |nil=>exact .inl ⟨rfl,by simp⟩
 |cons p l ih=>
  obtain⟨u,f⟩:=p;rcases ih (hp:=fun v=>if v=u then some f else hp v)with⟨h1,h2⟩|⟨e,h1,h2⟩
  ·by_cases ht:t=u
   ·subst ht;refine .inr ⟨f,by simp, ?_⟩;have:AU hp ((t,f)::l) t=AU (fun v=>if v=t then some f else hp v) l t:=rfl;rw [this,h1];simp
   ·refine .inl ⟨?_,fun e he=> ?_⟩
    ·have:AU hp ((u,f)::l) t=AU (fun v=>if v=u then some f else hp v) l t:=rfl;rw [this,h1,if_neg ht]
    ·rcases Ae.1 he with he|he
     ·cases he;exact ht rfl
     ·exact h2 e he
  ·exact .inr ⟨e,by simp [h1],h2⟩
section
variable {P:Program} {sg:Bq} {Rt:Nat→List AV→AV→Prop} {c:Cx} {n nx:Nat} {sl:Nat→SV} {hp:Nat→Option Ah} {a:Act} {ops:Array Oper} {o:Oper} {gs:Gd} {e:AP}
theorem Rel.skip (h:Rel c n sl hp a) (hg: ¬AY c.ρ gs) {l:List (Nat × Ah)} (hl: ∀t x,(t,x)∈l→nx≤t∧t<nx+Bh∧ ∃hs y,x= .gd hs y∧JO gs hs=true) (AM: ∀t,nx≤t→t<nx+Bh→ ¬c.U t) (s:SV) (d:Option Nat):
  Rel {c with U:=fun t=>c.U t∨(nx≤t∧t<nx+Bh)} n (B5 n sl d (mkGd gs s)) (AU hp l) (a.put d undef):=by
 have hs:SR {c with U:=fun t=>c.U t∨(nx≤t∧t<nx+Bh)} [mkGd gs s] [undef]:=by
  cases gs with
  |nil=>exact absurd (D7 _) hg
  |cons g gs=>exact .gd (fun hh=>absurd hh hg) (fun _=>rfl) .nil
 refine Rel.put ?_ hs d;refine h.change (fun t=> ∃x,(t,x)∈l) ⟨rfl,rfl,fun _ _ hb=>hb,fun _ _ _=>rfl,fun _ _ hk=>⟨hk,rfl⟩,fun _ _ _=>⟨Nat.le_refl _,fun _=>⟨rfl,fun _ _ _=>rfl⟩⟩⟩ ⟨h.base.os,h.base.tape,h.base.output,h.base.size,fun t v hp=>⟨.inl (h.base.pins t v hp).1,(h.base.pins t v hp).2⟩,h.base.block,h.base.pk,h.base.lo⟩ (fun t ht=> ?_) (fun _ _ _ _=>rfl) (fun t ht=> ?_) ⟨h.gw.nodup,h.gw.bp,h.gw.allow,h.gw.inb⟩ (fun t g hk=> .inl (h.a6 t g hk)) (fun t x hx=> ?_)
 ·exact⟨Jp fun x hx=>ht ⟨x,hx⟩,rfl,rfl,fun g hk=>hk⟩
 ·obtain⟨x,hx⟩:=ht;rcases cM (hp:=hp) l t with⟨_,h2⟩|⟨x',h1,h2⟩
  ·exact absurd hx (h2 x)
  ·obtain⟨q1,q2,hs,y,rfl,Bn⟩:=hl t x' h1;have DL: ∀e',¬BW c.ρ (AU hp l t) e':=by
    rw [h2];exact fun e' hr=>hg (TH Bn hr.1)
   refine⟨fun e' hr=>absurd hr (DL e'),fun _=>h.off t fun e' hr=> ?_⟩;cases hh:hp t with
   |none=>rw [hh]at hr;exact hr.elim
   |some e9=>exact AM t q1 q2 (h.br t e9 hh)
 ·rcases cM (hp:=hp) l t with⟨h1,_⟩|⟨x',h1,_⟩
  ·rw [h1]at hx;exact .inl (h.br t x hx)
  ·obtain⟨q1,q2,_⟩:=hl t x' h1;exact .inr ⟨q1,q2⟩
def Q3 (ρ:List AV) (ops:Array Oper) (o:Oper) (a:Act):Option Gd→Prop
 |none=>Region.wanted o (yielded ops a.tmps)=false
 |some gs=>(AY ρ gs→Region.wanted o (yielded ops a.tmps)=true)∧(¬AY ρ gs→Region.wanted o (yielded ops a.tmps)=false)
theorem XC {σ:St} {r:Option Gd} (hg:L5 σ ops o=some r) (hs: ∀j want d,o.guard=some (j,want)→(ops[j]?).bind (·.dst)=some d→SR c [Bd σ d] [a.tmps.getD d undef]):Q3 c.ρ ops o a r:=by
 unfold L5 at hg;cases FP:o.guard with
 |none=>rw [FP]at hg;simp only [Ad]at hg;subst hg;exact⟨fun _=>by simp [Region.wanted,FP],fun hn=>absurd (D7 _) hn⟩
 |some jw=>
  obtain⟨j,want⟩:=jw;rw [FP]at hg;simp only at hg;cases hd:(ops[j]?).bind (·.dst)with
  |none=>rw [hd]at hg;simp only [Ad]at hg;subst hg;simp [Q3,Region.wanted,FP,yielded,hd]
  |some d=>
   rw [hd]at hg;simp only at hg;have hr:=hs j want d FP hd;have hw: ∀v,a.tmps.getD d undef=v→Region.wanted o (yielded ops a.tmps)=(match v with| .bool b=>b==want|_=>false):=by
    intro v hv;simp only [Region.wanted,FP,yielded,hd,Ab];rw [Array.getD_eq_getD_getElem?]at hv;cases hq:a.tmps[d]? with
    |none=>rw [hq]at hv;simp at hv;subst hv;simp [undef]
    |some u=>rw [hq]at hv;simp at hv;subst hv;cases u<;>simp
   generalize a.tmps.getD d undef=v at hr hw;have hw:=hw v rfl;have Jb:v=undef→Region.wanted o (yielded ops a.tmps)=false:=by rintro rfl;rw [hw];simp [undef]
   have Gq: ∀x f,Rd c.w [v] [x] f→(x= .bool want→Region.wanted o (yielded ops a.tmps)=true)∧(x≠ .bool want→Region.wanted o (yielded ops a.tmps)=false):=by
    intro x f hx;refine⟨fun h=> ?_,fun h=> ?_⟩
    ·rw [hw,GX hx h];simp
    ·rw [hw];cases v<;>simp only;rename_i b;cases hx with
     |bool _=>simpa using fun hh=>h (by rw [hh])
   split at hg
   ·rename_i b B6;rw [B6]at hr;cases hr with
    |e h1 _ _=>
     simp only [Ad]at hg;subst hg;obtain⟨q1,q2⟩:=Gq _ _ h1;simp only [E.den,AV.bool.injEq]at q1 q2;split
     ·rename_i hb;simp only [beq_iff_eq]at hb;exact⟨fun _=>q1 hb,fun hn=>absurd (D7 _) hn⟩
     ·rename_i hb;simp only [beq_iff_eq]at hb;exact q2 (by simpa using hb)
   ·rename_i x _ B6;rw [B6]at hr;cases hr with
    |e h1 _ _=>simp only [Ad]at hg;subst hg;obtain⟨q1,q2⟩:=Gq _ _ h1;exact⟨fun hh=>q1 (hh (x,want) (by simp)),fun hn=>q2 fun hh=>hn (by intro g hg;simp at hg;subst hg;exact hh)⟩
   ·rename_i AX s B6;rw [B6]at hr;cases hr with
    |gd h1 h2 _=>
     split at hg
     ·rename_i hf;simp only [Ad]at hg;subst hg;refine Jb (h2 fun hk=> ?_);simp only [gU,List.any_eq_true]at hf;obtain⟨g,hg,OU⟩:=hf;have:=hk g hg;split at OU
      ·rename_i b hb;rw [hb]at this;simp only [E.den,AV.bool.injEq]at this;simp [this]at OU
      ·cases OU
     ·split at hg
      ·rename_i b;simp only [Ad]at hg;subst hg;by_cases hk:AY c.ρ AX
       ·have h1:=h1 hk;cases h1 with
        |e h1 _ _=>
         obtain⟨q1,q2⟩:=Gq _ _ h1;simp only [E.den,AV.bool.injEq]at q1 q2;split
         ·rename_i hb;simp only [beq_iff_eq]at hb;exact⟨fun _=>q1 hb,fun hn=>absurd hk hn⟩
         ·rename_i hb;simp only [beq_iff_eq]at hb;exact q2 (by simpa using hb)
       ·split
        ·exact⟨fun hh=>absurd hh hk,fun _=>Jb (h2 hk)⟩
        ·exact Jb (h2 hk)
      ·rename_i x _;simp only [Ad]at hg;subst hg;by_cases hk:AY c.ρ AX
       ·have h1:=h1 hk;cases h1 with
        |e h1 _ _=>obtain⟨q1,q2⟩:=Gq _ _ h1;exact⟨fun hh=>q1 (hh (x,want) (by simp)),fun hn=>q2 fun hh=>hn (by intro g hg;rcases Ae.1 hg with rfl|hg;exact hh;exact hk g hg)⟩
       ·exact⟨fun hh=>absurd (fun g hg=>hh g (by simp [hg])) hk,fun _=>Jb (h2 hk)⟩
      ·cases hg
   ·cases hg
theorem iR (AE:Mv P sg Rt) {Q:Exit→Act→World→Prop} {K:Act→World→Prop} {i nv:Nat} (hi:ops[i]?=some o) (Ak:Rel c n sl hp a) {sl0:Nat→SV} {hp0:Nat→Option Ah} (Ec:Q3 c.ρ ops o a (some gs))
  (B6: ∀t,Operand.tmp t∈o.op.operands→sl0 t=sl t) (mE: ∀t e,hp0 t=some e→hp t=some e) (AM: ∀t,nx≤t→t<nx+Bh→ ¬c.U t)
  (he:JD P sg sl0 hp0 nv nx gs o=some e) (A5:gs≠ []→ ∀t x,(t,x)∈e.ar→nx≤t∧t<nx+Bh∧ ∃hs y,x= .gd hs y∧JO gs hs=true)
  (hc:AY c.ρ gs→ ∀q∈e.bu,q.den c.ρ) (AW: ∀cl,e.call=some cl→ ∃r,c.ρ[nv]?=some r∧(AY c.ρ gs→GZ Rt cl.fn ((EL.of cl.args).den c.ρ) c.ρ r)) (Cb: ∀x,e.bc=some x→AY c.ρ gs→c.ρ[nv]?=some (.bool (ID a o)))
  (hK: ∀a' c',KQ c c' nx→Rel c' n (B5 n sl o.dst (mkGd gs e.val)) (AU hp e.ar) a'→K a' c'.w):wpOp P ops Q i K a c.w:=by
 unfold wpOp;simp only [hi];by_cases hg:AY c.ρ gs
 ·rw [if_pos (Ec.1 hg)];exact .inl (AE c n nx sl hp a sl0 hp0 o gs e nv ⟨Ak,hg,B6,mE,fun t h1 h2=>AM t h1 (by simp only [Bh];omega)⟩ (AM _ (by omega) (by simp [Bh])) he (hc hg) (fun cl Ay=>by obtain⟨r,h1,h2⟩:=AW cl Ay;exact⟨r,h1,h2 hg⟩) (fun x hx=>Cb x hx hg) _ _ hK)
 ·rw [if_neg (by rw [Ec.2 hg];simp)];have A4:gs≠ []:=by rintro rfl;exact hg (D7 _)
  exact hK _ {c with U:=fun t=>c.U t∨(nx≤t∧t<nx+Bh)} ⟨rfl,rfl,rfl,rfl,fun t ht=>ht⟩ (Ak.skip hg (A5 A4) AM e.val o.dst)
end
def Cx.ext (c:Cx) (τ:List AV):Cx:={c with ρ:=c.ρ++τ}
theorem den_app {ρ τ:List AV} {x:E} (h:x.sc ρ.length=true):x.den (ρ++τ)=x.den ρ:=by have:=E.ah ρ τ [] x h;rw [List.append_nil]at this;exact this
theorem xF {ρ τ:List AV} {x:EL} (h:x.sc ρ.length=true):x.den (ρ++τ)=x.den ρ:=by have:=EL.ah ρ τ [] x h;rw [List.append_nil]at this;exact this
theorem Jl {ρ τ:List AV} {gs:Gd} (h:Q0 ρ.length gs=true):AY (ρ++τ) gs↔AY ρ gs:=by simp only [Q0,AN]at h;exact⟨fun k g hg=>by rw [←den_app (τ:=τ) (h g hg)];exact k g hg,fun k g hg=>by rw [den_app (h g hg)];exact k g hg⟩
theorem Ba.fh {n:Nat}: ∀{cs:Ba},cs.sc n=true→ ∀s∈cs.toList,s.sc n=true
 | .nil,_,s,h=>by simp [Ba.toList]at h
 | .cons s cs,h,u,hu=>by
  simp only [Ba.sc,Ac]at h;simp only [Ba.toList,Ae]at hu;rcases hu with rfl|hu
  ·exact h.1
  ·exact Ba.fh h.2 u hu
section
variable {c:Cx} {n:Nat} {sl:Nat→SV} {hp:Nat→Option Ah} {a:Act} {τ:List AV}
theorem G6.ext {t g:Nat} {p:KX} {v:Value} (hs:(match p with|some q=>q.1.sc c.ρ.length|none=>true)=true) (h:G6 c t g p v):G6 (c.ext τ) t g p v:=by
 cases p with
 |none=>exact trivial
 |some p=>obtain⟨i,z,o⟩:=p;obtain⟨b,n,cap,C,ty,fz,kk,k,h1,h2,h3,h4,h5⟩:=h;exact⟨b,n,cap,C,ty,fz,kk,k,h1,h2,h3,by show i.den (c.ρ++τ)=_;rw [den_app hs];exact h4,h5⟩
theorem SR.ext {ss:List SV} {vs:List Value} (h:SR c ss vs):(∀s∈ss,s.sc c.ρ.length=true)→SR (c.ext τ) ss vs:=by
 have tl: ∀{s:SV} {ss:List SV},(∀x∈s::ss,x.sc c.ρ.length=true)→ ∀x∈ss,x.sc c.ρ.length=true:=fun h x hx=>h x (by simp [hx]);have hd: ∀{s:SV} {ss:List SV},(∀x∈s::ss,x.sc c.ρ.length=true)→s.sc c.ρ.length=true:=fun h=>h _ (by simp);have hρ:(c.ext τ).ρ=c.ρ++τ:=rfl
 induction h with
 |nil=>exact fun _=> .nil
 |undef _ ih=>exact fun hs=> .undef (ih (tl hs))
 |e h1 h2 _ ih=>exact fun hs=> .e (by rw [hρ,den_app (hd hs)];exact h1) h2 (ih (tl hs))
 |a8 _ ih=>exact fun hs=> .a8 (ih (tl hs))
 |emp _ ih=>exact fun hs=> .emp (ih (tl hs))
 |own h1 h2 _ ih=>exact fun hs=> .own h1 h2 (ih (tl hs))
 |bj h1 h2 _ ih=>exact fun hs=> .bj h1 h2 (ih (tl hs))
 |bt h1 h2 h3 h4 h5 _ ih=>exact fun hs=> .bt h1 h2 (by rw [hρ,den_app (hd hs)];exact h3) h4 h5 (ih (tl hs))
 |ct h1 h2 h3 h4 h5 h6 _ ih=>intro hs;have:=hd hs;simp only [SV.sc,Ac]at this;exact .ct (by rw [hρ,den_app this.1];exact h1) h2 (by rw [hρ,den_app this.2];exact h3) h4 h5 (by rw [hρ,den_app this.1];exact h6) (ih (tl hs))
 |cm h1 h2 _ ih=>exact fun hs=> .cm (by rw [hρ,den_app (hd hs)];exact h1) h2 (ih (tl hs))
 |agg h9 _ _ ih1 ih2=>exact fun hs=> .agg h9 (ih1 (Ba.fh (hd hs))) (ih2 (tl hs))
 |tup _ _ ih1 ih2=>exact fun hs=> .tup (ih1 (Ba.fh (hd hs))) (ih2 (tl hs))
 |fn _ _ ih1 ih2=>exact fun hs=> .fn (ih1 (Ba.fh (hd hs))) (ih2 (tl hs))
 |gd _ h2 _ ih1 ih2=>intro hs;have:=hd hs;simp only [SV.sc,Ac]at this;exact .gd (fun hg=>ih1 ((Jl this.1).1 hg) (by simpa using this.2)) (fun hg=>h2 fun k=>hg ((Jl this.1).2 k)) (ih2 (tl hs))
 | @via t g n p x v ss vs h1 h2 h3 _ ih=>intro hs;have:=hd hs;simp only [SV.sc,Ac]at this;refine .via h1 h2 (fun he=> ?_) (ih (tl hs));obtain⟨q1,q2⟩:=h3 he;exact⟨by rw [hρ,den_app this.2];exact q1,G6.ext (τ:=τ) this.1 q2⟩
 | @vptr t g n p x i sz o v ss vs h1 h2 h3 _ ih=>intro hs;have:=hd hs;simp only [SV.sc,Ac]at this;refine .vptr h1 h2 (fun he=> ?_) (ih (tl hs));obtain⟨b,off,len,cap,kk,k,q1,q2,q3,q4,q5,q6,q7⟩:=h3 he;exact⟨b,off,len,cap,kk,k,by rw [hρ,den_app this.1.2];exact q1,G6.ext (τ:=τ) this.1.1 q2,by rw [hρ,den_app this.2];exact q3,q4,q5,by rw [hρ,den_app this.1.2];exact q6,q7⟩
 |wown h1 h2 h3 h4 h5 h6 _ ih=>exact fun hs=> .wown h1 h2 (by rw [hρ,den_app (hd hs)];exact h3) h4 h5 h6 (ih (tl hs))
 | @lent i _ _ _ h1 _ ih=>exact fun hs=> .lent (by rw [hρ,den_app (x:= .var i) (by simpa [SV.sc,E.sc]using hd hs)];exact h1) (ih (tl hs))
theorem Cv.ext {t:Nat} {e:Ah} (h:Cv c t e) (hs:e.sc c.ρ.length=true):Cv (c.ext τ) t e:=by
 have hρ:(c.ext τ).ρ=c.ρ++τ:=rfl;cases e with
 |box ty g cs=>obtain⟨b,C,h1,h2,h3,h4,h5,h6,h7⟩:=h;exact⟨b,C,h1,h2,h3,h4,h5,h6,h7.ext (by simpa [Ah.sc]using hs)⟩
 |row ety sz g x d=>obtain⟨h1,h2,N,h3,h4,h5⟩:=h;exact⟨h1,h2,N,by rw [hρ,den_app hs];exact h3,h4,h5⟩
 |ax g x=>obtain⟨h1,⟨f,h2,h3⟩,h4⟩:=h;exact⟨h1,⟨f,by rw [hρ,den_app hs];exact h2,h3⟩,h4⟩
 |gd gs e=>exact h
 |dead=>exact h
 |deep e z l g ep x=>obtain⟨h1,h2,h3,h4,h5⟩:=h;exact⟨h1,h2,h3,by rw [hρ,den_app hs];exact h4,h5⟩
 |hol e z l g ep x i o u=>simp only [Ah.sc,Ac]at hs;obtain⟨h1,h2,h3,h4,h5⟩:=h;exact⟨h1,h2,h3,by rw [hρ,den_app hs.1,den_app hs.2];exact h4,h5⟩
theorem zvt {ρ:List AV} {e0 e:Ah} (hs:e0.sc ρ.length=true):BW (ρ++τ) (some e0) e↔BW ρ (some e0) e:=by
 cases e0 with
 |gd gs x=>simp only [Ah.sc,Ac]at hs;simp only [BW];rw [Jl hs.1]
 |_=>simp [BW]
theorem Rel.ext (h:Rel c n sl hp a) (h1: ∀i,(sl i).sc c.ρ.length=true) (h2: ∀t e,hp t=some e→e.sc c.ρ.length=true) (τ:List AV):Rel (c.ext τ) n sl hp a:=by
 have key: ∀t e,BW (c.ρ++τ) (hp t) e↔BW c.ρ (hp t) e:=by
  intro t e;cases hh:hp t with
  |none=>exact Iff.rfl
  |some e0=>exact zvt (h2 t e0 hh)
 refine⟨h.defers,h.size,⟨h.base.os,h.base.tape,h.base.output,h.base.size,h.base.pins,h.base.block,h.base.pk,h.base.lo⟩,fun i=>(h.cc i).ext (by simpa using h1 i),fun t e hr=> ?_,fun t hn=>h.off t fun e hr=>hn e ((key t e).2 hr),⟨h.gw.nodup,h.gw.bp,h.gw.allow,h.gw.inb⟩,h.a6,h.br⟩;have CT:=(key t e).1 hr;have he:=h.ents t e CT;cases hh:hp t with
 |none=>rw [hh]at CT;exact CT.elim
 |some e0=>
  have Ee:=h2 t e0 hh;rw [hh]at CT;cases e0 with
  |gd gs x=>
   obtain⟨_,rfl⟩:=CT;simp only [Ah.sc,Ac]at Ee;cases x with
   |gd=>exact he
   |dead=>exact he
   |box=>exact he.ext (by simpa [Ah.sc]using Ee.2)
   |row=>exact he.ext (by simpa [Ah.sc]using Ee.2)
   |ax=>exact he.ext (by simpa [Ah.sc]using Ee.2)
   |deep=>exact he.ext (by simpa [Ah.sc]using Ee.2)
   |hol=>exact he.ext (by simpa [Ah.sc]using Ee.2)
  |_=>simp only [BW]at CT;subst CT;exact he.ext Ee
theorem St.kz {σ:St} (h:σ.sc=true) (i:Nat):(Bd σ i).sc σ.nv=true:=by
 simp only [St.sc,Ac,AN]at h;unfold Bd;cases hi:σ.sl[i]? with
 |none=>simp [SV.sc]
 |some s=>exact h.1 s (List.mem_of_getElem? hi)
theorem St.ko {σ:St} (h:σ.sc=true) (t:Nat) (e:Ah) (he:Ax σ.hp t=some e):e.sc σ.nv=true:=by simp only [St.sc,Ac,AN]at h;exact h.2 _ (Hl he)
theorem Cn.jm {ρ τ:List AV} {q:Cn} (h:q.sc ρ.length=true):q.den (ρ++τ)↔q.den ρ:=by
 cases q<;>simp only [Cn.sc,Ac]at h<;>simp only [Cn.den]
 case dfd=>rw [den_app h]
 case agg=>rw [den_app h]
 case cells=>rw [den_app h]
 case inb=>rw [den_app h.1,den_app h.2]
 case inbS=>rw [den_app h.1,den_app h.2]
 case win=>rw [den_app h.1.1,den_app h.1.2,den_app h.2]
 case winS=>rw [den_app h.1.1,den_app h.1.2,den_app h.2]
 case room=>rw [den_app h.1,den_app h.2]
 case roomS=>rw [den_app h.1,den_app h.2]
 case mkroom=>rw [den_app h]
 case nz=>rw [den_app h]
 case nn=>rw [den_app h]
 case isref=>rw [den_app h]
 case issl=>rw [den_app h]
 case flat=>rw [den_app h]
 case flatS=>rw [den_app h]
 case kinds=>rw [den_app h]
theorem Ya:SR c [F8] [Go.undef]:= .gd (fun hg=>by have:=hg (.bool false,true) (by simp);simp [E.den]at this) (fun _=>rfl) .nil
theorem eL {ρ:List AV} {x:E} {b:Bool} {hs:Gd} (hx:x.den ρ= .bool b) (h:Mq (x, !b) hs=true): ¬AY ρ hs:=by intro k;have:=gP h k;simp only at this;rw [hx]at this;simp at this
theorem Xa {ρ:List AV} {x:E} {b:Bool} {hs:Gd} (hx:x.den ρ= .bool b):AY ρ (hs.filter fun h=> !(h.1.beq x&&h.2==b))↔AY ρ hs:=by
 refine⟨fun k g hg=> ?_,fun k g hg=>k g (List.mem_filter.1 hg).1⟩;by_cases hh:(g.1.beq x&&g.2==b)=true
 ·simp only [Ac,beq_iff_eq]at hh;rw [E.af ρ _ _ hh.1,hx,hh.2]
 ·exact k g (List.mem_filter.2 ⟨hg,by rw [Bool.not_eq_true]at hh;rw [hh];rfl⟩)
theorem SR.jt {s:SV} {v:Value} {gs:Gd} (h1:AY c.ρ gs→SR c [s] [v]) (h2: ¬AY c.ρ gs→v=Go.undef):SR c [Go.Proofs.YtollgpkegmbpmaaGreatDoor.mkGd gs s] [v]:=by
 cases gs with
 |nil=>exact h1 (D7 _)
 |cons g gs=>exact .gd h1 h2 .nil
theorem SR.ez {x:E} {b:Bool} (hx:x.den c.ρ= .bool b) {s:SV} {v:Value} (h:SR c [s] [v]):SR c [assumeS x b s] [v]:=by
 cases s with
 |gd hs s=>
  simp only [Go.Proofs.YtollgpkegmbpmaaGreatDoor.assumeS];cases h with
  |gd h1 h2 _=>
   split
   ·rename_i hm;rw [h2 (eL hx hm)];exact Ya
   ·exact SR.jt (fun k=>h1 ((Xa hx).1 k)) (fun k=>h2 fun k'=>k ((Xa hx).2 k'))
 |_=>exact h
theorem xV (f:Ah→Ah) (l:List (Nat × Ah)) (t:Nat):Ax (l.map fun(t,e)=>(t,f e)) t=(Ax l t).map f:=by
 induction l with
 |nil=>rfl
 |cons p l ih=>
  obtain⟨u,e⟩:=p;simp only [List.map_cons,Ax];split
  ·rfl
  ·exact ih
theorem Rel.ez {x:E} {b:Bool} (hx:x.den c.ρ= .bool b) (h:Rel c n sl hp a):Rel c n (fun i=>assumeS x b (sl i)) (fun t=>(hp t).map (assumeE x b)) a:=by
 have Kb: ∀t,(∀e,BW c.ρ (hp t) e→ ∃gs y,e= .gd gs y∨e= .dead)→(c.G t).top= []∧(c.G t).O= []:=by
  intro t ht;by_cases hh: ∃e,BW c.ρ (hp t) e
  ·obtain⟨e,he⟩:=hh;obtain⟨gs,y,rfl|rfl⟩:=ht e he
   ·exact h.ents t _ he
   ·exact h.ents t _ he
  ·exact h.off t fun e he=>hh ⟨e,he⟩
 have cases': ∀t,((∀e,BW c.ρ ((hp t).map (assumeE x b)) e↔BW c.ρ (hp t) e))∨((hp t).map (assumeE x b)=some .dead∧(c.G t).top= []∧(c.G t).O= []):=by
  intro t;cases hh:hp t with
  |none=>exact .inl fun e=>Iff.rfl
  |some e0=>
   cases e0 with
   |gd hs y=>
    by_cases hm:Mq (x, !b) hs=true
    ·refine .inr ⟨by simp [Go.Proofs.YtollgpkegmbpmaaGreatDoor.assumeE,hm],Kb t fun e he=> ?_⟩;rw [hh]at he;exact absurd he.1 (eL hx hm)
    ·by_cases hy: ∃gs z,y= .gd gs z
     ·obtain⟨gs,z,rfl⟩:=hy;refine .inr ⟨by simp [Go.Proofs.YtollgpkegmbpmaaGreatDoor.assumeE,hm],Kb t fun e he=> ?_⟩;rw [hh]at he;exact⟨gs,z, .inl he.2.symm⟩
     ·refine .inl fun e=> ?_;have he:assumeE x b (.gd hs y)=Cf (hs.filter fun h=> !(h.1.beq x&&h.2==b)) y:=by
       simp only [Go.Proofs.YtollgpkegmbpmaaGreatDoor.assumeE,hm,A9,if_false];cases y<;>first|rfl|exact absurd ⟨_,_,rfl⟩ hy
      simp only [Option.map_some,he];show _↔AY c.ρ hs∧y=e;rw [←Xa hx];generalize (hs.filter fun h=> !(h.1.beq x&&h.2==b))=fs;cases fs with
      |nil=>simp only [Cf,D7,true_and];cases y<;>first|exact absurd ⟨_,_,rfl⟩ hy|exact Iff.rfl
      |cons g fs=>exact Iff.rfl
   |_=>exact .inl fun e=>Iff.rfl
 refine⟨h.defers,h.size,h.base,fun i=>(h.cc i).ez hx,fun t e hr=> ?_,fun t hn=> ?_,h.gw,h.a6,fun t e he=> ?_⟩
 ·rcases cases' t with hc|⟨hc,h1,h2⟩
  ·exact h.ents t e ((hc e).1 hr)
  ·rw [hc]at hr;have:Ah.dead=e:=hr;subst this;exact⟨h1,h2⟩
 ·rcases cases' t with hc|⟨hc,h1,h2⟩
  ·exact h.off t fun e he=>hn e ((hc e).2 he)
  ·exact⟨h1,h2⟩
 ·cases hh:hp t with
  |none=>rw [hh]at he;cases he
  |some e0=>exact h.br t e0 hh
end
theorem Xo {σ:St} {d:Option Nat} {s:SV}:Bd (Gx σ d s)=B5 σ.sl.length (Bd σ) d s:=by
 funext i;cases d with
 |none=>simp [Gx,B5]
 |some d=>
  simp only [Gx,Bd,B5,Ad,List.getElem?_set];by_cases h:d=i
  ·subst h;by_cases h2:d<σ.sl.length
   ·simp [h2]
   ·simp [h2,List.getElem?_eq_none (Nat.le_of_not_lt h2)]
  ·simp [h]
theorem WZ {σ:St} {d:Option Nat} {s:SV}:(Gx σ d s).sl.length=σ.sl.length:=by cases d<;>simp [Gx]
theorem Xi {σ:St} {d:Option Nat} {s:SV}:(Gx σ d s).hp=σ.hp:=by cases d<;>rfl
theorem Xr {σ:St} {d:Option Nat} {s:SV}:(Gx σ d s).nv=σ.nv:=by cases d<;>rfl
theorem wZ (l:List (Nat × Ah)) (t:Nat) (e:Ah) (u:Nat):Ax (JI l t e) u=if u=t then some e else Ax l u:=by
 induction l with
 |nil=>
  simp only [JI,Ax];by_cases h:t=u
  ·simp [h]
  ·rw [if_neg h,if_neg (Ne.symm h)]
 |cons p l ih=>
  obtain⟨v,f⟩:=p;simp only [JI];split
  ·rename_i hv;subst hv;simp only [Ax];by_cases h:v=u
   ·simp [h]
   ·rw [if_neg h,if_neg (Ne.symm h),if_neg h]
  ·rename_i hv;simp only [Ax];by_cases h:v=u
   ·subst h;rw [if_pos rfl,if_neg hv,if_pos rfl]
   ·rw [if_neg h,ih,if_neg h]
theorem cJ: ∀(ents:List (Nat × Ah)) (l:List (Nat × Ah)),Ax (ents.foldl (fun l (p:Nat × Ah)=>JI l p.1 p.2) l)=AU (Ax l) ents
 | [],l=>rfl
 |(t,e)::ents,l=>by
  simp only [List.foldl_cons];rw [cJ ents];have:Ax (JI l t e)=fun u=>if u=t then some e else Ax l u:=by funext u;exact wZ l t e u
  rw [this];rfl
section
variable {P:Program} {sg:Bq} {Rt:Nat→List AV→AV→Prop} {ops:Array Oper}
theorem fI {σ:St} {gs:Gd} {o:Oper} {e:AP}:Bd (Jo σ gs o e)=B5 σ.sl.length (Bd σ) o.dst (mkGd gs e.val):=by rw [←Xo];rfl
theorem fS {σ:St} {gs:Gd} {o:Oper} {e:AP}:Ax (Jo σ gs o e).hp=AU (Ax σ.hp) e.ar:=by
 have:(Jo σ gs o e).hp=e.ar.foldl (fun l (p:Nat × Ah)=>JI l p.1 p.2) σ.hp:=by show e.ar.foldl (fun l (p:Nat × Ah)=>JI l p.1 p.2) (Gx σ o.dst (mkGd gs e.val)).hp=_;rw [Xi]
 rw [this,cJ]
theorem dN {σ:St} {gs:Gd} {o:Oper} {e:AP}:(Jo σ gs o e).sl.length=σ.sl.length:=by show(Gx σ o.dst (mkGd gs e.val)).sl.length=_;rw [WZ]
theorem X5 {σ:St} {gs:Gd} {o:Oper} {e:AP}:(Jo σ gs o e).nv=if e.call.isSome||e.bc.isSome then σ.nv+1 else σ.nv:=by show(if e.call.isSome||e.bc.isSome then(Gx σ o.dst (mkGd gs e.val)).nv+1 else(Gx σ o.dst (mkGd gs e.val)).nv)=_;rw [Xr]
theorem XR {R:AV→Prop} {gs:Gd} {k:Tr} {L:LK} {js:List JK} {ρ:List AV}: ∀{cs:List Cn},(cs.foldr (fun c k=> .bu gs c k) k:Tr).den Rt R L js ρ→(AY ρ gs→ ∀q∈cs,q.den ρ)∧k.den Rt R L js ρ
 | [],h=>⟨by simp,h⟩
 |c::cs,h=>by
  obtain⟨h1,h2⟩:=h;obtain⟨h3,h4⟩:=XR h2;refine⟨fun hg q hq=> ?_,h4⟩;rcases Ae.1 hq with rfl|hq
  ·exact h1 hg
  ·exact h3 hg q hq
theorem gO {l:List (Nat × Ah)} {R:List Nat} {t:Nat} {e:Ah} (h:Oh l R t=some e):Ax l t=some e:=by
 unfold Oh at h;split at h
 ·exact h
 ·cases h
theorem cF {f:Nat ⊕ E} {as_:EL} {ρ τ:List AV} {r:AV} (h1:(match f with| .inl _=>true| .inr x=>x.sc ρ.length)=true) (h2:as_.sc ρ.length=true):GZ Rt f (as_.den (ρ++τ)) (ρ++τ) r↔GZ Rt f (as_.den ρ) ρ r:=by
 rw [xF h2];cases f with
 |inl f=>exact Iff.rfl
 |inr x=>simp only [GZ];rw [den_app h1]
theorem EL.jx {n:Nat}: ∀{l:List E},l.all (E.sc n)=true→(EL.of l).sc n=true
 | [],_=>rfl
 |x::l,h=>by simp only [List.all_cons,Ac]at h;simp only [EL.of,EL.sc,Ac];exact⟨h.1,EL.jx h.2⟩
structure Hu (F:Fix) (c:Cx) (σ:St) (a:Act) (n m:Nat):Prop where
 w0:c.w0=F.w0
 A:c.A=F.A
 Mu:c.Mu=F.Mu
 nv:c.ρ.length=σ.nv
 len:σ.sl.length=n
 U: ∀t,c.U t→t<m
 rel:Rel c n (Bd σ) (Ax σ.hp) a
theorem Hu.ext {F:Fix} {c:Cx} {σ:St} {a:Act} {n m:Nat} (h:Hu F c σ a n m) (hs:σ.sc=true) (τ:List AV):Rel (c.ext τ) n (Bd σ) (Ax σ.hp) a:=
 h.rel.ext (fun i=>by rw [h.nv];exact St.kz hs i) (fun t e he=>by rw [h.nv];exact St.ko hs t e he) τ
theorem zxd (AE:Mv P sg Rt) (Ed:QS P sg) {F:Fix} {c:Cx} {σ:St} {a:Act} {n i base:Nat} {o:Oper} {gs:Gd} {e:AP} {k:Tr} {R:AV→Prop} {L:LK} {js:List JK} {Q:Exit→Act→World→Prop} {K:Act→World→Prop}
  (hi:ops[i]?=some o) (hm:Hu F c σ a n (base+Bh*i)) (Ec:Q3 c.ρ ops o a (some gs)) {Rs:List Nat} (he:JD P sg (Bd σ) (Oh σ.hp Rs) σ.nv (base+Bh*i) gs o=some e) (Ee:N7 σ.nv (base+Bh*i) σ.hp gs e=true)
  (Pl:(e.call.isSome||e.bc.isSome)=true→σ.sc=true) (hd:(TN gs e k).den Rt R L js c.ρ)
  (hK: ∀(c':Cx) (a':Act),c.ρ<+:c'.ρ→Hu F c' (Jo σ gs o e) a' n (base+Bh*(i+1))→k.den Rt R L js c'.ρ→K a' c'.w):wpOp P ops Q i K a c.w:=by
 simp only [N7,Ac,AN]at Ee;obtain⟨⟨⟨⟨Bj,AQ⟩,Ff⟩,ZA⟩,VM⟩:=Ee;have A5:gs≠ []→ ∀t x,(t,x)∈e.ar→base+Bh*i≤t∧t<base+Bh*i+Bh∧ ∃hs y,x= .gd hs y∧JO gs hs=true:=by
  intro A4 t x hx;have:=VM _ hx;have OL:gs.isEmpty=false:=by cases gs;exact absurd rfl A4;rfl
  simp only [OL,Bool.false_or,Bool.false_and,Bool.or_false,Ac,decide_eq_true_eq]at this;refine⟨this.1.1,this.1.2, ?_⟩;have h3:=this.2;split at h3
  ·exact⟨_,_,rfl,h3⟩
  ·cases h3
 have AM: ∀t,base+Bh*i≤t→t<base+Bh*i+Bh→ ¬c.U t:=fun t h1 _ h3=>by have:=hm.U t h3;omega
 have Fh: ∀(τ:List AV),Rel (c.ext τ) n (Bd σ) (Ax σ.hp) a→τ.length=(if e.call.isSome||e.bc.isSome then 1 else 0)→k.den Rt R L js (c.ρ++τ)→(AY c.ρ gs→ ∀q∈e.bu,q.den c.ρ)→
   (∀cl,e.call=some cl→ ∃r,τ= [r]∧(AY c.ρ gs→GZ Rt cl.fn ((EL.of cl.args).den c.ρ) c.ρ r))→(∀x,e.bc=some x→τ= [.bool (ID a o)])→wpOp P ops Q i K a c.w:=by
  intro τ Ak hτ hk hc AW Cb;have Fc:σ.nv=c.ρ.length:=hm.nv.symm;rw [Fc]at Bj AQ Ff;have OT: ∀r,τ= [r]→(c.ρ++τ)[σ.nv]?=some r:=by rintro r rfl;rw [Fc];simp
  refine iR (c:=c.ext τ) AE hi Ak ⟨fun hg=>Ec.1 ((Jl Bj).1 hg),fun hg=>Ec.2 fun k=>hg ((Jl Bj).2 k)⟩ (fun _ _=>rfl) (fun t e h=>gO h) AM he A5 (fun hg q hq=> ?_) (fun cl Ay=> ?_) (fun x hx _=>OT _ (Cb x hx)) (fun a' c' AT hr=> ?_)
  ·exact(Cn.jm (AQ q hq)).2 (hc ((Jl Bj).1 hg) q hq)
  ·obtain⟨r,rfl,h2⟩:=AW cl Ay;rw [Ay]at Ff;simp only [Ac]at Ff;exact⟨r,OT r rfl,fun hg=>(cF Ff.1 (EL.jx Ff.2)).2 (h2 ((Jl Bj).1 hg))⟩
  ·have hρ:c'.ρ=c.ρ++τ:=AT.ρ;refine hK c' a' ⟨τ,hρ.symm⟩ ⟨AT.w0.trans hm.w0,AT.A.trans hm.A,AT.Mu.trans hm.Mu, ?_,by rw [dN];exact hm.len,fun t ht=> ?_, ?_⟩ (by rw [hρ];exact hk)
   ·rw [hρ,X5,AB,hτ,Fc];split<;>rfl
   ·have hmul:base+Bh*(i+1)=base+Bh*i+Bh:=by rw [Nat.mul_add];omega
    rw [hmul];rcases AT.U t ht with h|h
    ·have:=hm.U t h;omega
    ·exact h.2
   ·rw [fI,fS,hm.len];exact hr
 unfold TN at hd;obtain⟨hc,hd⟩:=XR hd;cases Ay:e.call with
 |none=>
  simp only [Ay]at hd;cases Cb:e.bc with
  |none=>simp only [Cb]at hd;refine Fh [] (by have:=hm.rel;simpa [Cx.ext]using this) (by simp [Ay,Cb]) (by simpa using hd) hc (fun cl h=>by rw [Ay]at h;cases h) (fun x h=>by rw [Cb]at h;cases h)
  |some x=>simp only [Cb]at hd;have Fg:=Pl (by simp [Cb]);refine Fh [.bool (ID a o)] (hm.ext Fg _) (by simp [Cb]) (hd _ fun hg hb=> ?_) hc (fun cl h=>by rw [Ay]at h;cases h) (fun x h=>rfl);exact Ed c n _ _ _ a _ _ o gs e _ x ⟨hm.rel,hg,fun _ _=>rfl,fun t e h=>gO h,fun t h1 h2=>AM t h1 (Nat.lt_of_lt_of_le h2 (Nat.add_le_add_left (by decide) _))⟩ he Cb hb
 |some cl=>
  simp only [Ay]at hd;cases Cb:e.bc with
  |some x=>rw [Cb]at ZA;simp [Ay]at ZA
  |none=>simp only [Cb]at hd;obtain⟨r,h1,h2⟩:=hd;have Fg:=Pl (by simp [Ay]);refine Fh [r] (hm.ext Fg _) (by simp [Ay]) h2 hc (fun cl' h=>by rw [Ay]at h;cases h;exact⟨r,rfl,h1⟩) (fun x h=>by rw [Cb]at h;cases h)
theorem vY {σ:St} {x:E} {b:Bool} {d:Nat}:Bd (assume x b d σ)=B5 σ.sl.length (fun i=>assumeS x b (Bd σ i)) (some d) (.e (.bool b)):=by
 funext i;simp only [assume,Bd,B5,Ad,List.getElem?_set,List.length_map,List.getElem?_map];by_cases h:d=i
 ·subst h;by_cases h2:d<σ.sl.length
  ·simp [h2]
  ·simp [h2,List.getElem?_eq_none (Nat.le_of_not_lt h2),assumeS]
 ·simp only [h,false_and,if_false];cases hh:σ.sl[i]?<;>simp [assumeS]
theorem wU {σ:St} {x:E} {b:Bool} {d:Nat}:Ax (assume x b d σ).hp=fun t=>(Ax σ.hp t).map (assumeE x b):=by funext t;exact xV _ _ _
theorem Hu.assume {F:Fix} {c:Cx} {σ:St} {a:Act} {n m:Nat} (h:Hu F c σ a n m) {x:E} {b:Bool} (hx:x.den c.ρ= .bool b) {d:Nat} (hd:Bd σ d= .e x):Hu F c (Go.Proofs.YtollgpkegmbpmaaGreatDoor.assume x b d σ) a n m:=by
 refine⟨h.w0,h.A,h.Mu,h.nv, ?_,h.U, ?_⟩
 ·simp only [Go.Proofs.YtollgpkegmbpmaaGreatDoor.assume,List.length_set,List.length_map];exact h.len
 ·rw [vY,wU];have hr:=h.rel.ez hx;refine{hr with cc:=fun i=> ?_};unfold B5;split
  ·rename_i hi;obtain⟨hi,_⟩:=hi;cases hi;have:=h.rel.cc d;rw [hd]at this;generalize a.tmps.getD d Go.undef=v at this;cases this with
   |e h1 h2 _=>exact .e (f:= []) (by rw [hx]at h1;rw [GX h1 rfl];exact .bool .nil) (by simp) .nil
  ·exact hr.cc i
theorem wY (AE:Mv P sg Rt) (Ed:QS P sg) {F:Fix} {base:Nat} {R:AV→Prop} {L:LK} {js:List JK} {Q:Exit→Act→World→Prop} {n:Nat} {next:List Log→St→Option Tr} {i:Nat} {o:Oper} {lg:List Log} {rest:List Nat} (hi:ops[i]?=some o)
  (BX: ∀(lg:List Log) (σ:St) (t:Tr),next lg σ=some t→ ∀(c:Cx) (a:Act),Hu F c σ a n (base+Bh*(i+1))→t.den Rt R L js c.ρ→(∀(c':Cx) (a':Act) (σ':St),c.ρ<+:c'.ρ→L js .normal σ' c'.ρ→FD F c'.ρ σ' a' c'.w→Q .normal a' c'.w)→wpOps P ops Q rest a c.w):
  ∀(m:Nat) (σ:St) (t:Tr),QY P sg ops false base next i o lg m σ=some t→
  ∀(c:Cx) (a:Act),Hu F c σ a n (base+Bh*i)→t.den Rt R L js c.ρ→(∀(c':Cx) (a':Act) (σ':St),c.ρ<+:c'.ρ→L js .normal σ' c'.ρ→FD F c'.ρ σ' a' c'.w→Q .normal a' c'.w)→wpOps P ops Q (i::rest) a c.w:=by
 have Lq:base+Bh*i≤base+Bh*(i+1):=by rw [Nat.mul_add];omega
 have try_: ∀(fail:Unit→Option Tr) (σ:St) (t:Tr),QW P sg ops false base next i o lg fail σ=some t→ ∀(c:Cx) (a:Act),Hu F c σ a n (base+Bh*i)→t.den Rt R L js c.ρ→(∀(c':Cx) (a':Act) (σ':St),c.ρ<+:c'.ρ→L js .normal σ' c'.ρ→FD F c'.ρ σ' a' c'.w→Q .normal a' c'.w)→
   (fail ()=some t→wpOps P ops Q (i::rest) a c.w)→wpOps P ops Q (i::rest) a c.w:=by
  intro fail σ t ht c a hm hd hq OQ;unfold QW at ht;cases FP:L5 σ ops o with
  |none=>rw [FP]at ht;cases ht
  |some r=>
   have Ec:=XC (c:=c) (a:=a) FP (fun j want d _ _=>hm.rel.cc d);rw [FP]at ht;cases r with
   |none=>simp only at ht;rw [wpOps_cons];unfold wpOp;simp only [hi];rw [if_neg (by simp [show Region.wanted o (yielded ops a.tmps)=false from Ec])];refine BX lg _ t ht c _ ⟨hm.w0,hm.A,hm.Mu,by rw [Xr];exact hm.nv,by rw [WZ];exact hm.len,fun t ht=>Nat.lt_of_lt_of_le (hm.U t ht) Lq, ?_⟩ hd hq;rw [Xo,Xi,hm.len];exact hm.rel.put Ya o.dst
   |some gs=>
    simp only at ht;split at ht
    ·rename_i e he;split at ht
     ·cases ht
     ·rename_i Aq;split at ht
      ·cases ht
      ·rename_i k hk;simp only [Ad]at ht;subst ht;simp only [Bool.false_and,Bool.false_or,Bool.not_false,Bool.true_and,Bool.or_eq_true,Bool.not_eq_true',Ac,not_or,Bool.not_eq_false]at Aq;rw [wpOps_cons];refine zxd AE Ed hi hm Ec he Aq.1 (fun hh=> ?_) hd fun c' a' hp E4 BO=>BX _ _ k hk c' a' E4 BO fun c'' a'' σ' hp'=>hq c'' a'' σ' (hp.trans hp');have:=Aq.2;simp only [Bool.or_eq_true]at hh;simpa [hh]using this
    ·exact OQ ht
 intro m
 induction m with
 |zero=>exact fun σ t ht c a hm hd hq=>try_ _ σ t ht c a hm hd hq fun h=>by cases h
 |succ m ih=>
  intro σ t ht c a hm hd hq;refine try_ _ σ t ht c a hm hd hq fun h=> ?_;split at h
  ·rename_i d _ _;split at h
   ·rename_i x MH;split at h
    ·rename_i k1 k0 He Vd;simp only [Ad]at h;subst h;obtain⟨tt,h1,h2,h3⟩:=hd;cases tt with
     |true=>exact ih _ k1 He c a (hm.assume h1 MH) (h2 rfl) hq
     |false=>exact ih _ k0 Vd c a (hm.assume h1 MH) (h3 rfl) hq
    ·cases h
   ·cases h
  ·cases h
theorem iK (AE:Mv P sg Rt) (Ed:QS P sg) {F:Fix} {base:Nat} {R:AV→Prop} {L:LK} {js:List JK} {Q:Exit→Act→World→Prop} {n:Nat}: ∀(len i:Nat) (lg:List Log) (σ:St) (t:Tr),i+len=ops.size→JL P sg ops false base (List.range' i len) lg σ=some t→
  ∀(c:Cx) (a:Act),Hu F c σ a n (base+Bh*i)→t.den Rt R L js c.ρ→(∀(c':Cx) (a':Act) (σ':St),c.ρ<+:c'.ρ→L js .normal σ' c'.ρ→FD F c'.ρ σ' a' c'.w→Q .normal a' c'.w)→wpOps P ops Q (List.range' i len) a c.w
 |0,i,lg,σ,t,hl,ht,c,a,hm,hd,hq=>by
  simp only [List.range'_zero,JL,Bool.false_and,A9,if_false,Ad]at ht ⊢;subst ht;refine hq c a _ (List.prefix_refl _) hd ⟨c,rfl,rfl,hm.w0,hm.A,hm.Mu,hm.nv,fun t ht=> ?_, ?_⟩
  ·have:=hm.U t ht;have h9:i=ops.size:=by omega
   subst h9;exact this
  ·have:=hm.rel;rw [←hm.len]at this;exact this
 |len+1,i,lg,σ,t,hl,ht,c,a,hm,hd,hq=>by
  rw [List.range'_succ]at ht ⊢;unfold JL at ht;obtain⟨o,hi⟩: ∃o,ops[i]?=some o:=⟨ops[i]'(by omega),by simp [show i<ops.size by omega]⟩
  rw [hi]at ht;simp only at ht;exact wY AE Ed hi (fun lg σ t ht c a=>iK AE Ed (n:=n) len (i+1) lg σ t (by omega) ht c a) 4 σ t ht c a hm hd hq
end
def YP (l:List Oper) (bs:List Nat):Prop:=bs.length=l.length∧ ∀(j:Nat) (o:Oper),l[j]?=some o→ ∀i,((bs[j]?).getD 0).testBit i=true→ ∃e∈o.after.toList,Region.binds .any e=true∧(i=e.on∨(e.on<j∧((bs[e.on]?).getD 0).testBit i=true))
theorem bK (acc:List Nat) (i:Nat): ∀(es:List Edge) (s:Nat),(es.foldl (fun s e=>if Region.binds .any e then s|||2^e.on|||(acc[e.on]?).getD 0 else s) s).testBit i=true→
  s.testBit i=true∨ ∃e∈es,Region.binds .any e=true∧(i=e.on∨((acc[e.on]?).getD 0).testBit i=true)
 | [],s,h=> .inl h
 |e::es,s,h=>by
  simp only [List.foldl_cons]at h;rcases bK acc i es _ h with h|⟨e',h1,h2⟩
  ·split at h
   ·rename_i hb;simp only [Nat.testBit_or,Nat.testBit_two_pow,Bool.or_eq_true,decide_eq_true_eq]at h;rcases h with(h|h)|h
    ·exact .inl h
    ·exact .inr ⟨e,by simp,hb, .inl h.symm⟩
    ·exact .inr ⟨e,by simp,hb, .inr h⟩
   ·exact .inl h
  ·exact .inr ⟨e',by simp [h1],h2⟩
theorem dW: ∀(os pre:List Oper) (acc:List Nat),YP pre acc→YP (pre++os) (IM os acc)
 | [],pre,acc,h=>by simpa [IM]using h
 |o::os,pre,acc,h=>by
  obtain⟨hl,hb⟩:=h;have:=dW os (pre++ [o]) (acc++ [Yd acc o]) ⟨by simp [hl],fun j o' ho i hi=> ?_⟩
  ·simpa [IM]using this
  ·have Au: ∀k,k<acc.length→((acc++ [Yd acc o])[k]?).getD 0=(acc[k]?).getD 0:=fun k hk=>by rw [List.getElem?_append_left hk]
   by_cases hj:j<pre.length
   ·rw [List.getElem?_append_left hj]at ho;rw [Au j (by omega)]at hi;obtain⟨e,h1,h2,h3⟩:=hb j o' ho i hi;exact⟨e,h1,h2,h3.imp id fun h=>⟨h.1,by rw [Au _ (by omega)];exact h.2⟩⟩
   ·rw [List.getElem?_append_right (by omega)]at ho;have mH:j-pre.length=0:=by
     cases hh:j-pre.length with
     |zero=>rfl
     |succ k=>rw [hh]at ho;simp at ho
    rw [mH]at ho;simp at ho;subst ho;have Iq:j=acc.length:=by omega
    rw [Iq,List.getElem?_append_right (Nat.le_refl _)]at hi;simp only [Nat.sub_self,List.getElem?_cons_zero,Option.getD_some]at hi;rcases bK acc i _ 0 hi with h|⟨e,h1,h2,h3⟩
    ·simp at h
    ·refine⟨e,h1,h2,h3.imp id fun h=> ?_⟩;have he:e.on<acc.length:=by
      rcases Nat.lt_or_ge e.on acc.length with hh|hh
      ·exact hh
      ·rw [List.getElem?_eq_none hh]at h;simp at h
     exact⟨by omega,by rw [Au _ he];exact h⟩
def QJ (ops:Array Oper) (S:Nat→Bool):Prop:= ∀k o,S k=true→ops[k]?=some o→ ∀e∈o.after.toList,Region.binds .any e=true→S e.on=true
theorem jY (ops:Array Oper):YP ops.toList (IM ops.toList []):=by have:=dW ops.toList [] [] ⟨rfl,by simp⟩;simpa using this
theorem dC {ops:Array Oper} {S:Nat→Bool} (hS:QJ ops S): ∀(k i:Nat),S k=true→k<ops.size→(((IM ops.toList [])[k]?).getD 0).testBit i=true→S i=true:=by
 intro k
 induction k using Nat.strongRecOn with
 |_ k ih=>
  intro i hk Au hb;have ho:ops.toList[k]?=some ops[k]:=by simp [Au]
  obtain⟨e,h1,h2,h3⟩:=(jY ops).2 k _ ho i hb;have Gm:=hS k ops[k] hk (by simp [Au]) e h1 h2;rcases h3 with rfl|⟨h3,h4⟩
  ·exact Gm
  ·exact ih e.on h3 i Gm (by omega) h4
theorem xH {ops:Array Oper} {S:Nat→Bool} (hS:QJ ops S) {j i:Nat} {o:Oper} (ho:ops[j]?=some o) (hr: ∀e∈o.after.toList,Region.binds .any e=true→S e.on=true) (hb:(((IM ops.toList [])[j]?).getD 0).testBit i=true):S i=true:=by
 have Au:j<ops.size:=(Array.getElem?_eq_some_iff.1 ho).1;obtain⟨e,h1,h2,h3⟩:=(jY ops).2 j o (by simpa using ho) i hb;have Gm:=hr e h1 h2;rcases h3 with rfl|⟨h3,h4⟩
 ·exact Gm
 ·exact dC hS e.on i Gm (by omega) h4
theorem wA {ops:Array Oper} {S:Nat→Bool} (hS:QJ ops S) {j i:Nat} {o:Oper} (ho:ops[j]?=some o) (hi:i<ops.size) (hj:S j=false) (hr: ∀e∈o.after.toList,Region.binds .any e=true→S e.on=true) (A4:i≠j) (I8:H0 (IM ops.toList []) i j=true):S i=decide (i<j):=by
 unfold H0 at I8;split at I8
 ·rename_i h;rw [xH hS ho hr I8];simp [h]
 ·rename_i h;cases hs:S i with
  |false=>simp [h]
  |true=>have:=dC hS i j hs hi I8;rw [hj]at this;cases this
structure Rec where
 i:Nat
 o:Oper
 σ:St
 r:Option (Gd × AP)
def Rec.next (x:Rec):St:=match x.r with|none=>Gx x.σ x.o.dst F8|some (gs,e)=>Jo x.σ gs x.o e
def Rec.val (x:Rec):SV:=match x.r with|none=>F8|some (gs,e)=>mkGd gs e.val
def Rec.ar (x:Rec):List (Nat × Ah):=match x.r with|none=> []|some (_,e)=>e.ar
def kS (P:Program) (sg:Bq) (Rt:Nat→List AV→AV→Prop) (ops:Array Oper) (base:Nat) (ρ:List AV) (x:Rec):Prop:=
 ops[x.i]?=some x.o∧match x.r with
  |none=>L5 x.σ ops x.o=some none
  |some (gs,e)=>L5 x.σ ops x.o=some (some gs)∧JD P sg (Bd x.σ) (Oh x.σ.hp (Qr x.σ gs x.o)) x.σ.nv (base+Bh*x.i) gs x.o=some e∧e.bc=none∧N7 x.σ.nv (base+Bh*x.i) x.σ.hp gs e=true∧
   (AY ρ gs→ ∀q∈e.bu,q.den ρ)∧ ∀cl,e.call=some cl→ ∃r,ρ[x.σ.nv]?=some r∧(AY ρ gs→GZ Rt cl.fn ((EL.of cl.args).den ρ) ρ r)
def C8:Nat→St→List Rec→St→Prop
 |_,σ, [],σ'=>σ=σ'
 |i,σ,x::xs,σ'=>x.i=i∧x.σ=σ∧C8 (i+1) x.next xs σ'
def Rec.log (x:Rec):Option Log:=x.r.map fun(gs,e)=>⟨x.i,Qr x.σ gs x.o,e.ar.map (·.1)⟩
theorem XG {P:Program} {sg:Bq} {Rt:Nat→List AV→AV→Prop} {ops:Array Oper} {base:Nat} {R:AV→Prop} {L:LK} {js:List JK}: ∀(len i:Nat) (lg:List Log) (σ:St) (t:Tr) (ρ:List AV),i+len=ops.size→
  JL P sg ops true base (List.range' i len) lg σ=some t→t.den Rt R L js ρ→ρ.length=σ.nv→
  ∃(τ:List AV) (xs:List Rec) (σ':St) (lg':List Log),C8 i σ xs σ'∧xs.length=len∧(∀x∈xs,kS P sg Rt ops base (ρ++τ) x)∧(ρ++τ).length=σ'.nv∧L js .normal {σ' with nx:=base+Bh*ops.size} (ρ++τ)∧T2 ops lg'=true∧(∀y∈lg,y∈lg')∧ ∀x∈xs,∀y,x.log=some y→y∈lg'
 |0,i,lg,σ,t,ρ,hl,ht,hd,hn=>by
  simp only [List.range'_zero,JL,Bool.true_and]at ht;split at ht
  ·cases ht
  ·rename_i Rj;simp only [Ad]at ht;subst ht;exact⟨[], [],σ,lg,rfl,rfl,by simp,by simpa using hn,by simpa [Tr.den]using hd,by simpa using Rj,fun y hy=>hy,by simp⟩
 |len+1,i,lg,σ,t,ρ,hl,ht,hd,hn=>by
  rw [List.range'_succ]at ht;unfold JL at ht;obtain⟨o,hi⟩: ∃o,ops[i]?=some o:=⟨ops[i]'(by omega),by simp [show i<ops.size by omega]⟩
  rw [hi]at ht;simp only at ht;unfold QY QW at ht;cases FP:L5 σ ops o with
  |none=>rw [FP]at ht;cases ht
  |some r=>
   rw [FP]at ht;cases r with
   |none=>
    simp only at ht;obtain⟨τ,xs,σ',lg',h1,h2,h3,h4,h5,h6,h7,h8⟩:=XG len (i+1) lg _ t ρ (by omega) ht hd (by rw [Xr];exact hn);refine⟨τ,⟨i,o,σ,none⟩::xs,σ',lg',⟨rfl,rfl,h1⟩,by simp [h2],fun x hx=> ?_,h4,h5,h6,h7,fun x hx y hy=> ?_⟩
    ·rcases Ae.1 hx with rfl|hx
     ·exact⟨hi,FP⟩
     ·exact h3 x hx
    ·rcases Ae.1 hx with rfl|hx
     ·simp [Rec.log]at hy
     ·exact h8 x hx y hy
   |some gs=>
    simp only at ht;split at ht
    ·rename_i e he;split at ht
     ·cases ht
     ·rename_i Aq;simp only [Bool.true_and,Bool.not_true,Bool.false_and,Bool.or_false,Bool.or_eq_true,Bool.not_eq_true',not_or,Bool.not_eq_false]at Aq;have Cb:e.bc=none:=by cases hh:e.bc with|none=>rfl|some x=>rw [hh]at Aq;simp at Aq
      split at ht
      ·cases ht
      ·rename_i k hk;simp only [Ad]at ht;subst ht;have Ee:=Aq.2;simp only [N7,Ac,AN]at Ee;obtain⟨⟨⟨⟨Bj,AQ⟩,Ff⟩,_⟩,_⟩:=Ee;rw [←hn]at Bj AQ Ff;unfold TN at hd;obtain⟨hc,hd⟩:=XR hd;simp only [Cb]at hd;obtain⟨τ0,nW,AW,BO⟩: ∃τ0:List AV,(ρ++τ0).length=(Jo σ gs o e).nv∧(∀cl,e.call=some cl→ ∃r,τ0= [r]∧(AY ρ gs→GZ Rt cl.fn ((EL.of cl.args).den ρ) ρ r))∧k.den Rt R L js (ρ++τ0):=by
        cases Ay:e.call with
        |none=>rw [Ay]at hd;exact⟨[],by rw [X5];simp [Ay,Cb,hn],by simp,by simpa using hd⟩
        |some cl=>rw [Ay]at hd;obtain⟨r,h1,h2⟩:=hd;exact⟨[r],by rw [X5];simp [Ay,hn],fun cl' h=>by cases h;exact⟨r,rfl,h1⟩,h2⟩
       obtain⟨τ,xs,σ',lg',h1,h2,h3,h4,h5,h6,h7,h8⟩:=XG len (i+1) _ _ k (ρ++τ0) (by omega) hk BO nW;have UE:ρ++τ0++τ=ρ++(τ0++τ):=List.append_assoc ..;rw [UE]at h3 h4 h5;refine⟨τ0++τ,⟨i,o,σ,some (gs,e)⟩::xs,σ',lg',⟨rfl,rfl,h1⟩,by simp [h2],fun x hx=> ?_,h4,h5,h6,fun y hy=>h7 y (by simp [hy]),fun x hx y hy=> ?_⟩
       ·rcases Ae.1 hx with rfl|hx
        ·refine⟨hi,FP,he,Cb,Aq.2,fun hg q hq=>(Cn.jm (AQ q hq)).2 (hc ((Jl Bj).1 hg) q hq),fun cl Ay=> ?_⟩;obtain⟨r,hr,h2⟩:=AW cl Ay;rw [Ay]at Ff;simp only [Ac]at Ff;subst hr;exact⟨r,by simp only;rw [←hn];simp,fun hg=>(cF Ff.1 (EL.jx (by simpa using Ff.2))).2 (h2 ((Jl Bj).1 hg))⟩
        ·exact h3 x hx
       ·rcases Ae.1 hx with rfl|hx
        ·simp only [Rec.log,Option.map_some,Ad]at hy;subst hy;exact h7 _ (by simp)
        ·exact h8 x hx y hy
    ·cases ht
def Fi (n:Nat) (sl0:Nat→SV) (xs:List Rec) (S:Nat→Bool):Nat→SV:=xs.foldl (fun sl x=>if S x.i then B5 n sl x.o.dst x.val else sl) sl0
def FT (hp0:Nat→Option Ah) (xs:List Rec) (S:Nat→Bool):Nat→Option Ah:=xs.foldl (fun hp x=>if S x.i then AU hp x.ar else hp) hp0
section
variable {n:Nat} {S S':Nat→Bool} {d t:Nat}
theorem Qb: ∀(xs:List Rec) {sl sl':Nat→SV},sl d=sl' d→(∀x∈xs,x.o.dst=some d→S x.i=S' x.i)→Fi n sl xs S d=Fi n sl' xs S' d
 | [],_,_,h,_=>h
 |x::xs,sl,sl',h,hs=>by
  refine Qb xs (sl:=if S x.i then B5 n sl x.o.dst x.val else sl) (sl':=if S' x.i then B5 n sl' x.o.dst x.val else sl') ?_ fun y hy=>hs y (by simp [hy]);by_cases hd:x.o.dst=some d
  ·rw [←hs x (by simp) hd];split
   ·simp only [B5,hd,true_and];rw [h]
   ·exact h
  ·have hu: ∀sl:Nat→SV,B5 n sl x.o.dst x.val d=sl d:=fun sl=>by simp [B5,hd]
   have h1:(if S x.i then B5 n sl x.o.dst x.val else sl) d=sl d:=by split;exact hu sl;rfl
   have h2:(if S' x.i then B5 n sl' x.o.dst x.val else sl') d=sl' d:=by split;exact hu sl';rfl
   rw [h1,h2,h]
theorem X0 (xs:List Rec) {sl:Nat→SV} (hs: ∀x∈xs,x.o.dst=some d→S x.i=false):Fi n sl xs S d=sl d:=by
 have h1:=Qb (n:=n) (S:=S) (S':=fun _=>false) xs (sl:=sl) (sl':=sl) (d:=d) rfl hs;rw [h1];clear h1 hs
 induction xs generalizing sl with
 |nil=>rfl
 |cons x xs ih=>exact ih
theorem YE (hd:n≤d): ∀(xs:List Rec) {sl:Nat→SV},Fi n sl xs S d=sl d
 | [],_=>rfl
 |x::xs,sl=>by
  have:=YE hd xs (sl:=if S x.i then B5 n sl x.o.dst x.val else sl);refine Eq.trans this ?_;split
  ·simp only [B5];rw [if_neg (by omega)]
  ·rfl
theorem iZ {y:Rec} (hd:d<n) (hy:y.o.dst=some d) (hS:S y.i=true): ∀(xs:List Rec) {sl:Nat→SV},y∈xs→(∀x∈xs,x≠y→x.o.dst≠some d)→Fi n sl xs S d=y.val
 | [],_,h,_=>by simp at h
 |x::xs,sl,h,hu=>by
  by_cases hm:y∈xs
  ·exact iZ hd hy hS xs (sl:=if S x.i then B5 n sl x.o.dst x.val else sl) hm fun z hz=>hu z (by simp [hz])
  ·have hx:y=x:=by rcases Ae.1 h with h|h;exact h;exact absurd h hm
   subst hx;have:=X0 (n:=n) (S:=S) (d:=d) xs (sl:=B5 n sl y.o.dst y.val) (fun z hz MN=>absurd MN (hu z (by simp [hz]) (fun hh=>hm (hh▸hz))));show Fi n (if S y.i then B5 n sl y.o.dst y.val else sl) xs S d=_;rw [if_pos hS,this];simp [B5,hy,hd]
theorem cN {hp hp':Nat→Option Ah} {l:List (Nat × Ah)} (h:hp t=hp' t):AU hp l t=AU hp' l t:=by
 induction l generalizing hp hp' with
 |nil=>exact h
 |cons p l ih=>
  refine ih ?_;show(if t=p.1 then some p.2 else hp t)=(if t=p.1 then some p.2 else hp' t)
  rw [h]
theorem u6 {hp hp':Nat→Option Ah} {l:List (Nat × Ah)} (h:t∈l.map (·.1)):AU hp l t=AU hp' l t:=by
 induction l generalizing hp hp' with
 |nil=>simp at h
 |cons p l ih=>
  by_cases hm:t∈l.map (·.1)
  ·exact ih hm
  ·have ht:t=p.1:=by simp only [List.map_cons,Ae]at h;exact h.resolve_right hm
   refine cN (l:=l) ?_;show(if t=p.1 then some p.2 else hp t)=(if t=p.1 then some p.2 else hp' t)
   rw [if_pos ht,if_pos ht]
theorem X2 {hp:Nat→Option Ah} {l:List (Nat × Ah)} (h:t∉l.map (·.1)):AU hp l t=hp t:=
 Jp fun e he=>h (List.mem_map.2 ⟨_,he,rfl⟩)
theorem P9: ∀(xs:List Rec) {hp hp':Nat→Option Ah},hp t=hp' t→(∀x∈xs,t∈x.ar.map (·.1)→S x.i=S' x.i)→FT hp xs S t=FT hp' xs S' t
 | [],_,_,h,_=>h
 |x::xs,hp,hp',h,hs=>by
  refine P9 xs (hp:=if S x.i then AU hp x.ar else hp) (hp':=if S' x.i then AU hp' x.ar else hp') ?_ fun y hy=>hs y (by simp [hy]);by_cases hd:t∈x.ar.map (·.1)
  ·rw [←hs x (by simp) hd];split
   ·exact cN h
   ·exact h
  ·have h1:(if S x.i then AU hp x.ar else hp) t=hp t:=by split;exact X2 hd;rfl
   have h2:(if S' x.i then AU hp' x.ar else hp') t=hp' t:=by split;exact X2 hd;rfl
   rw [h1,h2,h]
theorem XS (xs:List Rec) {hp:Nat→Option Ah} (hs: ∀x∈xs,t∈x.ar.map (·.1)→S x.i=false):FT hp xs S t=hp t:=by
 have h1:=P9 (S:=S) (S':=fun _=>false) xs (hp:=hp) (hp':=hp) (t:=t) rfl hs;rw [h1];clear h1 hs
 induction xs generalizing hp with
 |nil=>rfl
 |cons x xs ih=>exact ih
end
section
variable {n:Nat} {S:Nat→Bool} {d t:Nat}
theorem Rec.j9 (x:Rec):Bd x.next=B5 x.σ.sl.length (Bd x.σ) x.o.dst x.val:=by
 obtain⟨i,o,σ,r⟩:=x;cases r with
 |none=>exact Xo
 |some ge=>exact fI
theorem Rec.j5 (x:Rec):Ax x.next.hp=AU (Ax x.σ.hp) x.ar:=by
 obtain⟨i,o,σ,r⟩:=x;cases r with
 |none=>simp only [Rec.next,Rec.ar,Xi];rfl
 |some ge=>exact fS
theorem Rec.jr (x:Rec):x.next.sl.length=x.σ.sl.length:=by
 obtain⟨i,o,σ,r⟩:=x;cases r with
 |none=>exact WZ
 |some ge=>exact dN
theorem C8.range: ∀{xs:List Rec} {i:Nat} {σ σ':St},C8 i σ xs σ'→ ∀x∈xs,i≤x.i∧x.i<i+xs.length
 | [],_,_,_,_,x,hx=>by simp at hx
 |y::xs,i,σ,σ',h,x,hx=>by
  rcases Ae.1 hx with rfl|hx
  ·have:=h.1;simp only [AA];omega
  ·have:=C8.range h.2.2 x hx;simp only [AA];omega
theorem C8.ex: ∀{xs:List Rec} {i:Nat} {σ σ':St},C8 i σ xs σ'→ ∀j,i≤j→j<i+xs.length→ ∃x∈xs,x.i=j
 | [],i,_,_,_,j,h1,h2=>by simp at h2;omega
 |y::xs,i,σ,σ',h,j,h1,h2=>by
  by_cases hj:j=i
  ·exact⟨y,by simp,by rw [hj];exact h.1⟩
  ·simp only [AA]at h2;obtain⟨x,hx,he⟩:=C8.ex h.2.2 j (by omega) (by omega);exact⟨x,by simp [hx],he⟩
theorem C8.inj: ∀{xs:List Rec} {i:Nat} {σ σ':St},C8 i σ xs σ'→ ∀x∈xs,∀y∈xs,x.i=y.i→x=y
 | [],_,_,_,_,x,hx,_,_,_=>by simp at hx
 |z::xs,i,σ,σ',h,x,hx,y,hy,he=>by
  have hz:=h.1;rcases Ae.1 hx with h1|h1<;>rcases Ae.1 hy with h2|h2
  ·rw [h1,h2]
  ·subst h1;have:=(C8.range h.2.2 y h2).1;omega
  ·subst h2;have:=(C8.range h.2.2 x h1).1;omega
  ·exact C8.inj h.2.2 x h1 y h2 he
theorem C8.sl: ∀{xs:List Rec} {i:Nat} {σ σ':St},C8 i σ xs σ'→σ.sl.length=n→(∀x∈xs,x.σ.sl.length=n∧ ∀d,Bd x.σ d=Fi n (Bd σ) xs (fun k=>decide (k<x.i)) d)∧σ'.sl.length=n∧Bd σ'=Fi n (Bd σ) xs fun _=>true
 | [],i,σ,σ',h,hn=>by have h:σ=σ':=h;subst h;exact⟨by simp,hn,rfl⟩
 |y::xs,i,σ,σ',h,hn=>by
  obtain⟨h1,h2,h3⟩:=h;subst h2;obtain⟨q1,q2,q3⟩:=C8.sl h3 (by rw [y.jr];exact hn);rw [y.j9,hn]at q1 q3;refine⟨fun x hx=> ?_,q2,q3⟩;rcases Ae.1 hx with rfl|hx
  ·refine⟨hn,fun d=>(X0 _ fun z hz _=> ?_).symm⟩;rcases Ae.1 hz with rfl|hz
   ·simp
   ·have:=(C8.range h3 z hz).1;simp only [decide_eq_false_iff_not];omega
  ·refine⟨(q1 x hx).1,fun d=> ?_⟩;rw [(q1 x hx).2 d];have:=(C8.range h3 x hx).1;show _=Fi n (if decide (y.i<x.i)then B5 n (Bd y.σ) y.o.dst y.val else Bd y.σ) xs (fun k=>decide (k<x.i)) d;rw [if_pos (by simp only [decide_eq_true_eq];omega)]
theorem C8.hp: ∀{xs:List Rec} {i:Nat} {σ σ':St},C8 i σ xs σ'→(∀x∈xs,∀t,Ax x.σ.hp t=FT (Ax σ.hp) xs (fun k=>decide (k<x.i)) t)∧Ax σ'.hp=FT (Ax σ.hp) xs fun _=>true
 | [],i,σ,σ',h=>by have h:σ=σ':=h;subst h;exact⟨by simp,rfl⟩
 |y::xs,i,σ,σ',h=>by
  obtain⟨h1,h2,h3⟩:=h;subst h2;obtain⟨q1,q3⟩:=C8.hp h3;rw [y.j5]at q1 q3;refine⟨fun x hx=> ?_,q3⟩;rcases Ae.1 hx with rfl|hx
  ·refine fun d=>(XS _ fun z hz _=> ?_).symm;rcases Ae.1 hz with rfl|hz
   ·simp
   ·have:=(C8.range h3 z hz).1;simp only [decide_eq_false_iff_not];omega
  ·intro t;rw [q1 x hx t];have:=(C8.range h3 x hx).1;show _=FT (if decide (y.i<x.i)then AU (Ax y.σ.hp) y.ar else Ax y.σ.hp) xs (fun k=>decide (k<x.i)) t;rw [if_pos (by simp only [decide_eq_true_eq];omega)]
theorem jR {y:Rec} {VA:Nat→Option Ah} (hS:S y.i=true) (ht:t∈y.ar.map (·.1)): ∀{xs:List Rec} {i:Nat} {σ σ':St} {hp0:Nat→Option Ah},C8 i σ xs σ'→y∈xs→(∀x∈xs,x.i≠y.i→t∈x.ar.map (·.1)→S x.i=decide (x.i<y.i))→FT hp0 xs S t=AU VA y.ar t
 | [],_,_,_,_,_,h,_=>by simp at h
 |x::xs,i,σ,σ',hp0,hc,hm,hs=>by
  by_cases hx:y=x
  ·subst hx;have:=XS (S:=S) (t:=t) xs (hp:=AU hp0 y.ar) (fun z hz MN=>by
    have Au:=(C8.range hc.2.2 z hz).1;have h1:=hc.1;rw [hs z (by simp [hz]) (by omega) MN];simp only [decide_eq_false_iff_not];omega)
   show FT (if S y.i then AU hp0 y.ar else hp0) xs S t=_;rw [if_pos hS,this];exact u6 ht
  ·have E4:y∈xs:=by rcases Ae.1 hm with h|h;exact absurd h hx;exact h
   exact jR hS ht (hp0:=if S x.i then AU hp0 x.ar else hp0) hc.2.2 E4 fun z hz=>hs z (by simp [hz])
end
theorem dY {α:Type} {p p':α→Bool}: ∀(l:List α),(∀k∈l,p' k=true→p k=true)→(∃j∈l,p j=true∧p' j=false)→(l.filter p').length<(l.filter p).length
 | [],_,h=>by obtain⟨j,hj,_⟩:=h;simp at hj
 |x::l,hs,h=>by
  have hle:(l.filter p').length≤(l.filter p).length:=by
   have: ∀(l:List α),(∀k∈l,p' k=true→p k=true)→(l.filter p').length≤(l.filter p).length:=by
    intro l
    induction l with
    |nil=>intro _;simp
    |cons y l ih=>
     intro h;have:=ih fun k hk=>h k (by simp [hk]);have hy:=h y (by simp);cases h1:p' y with
     |false=>
      cases h2:p y with
      |false=>simpa [h1,h2]using this
      |true=>simp only [List.filter_cons,h1,h2,A9,if_false,if_true,AA];omega
     |true=>simpa [h1,hy h1]using this
   exact this l fun k hk=>hs k (by simp [hk])
  obtain⟨j,hj,h1,h2⟩:=h;rcases Ae.1 hj with rfl|hj
  ·simp only [List.filter_cons,h1,h2,A9,if_false,if_true,AA];omega
  ·have:=dY l (fun k hk=>hs k (by simp [hk])) ⟨j,hj,h1,h2⟩;have hx:=hs x (by simp);cases h3:p' x with
   |false=>
    cases h4:p x with
    |false=>simpa [h3,h4]using this
    |true=>simp only [List.filter_cons,h3,h4,A9,if_false,if_true,AA];omega
   |true=>simpa [h3,hx h3]using this
section
variable {ops:Array Oper} {listed:Array Bool}
theorem vV (hb: ∀j o,ops[j]?=some o→ ∀e∈o.after.toList,Region.binds .any e=true→e.on<j) (Bz:listed.size=ops.size) (hr:Region.ready .any ops listed= []): ∀k,k<ops.size→listed.getD k true=true:=by
 intro k
 induction k using Nat.strongRecOn with
 |_ k ih=>
  intro hk;cases hs:listed.getD k true with
  |true=>rfl
  |false=>
   have:k∈Region.ready .any ops listed:=mem_ready.2 ⟨hs,ops[k],by simp [hk],fun e he IX=>by
    have Au:=hb k ops[k] (by simp [hk]) e (by simpa using he) IX;have:=ih e.on Au (by omega);have h2:e.on<listed.size:=by omega
    simp only [Array.getD_eq_getD_getElem?,Array.getElem?_eq_getElem h2,Option.getD_some]at this ⊢;exact this⟩
   rw [hr]at this;cases this
theorem yH (Bz:listed.size=ops.size) {j:Nat} (hj:j<ops.size) (k:Nat):(listed.setIfInBounds j true).getD k true=(decide (k=j)||listed.getD k true):=by
 by_cases h:j=k
 ·subst h;simp [Array.getD_eq_getD_getElem?,show j<listed.size by omega]
 ·rw [getD_set_ne true h];simp [Ne.symm h]
variable {P:Program} {sg:Bq} {Rt:Nat→List AV→AV→Prop}
theorem uW (AE:Mv P sg Rt) {F:Fix} {σ σ':St} {xs:List Rec} {ρ:List AV} {lg:List Log} {n:Nat} {Q:Exit→Act→World→Prop} (hc:C8 0 σ xs σ') (hlen:xs.length=ops.size) (Aw: ∀x∈xs,kS P sg Rt ops σ.nx ρ x) (Rj:T2 ops lg=true) (O3: ∀x∈xs,∀y,x.log=some y→y∈lg) (hn:σ.sl.length=n)
  (hQ: ∀(c:Cx) (a:Act),c.ρ=ρ→c.w0=F.w0→c.A=F.A→c.Mu=F.Mu→(∀t,c.U t→t<σ.nx+Bh*ops.size)→Rel c n (Bd σ') (Ax σ'.hp) a→Q .normal a c.w):
  ∀(fuel:Nat) (listed:Array Bool) (a:Act) (c:Cx),listed.size=ops.size→QJ ops (fun k=>listed.getD k true)→c.ρ=ρ→c.w0=F.w0→c.A=F.A→c.Mu=F.Mu→
   (∀t,c.U t→t<σ.nx∨ ∃k,k<ops.size∧listed.getD k true=true∧σ.nx+Bh*k≤t∧t<σ.nx+Bh*k+Bh)→Rel c n (Fi n (Bd σ) xs fun k=>listed.getD k true) (FT (Ax σ.hp) xs fun k=>listed.getD k true) a→
   ((List.range ops.size).filter fun k=> !listed.getD k true).length≤fuel→wpAny P .any ops Q fuel listed a c.w:=by
 simp only [T2,Ac,AN,Bool.or_eq_true,beq_iff_eq,Bool.not_eq_true',decide_eq_true_eq]at Rj;obtain⟨⟨d1,d2⟩,d3⟩:=Rj;have O7: ∀j o,ops[j]?=some o→(o,j)∈ops.toList.zipIdx:=fun j o h=>List.mk_mem_zipIdx_iff_getElem?.2 (by simpa using h);have hb: ∀j o,ops[j]?=some o→ ∀e∈o.after.toList,Region.binds .any e=true→e.on<j:=fun j o h e he IX=>by
  rcases d2 (o,j) (O7 j o h) e he with h|h
  ·rw [IX]at h;cases h
  ·exact h
 obtain⟨c1,c2,c3⟩:=hc.sl hn;obtain⟨c4,c5⟩:=hc.hp;have Df: ∀(listed:Array Bool) (a:Act) (c:Cx),listed.size=ops.size→c.ρ=ρ→c.w0=F.w0→c.A=F.A→c.Mu=F.Mu→
   (∀t,c.U t→t<σ.nx∨ ∃k,k<ops.size∧listed.getD k true=true∧σ.nx+Bh*k≤t∧t<σ.nx+Bh*k+Bh)→Rel c n (Fi n (Bd σ) xs fun k=>listed.getD k true) (FT (Ax σ.hp) xs fun k=>listed.getD k true) a→
   (∀k,k<ops.size→listed.getD k true=true)→Q .normal a c.w:=by
  intro listed a c Bz h1 h2 h3 h4 h5 h6 Cr;refine hQ c a h1 h2 h3 h4 (fun t ht=> ?_) ?_
  ·rcases h5 t ht with h|⟨k,hk,_,_,h⟩
   ·simp only [Bh]at*;omega
   ·simp only [Bh]at*;omega
  ·have e1:(Fi n (Bd σ) xs fun k=>listed.getD k true)=Bd σ':=by
    rw [c3];funext d;exact Qb xs rfl fun x hx _=>by have:=(hc.range x hx).2;exact Cr x.i (by omega)
   have e2:(FT (Ax σ.hp) xs fun k=>listed.getD k true)=Ax σ'.hp:=by rw [c5];funext d;exact P9 xs rfl fun x hx _=>by have:=(hc.range x hx).2;exact Cr x.i (by omega)
   rw [e1,e2]at h6;exact h6
 intro fuel
 induction fuel with
 |zero=>
  intro listed a c Bz Ay h1 h2 h3 h4 h5 h6 OG;have Cr: ∀k,k<ops.size→listed.getD k true=true:=by intro k hk;have:=List.length_eq_zero_iff.1 (Nat.le_zero.1 OG);have:=List.filter_eq_nil_iff.1 this k (by simpa using hk);simpa using this
  refine⟨?_,Df listed a c Bz h1 h2 h3 h4 h5 h6 Cr⟩;refine List.eq_nil_iff_forall_not_mem.2 fun j hj=> ?_;obtain⟨q1,o,q2,_⟩:=mem_ready.1 hj;rw [Cr j (Array.getElem?_eq_some_iff.1 q2).1]at q1;cases q1
 |succ fuel ih=>
  intro listed a c Bz Ay h1 h2 h3 h4 h5 h6 OG;refine⟨fun hr=>Df listed a c Bz h1 h2 h3 h4 h5 h6 (vV hb Bz hr),fun j hj=> ?_⟩;obtain⟨q1,o,q2,q3⟩:=mem_ready.1 hj;have Vc:j<ops.size:=(Array.getElem?_eq_some_iff.1 q2).1;have JX: ∀e∈o.after.toList,Region.binds .any e=true→listed.getD e.on true=true:=fun e he IX=>by
   have h9:=q3 e (by simpa using he) IX;have Au:=hb j o q2 e he IX;have h8:e.on<listed.size:=by omega
   simp only [Array.getD_eq_getD_getElem?,Array.getElem?_eq_getElem h8,Option.getD_some]at h9 ⊢;exact h9
  obtain⟨y,hy,Hj⟩:=hc.ex j (by omega) (by omega);have LG:y.o=o:=by have:=(Aw y hy).1;rw [Hj,q2]at this;exact(Option.some.inj this).symm
  have RE: ∀x∈xs,x.i<ops.size:=fun x hx=>by have:=(hc.range x hx).2;omega
  have ZF: ∀x∈xs,ops[x.i]?=some x.o:=fun x hx=>(Aw x hx).1;have agree: ∀x∈xs,x.i≠j→H0 (IM ops.toList []) x.i j=true→listed.getD x.i true=decide (x.i<j):=fun x hx A4 ho=>wA (S:=fun k=>listed.getD k true) Ay q2 (RE x hx) q1 JX A4 ho;have Kh: ∀x∈xs,x.i=j→listed.getD x.i true=decide (x.i<j):=fun x hx he=>by rw [he,q1];simp
  have Gj: ∀d,d∈TU ops o→Bd y.σ d=Fi n (Bd σ) xs (fun k=>listed.getD k true) d:=by
   intro d hd;rw [(c1 y hy).2 d,Hj];refine Qb xs rfl fun x hx Py=> ?_;by_cases he:x.i=j
   ·exact(Kh x hx he).symm
   ·rcases d3 (o,j) (O7 j o q2) (x.o,x.i) (O7 _ _ (ZF x hx))with h|h
    ·exact absurd h he
    ·simp only [Py,Ac,Bool.or_eq_true,Bool.not_eq_true']at h;rcases h.2 with h|h
     ·rw [List.contains_iff_mem.2 hd]at h;cases h
     ·exact(agree x hx he h).symm
  have hW: ∀x∈xs,∀t,t∈x.ar.map (·.1)→ ∀ly,y.log=some ly→(t∈ly.R∨t∈ly.W)→listed.getD x.i true=decide (x.i<j):=by
   intro x hx t ht ly O4 hm;by_cases he:x.i=j
   ·exact Kh x hx he
   ·cases V1:x.r with
    |none=>simp [Rec.ar,V1]at ht
    |some ge=>
     obtain⟨gs,e⟩:=ge;have mR:x.log=some ⟨x.i,Qr x.σ gs x.o,e.ar.map (·.1)⟩:=by simp [Rec.log,V1]
     have Vk:ly.i=j:=by unfold Rec.log at O4;obtain⟨ge',_,rfl⟩:=Am.1 O4;exact Hj
     have h9:=d1 _ (O3 x hx _ mR) _ (O3 y hy _ O4);simp only [Vk]at h9;rcases h9 with(h|h)|h
     ·exact absurd h he
     ·exfalso;have:YG (e.ar.map (·.1)) (ly.R++ly.W)=true:=by
       simp only [YG,List.any_eq_true];exact⟨t,by simpa [Rec.ar,V1]using ht,List.contains_iff_mem.2 (by simpa using hm)⟩
      rw [this]at h;cases h
     ·exact agree x hx he h
  have BX: ∀k,(listed.setIfInBounds j true).getD k true=(decide (k=j)||listed.getD k true):=yH Bz Vc;have VP:Fi n (Bd σ) xs (fun k=>(listed.setIfInBounds j true).getD k true)=B5 n (Fi n (Bd σ) xs fun k=>listed.getD k true) o.dst y.val:=by
   funext d;unfold B5;split
   ·rename_i hd;refine iZ hd.2 (by rw [LG];exact hd.1) (by rw [BX,Hj];simp) xs hy fun x hx A4 Py=> ?_;have he:x.i≠j:=fun h=>A4 (hc.inj x hx y hy (by rw [h,Hj]));rcases d3 (o,j) (O7 j o q2) (x.o,x.i) (O7 _ _ (ZF x hx))with h|h
    ·exact he h
    ·simp only [Py,Ac,bne_iff_ne,ne_eq]at h;exact h.1 hd.1
   ·rename_i hd;by_cases UT:d<n
    ·refine Qb xs rfl fun x hx Py=> ?_;have he:x.i≠j:=fun h=>by
      have:x=y:=hc.inj x hx y hy (by rw [h,Hj]);subst this;exact hd ⟨by rw [←LG];exact Py,UT⟩
     rw [BX];simp [he]
    ·rw [YE (by omega),YE (by omega)]
  have U5:FT (Ax σ.hp) xs (fun k=>(listed.setIfInBounds j true).getD k true)=AU (FT (Ax σ.hp) xs fun k=>listed.getD k true) y.ar:=by
   funext t;by_cases ht:t∈y.ar.map (·.1)
   ·refine jR (by rw [BX,Hj];simp) ht hc hy fun x hx A4 V2=> ?_;rw [Hj]at A4 ⊢;rw [BX];simp only [A4,decide_false,Bool.false_or];cases HY:y.r with
    |none=>simp [Rec.ar,HY]at ht
    |some ge=>exact hW x hx t V2 _ (by simp only [Rec.log,HY,Option.map_some];rfl) (.inr (by simpa [Rec.ar,HY]using ht))
   ·rw [X2 ht];refine P9 xs rfl fun x hx V2=> ?_;have he:x.i≠j:=fun h=>by
     have:x=y:=hc.inj x hx y hy (by rw [h,Hj]);subst this;exact ht V2
    rw [BX];simp [he]
  have OH:((List.range ops.size).filter fun k=> !(listed.setIfInBounds j true).getD k true).length≤fuel:=by have:=dY (p:=fun k=> !listed.getD k true) (p':=fun k=> !(listed.setIfInBounds j true).getD k true) (List.range ops.size) (fun k _ hk=>by rw [BX]at hk;simp at hk ⊢;exact hk.2) ⟨j,by simpa using Vc,by simp [q1],by rw [BX];simp⟩;omega
  have UL:QJ ops (fun k=>(listed.setIfInBounds j true).getD k true):=by
   intro k ok hk Ve e he IX;simp only [BX,Bool.or_eq_true,decide_eq_true_eq]at hk ⊢;rcases hk with rfl|hk
   ·rw [q2]at Ve;cases Ve;exact .inr (JX e he IX)
   ·exact .inr (Ay k ok hk Ve e he IX)
  have J1: ∀(a':Act) (c':Cx),c'.ρ=ρ→c'.w0=F.w0→c'.A=F.A→c'.Mu=F.Mu→(∀t,c'.U t→c.U t∨(σ.nx+Bh*j≤t∧t<σ.nx+Bh*j+Bh))→Rel c' n (B5 n (Fi n (Bd σ) xs fun k=>listed.getD k true) o.dst y.val) (AU (FT (Ax σ.hp) xs fun k=>listed.getD k true) y.ar) a'→
    wpAny P .any ops Q fuel (listed.setIfInBounds j true) a' c'.w:=by
   intro a' c' g1 g2 g3 g4 g5 g6;refine ih _ a' c' (by simpa using Bz) UL g1 g2 g3 g4 (fun t ht=> ?_) (by rw [VP,U5];exact g6) OH;rcases g5 t ht with h|h
   ·rcases h5 t h with h|⟨k,k1,k2,k3,k4⟩
    ·exact .inl h
    ·exact .inr ⟨k,k1,by rw [BX,k2];simp,k3,k4⟩
   ·exact .inr ⟨j,Vc,by rw [BX];simp,h.1,h.2⟩
  have Zp: ∀j' want d,o.guard=some (j',want)→(ops[j']?).bind (·.dst)=some d→SR c [Bd y.σ d] [a.tmps.getD d Go.undef]:=by intro j' want d hg hd;rw [Gj d (by simp only [TU,hg,Af];exact .inr (by simp [hd]))];exact h6.cc d
  obtain⟨_,Ct⟩:=Aw y hy;cases HY:y.r with
  |none=>
   rw [HY]at Ct;have Ec:=XC (c:=c) (a:=a) Ct (fun j' want d hg hd=>Zp j' want d (by rw [←LG];exact hg) hd);unfold wpOp;simp only [q2];rw [LG]at Ec;rw [if_neg (by simp [show Region.wanted o (yielded ops a.tmps)=false from Ec])];have hv:y.val=F8:=by simp [Rec.val,HY]
   have he:y.ar= []:=by simp [Rec.ar,HY]
   refine J1 _ c h1 h2 h3 h4 (fun t ht=> .inl ht) ?_;rw [hv,he];exact h6.put Ya o.dst
  |some ge=>
   obtain⟨gs,e⟩:=ge;rw [HY]at Ct;simp only at Ct;obtain⟨r1,r2,r3,r4,r5,r6⟩:=Ct;rw [LG,Hj]at r2;rw [Hj]at r4;rw [LG]at r1;have Ec:=XC (c:=c) (a:=a) r1 Zp;have hv:y.val=mkGd gs e.val:=by simp [Rec.val,HY]
   have he:y.ar=e.ar:=by simp [Rec.ar,HY]
   simp only [N7,Ac,AN]at r4;obtain⟨_,VM⟩:=r4;have O4:y.log=some ⟨y.i,Qr y.σ gs y.o,e.ar.map (·.1)⟩:=by simp [Rec.log,HY]
   refine iR (c:=c) AE q2 h6 Ec (fun t ht=>Gj t (by simp only [TU,Af,List.mem_filterMap];exact .inl ⟨.tmp t,by simpa using ht,rfl⟩)) (fun t x hx=> ?_) (fun t t1 t2 hU=> ?_) r2 (fun A4 t x hx=> ?_) (by rw [h1];exact r5) (by rw [h1];exact r6) (fun x hx=>by rw [r3]at hx;cases hx) (fun a' c' hs hr=> ?_)
   ·unfold Oh at hx;split at hx
    ·rename_i hR;rw [(c4 y hy) t]at hx;rw [←hx];refine P9 xs rfl fun z hz nU=> ?_;rw [Hj];exact hW z hz t nU _ O4 (.inl (by rw [LG];simpa using hR))
    ·cases hx
   ·rcases h5 t hU with h|⟨k,k1,k2,k3,k4⟩
    ·simp only [Bh]at*;omega
    ·have:k≠j:=by rintro rfl;rw [q1]at k2;cases k2
     simp only [Bh]at*;omega
   ·have:=VM _ hx;have OL:gs.isEmpty=false:=by cases gs;exact absurd rfl A4;rfl
    simp only [OL,Bool.false_or,Bool.false_and,Bool.or_false,Ac,decide_eq_true_eq]at this;refine⟨this.1.1,this.1.2, ?_⟩;have h3:=this.2;split at h3
    ·exact⟨_,_,rfl,h3⟩
    ·cases h3
   ·exact J1 a' c' (hs.ρ.trans h1) (hs.w0.trans h2) (hs.A.trans h3) (hs.Mu.trans h4) hs.U (by rw [hv,he];exact hr)
end
theorem Rel.world {c:Cx} {n:Nat} {sl:Nat→SV} {hp:Nat→Option Ah} {a:Act} (h:Rel c n sl hp a) (w:World) (h1:w.heap=c.w.heap) (h2:w.os=c.w.os) (h3:w.tape=c.w.tape) (h4:w.output=c.w.output):Rel {c with w:=w} n sl hp a:=by
 refine h.change (fun _=>False) ⟨rfl,rfl,fun _ _ hb=>hb,fun b _ _=>by show w.heap[b]?=_;rw [h1],fun _ _ hk=>⟨hk,rfl⟩,fun _ _ _=>⟨Nat.le_refl _,fun _=>⟨rfl,fun b _ _=>by show w.heap[b]?=_;rw [h1]⟩⟩⟩ ⟨h2.trans h.base.os,h3.trans h.base.tape,h4.trans h.base.output,by show _≤w.heap.size;rw [h1];exact h.base.size,h.base.pins,fun b hb hm=>by show w.heap[b]?=_;rw [h1];exact h.base.block b hb hm,h.base.pk,h.base.lo⟩ (fun t _=>⟨rfl,rfl,rfl,fun g hk=>hk⟩) (fun t _ b _=>by show w.heap[b]?=_;rw [h1]) (fun t ht=>ht.elim)
  ⟨h.gw.nodup,h.gw.bp,h.gw.allow,fun t b hb=>by show b<w.heap.size;rw [h1];exact h.gw.inb t b hb⟩ h.a6 h.br
theorem xM {P:Program} {sg:Bq} {Rt:Nat→List AV→AV→Prop} (Vr:P.follows .mixedOrders=true) (AE:Mv P sg Rt) (Ed:QS P sg):fE P sg Rt:=by
 intro id ops draw σ t _ Ee mY ht F R L js ρ a w hL hd hr Q hq;obtain⟨c,rfl,rfl,h1,h2,h3,h4,h5,h6⟩:=hr;rw [List.range_eq_range']at ht;cases draw with
 |false=>refine wp_region ?_;rw [List.range_eq_range'];exact iK AE Ed (n:=σ.sl.length) ops.size 0 [] σ t (by omega) ht c a ⟨h1,h2,h3,h4,rfl,by simpa using h5,h6⟩ hd (fun c' a' σ' hp hl Ak=>hq [] .normal σ' c'.ρ a' c'.w hp hl Ak)
 |true=>
  refine wp_region_any Vr ?_;obtain⟨τ,xs,σ',lg',g1,g2,g3,g4,g5,g6,_,g8⟩:=XG ops.size 0 [] σ t c.ρ (by omega) ht hd h4;have UW:=h6.ext (fun i=>by rw [h4];exact St.kz Ee i) (fun t e he=>by rw [h4];exact St.ko Ee t e he) τ;have hw:=UW.world {c.w with drawn:=c.w.drawn+1} rfl rfl rfl rfl;have FK: ∀k,k<ops.size→(Array.replicate ops.size false).getD k true=false:=fun k hk=>by simp [Array.getD_eq_getD_getElem?,hk]
  have RE: ∀x∈xs,x.i<ops.size:=fun x hx=>by have:=(g1.range x hx).2;omega
  have e1:(Fi σ.sl.length (Bd σ) xs fun k=>(Array.replicate ops.size false).getD k true)=Bd σ:=by funext d;exact X0 _ fun x hx _=>FK x.i (RE x hx)
  have e2:(FT (Ax σ.hp) xs fun k=>(Array.replicate ops.size false).getD k true)=Ax σ.hp:=by funext d;exact XS _ fun x hx _=>FK x.i (RE x hx)
  refine uW (F:=F) (n:=σ.sl.length) (c:={c.ext τ with w:={c.w with drawn:=c.w.drawn+1}}) AE g1 g2 g3 g6 g8 rfl (fun c' a' k1 k2 k3 k4 k5 k6=> ?_) ops.size (Array.replicate ops.size false) a (by simp) (fun k o hk ho=> ?_) rfl h1 h2 h3 (fun t ht=> .inl (h5 t ht)) (by rw [e1,e2];exact hw) (Nat.le_trans (List.length_filter_le _ _) (by simp))
  ·have hlen:=(g1.sl rfl).2.1;refine hq [] .normal _ c'.ρ a' c'.w (by rw [k1];exact List.prefix_append _ _) (by rw [k1];exact g5) ⟨c',rfl,rfl,k2,k3,k4,by rw [k1];exact g4,k5, ?_⟩;show Rel c' σ'.sl.length _ _ a';rw [hlen];exact k6
  ·have:=FK k (Array.getElem?_eq_some_iff.1 ho).1;have BO:(Array.replicate ops.size false).getD k true=true:=hk;rw [this]at BO;cases BO
section
variable {P:Program} {c:Cx} {n nx:Nat} {sl sl0:Nat→SV} {hp hp0:Nat→Option Ah} {a:Act} {o:Oper} {gs:Gd} {e:AP} {sg:Bq} {nv:Nat}
theorem eU (h:A3 P c n nx sl hp a sl0 hp0 o gs) {op:BinOp} {t el:TypeId} {x y:Operand} {ty:TypeId} (ho:o.op= .binOp op t x y ty) (hu:P.underlying t=some (.slice el)) {p:Option Addr} {q r:Nat} (hv:a.eval x= .slice p q r) (r2:SR c [.a8] [a.eval y])
  (AE:op= .eql∨op= .neq) (Fc:c.ρ[nv]?=some (.bool (ID a o))) (x':Option E) {ck:List Cn}:At P o c n nx sl hp gs a {bu:=ck,bc:=x',val:= .e (if op= .eql then .var nv else .not (.var nv))}:=by
 have hb:ID a o=p.isNone:=by simp only [ID,ho,hv];cases p<;>rfl
 rw [hb]at Fc;have ex:=fun(v u:Value) (hv:a.eval x=v) (hu:a.eval y=u)=>Md (P:=P) (o:=o) ho c.w hv hu;generalize CG:a.eval y=v2 at r2;cases r2 with
 |a8 _=>
  refine At.pure h (v:= .bool (if op= .eql then p.isNone else !p.isNone)) ?_ ?_ rfl
  ·rw [ex _ _ hv CG,eqGuard_at_slice];rcases AE with rfl|rfl
   ·simp [Go.Lib.run_eql_slice_nil c.w t el p q r 0 0 hu]
   ·simp [binOp,Op.equal,Op.maxDepth,Go.Lib.run_equalIn_slice_nil c.w 9999 t el p q r 0 0 hu]
  ·rcases AE with rfl|rfl
   ·refine .e (f:= []) ?_ (by simp) .nil;simp only [if_true,E.den,Fc,Option.getD_some];exact .bool .nil
   ·refine .e (f:= []) ?_ (by simp) .nil;simp only [reduceCtorEq,if_false,E.den,Fc,Option.getD_some,AV.ee];exact .bool .nil
end
section
variable {P:Program} {c:Cx} {n nx:Nat} {sl sl0:Nat→SV} {hp hp0:Nat→Option Ah} {a:Act} {o:Oper} {gs:Gd} {e:AP} {sg:Bq} {nv:Nat}
theorem Qi {hp:Nat→Option Ah} {gs:Gd} {m:Nat} {cs:Ba} {x:E} (h:A2 hp gs m (.agg cs)=some x): ∃k l,m=k+1∧BV hp gs k cs.toList=some l∧x= .mk l:=by
 cases m with
 |zero=>simp [A2]at h
 |succ m=>simp only [A2,Am]at h;obtain⟨l,h1,h2⟩:=h;exact⟨m,l,rfl,h1,h2.symm⟩
theorem IG {hp:Nat→Option Ah} {gs:Gd} {m:Nat} {y x:E} (h:A2 hp gs m (.e y)=some x):x=y:=by
 cases m with
 |zero=>simp [A2]at h
 |succ m=>simp [A2]at h;exact h.symm
theorem Jj {hp:Nat→Option Ah} {gs:Gd} {m:Nat} {x:E} (h:A2 hp gs m .a8=some x):x= .lst .nil:=by
 cases m with
 |zero=>simp [A2]at h
 |succ m=>simp [A2]at h;exact h.symm
theorem Iy {hp:Nat→Option Ah} {gs:Gd} {m:Nat} {s:SV} {ss:List SV} {x:EL} (h:BV hp gs m (s::ss)=some x): ∃k y l,m=k+1∧A2 hp gs k s=some y∧BV hp gs k ss=some l∧x= .cons y l:=by
 cases m with
 |zero=>simp [BV]at h
 |succ m=>
  simp only [BV]at h;split at h
  ·rename_i y l h1 h2;simp at h;exact⟨m,y,l,rfl,h1,h2,h.symm⟩
  ·cases h
theorem Nk {hp:Nat→Option Ah} {gs:Gd} {ρ:List AV} {w:World}: ∀(vs:List Value) (ss:List SV) (m:Nat) (x:EL),D6.go vs=some ss→BV hp gs m ss=some x→Rd w vs (x.den ρ) []
 | [],ss,m,x,h,hx=>by
  simp [D6.go]at h;subst h;cases m with
  |zero=>simp [BV]at hx
  |succ m=>simp [BV]at hx;subst hx;exact .nil
 |v::vs,ss,m,x,h,hx=>by
  unfold D6.go at h;split at h
  ·rename_i hh;cases hh
  ·rename_i k q l hh;cases hh;split at h
   ·rename_i hk;obtain⟨l',h1,rfl⟩:=Am.1 h;obtain⟨j,y,l2,rfl,h2,h3,rfl⟩:=Iy hx;rw [IG h2];exact .int hk (Nk _ _ _ _ h1 h3)
   ·cases h
  ·rename_i q l hh;cases hh;obtain⟨l',h1,rfl⟩:=Am.1 h;obtain⟨j,y,l2,rfl,h2,h3,rfl⟩:=Iy hx;rw [IG h2];exact .bool (Nk _ _ _ _ h1 h3)
  ·rename_i q l hh;cases hh;split at h
   ·rename_i hk;obtain⟨l',h1,rfl⟩:=Am.1 h;obtain⟨j,y,l2,rfl,h2,h3,rfl⟩:=Iy hx;rw [IG h2];exact .str hk (Nk _ _ _ _ h1 h3)
   ·cases h
  ·rename_i l hh;cases hh;obtain⟨l',h1,rfl⟩:=Am.1 h;obtain⟨j,y,l2,rfl,h2,h3,rfl⟩:=Iy hx;rw [Jj h2];exact .dn (Nk _ _ _ _ h1 h3)
  ·rename_i l hh;cases hh;obtain⟨l',h1,rfl⟩:=Am.1 h;obtain⟨j,y,l2,rfl,h2,h3,rfl⟩:=Iy hx;rw [IG h2];exact .dd (Nk _ _ _ _ h1 h3)
  ·cases h
theorem W7 {hp:Nat→Option Ah} {gs:Gd} {ρ:List AV} {w:World} {v:Value} {s:SV} {m:Nat} {x:E} (h:D6 v=some s) (hx:A2 hp gs m s=some x):
  Rd w v.cells.toList (x.den ρ).cells []∧(∀u∈v.cells.toList,u.oneCell'=true):=by
 have one: ∀{v:Value} {y:AV},Rd w [v] [y] []→(∀cs,y≠ .agg cs)→(∀cs,y≠ .tup cs)→Rd w v.cells.toList y.cells []∧(∀u∈v.cells.toList,u.oneCell'=true):=by
  intro v y hr h1 h2;have h3:=WY hr h1 h2;have h4:y.cells= [y]:=by cases y<;>first|rfl|exact absurd rfl (h1 _)
  rw [one_cells h3,h4];exact⟨by simpa using hr,by simpa using h3⟩
 unfold D6 at h;split at h
 ·split at h
  ·rename_i hk;simp at h;subst h;rw [IG hx];exact one (.int hk .nil) (by simp [E.den]) (by simp [E.den])
  ·cases h
 ·simp at h;subst h;rw [IG hx];exact one (.bool .nil) (by simp [E.den]) (by simp [E.den])
 ·split at h
  ·rename_i hk;simp at h;subst h;rw [IG hx];exact one (.str hk .nil) (by simp [E.den]) (by simp [E.den])
  ·cases h
 ·simp at h;subst h;rw [Jj hx];exact one (.dn .nil) (by simp [E.den]) (by simp [E.den])
 ·simp at h;subst h;rw [IG hx];exact one (.dd .nil) (by simp [E.den]) (by simp [E.den])
 ·rename_i cs;simp only [Option.bind_eq_bind,An,Ad]at h;obtain⟨l,hl,rfl⟩:=h;obtain⟨k,l',rfl,h1,rfl⟩:=Qi hx;rw [Ba.aj]at h1;exact⟨Nk _ _ _ _ hl h1,W5 _ _ hl⟩
 ·cases h
theorem Yr {w:World} {vs:List Value} {x:AV} (h:Rd w vs x.cells []): ∀k,Rd w (List.replicate k vs).flatten (Az (List.replicate k x)) []
 |0=> .nil
 |k+1=>by simp only [List.replicate_succ,List.flatten_cons,Az,List.flatMap_cons];have:=h.app (Yr h k);simpa [Az]using this
theorem SP (z:Array Value) (hz:0<z.size): ∀k,(madeCells z (k*z.size)).toList=(List.replicate k z.toList).flatten
 |0=>by simp [madeCells]
 |k+1=>by
  have ih:=SP z hz k;simp only [madeCells,Array.toList_map,Array.toList_range]at ih ⊢;rw [Nat.add_mul,Nat.one_mul,List.range_add,List.map_append,ih,List.replicate_succ',List.flatten_append];congr 1;simp only [List.map_map,List.flatten_cons,List.flatten_nil,List.append_nil];apply List.ext_getElem?;intro i;simp only [List.getElem?_map,List.getElem?_range'];by_cases hi:i<z.size
  ·simp only [List.getElem?_range hi,Option.map_some,Function.comp_apply];have:(k*z.size+i) % z.size=i:=by rw [Nat.add_comm,Nat.add_mul_mod_self_right,Nat.mod_eq_of_lt hi]
   simp [this,hi]
  ·rw [List.getElem?_eq_none (by simpa using hi),List.getElem?_eq_none (by simpa using hi)];rfl
theorem uO (h:A3 P c n nx sl hp a sl0 hp0 o gs) {t:TypeId} {l m:Operand} (ho:o.op= .makeSlice t l m) {s1 s2:SV} (Bj:Bm sl0 gs l=some s1) (AQ:Bm sl0 gs m=some s2) (he:Yj P hp0 gs nx t s1 s2=some e) (hc: ∀q∈e.bu,Cn.den c.ρ q):At P o c n nx sl hp gs a e:=by
 have Di:l∈o.op.operands:=by simp [ho,Op.operands]
 have CS:m∈o.op.operands:=by simp [ho,Op.operands]
 unfold Yj at he;split at he
 ·rename_i el x y Bc;have Bc:=Ix Bc;split at he
  ·cases he
  rename_i hz;have hz:G0 P el=true:=by simpa using hz
  obtain⟨i,z,hi,E2,CV,Bz,BZ,Ft⟩:=Ji hz;have r1:=h.bz Bj Di;have r2:=h.bz AQ CS;have ival: ∀{x:E} {kk:IntKind} {k:Int} {v:Value},SR c [.e x] [v]→x.den c.ρ= .int kk k→v= .int kk k:=by
   intro x kk k v hr hx;cases hr with
   |e h1 _ _=>exact(Fy h1 hx).1
  split at he
  ·rename_i FW;split at he
   ·rename_i s hs;have hs:D6 z=some s:=by simpa [hi,E2]using hs
    obtain⟨w,hw,rfl⟩:=Am.1 he;obtain⟨kk,k,hk,h0,hb,hle⟩:Cn.den c.ρ (.mkroom x (P.bytesOf el)):=Bx hc;have Et:=ival r1 hk;have CG:=ival r2 (by rw [←E.af c.ρ _ _ FW];exact hk);obtain⟨c1,c2⟩:=W7 (w:=c.w) (ρ:=c.ρ) hs hw;obtain⟨kn,rfl⟩:=Int.eq_ofNat_of_zero_le h0;have CP:(i.bytes:Int)*(kn:Int)≤281474976710656:=by rw [Ft]at hb;rw [Int.mul_comm];omega
    have hlen:=c1.len;have Rm:=SP z.cells (by omega) kn;have AI:=run_make (P:=P) c.w t el i z Bc hi E2 kk kk kn kn (by omega) (Int.le_refl _) CP (by omega);have Es:(madeCells z.cells (kn*z.cells.size)).size=kn*P.cellsOf el:=by rw [size_madeCells,CV,BZ]
    have BI:(madeCells z.cells (kn*z.cells.size)).toList.take ((List.replicate kn (w.den c.ρ)).length*P.cellsOf el)=(List.replicate kn z.cells.toList).flatten:=by rw [List.length_replicate,List.take_of_length_le (by rw [Array.length_toList,Es];exact Nat.le_refl _),Rm]
    refine At.newRow (xs:=List.replicate kn (w.den c.ρ)) (N:= []) (C:=madeCells z.cells (kn*z.cells.size)) (cap:=kn) (wd:=c.w) (fz:= []) (ts:= []) h rfl ⟨rfl,rfl,rfl,rfl⟩ ?_ ?_ (by omega) (fun u hu=> ?_) (by simp) (by simp only [maxLen];omega) Es ?_ ?_ (by simp) (fun _=>rfl)
    ·simp only [execOp,ho,Et,CG,Sem.run_bind,Int.ofNat_eq_natCast,List.length_replicate];rw [AI,CV];rfl
    ·simp [E.den,hk,AV.rep]
    ·rw [List.eq_of_mem_replicate hu,←hlen,Array.length_toList,CV,BZ]
    ·rw [BI];intro u hu;obtain⟨q,hq,hu⟩:=List.mem_flatten.1 hu;rw [List.eq_of_mem_replicate hq]at hu;exact c2 u hu
    ·rw [BI];exact Yr c1 kn
   ·cases he
  ·split at he
   ·rename_i k0 _;simp only [Ad]at he;subst he;obtain⟨kk,k,hk,h0,hb,hle⟩:Cn.den c.ρ (.mkroom y (P.bytesOf el)):=Bx hc;have Et:=ival r1 (show(E.int k0 0).den c.ρ= .int k0 0 from rfl);have CG:=ival r2 hk;obtain⟨kn,rfl⟩:=Int.eq_ofNat_of_zero_le h0;have CP:(i.bytes:Int)*(kn:Int)≤281474976710656:=by
     rw [Ft]at hb;rw [Int.mul_comm];omega
    have AI:=run_make (P:=P) c.w t el i z Bc hi E2 k0 kk 0 kn (by omega) (by omega) CP (by omega);refine At.newRow (xs:= []) (N:= []) (C:=madeCells z.cells (kn*i.size)) (cap:=kn) (wd:=c.w) (fz:= []) (ts:= []) h rfl ⟨rfl,rfl,rfl,rfl⟩ ?_ rfl (by omega) (by simp) (by simp) (by simp only [maxLen];omega) (by rw [size_madeCells,BZ]) (by simp) (by simpa [Az]using Rd.nil) (by simp) (fun _=>rfl);simp only [execOp,ho,Et,CG,Sem.run_bind,Int.ofNat_eq_natCast];rw [AI];rfl
   ·cases he
 ·cases he
end
section
variable {P:Program} {c:Cx} {n nx:Nat} {sl sl0:Nat→SV} {hp hp0:Nat→Option Ah} {a:Act} {o:Oper} {gs:Gd} {e:AP} {sg:Bq} {nv:Nat}
def NI (v:Option Value) (k d:Nat):Prop:=(v=none∧k=d)∨ ∃kk,v=some (.int kk (k:Int))
theorem WK {w:World} {t el:TypeId} (hu:P.underlying t=some (.slice el)) (A1:CC P el=true) (p:Option Addr) (m r l h:Nat) {lo hi:Option Value} (BD:NI lo l 0) (Ld:NI hi h m) (h1:l≤h) (h2:h≤m) (h3:m≤r):
  (Instr.sliceAt t (.slice p m r) lo hi none).run P w= .ok (sliced p l h r (P.cellsOf el)) w:=by
 have EJ:P.underlying t=some (.slice (P.elem t)):=by simp [Program.elem,hu]
 have he:P.elem t=el:=by simp [Program.elem,hu]
 have hs:(sizeOf (P.elem t)).run P w= .ok (P.cellsOf el) w:=by rw [he];exact L0 A1 w
 rw [run_sliceAt_slice w t _ _ _ _ EJ];rcases BD with⟨rfl,rfl⟩|⟨kl,rfl⟩<;>rcases Ld with⟨rfl,rfl⟩|⟨kh,rfl⟩
 ·rw [run_slice_all w t p h r EJ,hs];rfl
 ·rw [run_slice_h w t p m r EJ kh _ (by omega) (by omega),hs];rfl
 ·rw [run_slice_l w t p h r EJ kl _ (by omega) (by omega),hs];rfl
 ·rw [run_slice_lh w t p m r EJ kl kh _ _ (by omega) (by omega) (by omega),hs];rfl
theorem uD (s:ByteArray) (a b:Nat):(s.extract a b).data.toList=(s.data.toList.drop a).take (b-a):=by rw [ByteArray.data_extract,Array.toList_extract,List.extract_eq_take_drop]
theorem qK {w:World} {t:TypeId} (hu:P.underlying t=some .string) (s:ByteArray) (l h:Nat) {lo hi:Option Value} (BD:NI lo l 0) (Ld:NI hi h s.size) (h1:l≤h) (h2:h≤s.size):
  (Instr.sliceAt t (.string s) lo hi none).run P w= .ok (.string (s.extract l h)) w:=by
 rw [run_sliceAt_string w t _ _ _ _ hu];rcases BD with⟨rfl,rfl⟩|⟨kl,rfl⟩<;>rcases Ld with⟨rfl,rfl⟩|⟨kh,rfl⟩
 ·rw [run_slice_string_all w t s hu]
 ·rw [run_slice_string_h w t s hu kh _ (by omega) (by omega)];rfl
 ·rw [run_slice_string_l w t s hu kl _ (by omega) (by omega)];rfl
 ·rw [run_slice_string w t s kl kh _ _ hu (by omega) (by omega) (by omega)];rfl
theorem Xy {sz:Nat} (ys:List AV) (hs: ∀y∈ys,y.cells.length=sz) (l h:Nat) (hl:l≤h) (hh:h≤ys.length):((Az ys).drop (l*sz)).take ((h-l)*sz)=Az ((ys.take h).drop l):=by
 have e:ys=ys.take l++((ys.take h).drop l++ys.drop h):=by
  rw [←List.append_assoc];have:ys.take l++(ys.take h).drop l=ys.take h:=by
   have h2:ys.take l=(ys.take h).take l:=by rw [List.take_take,Nat.min_eq_left hl]
   rw [h2,List.take_append_drop]
  rw [this,List.take_append_drop]
 have f1:Az ys=Az (ys.take l)++(Az ((ys.take h).drop l)++Az (ys.drop h)):=by
  conv=>lhs;rw [e]
  simp [Az]
 have l1:(Az (ys.take l)).length=l*sz:=by rw [Kx _ (fun y hy=>hs y (List.mem_of_mem_take hy)),List.length_take,Nat.min_eq_left (by omega)]
 have l2:(Az ((ys.take h).drop l)).length=(h-l)*sz:=by rw [Kx _ (fun y hy=>hs y (List.mem_of_mem_take (List.mem_of_mem_drop hy))),List.length_drop,List.length_take,Nat.min_eq_left (by omega)]
 rw [f1,←l1,List.drop_left,←l2,List.take_left]
theorem zwS {w:World} {v:Value} {ys:List AV} {f:List Nat} {sz:Nat} (hr:Rd w [v] [.sl ys] f) (hs: ∀y∈ys,y.cells.length=sz) (l h:Nat) (hl:l≤h) (hh:h≤ys.length):
  ∃p r g,v= .slice p ys.length r∧ys.length≤r∧Rd w [sliced p l h r sz] [.sl ((ys.take h).drop l)] g∧ ∀b∈g,b∈f:=by
 cases hr with
 |dn _=>
  rename_i p r;have hh:h=0:=by simpa using hh
  subst hh;have hl:l=0:=by omega
  subst hl;exact⟨_,_, [],rfl,Nat.zero_le _,by simpa [sliced]using Rd.dn .nil,by simp⟩
 |ek hb h1 h2 h3 h4 h5 h6 Gh h7 h8=>
  rename_i b o m r cs C t fz sz' f1 f2;have hy: ∃y,y∈ys:=by cases ys with|nil=>simp at h3;omega|cons y _=>exact⟨y,by simp⟩
  obtain⟨y0,Hi⟩:=hy;have Fg:sz'=sz:=(h4 y0 Hi).symm.trans (hs y0 Hi);subst Fg;subst h3;refine⟨some ⟨b,o,none⟩,r, ?_⟩;rcases Nat.eq_or_lt_of_le hl with he|Au
  ·subst he;refine⟨[],rfl,h2.2, ?_,by simp⟩;have:(ys.take l).drop l= []:=List.drop_eq_nil_of_le (by simp;omega);rw [this];simp only [sliced,Nat.sub_self];exact .dn .nil
  ·have D4:=h7.len;obtain⟨g,hg,CF⟩:=h7.piece (l*sz') ((h-l)*sz');rw [Xy ys h4 l h hl hh]at CF;refine⟨b::(g++ []),rfl,h2.2, ?_,fun x hx=> ?_⟩
   ·have B6:sliced (some (⟨b,o,none⟩:Addr)) l h r sz'= .slice (some ⟨b,o+l*sz',none⟩) (h-l) (r-l):=by
     unfold sliced;split
     ·exfalso;omega
     ·simp [Addr.add_lit]
    rw [B6];refine Rd.ek (cs:=(cs.drop (l*sz')).take ((h-l)*sz')) hb (by omega) ⟨by omega,by omega⟩ (by simp;omega) (fun y hy=>h4 y (List.mem_of_mem_take (List.mem_of_mem_drop hy))) h5 (fun j u hu=> ?_) (fun u hu=>Gh u (List.mem_of_mem_drop (List.mem_of_mem_take hu))) CF .nil;rw [List.getElem?_take]at hu;split at hu
    ·rw [List.getElem?_drop]at hu;have:=h6 _ _ hu;rw [←this];congr 1;omega
    ·cases hu
   ·simp only [List.append_nil,Ae]at hx;rcases hx with rfl|hx
    ·simp
    ·have:=hg x hx;simp [this]
theorem H7 {f:Operand→Option SV} {x:Option Operand} {r:Option SV} (h:Ih f x=some r):(x=none∧r=none)∨ ∃y z,x=some y∧f y=some z∧r=some z:=by
 cases x with
 |none=>simp [Ih]at h;exact .inl ⟨rfl,h.symm⟩
 |some y=>obtain⟨z,hz,rfl⟩:=Am.1 h;exact .inr ⟨y,z,rfl,hz,rfl⟩
theorem Th {s:Option SV} {d l:E} (h:KV s d=some l):(s=none∧l=d)∨s=some (.e l):=by
 unfold KV at h;split at h
 ·simp at h;exact .inl ⟨rfl,h.symm⟩
 ·simp at h;subst h;exact .inr rfl
 ·cases h
theorem tK (h:A3 P c n nx sl hp a sl0 hp0 o gs) {t:TypeId} {x:Operand} {lo hi mx:Option Operand} (ho:o.op= .slice t x lo hi mx) {s:SV} (hs:Bm sl0 gs x=some s) {l' h' m':Option SV} (Bl:Ih (Bm sl0 gs) lo=some l') (J3:Ih (Bm sl0 gs) hi=some h') (E4:Ih (Bm sl0 gs) mx=some m') (he:XU P hp0 gs t s l' h' m'=some e) (hc: ∀q∈e.bu,Cn.den c.ρ q):At P o c n nx sl hp gs a e:=by
 have hm:x∈o.op.operands:=by simp [ho,Op.operands]
 have Lm: ∀y,lo=some y→y∈o.op.operands:=fun y hy=>by simp [ho,Op.operands,hy]
 have I7: ∀y,hi=some y→y∈o.op.operands:=fun y hy=>by simp [ho,Op.operands,hy]
 have Vq: ∀y,mx=some y→y∈o.op.operands:=fun y hy=>by simp [ho,Op.operands,hy]
 have hx:=h.bz hs hm;have ival: ∀{x:E} {kk:IntKind} {k:Int} {v:Value},SR c [.e x] [v]→x.den c.ρ= .int kk k→v= .int kk k:=by
  intro x kk k v hr hx;cases hr with
  |e h1 _ _=>exact(Fy h1 hx).1
 unfold XU at he;split at he
 ·cases he
 rename_i y hy;obtain⟨f,q1,q2⟩:=h.jz hs hm hy;have ex:(execOp a.eval o).run P c.w=((Instr.sliceAt t (a.eval x) (lo.map a.eval) (hi.map a.eval) (mx.map a.eval)).run P c.w).andThen fun v w=> .ok (.value v) w:=by simp [execOp,ho]
 split at he
 ·split at he
  ·rename_i el _ _ hu;split at he
   ·rename_i A1;simp only [Ad]at he;subst he;have hd:(y.den c.ρ).len≠ .undef:=Bx hc;cases A8:y.den c.ρ<;>simp only [A8,AV.len,ne_eq,not_true_eq_false]at hd;rename_i xs;have hl:(y.den c.ρ).len= .int .i64 (xs.length:Int):=by rw [A8];rfl
    obtain⟨p,q,r,hv⟩: ∃p q r,a.eval x= .slice p q r:=by
     rcases NB q1 hl with⟨p,q,hv,Dh⟩|⟨b,o',k,q,hv,Dh⟩
     ·exact⟨_,_,_,hv⟩
     ·exact⟨_,_,_,hv⟩
    rcases H7 Bl with⟨rfl,_⟩|⟨_,_,_,_,hh⟩
    ·rcases H7 J3 with⟨_,hh⟩|⟨oh,sh,rfl,nH,hh⟩
     ·cases hh
     ·cases hh;rcases H7 E4 with⟨_,hh⟩|⟨om,sm,rfl,Rw,hh⟩
      ·cases hh
      ·cases hh;have v1:=(fun{kk:IntKind} (hr:SR c [.e (.int kk 0)] [a.eval oh])=>ival hr (show(E.int kk 0).den c.ρ= .int kk 0 from by simp only [E.den])) (h.bz nH (I7 _ rfl))
       have v2:=(fun{kk:IntKind} (hr:SR c [.e (.int kk 0)] [a.eval om])=>ival hr (show(E.int kk 0).den c.ρ= .int kk 0 from by simp only [E.den])) (h.bz Rw (Vq _ rfl))
       have EJ:P.underlying t=some (.slice (P.elem t)):=by simp [Program.elem,hu]
       have Bc:P.elem t=el:=by simp [Program.elem,hu]
       refine At.pure h (v:= .slice p 0 0) ?_ (.emp .nil) rfl;rw [ex,hv];simp only [Option.map_none,Option.map_some,v1,v2];rw [run_sliceAt_slice c.w t _ _ _ _ EJ,run_slice_hm c.w t p q r EJ _ _ 0 0 (by omega) (by omega) (by omega),Bc,L0 A1];simp [sliced]
    ·cases hh
   ·cases he
  ·cases he
 ·have Ln:mx=none:=by
   rcases H7 E4 with⟨hh,_⟩|⟨_,_,_,_,hh⟩
   ·exact hh
   ·cases hh
  subst Ln;have blo: ∀(l:E) (kk:IntKind) (k:Nat),KV l' (.int .i64 0)=some l→l.den c.ρ= .int kk k→NI (lo.map a.eval) k 0:=by
   intro l kk k hl hk;rcases H7 Bl with⟨rfl,rfl⟩|⟨ol,sl',rfl,B6,rfl⟩
   ·rcases Th hl with⟨_,rfl⟩|hh
    ·simp only [E.den,AV.int.injEq]at hk;exact .inl ⟨rfl,by omega⟩
    ·cases hh
   ·rcases Th hl with⟨hh,_⟩|hh
    ·cases hh
    ·cases hh;exact .inr ⟨kk,by rw [Option.map_some,ival (h.bz B6 (Lm _ rfl)) hk]⟩
  have bhi: ∀(d l:E) (kk:IntKind) (k m:Nat),KV h' d=some l→l.den c.ρ= .int kk k→d.den c.ρ= .int .i64 (m:Int)→NI (hi.map a.eval) k m:=by
   intro d l kk k m hl hk hd;rcases H7 J3 with⟨rfl,rfl⟩|⟨ol,sl',rfl,B6,rfl⟩
   ·rcases Th hl with⟨_,rfl⟩|hh
    ·rw [hd]at hk;simp only [AV.int.injEq]at hk;exact .inl ⟨rfl,by omega⟩
    ·cases hh
   ·rcases Th hl with⟨hh,_⟩|hh
    ·cases hh
    ·cases hh;exact .inr ⟨kk,by rw [Option.map_some,ival (h.bz B6 (I7 _ rfl)) hk]⟩
  split at he
  ·rename_i hu;split at he
   ·rename_i l hb q I6 Lc;simp only [Ad]at he;subst he;obtain⟨ka,ai,kb,bi,bs,d1,d2,d3,d4,d5,d6⟩:Cn.den c.ρ (.winS y l hb):=Bx hc;obtain⟨an,rfl⟩:=Int.eq_ofNat_of_zero_le d4;obtain⟨bn,rfl⟩:=Int.eq_ofNat_of_zero_le (Int.le_trans d4 d5);obtain⟨ss,hv,rfl,hle⟩:=NO q1 d3;have Bz:ss.data.toList.length=ss.size:=by simp
    have AI:=qK (P:=P) (w:=c.w) hu ss an bn (blo l ka an I6 d1) (bhi (.slen y) hb kb bn ss.size Lc d2 (by simp only [E.den,d3,AV.slen];simp)) (by omega) (by omega);refine At.pure h (v:= .string (ss.extract an bn)) ?_ (.ca ?_) rfl
    ·rw [ex,hv,Option.map_none,AI];rfl
    ·simp only [E.den,d1,d2,d3,AV.swin];have:(List.take (bn:Int).toNat ss.data.toList).drop (an:Int).toNat=(ss.extract an bn).data.toList:=by
      simp [uD,List.drop_take]
     rw [this];exact .str (by simp only [ByteArray.size_extract];omega) .nil
   ·cases he
  ·rename_i el hu;split at he
   ·cases he
   rename_i A1;have A1:CC P el=true:=by simpa using A1
   split at he
   ·rename_i l hb fz I6 Lc Gi;simp only [Ad]at he;subst he;have Bb:Cn.den c.ρ (.issl y (P.cellsOf el)):=Bx hc;obtain⟨ys,CD,LD⟩:=Bb;obtain⟨ka,ai,kb,bi,m,d1,d2,d3,d4,d5,d6⟩:Cn.den c.ρ (.win y l hb):=hc _ (by simp);obtain⟨an,rfl⟩:=Int.eq_ofNat_of_zero_le d4;obtain⟨bn,rfl⟩:=Int.eq_ofNat_of_zero_le (Int.le_trans d4 d5);rw [CD]at q1;have hm9:(m:Int)=ys.length:=by rw [CD]at d3;simpa [AV.len]using d3.symm
    split at Gi
    ·rename_i HI;obtain⟨p,r,g,hv,hr,CF,hg⟩:=zwS q1 LD an bn (by omega) (by omega);have AI:=WK (P:=P) (w:=c.w) hu A1 p ys.length r an bn (blo l ka an I6 d1) (bhi (.len y) hb kb bn ys.length Lc d2 (by simp only [E.den,CD,AV.len])) (by omega) (by omega) hr;intro next Q hk
     unfold Oper.wp;rw [ex,hv,Option.map_none,AI];show Oper.upon P o a next Q (.ok (.value _) c.w)
     rw [Oper.upon_value];have Ak:=h.rel.freeze h.hp h.gs Gi;have Aw: ∀b∈g,(c.ax (fz.map (·.1))).ok b:=fun b hb=>P5 h.rel h.eh h.gs Gi HI (q2 b (hg b hb));refine hk _ (c.ax (fz.map (·.1))) ⟨rfl,rfl,rfl,rfl,fun t ht=> .inl ht⟩ (Ak.put (SR.mkGd (.e (f:=g) ?_ Aw .nil) gs h.gs) o.dst);show Rd c.w _ [(E.win y l hb).den c.ρ] g;simp only [E.den,d1,d2,CD,AV.win,Int.ofNat_eq_natCast,Int.toNat_natCast];exact CF
    ·cases Gi
   ·cases he
  ·cases he
end
section
variable {P:Program} {c:Cx} {n nx:Nat} {sl sl0:Nat→SV} {hp hp0:Nat→Option Ah} {a:Act} {o:Oper} {gs:Gd} {e:AP} {sg:Bq} {nv:Nat}
theorem N4 {w:World} {v:Value} {x:AV} {f:List Nat} {k:SK} (h:Rd w [v] [x] f) (hk:x.sk=some k):(∃kk n,k= .int kk∧v= .int kk n∧x= .int kk n)∨(∃b,k= .bool∧v= .bool b∧x= .bool b)∨ ∃s:ByteArray,k= .str∧v= .string s∧x= .str s.data.toList:=by
 cases h<;>simp [AV.sk]at hk
 ·exact .inl ⟨_,_,hk.symm,rfl,rfl⟩
 ·exact .inr (.inl ⟨_,hk.symm,rfl,rfl⟩)
 ·exact .inr (.inr ⟨_,hk.symm,rfl,rfl⟩)
theorem Xb {t:TypeId} (h:(∃k,P.underlying t=some (.int k))∨P.underlying t=some .bool∨P.underlying t=some .string):Aj P t=false:=by rcases h with⟨k,h⟩|h|h<;>simp [Aj,h]
theorem bN {w:World} (d:Nat): ∀(fs:List Field) (j:Nat) (ks:List SK) {as_ bs:List Value} {cs ds:List AV} {f g:List Nat},NU P j fs=some ks→Rd w as_ cs f→Rd w bs ds g→(cs.drop j).map AV.sk=ks.map some→(ds.drop j).map AV.sk=ks.map some→
  (Op.eqFields (d+1) as_.toArray bs.toArray fs).run P w= .ok (AV.leq (cs.drop j) (ds.drop j)) w
 | [],j,ks,as_,bs,cs,ds,f,g,hk,h1,h2,k1,k2=>by
  simp [NU]at hk;subst hk;have e1:cs.drop j= []:=by simpa using k1
  have e2:ds.drop j= []:=by simpa using k2
  rw [e1,e2];simp [Op.eqFields,AV.leq]
 |fd::fs,j,ks,as_,bs,cs,ds,f,g,hk,h1,h2,k1,k2=>by
  unfold NU at hk;split at hk
  ·cases hk
  rename_i Aq;simp only [not_or,Bool.not_eq_true',Decidable.not_not,ne_eq,Bool.not_eq_false]at Aq;obtain⟨hn,ho,A1,Bx⟩:=Aq;have main: ∀(k:SK) (l:List SK),ks=k::l→NU P (j+1) fs=some l→(∀a b (x y:AV) f g,Rd w [a] [x] f→Rd w [b] [y] g→x.sk=some k→y.sk=some k→(Op.equalIn (d+1) fd.type a b).run P w= .ok (x.seq y) w)→Aj P fd.type=false→
    (Op.eqFields (d+1) as_.toArray bs.toArray (fd::fs)).run P w= .ok (AV.leq (cs.drop j) (ds.drop j)) w:=by
   rintro k l rfl hl heq GD;have Lh:j<cs.length:=by
    rcases Nat.lt_or_ge j cs.length with hh|hh
    ·exact hh
    ·rw [List.drop_eq_nil_of_le hh]at k1;simp at k1
   have Va:j<ds.length:=by
    rcases Nat.lt_or_ge j ds.length with hh|hh
    ·exact hh
    ·rw [List.drop_eq_nil_of_le hh]at k2;simp at k2
   rw [List.drop_eq_getElem_cons Lh]at k1;rw [List.drop_eq_getElem_cons Va]at k2;simp only [List.map_cons,List.cons.injEq]at k1 k2;have l1:=h1.len;have l2:=h2.len;obtain⟨v,f1,hv,_,r1⟩:=h1.at (show cs[j]?=some cs[j] by simp [Lh])
   obtain⟨u,g1,hu,_,r2⟩:=h2.at (show ds[j]?=some ds[j] by simp [Va])
   have p1:=Ql A1 as_ fd.offset (by omega) (.inr Bx) w;have p2:=Ql A1 bs fd.offset (by omega) (.inr Bx) w;have e1:((as_.drop fd.offset).take (P.cellsOf fd.type)).headD Go.undef=v:=by rw [Bx,ho,List.drop_eq_getElem_cons (by omega),List.take_succ_cons];simpa [show j<as_.length by omega]using hv
   have e2:((bs.drop fd.offset).take (P.cellsOf fd.type)).headD Go.undef=u:=by rw [Bx,ho,List.drop_eq_getElem_cons (by omega),List.take_succ_cons];simpa [show j<bs.length by omega]using hu
   rw [GD,e1]at p1;rw [GD,e2]at p2;have ih:=bN (w:=w) d fs (j+1) l hl h1 h2 k1.2 k2.2;rw [List.drop_eq_getElem_cons Lh,List.drop_eq_getElem_cons Va];simp only [Op.eqFields,ne_eq,hn,not_false_eq_true,if_true,Sem.run_bind,p1,p2,A9,if_false,Result.andThen_ok,heq v u _ _ _ _ r1 r2 k1.1 k2.1];cases hb:(cs[j]).seq ds[j]with
   |true=>simpa [AV.leq,hb]using ih
   |false=>simp [AV.leq,hb]
  split at hk
  ·rename_i k l hu hl;simp at hk;refine main _ _ hk.symm hl (fun a b x y f g ra rb hx hy=> ?_) (Xb (.inl ⟨_,hu⟩));rcases N4 ra hx with⟨kk,m,h5,rfl,rfl⟩|⟨_,h5,_⟩|⟨_,h5,_⟩<;>cases h5
   rcases N4 rb hy with⟨kk,m2,h5,rfl,rfl⟩|⟨_,h5,_⟩|⟨_,h5,_⟩<;>cases h5
   exact run_equalIn_int w d fd.type _ _ _ _ hu
  ·rename_i l hu hl;simp at hk;refine main _ _ hk.symm hl (fun a b x y f g ra rb hx hy=> ?_) (Xb (.inr (.inl hu)));rcases N4 ra hx with⟨kk,m,h5,_⟩|⟨_,_,rfl,rfl⟩|⟨_,h5,_⟩<;>try cases h5
   rcases N4 rb hy with⟨kk,m,h5,_⟩|⟨_,_,rfl,rfl⟩|⟨_,h5,_⟩<;>try cases h5
   exact Xs d _ _ hu w
  ·rename_i l hu hl;simp at hk;refine main _ _ hk.symm hl (fun a b x y f g ra rb hx hy=> ?_) (Xb (.inr (.inr hu)));rcases N4 ra hx with⟨kk,m,h5,_⟩|⟨_,h5,_⟩|⟨_,_,rfl,rfl⟩<;>try cases h5
   rcases N4 rb hy with⟨kk,m,h5,_⟩|⟨_,h5,_⟩|⟨_,_,rfl,rfl⟩<;>try cases h5
   rw [run_equalIn_string w d _ _ _ hu,aT];rfl
  ·cases hk
theorem x7 (h:A3 P c n nx sl hp a sl0 hp0 o gs) {op:BinOp} {t:TypeId} {x y:Operand} {ty:TypeId} (ho:o.op= .binOp op t x y ty) {fs:Array Field} (hu:P.underlying t=some (.struct fs)) (he:Bf P sg sl0 hp0 nv nx gs o=some e) (hc: ∀q∈e.bu,Cn.den c.ρ q):At P o c n nx sl hp gs a e:=by
 have Di:x∈o.op.operands:=by simp [ho,Op.operands]
 have CS:y∈o.op.operands:=by simp [ho,Op.operands]
 simp only [Bf,ho,An]at he;obtain⟨s1,Bj,s2,AQ,he⟩:=he;unfold NT at he;simp only [hu]at he;split at he
 ·cases he
 rename_i hg;simp only [Bool.or_eq_true,not_or,Bool.not_eq_true]at hg;split at he
 ·rename_i ks x' y' O1 Co A8;obtain⟨f1,q1,_⟩:=h.jz Bj Di Co;obtain⟨f2,q2,_⟩:=h.jz AQ CS A8;have CK:P.underlying t=some (.struct (P.fieldsOf t)):=by simp [Program.fieldsOf,hu]
  have JY:P.fieldsOf t=fs:=by simp [Program.fieldsOf,hu]
  have key: ∀(k1:Cn.den c.ρ (.kinds x' ks)) (k2:Cn.den c.ρ (.kinds y' ks)),∃as_ bs:List Value,∃b,a.eval x= .agg as_.toArray∧a.eval y= .agg bs.toArray∧(E.aeq x' y').den c.ρ= .bool b∧(Op.equalIn 10000 t (.agg as_.toArray) (.agg bs.toArray)).run P c.w= .ok b c.w:=by rintro⟨cs,Bb,k1⟩ ⟨ds,FJ,k2⟩;obtain⟨as_,Et,_,r1⟩:=Ia q1 Bb;obtain⟨bs,CG,_,r2⟩:=Ia q2 FJ;refine⟨as_,bs,AV.leq cs ds,Et,CG,by simp only [E.den,Bb,FJ,AV.aeq], ?_⟩;rw [run_equalIn_struct c.w 9999 t _ _ CK hg.1,JY];exact bN (w:=c.w) 9998 fs.toList 0 ks O1 r1 r2 (by simpa using k1) (by simpa using k2)
  split at he
  ·simp only [Ad]at he;subst he;obtain⟨as_,bs,b,Et,CG,hd,hr⟩:=key (hc _ (by simp)) (hc _ (by simp));refine At.pure h (v:= .bool b) ?_ (.ca (by rw [hd];exact .bool .nil)) rfl;rw [Md ho c.w Et CG];simp [run_eqGuard_agg c.w _ t x y _ _ hg.2,run_eql_struct,hr]
  ·simp only [Ad]at he;subst he;obtain⟨as_,bs,b,Et,CG,hd,hr⟩:=key (hc _ (by simp)) (hc _ (by simp));refine At.pure h (v:= .bool (!b)) ?_ (.ca (by simp only [E.den]at hd ⊢;rw [hd];exact .bool .nil)) rfl;rw [Md ho c.w Et CG];simp [run_eqGuard_agg c.w _ t x y _ _ hg.2,run_neq_struct,hr]
  ·cases he
 ·cases he
theorem cA (h:A3 P c n nx sl hp a sl0 hp0 o gs) {x y:Operand} {cl:Call} (ho:o.op= .call cl) {op:BinOp} (AE:(op= .gtr∧cl.callee= .builtin .max)∨(op= .lss∧cl.callee= .builtin .min)) (CA:cl.args.toList= [x,y]) {s1 s2:SV} (Bj:Bm sl0 gs x=some s1) (AQ:Bm sl0 gs y=some s2)
  (he:Tq op s1 s2=some e) (hc: ∀q∈e.bu,Cn.den c.ρ q):At P o c n nx sl hp gs a e:=by
 have Ao:cl.args= #[x,y]:=by apply Array.ext';simp [CA]
 have Di:x∈o.op.operands:=by rcases AE with⟨_,hh⟩|⟨_,hh⟩<;>simp [ho,Op.operands,Call.operands,hh,Ao]
 have CS:y∈o.op.operands:=by rcases AE with⟨_,hh⟩|⟨_,hh⟩<;>simp [ho,Op.operands,Call.operands,hh,Ao]
 unfold Tq at he;split at he
 ·rename_i x' y';simp only [Ad]at he;subst he;obtain⟨f1,q1,_⟩:=Gv (h.bz Bj Di) rfl;obtain⟨f2,q2,_⟩:=Gv (h.bz AQ CS) rfl;have hd:AV.bin op (y'.den c.ρ) (x'.den c.ρ)≠ .undef:=Bx hc;cases hx:x'.den c.ρ<;>cases hy:y'.den c.ρ<;>simp only [hx,hy,AV.bin,ne_eq,not_true_eq_false]at hd;rename_i k m k' m';split at hd
  ·rename_i hk;have hk:k'=k:=by rcases hk with hk|hk|hk;exact hk;all_goals (rcases AE with⟨h1,_⟩|⟨h1,_⟩<;>rw [h1]at hk<;>cases hk)
   subst hk;obtain⟨v1,i1⟩:=Fy q1 hx;obtain⟨v2,i2⟩:=Fy q2 hy;rcases AE with⟨rfl,Ay⟩|⟨rfl,Ay⟩
   ·refine At.pure h (v:= .int k' (if m'>m then m' else m)) ?_ (.ca ?_) rfl
    ·simp [execOp,ho,resolve,Ay,Ao,invoke,builtin,Builtin.max_,Builtin.max2,v1,v2]
    ·simp only [E.den,hx,hy,AV.bin,true_or,if_true,DV];by_cases hh:m'>m
     ·simp only [hh,decide_true,AV.cond,if_true];exact .int i2 .nil
     ·simp only [hh,decide_false,AV.cond,if_false];exact .int i1 .nil
   ·refine At.pure h (v:= .int k' (if m'<m then m' else m)) ?_ (.ca ?_) rfl
    ·simp [execOp,ho,resolve,Ay,Ao,invoke,builtin,Builtin.min_,Builtin.min2,v1,v2]
    ·simp only [E.den,hx,hy,AV.bin,true_or,if_true,DV];by_cases hh:m'<m
     ·simp only [hh,decide_true,AV.cond,if_true];exact .int i2 .nil
     ·simp only [hh,decide_false,AV.cond,if_false];exact .int i1 .nil
  ·exact absurd rfl hd
 ·cases he
end
inductive BR (P:Program) (w:World):List TypeId→List Bool→List Value→List AV→List Nat→List Nat→Prop where
 |nil {fl}:BR P w [] fl [] [] [] []
 |own {t ts fl el u us y ys top N rf hs}:fl.headD false=true→B9 P t=some el→(BE P el=true∧N= []∨BE P el=false∧Dc P t=none)→Ce w el (P.cellsOf el) u y top N→BR P w ts fl.tail us ys rf hs→BR P w (t::ts) fl (u::us) (y::ys) (N++rf) (top++hs)
 |deep {t ts fl el e z l u us y ys top rf hs}:fl.headD false=true→B9 P t=some el→BE P el=false→Dc P t=some (.row e z l)→DC w [.row e z l] [u] [y] top→BR P w ts fl.tail us ys rf hs→BR P w (t::ts) fl (u::us) (y::ys) rf (top++hs)
 |rd {t ts fl u us y ys f rf hs}:(fl.headD false=true→B9 P t=none)→Rd w [u] [y] f→BR P w ts fl.tail us ys rf hs→BR P w (t::ts) fl (u::us) (y::ys) (f++rf) hs
def Mo (P:Program) (w:World) (t:TypeId) (fl:List Bool) (v:Value) (x:AV) (rf hs:List Nat):Prop:=
 ∃us ys,(if Aj P t then v= .agg us.toArray∧x= .agg ys∧ ∀u∈us,u.oneCell'=true else us= [v]∧ys= [x])∧BR P w (AR P t) fl us ys rf hs
def Dr (P:Program) (w:World) (t:TypeId) (fl:List Bool) (v:Value) (x:AV) (rf hs:List Nat):Prop:=
 if Fm P t fl then Mo P w t fl v x rf hs else Rd w [v] [x] rf∧hs= []
inductive Hq (P:Program) (w:World):List TypeId→List Bool→List Value→List AV→List Nat→List Nat→Prop where
 |nil {fl}:Hq P w [] fl [] [] [] []
 |cons {t ts fl v vs x xs f h rf hs}:Dr P w t fl v x f h→Hq P w ts (fl.drop (AR P t).length) vs xs rf hs→Hq P w (t::ts) fl (v::vs) (x::xs) (f++rf) (h++hs)
theorem BR.len {P:Program} {w:World} {ts:List TypeId} {fl:List Bool} {us:List Value} {ys:List AV} {rf hs:List Nat} (h:BR P w ts fl us ys rf hs):us.length=ts.length∧ys.length=ts.length:=by induction h<;>simp_all
theorem BR.inb {P:Program} {w:World} {ts:List TypeId} {fl:List Bool} {us:List Value} {ys:List AV} {rf hs:List Nat} (h:BR P w ts fl us ys rf hs):(∀b∈rf,b<w.heap.size)∧ ∀b∈hs,b<w.heap.size:=by
 induction h with
 |nil=>simp
 |deep _ _ _ _ h _ ih=>
  refine⟨ih.1,fun b hb=> ?_⟩;rcases Af.1 hb with hb|hb
  ·exact h.inb b hb
  ·exact ih.2 b hb
 |own _ _ _ h _ ih=>
  refine⟨fun b hb=> ?_,fun b hb=> ?_⟩
  ·rcases Af.1 hb with hb|hb
   ·obtain⟨xs,_,_,_,⟨_,_,_,rfl⟩|⟨g,cap,C,_,_,_,_,_,_,_,hr⟩⟩:=h
    ·simp at hb
    ·exact hr.inb b hb
   ·exact ih.1 b hb
  ·rcases Af.1 hb with hb|hb
   ·obtain⟨xs,_,_,_,⟨_,_,rfl,_⟩|⟨g,cap,C,_,_,_,hh,_,rfl,_⟩⟩:=h
    ·simp at hb
    ·simp at hb;subst hb;exact Ev hh
   ·exact ih.2 b hb
 |rd _ h _ ih=>
  refine⟨fun b hb=> ?_,ih.2⟩;rcases Af.1 hb with hb|hb
  ·exact h.inb b hb
  ·exact ih.1 b hb
structure AF where
 tag:Nat
 new:Option Value
 top:List Nat
 ar:Ah
def AF.pair (r:AF):Nat × Ah:=(r.tag,r.ar)
structure D9 (c c':Cx) (w':World) (recs:List AF):Prop where
 ρ:c'.ρ=c.ρ
 w:c'.w=w'
 G: ∀r∈recs,c'.G r.tag=⟨r.top, []⟩
 new: ∀r∈recs,∀hv,r.new=some hv→c'.K r.tag 0∧(∀g,c'.K r.tag g→g≤0)∧c'.H r.tag 0=hv
 K: ∀t g,c.K t g→c'.K t g∧c'.H t g=c.H t g
 old: ∀t,c.U t→ ∀g,c'.K t g→c.K t g
 jy: ∀r∈recs,r.new.isSome=true→c'.E r.tag=0
 gp: ∀r∈recs,r.new=none→c'.E r.tag=c.E r.tag+1
theorem D9.mono {c c':Cx} {w':World} {recs recs':List AF} (h:D9 c c' w' recs) (hs: ∀r∈recs',r∈recs):D9 c c' w' recs':=
 ⟨h.ρ,h.w,fun r hr=>h.G r (hs r hr),fun r hr=>h.new r (hs r hr),h.K,h.old,fun r hr=>h.jy r (hs r hr),fun r hr=>h.gp r (hs r hr)⟩
section
variable {P:Program} {c:Cx} {w':World}
theorem zP {c':Cx} {t:Nat} {u:Value} {el sz:Nat} {y:AV} {top N:List Nat} (h:Ce w' el sz u y top N) (hk:c'.K t 0) (hh:c'.H t 0=u):SR c' [.own t 0] [u]:=by
 obtain⟨xs,_,_,_,⟨_,⟨a,rfl⟩,_⟩|⟨g,cap,C,rfl,_⟩⟩:=h
 ·exact .own hk hh .nil
 ·exact .own hk hh .nil
theorem Nj {nx:Nat} {mk:Nat→E} {ts:List TypeId} {fl:List Bool} {us:List Value} {ys:List AV} {rf hs:List Nat} (h:BR P w' ts fl us ys rf hs): ∀(j:Nat),(∀i y,ys[i]?=some y→(mk (j+i)).den c.ρ=y)→
  ∃recs:List AF,(Cd P nx mk j ts fl).2=recs.map AF.pair∧recs.flatMap AF.top=hs∧(∀r∈recs,nx+j≤r.tag∧r.tag<nx+j+ts.length∧r.new.isSome)∧(recs.map AF.tag).Nodup∧(∀r∈recs,r.new=us[r.tag-(nx+j)]?)∧
   ∀c',D9 c c' w' recs→(∀b∈rf,c'.ok b)→SR c' (Cd P nx mk j ts fl).1 us∧ ∀r∈recs,Cv c' r.tag r.ar:=by
 induction h with
 |nil=>exact fun j _=>⟨[],rfl,rfl,by simp,by simp,by simp,fun c' _ _=>⟨.nil,by simp⟩⟩
 | @own t ts fl el u us y ys top N rf hs h1 h2 On h3 _ ih=>
  intro j E5;obtain⟨recs,e1,e2,e3,e4,e4',e5⟩:=ih (j+1) (fun i y hy=>by rw [show j+1+i=j+(i+1)from by omega];exact E5 (i+1) y (by simpa using hy));have hy:=E5 0 y rfl;have Vx:NY P t el 0 0 (mk j)= .row el (P.cellsOf el) 0 (mk j) (BE P el):=by
   unfold NY;rcases On with⟨h,_⟩|⟨h,h'⟩
   ·rw [if_pos h,h]
   ·rw [if_neg (by rw [h];simp),h',h]
  simp only [Cd,h1,h2,Vx];refine⟨⟨nx+j,some u,top, .row el (P.cellsOf el) 0 (mk j) (BE P el)⟩::recs,by simp [e1,AF.pair],by simp [e2],fun r hr=> ?_, ?_,fun r hr=> ?_,fun c' ha Aw=> ?_⟩
  ·rcases Ae.1 hr with rfl|hr
   ·simp
   ·have:=e3 r hr;simp only [AA];exact⟨by omega,by omega,this.2.2⟩
  ·simp only [List.map_cons,List.nodup_cons];refine⟨fun hm=> ?_,e4⟩;obtain⟨r,hr,HQ⟩:=List.mem_map.1 hm;have:=e3 r hr;omega
  ·rcases Ae.1 hr with rfl|hr
   ·simp
   ·rw [e4' r hr];have:=e3 r hr;rw [show r.tag-(nx+j)=(r.tag-(nx+(j+1)))+1 from by omega,List.getElem?_cons_succ]
  ·obtain⟨q1,q2⟩:=e5 c' (ha.mono fun r hr=>by simp [hr]) fun b hb=>Aw b (by simp [hb]);obtain⟨k1,k2,k3⟩:=ha.new _ (List.mem_cons_self ..) u rfl;have kg:=ha.G _ (List.mem_cons_self ..);simp only at k1 k2 k3 kg;refine⟨(zP h3 k1 k3).cons q1,fun r hr=> ?_⟩;rcases Ae.1 hr with rfl|hr
   ·refine⟨k1,k2,N, ?_,fun b hb=>Aw b (by simp [hb]),fun hd=> ?_,fun _=>by rw [kg]⟩
    rotate_left
    ·rcases On with⟨_,h⟩|⟨h,_⟩
     ·subst h;exact⟨rfl,by rw [kg]⟩
     ·rw [h]at hd;cases hd
    rw [k3,kg,ha.w,ha.ρ];have A8:(mk j).den c.ρ=y:=by simpa using hy
    rw [A8];exact h3
   ·exact q2 r hr
 | @deep t ts fl el e z l u us y ys top rf hs h1 h2 Om MA h3 _ ih=>
  intro j E5;obtain⟨recs,e1,e2,e3,e4,e4',e5⟩:=ih (j+1) (fun i y hy=>by rw [show j+1+i=j+(i+1)from by omega];exact E5 (i+1) y (by simpa using hy));have hy:=E5 0 y rfl;have Vx:NY P t el 0 0 (mk j)= .deep e z l.toList 0 0 (mk j):=by unfold NY;rw [if_neg (by rw [Om];simp),MA]
  simp only [Cd,h1,h2,Vx];refine⟨⟨nx+j,some u,top, .deep e z l.toList 0 0 (mk j)⟩::recs,by simp [e1,AF.pair],by simp [e2],fun r hr=> ?_, ?_,fun r hr=> ?_,fun c' ha Aw=> ?_⟩
  ·rcases Ae.1 hr with rfl|hr
   ·simp
   ·have:=e3 r hr;simp only [AA];exact⟨by omega,by omega,this.2.2⟩
  ·simp only [List.map_cons,List.nodup_cons];refine⟨fun hm=> ?_,e4⟩;obtain⟨r,hr,HQ⟩:=List.mem_map.1 hm;have:=e3 r hr;omega
  ·rcases Ae.1 hr with rfl|hr
   ·simp
   ·rw [e4' r hr];have:=e3 r hr;rw [show r.tag-(nx+j)=(r.tag-(nx+(j+1)))+1 from by omega,List.getElem?_cons_succ]
  ·obtain⟨q1,q2⟩:=e5 c' (ha.mono fun r hr=>by simp [hr]) Aw;obtain⟨k1,k2,k3⟩:=ha.new _ (List.mem_cons_self ..) u rfl;have kg:=ha.G _ (List.mem_cons_self ..);have ke:=ha.jy _ (List.mem_cons_self ..) rfl;simp only at k1 k2 k3 kg ke;obtain⟨p1,p2,p3,rfl⟩:=h3.head;refine⟨(SR.own k1 k3 .nil).cons q1,fun r hr=> ?_⟩;rcases Ae.1 hr with rfl|hr
   ·refine⟨k1,k2,ke, ?_,by rw [kg]⟩;have A8:(mk j).den c.ρ=y:=by simpa using hy
    rw [k3,kg,ha.w,ha.ρ,A8,AH.bw];exact h3
   ·exact q2 r hr
 | @rd t ts fl u us y ys f rf hs h1 h3 _ ih=>
  intro j E5;obtain⟨recs,e1,e2,e3,e4,e4',e5⟩:=ih (j+1) (fun i y hy=>by rw [show j+1+i=j+(i+1)from by omega];exact E5 (i+1) y (by simpa using hy));have hy:=E5 0 y rfl;have UX:Cd P nx mk j (t::ts) fl=(.e (mk j)::(Cd P nx mk (j+1) ts fl.tail).1,(Cd P nx mk (j+1) ts fl.tail).2):=by
   simp only [Cd];split
   ·rename_i h8 h9;rw [h1 h8]at h9;cases h9
   ·rfl
  rw [UX];refine⟨recs,e1,e2,fun r hr=> ?_,e4,fun r hr=> ?_,fun c' ha Aw=> ?_⟩
  ·have:=e3 r hr;simp only [AA];exact⟨by omega,by omega,this.2.2⟩
  ·rw [e4' r hr];have:=e3 r hr;rw [show r.tag-(nx+j)=(r.tag-(nx+(j+1)))+1 from by omega,List.getElem?_cons_succ]
  ·obtain⟨q1,q2⟩:=e5 c' ha fun b hb=>Aw b (by simp [hb]);have A8:(mk j).den c.ρ=y:=by simpa using hy
   exact⟨(SR.e (f:=f) (by rw [ha.w,ha.ρ,A8];exact h3) (fun b hb=>Aw b (by simp [hb])) .nil).cons q1,q2⟩
theorem LV {nx:Nat} {mk:Nat→E}: ∀(j:Nat) (ts:List TypeId) (fl:List Bool) (t:Nat) (e:Ah) {gs:Gd} {f:Ah},(t,e)∈(Cd P nx mk j ts fl).2→e≠ .gd gs f
 |_, [],_,_,_,_,_,h=>by simp [Cd]at h
 |j,u::ts,fl,t,e,gs,f,h=>by
  unfold Cd at h;split at h
  ·rcases Ae.1 h with h|h
   ·cases h;unfold NY;split
    ·simp
    ·split<;>simp
   ·exact LV _ _ _ _ _ h
  ·exact LV _ _ _ _ _ h
theorem Qg {ρ:List AV} {x:E} {ys:List AV} (hx:x.den ρ= .agg ys): ∀i y,ys[i]?=some y→(CI x true (0+i)).den ρ=y:=by intro i y hy;simp [CI,E.den,hx,AV.fld,AV.cells,hy]
theorem bB {nx:Nat} {t:TypeId} {fl:List Bool} {x:E} {v:Value} {y:AV} {rf hs:List Nat} (h:Dr P w' t fl v y rf hs) (hx:x.den c.ρ=y):
  ∃recs:List AF,(L7 P nx t fl x).2=recs.map AF.pair∧recs.flatMap AF.top=hs∧(∀r∈recs,nx≤r.tag∧r.tag<nx+(AR P t).length∧r.new.isSome)∧(recs.map AF.tag).Nodup∧
   ∀c',D9 c c' w' recs→(∀b∈rf,c'.ok b)→SR c' [(L7 P nx t fl x).1] [v]∧ ∀r∈recs,Cv c' r.tag r.ar:=by
 unfold Dr at h;unfold L7;split at h
 ·rename_i hf;simp only [hf,if_true];obtain⟨us,ys,hg,hc⟩:=h;split at hg
  ·rename_i Av;obtain⟨rfl,rfl,Ck⟩:=hg;obtain⟨recs,e1,e2,e3,e4,_,e5⟩:=Nj (c:=c) (nx:=nx) (mk:=CI x (Aj P t)) hc 0 (by rw [Av];exact Qg hx);refine⟨recs,e1,e2,fun r hr=>by have:=e3 r hr;exact⟨by omega,by omega,this.2.2⟩,e4,fun c' ha Aw=> ?_⟩;obtain⟨q1,q2⟩:=e5 c' ha Aw;rw [if_pos Av];exact⟨.agg Ck (by rw [Ba.aj];exact q1) .nil,q2⟩
  ·rename_i Av;obtain⟨rfl,rfl⟩:=hg;have FG:Aj P t=false:=by simpa using Av
   obtain⟨recs,e1,e2,e3,e4,_,e5⟩:=Nj (c:=c) (nx:=nx) (mk:=CI x (Aj P t)) hc 0 (by
    intro i z hz;cases i with
    |zero=>simp at hz;subst hz;simp [CI,FG,hx]
    |succ i=>simp at hz)
   refine⟨recs,e1,e2,fun r hr=>by have:=e3 r hr;exact⟨by omega,by omega,this.2.2⟩,e4,fun c' ha Aw=> ?_⟩;obtain⟨q1,q2⟩:=e5 c' ha Aw;refine⟨?_,q2⟩;rw [if_neg Av];have hl:=q1.len;generalize (Cd P nx (CI x (Aj P t)) 0 (AR P t) fl).1=l at q1 hl
   match l,hl with
   | [s],_=>exact q1
 ·rename_i hf;simp only [hf,if_false,A9];obtain⟨h1,rfl⟩:=h;exact⟨[],rfl,rfl,by simp,by simp,fun c' ha Aw=>⟨.e (f:=rf) (by rw [ha.w,ha.ρ,hx];exact h1) Aw .nil,by simp⟩⟩
theorem rV {ts:List TypeId} {fl:List Bool} {x:E} {vs:List Value} {ys:List AV} {rf hs:List Nat} (h:Hq P w' ts fl vs ys rf hs): ∀(nx i:Nat),(∀k y,ys[k]?=some y→(E.proj x (i+k)).den c.ρ=y)→
  ∃recs:List AF,(Kw P nx ts fl x i).2=recs.map AF.pair∧recs.flatMap AF.top=hs∧(∀r∈recs,nx≤r.tag∧r.tag<nx+(ts.flatMap (AR P)).length∧r.new.isSome)∧(recs.map AF.tag).Nodup∧
   ∀c',D9 c c' w' recs→(∀b∈rf,c'.ok b)→SR c' (Kw P nx ts fl x i).1 vs∧ ∀r∈recs,Cv c' r.tag r.ar:=by
 induction h with
 |nil=>exact fun nx i _=>⟨[],rfl,rfl,by simp,by simp,fun c' _ _=>⟨.nil,by simp⟩⟩
 | @cons t ts fl v vs y ys f h rf hs h1 _ ih=>
  intro nx i hx;obtain⟨r1,a1,a2,a3,a4,a5⟩:=bB (c:=c) (nx:=nx) (x:= .proj x i) h1 (hx 0 y rfl);obtain⟨r2,b1,b2,b3,b4,b5⟩:=ih (nx+(AR P t).length) (i+1) (fun k z hz=>by rw [show i+1+k=i+(k+1)from by omega];exact hx (k+1) z (by simpa using hz));simp only [Kw];refine⟨r1++r2,by simp [a1,b1],by simp [a2,b2],fun r hr=> ?_, ?_,fun c' ha Aw=> ?_⟩
  ·simp only [List.flatMap_cons,AB];rcases Af.1 hr with hr|hr
   ·have:=a3 r hr;exact⟨this.1,by omega,this.2.2⟩
   ·have:=b3 r hr;exact⟨by omega,by omega,this.2.2⟩
  ·rw [List.map_append,List.nodup_append];refine⟨a4,b4,fun t1 Pp t2 Pq he=> ?_⟩;obtain⟨q1,Gn,rfl⟩:=List.mem_map.1 Pp;obtain⟨q2,Hg,rfl⟩:=List.mem_map.1 Pq;have:=a3 q1 Gn;have:=b3 q2 Hg;omega
  ·obtain⟨p1,p2⟩:=a5 c' (ha.mono fun r hr=>by simp [hr]) fun b hb=>Aw b (by simp [hb]);obtain⟨q1,q2⟩:=b5 c' (ha.mono fun r hr=>by simp [hr]) fun b hb=>Aw b (by simp [hb]);refine⟨p1.cons q1,fun r hr=> ?_⟩;rcases Af.1 hr with hr|hr
   ·exact p2 r hr
   ·exact q2 r hr
end
theorem P3 {α:Type} {f:α→List Nat}: ∀{l:List α},(l.flatMap f).Nodup→(∀a∈l,(f a).Nodup)∧ ∀(i j:Nat) (a b:α) (x:Nat),l[i]?=some a→l[j]?=some b→x∈f a→x∈f b→i=j
 | [],_=>⟨by simp,by simp⟩
 |a::l,h=>by
  rw [List.flatMap_cons,List.nodup_append]at h;obtain⟨h1,h2,h3⟩:=h;obtain⟨k1,k2⟩:=P3 h2;refine⟨fun b hb=> ?_,fun i j p q x hi hj hp hq=> ?_⟩
  ·rcases Ae.1 hb with rfl|hb
   ·exact h1
   ·exact k1 b hb
  ·cases i with
   |zero=>
    cases j with
    |zero=>rfl
    |succ j=>simp at hi hj;subst hi;exact absurd rfl (h3 x hp x (List.mem_flatMap.2 ⟨q,List.mem_of_getElem? hj,hq⟩))
   |succ i=>
    cases j with
    |zero=>simp at hi hj;subst hj;exact absurd rfl (h3 x hq x (List.mem_flatMap.2 ⟨p,List.mem_of_getElem? hi,hp⟩))
    |succ j=>rw [k2 i j p q x (by simpa using hi) (by simpa using hj) hp hq]
theorem Nw {recs:List AF} (hn:(recs.map AF.tag).Nodup) {r:AF} (hr:r∈recs) (p:AF→Bool) (hp:p r=true) (Dk: ∀q,p q=true→q.tag=r.tag):recs.find? p=some r:=by
 induction recs with
 |nil=>simp at hr
 |cons q recs ih=>
  simp only [List.map_cons,List.nodup_cons]at hn;rw [List.find?_cons];rcases Ae.1 hr with rfl|hr
  ·simp [hp]
  ·have:p q=false:=by
    cases hq:p q with
    |false=>rfl
    |true=>exact absurd (List.mem_map.2 ⟨r,hr,(Dk q hq).symm⟩) hn.1
   rw [this];exact ih hn.2 hr
def Cx.c8 (c:Cx) (w':World) (recs:List AF):Cx:=
 {c with w:=w',G:=fun t=>(match recs.find? (fun r=>r.tag==t)with|some r=>⟨r.top, []⟩|none=>c.G t),K:=fun t g=>c.K t g∨ ∃r∈recs,r.tag=t∧r.new.isSome=true∧g=0,H:=fun t g=>(match recs.find? (fun r=>r.tag==t&&r.new.isSome)with|some r=>r.new.getD undef|none=>c.H t g),U:=fun t=>c.U t∨ ∃r∈recs,r.tag=t,E:=fun t=>match recs.find? (fun r=>r.tag==t)with|some r=>if r.new.isSome then 0 else c.E t+1|none=>c.E t}
section
variable {P:Program} {c:Cx} {n:Nat} {sl:Nat→SV} {hp:Nat→Option Ah} {a:Act} {w':World} {recs:List AF}
theorem Cx.de (hn:(recs.map AF.tag).Nodup) {r:AF} (hr:r∈recs):(c.c8 w' recs).G r.tag=⟨r.top, []⟩:=by simp only [Cx.c8];rw [Nw hn hr (fun q=>q.tag==r.tag) (by simp) (fun q hq=>by simpa using hq)]
theorem Cx.cg {t:Nat} (ht: ∀r∈recs,r.tag≠t):(c.c8 w' recs).G t=c.G t:=by
 simp only [Cx.c8];have:recs.find? (fun r=>r.tag==t)=none:=by rw [List.find?_eq_none];intro r hr;simpa using ht r hr
 rw [this]
theorem Cx.db (hU: ∀t g,c.K t g→c.U t) (hn:(recs.map AF.tag).Nodup) (AM: ∀r∈recs,r.new.isSome=true→ ¬c.U r.tag):D9 c (c.c8 w' recs) w' recs:=by
 refine⟨rfl,rfl,fun r hr=>Cx.de hn hr,fun r hr hv Rv=>⟨.inr ⟨r,hr,rfl,by simp [Rv],rfl⟩,fun g hg=> ?_, ?_⟩,fun t g hk=>⟨.inl hk, ?_⟩,fun t ht g hk=> ?_,fun r hr hs=> ?_,fun r hr hs=> ?_⟩
 ·rcases hg with hg|⟨_,_,_,_,rfl⟩
  ·exact absurd (hU _ _ hg) (AM r hr (by simp [Rv]))
  ·exact Nat.le_refl _
 ·simp only [Cx.c8];rw [Nw hn hr (fun q=>q.tag==r.tag&&q.new.isSome) (by simp [Rv]) (fun q hq=>by simp only [Ac,beq_iff_eq]at hq;exact hq.1)];simp [Rv]
 ·simp only [Cx.c8];have:recs.find? (fun r=>r.tag==t&&r.new.isSome)=none:=by
   rw [List.find?_eq_none];rintro r hr hh;simp only [Ac,beq_iff_eq]at hh;exact AM r hr hh.2 (hh.1▸hU t g hk)
  rw [this]
 ·rcases hk with hk|⟨r,hr,rfl,hh,_⟩
  ·exact hk
  ·exact absurd ht (AM r hr hh)
 ·simp only [Cx.c8];rw [Nw hn hr (fun q=>q.tag==r.tag) (by simp) (fun q hq=>by simpa using hq)];simp [hs]
 ·simp only [Cx.c8];rw [Nw hn hr (fun q=>q.tag==r.tag) (by simp) (fun q hq=>by simpa using hq)];simp [hs]
theorem Cx.jb {t:Nat} (ht: ∀r∈recs,r.tag≠t):(c.c8 w' recs).E t=c.E t:=by
 simp only [Cx.c8];have:recs.find? (fun r=>r.tag==t)=none:=by rw [List.find?_eq_none];intro r hr;simpa using ht r hr
 rw [this]
theorem Rel.changes (h:Rel c n sl hp a) {hs:List Nat} {gs:Gd} (k:AY c.ρ gs) (Ci:Mod hs c.w w') (hn:(recs.map AF.tag).Nodup) (AM: ∀r∈recs,r.new.isSome=true→ ¬c.U r.tag)
  (FQ: ∀b∈hs,∃r∈recs,b∈(c.G r.tag).top) (DQ:(recs.flatMap AF.top).Nodup) (B0: ∀r∈recs,∀b∈r.top,(b∈hs∨c.w.heap.size≤b)∧b<w'.heap.size)
  (A4: ∀r∈recs,∀hs f,r.ar≠ .gd hs f) (A5:CN c (c.c8 w' recs)→ ∀r∈recs,Cv (c.c8 w' recs) r.tag r.ar):
  Rel (c.c8 w' recs) n sl (AU hp (recs.map fun r=>(r.tag,Cf gs r.ar))) a∧CN c (c.c8 w' recs):=by
 have aft:=Cx.db (w':=w') h.a6 hn AM;have ZB: ∀b∈hs,c.M b:=fun b hb=>by obtain⟨r,_,hr⟩:=FQ b hb;exact⟨_,hr⟩
 have A6: ∀b∈hs,c.B≤b∨c.Mu b:=fun b hb=>by obtain⟨r,_,hr⟩:=FQ b hb;exact h.gw.allow r.tag b (by simp [GI.own,hr])
 have Bt:CN c (c.c8 w' recs):=by
  refine⟨rfl,rfl,fun b hb Aw=>⟨fun⟨t,ht⟩=> ?_,Aw.2⟩,fun b hb Aw=>Ci.block b hb fun hh=>Aw.1 (ZB b hh),aft.K,fun t g hk=> ?_⟩;by_cases hT: ∃r∈recs,r.tag=t
  ·obtain⟨r,hr,rfl⟩:=hT;rw [Cx.de hn hr]at ht;rcases(B0 r hr b ht).1 with hh|hh
   ·exact Aw.1 (ZB b hh)
   ·omega
  ·rw [Cx.cg fun r hr hh=>hT ⟨r,hr,hh⟩]at ht;exact Aw.1 ⟨t,ht⟩
  ·by_cases hT: ∃r∈recs,r.tag=t
   ·obtain⟨r,hr,rfl⟩:=hT;have DL:r.new=none:=by
     cases hh:r.new with
     |none=>rfl
     |some v=>exact absurd (h.a6 _ _ hk) (AM r hr (by simp [hh]))
    rw [aft.gp r hr DL];exact⟨by omega,fun h=>by omega⟩
   ·have Ze: ∀r∈recs,r.tag≠t:=fun r hr hh=>hT ⟨r,hr,hh⟩;rw [Cx.jb Ze,Cx.cg Ze];refine⟨Nat.le_refl _,fun _=>⟨rfl,fun b hb Ip=>Ci.block b Ip fun hh=> ?_⟩⟩;obtain⟨r,hr,UF⟩:=FQ b hh;exact h.gw.bp t r.tag (fun hh=>hT ⟨r,hr,hh.symm⟩) b (by simp [GI.own,hb]) (by simp [GI.own,UF])
 have A5:=A5 Bt;have HU: ∀r∈recs,∀e',(r.tag,e')∈(recs.map fun r=>(r.tag,Cf gs r.ar))→e'=Cf gs r.ar:=by
  intro r hr e' D0;obtain⟨q,hq,Is⟩:=List.mem_map.1 D0;simp only [Prod.mk.injEq]at Is;obtain⟨h1,rfl⟩:=Is;have e1:=Cx.de (c:=c) (w':=w') hn hr;have:q=r:=by have f1:=Nw hn hr (fun q=>q.tag==r.tag) (by simp) (fun q hq=>by simpa using hq);have f2:=Nw hn hq (fun p=>p.tag==r.tag) (by simp [h1]) (fun p hp=>by rw [h1];simpa using hp);rw [f1]at f2;cases f2;rfl
  rw [this]
 refine⟨h.change (fun t=> ∃r∈recs,r.tag=t) Bt ⟨Ci.os.trans h.base.os,Ci.tape.trans h.base.tape,Ci.output.trans h.base.output,Nat.le_trans h.base.size Ci.size,fun t v MK=>⟨.inl (h.base.pins t v MK).1,fun hk=> ?_⟩,fun b hb GL=> ?_,h.base.pk,h.base.lo⟩
  (fun t ht=>⟨Jp fun e he=> ?_,Cx.cg fun r hr hh=>ht ⟨r,hr,hh⟩,Cx.jb fun r hr hh=>ht ⟨r,hr,hh⟩,fun g hg=> ?_⟩) (fun t ht b hb=>Ci.block b (h.gw.inb t b (by simp [GI.own,hb])) fun hh=> ?_) (fun t ht=> ?_) ⟨fun t=> ?_,fun t u Kk b hb BC=> ?_,fun t b hb=> ?_,fun t b hb=> ?_⟩ (fun t g hk=> ?_) (fun t e he=> ?_),Bt⟩
 ·have BO:=aft.old t (h.base.pins t v MK).1 0 hk;rw [(aft.K t 0 BO).2];exact(h.base.pins t v MK).2 BO
 ·refine(Ci.block b (Nat.lt_of_lt_of_le hb h.base.size) fun hh=> ?_).trans (h.base.block b hb GL);rcases A6 b hh with h1|h1
  ·exact absurd h1 (Nat.not_le.2 hb)
  ·exact GL h1
 ·obtain⟨q,hq,Is⟩:=List.mem_map.1 he;simp only [Prod.mk.injEq]at Is;exact ht ⟨q,hq,Is.1⟩
 ·rcases hg with hg|⟨r,hr,HQ,_⟩
  ·exact hg
  ·exact absurd ⟨r,hr,HQ⟩ ht
 ·obtain⟨r,hr,Ip⟩:=FQ b hh;exact h.gw.bp t r.tag (fun hh=>ht ⟨r,hr,hh.symm⟩) b (by simp [GI.own,hb]) (by simp [GI.own,Ip])
 ·obtain⟨r,hr,rfl⟩:=ht;have CU:=XX (hp:=hp) (l:=recs.map fun r=>(r.tag,Cf gs r.ar)) (List.mem_map.2 ⟨r,hr,rfl⟩) (HU r hr);rw [CU];refine⟨fun e' Pk=> ?_,fun DL=> ?_⟩
  ·rw [(Nx k (A4 r hr)).1 Pk];exact A5 r hr
  ·exact absurd ((Nx k (A4 r hr)).2 rfl) (DL r.ar)
 ·by_cases hT: ∃r∈recs,r.tag=t
  ·obtain⟨r,hr,rfl⟩:=hT;rw [Cx.de hn hr];simpa [GI.own]using(P3 DQ).1 r hr
  ·rw [Cx.cg fun r hr hh=>hT ⟨r,hr,hh⟩];exact h.gw.nodup t
 ·by_cases hT: ∃r∈recs,r.tag=t
  ·obtain⟨r,hr,rfl⟩:=hT;rw [Cx.de hn hr]at hb;simp only [GI.own,List.append_nil]at hb;by_cases hV: ∃r∈recs,r.tag=u
   ·obtain⟨q,hq,rfl⟩:=hV;rw [Cx.de hn hq]at BC;simp only [GI.own,List.append_nil]at BC;obtain⟨i,hi⟩:=List.getElem?_of_mem hr;obtain⟨j,hj⟩:=List.getElem?_of_mem hq;have:=(P3 DQ).2 i j r q b hi hj hb BC;subst this;rw [hi]at hj;cases hj;exact Kk rfl
   ·rw [Cx.cg fun r hr hh=>hV ⟨r,hr,hh⟩]at BC;rcases(B0 r hr b hb).1 with hh|hh
    ·obtain⟨q,hq,lT⟩:=FQ b hh;exact h.gw.bp q.tag u (fun hh=>hV ⟨q,hq,hh⟩) b (by simp [GI.own,lT]) BC
    ·have:=h.gw.inb u b BC;omega
  ·rw [Cx.cg fun r hr hh=>hT ⟨r,hr,hh⟩]at hb;by_cases hV: ∃r∈recs,r.tag=u
   ·obtain⟨q,hq,rfl⟩:=hV;rw [Cx.de hn hq]at BC;simp only [GI.own,List.append_nil]at BC;rcases(B0 q hq b BC).1 with hh|hh
    ·obtain⟨r,hr,Rh⟩:=FQ b hh;exact h.gw.bp r.tag t (fun hh=>hT ⟨r,hr,hh⟩) b (by simp [GI.own,Rh]) hb
    ·have:=h.gw.inb t b hb;omega
   ·rw [Cx.cg fun r hr hh=>hV ⟨r,hr,hh⟩]at BC;exact h.gw.bp t u Kk b hb BC
 ·by_cases hT: ∃r∈recs,r.tag=t
  ·obtain⟨r,hr,rfl⟩:=hT;rw [Cx.de hn hr]at hb;simp only [GI.own,List.append_nil]at hb;rcases(B0 r hr b hb).1 with hh|hh
   ·exact A6 b hh
   ·exact .inl (Nat.le_trans h.base.size hh)
  ·rw [Cx.cg fun r hr hh=>hT ⟨r,hr,hh⟩]at hb;exact h.gw.allow t b hb
 ·by_cases hT: ∃r∈recs,r.tag=t
  ·obtain⟨r,hr,rfl⟩:=hT;rw [Cx.de hn hr]at hb;simp only [GI.own,List.append_nil]at hb;exact(B0 r hr b hb).2
  ·rw [Cx.cg fun r hr hh=>hT ⟨r,hr,hh⟩]at hb;exact Nat.lt_of_lt_of_le (h.gw.inb t b hb) Ci.size
 ·rcases hk with hk|⟨r,hr,HQ,_⟩
  ·exact .inl (h.a6 t g hk)
  ·exact .inr ⟨r,hr,HQ⟩
 ·by_cases hT: ∃r∈recs,r.tag=t
  ·exact .inr hT
  ·rw [Jp]at he
   ·exact .inl (h.br t e he)
   ·intro e' D0;obtain⟨q,hq,Is⟩:=List.mem_map.1 D0;simp only [Prod.mk.injEq]at Is;exact hT ⟨q,hq,Is.1⟩
end
def Y2 (P:Program) (w:World) (t:TypeId):PM→Value→AV→List Nat→List Nat→Prop
 | .ro,v,x,rf,hs=>Rd w [v] [x] rf∧hs= []
 | .va own,v,x,rf,hs=>Mo P w t own v x rf hs
 | .mu own,v,x,rf,hs=>Mo P w t own v x rf hs
 | .bx own _,v,x,rf,hs=> ∃(ty:TypeId) (b:Nat) (C:Array Value) (ys:List AV) (h:List Nat),IK P t=some ty∧v= .pointer (some ⟨b,0,none⟩)∧w.heap[b]?=some (.cells C ty (0,0))∧(∀u∈C.toList,u.oneCell'=true)∧x= .ref (.agg ys)∧
   BR P w (AR P ty) own C.toList ys rf h∧hs=b::h
inductive CJ (P:Program) (w:World):List TypeId→List PM→List Bool→List Value→List AV→List Nat→List Nat→List Nat→Prop where
 |nil {ms lo}:CJ P w [] ms lo [] [] [] [] []
 |cons {t ts ms lo v vs x xs f h rf lf hs}:Y2 P w t (ms.headD .ro) v x f h→CJ P w ts ms.tail lo.tail vs xs rf lf hs→CJ P w (t::ts) ms lo (v::vs) (x::xs) (f++rf) lf (h++hs)
 |lent {t ts ms lo v vs x xs f rf lf hs}:lo.headD false=true→ms.headD .ro= .ro→Rd w [v] [x] f→CJ P w ts ms.tail lo.tail vs xs rf lf hs→CJ P w (t::ts) ms lo (v::vs) (x::xs) rf (f++lf) hs
 |free {ms lo v vs x xs f rf lf hs}:Rd w [v] [x] f→CJ P w [] ms.tail lo.tail vs xs rf lf hs→CJ P w [] ms lo (v::vs) (x::xs) (f++rf) lf hs
inductive FC (P:Program) (c:Cx):List TypeId→List Bool→List Value→List (Option RI)→Prop where
 |nil {fl}:FC P c [] fl [] []
 |row {t ts fl v vs u g el rs}:fl.headD false=true→B9 P t=some el→(BE P el=true∨Dc P t=none)→c.K u g→c.H u g=v→(∀g',c.K u g'→g'≤g)→FC P c ts fl.tail vs rs→FC P c (t::ts) fl (v::vs) (some (.fl u g el (P.cellsOf el) (BE P el))::rs)
 |deep {t ts fl v vs u g el e z l ep rs}:fl.headD false=true→B9 P t=some el→BE P el=false→Dc P t=some (.row e z (AH.of l))→c.K u g→c.H u g=v→(∀g',c.K u g'→g'≤g)→c.E u=ep→FC P c ts fl.tail vs rs→FC P c (t::ts) fl (v::vs) (some (.dp u g e z l ep)::rs)
 |none {t ts fl v vs rs}:(fl.headD false=true→B9 P t=none∨ ∃a,v= .slice a 0 0)→FC P c ts fl.tail vs rs→FC P c (t::ts) fl (v::vs) (none::rs)
inductive Hm (P:Program) (c:Cx):List TypeId→List PM→List Value→List PA→Prop where
 |nil {ts ms}:Hm P c ts ms [] []
 |ro {ts ms v vs bs}:ms.headD .ro= .ro→Hm P c ts.tail ms.tail vs bs→Hm P c ts ms (v::vs) bs
 |va {ts ms own v vs bs us}:ms.headD .ro= .va own→(∀u∈us,c.U u)→Hm P c ts.tail ms.tail vs bs→Hm P c ts ms (v::vs) (.va us::bs)
 |mu {t ts ms own v vs bs us rs}:ms.headD .ro= .mu own→(if Aj P t then v= .agg us.toArray else us= [v])→FC P c (AR P t) own us rs→Hm P c ts ms.tail vs bs→Hm P c (t::ts) ms (v::vs) (.mu rs (Aj P t)::bs)
 |bx {t ts ms own own' ty v vs bs T b g olds}:ms.headD .ro= .bx own own'→IK P t=some ty→v= .pointer (some ⟨b,0,none⟩)→c.K T 0→c.H T 0=v→(∀u∈olds,c.U u)→Hm P c ts ms.tail vs bs→Hm P c (t::ts) ms (v::vs) (.box T g own' ty olds::bs)
section
variable {P:Program} {c:Cx} {hp:Nat→Option Ah} {gs:Gd}
theorem TE {t el:TypeId} {d:DT} (Bc:B9 P t=some el) (h:Dc P t=some d):P.cellsOf el≠0∧(AR P el).length=P.cellsOf el∧ ∃l:List DT,d= .row el (P.cellsOf el) (AH.of l)∧l.length=P.cellsOf el:=by
 have hu:=Ix Bc;unfold Dc at h;split at h
 ·cases h
 simp only [Uj,hu]at h;split at h
 ·cases h
 ·rename_i hh;simp only [not_or,Decidable.not_not,ne_eq]at hh;obtain⟨l,hl,rfl⟩:=Am.1 h;exact⟨hh.1,hh.2,l,rfl,by rw [mapM_len _ _ hl];exact hh.2⟩
where
 mapM_len {α β:Type} {f:α→Option β}: ∀(l:List α) (l':List β),l.mapM f=some l'→l'.length=l.length
  | [],l',h=>by simp at h;subst h;rfl
  |a::l,l',h=>by simp only [List.mapM_cons,Option.bind_eq_bind,An,Option.pure_def,Ad]at h;obtain⟨b,_,bs,MF,rfl⟩:=h;simp [mapM_len l bs MF]
theorem BR.void {w:World} {t el:TypeId} {ts:List TypeId} {fl:List Bool} {a:Option Addr} {us:List Value} {ys:List AV} {rf hs:List Nat} (h1:fl.headD false=true) (h2:B9 P t=some el) (hz:P.cellsOf el≠0) (h:BR P w ts fl.tail us ys rf hs):BR P w (t::ts) fl (.slice a 0 0::us) (.sl []::ys) rf ([]++hs):=by
 have A6:Ce w el (P.cellsOf el) (.slice a 0 0) (.sl []) [] []:=⟨[],rfl,by simp,by omega, .inl ⟨rfl,⟨a,rfl⟩,rfl,rfl⟩⟩
 cases hf:BE P el with
 |true=>exact .own h1 h2 (.inl ⟨hf,rfl⟩) A6 h
 |false=>
  cases hd:Dc P t with
  |none=>exact .own h1 h2 (.inr ⟨hf,hd⟩) A6 h
  |some d=>obtain⟨_,_,l,rfl,hl⟩:=TE h2 hd;exact .deep h1 h2 hf hd (.void (by omega) (by rw [AH.aj];exact hl) .nil) h
theorem cD {as_ bs:List Value} (h:Value.agg as_.toArray= .agg bs.toArray):as_=bs:=by
 have h1:as_.toArray=bs.toArray:=by injection h
 have:=congrArg Array.toList h1;simpa using this
theorem WW (eh:EH c hp) (k:AY c.ρ gs) (hU: ∀t g,c.K t g→c.U t): ∀(ts:List TypeId) {cs:List SV} {fl:List Bool} {rs:List (Option RI)} {us:List Nat} {vs:List Value} {xs:EL} {m:Nat},F1 P hp gs ts cs fl=some (rs,us)→SR c cs vs→BV hp gs m cs=some xs→m≤AJ→
  ∃rf hs,BR P c.w ts fl vs (xs.den c.ρ) rf hs∧(∀b∈rf,c.dr us b)∧hs=(B4 rs).flatMap (fun t=>(c.G t).top)∧FC P c ts fl vs rs∧ ∀u∈B4 rs,c.U u
 | [], [],fl,rs,us,vs,xs,m,h,hs,hx,hm=>by
  simp [F1]at h;obtain⟨rfl,rfl⟩:=h;cases hs;cases m with
  |zero=>simp [BV]at hx
  |succ m=>simp [BV]at hx;subst hx;exact⟨[], [], .nil,by simp,by simp [B4], .nil,by simp [B4]⟩
 | [],s::cs,fl,rs,us,vs,xs,m,h,hs,hx,hm=>by simp [F1]at h
 |t::ts, [],fl,rs,us,vs,xs,m,h,hs,hx,hm=>by simp [F1]at h
 |t::ts,s::cs,fl,rs,us, [],xs,m,h,hs,hx,hm=>by have:=hs.len;simp at this
 |t::ts,s::cs,fl,rs,us,v::vs,xs,m,h,hs,hx,hm=>by
  obtain⟨j,y,ys,rfl,hy,CD,rfl⟩:=Iy hx;obtain⟨r1,r2⟩:=hs.bf;unfold F1 at h;split at h
  ·cases h
  rename_i rs' us' Ct;obtain⟨rf,AX,q1,q2,q3,q4,q5⟩:=WW eh k hU ts Ct r2 CD (by omega);split at h
  ·rename_i hf;split at h
   ·rename_i r hr;simp only [Ad,Prod.mk.injEq]at h;obtain⟨rfl,rfl⟩:=h;unfold XW at hr;split at hr
    ·cases hr
    rename_i el Bc;split at hr
    ·cases hr
    rename_i hz;have empt: ∀a,v= .slice a 0 0→y.den c.ρ= .sl []→r=none→ ∃rf hs,BR P c.w (t::ts) fl (v::vs) ((EL.cons y ys).den c.ρ) rf hs∧(∀b∈rf,c.dr us' b)∧hs=(B4 (r::rs')).flatMap (fun t=>(c.G t).top)∧FC P c (t::ts) fl (v::vs) (r::rs')∧ ∀u∈B4 (r::rs'),c.U u:=by rintro a rfl Hi rfl;refine⟨rf, []++AX, ?_,q2,by simpa [B4]using q3, .none (fun _=> .inr ⟨a,rfl⟩) q4,by simpa [B4]using q5⟩;rw [EL.den,Hi];exact BR.void hf Bc (by omega) q1
    split at hr
    ·simp only [Ad]at hr;subst hr;cases r1 with
     |a8 _=>exact empt _ rfl (by rw [Jj hy];rfl) rfl
    ·simp only [Ad]at hr;subst hr;cases r1 with
     |emp _=>
      refine empt _ rfl ?_ rfl;cases j with
      |zero=>simp [A2]at hy
      |succ j=>simp [A2]at hy;subst hy;rfl
    ·rename_i u g;split at hr
     ·rename_i e z g' x d hl;split at hr
      ·rename_i hh;obtain⟨rfl,rfl,rfl,FL⟩:=hh;simp only [Ad]at hr;subst hr;obtain⟨p1,p2,N,p3,p4,p5,_⟩:=eh u _ (Cm hl k);have K8:BE P e=true∨Dc P t=none:=FL.imp (·.1) (by rintro⟨_,h⟩;simpa using h);have FL:BE P e=true∧N= []∨BE P e=false∧Dc P t=none:=by
        rcases FL with⟨h1,h2⟩|⟨h1,h2⟩
        ·exact .inl ⟨h1,(p5 h2).1⟩
        ·exact .inr ⟨h1,by simpa using h2⟩
       have FY:y=x:=by
        cases j with
        |zero=>simp [A2]at hy
        |succ j=>simp [A2,GQ,hl]at hy;exact hy.symm
       subst FY;have hv:c.H u g=v:=by
        cases r1 with
        |own _ k2 _=>exact k2
       rw [hv]at p3;refine⟨N++rf,(c.G u).top++AX,BR.own hf Bc FL p3 q1,fun b hb=> ?_,by simp [B4,RI.tag,q3], .row hf Bc K8 p1 hv p2 q4,fun w hw=> ?_⟩
       ·rcases Af.1 hb with hb|hb
        ·exact .inl (p4 b hb)
        ·exact q2 b hb
       simp only [B4,List.filterMap_cons,Option.map_some,RI.tag,Ae]at hw;rcases hw with rfl|hw
       ·exact hU _ _ p1
       ·exact q5 w hw
      ·cases hr
     ·rename_i e z l g' ep x hl;split at hr
      ·rename_i hh;obtain⟨rfl,E9,CQ⟩:=hh;have CQ:=Ta CQ;simp only [Ad]at hr;subst hr;obtain⟨p1,p2,pE,p3,_⟩:=eh u _ (Cm hl k);have FY:y=x:=by
        cases j with
        |zero=>simp [A2]at hy
        |succ j=>simp [A2,GQ,hl]at hy;exact hy.symm
       subst FY;have hv:c.H u g=v:=by
        cases r1 with
        |own _ k2 _=>exact k2
       rw [hv]at p3;refine⟨rf,(c.G u).top++AX,BR.deep hf Bc E9 CQ p3 q1,q2,by simp [B4,RI.tag,q3], .deep hf Bc E9 CQ p1 hv p2 pE q4,fun w hw=> ?_⟩;simp only [B4,List.filterMap_cons,Option.map_some,RI.tag,Ae]at hw;rcases hw with rfl|hw
       ·exact hU _ _ p1
       ·exact q5 w hw
      ·cases hr
     ·cases hr
    ·cases hr
   ·cases h
  ·rename_i hf;simp only [Ad,Prod.mk.injEq]at h;obtain⟨rfl,rfl⟩:=h;obtain⟨f,p1,p2⟩:=Gy eh k j hy r1 AJ (by omega);refine⟨f++rf,AX,BR.rd (fun hh=>absurd hh hf) p1 q1,fun b hb=> ?_,by simpa [B4]using q3, .none (fun hh=>absurd hh hf) q4,by simpa [B4]using q5⟩;rcases Af.1 hb with hb|hb
   ·exact(p2 b hb).mono fun t ht=>by simp [ht]
   ·exact(q2 b hb).mono fun t ht=>by simp [ht]
theorem cC (eh:EH c hp) (k:AY c.ρ gs) (hU: ∀t g,c.K t g→c.U t) {t:TypeId} {s:SV} {v:Value} {fl:List Bool} {rs:List (Option RI)} {us:List Nat} {x:E} (hs:SR c [s] [v]) (hx:A2 hp gs AJ s=some x) (hg:(Gw s).2=Aj P t)
  (h:F1 P hp gs (AR P t) (Gw s).1 fl=some (rs,us)):
  ∃rf hs,Mo P c.w t fl v (x.den c.ρ) rf hs∧(∀b∈rf,c.dr us b)∧hs=(B4 rs).flatMap (fun t=>(c.G t).top)∧(∃vs',(if Aj P t then v= .agg vs'.toArray else vs'= [v])∧FC P c (AR P t) fl vs' rs)∧ ∀u∈B4 rs,c.U u:=by
 have single: ∀(s:SV),SR c [s] [v]→A2 hp gs AJ s=some x→Aj P t=false→F1 P hp gs (AR P t) [s] fl=some (rs,us)→ ∃rf hs,Mo P c.w t fl v (x.den c.ρ) rf hs∧(∀b∈rf,c.dr us b)∧hs=(B4 rs).flatMap (fun t=>(c.G t).top)∧(∃vs',(if Aj P t then v= .agg vs'.toArray else vs'= [v])∧FC P c (AR P t) fl vs' rs)∧ ∀u∈B4 rs,c.U u:=by
  intro s hs hx Av h;obtain⟨t0,VS⟩: ∃t0,AR P t= [t0]:=by
   cases hh:AR P t with
   |nil=>rw [hh]at h;simp [F1]at h
   |cons t0 l=>
    cases l with
    |nil=>exact⟨t0,rfl⟩
    |cons t1 l=>rw [hh]at h;simp [F1]at h
  rw [VS]at h;have key: ∃rf hs,BR P c.w [t0] fl [v] [x.den c.ρ] rf hs∧(∀b∈rf,c.dr us b)∧hs=(B4 rs).flatMap (fun t=>(c.G t).top)∧FC P c [t0] fl [v] rs∧ ∀u∈B4 rs,c.U u:=by
   unfold F1 at h;simp only [F1]at h;split at h
   ·rename_i hf;split at h
    ·rename_i r hr;simp only [Ad,Prod.mk.injEq]at h;obtain⟨rfl,rfl⟩:=h;unfold XW at hr;split at hr
     ·cases hr
     rename_i el Bc;split at hr
     ·cases hr
     rename_i hz;have empt: ∀a,v= .slice a 0 0→x.den c.ρ= .sl []→r=none→ ∃rf hs,BR P c.w [t0] fl [v] [x.den c.ρ] rf hs∧(∀b∈rf,c.dr ([]:List Nat) b)∧hs=(B4 [r]).flatMap (fun t=>(c.G t).top)∧FC P c [t0] fl [v] [r]∧ ∀u∈B4 [r],c.U u:=by rintro a rfl Hi rfl;refine⟨[], []++ [], ?_,by simp,by simp [B4], .none (fun _=> .inr ⟨a,rfl⟩) .nil,by simp [B4]⟩;rw [Hi];exact BR.void hf Bc (by omega) .nil
     split at hr
     ·simp only [Ad]at hr;subst hr;cases hs with
      |a8 _=>exact empt _ rfl (by rw [Jj hx];rfl) rfl
     ·simp only [Ad]at hr;subst hr;cases hs with
      |emp _=>refine empt _ rfl ?_ rfl;simp [AJ,A2]at hx;subst hx;rfl
     ·rename_i u g;split at hr
      ·rename_i e z g' x0 d hl;split at hr
       ·rename_i hh;obtain⟨rfl,rfl,rfl,FL⟩:=hh;simp only [Ad]at hr;subst hr;obtain⟨p1,p2,N,p3,p4,p5,_⟩:=eh u _ (Cm hl k);have K8:BE P e=true∨Dc P t0=none:=FL.imp (·.1) (by rintro⟨_,h⟩;simpa using h);have FL:BE P e=true∧N= []∨BE P e=false∧Dc P t0=none:=by
         rcases FL with⟨h1,h2⟩|⟨h1,h2⟩
         ·exact .inl ⟨h1,(p5 h2).1⟩
         ·exact .inr ⟨h1,by simpa using h2⟩
        have FY:x=x0:=by simp [AJ,A2,GQ,hl]at hx;exact hx.symm
        subst FY;have hv:c.H u g=v:=by
         cases hs with
         |own _ k2 _=>exact k2
        rw [hv]at p3;refine⟨N++ [],(c.G u).top++ [],BR.own hf Bc FL p3 .nil,fun b hb=> .inl (p4 b (by simpa using hb)),by simp [B4,RI.tag], .row hf Bc K8 p1 hv p2 .nil,fun w hw=> ?_⟩;simp only [B4,List.filterMap_cons,Option.map_some,RI.tag,List.filterMap_nil,Ae,List.not_mem_nil,or_false]at hw;subst hw;exact hU _ _ p1
       ·cases hr
      ·rename_i e z l g' ep x0 hl;split at hr
       ·rename_i hh;obtain⟨rfl,E9,CQ⟩:=hh;have CQ:=Ta CQ;simp only [Ad]at hr;subst hr;obtain⟨p1,p2,pE,p3,_⟩:=eh u _ (Cm hl k);have FY:x=x0:=by
         simp [AJ,A2,GQ,hl]at hx;exact hx.symm
        subst FY;have hv:c.H u g=v:=by
         cases hs with
         |own _ k2 _=>exact k2
        rw [hv]at p3;refine⟨[],(c.G u).top++ [],BR.deep hf Bc E9 CQ p3 .nil,by simp,by simp [B4,RI.tag], .deep hf Bc E9 CQ p1 hv p2 pE .nil,fun w hw=> ?_⟩;simp only [B4,List.filterMap_cons,Option.map_some,RI.tag,List.filterMap_nil,Ae,List.not_mem_nil,or_false]at hw;subst hw;exact hU _ _ p1
       ·cases hr
      ·cases hr
     ·cases hr
    ·cases h
   ·rename_i hf;simp only [Ad,Prod.mk.injEq]at h;obtain⟨rfl,rfl⟩:=h;obtain⟨f,p1,p2⟩:=Gy eh k AJ hx hs AJ (Nat.le_refl _);refine⟨f++ [], [],BR.rd (fun hh=>absurd hh hf) p1 .nil,fun b hb=> ?_,by simp [B4], .none (fun hh=>absurd hh hf) .nil,by simp [B4]⟩;rw [List.append_nil]at hb;exact(p2 b hb).mono fun t ht=>by simp [ht]
  obtain⟨rf,AX,q1,q2,q3,q4,q5⟩:=key;refine⟨rf,AX,⟨[v], [x.den c.ρ], ?_,by rw [VS];exact q1⟩,q2,q3,⟨[v], ?_,by rw [VS];exact q4⟩,q5⟩
  ·rw [if_neg (by rw [Av];simp)];exact⟨rfl,rfl⟩
  ·rw [if_neg (by rw [Av];simp)]
 cases s with
 |agg cs=>
  simp only [Gw]at hg h;obtain⟨m,l,hm,hl,rfl⟩:=Qi hx;cases hs with
  |agg h9 h1 h8=>
   rename_i as_;have E4:m≤AJ:=by simp only [AJ]at hm ⊢;omega
   obtain⟨rf,AX,q1,q2,q3,q4,q5⟩:=WW (P:=P) eh k hU (AR P t) h h1 hl E4;refine⟨rf,AX,⟨as_,l.den c.ρ, ?_,q1⟩,q2,q3,⟨as_, ?_,q4⟩,q5⟩
   ·rw [if_pos hg.symm];exact⟨rfl,rfl,h9⟩
   ·rw [if_pos hg.symm]
 |_=>exact single _ hs hx hg.symm h
end
end Go.Proofs.YtollgpkegmbpmaaGreatDoor
end

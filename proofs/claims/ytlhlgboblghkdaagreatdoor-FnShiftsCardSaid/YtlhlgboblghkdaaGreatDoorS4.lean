/- Parts of a proof, joined: VX, WB, WC, WD, WE, WF, WG, WH, WI, WJ, WK, WL, WM, WN, WO. -/
import Derived.Test.YtlhlgboblghkdaaGreatDoorS3
import Derived.Orders
import Derived.Lib.SliceRun
import Derived.Laws.Slices
import Derived.Laws.MakeOwn
import Derived.Laws.StructEq
set_option linter.unusedVariables false
set_option linter.unusedSimpArgs false
section
namespace Go.Proofs.YtlhlgboblghkdaaGreatDoor
open Go.RowKit
section
variable {P:Program} {c:Cx} {n nx:Nat} {sl sl0:Nat→SV} {hp hp0:Nat→Option Aj} {a:Act} {o:Oper} {gs:Gd} {e:AX} {sg:BI} {nv:Nat}
def Cx.gk (c:Cx) (w':World) (t:Nat) (O:List Nat):Cx:={c with w:=w',G:=fun u=>if u=t then⟨(c.G t).top,O⟩else c.G u,E:=fun u=>if u=t then c.E u+1 else c.E u}
theorem Rel.kd (h:Rel c n sl hp a) {t:Nat} {e0:Aj} {b:Nat} {w':World} {O:List Nat} (AQ:Cd c.ρ (hp t) e0) (Ch:b∈(c.G t).top) (hO:O= []∨O=(c.G t).O) (hm:Mod [b] c.w w') (BV:w'.heap.size=c.w.heap.size) (e1:Aj) (A9: ∀hs f,e1≠ .gd hs f)
  (he:Dv c (c.gk w' t O)→CX (c.gk w' t O) t e1):
  Rel (c.gk w' t O) n sl (A4 hp [(t,e1)]) a:=by
 have Bq:b∈(c.G t).own:=by simp [GI.own,Ch]
 have hG: ∀u,(c.gk w' t O).G u=if u=t then⟨(c.G t).top,O⟩else c.G u:=fun u=>rfl;have Et: ∀u,((c.gk w' t O).G u).top=(c.G u).top:=by
  intro u;rw [hG];split
  ·rename_i hu;rw [hu]
  ·rfl
 have BF: ∀u,∀q∈((c.gk w' t O).G u).own,q∈(c.G u).own:=by
  intro u q hq;rw [hG]at hq;split at hq
  ·rename_i hu;subst hu;simp only [GI.own,Ah]at hq ⊢;rcases hq with hq|hq
   ·exact .inl hq
   ·rcases hO with rfl|rfl
    ·simp at hq
    ·exact .inr hq
  ·exact hq
 have BK:Dv c (c.gk w' t O):=by
  refine⟨rfl,rfl,fun q _ hq=>⟨fun⟨u,hu⟩=>hq.1 ⟨u,by rw [Et]at hu;exact hu⟩,hq.2⟩,fun q hq Ax=>hm.block q hq ?_,fun u g hu=>⟨hu,rfl⟩,fun u g hu=> ?_⟩
  ·simp only [List.mem_singleton];rintro rfl;exact Ax.1 ⟨t,Ch⟩
  ·by_cases Gk:u=t
   ·have e1:(c.gk w' t O).E u=c.E u+1:=by simp only [Cx.gk,if_pos Gk]
    exact⟨by omega,fun h=>by omega⟩
   ·have e1:(c.gk w' t O).E u=c.E u:=by simp only [Cx.gk,if_neg Gk]
    have e2:(c.gk w' t O).G u=c.G u:=by simp only [Cx.gk,if_neg Gk]
    rw [e1];refine⟨Nat.le_refl _,fun _=>⟨e2,fun q hq Ed=>hm.block q Ed ?_⟩⟩;simp only [List.mem_singleton];rintro rfl;exact h.gw.cm t u (Ne.symm Gk) q Bq (by simp [GI.own,hq])
 have DD: ∀u,A4 hp [(t,e1)] u=if u=t then some e1 else hp u:=fun u=>rfl;refine h.change (fun u=>u=t) BK ⟨hm.os.trans h.base.os,hm.tape.trans h.base.tape,hm.output.trans h.base.output,Nat.le_trans h.base.size hm.size,h.base.pins,fun q hq H7=> ?_,h.base.pk,h.base.lo⟩
  (fun u hu=>⟨by rw [DD,if_neg hu],by rw [hG,if_neg hu],by simp [Cx.gk,hu],fun g hg=>hg⟩) (fun u hu q hq=>hm.block q (h.gw.inb u q (by simp [GI.own,hq])) ?_) (fun u hu=> ?_) ⟨fun u=> ?_,fun u v bS q hq bC=>h.gw.cm u v bS q (BF u q hq) (BF v q bC),fun u q hq=>h.gw.allow u q (BF u q hq),fun u q hq=> ?_⟩ h.bu (fun u f hf=> ?_)
 ·refine(hm.block q (Nat.lt_of_lt_of_le hq h.base.size) ?_).trans (h.base.block q hq H7);simp only [List.mem_singleton];rintro rfl;rcases h.gw.allow t q Bq with hh|hh
  ·exact absurd hh (Nat.not_le.2 hq)
  ·exact H7 hh
 ·simp only [List.mem_singleton];rintro rfl;exact h.gw.cm t u (Ne.symm hu) q Bq (by simp [GI.own,hq])
 ·subst hu;rw [DD,if_pos rfl];refine⟨fun e' hr=> ?_,fun hn=> ?_⟩
  ·cases e1<;>first
    |(simp only [Cd]at hr;subst hr;exact he BK)
    |exact absurd rfl (A9 _ _)
  ·cases e1<;>first
    |exact absurd rfl (A9 _ _)
    |exact absurd rfl (hn _)
 ·rw [hG];split
  ·rename_i hu;subst hu;have h0:=h.gw.nodup u;simp only [GI.own]at h0 ⊢;rcases hO with rfl|rfl
   ·rw [List.append_nil];exact(List.nodup_append.1 h0).1
   ·exact h0
  ·exact h.gw.nodup u
 ·show q<w'.heap.size;rw [BV];exact h.gw.inb u q (BF u q hq)
 ·rw [DD]at hf;split at hf
  ·rename_i hu;subst hu;cases hh:hp u with
   |none=>rw [hh]at AQ;exact AQ.elim
   |some e9=>exact h.cq u e9 hh
  ·exact h.cq u f hf
theorem QH {α:Type} (L vs:List α) (p m:Nat) (h:p+vs.length≤m) (hm:m≤L.length):(setVs L p vs).take m=setVs (L.take m) p vs:=by
 apply List.ext_getElem?;intro j;have hl:(L.take m).length=m:=by rw [List.length_take];omega
 rw [List.getElem?_take,QQ (L.take m) vs p (by omega) j,QQ L vs p (by omega) j,List.getElem?_take];by_cases h1:p≤j∧j<p+vs.length
 ·rw [if_pos (by omega),if_pos h1,if_pos h1]
 ·rw [if_neg h1,if_neg h1]
theorem Rd.setVs {w:World} {L V:List Value} {X Y:List AV} {N f:List Nat} {p:Nat} (h:Rd w L X N) (k:Rd w V Y f) (hp:p+V.length≤L.length):
  ∃n1 n2 n3,N=n1++n2++n3∧Rd w (Go.Proofs.YtlhlgboblghkdaaGreatDoor.setVs L p V) (Go.Proofs.YtlhlgboblghkdaaGreatDoor.setVs X p Y) (n1++f++n3)∧Rd w ((L.drop p).take V.length) ((X.drop p).take V.length) n2:=by
 have hl:=h.len;have hk:=k.len;have e1:L=L.take p++((L.drop p).take V.length++L.drop (p+V.length)):=by rw [←List.drop_drop,List.take_append_drop,List.take_append_drop]
 have e2:X=X.take p++((X.drop p).take V.length++X.drop (p+V.length)):=by rw [←List.drop_drop,List.take_append_drop,List.take_append_drop]
 have h':=h;rw [e1,e2]at h';obtain⟨n1,m,rfl,g1,g2⟩:=Rd.eu (by simp;omega) h';obtain⟨n2,n3,rfl,g3,g4⟩:=Rd.eu (by simp;omega) g2;refine⟨n1,n2,n3,by simp, ?_,g3⟩;unfold Go.Proofs.YtlhlgboblghkdaaGreatDoor.setVs;rw [←hk];exact(g1.app k).app g4
theorem Yy {sz:Nat}: ∀(ys:List AV) (k:Nat) (z y:AV) (o:Nat) (vc:List AV),(∀y∈ys,y.cells.length=sz)→ys[k]?=some y→o+vc.length≤sz→z.cells=setVs y.cells o vc→AK (ys.set k z)=setVs (AK ys) (k*sz+o) vc
 | [],k,z,y,o,vc,_,h,_,_=>by simp at h
 |q::ys,0,z,y,o,vc,hs,h,ho,hz=>by simp at h;subst h;have hq:=hs q (by simp);simp only [AK,List.set_cons_zero,List.flatMap_cons,Nat.zero_mul,Nat.zero_add,hz];unfold setVs;rw [List.take_append_of_le_length (by omega),List.drop_append_of_le_length (by omega)];simp
 |q::ys,k+1,z,y,o,vc,hs,h,ho,hz=>by
  have hq:=hs q (by simp);have ih:=Yy ys k z y o vc (fun u hu=>hs u (by simp [hu])) (by simpa using h) ho hz;simp only [AK,List.set_cons_succ,List.flatMap_cons]at ih ⊢;rw [ih];unfold setVs;have e0:(k+1)*sz+o=q.cells.length+(k*sz+o):=by rw [hq,Nat.add_mul];omega
  rw [e0,List.take_length_add_append,Nat.add_assoc (q.cells.length),List.drop_length_add_append];simp
theorem jK {y x:AV} {k:Nat} {g:Bool} (hx:(∀cs,x≠ .agg cs)∨g=true) (hy:g=false→y.cells.length=1∧k=0∧x.cells= [x]):(y.da k x g).cells=setVs y.cells k x.cells:=by
 cases g with
 |true=>simp [AV.da,AV.cells,setVs]
 |false=>obtain⟨h1,h2,h3⟩:=hy rfl;subst h2;simp only [AV.da,h3,setVs];rw [if_neg (by simp)];rw [h3];simp only [List.take_zero,List.nil_append,Ar,List.length_nil,Nat.zero_add];rw [List.drop_eq_nil_of_le (by omega)];simp
theorem zs9 (h:Bg P c n nx sl hp a sl0 hp0 o gs) {t:TypeId} {x y:Operand} (ho:o.op= .store t x y) {b g:Nat} {ix:E} {sz k:Nat} {s:SV} (Br: ∃e z g c d,C6 hp0 gs b=some (.row e z g c d)) (hx:BE sl0 gs x=some (.cr b g ix sz k)) (hy:BE sl0 gs y=some s)
  (he:MF P hp0 gs t (.cr b g ix sz k) s=some e) (hc: ∀q∈e.ca,Cn.den c.ρ q):Ay P o c n nx sl hp gs a e:=by
 have r1:=h.cu hx (by simp [ho,Op.operands]);have r2:=h.cu hy (by simp [ho,Op.operands]);simp only [MF]at he;split at he
 ·rename_i el sz' g' c0 d hl;split at he
  ·rename_i hh;obtain⟨rfl,rfl,rfl,Be,hle,Fi,DU⟩:=hh;split at he
   ·rename_i xe fz dx ck B3;split at he
    ·cases he
    rename_i ES;simp only [Ag]at he;subst he;have ES: ∀f,(b,f)∉fz:=fun f hf=>ES (by simp only [List.contains_eq_mem,decide_eq_true_eq];exact List.mem_map.2 ⟨_,hf,rfl⟩);obtain⟨f,q1,q2,⟨ts,q3⟩,q5⟩:=uO h.rel h.hp h.gs r2 B3 (fun q hq=>hc q (by simp [hq]));obtain⟨q3,q4⟩:=q3;have AQ:=Li h.hp (CH hl h.gs);have CZ:=h.rel.freeze h.hp h.gs q3;have LW:Cd (c.bq (fz.map (·.1))).ρ (A4 hp fz b) (.row el sz g c0 d):=by rw [K9 ES];exact AQ
    obtain⟨e1,e2,N,e3,e4,e5,e6⟩:=CZ.ents b _ LW;obtain⟨o1,o2,o3,o4⟩:=kB (P:=P) q1 DU q5;generalize hv:a.eval x=v at r1;cases r1 with
    |cr k1 k2 k3 k4 k5 _=>
     rename_i m len cap kk kv k6;obtain⟨xs,p1,p2,p3,pcase⟩:=e3;have p1':c0.den c.ρ= .sl xs:=p1;rcases pcase with⟨_,⟨_,pv⟩,_⟩|⟨g9,cap9,C,pv,p4,p5,p6,p7,p8,p9,p10⟩
     ·exfalso;have:c.H b g=_:=pv;rw [k2]at this;cases this;omega
     ·have pv':c.H b g= .slice (some ⟨g9,0,none⟩) xs.length cap9:=pv;rw [k2]at pv';simp only [Value.slice.injEq,Ag,Addr.mk.injEq,and_true]at pv';obtain⟨rfl,rfl,rfl⟩:=pv';have Gh:kv.toNat<xs.length:=by omega
      have FV:=MP Gh;generalize G3:(AV.sl xs).nth kv.toNat=yk at FV;have Fq:=p2 yk (List.mem_of_getElem? FV);have DL:(a.eval y).cells.toList.length=P.cellsOf t:=by simpa using o4
      have hmul:(kv.toNat+1)*sz≤xs.length*sz:=Nat.mul_le_mul_right _ (by omega);have DI:C.toList.length=cap*sz:=by simpa using p7
      have FQ:xs.length*sz≤cap*sz:=Nat.mul_le_mul_right _ p4;rw [Nat.add_mul]at hmul;have p6':c.w.heap[m]?=some (.cells C el (0,0)):=p6;obtain⟨m1,m2,m3⟩:=XS (vs:=(a.eval y).cells.toList) p6' (show(kv.toNat*sz+k)+_≤C.size by rw [DL,p7];omega);have Nu:(C.toList.take (xs.length*sz)).length=xs.length*sz:=by rw [List.length_take,DI];omega
      obtain⟨n1,n2,n3,hN,s1,s2⟩:=Rd.setVs (p:=kv.toNat*sz+k) p10 o1 (by rw [Nu,DL];omega);have Fl: ∀z,z<c.w.heap.size→(c.bq (fz.map (·.1))).ok z→(CO c.w m (kv.toNat*sz+k) (a.eval y).cells.toList).heap[z]?=c.w.heap[z]?:=by intro z hz Ax;refine m1.block z hz ?_;simp only [List.mem_singleton];rintro rfl;exact Ax.1 ⟨b,by rw [p8];simp⟩
      have BD:(d&&dx)=true→n2= []∧f= []:=by
       intro Ez;have nT:Cn.den c.ρ (.flat (.fld (.idx c0 ix) k (P.cellsOf t) (Ap P t)) (P.cellsOf t) (Ap P t)):=hc _ (by simp [Ez]);obtain⟨f1,f2,f3,f4⟩:=nT;simp only [Ae]at Ez;refine⟨?_,q2 Ez.2⟩;have NC:((AK xs).drop (kv.toNat*sz+k)).take (a.eval y).cells.toList.length=(yk.cells.drop k).take (P.cellsOf t):=by rw [DL];exact Um xs p2 _ _ FV k (P.cellsOf t) hle
       rw [NC]at s2;have BU:(E.fld (.idx c0 ix) k (P.cellsOf t) (Ap P t)).den c.ρ=yk.fld k (P.cellsOf t) (Ap P t):=by simp only [E.den,p1',k3,AV.idx,G3]
       rw [BU]at f2;refine HI s2 ?_;cases hg:Ap P t with
       |true=>rw [hg]at f2;simpa [AV.fld,AV.cells]using f2
       |false=>
        have h1:P.cellsOf t=1:=by rcases DU with h'|h';rw [hg]at h';cases h';exact h'
        rw [BU]at f4;have f4:=f4 hg;rw [hg]at f4;have Aq:k<yk.cells.length:=by omega
        rw [h1,List.drop_eq_getElem_cons Aq,List.take_succ_cons,List.take_zero];simp only [List.mem_singleton,forall_eq];simpa [AV.fld,Aq]using f4
      have hz:(yk.da k (xe.den c.ρ) (Ap P el)).cells=setVs yk.cells k (xe.den c.ρ).cells:=by
       refine jK ?_ (fun hg=> ?_)
       ·cases hg:Ap P el with
        |true=>exact .inr rfl
        |false=>
         left;rcases Fi with h'|⟨_,h'⟩
         ·rw [hg]at h';cases h'
         ·have h':Ap P t=false:=by simpa using h'
          rw [h']at q5;exact fun cs=>(q5.1 cs)
       ·rcases Fi with h'|⟨h1,h'⟩
        ·rw [hg]at h';cases h'
        ·have h':Ap P t=false:=by simpa using h'
         rw [h']at q5;have Nd:P.cellsOf t=1:=by rcases DU with h2|h2;rw [h']at h2;cases h2;exact h2
         refine⟨by omega,by omega, ?_⟩;cases bX:xe.den c.ρ<;>first|rfl|exact absurd bX (q5.1 _)
      have Em:AK (xs.set kv.toNat (yk.da k (xe.den c.ρ) (Ap P el)))=setVs (AK xs) (kv.toNat*sz+k) (xe.den c.ρ).cells:=
       Yy xs _ _ yk k _ p2 FV (by rw [o3];exact hle) hz
      have Dz:=CZ.kd (t:=b) (b:=m) (w':=CO c.w m (kv.toNat*sz+k) (a.eval y).cells.toList) (O:=if(d&&dx)=true then((c.bq (fz.map (·.1))).G b).O else []) LW (by rw [p8];simp) (by split;exact .inr rfl;exact .inl rfl) m1 m3
       (.row el sz g (.set c0 ix (.put (.idx c0 ix) k xe (Ap P el))) (d&&dx)) (by intros;simp) (fun Gi=>by
        have FG: ∀z∈n1++f++n3,(c.bq (fz.map (·.1))).ok z:=by
         intro z hz;simp only [Ah]at hz;rcases hz with(hz|hz)|hz
         ·exact e4 z (by rw [hN];simp [hz])
         ·exact q4 z hz
         ·exact e4 z (by rw [hN];simp [hz])
        have RU: ∀z∈n1++f++n3,z<c.w.heap.size:=s1.inb;refine⟨e1,e2,n1++f++n3,⟨xs.set kv.toNat (yk.da k (xe.den c.ρ) (Ap P el)), ?_,fun z cE=> ?_,p3, .inr ⟨m,cap,_, ?_,by simpa using p4,p5,m2, ?_, ?_, ?_, ?_⟩⟩,fun z hz=>Gi.ok z (RU z hz) (FG z hz),fun Ez=> ?_,fun Ez=> ?_⟩
        ·show AV.cz (c0.den c.ρ) (ix.den c.ρ) (((c0.den c.ρ).idx (ix.den c.ρ)).da k (xe.den c.ρ) (Ap P el))=_;rw [p1',k3];simp only [AV.idx,G3,AV.cz]
        ·rcases List.mem_or_eq_of_mem_set cE with cE|rfl
         ·exact p2 z cE
         ·rw [hz,QK _ _ _ (by rw [o3,Fq];exact hle)];exact Fq
        ·rw [List.length_set];exact k2
        ·rw [List.size_toArray,QK _ _ _ (by rw [DL,DI];omega),Array.length_toList];exact p7
        ·simpa [Cx.gk]using p8
        ·simp only [List.length_set,List.toList_toArray];rw [QH _ _ _ _ (by rw [DL];omega) (by rw [DI];omega)];intro u hu;unfold setVs at hu;simp only [Ah]at hu;rcases hu with(hu|hu)|hu
         ·exact p9 u (List.mem_of_mem_take hu)
         ·exact o2 u hu
         ·exact p9 u (List.mem_of_mem_drop hu)
        ·simp only [List.length_set,List.toList_toArray];rw [QH _ _ _ _ (by rw [DL];omega) (by rw [DI];omega),Em];exact s1.frame fun z hz=>Fl z (RU z hz) (FG z hz)
        ·obtain⟨z1,z2⟩:=BD Ez;have hd:d=true:=by simp only [Ae]at Ez;exact Ez.1
         obtain⟨u1,u2⟩:=e5 hd;have Vt:n1++f++n3=N:=by rw [hN,z1,z2]
         rw [Vt];refine⟨u1.frame fun z hz=>Fl z (p10.inb z hz) (e4 z hz), ?_⟩;simp only [Cx.gk,if_true,Ez];exact u2
        ·simp [Cx.gk,Ez])
      intro next Q hk
      unfold Oper.wp;have hr:(execOp a.eval o).run P c.w= .ok .skip (CO c.w m (kv.toNat*sz+k) (a.eval y).cells.toList):=by have:=iF (P:=P) (t:=t) (v:=a.eval y) (off:=kv.toNat*sz+k) p6' Be o4 (by rw [o4,p7];omega) o2;simp [execOp,ho,hv,this]
      rw [hr,Oper.upon_skip];refine hk _ ((c.bq (fz.map (·.1))).gk (CO c.w m (kv.toNat*sz+k) (a.eval y).cells.toList) b (if(d&&dx)=true then((c.bq (fz.map (·.1))).G b).O else [])) ⟨rfl,rfl,rfl,rfl,fun t ht=> .inl ht⟩ ?_;have:=Dz.put (v:=Go.undef) ((SR.undef .nil).mkGd []) o.dst;rw [OI];exact this
   ·cases he
  ·cases he
 all_goals (rename_i hl;obtain⟨_,_,_,_,_,Bx⟩:=Br;first|(rw [Bx]at hl;cases hl;done)|exact absurd Bx (hl _ _ _ _ _)|cases he)
end
def Kq (a:Act) (o:Oper):Bool:=match o.op with| .binOp _ _ x _ _=>(match a.eval x with| .slice none _ _=>true|_=>false)|_=>false
section
variable (P:Program) (sg:BI) (Rt:Nat→List AV→AV→Prop)
def N6:Prop:= ∀(c:Cx) (n nx:Nat) (sl:Nat→SV) (hp:Nat→Option Aj) (a:Act) (sl0:Nat→SV) (hp0:Nat→Option Aj) (o:Oper) (gs:Gd) (e:AX) (nv:Nat),Bg P c n nx sl hp a sl0 hp0 o gs→ ¬c.U (nx+999)→Ln P sg sl0 hp0 nv nx gs o=some e→
 (∀q∈e.ca,q.den c.ρ)→(∀cl,e.call=some cl→ ∃r,c.ρ[nv]?=some r∧Ip Rt cl.fn ((EL.of cl.args).den c.ρ) c.ρ r)→(∀x,e.bz=some x→c.ρ[nv]?=some (.bool (Kq a o)))→Ay P o c n nx sl hp gs a e
def Va:Prop:= ∀(c:Cx) (n nx:Nat) (sl:Nat→SV) (hp:Nat→Option Aj) (a:Act) (sl0:Nat→SV) (hp0:Nat→Option Aj) (o:Oper) (gs:Gd) (e:AX) (nv:Nat) (x:E),Bg P c n nx sl hp a sl0 hp0 o gs→Ln P sg sl0 hp0 nv nx gs o=some e→e.bz=some x→Kq a o=true→x.den c.ρ= .sl []
end
theorem u9 {hp:Nat→Option Aj} (l:List (Nat × Aj)) (t:Nat):(A4 hp l t=hp t∧ ∀e,(t,e)∉l)∨ ∃e,(t,e)∈l∧A4 hp l t=some e:=by
 induction l generalizing hp with
 |nil=>exact .inl ⟨rfl,by simp⟩
 |cons p l ih=>
  obtain⟨u,f⟩:=p;rcases ih (hp:=fun v=>if v=u then some f else hp v)with⟨h1,h2⟩|⟨e,h1,h2⟩
  ·by_cases ht:t=u
   ·subst ht;refine .inr ⟨f,by simp, ?_⟩;have:A4 hp ((t,f)::l) t=A4 (fun v=>if v=t then some f else hp v) l t:=rfl;rw [this,h1];simp
   ·refine .inl ⟨?_,fun e he=> ?_⟩
    ·have:A4 hp ((u,f)::l) t=A4 (fun v=>if v=u then some f else hp v) l t:=rfl;rw [this,h1,if_neg ht]
    ·rcases Af.1 he with he|he
     ·cases he;exact ht rfl
     ·exact h2 e he
  ·exact .inr ⟨e,by simp [h1],h2⟩
section
variable {P:Program} {sg:BI} {Rt:Nat→List AV→AV→Prop} {c:Cx} {n nx:Nat} {sl:Nat→SV} {hp:Nat→Option Aj} {a:Act} {ops:Array Oper} {o:Oper} {gs:Gd} {e:AX}
theorem Rel.skip (h:Rel c n sl hp a) (hg: ¬Bb c.ρ gs) {l:List (Nat × Aj)} (hl: ∀t x,(t,x)∈l→nx≤t∧t<nx+By∧ ∃hs y,x= .gd hs y∧Lx gs hs=true) (AS: ∀t,nx≤t→t<nx+By→ ¬c.U t) (s:SV) (d:Option Nat):
  Rel {c with U:=fun t=>c.U t∨(nx≤t∧t<nx+By)} n (Cs n sl d (mkGd gs s)) (A4 hp l) (a.put d undef):=by
 have hs:SR {c with U:=fun t=>c.U t∨(nx≤t∧t<nx+By)} [mkGd gs s] [undef]:=by
  cases gs with
  |nil=>exact absurd (EE _) hg
  |cons g gs=>exact .gd (fun hh=>absurd hh hg) (fun _=>rfl) .nil
 refine Rel.put ?_ hs d;refine h.change (fun t=> ∃x,(t,x)∈l) ⟨rfl,rfl,fun _ _ hb=>hb,fun _ _ _=>rfl,fun _ _ hk=>⟨hk,rfl⟩,fun _ _ _=>⟨Nat.le_refl _,fun _=>⟨rfl,fun _ _ _=>rfl⟩⟩⟩ ⟨h.base.os,h.base.tape,h.base.output,h.base.size,fun t v hp=>⟨.inl (h.base.pins t v hp).1,(h.base.pins t v hp).2⟩,h.base.block,h.base.pk,h.base.lo⟩ (fun t ht=> ?_) (fun _ _ _ _=>rfl) (fun t ht=> ?_) ⟨h.gw.nodup,h.gw.cm,h.gw.allow,h.gw.inb⟩ (fun t g hk=> .inl (h.bu t g hk)) (fun t x hx=> ?_)
 ·exact⟨K9 fun x hx=>ht ⟨x,hx⟩,rfl,rfl,fun g hk=>hk⟩
 ·obtain⟨x,hx⟩:=ht;rcases u9 (hp:=hp) l t with⟨_,h2⟩|⟨x',h1,h2⟩
  ·exact absurd hx (h2 x)
  ·obtain⟨q1,q2,hs,y,rfl,BF⟩:=hl t x' h1;have DB: ∀e',¬Cd c.ρ (A4 hp l t) e':=by
    rw [h2];exact fun e' hr=>hg (YP BF hr.1)
   refine⟨fun e' hr=>absurd hr (DB e'),fun _=>h.off t fun e' hr=> ?_⟩;cases hh:hp t with
   |none=>rw [hh]at hr;exact hr.elim
   |some e9=>exact AS t q1 q2 (h.cq t e9 hh)
 ·rcases u9 (hp:=hp) l t with⟨h1,_⟩|⟨x',h1,_⟩
  ·rw [h1]at hx;exact .inl (h.cq t x hx)
  ·obtain⟨q1,q2,_⟩:=hl t x' h1;exact .inr ⟨q1,q2⟩
def Vk (ρ:List AV) (ops:Array Oper) (o:Oper) (a:Act):Option Gd→Prop
 |none=>Region.wanted o (yielded ops a.tmps)=false
 |some gs=>(Bb ρ gs→Region.wanted o (yielded ops a.tmps)=true)∧(¬Bb ρ gs→Region.wanted o (yielded ops a.tmps)=false)
theorem kJ {σ:St} {r:Option Gd} (hg:OH σ ops o=some r) (hs: ∀j want d,o.guard=some (j,want)→(ops[j]?).bind (·.dst)=some d→SR c [Bt σ d] [a.tmps.getD d undef]):Vk c.ρ ops o a r:=by
 unfold OH at hg;cases GQ:o.guard with
 |none=>rw [GQ]at hg;simp only [Ag]at hg;subst hg;exact⟨fun _=>by simp [Region.wanted,GQ],fun hn=>absurd (EE _) hn⟩
 |some jw=>
  obtain⟨j,want⟩:=jw;rw [GQ]at hg;simp only at hg;cases hd:(ops[j]?).bind (·.dst)with
  |none=>rw [hd]at hg;simp only [Ag]at hg;subst hg;simp [Vk,Region.wanted,GQ,yielded,hd]
  |some d=>
   rw [hd]at hg;simp only at hg;have hr:=hs j want d GQ hd;have hw: ∀v,a.tmps.getD d undef=v→Region.wanted o (yielded ops a.tmps)=(match v with| .bool b=>b==want|_=>false):=by
    intro v hv;simp only [Region.wanted,GQ,yielded,hd,Aa];rw [Array.getD_eq_getD_getElem?]at hv;cases hq:a.tmps[d]? with
    |none=>rw [hq]at hv;simp at hv;subst hv;simp [undef]
    |some u=>rw [hq]at hv;simp at hv;subst hv;cases u<;>simp
   generalize a.tmps.getD d undef=v at hr hw;have hw:=hw v rfl;have KQ:v=undef→Region.wanted o (yielded ops a.tmps)=false:=by rintro rfl;rw [hw];simp [undef]
   have Hy: ∀x f,Rd c.w [v] [x] f→(x= .bool want→Region.wanted o (yielded ops a.tmps)=true)∧(x≠ .bool want→Region.wanted o (yielded ops a.tmps)=false):=by
    intro x f hx;refine⟨fun h=> ?_,fun h=> ?_⟩
    ·rw [hw,Ik hx h];simp
    ·rw [hw];cases v<;>simp only;rename_i b;cases hx with
     |bool _=>simpa using fun hh=>h (by rw [hh])
   split at hg
   ·rename_i b CA;rw [CA]at hr;cases hr with
    |e h1 _ _=>
     simp only [Ag]at hg;subst hg;obtain⟨q1,q2⟩:=Hy _ _ h1;simp only [E.den,AV.bool.injEq]at q1 q2;split
     ·rename_i hb;simp only [beq_iff_eq]at hb;exact⟨fun _=>q1 hb,fun hn=>absurd (EE _) hn⟩
     ·rename_i hb;simp only [beq_iff_eq]at hb;exact q2 (by simpa using hb)
   ·rename_i x _ CA;rw [CA]at hr;cases hr with
    |e h1 _ _=>simp only [Ag]at hg;subst hg;obtain⟨q1,q2⟩:=Hy _ _ h1;exact⟨fun hh=>q1 (hh (x,want) (by simp)),fun hn=>q2 fun hh=>hn (by intro g hg;simp at hg;subst hg;exact hh)⟩
   ·rename_i Ba s CA;rw [CA]at hr;cases hr with
    |gd h1 h2 _=>
     split at hg
     ·rename_i hf;simp only [Ag]at hg;subst hg;refine KQ (h2 fun hk=> ?_);simp only [zD,List.any_eq_true]at hf;obtain⟨g,hg,Z0⟩:=hf;have:=hk g hg;split at Z0
      ·rename_i b hb;rw [hb]at this;simp only [E.den,AV.bool.injEq]at this;simp [this]at Z0
      ·cases Z0
     ·split at hg
      ·rename_i b;simp only [Ag]at hg;subst hg;by_cases hk:Bb c.ρ Ba
       ·have h1:=h1 hk;cases h1 with
        |e h1 _ _=>
         obtain⟨q1,q2⟩:=Hy _ _ h1;simp only [E.den,AV.bool.injEq]at q1 q2;split
         ·rename_i hb;simp only [beq_iff_eq]at hb;exact⟨fun _=>q1 hb,fun hn=>absurd hk hn⟩
         ·rename_i hb;simp only [beq_iff_eq]at hb;exact q2 (by simpa using hb)
       ·split
        ·exact⟨fun hh=>absurd hh hk,fun _=>KQ (h2 hk)⟩
        ·exact KQ (h2 hk)
      ·rename_i x _;simp only [Ag]at hg;subst hg;by_cases hk:Bb c.ρ Ba
       ·have h1:=h1 hk;cases h1 with
        |e h1 _ _=>obtain⟨q1,q2⟩:=Hy _ _ h1;exact⟨fun hh=>q1 (hh (x,want) (by simp)),fun hn=>q2 fun hh=>hn (by intro g hg;rcases Af.1 hg with rfl|hg;exact hh;exact hk g hg)⟩
       ·exact⟨fun hh=>absurd (fun g hg=>hh g (by simp [hg])) hk,fun _=>KQ (h2 hk)⟩
      ·cases hg
   ·cases hg
theorem o5 (AM:N6 P sg Rt) {Q:Exit→Act→World→Prop} {K:Act→World→Prop} {i nv:Nat} (hi:ops[i]?=some o) (As:Rel c n sl hp a) {sl0:Nat→SV} {hp0:Nat→Option Aj} (Ec:Vk c.ρ ops o a (some gs))
  (CA: ∀t,Operand.tmp t∈o.op.operands→sl0 t=sl t) (hhp: ∀t e,hp0 t=some e→hp t=some e) (AS: ∀t,nx≤t→t<nx+By→ ¬c.U t)
  (he:Ln P sg sl0 hp0 nv nx gs o=some e) (Bk:gs≠ []→ ∀t x,(t,x)∈e.bm→nx≤t∧t<nx+By∧ ∃hs y,x= .gd hs y∧Lx gs hs=true)
  (hc:Bb c.ρ gs→ ∀q∈e.ca,q.den c.ρ) (A8: ∀cl,e.call=some cl→ ∃r,c.ρ[nv]?=some r∧(Bb c.ρ gs→Ip Rt cl.fn ((EL.of cl.args).den c.ρ) c.ρ r)) (Cz: ∀x,e.bz=some x→Bb c.ρ gs→c.ρ[nv]?=some (.bool (Kq a o)))
  (hK: ∀a' c',Mg c c' nx→Rel c' n (Cs n sl o.dst (mkGd gs e.val)) (A4 hp e.bm) a'→K a' c'.w):wpOp P ops Q i K a c.w:=by
 unfold wpOp;simp only [hi];by_cases hg:Bb c.ρ gs
 ·rw [if_pos (Ec.1 hg)];exact .inl (AM c n nx sl hp a sl0 hp0 o gs e nv ⟨As,hg,CA,hhp,fun t h1 h2=>AS t h1 (by simp only [By];omega)⟩ (AS _ (by omega) (by simp [By])) he (hc hg) (fun cl AE=>by obtain⟨r,h1,h2⟩:=A8 cl AE;exact⟨r,h1,h2 hg⟩) (fun x hx=>Cz x hx hg) _ _ hK)
 ·rw [if_neg (by rw [Ec.2 hg];simp)];have A9:gs≠ []:=by rintro rfl;exact hg (EE _)
  exact hK _ {c with U:=fun t=>c.U t∨(nx≤t∧t<nx+By)} ⟨rfl,rfl,rfl,rfl,fun t ht=>ht⟩ (As.skip hg (Bk A9) AS e.val o.dst)
end
def Cx.ext (c:Cx) (τ:List AV):Cx:={c with ρ:=c.ρ++τ}
theorem den_app {ρ τ:List AV} {x:E} (h:x.sc ρ.length=true):x.den (ρ++τ)=x.den ρ:=by have:=E.ax ρ τ [] x h;rw [List.append_nil]at this;exact this
theorem zAt {ρ τ:List AV} {x:EL} (h:x.sc ρ.length=true):x.den (ρ++τ)=x.den ρ:=by have:=EL.ax ρ τ [] x h;rw [List.append_nil]at this;exact this
theorem Lb {ρ τ:List AV} {gs:Gd} (h:Tb ρ.length gs=true):Bb (ρ++τ) gs↔Bb ρ gs:=by simp only [Tb,AG]at h;exact⟨fun k g hg=>by rw [←den_app (τ:=τ) (h g hg)];exact k g hg,fun k g hg=>by rw [den_app (h g hg)];exact k g hg⟩
theorem Bn.gy {n:Nat}: ∀{cs:Bn},cs.sc n=true→ ∀s∈cs.toList,s.sc n=true
 | .nil,_,s,h=>by simp [Bn.toList]at h
 | .cons s cs,h,u,hu=>by
  simp only [Bn.sc,Ae]at h;simp only [Bn.toList,Af]at hu;rcases hu with rfl|hu
  ·exact h.1
  ·exact Bn.gy h.2 u hu
section
variable {c:Cx} {n:Nat} {sl:Nat→SV} {hp:Nat→Option Aj} {a:Act} {τ:List AV}
theorem Is.ext {t g:Nat} {p:M3} {v:Value} (hs:(match p with|some q=>q.1.sc c.ρ.length|none=>true)=true) (h:Is c t g p v):Is (c.ext τ) t g p v:=by
 cases p with
 |none=>exact trivial
 |some p=>obtain⟨i,z,o⟩:=p;obtain⟨b,n,cap,C,ty,fz,kk,k,h1,h2,h3,h4,h5⟩:=h;exact⟨b,n,cap,C,ty,fz,kk,k,h1,h2,h3,by show i.den (c.ρ++τ)=_;rw [den_app hs];exact h4,h5⟩
theorem SR.ext {ss:List SV} {vs:List Value} (h:SR c ss vs):(∀s∈ss,s.sc c.ρ.length=true)→SR (c.ext τ) ss vs:=by
 have tl: ∀{s:SV} {ss:List SV},(∀x∈s::ss,x.sc c.ρ.length=true)→ ∀x∈ss,x.sc c.ρ.length=true:=fun h x hx=>h x (by simp [hx]);have hd: ∀{s:SV} {ss:List SV},(∀x∈s::ss,x.sc c.ρ.length=true)→s.sc c.ρ.length=true:=fun h=>h _ (by simp);have hρ:(c.ext τ).ρ=c.ρ++τ:=rfl
 induction h with
 |nil=>exact fun _=> .nil
 |undef _ ih=>exact fun hs=> .undef (ih (tl hs))
 |e h1 h2 _ ih=>exact fun hs=> .e (by rw [hρ,den_app (hd hs)];exact h1) h2 (ih (tl hs))
 |b8 _ ih=>exact fun hs=> .b8 (ih (tl hs))
 |emp _ ih=>exact fun hs=> .emp (ih (tl hs))
 |own h1 h2 _ ih=>exact fun hs=> .own h1 h2 (ih (tl hs))
 |cg h1 h2 _ ih=>exact fun hs=> .cg h1 h2 (ih (tl hs))
 |cr h1 h2 h3 h4 h5 _ ih=>exact fun hs=> .cr h1 h2 (by rw [hρ,den_app (hd hs)];exact h3) h4 h5 (ih (tl hs))
 |df h1 h2 h3 h4 h5 h6 _ ih=>intro hs;have:=hd hs;simp only [SV.sc,Ae]at this;exact .df (by rw [hρ,den_app this.1];exact h1) h2 (by rw [hρ,den_app this.2];exact h3) h4 h5 (by rw [hρ,den_app this.1];exact h6) (ih (tl hs))
 |dd h1 h2 _ ih=>exact fun hs=> .dd (by rw [hρ,den_app (hd hs)];exact h1) h2 (ih (tl hs))
 |agg h9 _ _ ih1 ih2=>exact fun hs=> .agg h9 (ih1 (Bn.gy (hd hs))) (ih2 (tl hs))
 |tup _ _ ih1 ih2=>exact fun hs=> .tup (ih1 (Bn.gy (hd hs))) (ih2 (tl hs))
 |fn _ _ ih1 ih2=>exact fun hs=> .fn (ih1 (Bn.gy (hd hs))) (ih2 (tl hs))
 |gd _ h2 _ ih1 ih2=>intro hs;have:=hd hs;simp only [SV.sc,Ae]at this;exact .gd (fun hg=>ih1 ((Lb this.1).1 hg) (by simpa using this.2)) (fun hg=>h2 fun k=>hg ((Lb this.1).2 k)) (ih2 (tl hs))
 | @via t g n p x v ss vs h1 h2 h3 _ ih=>intro hs;have:=hd hs;simp only [SV.sc,Ae]at this;refine .via h1 h2 (fun he=> ?_) (ih (tl hs));obtain⟨q1,q2⟩:=h3 he;exact⟨by rw [hρ,den_app this.2];exact q1,Is.ext (τ:=τ) this.1 q2⟩
 | @vptr t g n p x i sz o v ss vs h1 h2 h3 _ ih=>intro hs;have:=hd hs;simp only [SV.sc,Ae]at this;refine .vptr h1 h2 (fun he=> ?_) (ih (tl hs));obtain⟨b,off,len,cap,kk,k,q1,q2,q3,q4,q5,q6,q7⟩:=h3 he;exact⟨b,off,len,cap,kk,k,by rw [hρ,den_app this.1.2];exact q1,Is.ext (τ:=τ) this.1.1 q2,by rw [hρ,den_app this.2];exact q3,q4,q5,by rw [hρ,den_app this.1.2];exact q6,q7⟩
 |wown h1 h2 h3 h4 h5 h6 _ ih=>exact fun hs=> .wown h1 h2 (by rw [hρ,den_app (hd hs)];exact h3) h4 h5 h6 (ih (tl hs))
 | @lent i _ _ _ h1 _ ih=>exact fun hs=> .lent (by rw [hρ,den_app (x:= .var i) (by simpa [SV.sc,E.sc]using hd hs)];exact h1) (ih (tl hs))
theorem CX.ext {t:Nat} {e:Aj} (h:CX c t e) (hs:e.sc c.ρ.length=true):CX (c.ext τ) t e:=by
 have hρ:(c.ext τ).ρ=c.ρ++τ:=rfl;cases e with
 |box ty g cs=>obtain⟨b,C,h1,h2,h3,h4,h5,h6,h7⟩:=h;exact⟨b,C,h1,h2,h3,h4,h5,h6,h7.ext (by simpa [Aj.sc]using hs)⟩
 |row ety sz g x d=>obtain⟨h1,h2,N,h3,h4,h5⟩:=h;exact⟨h1,h2,N,by rw [hρ,den_app hs];exact h3,h4,h5⟩
 |bq g x=>obtain⟨h1,⟨f,h2,h3⟩,h4⟩:=h;exact⟨h1,⟨f,by rw [hρ,den_app hs];exact h2,h3⟩,h4⟩
 |gd gs e=>exact h
 |dead=>exact h
 |deep e z l g ep x=>obtain⟨h1,h2,h3,h4,h5⟩:=h;exact⟨h1,h2,h3,by rw [hρ,den_app hs];exact h4,h5⟩
 |hol e z l g ep x i o u=>simp only [Aj.sc,Ae]at hs;obtain⟨h1,h2,h3,h4,h5⟩:=h;exact⟨h1,h2,h3,by rw [hρ,den_app hs.1,den_app hs.2];exact h4,h5⟩
theorem zC2 {ρ:List AV} {e0 e:Aj} (hs:e0.sc ρ.length=true):Cd (ρ++τ) (some e0) e↔Cd ρ (some e0) e:=by
 cases e0 with
 |gd gs x=>simp only [Aj.sc,Ae]at hs;simp only [Cd];rw [Lb hs.1]
 |_=>simp [Cd]
theorem Rel.ext (h:Rel c n sl hp a) (h1: ∀i,(sl i).sc c.ρ.length=true) (h2: ∀t e,hp t=some e→e.sc c.ρ.length=true) (τ:List AV):Rel (c.ext τ) n sl hp a:=by
 have key: ∀t e,Cd (c.ρ++τ) (hp t) e↔Cd c.ρ (hp t) e:=by
  intro t e;cases hh:hp t with
  |none=>exact Iff.rfl
  |some e0=>exact zC2 (h2 t e0 hh)
 refine⟨h.defers,h.size,⟨h.base.os,h.base.tape,h.base.output,h.base.size,h.base.pins,h.base.block,h.base.pk,h.base.lo⟩,fun i=>(h.cx i).ext (by simpa using h1 i),fun t e hr=> ?_,fun t hn=>h.off t fun e hr=>hn e ((key t e).2 hr),⟨h.gw.nodup,h.gw.cm,h.gw.allow,h.gw.inb⟩,h.bu,h.cq⟩;have Da:=(key t e).1 hr;have he:=h.ents t e Da;cases hh:hp t with
 |none=>rw [hh]at Da;exact Da.elim
 |some e0=>
  have EU:=h2 t e0 hh;rw [hh]at Da;cases e0 with
  |gd gs x=>
   obtain⟨_,rfl⟩:=Da;simp only [Aj.sc,Ae]at EU;cases x with
   |gd=>exact he
   |dead=>exact he
   |box=>exact he.ext (by simpa [Aj.sc]using EU.2)
   |row=>exact he.ext (by simpa [Aj.sc]using EU.2)
   |bq=>exact he.ext (by simpa [Aj.sc]using EU.2)
   |deep=>exact he.ext (by simpa [Aj.sc]using EU.2)
   |hol=>exact he.ext (by simpa [Aj.sc]using EU.2)
  |_=>simp only [Cd]at Da;subst Da;exact he.ext EU
theorem St.l7 {σ:St} (h:σ.sc=true) (i:Nat):(Bt σ i).sc σ.nv=true:=by
 simp only [St.sc,Ae,AG]at h;unfold Bt;cases hi:σ.sl[i]? with
 |none=>simp [SV.sc]
 |some s=>exact h.1 s (List.mem_of_getElem? hi)
theorem St.lq {σ:St} (h:σ.sc=true) (t:Nat) (e:Aj) (he:AF σ.hp t=some e):e.sc σ.nv=true:=by simp only [St.sc,Ae,AG]at h;exact h.2 _ (IE he)
theorem Cn.j8 {ρ τ:List AV} {q:Cn} (h:q.sc ρ.length=true):q.den (ρ++τ)↔q.den ρ:=by
 cases q<;>simp only [Cn.sc,Ae]at h<;>simp only [Cn.den]
 case dfd=>rw [den_app h]
 case agg=>rw [den_app h]
 case cells=>rw [den_app h]
 case inb=>rw [den_app h.1,den_app h.2]
 case inbS=>rw [den_app h.1,den_app h.2]
 case win=>rw [den_app h.1.1,den_app h.1.2,den_app h.2]
 case winS=>rw [den_app h.1.1,den_app h.1.2,den_app h.2]
 case room=>rw [den_app h.1,den_app h.2]
 case roomS=>rw [den_app h.1,den_app h.2]
 case mkroom=>rw [den_app h]
 case nz=>rw [den_app h]
 case nn=>rw [den_app h]
 case isref=>rw [den_app h]
 case issl=>rw [den_app h]
 case flat=>rw [den_app h]
 case flatS=>rw [den_app h]
 case kinds=>rw [den_app h]
theorem mL:SR c [gone] [Go.undef]:= .gd (fun hg=>by have:=hg (.bool false,true) (by simp);simp [E.den]at this) (fun _=>rfl) .nil
theorem wA {ρ:List AV} {x:E} {b:Bool} {hs:Gd} (hx:x.den ρ= .bool b) (h:O0 (x, !b) hs=true): ¬Bb ρ hs:=by intro k;have:=x7 h k;simp only at this;rw [hx]at this;simp at this
theorem iO {ρ:List AV} {x:E} {b:Bool} {hs:Gd} (hx:x.den ρ= .bool b):Bb ρ (hs.filter fun h=> !(h.1.beq x&&h.2==b))↔Bb ρ hs:=by
 refine⟨fun k g hg=> ?_,fun k g hg=>k g (List.mem_filter.1 hg).1⟩;by_cases hh:(g.1.beq x&&g.2==b)=true
 ·simp only [Ae,beq_iff_eq]at hh;rw [E.aq ρ _ _ hh.1,hx,hh.2]
 ·exact k g (List.mem_filter.2 ⟨hg,by rw [Bool.not_eq_true]at hh;rw [hh];rfl⟩)
theorem SR.kj {s:SV} {v:Value} {gs:Gd} (h1:Bb c.ρ gs→SR c [s] [v]) (h2: ¬Bb c.ρ gs→v=Go.undef):SR c [Go.Proofs.YtlhlgboblghkdaaGreatDoor.mkGd gs s] [v]:=by
 cases gs with
 |nil=>exact h1 (EE _)
 |cons g gs=>exact .gd h1 h2 .nil
theorem SR.gq {x:E} {b:Bool} (hx:x.den c.ρ= .bool b) {s:SV} {v:Value} (h:SR c [s] [v]):SR c [assumeS x b s] [v]:=by
 cases s with
 |gd hs s=>
  simp only [Go.Proofs.YtlhlgboblghkdaaGreatDoor.assumeS];cases h with
  |gd h1 h2 _=>
   split
   ·rename_i hm;rw [h2 (wA hx hm)];exact mL
   ·exact SR.kj (fun k=>h1 ((iO hx).1 k)) (fun k=>h2 fun k'=>k ((iO hx).2 k'))
 |_=>exact h
theorem zAh (f:Aj→Aj) (l:List (Nat × Aj)) (t:Nat):AF (l.map fun(t,e)=>(t,f e)) t=(AF l t).map f:=by
 induction l with
 |nil=>rfl
 |cons p l ih=>
  obtain⟨u,e⟩:=p;simp only [List.map_cons,AF];split
  ·rfl
  ·exact ih
theorem Rel.gq {x:E} {b:Bool} (hx:x.den c.ρ= .bool b) (h:Rel c n sl hp a):Rel c n (fun i=>assumeS x b (sl i)) (fun t=>(hp t).map (assumeE x b)) a:=by
 have LR: ∀t,(∀e,Cd c.ρ (hp t) e→ ∃gs y,e= .gd gs y∨e= .dead)→(c.G t).top= []∧(c.G t).O= []:=by
  intro t ht;by_cases hh: ∃e,Cd c.ρ (hp t) e
  ·obtain⟨e,he⟩:=hh;obtain⟨gs,y,rfl|rfl⟩:=ht e he
   ·exact h.ents t _ he
   ·exact h.ents t _ he
  ·exact h.off t fun e he=>hh ⟨e,he⟩
 have cases': ∀t,((∀e,Cd c.ρ ((hp t).map (assumeE x b)) e↔Cd c.ρ (hp t) e))∨((hp t).map (assumeE x b)=some .dead∧(c.G t).top= []∧(c.G t).O= []):=by
  intro t;cases hh:hp t with
  |none=>exact .inl fun e=>Iff.rfl
  |some e0=>
   cases e0 with
   |gd hs y=>
    by_cases hm:O0 (x, !b) hs=true
    ·refine .inr ⟨by simp [Go.Proofs.YtlhlgboblghkdaaGreatDoor.assumeE,hm],LR t fun e he=> ?_⟩;rw [hh]at he;exact absurd he.1 (wA hx hm)
    ·by_cases hy: ∃gs z,y= .gd gs z
     ·obtain⟨gs,z,rfl⟩:=hy;refine .inr ⟨by simp [Go.Proofs.YtlhlgboblghkdaaGreatDoor.assumeE,hm],LR t fun e he=> ?_⟩;rw [hh]at he;exact⟨gs,z, .inl he.2.symm⟩
     ·refine .inl fun e=> ?_;have he:assumeE x b (.gd hs y)=CC (hs.filter fun h=> !(h.1.beq x&&h.2==b)) y:=by
       simp only [Go.Proofs.YtlhlgboblghkdaaGreatDoor.assumeE,hm,AY,if_false];cases y<;>first|rfl|exact absurd ⟨_,_,rfl⟩ hy
      simp only [Option.map_some,he];show _↔Bb c.ρ hs∧y=e;rw [←iO hx];generalize (hs.filter fun h=> !(h.1.beq x&&h.2==b))=fs;cases fs with
      |nil=>simp only [CC,EE,true_and];cases y<;>first|exact absurd ⟨_,_,rfl⟩ hy|exact Iff.rfl
      |cons g fs=>exact Iff.rfl
   |_=>exact .inl fun e=>Iff.rfl
 refine⟨h.defers,h.size,h.base,fun i=>(h.cx i).gq hx,fun t e hr=> ?_,fun t hn=> ?_,h.gw,h.bu,fun t e he=> ?_⟩
 ·rcases cases' t with hc|⟨hc,h1,h2⟩
  ·exact h.ents t e ((hc e).1 hr)
  ·rw [hc]at hr;have:Aj.dead=e:=hr;subst this;exact⟨h1,h2⟩
 ·rcases cases' t with hc|⟨hc,h1,h2⟩
  ·exact h.off t fun e he=>hn e ((hc e).2 he)
  ·exact⟨h1,h2⟩
 ·cases hh:hp t with
  |none=>rw [hh]at he;cases he
  |some e0=>exact h.cq t e0 hh
end
theorem jL {σ:St} {d:Option Nat} {s:SV}:Bt (HK σ d s)=Cs σ.sl.length (Bt σ) d s:=by
 funext i;cases d with
 |none=>simp [HK,Cs]
 |some d=>
  simp only [HK,Bt,Cs,Ag,List.getElem?_set];by_cases h:d=i
  ·subst h;by_cases h2:d<σ.sl.length
   ·simp [h2]
   ·simp [h2,List.getElem?_eq_none (Nat.le_of_not_lt h2)]
  ·simp [h]
theorem iA {σ:St} {d:Option Nat} {s:SV}:(HK σ d s).sl.length=σ.sl.length:=by cases d<;>simp [HK]
theorem jF {σ:St} {d:Option Nat} {s:SV}:(HK σ d s).hp=σ.hp:=by cases d<;>rfl
theorem iU {σ:St} {d:Option Nat} {s:SV}:(HK σ d s).nv=σ.nv:=by cases d<;>rfl
theorem zzj (l:List (Nat × Aj)) (t:Nat) (e:Aj) (u:Nat):AF (Lv l t e) u=if u=t then some e else AF l u:=by
 induction l with
 |nil=>
  simp only [Lv,AF];by_cases h:t=u
  ·simp [h]
  ·rw [if_neg h,if_neg (Ne.symm h)]
 |cons p l ih=>
  obtain⟨v,f⟩:=p;simp only [Lv];split
  ·rename_i hv;subst hv;simp only [AF];by_cases h:v=u
   ·simp [h]
   ·rw [if_neg h,if_neg (Ne.symm h),if_neg h]
  ·rename_i hv;simp only [AF];by_cases h:v=u
   ·subst h;rw [if_pos rfl,if_neg hv,if_pos rfl]
   ·rw [if_neg h,ih,if_neg h]
theorem u5: ∀(ents:List (Nat × Aj)) (l:List (Nat × Aj)),AF (ents.foldl (fun l (p:Nat × Aj)=>Lv l p.1 p.2) l)=A4 (AF l) ents
 | [],l=>rfl
 |(t,e)::ents,l=>by
  simp only [List.foldl_cons];rw [u5 ents];have:AF (Lv l t e)=fun u=>if u=t then some e else AF l u:=by funext u;exact zzj l t e u
  rw [this];rfl
section
variable {P:Program} {sg:BI} {Rt:Nat→List AV→AV→Prop} {ops:Array Oper}
theorem xG {σ:St} {gs:Gd} {o:Oper} {e:AX}:Bt (K8 σ gs o e)=Cs σ.sl.length (Bt σ) o.dst (mkGd gs e.val):=by rw [←jL];rfl
theorem xM {σ:St} {gs:Gd} {o:Oper} {e:AX}:AF (K8 σ gs o e).hp=A4 (AF σ.hp) e.bm:=by
 have:(K8 σ gs o e).hp=e.bm.foldl (fun l (p:Nat × Aj)=>Lv l p.1 p.2) σ.hp:=by show e.bm.foldl (fun l (p:Nat × Aj)=>Lv l p.1 p.2) (HK σ o.dst (mkGd gs e.val)).hp=_;rw [jF]
 rw [this,u5]
theorem wH {σ:St} {gs:Gd} {o:Oper} {e:AX}:(K8 σ gs o e).sl.length=σ.sl.length:=by show(HK σ o.dst (mkGd gs e.val)).sl.length=_;rw [iA]
theorem lN {σ:St} {gs:Gd} {o:Oper} {e:AX}:(K8 σ gs o e).nv=if e.call.isSome||e.bz.isSome then σ.nv+1 else σ.nv:=by show(if e.call.isSome||e.bz.isSome then(HK σ o.dst (mkGd gs e.val)).nv+1 else(HK σ o.dst (mkGd gs e.val)).nv)=_;rw [iU]
theorem lT {R:AV→Prop} {gs:Gd} {k:Tr} {L:LK} {js:List JK} {ρ:List AV}: ∀{cs:List Cn},(cs.foldr (fun c k=> .ca gs c k) k:Tr).den Rt R L js ρ→(Bb ρ gs→ ∀q∈cs,q.den ρ)∧k.den Rt R L js ρ
 | [],h=>⟨by simp,h⟩
 |c::cs,h=>by
  obtain⟨h1,h2⟩:=h;obtain⟨h3,h4⟩:=lT h2;refine⟨fun hg q hq=> ?_,h4⟩;rcases Af.1 hq with rfl|hq
  ·exact h1 hg
  ·exact h3 hg q hq
theorem x5 {l:List (Nat × Aj)} {R:List Nat} {t:Nat} {e:Aj} (h:Pv l R t=some e):AF l t=some e:=by
 unfold Pv at h;split at h
 ·exact h
 ·cases h
theorem uY {f:Nat ⊕ E} {as_:EL} {ρ τ:List AV} {r:AV} (h1:(match f with| .inl _=>true| .inr x=>x.sc ρ.length)=true) (h2:as_.sc ρ.length=true):Ip Rt f (as_.den (ρ++τ)) (ρ++τ) r↔Ip Rt f (as_.den ρ) ρ r:=by
 rw [zAt h2];cases f with
 |inl f=>exact Iff.rfl
 |inr x=>simp only [Ip];rw [den_app h1]
theorem EL.kp {n:Nat}: ∀{l:List E},l.all (E.sc n)=true→(EL.of l).sc n=true
 | [],_=>rfl
 |x::l,h=>by simp only [List.all_cons,Ae]at h;simp only [EL.of,EL.sc,Ae];exact⟨h.1,EL.kp h.2⟩
structure IW (F:Fix) (c:Cx) (σ:St) (a:Act) (n m:Nat):Prop where
 w0:c.w0=F.w0
 A:c.A=F.A
 Mu:c.Mu=F.Mu
 nv:c.ρ.length=σ.nv
 len:σ.sl.length=n
 U: ∀t,c.U t→t<m
 rel:Rel c n (Bt σ) (AF σ.hp) a
theorem IW.ext {F:Fix} {c:Cx} {σ:St} {a:Act} {n m:Nat} (h:IW F c σ a n m) (hs:σ.sc=true) (τ:List AV):Rel (c.ext τ) n (Bt σ) (AF σ.hp) a:=
 h.rel.ext (fun i=>by rw [h.nv];exact St.l7 hs i) (fun t e he=>by rw [h.nv];exact St.lq hs t e he) τ
theorem zFh (AM:N6 P sg Rt) (FU:Va P sg) {F:Fix} {c:Cx} {σ:St} {a:Act} {n i base:Nat} {o:Oper} {gs:Gd} {e:AX} {k:Tr} {R:AV→Prop} {L:LK} {js:List JK} {Q:Exit→Act→World→Prop} {K:Act→World→Prop}
  (hi:ops[i]?=some o) (hm:IW F c σ a n (base+By*i)) (Ec:Vk c.ρ ops o a (some gs)) {Rs:List Nat} (he:Ln P sg (Bt σ) (Pv σ.hp Rs) σ.nv (base+By*i) gs o=some e) (EU:Rw σ.nv (base+By*i) σ.hp gs e=true)
  (SG:(e.call.isSome||e.bz.isSome)=true→σ.sc=true) (hd:(Y7 gs e k).den Rt R L js c.ρ)
  (hK: ∀(c':Cx) (a':Act),c.ρ<+:c'.ρ→IW F c' (K8 σ gs o e) a' n (base+By*(i+1))→k.den Rt R L js c'.ρ→K a' c'.w):wpOp P ops Q i K a c.w:=by
 simp only [Rw,Ae,AG]at EU;obtain⟨⟨⟨⟨Bz,AW⟩,ET⟩,oI⟩,bJ⟩:=EU;have Bk:gs≠ []→ ∀t x,(t,x)∈e.bm→base+By*i≤t∧t<base+By*i+By∧ ∃hs y,x= .gd hs y∧Lx gs hs=true:=by
  intro A9 t x hx;have:=bJ _ hx;have R9:gs.isEmpty=false:=by cases gs;exact absurd rfl A9;rfl
  simp only [R9,Bool.false_or,Bool.false_and,Bool.or_false,Ae,decide_eq_true_eq]at this;refine⟨this.1.1,this.1.2, ?_⟩;have h3:=this.2;split at h3
  ·exact⟨_,_,rfl,h3⟩
  ·cases h3
 have AS: ∀t,base+By*i≤t→t<base+By*i+By→ ¬c.U t:=fun t h1 _ h3=>by have:=hm.U t h3;omega
 have F0: ∀(τ:List AV),Rel (c.ext τ) n (Bt σ) (AF σ.hp) a→τ.length=(if e.call.isSome||e.bz.isSome then 1 else 0)→k.den Rt R L js (c.ρ++τ)→(Bb c.ρ gs→ ∀q∈e.ca,q.den c.ρ)→
   (∀cl,e.call=some cl→ ∃r,τ= [r]∧(Bb c.ρ gs→Ip Rt cl.fn ((EL.of cl.args).den c.ρ) c.ρ r))→(∀x,e.bz=some x→τ= [.bool (Kq a o)])→wpOp P ops Q i K a c.w:=by
  intro τ As hτ hk hc A8 Cz;have FW:σ.nv=c.ρ.length:=hm.nv.symm;rw [FW]at Bz AW ET;have Sg: ∀r,τ= [r]→(c.ρ++τ)[σ.nv]?=some r:=by rintro r rfl;rw [FW];simp
  refine o5 (c:=c.ext τ) AM hi As ⟨fun hg=>Ec.1 ((Lb Bz).1 hg),fun hg=>Ec.2 fun k=>hg ((Lb Bz).2 k)⟩ (fun _ _=>rfl) (fun t e h=>x5 h) AS he Bk (fun hg q hq=> ?_) (fun cl AE=> ?_) (fun x hx _=>Sg _ (Cz x hx)) (fun a' c' A3 hr=> ?_)
  ·exact(Cn.j8 (AW q hq)).2 (hc ((Lb Bz).1 hg) q hq)
  ·obtain⟨r,rfl,h2⟩:=A8 cl AE;rw [AE]at ET;simp only [Ae]at ET;exact⟨r,Sg r rfl,fun hg=>(uY ET.1 (EL.kp ET.2)).2 (h2 ((Lb Bz).1 hg))⟩
  ·have hρ:c'.ρ=c.ρ++τ:=A3.ρ;refine hK c' a' ⟨τ,hρ.symm⟩ ⟨A3.w0.trans hm.w0,A3.A.trans hm.A,A3.Mu.trans hm.Mu, ?_,by rw [wH];exact hm.len,fun t ht=> ?_, ?_⟩ (by rw [hρ];exact hk)
   ·rw [hρ,lN,Ao,hτ,FW];split<;>rfl
   ·have hmul:base+By*(i+1)=base+By*i+By:=by rw [Nat.mul_add];omega
    rw [hmul];rcases A3.U t ht with h|h
    ·have:=hm.U t h;omega
    ·exact h.2
   ·rw [xG,xM,hm.len];exact hr
 unfold Y7 at hd;obtain⟨hc,hd⟩:=lT hd;cases AE:e.call with
 |none=>
  simp only [AE]at hd;cases Cz:e.bz with
  |none=>simp only [Cz]at hd;refine F0 [] (by have:=hm.rel;simpa [Cx.ext]using this) (by simp [AE,Cz]) (by simpa using hd) hc (fun cl h=>by rw [AE]at h;cases h) (fun x h=>by rw [Cz]at h;cases h)
  |some x=>simp only [Cz]at hd;have FZ:=SG (by simp [Cz]);refine F0 [.bool (Kq a o)] (hm.ext FZ _) (by simp [Cz]) (hd _ fun hg hb=> ?_) hc (fun cl h=>by rw [AE]at h;cases h) (fun x h=>rfl);exact FU c n _ _ _ a _ _ o gs e _ x ⟨hm.rel,hg,fun _ _=>rfl,fun t e h=>x5 h,fun t h1 h2=>AS t h1 (Nat.lt_of_lt_of_le h2 (Nat.add_le_add_left (by decide) _))⟩ he Cz hb
 |some cl=>
  simp only [AE]at hd;cases Cz:e.bz with
  |some x=>rw [Cz]at oI;simp [AE]at oI
  |none=>simp only [Cz]at hd;obtain⟨r,h1,h2⟩:=hd;have FZ:=SG (by simp [AE]);refine F0 [r] (hm.ext FZ _) (by simp [AE]) h2 hc (fun cl' h=>by rw [AE]at h;cases h;exact⟨r,rfl,h1⟩) (fun x h=>by rw [Cz]at h;cases h)
theorem zzl {σ:St} {x:E} {b:Bool} {d:Nat}:Bt (assume x b d σ)=Cs σ.sl.length (fun i=>assumeS x b (Bt σ i)) (some d) (.e (.bool b)):=by
 funext i;simp only [assume,Bt,Cs,Ag,List.getElem?_set,List.length_map,List.getElem?_map];by_cases h:d=i
 ·subst h;by_cases h2:d<σ.sl.length
  ·simp [h2]
  ·simp [h2,List.getElem?_eq_none (Nat.le_of_not_lt h2),assumeS]
 ·simp only [h,false_and,if_false];cases hh:σ.sl[i]?<;>simp [assumeS]
theorem zzb {σ:St} {x:E} {b:Bool} {d:Nat}:AF (assume x b d σ).hp=fun t=>(AF σ.hp t).map (assumeE x b):=by funext t;exact zAh _ _ _
theorem IW.assume {F:Fix} {c:Cx} {σ:St} {a:Act} {n m:Nat} (h:IW F c σ a n m) {x:E} {b:Bool} (hx:x.den c.ρ= .bool b) {d:Nat} (hd:Bt σ d= .e x):IW F c (Go.Proofs.YtlhlgboblghkdaaGreatDoor.assume x b d σ) a n m:=by
 refine⟨h.w0,h.A,h.Mu,h.nv, ?_,h.U, ?_⟩
 ·simp only [Go.Proofs.YtlhlgboblghkdaaGreatDoor.assume,List.length_set,List.length_map];exact h.len
 ·rw [zzl,zzb];have hr:=h.rel.gq hx;refine{hr with cx:=fun i=> ?_};unfold Cs;split
  ·rename_i hi;obtain⟨hi,_⟩:=hi;cases hi;have:=h.rel.cx d;rw [hd]at this;generalize a.tmps.getD d Go.undef=v at this;cases this with
   |e h1 h2 _=>exact .e (f:= []) (by rw [hx]at h1;rw [Ik h1 rfl];exact .bool .nil) (by simp) .nil
  ·exact hr.cx i
theorem zzh (AM:N6 P sg Rt) (FU:Va P sg) {F:Fix} {base:Nat} {R:AV→Prop} {L:LK} {js:List JK} {Q:Exit→Act→World→Prop} {n:Nat} {next:List Log→St→Option Tr} {i:Nat} {o:Oper} {lg:List Log} {rest:List Nat} (hi:ops[i]?=some o)
  (Cf: ∀(lg:List Log) (σ:St) (t:Tr),next lg σ=some t→ ∀(c:Cx) (a:Act),IW F c σ a n (base+By*(i+1))→t.den Rt R L js c.ρ→(∀(c':Cx) (a':Act) (σ':St),c.ρ<+:c'.ρ→L js .normal σ' c'.ρ→GB F c'.ρ σ' a' c'.w→Q .normal a' c'.w)→wpOps P ops Q rest a c.w):
  ∀(m:Nat) (σ:St) (t:Tr),S4 P sg ops false base next i o lg m σ=some t→
  ∀(c:Cx) (a:Act),IW F c σ a n (base+By*i)→t.den Rt R L js c.ρ→(∀(c':Cx) (a':Act) (σ':St),c.ρ<+:c'.ρ→L js .normal σ' c'.ρ→GB F c'.ρ σ' a' c'.w→Q .normal a' c'.w)→wpOps P ops Q (i::rest) a c.w:=by
 have Nz:base+By*i≤base+By*(i+1):=by rw [Nat.mul_add];omega
 have try_: ∀(fail:Unit→Option Tr) (σ:St) (t:Tr),S3 P sg ops false base next i o lg fail σ=some t→ ∀(c:Cx) (a:Act),IW F c σ a n (base+By*i)→t.den Rt R L js c.ρ→(∀(c':Cx) (a':Act) (σ':St),c.ρ<+:c'.ρ→L js .normal σ' c'.ρ→GB F c'.ρ σ' a' c'.w→Q .normal a' c'.w)→
   (fail ()=some t→wpOps P ops Q (i::rest) a c.w)→wpOps P ops Q (i::rest) a c.w:=by
  intro fail σ t ht c a hm hd hq Sd;unfold S3 at ht;cases GQ:OH σ ops o with
  |none=>rw [GQ]at ht;cases ht
  |some r=>
   have Ec:=kJ (c:=c) (a:=a) GQ (fun j want d _ _=>hm.rel.cx d);rw [GQ]at ht;cases r with
   |none=>simp only at ht;rw [wpOps_cons];unfold wpOp;simp only [hi];rw [if_neg (by simp [show Region.wanted o (yielded ops a.tmps)=false from Ec])];refine Cf lg _ t ht c _ ⟨hm.w0,hm.A,hm.Mu,by rw [iU];exact hm.nv,by rw [iA];exact hm.len,fun t ht=>Nat.lt_of_lt_of_le (hm.U t ht) Nz, ?_⟩ hd hq;rw [jL,jF,hm.len];exact hm.rel.put mL o.dst
   |some gs=>
    simp only at ht;split at ht
    ·rename_i e he;split at ht
     ·cases ht
     ·rename_i AH;split at ht
      ·cases ht
      ·rename_i k hk;simp only [Ag]at ht;subst ht;simp only [Bool.false_and,Bool.false_or,Bool.not_false,Bool.true_and,Bool.or_eq_true,Bool.not_eq_true',Ae,not_or,Bool.not_eq_false]at AH;rw [wpOps_cons];refine zFh AM FU hi hm Ec he AH.1 (fun hh=> ?_) hd fun c' a' hp FO BM=>Cf _ _ k hk c' a' FO BM fun c'' a'' σ' hp'=>hq c'' a'' σ' (hp.trans hp');have:=AH.2;simp only [Bool.or_eq_true]at hh;simpa [hh]using this
    ·exact Sd ht
 intro m
 induction m with
 |zero=>exact fun σ t ht c a hm hd hq=>try_ _ σ t ht c a hm hd hq fun h=>by cases h
 |succ m ih=>
  intro σ t ht c a hm hd hq;refine try_ _ σ t ht c a hm hd hq fun h=> ?_;split at h
  ·rename_i d _ _;split at h
   ·rename_i x Pc;split at h
    ·rename_i k1 k0 Iz Pf;simp only [Ag]at h;subst h;obtain⟨tt,h1,h2,h3⟩:=hd;cases tt with
     |true=>exact ih _ k1 Iz c a (hm.assume h1 Pc) (h2 rfl) hq
     |false=>exact ih _ k0 Pf c a (hm.assume h1 Pc) (h3 rfl) hq
    ·cases h
   ·cases h
  ·cases h
theorem oW (AM:N6 P sg Rt) (FU:Va P sg) {F:Fix} {base:Nat} {R:AV→Prop} {L:LK} {js:List JK} {Q:Exit→Act→World→Prop} {n:Nat}: ∀(len i:Nat) (lg:List Log) (σ:St) (t:Tr),i+len=ops.size→Lt P sg ops false base (List.range' i len) lg σ=some t→
  ∀(c:Cx) (a:Act),IW F c σ a n (base+By*i)→t.den Rt R L js c.ρ→(∀(c':Cx) (a':Act) (σ':St),c.ρ<+:c'.ρ→L js .normal σ' c'.ρ→GB F c'.ρ σ' a' c'.w→Q .normal a' c'.w)→wpOps P ops Q (List.range' i len) a c.w
 |0,i,lg,σ,t,hl,ht,c,a,hm,hd,hq=>by
  simp only [List.range'_zero,Lt,Bool.false_and,AY,if_false,Ag]at ht ⊢;subst ht;refine hq c a _ (List.prefix_refl _) hd ⟨c,rfl,rfl,hm.w0,hm.A,hm.Mu,hm.nv,fun t ht=> ?_, ?_⟩
  ·have:=hm.U t ht;have h9:i=ops.size:=by omega
   subst h9;exact this
  ·have:=hm.rel;rw [←hm.len]at this;exact this
 |len+1,i,lg,σ,t,hl,ht,c,a,hm,hd,hq=>by
  rw [List.range'_succ]at ht ⊢;unfold Lt at ht;obtain⟨o,hi⟩: ∃o,ops[i]?=some o:=⟨ops[i]'(by omega),by simp [show i<ops.size by omega]⟩
  rw [hi]at ht;simp only at ht;exact zzh AM FU hi (fun lg σ t ht c a=>oW AM FU (n:=n) len (i+1) lg σ t (by omega) ht c a) 4 σ t ht c a hm hd hq
end
def dA (l:List Oper) (bs:List Nat):Prop:=bs.length=l.length∧ ∀(j:Nat) (o:Oper),l[j]?=some o→ ∀i,((bs[j]?).getD 0).testBit i=true→ ∃e∈o.after.toList,Region.binds .any e=true∧(i=e.on∨(e.on<j∧((bs[e.on]?).getD 0).testBit i=true))
theorem tU (acc:List Nat) (i:Nat): ∀(es:List Edge) (s:Nat),(es.foldl (fun s e=>if Region.binds .any e then s|||2^e.on|||(acc[e.on]?).getD 0 else s) s).testBit i=true→
  s.testBit i=true∨ ∃e∈es,Region.binds .any e=true∧(i=e.on∨((acc[e.on]?).getD 0).testBit i=true)
 | [],s,h=> .inl h
 |e::es,s,h=>by
  simp only [List.foldl_cons]at h;rcases tU acc i es _ h with h|⟨e',h1,h2⟩
  ·split at h
   ·rename_i hb;simp only [Nat.testBit_or,Nat.testBit_two_pow,Bool.or_eq_true,decide_eq_true_eq]at h;rcases h with(h|h)|h
    ·exact .inl h
    ·exact .inr ⟨e,by simp,hb, .inl h.symm⟩
    ·exact .inr ⟨e,by simp,hb, .inr h⟩
   ·exact .inl h
  ·exact .inr ⟨e',by simp [h1],h2⟩
theorem vX: ∀(os pre:List Oper) (acc:List Nat),dA pre acc→dA (pre++os) (J5 os acc)
 | [],pre,acc,h=>by simpa [J5]using h
 |o::os,pre,acc,h=>by
  obtain⟨hl,hb⟩:=h;have:=vX os (pre++ [o]) (acc++ [mE acc o]) ⟨by simp [hl],fun j o' ho i hi=> ?_⟩
  ·simpa [J5]using this
  ·have Aq: ∀k,k<acc.length→((acc++ [mE acc o])[k]?).getD 0=(acc[k]?).getD 0:=fun k hk=>by rw [List.getElem?_append_left hk]
   by_cases hj:j<pre.length
   ·rw [List.getElem?_append_left hj]at ho;rw [Aq j (by omega)]at hi;obtain⟨e,h1,h2,h3⟩:=hb j o' ho i hi;exact⟨e,h1,h2,h3.imp id fun h=>⟨h.1,by rw [Aq _ (by omega)];exact h.2⟩⟩
   ·rw [List.getElem?_append_right (by omega)]at ho;have hj0:j-pre.length=0:=by
     cases hh:j-pre.length with
     |zero=>rfl
     |succ k=>rw [hh]at ho;simp at ho
    rw [hj0]at ho;simp at ho;subst ho;have Pe:j=acc.length:=by omega
    rw [Pe,List.getElem?_append_right (Nat.le_refl _)]at hi;simp only [Nat.sub_self,List.getElem?_cons_zero,Option.getD_some]at hi;rcases tU acc i _ 0 hi with h|⟨e,h1,h2,h3⟩
    ·simp at h
    ·refine⟨e,h1,h2,h3.imp id fun h=> ?_⟩;have he:e.on<acc.length:=by
      rcases Nat.lt_or_ge e.on acc.length with hh|hh
      ·exact hh
      ·rw [List.getElem?_eq_none hh]at h;simp at h
     exact⟨by omega,by rw [Aq _ he];exact h⟩
def U7 (ops:Array Oper) (S:Nat→Bool):Prop:= ∀k o,S k=true→ops[k]?=some o→ ∀e∈o.after.toList,Region.binds .any e=true→S e.on=true
theorem qX (ops:Array Oper):dA ops.toList (J5 ops.toList []):=by have:=vX ops.toList [] [] ⟨rfl,by simp⟩;simpa using this
theorem vT {ops:Array Oper} {S:Nat→Bool} (hS:U7 ops S): ∀(k i:Nat),S k=true→k<ops.size→(((J5 ops.toList [])[k]?).getD 0).testBit i=true→S i=true:=by
 intro k
 induction k using Nat.strongRecOn with
 |_ k ih=>
  intro i hk Aq hb;have ho:ops.toList[k]?=some ops[k]:=by simp [Aq]
  obtain⟨e,h1,h2,h3⟩:=(qX ops).2 k _ ho i hb;have Jf:=hS k ops[k] hk (by simp [Aq]) e h1 h2;rcases h3 with rfl|⟨h3,h4⟩
  ·exact Jf
  ·exact ih e.on h3 i Jf (by omega) h4
theorem zAA {ops:Array Oper} {S:Nat→Bool} (hS:U7 ops S) {j i:Nat} {o:Oper} (ho:ops[j]?=some o) (hr: ∀e∈o.after.toList,Region.binds .any e=true→S e.on=true) (hb:(((J5 ops.toList [])[j]?).getD 0).testBit i=true):S i=true:=by
 have Aq:j<ops.size:=(Array.getElem?_eq_some_iff.1 ho).1;obtain⟨e,h1,h2,h3⟩:=(qX ops).2 j o (by simpa using ho) i hb;have Jf:=hr e h1 h2;rcases h3 with rfl|⟨h3,h4⟩
 ·exact Jf
 ·exact vT hS e.on i Jf (by omega) h4
theorem zzq {ops:Array Oper} {S:Nat→Bool} (hS:U7 ops S) {j i:Nat} {o:Oper} (ho:ops[j]?=some o) (hi:i<ops.size) (hj:S j=false) (hr: ∀e∈o.after.toList,Region.binds .any e=true→S e.on=true) (A9:i≠j) (KM:Js (J5 ops.toList []) i j=true):S i=decide (i<j):=by
 unfold Js at KM;split at KM
 ·rename_i h;rw [zAA hS ho hr KM];simp [h]
 ·rename_i h;cases hs:S i with
  |false=>simp [h]
  |true=>have:=vT hS i j hs hi KM;rw [hj]at this;cases this
structure Rec where
 i:Nat
 o:Oper
 σ:St
 r:Option (Gd × AX)
def Rec.next (x:Rec):St:=match x.r with|none=>HK x.σ x.o.dst gone|some (gs,e)=>K8 x.σ gs x.o e
def Rec.val (x:Rec):SV:=match x.r with|none=>gone|some (gs,e)=>mkGd gs e.val
def Rec.bm (x:Rec):List (Nat × Aj):=match x.r with|none=> []|some (_,e)=>e.bm
def rE (P:Program) (sg:BI) (Rt:Nat→List AV→AV→Prop) (ops:Array Oper) (base:Nat) (ρ:List AV) (x:Rec):Prop:=
 ops[x.i]?=some x.o∧match x.r with
  |none=>OH x.σ ops x.o=some none
  |some (gs,e)=>OH x.σ ops x.o=some (some gs)∧Ln P sg (Bt x.σ) (Pv x.σ.hp (UM x.σ gs x.o)) x.σ.nv (base+By*x.i) gs x.o=some e∧e.bz=none∧Rw x.σ.nv (base+By*x.i) x.σ.hp gs e=true∧
   (Bb ρ gs→ ∀q∈e.ca,q.den ρ)∧ ∀cl,e.call=some cl→ ∃r,ρ[x.σ.nv]?=some r∧(Bb ρ gs→Ip Rt cl.fn ((EL.of cl.args).den ρ) ρ r)
def DN:Nat→St→List Rec→St→Prop
 |_,σ, [],σ'=>σ=σ'
 |i,σ,x::xs,σ'=>x.i=i∧x.σ=σ∧DN (i+1) x.next xs σ'
def Rec.log (x:Rec):Option Log:=x.r.map fun(gs,e)=>⟨x.i,UM x.σ gs x.o,e.bm.map (·.1)⟩
theorem jZ {P:Program} {sg:BI} {Rt:Nat→List AV→AV→Prop} {ops:Array Oper} {base:Nat} {R:AV→Prop} {L:LK} {js:List JK}: ∀(len i:Nat) (lg:List Log) (σ:St) (t:Tr) (ρ:List AV),i+len=ops.size→
  Lt P sg ops true base (List.range' i len) lg σ=some t→t.den Rt R L js ρ→ρ.length=σ.nv→
  ∃(τ:List AV) (xs:List Rec) (σ':St) (lg':List Log),DN i σ xs σ'∧xs.length=len∧(∀x∈xs,rE P sg Rt ops base (ρ++τ) x)∧(ρ++τ).length=σ'.nv∧L js .normal {σ' with nx:=base+By*ops.size} (ρ++τ)∧Zf ops lg'=true∧(∀y∈lg,y∈lg')∧ ∀x∈xs,∀y,x.log=some y→y∈lg'
 |0,i,lg,σ,t,ρ,hl,ht,hd,hn=>by
  simp only [List.range'_zero,Lt,Bool.true_and]at ht;split at ht
  ·cases ht
  ·rename_i VD;simp only [Ag]at ht;subst ht;exact⟨[], [],σ,lg,rfl,rfl,by simp,by simpa using hn,by simpa [Tr.den]using hd,by simpa using VD,fun y hy=>hy,by simp⟩
 |len+1,i,lg,σ,t,ρ,hl,ht,hd,hn=>by
  rw [List.range'_succ]at ht;unfold Lt at ht;obtain⟨o,hi⟩: ∃o,ops[i]?=some o:=⟨ops[i]'(by omega),by simp [show i<ops.size by omega]⟩
  rw [hi]at ht;simp only at ht;unfold S4 S3 at ht;cases GQ:OH σ ops o with
  |none=>rw [GQ]at ht;cases ht
  |some r=>
   rw [GQ]at ht;cases r with
   |none=>
    simp only at ht;obtain⟨τ,xs,σ',lg',h1,h2,h3,h4,h5,h6,h7,h8⟩:=jZ len (i+1) lg _ t ρ (by omega) ht hd (by rw [iU];exact hn);refine⟨τ,⟨i,o,σ,none⟩::xs,σ',lg',⟨rfl,rfl,h1⟩,by simp [h2],fun x hx=> ?_,h4,h5,h6,h7,fun x hx y hy=> ?_⟩
    ·rcases Af.1 hx with rfl|hx
     ·exact⟨hi,GQ⟩
     ·exact h3 x hx
    ·rcases Af.1 hx with rfl|hx
     ·simp [Rec.log]at hy
     ·exact h8 x hx y hy
   |some gs=>
    simp only at ht;split at ht
    ·rename_i e he;split at ht
     ·cases ht
     ·rename_i AH;simp only [Bool.true_and,Bool.not_true,Bool.false_and,Bool.or_false,Bool.or_eq_true,Bool.not_eq_true',not_or,Bool.not_eq_false]at AH;have Cz:e.bz=none:=by cases hh:e.bz with|none=>rfl|some x=>rw [hh]at AH;simp at AH
      split at ht
      ·cases ht
      ·rename_i k hk;simp only [Ag]at ht;subst ht;have EU:=AH.2;simp only [Rw,Ae,AG]at EU;obtain⟨⟨⟨⟨Bz,AW⟩,ET⟩,_⟩,_⟩:=EU;rw [←hn]at Bz AW ET;unfold Y7 at hd;obtain⟨hc,hd⟩:=lT hd;simp only [Cz]at hd;obtain⟨τ0,hτ0,A8,BM⟩: ∃τ0:List AV,(ρ++τ0).length=(K8 σ gs o e).nv∧(∀cl,e.call=some cl→ ∃r,τ0= [r]∧(Bb ρ gs→Ip Rt cl.fn ((EL.of cl.args).den ρ) ρ r))∧k.den Rt R L js (ρ++τ0):=by
        cases AE:e.call with
        |none=>rw [AE]at hd;exact⟨[],by rw [lN];simp [AE,Cz,hn],by simp,by simpa using hd⟩
        |some cl=>rw [AE]at hd;obtain⟨r,h1,h2⟩:=hd;exact⟨[r],by rw [lN];simp [AE,hn],fun cl' h=>by cases h;exact⟨r,rfl,h1⟩,h2⟩
       obtain⟨τ,xs,σ',lg',h1,h2,h3,h4,h5,h6,h7,h8⟩:=jZ len (i+1) _ _ k (ρ++τ0) (by omega) hk BM hτ0;have ZC:ρ++τ0++τ=ρ++(τ0++τ):=List.append_assoc ..;rw [ZC]at h3 h4 h5;refine⟨τ0++τ,⟨i,o,σ,some (gs,e)⟩::xs,σ',lg',⟨rfl,rfl,h1⟩,by simp [h2],fun x hx=> ?_,h4,h5,h6,fun y hy=>h7 y (by simp [hy]),fun x hx y hy=> ?_⟩
       ·rcases Af.1 hx with rfl|hx
        ·refine⟨hi,GQ,he,Cz,AH.2,fun hg q hq=>(Cn.j8 (AW q hq)).2 (hc ((Lb Bz).1 hg) q hq),fun cl AE=> ?_⟩;obtain⟨r,hr,h2⟩:=A8 cl AE;rw [AE]at ET;simp only [Ae]at ET;subst hr;exact⟨r,by simp only;rw [←hn];simp,fun hg=>(uY ET.1 (EL.kp (by simpa using ET.2))).2 (h2 ((Lb Bz).1 hg))⟩
        ·exact h3 x hx
       ·rcases Af.1 hx with rfl|hx
        ·simp only [Rec.log,Option.map_some,Ag]at hy;subst hy;exact h7 _ (by simp)
        ·exact h8 x hx y hy
    ·cases ht
def F2 (n:Nat) (sl0:Nat→SV) (xs:List Rec) (S:Nat→Bool):Nat→SV:=xs.foldl (fun sl x=>if S x.i then Cs n sl x.o.dst x.val else sl) sl0
def GX (hp0:Nat→Option Aj) (xs:List Rec) (S:Nat→Bool):Nat→Option Aj:=xs.foldl (fun hp x=>if S x.i then A4 hp x.bm else hp) hp0
section
variable {n:Nat} {S S':Nat→Bool} {d t:Nat}
theorem Uq: ∀(xs:List Rec) {sl sl':Nat→SV},sl d=sl' d→(∀x∈xs,x.o.dst=some d→S x.i=S' x.i)→F2 n sl xs S d=F2 n sl' xs S' d
 | [],_,_,h,_=>h
 |x::xs,sl,sl',h,hs=>by
  refine Uq xs (sl:=if S x.i then Cs n sl x.o.dst x.val else sl) (sl':=if S' x.i then Cs n sl' x.o.dst x.val else sl') ?_ fun y hy=>hs y (by simp [hy]);by_cases hd:x.o.dst=some d
  ·rw [←hs x (by simp) hd];split
   ·simp only [Cs,hd,true_and];rw [h]
   ·exact h
  ·have hu: ∀sl:Nat→SV,Cs n sl x.o.dst x.val d=sl d:=fun sl=>by simp [Cs,hd]
   have h1:(if S x.i then Cs n sl x.o.dst x.val else sl) d=sl d:=by split;exact hu sl;rfl
   have h2:(if S' x.i then Cs n sl' x.o.dst x.val else sl') d=sl' d:=by split;exact hu sl';rfl
   rw [h1,h2,h]
theorem kS (xs:List Rec) {sl:Nat→SV} (hs: ∀x∈xs,x.o.dst=some d→S x.i=false):F2 n sl xs S d=sl d:=by
 have h1:=Uq (n:=n) (S:=S) (S':=fun _=>false) xs (sl:=sl) (sl':=sl) (d:=d) rfl hs;rw [h1];clear h1 hs
 induction xs generalizing sl with
 |nil=>rfl
 |cons x xs ih=>exact ih
theorem mW (hd:n≤d): ∀(xs:List Rec) {sl:Nat→SV},F2 n sl xs S d=sl d
 | [],_=>rfl
 |x::xs,sl=>by
  have:=mW hd xs (sl:=if S x.i then Cs n sl x.o.dst x.val else sl);refine Eq.trans this ?_;split
  ·simp only [Cs];rw [if_neg (by omega)]
  ·rfl
theorem qB {y:Rec} (hd:d<n) (hy:y.o.dst=some d) (hS:S y.i=true): ∀(xs:List Rec) {sl:Nat→SV},y∈xs→(∀x∈xs,x≠y→x.o.dst≠some d)→F2 n sl xs S d=y.val
 | [],_,h,_=>by simp at h
 |x::xs,sl,h,hu=>by
  by_cases hm:y∈xs
  ·exact qB hd hy hS xs (sl:=if S x.i then Cs n sl x.o.dst x.val else sl) hm fun z hz=>hu z (by simp [hz])
  ·have hx:y=x:=by rcases Af.1 h with h|h;exact h;exact absurd h hm
   subst hx;have:=kS (n:=n) (S:=S) (d:=d) xs (sl:=Cs n sl y.o.dst y.val) (fun z hz L3=>absurd L3 (hu z (by simp [hz]) (fun hh=>hm (hh▸hz))));show F2 n (if S y.i then Cs n sl y.o.dst y.val else sl) xs S d=_;rw [if_pos hS,this];simp [Cs,hy,hd]
theorem vA {hp hp':Nat→Option Aj} {l:List (Nat × Aj)} (h:hp t=hp' t):A4 hp l t=A4 hp' l t:=by
 induction l generalizing hp hp' with
 |nil=>exact h
 |cons p l ih=>
  refine ih ?_;show(if t=p.1 then some p.2 else hp t)=(if t=p.1 then some p.2 else hp' t)
  rw [h]
theorem zxJ {hp hp':Nat→Option Aj} {l:List (Nat × Aj)} (h:t∈l.map (·.1)):A4 hp l t=A4 hp' l t:=by
 induction l generalizing hp hp' with
 |nil=>simp at h
 |cons p l ih=>
  by_cases hm:t∈l.map (·.1)
  ·exact ih hm
  ·have ht:t=p.1:=by simp only [List.map_cons,Af]at h;exact h.resolve_right hm
   refine vA (l:=l) ?_;show(if t=p.1 then some p.2 else hp t)=(if t=p.1 then some p.2 else hp' t)
   rw [if_pos ht,if_pos ht]
theorem kU {hp:Nat→Option Aj} {l:List (Nat × Aj)} (h:t∉l.map (·.1)):A4 hp l t=hp t:=
 K9 fun e he=>h (List.mem_map.2 ⟨_,he,rfl⟩)
theorem Up: ∀(xs:List Rec) {hp hp':Nat→Option Aj},hp t=hp' t→(∀x∈xs,t∈x.bm.map (·.1)→S x.i=S' x.i)→GX hp xs S t=GX hp' xs S' t
 | [],_,_,h,_=>h
 |x::xs,hp,hp',h,hs=>by
  refine Up xs (hp:=if S x.i then A4 hp x.bm else hp) (hp':=if S' x.i then A4 hp' x.bm else hp') ?_ fun y hy=>hs y (by simp [hy]);by_cases hd:t∈x.bm.map (·.1)
  ·rw [←hs x (by simp) hd];split
   ·exact vA h
   ·exact h
  ·have h1:(if S x.i then A4 hp x.bm else hp) t=hp t:=by split;exact kU hd;rfl
   have h2:(if S' x.i then A4 hp' x.bm else hp') t=hp' t:=by split;exact kU hd;rfl
   rw [h1,h2,h]
theorem lA (xs:List Rec) {hp:Nat→Option Aj} (hs: ∀x∈xs,t∈x.bm.map (·.1)→S x.i=false):GX hp xs S t=hp t:=by
 have h1:=Up (S:=S) (S':=fun _=>false) xs (hp:=hp) (hp':=hp) (t:=t) rfl hs;rw [h1];clear h1 hs
 induction xs generalizing hp with
 |nil=>rfl
 |cons x xs ih=>exact ih
end
section
variable {n:Nat} {S:Nat→Bool} {d t:Nat}
theorem Rec.lk (x:Rec):Bt x.next=Cs x.σ.sl.length (Bt x.σ) x.o.dst x.val:=by
 obtain⟨i,o,σ,r⟩:=x;cases r with
 |none=>exact jL
 |some ge=>exact xG
theorem Rec.kz (x:Rec):AF x.next.hp=A4 (AF x.σ.hp) x.bm:=by
 obtain⟨i,o,σ,r⟩:=x;cases r with
 |none=>simp only [Rec.next,Rec.bm,jF];rfl
 |some ge=>exact xM
theorem Rec.ki (x:Rec):x.next.sl.length=x.σ.sl.length:=by
 obtain⟨i,o,σ,r⟩:=x;cases r with
 |none=>exact iA
 |some ge=>exact wH
theorem DN.range: ∀{xs:List Rec} {i:Nat} {σ σ':St},DN i σ xs σ'→ ∀x∈xs,i≤x.i∧x.i<i+xs.length
 | [],_,_,_,_,x,hx=>by simp at hx
 |y::xs,i,σ,σ',h,x,hx=>by
  rcases Af.1 hx with rfl|hx
  ·have:=h.1;simp only [Ar];omega
  ·have:=DN.range h.2.2 x hx;simp only [Ar];omega
theorem DN.ex: ∀{xs:List Rec} {i:Nat} {σ σ':St},DN i σ xs σ'→ ∀j,i≤j→j<i+xs.length→ ∃x∈xs,x.i=j
 | [],i,_,_,_,j,h1,h2=>by simp at h2;omega
 |y::xs,i,σ,σ',h,j,h1,h2=>by
  by_cases hj:j=i
  ·exact⟨y,by simp,by rw [hj];exact h.1⟩
  ·simp only [Ar]at h2;obtain⟨x,hx,he⟩:=DN.ex h.2.2 j (by omega) (by omega);exact⟨x,by simp [hx],he⟩
theorem DN.inj: ∀{xs:List Rec} {i:Nat} {σ σ':St},DN i σ xs σ'→ ∀x∈xs,∀y∈xs,x.i=y.i→x=y
 | [],_,_,_,_,x,hx,_,_,_=>by simp at hx
 |z::xs,i,σ,σ',h,x,hx,y,hy,he=>by
  have hz:=h.1;rcases Af.1 hx with h1|h1<;>rcases Af.1 hy with h2|h2
  ·rw [h1,h2]
  ·subst h1;have:=(DN.range h.2.2 y h2).1;omega
  ·subst h2;have:=(DN.range h.2.2 x h1).1;omega
  ·exact DN.inj h.2.2 x h1 y h2 he
theorem DN.sl: ∀{xs:List Rec} {i:Nat} {σ σ':St},DN i σ xs σ'→σ.sl.length=n→(∀x∈xs,x.σ.sl.length=n∧ ∀d,Bt x.σ d=F2 n (Bt σ) xs (fun k=>decide (k<x.i)) d)∧σ'.sl.length=n∧Bt σ'=F2 n (Bt σ) xs fun _=>true
 | [],i,σ,σ',h,hn=>by have h:σ=σ':=h;subst h;exact⟨by simp,hn,rfl⟩
 |y::xs,i,σ,σ',h,hn=>by
  obtain⟨h1,h2,h3⟩:=h;subst h2;obtain⟨q1,q2,q3⟩:=DN.sl h3 (by rw [y.ki];exact hn);rw [y.lk,hn]at q1 q3;refine⟨fun x hx=> ?_,q2,q3⟩;rcases Af.1 hx with rfl|hx
  ·refine⟨hn,fun d=>(kS _ fun z hz _=> ?_).symm⟩;rcases Af.1 hz with rfl|hz
   ·simp
   ·have:=(DN.range h3 z hz).1;simp only [decide_eq_false_iff_not];omega
  ·refine⟨(q1 x hx).1,fun d=> ?_⟩;rw [(q1 x hx).2 d];have:=(DN.range h3 x hx).1;show _=F2 n (if decide (y.i<x.i)then Cs n (Bt y.σ) y.o.dst y.val else Bt y.σ) xs (fun k=>decide (k<x.i)) d;rw [if_pos (by simp only [decide_eq_true_eq];omega)]
theorem DN.hp: ∀{xs:List Rec} {i:Nat} {σ σ':St},DN i σ xs σ'→(∀x∈xs,∀t,AF x.σ.hp t=GX (AF σ.hp) xs (fun k=>decide (k<x.i)) t)∧AF σ'.hp=GX (AF σ.hp) xs fun _=>true
 | [],i,σ,σ',h=>by have h:σ=σ':=h;subst h;exact⟨by simp,rfl⟩
 |y::xs,i,σ,σ',h=>by
  obtain⟨h1,h2,h3⟩:=h;subst h2;obtain⟨q1,q3⟩:=DN.hp h3;rw [y.kz]at q1 q3;refine⟨fun x hx=> ?_,q3⟩;rcases Af.1 hx with rfl|hx
  ·refine fun d=>(lA _ fun z hz _=> ?_).symm;rcases Af.1 hz with rfl|hz
   ·simp
   ·have:=(DN.range h3 z hz).1;simp only [decide_eq_false_iff_not];omega
  ·intro t;rw [q1 x hx t];have:=(DN.range h3 x hx).1;show _=GX (if decide (y.i<x.i)then A4 (AF y.σ.hp) y.bm else AF y.σ.hp) xs (fun k=>decide (k<x.i)) t;rw [if_pos (by simp only [decide_eq_true_eq];omega)]
theorem pV {y:Rec} {aZ:Nat→Option Aj} (hS:S y.i=true) (ht:t∈y.bm.map (·.1)): ∀{xs:List Rec} {i:Nat} {σ σ':St} {hp0:Nat→Option Aj},DN i σ xs σ'→y∈xs→(∀x∈xs,x.i≠y.i→t∈x.bm.map (·.1)→S x.i=decide (x.i<y.i))→GX hp0 xs S t=A4 aZ y.bm t
 | [],_,_,_,_,_,h,_=>by simp at h
 |x::xs,i,σ,σ',hp0,hc,hm,hs=>by
  by_cases hx:y=x
  ·subst hx;have:=lA (S:=S) (t:=t) xs (hp:=A4 hp0 y.bm) (fun z hz L3=>by
    have Aq:=(DN.range hc.2.2 z hz).1;have h1:=hc.1;rw [hs z (by simp [hz]) (by omega) L3];simp only [decide_eq_false_iff_not];omega)
   show GX (if S y.i then A4 hp0 y.bm else hp0) xs S t=_;rw [if_pos hS,this];exact zxJ ht
  ·have FO:y∈xs:=by rcases Af.1 hm with h|h;exact absurd h hx;exact h
   exact pV hS ht (hp0:=if S x.i then A4 hp0 x.bm else hp0) hc.2.2 FO fun z hz=>hs z (by simp [hz])
end
theorem wV {α:Type} {p p':α→Bool}: ∀(l:List α),(∀k∈l,p' k=true→p k=true)→(∃j∈l,p j=true∧p' j=false)→(l.filter p').length<(l.filter p).length
 | [],_,h=>by obtain⟨j,hj,_⟩:=h;simp at hj
 |x::l,hs,h=>by
  have hle:(l.filter p').length≤(l.filter p).length:=by
   have: ∀(l:List α),(∀k∈l,p' k=true→p k=true)→(l.filter p').length≤(l.filter p).length:=by
    intro l
    induction l with
    |nil=>intro _;simp
    |cons y l ih=>
     intro h;have:=ih fun k hk=>h k (by simp [hk]);have hy:=h y (by simp);cases h1:p' y with
     |false=>
      cases h2:p y with
      |false=>simpa [h1,h2]using this
      |true=>simp only [List.filter_cons,h1,h2,AY,if_false,if_true,Ar];omega
     |true=>simpa [h1,hy h1]using this
   exact this l fun k hk=>hs k (by simp [hk])
  obtain⟨j,hj,h1,h2⟩:=h;rcases Af.1 hj with rfl|hj
  ·simp only [List.filter_cons,h1,h2,AY,if_false,if_true,Ar];omega
  ·have:=wV l (fun k hk=>hs k (by simp [hk])) ⟨j,hj,h1,h2⟩;have hx:=hs x (by simp);cases h3:p' x with
   |false=>
    cases h4:p x with
    |false=>simpa [h3,h4]using this
    |true=>simp only [List.filter_cons,h3,h4,AY,if_false,if_true,Ar];omega
   |true=>simpa [h3,hx h3]using this
section
variable {ops:Array Oper} {listed:Array Bool}
theorem zzU (hb: ∀j o,ops[j]?=some o→ ∀e∈o.after.toList,Region.binds .any e=true→e.on<j) (BV:listed.size=ops.size) (hr:Region.ready .any ops listed= []): ∀k,k<ops.size→listed.getD k true=true:=by
 intro k
 induction k using Nat.strongRecOn with
 |_ k ih=>
  intro hk;cases hs:listed.getD k true with
  |true=>rfl
  |false=>
   have:k∈Region.ready .any ops listed:=mem_ready.2 ⟨hs,ops[k],by simp [hk],fun e he KC=>by
    have Aq:=hb k ops[k] (by simp [hk]) e (by simpa using he) KC;have:=ih e.on Aq (by omega);have h2:e.on<listed.size:=by omega
    simp only [Array.getD_eq_getD_getElem?,Array.getElem?_eq_getElem h2,Option.getD_some]at this ⊢;exact this⟩
   rw [hr]at this;cases this
theorem zB8 (BV:listed.size=ops.size) {j:Nat} (hj:j<ops.size) (k:Nat):(listed.setIfInBounds j true).getD k true=(decide (k=j)||listed.getD k true):=by
 by_cases h:j=k
 ·subst h;simp [Array.getD_eq_getD_getElem?,show j<listed.size by omega]
 ·rw [getD_set_ne true h];simp [Ne.symm h]
variable {P:Program} {sg:BI} {Rt:Nat→List AV→AV→Prop}
theorem zyy (AM:N6 P sg Rt) {F:Fix} {σ σ':St} {xs:List Rec} {ρ:List AV} {lg:List Log} {n:Nat} {Q:Exit→Act→World→Prop} (hc:DN 0 σ xs σ') (hlen:xs.length=ops.size) (Ax: ∀x∈xs,rE P sg Rt ops σ.nx ρ x) (VD:Zf ops lg=true) (Sp: ∀x∈xs,∀y,x.log=some y→y∈lg) (hn:σ.sl.length=n)
  (hQ: ∀(c:Cx) (a:Act),c.ρ=ρ→c.w0=F.w0→c.A=F.A→c.Mu=F.Mu→(∀t,c.U t→t<σ.nx+By*ops.size)→Rel c n (Bt σ') (AF σ'.hp) a→Q .normal a c.w):
  ∀(fuel:Nat) (listed:Array Bool) (a:Act) (c:Cx),listed.size=ops.size→U7 ops (fun k=>listed.getD k true)→c.ρ=ρ→c.w0=F.w0→c.A=F.A→c.Mu=F.Mu→
   (∀t,c.U t→t<σ.nx∨ ∃k,k<ops.size∧listed.getD k true=true∧σ.nx+By*k≤t∧t<σ.nx+By*k+By)→Rel c n (F2 n (Bt σ) xs fun k=>listed.getD k true) (GX (AF σ.hp) xs fun k=>listed.getD k true) a→
   ((List.range ops.size).filter fun k=> !listed.getD k true).length≤fuel→wpAny P .any ops Q fuel listed a c.w:=by
 simp only [Zf,Ae,AG,Bool.or_eq_true,beq_iff_eq,Bool.not_eq_true',decide_eq_true_eq]at VD;obtain⟨⟨d1,d2⟩,d3⟩:=VD;have Su: ∀j o,ops[j]?=some o→(o,j)∈ops.toList.zipIdx:=fun j o h=>List.mk_mem_zipIdx_iff_getElem?.2 (by simpa using h);have hb: ∀j o,ops[j]?=some o→ ∀e∈o.after.toList,Region.binds .any e=true→e.on<j:=fun j o h e he KC=>by
  rcases d2 (o,j) (Su j o h) e he with h|h
  ·rw [KC]at h;cases h
  ·exact h
 obtain⟨c1,c2,c3⟩:=hc.sl hn;obtain⟨c4,c5⟩:=hc.hp;have B6: ∀(listed:Array Bool) (a:Act) (c:Cx),listed.size=ops.size→c.ρ=ρ→c.w0=F.w0→c.A=F.A→c.Mu=F.Mu→
   (∀t,c.U t→t<σ.nx∨ ∃k,k<ops.size∧listed.getD k true=true∧σ.nx+By*k≤t∧t<σ.nx+By*k+By)→Rel c n (F2 n (Bt σ) xs fun k=>listed.getD k true) (GX (AF σ.hp) xs fun k=>listed.getD k true) a→
   (∀k,k<ops.size→listed.getD k true=true)→Q .normal a c.w:=by
  intro listed a c BV h1 h2 h3 h4 h5 h6 Di;refine hQ c a h1 h2 h3 h4 (fun t ht=> ?_) ?_
  ·rcases h5 t ht with h|⟨k,hk,_,_,h⟩
   ·simp only [By]at*;omega
   ·simp only [By]at*;omega
  ·have e1:(F2 n (Bt σ) xs fun k=>listed.getD k true)=Bt σ':=by
    rw [c3];funext d;exact Uq xs rfl fun x hx _=>by have:=(hc.range x hx).2;exact Di x.i (by omega)
   have e2:(GX (AF σ.hp) xs fun k=>listed.getD k true)=AF σ'.hp:=by rw [c5];funext d;exact Up xs rfl fun x hx _=>by have:=(hc.range x hx).2;exact Di x.i (by omega)
   rw [e1,e2]at h6;exact h6
 intro fuel
 induction fuel with
 |zero=>
  intro listed a c BV AE h1 h2 h3 h4 h5 h6 KF;have Di: ∀k,k<ops.size→listed.getD k true=true:=by intro k hk;have:=List.length_eq_zero_iff.1 (Nat.le_zero.1 KF);have:=List.filter_eq_nil_iff.1 this k (by simpa using hk);simpa using this
  refine⟨?_,B6 listed a c BV h1 h2 h3 h4 h5 h6 Di⟩;refine List.eq_nil_iff_forall_not_mem.2 fun j hj=> ?_;obtain⟨q1,o,q2,_⟩:=mem_ready.1 hj;rw [Di j (Array.getElem?_eq_some_iff.1 q2).1]at q1;cases q1
 |succ fuel ih=>
  intro listed a c BV AE h1 h2 h3 h4 h5 h6 KF;refine⟨fun hr=>B6 listed a c BV h1 h2 h3 h4 h5 h6 (zzU hb BV hr),fun j hj=> ?_⟩;obtain⟨q1,o,q2,q3⟩:=mem_ready.1 hj;have aC:j<ops.size:=(Array.getElem?_eq_some_iff.1 q2).1;have LC: ∀e∈o.after.toList,Region.binds .any e=true→listed.getD e.on true=true:=fun e he KC=>by
   have h9:=q3 e (by simpa using he) KC;have Aq:=hb j o q2 e he KC;have h8:e.on<listed.size:=by omega
   simp only [Array.getD_eq_getD_getElem?,Array.getElem?_eq_getElem h8,Option.getD_some]at h9 ⊢;exact h9
  obtain⟨y,hy,Gm⟩:=hc.ex j (by omega) (by omega);have NR:y.o=o:=by have:=(Ax y hy).1;rw [Gm,q2]at this;exact(Option.some.inj this).symm
  have VV: ∀x∈xs,x.i<ops.size:=fun x hx=>by have:=(hc.range x hx).2;omega
  have oM: ∀x∈xs,ops[x.i]?=some x.o:=fun x hx=>(Ax x hx).1;have agree: ∀x∈xs,x.i≠j→Js (J5 ops.toList []) x.i j=true→listed.getD x.i true=decide (x.i<j):=fun x hx A9 ho=>zzq (S:=fun k=>listed.getD k true) AE q2 (VV x hx) q1 LC A9 ho;have LY: ∀x∈xs,x.i=j→listed.getD x.i true=decide (x.i<j):=fun x hx he=>by rw [he,q1];simp
  have Ht: ∀d,d∈Za ops o→Bt y.σ d=F2 n (Bt σ) xs (fun k=>listed.getD k true) d:=by
   intro d hd;rw [(c1 y hy).2 d,Gm];refine Uq xs rfl fun x hx SS=> ?_;by_cases he:x.i=j
   ·exact(LY x hx he).symm
   ·rcases d3 (o,j) (Su j o q2) (x.o,x.i) (Su _ _ (oM x hx))with h|h
    ·exact absurd h he
    ·simp only [SS,Ae,Bool.or_eq_true,Bool.not_eq_true']at h;rcases h.2 with h|h
     ·rw [List.contains_iff_mem.2 hd]at h;cases h
     ·exact(agree x hx he h).symm
  have hW: ∀x∈xs,∀t,t∈x.bm.map (·.1)→ ∀ly,y.log=some ly→(t∈ly.R∨t∈ly.W)→listed.getD x.i true=decide (x.i<j):=by
   intro x hx t ht ly Sq hm;by_cases he:x.i=j
   ·exact LY x hx he
   ·cases bY:x.r with
    |none=>simp [Rec.bm,bY]at ht
    |some ge=>
     obtain⟨gs,e⟩:=ge;have hlx:x.log=some ⟨x.i,UM x.σ gs x.o,e.bm.map (·.1)⟩:=by simp [Rec.log,bY]
     have aK:ly.i=j:=by unfold Rec.log at Sq;obtain⟨ge',_,rfl⟩:=At.1 Sq;exact Gm
     have h9:=d1 _ (Sp x hx _ hlx) _ (Sp y hy _ Sq);simp only [aK]at h9;rcases h9 with(h|h)|h
     ·exact absurd h he
     ·exfalso;have:cU (e.bm.map (·.1)) (ly.R++ly.W)=true:=by
       simp only [cU,List.any_eq_true];exact⟨t,by simpa [Rec.bm,bY]using ht,List.contains_iff_mem.2 (by simpa using hm)⟩
      rw [this]at h;cases h
     ·exact agree x hx he h
  have Cf: ∀k,(listed.setIfInBounds j true).getD k true=(decide (k=j)||listed.getD k true):=zB8 BV aC;have bK:F2 n (Bt σ) xs (fun k=>(listed.setIfInBounds j true).getD k true)=Cs n (F2 n (Bt σ) xs fun k=>listed.getD k true) o.dst y.val:=by
   funext d;unfold Cs;split
   ·rename_i hd;refine qB hd.2 (by rw [NR];exact hd.1) (by rw [Cf,Gm];simp) xs hy fun x hx A9 SS=> ?_;have he:x.i≠j:=fun h=>A9 (hc.inj x hx y hy (by rw [h,Gm]));rcases d3 (o,j) (Su j o q2) (x.o,x.i) (Su _ _ (oM x hx))with h|h
    ·exact he h
    ·simp only [SS,Ae,bne_iff_ne,ne_eq]at h;exact h.1 hd.1
   ·rename_i hd;by_cases ZS:d<n
    ·refine Uq xs rfl fun x hx SS=> ?_;have he:x.i≠j:=fun h=>by
      have:x=y:=hc.inj x hx y hy (by rw [h,Gm]);subst this;exact hd ⟨by rw [←NR];exact SS,ZS⟩
     rw [Cf];simp [he]
    ·rw [mW (by omega),mW (by omega)]
  have Z4:GX (AF σ.hp) xs (fun k=>(listed.setIfInBounds j true).getD k true)=A4 (GX (AF σ.hp) xs fun k=>listed.getD k true) y.bm:=by
   funext t;by_cases ht:t∈y.bm.map (·.1)
   ·refine pV (by rw [Cf,Gm];simp) ht hc hy fun x hx A9 bZ=> ?_;rw [Gm]at A9 ⊢;rw [Cf];simp only [A9,decide_false,Bool.false_or];cases Jq:y.r with
    |none=>simp [Rec.bm,Jq]at ht
    |some ge=>exact hW x hx t bZ _ (by simp only [Rec.log,Jq,Option.map_some];rfl) (.inr (by simpa [Rec.bm,Jq]using ht))
   ·rw [kU ht];refine Up xs rfl fun x hx bZ=> ?_;have he:x.i≠j:=fun h=>by
     have:x=y:=hc.inj x hx y hy (by rw [h,Gm]);subst this;exact ht bZ
    rw [Cf];simp [he]
  have R7:((List.range ops.size).filter fun k=> !(listed.setIfInBounds j true).getD k true).length≤fuel:=by have:=wV (p:=fun k=> !listed.getD k true) (p':=fun k=> !(listed.setIfInBounds j true).getD k true) (List.range ops.size) (fun k _ hk=>by rw [Cf]at hk;simp at hk ⊢;exact hk.2) ⟨j,by simpa using aC,by simp [q1],by rw [Cf];simp⟩;omega
  have ZI:U7 ops (fun k=>(listed.setIfInBounds j true).getD k true):=by
   intro k ok hk aE e he KC;simp only [Cf,Bool.or_eq_true,decide_eq_true_eq]at hk ⊢;rcases hk with rfl|hk
   ·rw [q2]at aE;cases aE;exact .inr (LC e he KC)
   ·exact .inr (AE k ok hk aE e he KC)
  have LG: ∀(a':Act) (c':Cx),c'.ρ=ρ→c'.w0=F.w0→c'.A=F.A→c'.Mu=F.Mu→(∀t,c'.U t→c.U t∨(σ.nx+By*j≤t∧t<σ.nx+By*j+By))→Rel c' n (Cs n (F2 n (Bt σ) xs fun k=>listed.getD k true) o.dst y.val) (A4 (GX (AF σ.hp) xs fun k=>listed.getD k true) y.bm) a'→
    wpAny P .any ops Q fuel (listed.setIfInBounds j true) a' c'.w:=by
   intro a' c' g1 g2 g3 g4 g5 g6;refine ih _ a' c' (by simpa using BV) ZI g1 g2 g3 g4 (fun t ht=> ?_) (by rw [bK,Z4];exact g6) R7;rcases g5 t ht with h|h
   ·rcases h5 t h with h|⟨k,k1,k2,k3,k4⟩
    ·exact .inl h
    ·exact .inr ⟨k,k1,by rw [Cf,k2];simp,k3,k4⟩
   ·exact .inr ⟨j,aC,by rw [Cf];simp,h.1,h.2⟩
  have E4: ∀j' want d,o.guard=some (j',want)→(ops[j']?).bind (·.dst)=some d→SR c [Bt y.σ d] [a.tmps.getD d Go.undef]:=by intro j' want d hg hd;rw [Ht d (by simp only [Za,hg,Ah];exact .inr (by simp [hd]))];exact h6.cx d
  obtain⟨_,CR⟩:=Ax y hy;cases Jq:y.r with
  |none=>
   rw [Jq]at CR;have Ec:=kJ (c:=c) (a:=a) CR (fun j' want d hg hd=>E4 j' want d (by rw [←NR];exact hg) hd);unfold wpOp;simp only [q2];rw [NR]at Ec;rw [if_neg (by simp [show Region.wanted o (yielded ops a.tmps)=false from Ec])];have hv:y.val=gone:=by simp [Rec.val,Jq]
   have he:y.bm= []:=by simp [Rec.bm,Jq]
   refine LG _ c h1 h2 h3 h4 (fun t ht=> .inl ht) ?_;rw [hv,he];exact h6.put mL o.dst
  |some ge=>
   obtain⟨gs,e⟩:=ge;rw [Jq]at CR;simp only at CR;obtain⟨r1,r2,r3,r4,r5,r6⟩:=CR;rw [NR,Gm]at r2;rw [Gm]at r4;rw [NR]at r1;have Ec:=kJ (c:=c) (a:=a) r1 E4;have hv:y.val=mkGd gs e.val:=by simp [Rec.val,Jq]
   have he:y.bm=e.bm:=by simp [Rec.bm,Jq]
   simp only [Rw,Ae,AG]at r4;obtain⟨_,bJ⟩:=r4;have Sq:y.log=some ⟨y.i,UM y.σ gs y.o,e.bm.map (·.1)⟩:=by simp [Rec.log,Jq]
   refine o5 (c:=c) AM q2 h6 Ec (fun t ht=>Ht t (by simp only [Za,Ah,List.mem_filterMap];exact .inl ⟨.tmp t,by simpa using ht,rfl⟩)) (fun t x hx=> ?_) (fun t t1 t2 hU=> ?_) r2 (fun A9 t x hx=> ?_) (by rw [h1];exact r5) (by rw [h1];exact r6) (fun x hx=>by rw [r3]at hx;cases hx) (fun a' c' hs hr=> ?_)
   ·unfold Pv at hx;split at hx
    ·rename_i hR;rw [(c4 y hy) t]at hx;rw [←hx];refine Up xs rfl fun z hz hzt=> ?_;rw [Gm];exact hW z hz t hzt _ Sq (.inl (by rw [NR];simpa using hR))
    ·cases hx
   ·rcases h5 t hU with h|⟨k,k1,k2,k3,k4⟩
    ·simp only [By]at*;omega
    ·have:k≠j:=by rintro rfl;rw [q1]at k2;cases k2
     simp only [By]at*;omega
   ·have:=bJ _ hx;have R9:gs.isEmpty=false:=by cases gs;exact absurd rfl A9;rfl
    simp only [R9,Bool.false_or,Bool.false_and,Bool.or_false,Ae,decide_eq_true_eq]at this;refine⟨this.1.1,this.1.2, ?_⟩;have h3:=this.2;split at h3
    ·exact⟨_,_,rfl,h3⟩
    ·cases h3
   ·exact LG a' c' (hs.ρ.trans h1) (hs.w0.trans h2) (hs.A.trans h3) (hs.Mu.trans h4) hs.U (by rw [hv,he];exact hr)
end
theorem Rel.world {c:Cx} {n:Nat} {sl:Nat→SV} {hp:Nat→Option Aj} {a:Act} (h:Rel c n sl hp a) (w:World) (h1:w.heap=c.w.heap) (h2:w.os=c.w.os) (h3:w.tape=c.w.tape) (h4:w.output=c.w.output):Rel {c with w:=w} n sl hp a:=by
 refine h.change (fun _=>False) ⟨rfl,rfl,fun _ _ hb=>hb,fun b _ _=>by show w.heap[b]?=_;rw [h1],fun _ _ hk=>⟨hk,rfl⟩,fun _ _ _=>⟨Nat.le_refl _,fun _=>⟨rfl,fun b _ _=>by show w.heap[b]?=_;rw [h1]⟩⟩⟩ ⟨h2.trans h.base.os,h3.trans h.base.tape,h4.trans h.base.output,by show _≤w.heap.size;rw [h1];exact h.base.size,h.base.pins,fun b hb hm=>by show w.heap[b]?=_;rw [h1];exact h.base.block b hb hm,h.base.pk,h.base.lo⟩ (fun t _=>⟨rfl,rfl,rfl,fun g hk=>hk⟩) (fun t _ b _=>by show w.heap[b]?=_;rw [h1]) (fun t ht=>ht.elim)
  ⟨h.gw.nodup,h.gw.cm,h.gw.allow,fun t b hb=>by show b<w.heap.size;rw [h1];exact h.gw.inb t b hb⟩ h.bu h.cq
theorem zAO {P:Program} {sg:BI} {Rt:Nat→List AV→AV→Prop} (aR:P.follows .mixedOrders=true) (AM:N6 P sg Rt) (FU:Va P sg):yQ P sg Rt:=by
 intro id ops draw σ t _ EU hnx ht F R L js ρ a w hL hd hr Q hq;obtain⟨c,rfl,rfl,h1,h2,h3,h4,h5,h6⟩:=hr;rw [List.range_eq_range']at ht;cases draw with
 |false=>refine wp_region ?_;rw [List.range_eq_range'];exact oW AM FU (n:=σ.sl.length) ops.size 0 [] σ t (by omega) ht c a ⟨h1,h2,h3,h4,rfl,by simpa using h5,h6⟩ hd (fun c' a' σ' hp hl As=>hq [] .normal σ' c'.ρ a' c'.w hp hl As)
 |true=>
  refine wp_region_any aR ?_;obtain⟨τ,xs,σ',lg',g1,g2,g3,g4,g5,g6,_,g8⟩:=jZ ops.size 0 [] σ t c.ρ (by omega) ht hd h4;have ZU:=h6.ext (fun i=>by rw [h4];exact St.l7 EU i) (fun t e he=>by rw [h4];exact St.lq EU t e he) τ;have hw:=ZU.world {c.w with drawn:=c.w.drawn+1} rfl rfl rfl rfl;have GM: ∀k,k<ops.size→(Array.replicate ops.size false).getD k true=false:=fun k hk=>by simp [Array.getD_eq_getD_getElem?,hk]
  have VV: ∀x∈xs,x.i<ops.size:=fun x hx=>by have:=(g1.range x hx).2;omega
  have e1:(F2 σ.sl.length (Bt σ) xs fun k=>(Array.replicate ops.size false).getD k true)=Bt σ:=by funext d;exact kS _ fun x hx _=>GM x.i (VV x hx)
  have e2:(GX (AF σ.hp) xs fun k=>(Array.replicate ops.size false).getD k true)=AF σ.hp:=by funext d;exact lA _ fun x hx _=>GM x.i (VV x hx)
  refine zyy (F:=F) (n:=σ.sl.length) (c:={c.ext τ with w:={c.w with drawn:=c.w.drawn+1}}) AM g1 g2 g3 g6 g8 rfl (fun c' a' k1 k2 k3 k4 k5 k6=> ?_) ops.size (Array.replicate ops.size false) a (by simp) (fun k o hk ho=> ?_) rfl h1 h2 h3 (fun t ht=> .inl (h5 t ht)) (by rw [e1,e2];exact hw) (Nat.le_trans (List.length_filter_le _ _) (by simp))
  ·have hlen:=(g1.sl rfl).2.1;refine hq [] .normal _ c'.ρ a' c'.w (by rw [k1];exact List.prefix_append _ _) (by rw [k1];exact g5) ⟨c',rfl,rfl,k2,k3,k4,by rw [k1];exact g4,k5, ?_⟩;show Rel c' σ'.sl.length _ _ a';rw [hlen];exact k6
  ·have:=GM k (Array.getElem?_eq_some_iff.1 ho).1;have BM:(Array.replicate ops.size false).getD k true=true:=hk;rw [this]at BM;cases BM
section
variable {P:Program} {c:Cx} {n nx:Nat} {sl sl0:Nat→SV} {hp hp0:Nat→Option Aj} {a:Act} {o:Oper} {gs:Gd} {e:AX} {sg:BI} {nv:Nat}
theorem xE (h:Bg P c n nx sl hp a sl0 hp0 o gs) {op:BinOp} {t el:TypeId} {x y:Operand} {ty:TypeId} (ho:o.op= .binOp op t x y ty) (hu:P.underlying t=some (.slice el)) {p:Option Addr} {q r:Nat} (hv:a.eval x= .slice p q r) (r2:SR c [.b8] [a.eval y])
  (AM:op= .eql∨op= .neq) (FW:c.ρ[nv]?=some (.bool (Kq a o))) (x':Option E) {ck:List Cn}:Ay P o c n nx sl hp gs a {ca:=ck,bz:=x',val:= .e (if op= .eql then .var nv else .not (.var nv))}:=by
 have hb:Kq a o=p.isNone:=by simp only [Kq,ho,hv];cases p<;>rfl
 rw [hb]at FW;have ex:=fun(v u:Value) (hv:a.eval x=v) (hu:a.eval y=u)=>OU (P:=P) (o:=o) ho c.w hv hu;generalize C4:a.eval y=v2 at r2;cases r2 with
 |b8 _=>
  refine Ay.pure h (v:= .bool (if op= .eql then p.isNone else !p.isNone)) ?_ ?_ rfl
  ·rw [ex _ _ hv C4,eqGuard_at_slice];rcases AM with rfl|rfl
   ·simp [Go.Lib.run_eql_slice_nil c.w t el p q r 0 0 hu]
   ·simp [binOp,Op.equal,Op.maxDepth,Go.Lib.run_equalIn_slice_nil c.w 9999 t el p q r 0 0 hu]
  ·rcases AM with rfl|rfl
   ·refine .e (f:= []) ?_ (by simp) .nil;simp only [if_true,E.den,FW,Option.getD_some];exact .bool .nil
   ·refine .e (f:= []) ?_ (by simp) .nil;simp only [reduceCtorEq,if_false,E.den,FW,Option.getD_some,AV.fg];exact .bool .nil
end
section
variable {P:Program} {c:Cx} {n nx:Nat} {sl sl0:Nat→SV} {hp hp0:Nat→Option Aj} {a:Act} {o:Oper} {gs:Gd} {e:AX} {sg:BI} {nv:Nat}
theorem Uz {hp:Nat→Option Aj} {gs:Gd} {m:Nat} {cs:Bn} {x:E} (h:Bf hp gs m (.agg cs)=some x): ∃k l,m=k+1∧Cc hp gs k cs.toList=some l∧x= .mk l:=by
 cases m with
 |zero=>simp [Bf]at h
 |succ m=>simp only [Bf,At]at h;obtain⟨l,h1,h2⟩:=h;exact⟨m,l,rfl,h1,h2.symm⟩
theorem Km {hp:Nat→Option Aj} {gs:Gd} {m:Nat} {y x:E} (h:Bf hp gs m (.e y)=some x):x=y:=by
 cases m with
 |zero=>simp [Bf]at h
 |succ m=>simp [Bf]at h;exact h.symm
theorem K7 {hp:Nat→Option Aj} {gs:Gd} {m:Nat} {x:E} (h:Bf hp gs m .b8=some x):x= .lst .nil:=by
 cases m with
 |zero=>simp [Bf]at h
 |succ m=>simp [Bf]at h;exact h.symm
theorem Ka {hp:Nat→Option Aj} {gs:Gd} {m:Nat} {s:SV} {ss:List SV} {x:EL} (h:Cc hp gs m (s::ss)=some x): ∃k y l,m=k+1∧Bf hp gs k s=some y∧Cc hp gs k ss=some l∧x= .cons y l:=by
 cases m with
 |zero=>simp [Cc]at h
 |succ m=>
  simp only [Cc]at h;split at h
  ·rename_i y l h1 h2;simp at h;exact⟨m,y,l,rfl,h1,h2,h.symm⟩
  ·cases h
theorem QC {hp:Nat→Option Aj} {gs:Gd} {ρ:List AV} {w:World}: ∀(vs:List Value) (ss:List SV) (m:Nat) (x:EL),EF.go vs=some ss→Cc hp gs m ss=some x→Rd w vs (x.den ρ) []
 | [],ss,m,x,h,hx=>by
  simp [EF.go]at h;subst h;cases m with
  |zero=>simp [Cc]at hx
  |succ m=>simp [Cc]at hx;subst hx;exact .nil
 |v::vs,ss,m,x,h,hx=>by
  unfold EF.go at h;split at h
  ·rename_i hh;cases hh
  ·rename_i k q l hh;cases hh;split at h
   ·rename_i hk;obtain⟨l',h1,rfl⟩:=At.1 h;obtain⟨j,y,l2,rfl,h2,h3,rfl⟩:=Ka hx;rw [Km h2];exact .int hk (QC _ _ _ _ h1 h3)
   ·cases h
  ·rename_i q l hh;cases hh;obtain⟨l',h1,rfl⟩:=At.1 h;obtain⟨j,y,l2,rfl,h2,h3,rfl⟩:=Ka hx;rw [Km h2];exact .bool (QC _ _ _ _ h1 h3)
  ·rename_i q l hh;cases hh;split at h
   ·rename_i hk;obtain⟨l',h1,rfl⟩:=At.1 h;obtain⟨j,y,l2,rfl,h2,h3,rfl⟩:=Ka hx;rw [Km h2];exact .str hk (QC _ _ _ _ h1 h3)
   ·cases h
  ·rename_i l hh;cases hh;obtain⟨l',h1,rfl⟩:=At.1 h;obtain⟨j,y,l2,rfl,h2,h3,rfl⟩:=Ka hx;rw [K7 h2];exact .dz (QC _ _ _ _ h1 h3)
  ·rename_i l hh;cases hh;obtain⟨l',h1,rfl⟩:=At.1 h;obtain⟨j,y,l2,rfl,h2,h3,rfl⟩:=Ka hx;rw [Km h2];exact .dn (QC _ _ _ _ h1 h3)
  ·cases h
theorem iJ {hp:Nat→Option Aj} {gs:Gd} {ρ:List AV} {w:World} {v:Value} {s:SV} {m:Nat} {x:E} (h:EF v=some s) (hx:Bf hp gs m s=some x):
  Rd w v.cells.toList (x.den ρ).cells []∧(∀u∈v.cells.toList,u.oneCell'=true):=by
 have one: ∀{v:Value} {y:AV},Rd w [v] [y] []→(∀cs,y≠ .agg cs)→(∀cs,y≠ .tup cs)→Rd w v.cells.toList y.cells []∧(∀u∈v.cells.toList,u.oneCell'=true):=by
  intro v y hr h1 h2;have h3:=iG hr h1 h2;have h4:y.cells= [y]:=by cases y<;>first|rfl|exact absurd rfl (h1 _)
  rw [one_cells h3,h4];exact⟨by simpa using hr,by simpa using h3⟩
 unfold EF at h;split at h
 ·split at h
  ·rename_i hk;simp at h;subst h;rw [Km hx];exact one (.int hk .nil) (by simp [E.den]) (by simp [E.den])
  ·cases h
 ·simp at h;subst h;rw [Km hx];exact one (.bool .nil) (by simp [E.den]) (by simp [E.den])
 ·split at h
  ·rename_i hk;simp at h;subst h;rw [Km hx];exact one (.str hk .nil) (by simp [E.den]) (by simp [E.den])
  ·cases h
 ·simp at h;subst h;rw [K7 hx];exact one (.dz .nil) (by simp [E.den]) (by simp [E.den])
 ·simp at h;subst h;rw [Km hx];exact one (.dn .nil) (by simp [E.den]) (by simp [E.den])
 ·rename_i cs;simp only [Option.bind_eq_bind,Av,Ag]at h;obtain⟨l,hl,rfl⟩:=h;obtain⟨k,l',rfl,h1,rfl⟩:=Uz hx;rw [Bn.az]at h1;exact⟨QC _ _ _ _ hl h1,iC _ _ hl⟩
 ·cases h
theorem mU {w:World} {vs:List Value} {x:AV} (h:Rd w vs x.cells []): ∀k,Rd w (List.replicate k vs).flatten (AK (List.replicate k x)) []
 |0=> .nil
 |k+1=>by simp only [List.replicate_succ,List.flatten_cons,AK,List.flatMap_cons];have:=h.app (mU h k);simpa [AK]using this
theorem XE (z:Array Value) (hz:0<z.size): ∀k,(madeCells z (k*z.size)).toList=(List.replicate k z.toList).flatten
 |0=>by simp [madeCells]
 |k+1=>by
  have ih:=XE z hz k;simp only [madeCells,Array.toList_map,Array.toList_range]at ih ⊢;rw [Nat.add_mul,Nat.one_mul,List.range_add,List.map_append,ih,List.replicate_succ',List.flatten_append];congr 1;simp only [List.map_map,List.flatten_cons,List.flatten_nil,List.append_nil];apply List.ext_getElem?;intro i;simp only [List.getElem?_map,List.getElem?_range'];by_cases hi:i<z.size
  ·simp only [List.getElem?_range hi,Option.map_some,Function.comp_apply];have:(k*z.size+i) % z.size=i:=by rw [Nat.add_comm,Nat.add_mul_mod_self_right,Nat.mod_eq_of_lt hi]
   simp [this,hi]
  ·rw [List.getElem?_eq_none (by simpa using hi),List.getElem?_eq_none (by simpa using hi)];rfl
theorem zyh (h:Bg P c n nx sl hp a sl0 hp0 o gs) {t:TypeId} {l m:Operand} (ho:o.op= .makeSlice t l m) {s1 s2:SV} (Bz:BE sl0 gs l=some s1) (AW:BE sl0 gs m=some s2) (he:mK P hp0 gs nx t s1 s2=some e) (hc: ∀q∈e.ca,Cn.den c.ρ q):Ay P o c n nx sl hp gs a e:=by
 have DW:l∈o.op.operands:=by simp [ho,Op.operands]
 have DA:m∈o.op.operands:=by simp [ho,Op.operands]
 unfold mK at he;split at he
 ·rename_i el x y Bo;have Bo:=Kc Bo;split at he
  ·cases he
  rename_i hz;have hz:Iq P el=true:=by simpa using hz
  obtain⟨i,z,hi,FL,DE,BV,Ck,Gf⟩:=K6 hz;have r1:=h.cu Bz DW;have r2:=h.cu AW DA;have ival: ∀{x:E} {kk:IntKind} {k:Int} {v:Value},SR c [.e x] [v]→x.den c.ρ= .int kk k→v= .int kk k:=by
   intro x kk k v hr hx;cases hr with
   |e h1 _ _=>exact(Gv h1 hx).1
  split at he
  ·rename_i G2;split at he
   ·rename_i s hs;have hs:EF z=some s:=by simpa [hi,FL]using hs
    obtain⟨w,hw,rfl⟩:=At.1 he;obtain⟨kk,k,hk,h0,hb,hle⟩:Cn.den c.ρ (.mkroom x (P.bytesOf el)):=BJ hc;have EB:=ival r1 hk;have C4:=ival r2 (by rw [←E.aq c.ρ _ _ G2];exact hk);obtain⟨c1,c2⟩:=iJ (w:=c.w) (ρ:=c.ρ) hs hw;obtain⟨kn,rfl⟩:=Int.eq_ofNat_of_zero_le h0;have Dx:(i.bytes:Int)*(kn:Int)≤281474976710656:=by rw [Gf]at hb;rw [Int.mul_comm];omega
    have hlen:=c1.len;have VG:=XE z.cells (by omega) kn;have AR:=run_make (P:=P) c.w t el i z Bo hi FL kk kk kn kn (by omega) (Int.le_refl _) Dx (by omega);have E8:(madeCells z.cells (kn*z.cells.size)).size=kn*P.cellsOf el:=by rw [size_madeCells,DE,Ck]
    have Ct:(madeCells z.cells (kn*z.cells.size)).toList.take ((List.replicate kn (w.den c.ρ)).length*P.cellsOf el)=(List.replicate kn z.cells.toList).flatten:=by rw [List.length_replicate,List.take_of_length_le (by rw [Array.length_toList,E8];exact Nat.le_refl _),VG]
    refine Ay.newRow (xs:=List.replicate kn (w.den c.ρ)) (N:= []) (C:=madeCells z.cells (kn*z.cells.size)) (cap:=kn) (wd:=c.w) (fz:= []) (ts:= []) h rfl ⟨rfl,rfl,rfl,rfl⟩ ?_ ?_ (by omega) (fun u hu=> ?_) (by simp) (by simp only [maxLen];omega) E8 ?_ ?_ (by simp) (fun _=>rfl)
    ·simp only [execOp,ho,EB,C4,Sem.run_bind,Int.ofNat_eq_natCast,List.length_replicate];rw [AR,DE];rfl
    ·simp [E.den,hk,AV.rep]
    ·rw [List.eq_of_mem_replicate hu,←hlen,Array.length_toList,DE,Ck]
    ·rw [Ct];intro u hu;obtain⟨q,hq,hu⟩:=List.mem_flatten.1 hu;rw [List.eq_of_mem_replicate hq]at hu;exact c2 u hu
    ·rw [Ct];exact mU c1 kn
   ·cases he
  ·split at he
   ·rename_i k0 _;simp only [Ag]at he;subst he;obtain⟨kk,k,hk,h0,hb,hle⟩:Cn.den c.ρ (.mkroom y (P.bytesOf el)):=BJ hc;have EB:=ival r1 (show(E.int k0 0).den c.ρ= .int k0 0 from rfl);have C4:=ival r2 hk;obtain⟨kn,rfl⟩:=Int.eq_ofNat_of_zero_le h0;have Dx:(i.bytes:Int)*(kn:Int)≤281474976710656:=by
     rw [Gf]at hb;rw [Int.mul_comm];omega
    have AR:=run_make (P:=P) c.w t el i z Bo hi FL k0 kk 0 kn (by omega) (by omega) Dx (by omega);refine Ay.newRow (xs:= []) (N:= []) (C:=madeCells z.cells (kn*i.size)) (cap:=kn) (wd:=c.w) (fz:= []) (ts:= []) h rfl ⟨rfl,rfl,rfl,rfl⟩ ?_ rfl (by omega) (by simp) (by simp) (by simp only [maxLen];omega) (by rw [size_madeCells,Ck]) (by simp) (by simpa [AK]using Rd.nil) (by simp) (fun _=>rfl);simp only [execOp,ho,EB,C4,Sem.run_bind,Int.ofNat_eq_natCast];rw [AR];rfl
   ·cases he
 ·cases he
end
section
variable {P:Program} {c:Cx} {n nx:Nat} {sl sl0:Nat→SV} {hp hp0:Nat→Option Aj} {a:Act} {o:Oper} {gs:Gd} {e:AX} {sg:BI} {nv:Nat}
def Q9 (v:Option Value) (k d:Nat):Prop:=(v=none∧k=d)∨ ∃kk,v=some (.int kk (k:Int))
theorem gJ {w:World} {t el:TypeId} (hu:P.underlying t=some (.slice el)) (Be:Dd P el=true) (p:Option Addr) (m r l h:Nat) {lo hi:Option Value} (B0:Q9 lo l 0) (No:Q9 hi h m) (h1:l≤h) (h2:h≤m) (h3:m≤r):
  (Instr.sliceAt t (.slice p m r) lo hi none).run P w= .ok (sliced p l h r (P.cellsOf el)) w:=by
 have Fp:P.underlying t=some (.slice (P.elem t)):=by simp [Program.elem,hu]
 have he:P.elem t=el:=by simp [Program.elem,hu]
 have hs:(sizeOf (P.elem t)).run P w= .ok (P.cellsOf el) w:=by rw [he];exact Oy Be w
 rw [run_sliceAt_slice w t _ _ _ _ Fp];rcases B0 with⟨rfl,rfl⟩|⟨kl,rfl⟩<;>rcases No with⟨rfl,rfl⟩|⟨kh,rfl⟩
 ·rw [run_slice_all w t p h r Fp,hs];rfl
 ·rw [run_slice_h w t p m r Fp kh _ (by omega) (by omega),hs];rfl
 ·rw [run_slice_l w t p h r Fp kl _ (by omega) (by omega),hs];rfl
 ·rw [run_slice_lh w t p m r Fp kl kh _ _ (by omega) (by omega) (by omega),hs];rfl
theorem zvX (s:ByteArray) (a b:Nat):(s.extract a b).data.toList=(s.data.toList.drop a).take (b-a):=by rw [ByteArray.data_extract,Array.toList_extract,List.extract_eq_take_drop]
theorem zp9 {w:World} {t:TypeId} (hu:P.underlying t=some .string) (s:ByteArray) (l h:Nat) {lo hi:Option Value} (B0:Q9 lo l 0) (No:Q9 hi h s.size) (h1:l≤h) (h2:h≤s.size):
  (Instr.sliceAt t (.string s) lo hi none).run P w= .ok (.string (s.extract l h)) w:=by
 rw [run_sliceAt_string w t _ _ _ _ hu];rcases B0 with⟨rfl,rfl⟩|⟨kl,rfl⟩<;>rcases No with⟨rfl,rfl⟩|⟨kh,rfl⟩
 ·rw [run_slice_string_all w t s hu]
 ·rw [run_slice_string_h w t s hu kh _ (by omega) (by omega)];rfl
 ·rw [run_slice_string_l w t s hu kl _ (by omega) (by omega)];rfl
 ·rw [run_slice_string w t s kl kh _ _ hu (by omega) (by omega) (by omega)];rfl
theorem jQ {sz:Nat} (ys:List AV) (hs: ∀y∈ys,y.cells.length=sz) (l h:Nat) (hl:l≤h) (hh:h≤ys.length):((AK ys).drop (l*sz)).take ((h-l)*sz)=AK ((ys.take h).drop l):=by
 have e:ys=ys.take l++((ys.take h).drop l++ys.drop h):=by
  rw [←List.append_assoc];have:ys.take l++(ys.take h).drop l=ys.take h:=by
   have h2:ys.take l=(ys.take h).take l:=by rw [List.take_take,Nat.min_eq_left hl]
   rw [h2,List.take_append_drop]
  rw [this,List.take_append_drop]
 have f1:AK ys=AK (ys.take l)++(AK ((ys.take h).drop l)++AK (ys.drop h)):=by
  conv=>lhs;rw [e]
  simp [AK]
 have l1:(AK (ys.take l)).length=l*sz:=by rw [MB _ (fun y hy=>hs y (List.mem_of_mem_take hy)),List.length_take,Nat.min_eq_left (by omega)]
 have l2:(AK ((ys.take h).drop l)).length=(h-l)*sz:=by rw [MB _ (fun y hy=>hs y (List.mem_of_mem_take (List.mem_of_mem_drop hy))),List.length_drop,List.length_take,Nat.min_eq_left (by omega)]
 rw [f1,←l1,List.drop_left,←l2,List.take_left]
theorem zEQ {w:World} {v:Value} {ys:List AV} {f:List Nat} {sz:Nat} (hr:Rd w [v] [.sl ys] f) (hs: ∀y∈ys,y.cells.length=sz) (l h:Nat) (hl:l≤h) (hh:h≤ys.length):
  ∃p r g,v= .slice p ys.length r∧ys.length≤r∧Rd w [sliced p l h r sz] [.sl ((ys.take h).drop l)] g∧ ∀b∈g,b∈f:=by
 cases hr with
 |dz _=>
  rename_i p r;have hh:h=0:=by simpa using hh
  subst hh;have hl:l=0:=by omega
  subst hl;exact⟨_,_, [],rfl,Nat.zero_le _,by simpa [sliced]using Rd.dz .nil,by simp⟩
 |fu hb h1 h2 h3 h4 h5 h6 GH h7 h8=>
  rename_i b o m r cs C t fz sz' f1 f2;have hy: ∃y,y∈ys:=by cases ys with|nil=>simp at h3;omega|cons y _=>exact⟨y,by simp⟩
  obtain⟨y0,Ib⟩:=hy;have FZ:sz'=sz:=(h4 y0 Ib).symm.trans (hs y0 Ib);subst FZ;subst h3;refine⟨some ⟨b,o,none⟩,r, ?_⟩;rcases Nat.eq_or_lt_of_le hl with he|Aq
  ·subst he;refine⟨[],rfl,h2.2, ?_,by simp⟩;have:(ys.take l).drop l= []:=List.drop_eq_nil_of_le (by simp;omega);rw [this];simp only [sliced,Nat.sub_self];exact .dz .nil
  ·have E1:=h7.len;obtain⟨g,hg,Dl⟩:=h7.piece (l*sz') ((h-l)*sz');rw [jQ ys h4 l h hl hh]at Dl;refine⟨b::(g++ []),rfl,h2.2, ?_,fun x hx=> ?_⟩
   ·have CA:sliced (some (⟨b,o,none⟩:Addr)) l h r sz'= .slice (some ⟨b,o+l*sz',none⟩) (h-l) (r-l):=by
     unfold sliced;split
     ·exfalso;omega
     ·simp [Addr.add_lit]
    rw [CA];refine Rd.fu (cs:=(cs.drop (l*sz')).take ((h-l)*sz')) hb (by omega) ⟨by omega,by omega⟩ (by simp;omega) (fun y hy=>h4 y (List.mem_of_mem_take (List.mem_of_mem_drop hy))) h5 (fun j u hu=> ?_) (fun u hu=>GH u (List.mem_of_mem_drop (List.mem_of_mem_take hu))) Dl .nil;rw [List.getElem?_take]at hu;split at hu
    ·rw [List.getElem?_drop]at hu;have:=h6 _ _ hu;rw [←this];congr 1;omega
    ·cases hu
   ·simp only [List.append_nil,Af]at hx;rcases hx with rfl|hx
    ·simp
    ·have:=hg x hx;simp [this]
theorem Jz {f:Operand→Option SV} {x:Option Operand} {r:Option SV} (h:JN f x=some r):(x=none∧r=none)∨ ∃y z,x=some y∧f y=some z∧r=some z:=by
 cases x with
 |none=>simp [JN]at h;exact .inl ⟨rfl,h.symm⟩
 |some y=>obtain⟨z,hz,rfl⟩:=At.1 h;exact .inr ⟨y,z,rfl,hz,rfl⟩
theorem Yo {s:Option SV} {d l:E} (h:Md s d=some l):(s=none∧l=d)∨s=some (.e l):=by
 unfold Md at h;split at h
 ·simp at h;exact .inl ⟨rfl,h.symm⟩
 ·simp at h;subst h;exact .inr rfl
 ·cases h
theorem zwA (h:Bg P c n nx sl hp a sl0 hp0 o gs) {t:TypeId} {x:Operand} {lo hi mx:Option Operand} (ho:o.op= .slice t x lo hi mx) {s:SV} (hs:BE sl0 gs x=some s) {l' h' m':Option SV} (Bx:JN (BE sl0 gs) lo=some l') (LH:JN (BE sl0 gs) hi=some h') (FO:JN (BE sl0 gs) mx=some m') (he:lD P hp0 gs t s l' h' m'=some e) (hc: ∀q∈e.ca,Cn.den c.ρ q):Ay P o c n nx sl hp gs a e:=by
 have hm:x∈o.op.operands:=by simp [ho,Op.operands]
 have Nv: ∀y,lo=some y→y∈o.op.operands:=fun y hy=>by simp [ho,Op.operands,hy]
 have KL: ∀y,hi=some y→y∈o.op.operands:=fun y hy=>by simp [ho,Op.operands,hy]
 have aQ: ∀y,mx=some y→y∈o.op.operands:=fun y hy=>by simp [ho,Op.operands,hy]
 have hx:=h.cu hs hm;have ival: ∀{x:E} {kk:IntKind} {k:Int} {v:Value},SR c [.e x] [v]→x.den c.ρ= .int kk k→v= .int kk k:=by
  intro x kk k v hr hx;cases hr with
  |e h1 _ _=>exact(Gv h1 hx).1
 unfold lD at he;split at he
 ·cases he
 rename_i y hy;obtain⟨f,q1,q2⟩:=h.kt hs hm hy;have ex:(execOp a.eval o).run P c.w=((Instr.sliceAt t (a.eval x) (lo.map a.eval) (hi.map a.eval) (mx.map a.eval)).run P c.w).andThen fun v w=> .ok (.value v) w:=by simp [execOp,ho]
 split at he
 ·split at he
  ·rename_i el _ _ hu;split at he
   ·rename_i Be;simp only [Ag]at he;subst he;have hd:(y.den c.ρ).len≠ .undef:=BJ hc;cases Bm:y.den c.ρ<;>simp only [Bm,AV.len,ne_eq,not_true_eq_false]at hd;rename_i xs;have hl:(y.den c.ρ).len= .int .i64 (xs.length:Int):=by rw [Bm];rfl
    obtain⟨p,q,r,hv⟩: ∃p q r,a.eval x= .slice p q r:=by
     rcases QV q1 hl with⟨p,q,hv,DV⟩|⟨b,o',k,q,hv,DV⟩
     ·exact⟨_,_,_,hv⟩
     ·exact⟨_,_,_,hv⟩
    rcases Jz Bx with⟨rfl,_⟩|⟨_,_,_,_,hh⟩
    ·rcases Jz LH with⟨_,hh⟩|⟨oh,sh,rfl,hsh,hh⟩
     ·cases hh
     ·cases hh;rcases Jz FO with⟨_,hh⟩|⟨om,sm,rfl,NJ,hh⟩
      ·cases hh
      ·cases hh;have v1:=(fun{kk:IntKind} (hr:SR c [.e (.int kk 0)] [a.eval oh])=>ival hr (show(E.int kk 0).den c.ρ= .int kk 0 from by simp only [E.den])) (h.cu hsh (KL _ rfl))
       have v2:=(fun{kk:IntKind} (hr:SR c [.e (.int kk 0)] [a.eval om])=>ival hr (show(E.int kk 0).den c.ρ= .int kk 0 from by simp only [E.den])) (h.cu NJ (aQ _ rfl))
       have Fp:P.underlying t=some (.slice (P.elem t)):=by simp [Program.elem,hu]
       have Bo:P.elem t=el:=by simp [Program.elem,hu]
       refine Ay.pure h (v:= .slice p 0 0) ?_ (.emp .nil) rfl;rw [ex,hv];simp only [Option.map_none,Option.map_some,v1,v2];rw [run_sliceAt_slice c.w t _ _ _ _ Fp,run_slice_hm c.w t p q r Fp _ _ 0 0 (by omega) (by omega) (by omega),Bo,Oy Be];simp [sliced]
    ·cases hh
   ·cases he
  ·cases he
 ·have Nw:mx=none:=by
   rcases Jz FO with⟨hh,_⟩|⟨_,_,_,_,hh⟩
   ·exact hh
   ·cases hh
  subst Nw;have blo: ∀(l:E) (kk:IntKind) (k:Nat),Md l' (.int .i64 0)=some l→l.den c.ρ= .int kk k→Q9 (lo.map a.eval) k 0:=by
   intro l kk k hl hk;rcases Jz Bx with⟨rfl,rfl⟩|⟨ol,sl',rfl,CA,rfl⟩
   ·rcases Yo hl with⟨_,rfl⟩|hh
    ·simp only [E.den,AV.int.injEq]at hk;exact .inl ⟨rfl,by omega⟩
    ·cases hh
   ·rcases Yo hl with⟨hh,_⟩|hh
    ·cases hh
    ·cases hh;exact .inr ⟨kk,by rw [Option.map_some,ival (h.cu CA (Nv _ rfl)) hk]⟩
  have bhi: ∀(d l:E) (kk:IntKind) (k m:Nat),Md h' d=some l→l.den c.ρ= .int kk k→d.den c.ρ= .int .i64 (m:Int)→Q9 (hi.map a.eval) k m:=by
   intro d l kk k m hl hk hd;rcases Jz LH with⟨rfl,rfl⟩|⟨ol,sl',rfl,CA,rfl⟩
   ·rcases Yo hl with⟨_,rfl⟩|hh
    ·rw [hd]at hk;simp only [AV.int.injEq]at hk;exact .inl ⟨rfl,by omega⟩
    ·cases hh
   ·rcases Yo hl with⟨hh,_⟩|hh
    ·cases hh
    ·cases hh;exact .inr ⟨kk,by rw [Option.map_some,ival (h.cu CA (KL _ rfl)) hk]⟩
  split at he
  ·rename_i hu;split at he
   ·rename_i l hb q JU Nn;simp only [Ag]at he;subst he;obtain⟨ka,ai,kb,bi,bs,d1,d2,d3,d4,d5,d6⟩:Cn.den c.ρ (.winS y l hb):=BJ hc;obtain⟨an,rfl⟩:=Int.eq_ofNat_of_zero_le d4;obtain⟨bn,rfl⟩:=Int.eq_ofNat_of_zero_le (Int.le_trans d4 d5);obtain⟨ss,hv,rfl,hle⟩:=Rf q1 d3;have BV:ss.data.toList.length=ss.size:=by simp
    have AR:=zp9 (P:=P) (w:=c.w) hu ss an bn (blo l ka an JU d1) (bhi (.slen y) hb kb bn ss.size Nn d2 (by simp only [E.den,d3,AV.slen];simp)) (by omega) (by omega);refine Ay.pure h (v:= .string (ss.extract an bn)) ?_ (.cw ?_) rfl
    ·rw [ex,hv,Option.map_none,AR];rfl
    ·simp only [E.den,d1,d2,d3,AV.swin];have:(List.take (bn:Int).toNat ss.data.toList).drop (an:Int).toNat=(ss.extract an bn).data.toList:=by
      simp [zvX,List.drop_take]
     rw [this];exact .str (by simp only [ByteArray.size_extract];omega) .nil
   ·cases he
  ·rename_i el hu;split at he
   ·cases he
   rename_i Be;have Be:Dd P el=true:=by simpa using Be
   split at he
   ·rename_i l hb fz JU Nn Hr;simp only [Ag]at he;subst he;have Bj:Cn.den c.ρ (.issl y (P.cellsOf el)):=BJ hc;obtain⟨ys,De,NP⟩:=Bj;obtain⟨ka,ai,kb,bi,m,d1,d2,d3,d4,d5,d6⟩:Cn.den c.ρ (.win y l hb):=hc _ (by simp);obtain⟨an,rfl⟩:=Int.eq_ofNat_of_zero_le d4;obtain⟨bn,rfl⟩:=Int.eq_ofNat_of_zero_le (Int.le_trans d4 d5);rw [De]at q1;have hm9:(m:Int)=ys.length:=by rw [De]at d3;simpa [AV.len]using d3.symm
    split at Hr
    ·rename_i Jd;obtain⟨p,r,g,hv,hr,Dl,hg⟩:=zEQ q1 NP an bn (by omega) (by omega);have AR:=gJ (P:=P) (w:=c.w) hu Be p ys.length r an bn (blo l ka an JU d1) (bhi (.len y) hb kb bn ys.length Nn d2 (by simp only [E.den,De,AV.len])) (by omega) (by omega) hr;intro next Q hk
     unfold Oper.wp;rw [ex,hv,Option.map_none,AR];show Oper.upon P o a next Q (.ok (.value _) c.w)
     rw [Oper.upon_value];have As:=h.rel.freeze h.hp h.gs Hr;have Ax: ∀b∈g,(c.bq (fz.map (·.1))).ok b:=fun b hb=>Uc h.rel h.eh h.gs Hr Jd (q2 b (hg b hb));refine hk _ (c.bq (fz.map (·.1))) ⟨rfl,rfl,rfl,rfl,fun t ht=> .inl ht⟩ (As.put (SR.mkGd (.e (f:=g) ?_ Ax .nil) gs h.gs) o.dst);show Rd c.w _ [(E.win y l hb).den c.ρ] g;simp only [E.den,d1,d2,De,AV.win,Int.ofNat_eq_natCast,Int.toNat_natCast];exact Dl
    ·cases Hr
   ·cases he
  ·cases he
end
section
variable {P:Program} {c:Cx} {n nx:Nat} {sl sl0:Nat→SV} {hp hp0:Nat→Option Aj} {a:Act} {o:Oper} {gs:Gd} {e:AX} {sg:BI} {nv:Nat}
theorem Rz {w:World} {v:Value} {x:AV} {f:List Nat} {k:SK} (h:Rd w [v] [x] f) (hk:x.sk=some k):(∃kk n,k= .int kk∧v= .int kk n∧x= .int kk n)∨(∃b,k= .bool∧v= .bool b∧x= .bool b)∨ ∃s:ByteArray,k= .str∧v= .string s∧x= .str s.data.toList:=by
 cases h<;>simp [AV.sk]at hk
 ·exact .inl ⟨_,_,hk.symm,rfl,rfl⟩
 ·exact .inr (.inl ⟨_,hk.symm,rfl,rfl⟩)
 ·exact .inr (.inr ⟨_,hk.symm,rfl,rfl⟩)
theorem iP {t:TypeId} (h:(∃k,P.underlying t=some (.int k))∨P.underlying t=some .bool∨P.underlying t=some .string):Ap P t=false:=by rcases h with⟨k,h⟩|h|h<;>simp [Ap,h]
theorem tZ {w:World} (d:Nat): ∀(fs:List Field) (j:Nat) (ks:List SK) {as_ bs:List Value} {cs ds:List AV} {f g:List Nat},Rl P j fs=some ks→Rd w as_ cs f→Rd w bs ds g→(cs.drop j).map AV.sk=ks.map some→(ds.drop j).map AV.sk=ks.map some→
  (Op.eqFields (d+1) as_.toArray bs.toArray fs).run P w= .ok (AV.leq (cs.drop j) (ds.drop j)) w
 | [],j,ks,as_,bs,cs,ds,f,g,hk,h1,h2,k1,k2=>by
  simp [Rl]at hk;subst hk;have e1:cs.drop j= []:=by simpa using k1
  have e2:ds.drop j= []:=by simpa using k2
  rw [e1,e2];simp [Op.eqFields,AV.leq]
 |fd::fs,j,ks,as_,bs,cs,ds,f,g,hk,h1,h2,k1,k2=>by
  unfold Rl at hk;split at hk
  ·cases hk
  rename_i AH;simp only [not_or,Bool.not_eq_true',Decidable.not_not,ne_eq,Bool.not_eq_false]at AH;obtain⟨hn,ho,Be,BJ⟩:=AH;have main: ∀(k:SK) (l:List SK),ks=k::l→Rl P (j+1) fs=some l→(∀a b (x y:AV) f g,Rd w [a] [x] f→Rd w [b] [y] g→x.sk=some k→y.sk=some k→(Op.equalIn (d+1) fd.type a b).run P w= .ok (x.seq y) w)→Ap P fd.type=false→
    (Op.eqFields (d+1) as_.toArray bs.toArray (fd::fs)).run P w= .ok (AV.leq (cs.drop j) (ds.drop j)) w:=by
   rintro k l rfl hl heq HX;have Gg:j<cs.length:=by
    rcases Nat.lt_or_ge j cs.length with hh|hh
    ·exact hh
    ·rw [List.drop_eq_nil_of_le hh]at k1;simp at k1
   have Z9:j<ds.length:=by
    rcases Nat.lt_or_ge j ds.length with hh|hh
    ·exact hh
    ·rw [List.drop_eq_nil_of_le hh]at k2;simp at k2
   rw [List.drop_eq_getElem_cons Gg]at k1;rw [List.drop_eq_getElem_cons Z9]at k2;simp only [List.map_cons,List.cons.injEq]at k1 k2;have l1:=h1.len;have l2:=h2.len;obtain⟨v,f1,hv,_,r1⟩:=h1.at (show cs[j]?=some cs[j] by simp [Gg])
   obtain⟨u,g1,hu,_,r2⟩:=h2.at (show ds[j]?=some ds[j] by simp [Z9])
   have p1:=UD Be as_ fd.offset (by omega) (.inr BJ) w;have p2:=UD Be bs fd.offset (by omega) (.inr BJ) w;have e1:((as_.drop fd.offset).take (P.cellsOf fd.type)).headD Go.undef=v:=by rw [BJ,ho,List.drop_eq_getElem_cons (by omega),List.take_succ_cons];simpa [show j<as_.length by omega]using hv
   have e2:((bs.drop fd.offset).take (P.cellsOf fd.type)).headD Go.undef=u:=by rw [BJ,ho,List.drop_eq_getElem_cons (by omega),List.take_succ_cons];simpa [show j<bs.length by omega]using hu
   rw [HX,e1]at p1;rw [HX,e2]at p2;have ih:=tZ (w:=w) d fs (j+1) l hl h1 h2 k1.2 k2.2;rw [List.drop_eq_getElem_cons Gg,List.drop_eq_getElem_cons Z9];simp only [Op.eqFields,ne_eq,hn,not_false_eq_true,if_true,Sem.run_bind,p1,p2,AY,if_false,Result.andThen_ok,heq v u _ _ _ _ r1 r2 k1.1 k2.1];cases hb:(cs[j]).seq ds[j]with
   |true=>simpa [AV.leq,hb]using ih
   |false=>simp [AV.leq,hb]
  split at hk
  ·rename_i k l hu hl;simp at hk;refine main _ _ hk.symm hl (fun a b x y f g ra rb hx hy=> ?_) (iP (.inl ⟨_,hu⟩));rcases Rz ra hx with⟨kk,m,h5,rfl,rfl⟩|⟨_,h5,_⟩|⟨_,h5,_⟩<;>cases h5
   rcases Rz rb hy with⟨kk,m2,h5,rfl,rfl⟩|⟨_,h5,_⟩|⟨_,h5,_⟩<;>cases h5
   exact run_equalIn_int w d fd.type _ _ _ _ hu
  ·rename_i l hu hl;simp at hk;refine main _ _ hk.symm hl (fun a b x y f g ra rb hx hy=> ?_) (iP (.inr (.inl hu)));rcases Rz ra hx with⟨kk,m,h5,_⟩|⟨_,_,rfl,rfl⟩|⟨_,h5,_⟩<;>try cases h5
   rcases Rz rb hy with⟨kk,m,h5,_⟩|⟨_,_,rfl,rfl⟩|⟨_,h5,_⟩<;>try cases h5
   exact iW d _ _ hu w
  ·rename_i l hu hl;simp at hk;refine main _ _ hk.symm hl (fun a b x y f g ra rb hx hy=> ?_) (iP (.inr (.inr hu)));rcases Rz ra hx with⟨kk,m,h5,_⟩|⟨_,h5,_⟩|⟨_,_,rfl,rfl⟩<;>try cases h5
   rcases Rz rb hy with⟨kk,m,h5,_⟩|⟨_,h5,_⟩|⟨_,_,rfl,rfl⟩<;>try cases h5
   rw [run_equalIn_string w d _ _ _ hu,tM];rfl
  ·cases hk
theorem zBV (h:Bg P c n nx sl hp a sl0 hp0 o gs) {op:BinOp} {t:TypeId} {x y:Operand} {ty:TypeId} (ho:o.op= .binOp op t x y ty) {fs:Array Field} (hu:P.underlying t=some (.struct fs)) (he:Bv P sg sl0 hp0 nv nx gs o=some e) (hc: ∀q∈e.ca,Cn.den c.ρ q):Ay P o c n nx sl hp gs a e:=by
 have DW:x∈o.op.operands:=by simp [ho,Op.operands]
 have DA:y∈o.op.operands:=by simp [ho,Op.operands]
 simp only [Bv,ho,Av]at he;obtain⟨s1,Bz,s2,AW,he⟩:=he;unfold Rk at he;simp only [hu]at he;split at he
 ·cases he
 rename_i hg;simp only [Bool.or_eq_true,not_or,Bool.not_eq_true]at hg;split at he
 ·rename_i ks x' y' hks CN Bm;obtain⟨f1,q1,_⟩:=h.kt Bz DW CN;obtain⟨f2,q2,_⟩:=h.kt AW DA Bm;have Eb:P.underlying t=some (.struct (P.fieldsOf t)):=by simp [Program.fieldsOf,hu]
  have LD:P.fieldsOf t=fs:=by simp [Program.fieldsOf,hu]
  have key: ∀(k1:Cn.den c.ρ (.kinds x' ks)) (k2:Cn.den c.ρ (.kinds y' ks)),∃as_ bs:List Value,∃b,a.eval x= .agg as_.toArray∧a.eval y= .agg bs.toArray∧(E.aeq x' y').den c.ρ= .bool b∧(Op.equalIn 10000 t (.agg as_.toArray) (.agg bs.toArray)).run P c.w= .ok b c.w:=by rintro⟨cs,Bj,k1⟩ ⟨ds,GL,k2⟩;obtain⟨as_,EB,_,r1⟩:=JD q1 Bj;obtain⟨bs,C4,_,r2⟩:=JD q2 GL;refine⟨as_,bs,AV.leq cs ds,EB,C4,by simp only [E.den,Bj,GL,AV.aeq], ?_⟩;rw [run_equalIn_struct c.w 9999 t _ _ Eb hg.1,LD];exact tZ (w:=c.w) 9998 fs.toList 0 ks hks r1 r2 (by simpa using k1) (by simpa using k2)
  split at he
  ·simp only [Ag]at he;subst he;obtain⟨as_,bs,b,EB,C4,hd,hr⟩:=key (hc _ (by simp)) (hc _ (by simp));refine Ay.pure h (v:= .bool b) ?_ (.cw (by rw [hd];exact .bool .nil)) rfl;rw [OU ho c.w EB C4];simp [run_eqGuard_agg c.w _ t x y _ _ hg.2,run_eql_struct,hr]
  ·simp only [Ag]at he;subst he;obtain⟨as_,bs,b,EB,C4,hd,hr⟩:=key (hc _ (by simp)) (hc _ (by simp));refine Ay.pure h (v:= .bool (!b)) ?_ (.cw (by simp only [E.den]at hd ⊢;rw [hd];exact .bool .nil)) rfl;rw [OU ho c.w EB C4];simp [run_eqGuard_agg c.w _ t x y _ _ hg.2,run_neq_struct,hr]
  ·cases he
 ·cases he
theorem uP (h:Bg P c n nx sl hp a sl0 hp0 o gs) {x y:Operand} {cl:Call} (ho:o.op= .call cl) {op:BinOp} (AM:(op= .gtr∧cl.callee= .builtin .max)∨(op= .lss∧cl.callee= .builtin .min)) (C7:cl.args.toList= [x,y]) {s1 s2:SV} (Bz:BE sl0 gs x=some s1) (AW:BE sl0 gs y=some s2)
  (he:YM op s1 s2=some e) (hc: ∀q∈e.ca,Cn.den c.ρ q):Ay P o c n nx sl hp gs a e:=by
 have Aw:cl.args= #[x,y]:=by apply Array.ext';simp [C7]
 have DW:x∈o.op.operands:=by rcases AM with⟨_,hh⟩|⟨_,hh⟩<;>simp [ho,Op.operands,Call.operands,hh,Aw]
 have DA:y∈o.op.operands:=by rcases AM with⟨_,hh⟩|⟨_,hh⟩<;>simp [ho,Op.operands,Call.operands,hh,Aw]
 unfold YM at he;split at he
 ·rename_i x' y';simp only [Ag]at he;subst he;obtain⟨f1,q1,_⟩:=HG (h.cu Bz DW) rfl;obtain⟨f2,q2,_⟩:=HG (h.cu AW DA) rfl;have hd:AV.bin op (y'.den c.ρ) (x'.den c.ρ)≠ .undef:=BJ hc;cases hx:x'.den c.ρ<;>cases hy:y'.den c.ρ<;>simp only [hx,hy,AV.bin,ne_eq,not_true_eq_false]at hd;rename_i k m k' m';split at hd
  ·rename_i hk;have hk:k'=k:=by rcases hk with hk|hk|hk;exact hk;all_goals (rcases AM with⟨h1,_⟩|⟨h1,_⟩<;>rw [h1]at hk<;>cases hk)
   subst hk;obtain⟨v1,i1⟩:=Gv q1 hx;obtain⟨v2,i2⟩:=Gv q2 hy;rcases AM with⟨rfl,AE⟩|⟨rfl,AE⟩
   ·refine Ay.pure h (v:= .int k' (if m'>m then m' else m)) ?_ (.cw ?_) rfl
    ·simp [execOp,ho,resolve,AE,Aw,invoke,builtin,Builtin.max_,Builtin.max2,v1,v2]
    ·simp only [E.den,hx,hy,AV.bin,true_or,if_true,B8];by_cases hh:m'>m
     ·simp only [hh,decide_true,AV.cond,if_true];exact .int i2 .nil
     ·simp only [hh,decide_false,AV.cond,if_false];exact .int i1 .nil
   ·refine Ay.pure h (v:= .int k' (if m'<m then m' else m)) ?_ (.cw ?_) rfl
    ·simp [execOp,ho,resolve,AE,Aw,invoke,builtin,Builtin.min_,Builtin.min2,v1,v2]
    ·simp only [E.den,hx,hy,AV.bin,true_or,if_true,B8];by_cases hh:m'<m
     ·simp only [hh,decide_true,AV.cond,if_true];exact .int i2 .nil
     ·simp only [hh,decide_false,AV.cond,if_false];exact .int i1 .nil
  ·exact absurd rfl hd
 ·cases he
end
inductive Ca (P:Program) (w:World):List TypeId→List Bool→List Value→List AV→List Nat→List Nat→Prop where
 |nil {fl}:Ca P w [] fl [] [] [] []
 |own {t ts fl el u us y ys top N rf hs}:fl.headD false=true→Cw P t=some el→(BY P el=true∧N= []∨BY P el=false∧DP P t=none)→CK w el (P.cellsOf el) u y top N→Ca P w ts fl.tail us ys rf hs→Ca P w (t::ts) fl (u::us) (y::ys) (N++rf) (top++hs)
 |deep {t ts fl el e z l u us y ys top rf hs}:fl.headD false=true→Cw P t=some el→BY P el=false→DP P t=some (.row e z l)→DC w [.row e z l] [u] [y] top→Ca P w ts fl.tail us ys rf hs→Ca P w (t::ts) fl (u::us) (y::ys) rf (top++hs)
 |rd {t ts fl u us y ys f rf hs}:(fl.headD false=true→Cw P t=none)→Rd w [u] [y] f→Ca P w ts fl.tail us ys rf hs→Ca P w (t::ts) fl (u::us) (y::ys) (f++rf) hs
def OY (P:Program) (w:World) (t:TypeId) (fl:List Bool) (v:Value) (x:AV) (rf hs:List Nat):Prop:=
 ∃us ys,(if Ap P t then v= .agg us.toArray∧x= .agg ys∧ ∀u∈us,u.oneCell'=true else us= [v]∧ys= [x])∧Ca P w (A0 P t) fl us ys rf hs
def Ex (P:Program) (w:World) (t:TypeId) (fl:List Bool) (v:Value) (x:AV) (rf hs:List Nat):Prop:=
 if Gx P t fl then OY P w t fl v x rf hs else Rd w [v] [x] rf∧hs= []
inductive IT (P:Program) (w:World):List TypeId→List Bool→List Value→List AV→List Nat→List Nat→Prop where
 |nil {fl}:IT P w [] fl [] [] [] []
 |cons {t ts fl v vs x xs f h rf hs}:Ex P w t fl v x f h→IT P w ts (fl.drop (A0 P t).length) vs xs rf hs→IT P w (t::ts) fl (v::vs) (x::xs) (f++rf) (h++hs)
theorem Ca.len {P:Program} {w:World} {ts:List TypeId} {fl:List Bool} {us:List Value} {ys:List AV} {rf hs:List Nat} (h:Ca P w ts fl us ys rf hs):us.length=ts.length∧ys.length=ts.length:=by induction h<;>simp_all
theorem Ca.inb {P:Program} {w:World} {ts:List TypeId} {fl:List Bool} {us:List Value} {ys:List AV} {rf hs:List Nat} (h:Ca P w ts fl us ys rf hs):(∀b∈rf,b<w.heap.size)∧ ∀b∈hs,b<w.heap.size:=by
 induction h with
 |nil=>simp
 |deep _ _ _ _ h _ ih=>
  refine⟨ih.1,fun b hb=> ?_⟩;rcases Ah.1 hb with hb|hb
  ·exact h.inb b hb
  ·exact ih.2 b hb
 |own _ _ _ h _ ih=>
  refine⟨fun b hb=> ?_,fun b hb=> ?_⟩
  ·rcases Ah.1 hb with hb|hb
   ·obtain⟨xs,_,_,_,⟨_,_,_,rfl⟩|⟨g,cap,C,_,_,_,_,_,_,_,hr⟩⟩:=h
    ·simp at hb
    ·exact hr.inb b hb
   ·exact ih.1 b hb
  ·rcases Ah.1 hb with hb|hb
   ·obtain⟨xs,_,_,_,⟨_,_,rfl,_⟩|⟨g,cap,C,_,_,_,hh,_,rfl,_⟩⟩:=h
    ·simp at hb
    ·simp at hb;subst hb;exact Fu hh
   ·exact ih.2 b hb
 |rd _ h _ ih=>
  refine⟨fun b hb=> ?_,ih.2⟩;rcases Ah.1 hb with hb|hb
  ·exact h.inb b hb
  ·exact ih.1 b hb
structure AN where
 tag:Nat
 new:Option Value
 top:List Nat
 bm:Aj
def AN.pair (r:AN):Nat × Aj:=(r.tag,r.bm)
structure EN (c c':Cx) (w':World) (recs:List AN):Prop where
 ρ:c'.ρ=c.ρ
 w:c'.w=w'
 G: ∀r∈recs,c'.G r.tag=⟨r.top, []⟩
 new: ∀r∈recs,∀hv,r.new=some hv→c'.K r.tag 0∧(∀g,c'.K r.tag g→g≤0)∧c'.H r.tag 0=hv
 K: ∀t g,c.K t g→c'.K t g∧c'.H t g=c.H t g
 old: ∀t,c.U t→ ∀g,c'.K t g→c.K t g
 kr: ∀r∈recs,r.new.isSome=true→c'.E r.tag=0
 iy: ∀r∈recs,r.new=none→c'.E r.tag=c.E r.tag+1
theorem EN.mono {c c':Cx} {w':World} {recs recs':List AN} (h:EN c c' w' recs) (hs: ∀r∈recs',r∈recs):EN c c' w' recs':=
 ⟨h.ρ,h.w,fun r hr=>h.G r (hs r hr),fun r hr=>h.new r (hs r hr),h.K,h.old,fun r hr=>h.kr r (hs r hr),fun r hr=>h.iy r (hs r hr)⟩
section
variable {P:Program} {c:Cx} {w':World}
theorem zDc {c':Cx} {t:Nat} {u:Value} {el sz:Nat} {y:AV} {top N:List Nat} (h:CK w' el sz u y top N) (hk:c'.K t 0) (hh:c'.H t 0=u):SR c' [.own t 0] [u]:=by
 obtain⟨xs,_,_,_,⟨_,⟨a,rfl⟩,_⟩|⟨g,cap,C,rfl,_⟩⟩:=h
 ·exact .own hk hh .nil
 ·exact .own hk hh .nil
theorem P4 {nx:Nat} {mk:Nat→E} {ts:List TypeId} {fl:List Bool} {us:List Value} {ys:List AV} {rf hs:List Nat} (h:Ca P w' ts fl us ys rf hs): ∀(j:Nat),(∀i y,ys[i]?=some y→(mk (j+i)).den c.ρ=y)→
  ∃recs:List AN,(CB P nx mk j ts fl).2=recs.map AN.pair∧recs.flatMap AN.top=hs∧(∀r∈recs,nx+j≤r.tag∧r.tag<nx+j+ts.length∧r.new.isSome)∧(recs.map AN.tag).Nodup∧(∀r∈recs,r.new=us[r.tag-(nx+j)]?)∧
   ∀c',EN c c' w' recs→(∀b∈rf,c'.ok b)→SR c' (CB P nx mk j ts fl).1 us∧ ∀r∈recs,CX c' r.tag r.bm:=by
 induction h with
 |nil=>exact fun j _=>⟨[],rfl,rfl,by simp,by simp,by simp,fun c' _ _=>⟨.nil,by simp⟩⟩
 | @own t ts fl el u us y ys top N rf hs h1 h2 RJ h3 _ ih=>
  intro j FP;obtain⟨recs,e1,e2,e3,e4,e4',e5⟩:=ih (j+1) (fun i y hy=>by rw [show j+1+i=j+(i+1)from by omega];exact FP (i+1) y (by simpa using hy));have hy:=FP 0 y rfl;have aW:Rg P t el 0 0 (mk j)= .row el (P.cellsOf el) 0 (mk j) (BY P el):=by
   unfold Rg;rcases RJ with⟨h,_⟩|⟨h,h'⟩
   ·rw [if_pos h,h]
   ·rw [if_neg (by rw [h];simp),h',h]
  simp only [CB,h1,h2,aW];refine⟨⟨nx+j,some u,top, .row el (P.cellsOf el) 0 (mk j) (BY P el)⟩::recs,by simp [e1,AN.pair],by simp [e2],fun r hr=> ?_, ?_,fun r hr=> ?_,fun c' ha Ax=> ?_⟩
  ·rcases Af.1 hr with rfl|hr
   ·simp
   ·have:=e3 r hr;simp only [Ar];exact⟨by omega,by omega,this.2.2⟩
  ·simp only [List.map_cons,List.nodup_cons];refine⟨fun hm=> ?_,e4⟩;obtain⟨r,hr,Ji⟩:=List.mem_map.1 hm;have:=e3 r hr;omega
  ·rcases Af.1 hr with rfl|hr
   ·simp
   ·rw [e4' r hr];have:=e3 r hr;rw [show r.tag-(nx+j)=(r.tag-(nx+(j+1)))+1 from by omega,List.getElem?_cons_succ]
  ·obtain⟨q1,q2⟩:=e5 c' (ha.mono fun r hr=>by simp [hr]) fun b hb=>Ax b (by simp [hb]);obtain⟨k1,k2,k3⟩:=ha.new _ (List.mem_cons_self ..) u rfl;have kg:=ha.G _ (List.mem_cons_self ..);simp only at k1 k2 k3 kg;refine⟨(zDc h3 k1 k3).cons q1,fun r hr=> ?_⟩;rcases Af.1 hr with rfl|hr
   ·refine⟨k1,k2,N, ?_,fun b hb=>Ax b (by simp [hb]),fun hd=> ?_,fun _=>by rw [kg]⟩
    rotate_left
    ·rcases RJ with⟨_,h⟩|⟨h,_⟩
     ·subst h;exact⟨rfl,by rw [kg]⟩
     ·rw [h]at hd;cases hd
    rw [k3,kg,ha.w,ha.ρ];have Bm:(mk j).den c.ρ=y:=by simpa using hy
    rw [Bm];exact h3
   ·exact q2 r hr
 | @deep t ts fl el e z l u us y ys top rf hs h1 h2 RH O4 h3 _ ih=>
  intro j FP;obtain⟨recs,e1,e2,e3,e4,e4',e5⟩:=ih (j+1) (fun i y hy=>by rw [show j+1+i=j+(i+1)from by omega];exact FP (i+1) y (by simpa using hy));have hy:=FP 0 y rfl;have aW:Rg P t el 0 0 (mk j)= .deep e z l.toList 0 0 (mk j):=by unfold Rg;rw [if_neg (by rw [RH];simp),O4]
  simp only [CB,h1,h2,aW];refine⟨⟨nx+j,some u,top, .deep e z l.toList 0 0 (mk j)⟩::recs,by simp [e1,AN.pair],by simp [e2],fun r hr=> ?_, ?_,fun r hr=> ?_,fun c' ha Ax=> ?_⟩
  ·rcases Af.1 hr with rfl|hr
   ·simp
   ·have:=e3 r hr;simp only [Ar];exact⟨by omega,by omega,this.2.2⟩
  ·simp only [List.map_cons,List.nodup_cons];refine⟨fun hm=> ?_,e4⟩;obtain⟨r,hr,Ji⟩:=List.mem_map.1 hm;have:=e3 r hr;omega
  ·rcases Af.1 hr with rfl|hr
   ·simp
   ·rw [e4' r hr];have:=e3 r hr;rw [show r.tag-(nx+j)=(r.tag-(nx+(j+1)))+1 from by omega,List.getElem?_cons_succ]
  ·obtain⟨q1,q2⟩:=e5 c' (ha.mono fun r hr=>by simp [hr]) Ax;obtain⟨k1,k2,k3⟩:=ha.new _ (List.mem_cons_self ..) u rfl;have kg:=ha.G _ (List.mem_cons_self ..);have ke:=ha.kr _ (List.mem_cons_self ..) rfl;simp only at k1 k2 k3 kg ke;obtain⟨p1,p2,p3,rfl⟩:=h3.head;refine⟨(SR.own k1 k3 .nil).cons q1,fun r hr=> ?_⟩;rcases Af.1 hr with rfl|hr
   ·refine⟨k1,k2,ke, ?_,by rw [kg]⟩;have Bm:(mk j).den c.ρ=y:=by simpa using hy
    rw [k3,kg,ha.w,ha.ρ,Bm,AP.ct];exact h3
   ·exact q2 r hr
 | @rd t ts fl u us y ys f rf hs h1 h3 _ ih=>
  intro j FP;obtain⟨recs,e1,e2,e3,e4,e4',e5⟩:=ih (j+1) (fun i y hy=>by rw [show j+1+i=j+(i+1)from by omega];exact FP (i+1) y (by simpa using hy));have hy:=FP 0 y rfl;have ZV:CB P nx mk j (t::ts) fl=(.e (mk j)::(CB P nx mk (j+1) ts fl.tail).1,(CB P nx mk (j+1) ts fl.tail).2):=by
   simp only [CB];split
   ·rename_i h8 h9;rw [h1 h8]at h9;cases h9
   ·rfl
  rw [ZV];refine⟨recs,e1,e2,fun r hr=> ?_,e4,fun r hr=> ?_,fun c' ha Ax=> ?_⟩
  ·have:=e3 r hr;simp only [Ar];exact⟨by omega,by omega,this.2.2⟩
  ·rw [e4' r hr];have:=e3 r hr;rw [show r.tag-(nx+j)=(r.tag-(nx+(j+1)))+1 from by omega,List.getElem?_cons_succ]
  ·obtain⟨q1,q2⟩:=e5 c' ha fun b hb=>Ax b (by simp [hb]);have Bm:(mk j).den c.ρ=y:=by simpa using hy
   exact⟨(SR.e (f:=f) (by rw [ha.w,ha.ρ,Bm];exact h3) (fun b hb=>Ax b (by simp [hb])) .nil).cons q1,q2⟩
theorem Ov {nx:Nat} {mk:Nat→E}: ∀(j:Nat) (ts:List TypeId) (fl:List Bool) (t:Nat) (e:Aj) {gs:Gd} {f:Aj},(t,e)∈(CB P nx mk j ts fl).2→e≠ .gd gs f
 |_, [],_,_,_,_,_,h=>by simp [CB]at h
 |j,u::ts,fl,t,e,gs,f,h=>by
  unfold CB at h;split at h
  ·rcases Af.1 h with h|h
   ·cases h;unfold Rg;split
    ·simp
    ·split<;>simp
   ·exact Ov _ _ _ _ _ h
  ·exact Ov _ _ _ _ _ h
theorem Uw {ρ:List AV} {x:E} {ys:List AV} (hx:x.den ρ= .agg ys): ∀i y,ys[i]?=some y→(Ds x true (0+i)).den ρ=y:=by intro i y hy;simp [Ds,E.den,hx,AV.fld,AV.cells,hy]
theorem tG {nx:Nat} {t:TypeId} {fl:List Bool} {x:E} {v:Value} {y:AV} {rf hs:List Nat} (h:Ex P w' t fl v y rf hs) (hx:x.den c.ρ=y):
  ∃recs:List AN,(OF P nx t fl x).2=recs.map AN.pair∧recs.flatMap AN.top=hs∧(∀r∈recs,nx≤r.tag∧r.tag<nx+(A0 P t).length∧r.new.isSome)∧(recs.map AN.tag).Nodup∧
   ∀c',EN c c' w' recs→(∀b∈rf,c'.ok b)→SR c' [(OF P nx t fl x).1] [v]∧ ∀r∈recs,CX c' r.tag r.bm:=by
 unfold Ex at h;unfold OF;split at h
 ·rename_i hf;simp only [hf,if_true];obtain⟨us,ys,hg,hc⟩:=h;split at hg
  ·rename_i AB;obtain⟨rfl,rfl,CF⟩:=hg;obtain⟨recs,e1,e2,e3,e4,_,e5⟩:=P4 (c:=c) (nx:=nx) (mk:=Ds x (Ap P t)) hc 0 (by rw [AB];exact Uw hx);refine⟨recs,e1,e2,fun r hr=>by have:=e3 r hr;exact⟨by omega,by omega,this.2.2⟩,e4,fun c' ha Ax=> ?_⟩;obtain⟨q1,q2⟩:=e5 c' ha Ax;rw [if_pos AB];exact⟨.agg CF (by rw [Bn.az];exact q1) .nil,q2⟩
  ·rename_i AB;obtain⟨rfl,rfl⟩:=hg;have GJ:Ap P t=false:=by simpa using AB
   obtain⟨recs,e1,e2,e3,e4,_,e5⟩:=P4 (c:=c) (nx:=nx) (mk:=Ds x (Ap P t)) hc 0 (by
    intro i z hz;cases i with
    |zero=>simp at hz;subst hz;simp [Ds,GJ,hx]
    |succ i=>simp at hz)
   refine⟨recs,e1,e2,fun r hr=>by have:=e3 r hr;exact⟨by omega,by omega,this.2.2⟩,e4,fun c' ha Ax=> ?_⟩;obtain⟨q1,q2⟩:=e5 c' ha Ax;refine⟨?_,q2⟩;rw [if_neg AB];have hl:=q1.len;generalize (CB P nx (Ds x (Ap P t)) 0 (A0 P t) fl).1=l at q1 hl
   match l,hl with
   | [s],_=>exact q1
 ·rename_i hf;simp only [hf,if_false,AY];obtain⟨h1,rfl⟩:=h;exact⟨[],rfl,rfl,by simp,by simp,fun c' ha Ax=>⟨.e (f:=rf) (by rw [ha.w,ha.ρ,hx];exact h1) Ax .nil,by simp⟩⟩
theorem zr4 {ts:List TypeId} {fl:List Bool} {x:E} {vs:List Value} {ys:List AV} {rf hs:List Nat} (h:IT P w' ts fl vs ys rf hs): ∀(nx i:Nat),(∀k y,ys[k]?=some y→(E.proj x (i+k)).den c.ρ=y)→
  ∃recs:List AN,(Mx P nx ts fl x i).2=recs.map AN.pair∧recs.flatMap AN.top=hs∧(∀r∈recs,nx≤r.tag∧r.tag<nx+(ts.flatMap (A0 P)).length∧r.new.isSome)∧(recs.map AN.tag).Nodup∧
   ∀c',EN c c' w' recs→(∀b∈rf,c'.ok b)→SR c' (Mx P nx ts fl x i).1 vs∧ ∀r∈recs,CX c' r.tag r.bm:=by
 induction h with
 |nil=>exact fun nx i _=>⟨[],rfl,rfl,by simp,by simp,fun c' _ _=>⟨.nil,by simp⟩⟩
 | @cons t ts fl v vs y ys f h rf hs h1 _ ih=>
  intro nx i hx;obtain⟨r1,a1,a2,a3,a4,a5⟩:=tG (c:=c) (nx:=nx) (x:= .proj x i) h1 (hx 0 y rfl);obtain⟨r2,b1,b2,b3,b4,b5⟩:=ih (nx+(A0 P t).length) (i+1) (fun k z hz=>by rw [show i+1+k=i+(k+1)from by omega];exact hx (k+1) z (by simpa using hz));simp only [Mx];refine⟨r1++r2,by simp [a1,b1],by simp [a2,b2],fun r hr=> ?_, ?_,fun c' ha Ax=> ?_⟩
  ·simp only [List.flatMap_cons,Ao];rcases Ah.1 hr with hr|hr
   ·have:=a3 r hr;exact⟨this.1,by omega,this.2.2⟩
   ·have:=b3 r hr;exact⟨by omega,by omega,this.2.2⟩
  ·rw [List.map_append,List.nodup_append];refine⟨a4,b4,fun t1 SL t2 KP he=> ?_⟩;obtain⟨q1,Fy,rfl⟩:=List.mem_map.1 SL;obtain⟨q2,Ed,rfl⟩:=List.mem_map.1 KP;have:=a3 q1 Fy;have:=b3 q2 Ed;omega
  ·obtain⟨p1,p2⟩:=a5 c' (ha.mono fun r hr=>by simp [hr]) fun b hb=>Ax b (by simp [hb]);obtain⟨q1,q2⟩:=b5 c' (ha.mono fun r hr=>by simp [hr]) fun b hb=>Ax b (by simp [hb]);refine⟨p1.cons q1,fun r hr=> ?_⟩;rcases Ah.1 hr with hr|hr
   ·exact p2 r hr
   ·exact q2 r hr
end
theorem Uk {α:Type} {f:α→List Nat}: ∀{l:List α},(l.flatMap f).Nodup→(∀a∈l,(f a).Nodup)∧ ∀(i j:Nat) (a b:α) (x:Nat),l[i]?=some a→l[j]?=some b→x∈f a→x∈f b→i=j
 | [],_=>⟨by simp,by simp⟩
 |a::l,h=>by
  rw [List.flatMap_cons,List.nodup_append]at h;obtain⟨h1,h2,h3⟩:=h;obtain⟨k1,k2⟩:=Uk h2;refine⟨fun b hb=> ?_,fun i j p q x hi hj hp hq=> ?_⟩
  ·rcases Af.1 hb with rfl|hb
   ·exact h1
   ·exact k1 b hb
  ·cases i with
   |zero=>
    cases j with
    |zero=>rfl
    |succ j=>simp at hi hj;subst hi;exact absurd rfl (h3 x hp x (List.mem_flatMap.2 ⟨q,List.mem_of_getElem? hj,hq⟩))
   |succ i=>
    cases j with
    |zero=>simp at hi hj;subst hj;exact absurd rfl (h3 x hq x (List.mem_flatMap.2 ⟨p,List.mem_of_getElem? hi,hp⟩))
    |succ j=>rw [k2 i j p q x (by simpa using hi) (by simpa using hj) hp hq]
theorem QR {recs:List AN} (hn:(recs.map AN.tag).Nodup) {r:AN} (hr:r∈recs) (p:AN→Bool) (hp:p r=true) (DZ: ∀q,p q=true→q.tag=r.tag):recs.find? p=some r:=by
 induction recs with
 |nil=>simp at hr
 |cons q recs ih=>
  simp only [List.map_cons,List.nodup_cons]at hn;rw [List.find?_cons];rcases Af.1 hr with rfl|hr
  ·simp [hp]
  ·have:p q=false:=by
    cases hq:p q with
    |false=>rfl
    |true=>exact absurd (List.mem_map.2 ⟨r,hr,(DZ q hq).symm⟩) hn.1
   rw [this];exact ih hn.2 hr
def Cx.dj (c:Cx) (w':World) (recs:List AN):Cx:=
 {c with w:=w',G:=fun t=>(match recs.find? (fun r=>r.tag==t)with|some r=>⟨r.top, []⟩|none=>c.G t),K:=fun t g=>c.K t g∨ ∃r∈recs,r.tag=t∧r.new.isSome=true∧g=0,H:=fun t g=>(match recs.find? (fun r=>r.tag==t&&r.new.isSome)with|some r=>r.new.getD undef|none=>c.H t g),U:=fun t=>c.U t∨ ∃r∈recs,r.tag=t,E:=fun t=>match recs.find? (fun r=>r.tag==t)with|some r=>if r.new.isSome then 0 else c.E t+1|none=>c.E t}
section
variable {P:Program} {c:Cx} {n:Nat} {sl:Nat→SV} {hp:Nat→Option Aj} {a:Act} {w':World} {recs:List AN}
theorem Cx.dq (hn:(recs.map AN.tag).Nodup) {r:AN} (hr:r∈recs):(c.dj w' recs).G r.tag=⟨r.top, []⟩:=by simp only [Cx.dj];rw [QR hn hr (fun q=>q.tag==r.tag) (by simp) (fun q hq=>by simpa using hq)]
theorem Cx.c6 {t:Nat} (ht: ∀r∈recs,r.tag≠t):(c.dj w' recs).G t=c.G t:=by
 simp only [Cx.dj];have:recs.find? (fun r=>r.tag==t)=none:=by rw [List.find?_eq_none];intro r hr;simpa using ht r hr
 rw [this]
theorem Cx.dk (hU: ∀t g,c.K t g→c.U t) (hn:(recs.map AN.tag).Nodup) (AS: ∀r∈recs,r.new.isSome=true→ ¬c.U r.tag):EN c (c.dj w' recs) w' recs:=by
 refine⟨rfl,rfl,fun r hr=>Cx.dq hn hr,fun r hr hv VO=>⟨.inr ⟨r,hr,rfl,by simp [VO],rfl⟩,fun g hg=> ?_, ?_⟩,fun t g hk=>⟨.inl hk, ?_⟩,fun t ht g hk=> ?_,fun r hr hs=> ?_,fun r hr hs=> ?_⟩
 ·rcases hg with hg|⟨_,_,_,_,rfl⟩
  ·exact absurd (hU _ _ hg) (AS r hr (by simp [VO]))
  ·exact Nat.le_refl _
 ·simp only [Cx.dj];rw [QR hn hr (fun q=>q.tag==r.tag&&q.new.isSome) (by simp [VO]) (fun q hq=>by simp only [Ae,beq_iff_eq]at hq;exact hq.1)];simp [VO]
 ·simp only [Cx.dj];have:recs.find? (fun r=>r.tag==t&&r.new.isSome)=none:=by
   rw [List.find?_eq_none];rintro r hr hh;simp only [Ae,beq_iff_eq]at hh;exact AS r hr hh.2 (hh.1▸hU t g hk)
  rw [this]
 ·rcases hk with hk|⟨r,hr,rfl,hh,_⟩
  ·exact hk
  ·exact absurd ht (AS r hr hh)
 ·simp only [Cx.dj];rw [QR hn hr (fun q=>q.tag==r.tag) (by simp) (fun q hq=>by simpa using hq)];simp [hs]
 ·simp only [Cx.dj];rw [QR hn hr (fun q=>q.tag==r.tag) (by simp) (fun q hq=>by simpa using hq)];simp [hs]
theorem Cx.j2 {t:Nat} (ht: ∀r∈recs,r.tag≠t):(c.dj w' recs).E t=c.E t:=by
 simp only [Cx.dj];have:recs.find? (fun r=>r.tag==t)=none:=by rw [List.find?_eq_none];intro r hr;simpa using ht r hr
 rw [this]
theorem Rel.changes (h:Rel c n sl hp a) {hs:List Nat} {gs:Gd} (k:Bb c.ρ gs) (C8:Mod hs c.w w') (hn:(recs.map AN.tag).Nodup) (AS: ∀r∈recs,r.new.isSome=true→ ¬c.U r.tag)
  (GR: ∀b∈hs,∃r∈recs,b∈(c.G r.tag).top) (Et:(recs.flatMap AN.top).Nodup) (BZ: ∀r∈recs,∀b∈r.top,(b∈hs∨c.w.heap.size≤b)∧b<w'.heap.size)
  (A9: ∀r∈recs,∀hs f,r.bm≠ .gd hs f) (Bk:Dv c (c.dj w' recs)→ ∀r∈recs,CX (c.dj w' recs) r.tag r.bm):
  Rel (c.dj w' recs) n sl (A4 hp (recs.map fun r=>(r.tag,CC gs r.bm))) a∧Dv c (c.dj w' recs):=by
 have aft:=Cx.dk (w':=w') h.bu hn AS;have oJ: ∀b∈hs,c.M b:=fun b hb=>by obtain⟨r,_,hr⟩:=GR b hb;exact⟨_,hr⟩
 have Bq: ∀b∈hs,c.B≤b∨c.Mu b:=fun b hb=>by obtain⟨r,_,hr⟩:=GR b hb;exact h.gw.allow r.tag b (by simp [GI.own,hr])
 have BK:Dv c (c.dj w' recs):=by
  refine⟨rfl,rfl,fun b hb Ax=>⟨fun⟨t,ht⟩=> ?_,Ax.2⟩,fun b hb Ax=>C8.block b hb fun hh=>Ax.1 (oJ b hh),aft.K,fun t g hk=> ?_⟩;by_cases hT: ∃r∈recs,r.tag=t
  ·obtain⟨r,hr,rfl⟩:=hT;rw [Cx.dq hn hr]at ht;rcases(BZ r hr b ht).1 with hh|hh
   ·exact Ax.1 (oJ b hh)
   ·omega
  ·rw [Cx.c6 fun r hr hh=>hT ⟨r,hr,hh⟩]at ht;exact Ax.1 ⟨t,ht⟩
  ·by_cases hT: ∃r∈recs,r.tag=t
   ·obtain⟨r,hr,rfl⟩:=hT;have DB:r.new=none:=by
     cases hh:r.new with
     |none=>rfl
     |some v=>exact absurd (h.bu _ _ hk) (AS r hr (by simp [hh]))
    rw [aft.iy r hr DB];exact⟨by omega,fun h=>by omega⟩
   ·have nN: ∀r∈recs,r.tag≠t:=fun r hr hh=>hT ⟨r,hr,hh⟩;rw [Cx.j2 nN,Cx.c6 nN];refine⟨Nat.le_refl _,fun _=>⟨rfl,fun b hb EZ=>C8.block b EZ fun hh=> ?_⟩⟩;obtain⟨r,hr,FH⟩:=GR b hh;exact h.gw.cm t r.tag (fun hh=>hT ⟨r,hr,hh.symm⟩) b (by simp [GI.own,hb]) (by simp [GI.own,FH])
 have Bk:=Bk BK;have Jm: ∀r∈recs,∀e',(r.tag,e')∈(recs.map fun r=>(r.tag,CC gs r.bm))→e'=CC gs r.bm:=by
  intro r hr e' EA;obtain⟨q,hq,IA⟩:=List.mem_map.1 EA;simp only [Prod.mk.injEq]at IA;obtain⟨h1,rfl⟩:=IA;have e1:=Cx.dq (c:=c) (w':=w') hn hr;have:q=r:=by have f1:=QR hn hr (fun q=>q.tag==r.tag) (by simp) (fun q hq=>by simpa using hq);have f2:=QR hn hq (fun p=>p.tag==r.tag) (by simp [h1]) (fun p hp=>by rw [h1];simpa using hp);rw [f1]at f2;cases f2;rfl
  rw [this]
 refine⟨h.change (fun t=> ∃r∈recs,r.tag=t) BK ⟨C8.os.trans h.base.os,C8.tape.trans h.base.tape,C8.output.trans h.base.output,Nat.le_trans h.base.size C8.size,fun t v Ph=>⟨.inl (h.base.pins t v Ph).1,fun hk=> ?_⟩,fun b hb H7=> ?_,h.base.pk,h.base.lo⟩
  (fun t ht=>⟨K9 fun e he=> ?_,Cx.c6 fun r hr hh=>ht ⟨r,hr,hh⟩,Cx.j2 fun r hr hh=>ht ⟨r,hr,hh⟩,fun g hg=> ?_⟩) (fun t ht b hb=>C8.block b (h.gw.inb t b (by simp [GI.own,hb])) fun hh=> ?_) (fun t ht=> ?_) ⟨fun t=> ?_,fun t u L0 b hb BT=> ?_,fun t b hb=> ?_,fun t b hb=> ?_⟩ (fun t g hk=> ?_) (fun t e he=> ?_),BK⟩
 ·have BM:=aft.old t (h.base.pins t v Ph).1 0 hk;rw [(aft.K t 0 BM).2];exact(h.base.pins t v Ph).2 BM
 ·refine(C8.block b (Nat.lt_of_lt_of_le hb h.base.size) fun hh=> ?_).trans (h.base.block b hb H7);rcases Bq b hh with h1|h1
  ·exact absurd h1 (Nat.not_le.2 hb)
  ·exact H7 h1
 ·obtain⟨q,hq,IA⟩:=List.mem_map.1 he;simp only [Prod.mk.injEq]at IA;exact ht ⟨q,hq,IA.1⟩
 ·rcases hg with hg|⟨r,hr,Ji,_⟩
  ·exact hg
  ·exact absurd ⟨r,hr,Ji⟩ ht
 ·obtain⟨r,hr,EZ⟩:=GR b hh;exact h.gw.cm t r.tag (fun hh=>ht ⟨r,hr,hh.symm⟩) b (by simp [GI.own,hb]) (by simp [GI.own,EZ])
 ·obtain⟨r,hr,rfl⟩:=ht;have DD:=lJ (hp:=hp) (l:=recs.map fun r=>(r.tag,CC gs r.bm)) (List.mem_map.2 ⟨r,hr,rfl⟩) (Jm r hr);rw [DD];refine⟨fun e' SF=> ?_,fun DB=> ?_⟩
  ·rw [(QS k (A9 r hr)).1 SF];exact Bk r hr
  ·exact absurd ((QS k (A9 r hr)).2 rfl) (DB r.bm)
 ·by_cases hT: ∃r∈recs,r.tag=t
  ·obtain⟨r,hr,rfl⟩:=hT;rw [Cx.dq hn hr];simpa [GI.own]using(Uk Et).1 r hr
  ·rw [Cx.c6 fun r hr hh=>hT ⟨r,hr,hh⟩];exact h.gw.nodup t
 ·by_cases hT: ∃r∈recs,r.tag=t
  ·obtain⟨r,hr,rfl⟩:=hT;rw [Cx.dq hn hr]at hb;simp only [GI.own,List.append_nil]at hb;by_cases hV: ∃r∈recs,r.tag=u
   ·obtain⟨q,hq,rfl⟩:=hV;rw [Cx.dq hn hq]at BT;simp only [GI.own,List.append_nil]at BT;obtain⟨i,hi⟩:=List.getElem?_of_mem hr;obtain⟨j,hj⟩:=List.getElem?_of_mem hq;have:=(Uk Et).2 i j r q b hi hj hb BT;subst this;rw [hi]at hj;cases hj;exact L0 rfl
   ·rw [Cx.c6 fun r hr hh=>hV ⟨r,hr,hh⟩]at BT;rcases(BZ r hr b hb).1 with hh|hh
    ·obtain⟨q,hq,hbq⟩:=GR b hh;exact h.gw.cm q.tag u (fun hh=>hV ⟨q,hq,hh⟩) b (by simp [GI.own,hbq]) BT
    ·have:=h.gw.inb u b BT;omega
  ·rw [Cx.c6 fun r hr hh=>hT ⟨r,hr,hh⟩]at hb;by_cases hV: ∃r∈recs,r.tag=u
   ·obtain⟨q,hq,rfl⟩:=hV;rw [Cx.dq hn hq]at BT;simp only [GI.own,List.append_nil]at BT;rcases(BZ q hq b BT).1 with hh|hh
    ·obtain⟨r,hr,VA⟩:=GR b hh;exact h.gw.cm r.tag t (fun hh=>hT ⟨r,hr,hh⟩) b (by simp [GI.own,VA]) hb
    ·have:=h.gw.inb t b hb;omega
   ·rw [Cx.c6 fun r hr hh=>hV ⟨r,hr,hh⟩]at BT;exact h.gw.cm t u L0 b hb BT
 ·by_cases hT: ∃r∈recs,r.tag=t
  ·obtain⟨r,hr,rfl⟩:=hT;rw [Cx.dq hn hr]at hb;simp only [GI.own,List.append_nil]at hb;rcases(BZ r hr b hb).1 with hh|hh
   ·exact Bq b hh
   ·exact .inl (Nat.le_trans h.base.size hh)
  ·rw [Cx.c6 fun r hr hh=>hT ⟨r,hr,hh⟩]at hb;exact h.gw.allow t b hb
 ·by_cases hT: ∃r∈recs,r.tag=t
  ·obtain⟨r,hr,rfl⟩:=hT;rw [Cx.dq hn hr]at hb;simp only [GI.own,List.append_nil]at hb;exact(BZ r hr b hb).2
  ·rw [Cx.c6 fun r hr hh=>hT ⟨r,hr,hh⟩]at hb;exact Nat.lt_of_lt_of_le (h.gw.inb t b hb) C8.size
 ·rcases hk with hk|⟨r,hr,Ji,_⟩
  ·exact .inl (h.bu t g hk)
  ·exact .inr ⟨r,hr,Ji⟩
 ·by_cases hT: ∃r∈recs,r.tag=t
  ·exact .inr hT
  ·rw [K9]at he
   ·exact .inl (h.cq t e he)
   ·intro e' EA;obtain⟨q,hq,IA⟩:=List.mem_map.1 EA;simp only [Prod.mk.injEq]at IA;exact hT ⟨q,hq,IA.1⟩
end
def dJ (P:Program) (w:World) (t:TypeId):PM→Value→AV→List Nat→List Nat→Prop
 | .ro,v,x,rf,hs=>Rd w [v] [x] rf∧hs= []
 | .va own,v,x,rf,hs=>OY P w t own v x rf hs
 | .mu own,v,x,rf,hs=>OY P w t own v x rf hs
 | .bx own _,v,x,rf,hs=> ∃(ty:TypeId) (b:Nat) (C:Array Value) (ys:List AV) (h:List Nat),J2 P t=some ty∧v= .pointer (some ⟨b,0,none⟩)∧w.heap[b]?=some (.cells C ty (0,0))∧(∀u∈C.toList,u.oneCell'=true)∧x= .ref (.agg ys)∧
   Ca P w (A0 P ty) own C.toList ys rf h∧hs=b::h
inductive Dr (P:Program) (w:World):List TypeId→List PM→List Bool→List Value→List AV→List Nat→List Nat→List Nat→Prop where
 |nil {ms lo}:Dr P w [] ms lo [] [] [] [] []
 |cons {t ts ms lo v vs x xs f h rf lf hs}:dJ P w t (ms.headD .ro) v x f h→Dr P w ts ms.tail lo.tail vs xs rf lf hs→Dr P w (t::ts) ms lo (v::vs) (x::xs) (f++rf) lf (h++hs)
 |lent {t ts ms lo v vs x xs f rf lf hs}:lo.headD false=true→ms.headD .ro= .ro→Rd w [v] [x] f→Dr P w ts ms.tail lo.tail vs xs rf lf hs→Dr P w (t::ts) ms lo (v::vs) (x::xs) rf (f++lf) hs
 |free {ms lo v vs x xs f rf lf hs}:Rd w [v] [x] f→Dr P w [] ms.tail lo.tail vs xs rf lf hs→Dr P w [] ms lo (v::vs) (x::xs) (f++rf) lf hs
inductive Gz (P:Program) (c:Cx):List TypeId→List Bool→List Value→List (Option RI)→Prop where
 |nil {fl}:Gz P c [] fl [] []
 |row {t ts fl v vs u g el rs}:fl.headD false=true→Cw P t=some el→(BY P el=true∨DP P t=none)→c.K u g→c.H u g=v→(∀g',c.K u g'→g'≤g)→Gz P c ts fl.tail vs rs→Gz P c (t::ts) fl (v::vs) (some (.fl u g el (P.cellsOf el) (BY P el))::rs)
 |deep {t ts fl v vs u g el e z l ep rs}:fl.headD false=true→Cw P t=some el→BY P el=false→DP P t=some (.row e z (AP.of l))→c.K u g→c.H u g=v→(∀g',c.K u g'→g'≤g)→c.E u=ep→Gz P c ts fl.tail vs rs→Gz P c (t::ts) fl (v::vs) (some (.dp u g e z l ep)::rs)
 |none {t ts fl v vs rs}:(fl.headD false=true→Cw P t=none∨ ∃a,v= .slice a 0 0)→Gz P c ts fl.tail vs rs→Gz P c (t::ts) fl (v::vs) (none::rs)
inductive IF (P:Program) (c:Cx):List TypeId→List PM→List Value→List PA→Prop where
 |nil {ts ms}:IF P c ts ms [] []
 |ro {ts ms v vs bs}:ms.headD .ro= .ro→IF P c ts.tail ms.tail vs bs→IF P c ts ms (v::vs) bs
 |va {ts ms own v vs bs us}:ms.headD .ro= .va own→(∀u∈us,c.U u)→IF P c ts.tail ms.tail vs bs→IF P c ts ms (v::vs) (.va us::bs)
 |mu {t ts ms own v vs bs us rs}:ms.headD .ro= .mu own→(if Ap P t then v= .agg us.toArray else us= [v])→Gz P c (A0 P t) own us rs→IF P c ts ms.tail vs bs→IF P c (t::ts) ms (v::vs) (.mu rs (Ap P t)::bs)
 |bx {t ts ms own own' ty v vs bs T b g olds}:ms.headD .ro= .bx own own'→J2 P t=some ty→v= .pointer (some ⟨b,0,none⟩)→c.K T 0→c.H T 0=v→(∀u∈olds,c.U u)→IF P c ts ms.tail vs bs→IF P c (t::ts) ms (v::vs) (.box T g own' ty olds::bs)
section
variable {P:Program} {c:Cx} {hp:Nat→Option Aj} {gs:Gd}
theorem YZ {t el:TypeId} {d:DT} (Bo:Cw P t=some el) (h:DP P t=some d):P.cellsOf el≠0∧(A0 P el).length=P.cellsOf el∧ ∃l:List DT,d= .row el (P.cellsOf el) (AP.of l)∧l.length=P.cellsOf el:=by
 have hu:=Kc Bo;unfold DP at h;split at h
 ·cases h
 simp only [Zi,hu]at h;split at h
 ·cases h
 ·rename_i hh;simp only [not_or,Decidable.not_not,ne_eq]at hh;obtain⟨l,hl,rfl⟩:=At.1 h;exact⟨hh.1,hh.2,l,rfl,by rw [mapM_len _ _ hl];exact hh.2⟩
where
 mapM_len {α β:Type} {f:α→Option β}: ∀(l:List α) (l':List β),l.mapM f=some l'→l'.length=l.length
  | [],l',h=>by simp at h;subst h;rfl
  |a::l,l',h=>by simp only [List.mapM_cons,Option.bind_eq_bind,Av,Option.pure_def,Ag]at h;obtain⟨b,_,bs,Fj,rfl⟩:=h;simp [mapM_len l bs Fj]
theorem Ca.void {w:World} {t el:TypeId} {ts:List TypeId} {fl:List Bool} {a:Option Addr} {us:List Value} {ys:List AV} {rf hs:List Nat} (h1:fl.headD false=true) (h2:Cw P t=some el) (hz:P.cellsOf el≠0) (h:Ca P w ts fl.tail us ys rf hs):Ca P w (t::ts) fl (.slice a 0 0::us) (.sl []::ys) rf ([]++hs):=by
 have Bq:CK w el (P.cellsOf el) (.slice a 0 0) (.sl []) [] []:=⟨[],rfl,by simp,by omega, .inl ⟨rfl,⟨a,rfl⟩,rfl,rfl⟩⟩
 cases hf:BY P el with
 |true=>exact .own h1 h2 (.inl ⟨hf,rfl⟩) Bq h
 |false=>
  cases hd:DP P t with
  |none=>exact .own h1 h2 (.inr ⟨hf,hd⟩) Bq h
  |some d=>obtain⟨_,_,l,rfl,hl⟩:=YZ h2 hd;exact .deep h1 h2 hf hd (.void (by omega) (by rw [AP.az];exact hl) .nil) h
theorem uH {as_ bs:List Value} (h:Value.agg as_.toArray= .agg bs.toArray):as_=bs:=by
 have h1:as_.toArray=bs.toArray:=by injection h
 have:=congrArg Array.toList h1;simpa using this
theorem hP (eh:EH c hp) (k:Bb c.ρ gs) (hU: ∀t g,c.K t g→c.U t): ∀(ts:List TypeId) {cs:List SV} {fl:List Bool} {rs:List (Option RI)} {us:List Nat} {vs:List Value} {xs:EL} {m:Nat},Ha P hp gs ts cs fl=some (rs,us)→SR c cs vs→Cc hp gs m cs=some xs→m≤AT→
  ∃rf hs,Ca P c.w ts fl vs (xs.den c.ρ) rf hs∧(∀b∈rf,c.ed us b)∧hs=(Cq rs).flatMap (fun t=>(c.G t).top)∧Gz P c ts fl vs rs∧ ∀u∈Cq rs,c.U u
 | [], [],fl,rs,us,vs,xs,m,h,hs,hx,hm=>by
  simp [Ha]at h;obtain⟨rfl,rfl⟩:=h;cases hs;cases m with
  |zero=>simp [Cc]at hx
  |succ m=>simp [Cc]at hx;subst hx;exact⟨[], [], .nil,by simp,by simp [Cq], .nil,by simp [Cq]⟩
 | [],s::cs,fl,rs,us,vs,xs,m,h,hs,hx,hm=>by simp [Ha]at h
 |t::ts, [],fl,rs,us,vs,xs,m,h,hs,hx,hm=>by simp [Ha]at h
 |t::ts,s::cs,fl,rs,us, [],xs,m,h,hs,hx,hm=>by have:=hs.len;simp at this
 |t::ts,s::cs,fl,rs,us,v::vs,xs,m,h,hs,hx,hm=>by
  obtain⟨j,y,ys,rfl,hy,De,rfl⟩:=Ka hx;obtain⟨r1,r2⟩:=hs.cd;unfold Ha at h;split at h
  ·cases h
  rename_i rs' us' CR;obtain⟨rf,Ba,q1,q2,q3,q4,q5⟩:=hP eh k hU ts CR r2 De (by omega);split at h
  ·rename_i hf;split at h
   ·rename_i r hr;simp only [Ag,Prod.mk.injEq]at h;obtain⟨rfl,rfl⟩:=h;unfold lF at hr;split at hr
    ·cases hr
    rename_i el Bo;split at hr
    ·cases hr
    rename_i hz;have empt: ∀a,v= .slice a 0 0→y.den c.ρ= .sl []→r=none→ ∃rf hs,Ca P c.w (t::ts) fl (v::vs) ((EL.cons y ys).den c.ρ) rf hs∧(∀b∈rf,c.ed us' b)∧hs=(Cq (r::rs')).flatMap (fun t=>(c.G t).top)∧Gz P c (t::ts) fl (v::vs) (r::rs')∧ ∀u∈Cq (r::rs'),c.U u:=by rintro a rfl Ib rfl;refine⟨rf, []++Ba, ?_,q2,by simpa [Cq]using q3, .none (fun _=> .inr ⟨a,rfl⟩) q4,by simpa [Cq]using q5⟩;rw [EL.den,Ib];exact Ca.void hf Bo (by omega) q1
    split at hr
    ·simp only [Ag]at hr;subst hr;cases r1 with
     |b8 _=>exact empt _ rfl (by rw [K7 hy];rfl) rfl
    ·simp only [Ag]at hr;subst hr;cases r1 with
     |emp _=>
      refine empt _ rfl ?_ rfl;cases j with
      |zero=>simp [Bf]at hy
      |succ j=>simp [Bf]at hy;subst hy;rfl
    ·rename_i u g;split at hr
     ·rename_i e z g' x d hl;split at hr
      ·rename_i hh;obtain⟨rfl,rfl,rfl,GN⟩:=hh;simp only [Ag]at hr;subst hr;obtain⟨p1,p2,N,p3,p4,p5,_⟩:=eh u _ (CH hl k);have Ni:BY P e=true∨DP P t=none:=GN.imp (·.1) (by rintro⟨_,h⟩;simpa using h);have GN:BY P e=true∧N= []∨BY P e=false∧DP P t=none:=by
        rcases GN with⟨h1,h2⟩|⟨h1,h2⟩
        ·exact .inl ⟨h1,(p5 h2).1⟩
        ·exact .inr ⟨h1,by simpa using h2⟩
       have G4:y=x:=by
        cases j with
        |zero=>simp [Bf]at hy
        |succ j=>simp [Bf,Ii,hl]at hy;exact hy.symm
       subst G4;have hv:c.H u g=v:=by
        cases r1 with
        |own _ k2 _=>exact k2
       rw [hv]at p3;refine⟨N++rf,(c.G u).top++Ba,Ca.own hf Bo GN p3 q1,fun b hb=> ?_,by simp [Cq,RI.tag,q3], .row hf Bo Ni p1 hv p2 q4,fun w hw=> ?_⟩
       ·rcases Ah.1 hb with hb|hb
        ·exact .inl (p4 b hb)
        ·exact q2 b hb
       simp only [Cq,List.filterMap_cons,Option.map_some,RI.tag,Af]at hw;rcases hw with rfl|hw
       ·exact hU _ _ p1
       ·exact q5 w hw
      ·cases hr
     ·rename_i e z l g' ep x hl;split at hr
      ·rename_i hh;obtain⟨rfl,FT,Dy⟩:=hh;have Dy:=Yw Dy;simp only [Ag]at hr;subst hr;obtain⟨p1,p2,pE,p3,_⟩:=eh u _ (CH hl k);have G4:y=x:=by
        cases j with
        |zero=>simp [Bf]at hy
        |succ j=>simp [Bf,Ii,hl]at hy;exact hy.symm
       subst G4;have hv:c.H u g=v:=by
        cases r1 with
        |own _ k2 _=>exact k2
       rw [hv]at p3;refine⟨rf,(c.G u).top++Ba,Ca.deep hf Bo FT Dy p3 q1,q2,by simp [Cq,RI.tag,q3], .deep hf Bo FT Dy p1 hv p2 pE q4,fun w hw=> ?_⟩;simp only [Cq,List.filterMap_cons,Option.map_some,RI.tag,Af]at hw;rcases hw with rfl|hw
       ·exact hU _ _ p1
       ·exact q5 w hw
      ·cases hr
     ·cases hr
    ·cases hr
   ·cases h
  ·rename_i hf;simp only [Ag,Prod.mk.injEq]at h;obtain⟨rfl,rfl⟩:=h;obtain⟨f,p1,p2⟩:=HM eh k j hy r1 AT (by omega);refine⟨f++rf,Ba,Ca.rd (fun hh=>absurd hh hf) p1 q1,fun b hb=> ?_,by simpa [Cq]using q3, .none (fun hh=>absurd hh hf) q4,by simpa [Cq]using q5⟩;rcases Ah.1 hb with hb|hb
   ·exact(p2 b hb).mono fun t ht=>by simp [ht]
   ·exact(q2 b hb).mono fun t ht=>by simp [ht]
theorem uS (eh:EH c hp) (k:Bb c.ρ gs) (hU: ∀t g,c.K t g→c.U t) {t:TypeId} {s:SV} {v:Value} {fl:List Bool} {rs:List (Option RI)} {us:List Nat} {x:E} (hs:SR c [s] [v]) (hx:Bf hp gs AT s=some x) (hg:(HH s).2=Ap P t)
  (h:Ha P hp gs (A0 P t) (HH s).1 fl=some (rs,us)):
  ∃rf hs,OY P c.w t fl v (x.den c.ρ) rf hs∧(∀b∈rf,c.ed us b)∧hs=(Cq rs).flatMap (fun t=>(c.G t).top)∧(∃vs',(if Ap P t then v= .agg vs'.toArray else vs'= [v])∧Gz P c (A0 P t) fl vs' rs)∧ ∀u∈Cq rs,c.U u:=by
 have single: ∀(s:SV),SR c [s] [v]→Bf hp gs AT s=some x→Ap P t=false→Ha P hp gs (A0 P t) [s] fl=some (rs,us)→ ∃rf hs,OY P c.w t fl v (x.den c.ρ) rf hs∧(∀b∈rf,c.ed us b)∧hs=(Cq rs).flatMap (fun t=>(c.G t).top)∧(∃vs',(if Ap P t then v= .agg vs'.toArray else vs'= [v])∧Gz P c (A0 P t) fl vs' rs)∧ ∀u∈Cq rs,c.U u:=by
  intro s hs hx AB h;obtain⟨t0,bO⟩: ∃t0,A0 P t= [t0]:=by
   cases hh:A0 P t with
   |nil=>rw [hh]at h;simp [Ha]at h
   |cons t0 l=>
    cases l with
    |nil=>exact⟨t0,rfl⟩
    |cons t1 l=>rw [hh]at h;simp [Ha]at h
  rw [bO]at h;have key: ∃rf hs,Ca P c.w [t0] fl [v] [x.den c.ρ] rf hs∧(∀b∈rf,c.ed us b)∧hs=(Cq rs).flatMap (fun t=>(c.G t).top)∧Gz P c [t0] fl [v] rs∧ ∀u∈Cq rs,c.U u:=by
   unfold Ha at h;simp only [Ha]at h;split at h
   ·rename_i hf;split at h
    ·rename_i r hr;simp only [Ag,Prod.mk.injEq]at h;obtain⟨rfl,rfl⟩:=h;unfold lF at hr;split at hr
     ·cases hr
     rename_i el Bo;split at hr
     ·cases hr
     rename_i hz;have empt: ∀a,v= .slice a 0 0→x.den c.ρ= .sl []→r=none→ ∃rf hs,Ca P c.w [t0] fl [v] [x.den c.ρ] rf hs∧(∀b∈rf,c.ed ([]:List Nat) b)∧hs=(Cq [r]).flatMap (fun t=>(c.G t).top)∧Gz P c [t0] fl [v] [r]∧ ∀u∈Cq [r],c.U u:=by rintro a rfl Ib rfl;refine⟨[], []++ [], ?_,by simp,by simp [Cq], .none (fun _=> .inr ⟨a,rfl⟩) .nil,by simp [Cq]⟩;rw [Ib];exact Ca.void hf Bo (by omega) .nil
     split at hr
     ·simp only [Ag]at hr;subst hr;cases hs with
      |b8 _=>exact empt _ rfl (by rw [K7 hx];rfl) rfl
     ·simp only [Ag]at hr;subst hr;cases hs with
      |emp _=>refine empt _ rfl ?_ rfl;simp [AT,Bf]at hx;subst hx;rfl
     ·rename_i u g;split at hr
      ·rename_i e z g' x0 d hl;split at hr
       ·rename_i hh;obtain⟨rfl,rfl,rfl,GN⟩:=hh;simp only [Ag]at hr;subst hr;obtain⟨p1,p2,N,p3,p4,p5,_⟩:=eh u _ (CH hl k);have Ni:BY P e=true∨DP P t0=none:=GN.imp (·.1) (by rintro⟨_,h⟩;simpa using h);have GN:BY P e=true∧N= []∨BY P e=false∧DP P t0=none:=by
         rcases GN with⟨h1,h2⟩|⟨h1,h2⟩
         ·exact .inl ⟨h1,(p5 h2).1⟩
         ·exact .inr ⟨h1,by simpa using h2⟩
        have G4:x=x0:=by simp [AT,Bf,Ii,hl]at hx;exact hx.symm
        subst G4;have hv:c.H u g=v:=by
         cases hs with
         |own _ k2 _=>exact k2
        rw [hv]at p3;refine⟨N++ [],(c.G u).top++ [],Ca.own hf Bo GN p3 .nil,fun b hb=> .inl (p4 b (by simpa using hb)),by simp [Cq,RI.tag], .row hf Bo Ni p1 hv p2 .nil,fun w hw=> ?_⟩;simp only [Cq,List.filterMap_cons,Option.map_some,RI.tag,List.filterMap_nil,Af,List.not_mem_nil,or_false]at hw;subst hw;exact hU _ _ p1
       ·cases hr
      ·rename_i e z l g' ep x0 hl;split at hr
       ·rename_i hh;obtain⟨rfl,FT,Dy⟩:=hh;have Dy:=Yw Dy;simp only [Ag]at hr;subst hr;obtain⟨p1,p2,pE,p3,_⟩:=eh u _ (CH hl k);have G4:x=x0:=by
         simp [AT,Bf,Ii,hl]at hx;exact hx.symm
        subst G4;have hv:c.H u g=v:=by
         cases hs with
         |own _ k2 _=>exact k2
        rw [hv]at p3;refine⟨[],(c.G u).top++ [],Ca.deep hf Bo FT Dy p3 .nil,by simp,by simp [Cq,RI.tag], .deep hf Bo FT Dy p1 hv p2 pE .nil,fun w hw=> ?_⟩;simp only [Cq,List.filterMap_cons,Option.map_some,RI.tag,List.filterMap_nil,Af,List.not_mem_nil,or_false]at hw;subst hw;exact hU _ _ p1
       ·cases hr
      ·cases hr
     ·cases hr
    ·cases h
   ·rename_i hf;simp only [Ag,Prod.mk.injEq]at h;obtain⟨rfl,rfl⟩:=h;obtain⟨f,p1,p2⟩:=HM eh k AT hx hs AT (Nat.le_refl _);refine⟨f++ [], [],Ca.rd (fun hh=>absurd hh hf) p1 .nil,fun b hb=> ?_,by simp [Cq], .none (fun hh=>absurd hh hf) .nil,by simp [Cq]⟩;rw [List.append_nil]at hb;exact(p2 b hb).mono fun t ht=>by simp [ht]
  obtain⟨rf,Ba,q1,q2,q3,q4,q5⟩:=key;refine⟨rf,Ba,⟨[v], [x.den c.ρ], ?_,by rw [bO];exact q1⟩,q2,q3,⟨[v], ?_,by rw [bO];exact q4⟩,q5⟩
  ·rw [if_neg (by rw [AB];simp)];exact⟨rfl,rfl⟩
  ·rw [if_neg (by rw [AB];simp)]
 cases s with
 |agg cs=>
  simp only [HH]at hg h;obtain⟨m,l,hm,hl,rfl⟩:=Uz hx;cases hs with
  |agg h9 h1 h8=>
   rename_i as_;have FO:m≤AT:=by simp only [AT]at hm ⊢;omega
   obtain⟨rf,Ba,q1,q2,q3,q4,q5⟩:=hP (P:=P) eh k hU (A0 P t) h h1 hl FO;refine⟨rf,Ba,⟨as_,l.den c.ρ, ?_,q1⟩,q2,q3,⟨as_, ?_,q4⟩,q5⟩
   ·rw [if_pos hg.symm];exact⟨rfl,rfl,h9⟩
   ·rw [if_pos hg.symm]
 |_=>exact single _ hs hx hg.symm h
end
end Go.Proofs.YtlhlgboblghkdaaGreatDoor
end

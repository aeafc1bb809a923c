/- Parts of a proof, joined: VX, WB, WC, WD, WE, WF, WG, WH, WI, WJ, WK, WL, WM, WN, WO. -/
import Derived.Test.YtollgpkegmbpmaaGreatDoorD3
import Derived.Orders
import Derived.Lib.SliceRun
import Derived.Laws.Slices
import Derived.Laws.MakeOwn
import Derived.Laws.StructEq
set_option linter.unusedVariables false
set_option linter.unusedSimpArgs false
section
namespace Go.Proofs.YtollgpkegmbpmaaGreatDoor
open Go.RowKit
section
variable {P:Program} {c:Cx} {n nx:Nat} {sl sl0:Nat→SV} {hp hp0:Nat→Option Ai} {a:Act} {o:Oper} {gs:Gd} {e:AY} {sg:BC} {nv:Nat}
def Cx.fj (c:Cx) (w':World) (t:Nat) (O:List Nat):Cx:={c with w:=w',G:=fun u=>if u=t then⟨(c.G t).top,O⟩else c.G u,E:=fun u=>if u=t then c.E u+1 else c.E u}
theorem Rel.jq (h:Rel c n sl hp a) {t:Nat} {e0:Ai} {b:Nat} {w':World} {O:List Nat} (AP:Ce c.ρ (hp t) e0) (Ch:b∈(c.G t).top) (hO:O= []∨O=(c.G t).O) (hm:Mod [b] c.w w') (BJ:w'.heap.size=c.w.heap.size) (e1:Ai) (Bt: ∀hs f,e1≠ .gd hs f)
  (he:Di c (c.fj w' t O)→CK (c.fj w' t O) t e1):
  Rel (c.fj w' t O) n sl (A2 hp [(t,e1)]) a:=by
 have Bh:b∈(c.G t).own:=by simp [GI.own,Ch]
 have hG: ∀u,(c.fj w' t O).G u=if u=t then⟨(c.G t).top,O⟩else c.G u:=fun u=>rfl;have D8: ∀u,((c.fj w' t O).G u).top=(c.G u).top:=by
  intro u;rw [hG];split
  ·rename_i hu;rw [hu]
  ·rfl
 have BA: ∀u,∀q∈((c.fj w' t O).G u).own,q∈(c.G u).own:=by
  intro u q hq;rw [hG]at hq;split at hq
  ·rename_i hu;subst hu;simp only [GI.own,Ah]at hq ⊢;rcases hq with hq|hq
   ·exact .inl hq
   ·rcases hO with rfl|rfl
    ·simp at hq
    ·exact .inr hq
  ·exact hq
 have BF:Di c (c.fj w' t O):=by
  refine⟨rfl,rfl,fun q _ hq=>⟨fun⟨u,hu⟩=>hq.1 ⟨u,by rw [D8]at hu;exact hu⟩,hq.2⟩,fun q hq AF=>hm.block q hq ?_,fun u g hu=>⟨hu,rfl⟩,fun u g hu=> ?_⟩
  ·simp only [List.mem_singleton];rintro rfl;exact AF.1 ⟨t,Ch⟩
  ·by_cases FR:u=t
   ·have e1:(c.fj w' t O).E u=c.E u+1:=by simp only [Cx.fj,if_pos FR]
    exact⟨by omega,fun h=>by omega⟩
   ·have e1:(c.fj w' t O).E u=c.E u:=by simp only [Cx.fj,if_neg FR]
    have e2:(c.fj w' t O).G u=c.G u:=by simp only [Cx.fj,if_neg FR]
    rw [e1];refine⟨Nat.le_refl _,fun _=>⟨e2,fun q hq Fh=>hm.block q Fh ?_⟩⟩;simp only [List.mem_singleton];rintro rfl;exact h.gw.cj t u (Ne.symm FR) q Bh (by simp [GI.own,hq])
 have Dq: ∀u,A2 hp [(t,e1)] u=if u=t then some e1 else hp u:=fun u=>rfl;refine h.change (fun u=>u=t) BF ⟨hm.os.trans h.base.os,hm.tape.trans h.base.tape,hm.output.trans h.base.output,Nat.le_trans h.base.size hm.size,h.base.pins,fun q hq Fx=> ?_,h.base.pk,h.base.lo⟩
  (fun u hu=>⟨by rw [Dq,if_neg hu],by rw [hG,if_neg hu],by simp [Cx.fj,hu],fun g hg=>hg⟩) (fun u hu q hq=>hm.block q (h.gw.inb u q (by simp [GI.own,hq])) ?_) (fun u hu=> ?_) ⟨fun u=> ?_,fun u v Yr q hq Yc=>h.gw.cj u v Yr q (BA u q hq) (BA v q Yc),fun u q hq=>h.gw.allow u q (BA u q hq),fun u q hq=> ?_⟩ h.br (fun u f hf=> ?_)
 ·refine(hm.block q (Nat.lt_of_lt_of_le hq h.base.size) ?_).trans (h.base.block q hq Fx);simp only [List.mem_singleton];rintro rfl;rcases h.gw.allow t q Bh with hh|hh
  ·exact absurd hh (Nat.not_le.2 hq)
  ·exact Fx hh
 ·simp only [List.mem_singleton];rintro rfl;exact h.gw.cj t u (Ne.symm hu) q Bh (by simp [GI.own,hq])
 ·subst hu;rw [Dq,if_pos rfl];refine⟨fun e' hr=> ?_,fun hn=> ?_⟩
  ·cases e1<;>first
    |(simp only [Ce]at hr;subst hr;exact he BF)
    |exact absurd rfl (Bt _ _)
  ·cases e1<;>first
    |exact absurd rfl (Bt _ _)
    |exact absurd rfl (hn _)
 ·rw [hG];split
  ·rename_i hu;subst hu;have h0:=h.gw.nodup u;simp only [GI.own]at h0 ⊢;rcases hO with rfl|rfl
   ·rw [List.append_nil];exact(List.nodup_append.1 h0).1
   ·exact h0
  ·exact h.gw.nodup u
 ·show q<w'.heap.size;rw [BJ];exact h.gw.inb u q (BA u q hq)
 ·rw [Dq]at hf;split at hf
  ·rename_i hu;subst hu;cases hh:hp u with
   |none=>rw [hh]at AP;exact AP.elim
   |some e9=>exact h.cm u e9 hh
  ·exact h.cm u f hf
theorem Pp {α:Type} (L vs:List α) (p m:Nat) (h:p+vs.length≤m) (hm:m≤L.length):(setVs L p vs).take m=setVs (L.take m) p vs:=by
 apply List.ext_getElem?;intro j;have hl:(L.take m).length=m:=by rw [List.length_take];omega
 rw [List.getElem?_take,Pw (L.take m) vs p (by omega) j,Pw L vs p (by omega) j,List.getElem?_take];by_cases h1:p≤j∧j<p+vs.length
 ·rw [if_pos (by omega),if_pos h1,if_pos h1]
 ·rw [if_neg h1,if_neg h1]
theorem Rd.setVs {w:World} {L V:List Value} {X Y:List AV} {N f:List Nat} {p:Nat} (h:Rd w L X N) (k:Rd w V Y f) (hp:p+V.length≤L.length):
  ∃n1 n2 n3,N=n1++n2++n3∧Rd w (Go.Proofs.YtollgpkegmbpmaaGreatDoor.setVs L p V) (Go.Proofs.YtollgpkegmbpmaaGreatDoor.setVs X p Y) (n1++f++n3)∧Rd w ((L.drop p).take V.length) ((X.drop p).take V.length) n2:=by
 have hl:=h.len;have hk:=k.len;have e1:L=L.take p++((L.drop p).take V.length++L.drop (p+V.length)):=by rw [←List.drop_drop,List.take_append_drop,List.take_append_drop]
 have e2:X=X.take p++((X.drop p).take V.length++X.drop (p+V.length)):=by rw [←List.drop_drop,List.take_append_drop,List.take_append_drop]
 have h':=h;rw [e1,e2]at h';obtain⟨n1,m,rfl,g1,g2⟩:=Rd.dv (by simp;omega) h';obtain⟨n2,n3,rfl,g3,g4⟩:=Rd.dv (by simp;omega) g2;refine⟨n1,n2,n3,by simp, ?_,g3⟩;unfold Go.Proofs.YtollgpkegmbpmaaGreatDoor.setVs;rw [←hk];exact(g1.app k).app g4
theorem VU {sz:Nat}: ∀(ys:List AV) (k:Nat) (z y:AV) (o:Nat) (vc:List AV),(∀y∈ys,y.cells.length=sz)→ys[k]?=some y→o+vc.length≤sz→z.cells=setVs y.cells o vc→AE (ys.set k z)=setVs (AE ys) (k*sz+o) vc
 | [],k,z,y,o,vc,_,h,_,_=>by simp at h
 |q::ys,0,z,y,o,vc,hs,h,ho,hz=>by simp at h;subst h;have hq:=hs q (by simp);simp only [AE,List.set_cons_zero,List.flatMap_cons,Nat.zero_mul,Nat.zero_add,hz];unfold setVs;rw [List.take_append_of_le_length (by omega),List.drop_append_of_le_length (by omega)];simp
 |q::ys,k+1,z,y,o,vc,hs,h,ho,hz=>by
  have hq:=hs q (by simp);have ih:=VU ys k z y o vc (fun u hu=>hs u (by simp [hu])) (by simpa using h) ho hz;simp only [AE,List.set_cons_succ,List.flatMap_cons]at ih ⊢;rw [ih];unfold setVs;have e0:(k+1)*sz+o=q.cells.length+(k*sz+o):=by rw [hq,Nat.add_mul];omega
  rw [e0,List.take_length_add_append,Nat.add_assoc (q.cells.length),List.drop_length_add_append];simp
theorem bA {y x:AV} {k:Nat} {g:Bool} (hx:(∀cs,x≠ .agg cs)∨g=true) (hy:g=false→y.cells.length=1∧k=0∧x.cells= [x]):(y.da k x g).cells=setVs y.cells k x.cells:=by
 cases g with
 |true=>simp [AV.da,AV.cells,setVs]
 |false=>obtain⟨h1,h2,h3⟩:=hy rfl;subst h2;simp only [AV.da,h3,setVs];rw [if_neg (by simp)];rw [h3];simp only [List.take_zero,List.nil_append,Am,List.length_nil,Nat.zero_add];rw [List.drop_eq_nil_of_le (by omega)];simp
theorem zqK (h:Bf P c n nx sl hp a sl0 hp0 o gs) {t:TypeId} {x y:Operand} (ho:o.op= .store t x y) {b g:Nat} {ix:E} {sz k:Nat} {s:SV} (Bm: ∃e z g c d,CP hp0 gs b=some (.row e z g c d)) (hx:Bx sl0 gs x=some (.cq b g ix sz k)) (hy:Bx sl0 gs y=some s)
  (he:LI P hp0 gs t (.cq b g ix sz k) s=some e) (hc: ∀q∈e.bw,Cn.den c.ρ q):Az P o c n nx sl hp gs a e:=by
 have r1:=h.cu hx (by simp [ho,Op.operands]);have r2:=h.cu hy (by simp [ho,Op.operands]);simp only [LI]at he;split at he
 ·rename_i el sz' g' c0 d hl;split at he
  ·rename_i hh;obtain⟨rfl,rfl,rfl,Bc,hle,EZ,DG⟩:=hh;split at he
   ·rename_i xe fz dx ck BX;split at he
    ·cases he
    rename_i Ez;simp only [Af]at he;subst he;have Ez: ∀f,(b,f)∉fz:=fun f hf=>Ez (by simp only [List.contains_eq_mem,decide_eq_true_eq];exact List.mem_map.2 ⟨_,hf,rfl⟩);obtain⟨f,q1,q2,⟨ts,q3⟩,q5⟩:=mF h.rel h.hp h.gs r2 BX (fun q hq=>hc q (by simp [hq]));obtain⟨q3,q4⟩:=q3;have AP:=KJ h.hp (CD hl h.gs);have CM:=h.rel.freeze h.hp h.gs q3;have Lh:Ce (c.bm (fz.map (·.1))).ρ (A2 hp fz b) (.row el sz g c0 d):=by rw [Kx Ez];exact AP
    obtain⟨e1,e2,N,e3,e4,e5,e6⟩:=CM.ents b _ Lh;obtain⟨o1,o2,o3,o4⟩:=cD (P:=P) q1 DG q5;generalize hv:a.eval x=v at r1;cases r1 with
    |cq k1 k2 k3 k4 k5 _=>
     rename_i m len cap kk kv k6;obtain⟨xs,p1,p2,p3,pcase⟩:=e3;have p1':c0.den c.ρ= .sl xs:=p1;rcases pcase with⟨_,⟨_,pv⟩,_⟩|⟨g9,cap9,C,pv,p4,p5,p6,p7,p8,p9,p10⟩
     ·exfalso;have:c.H b g=_:=pv;rw [k2]at this;cases this;omega
     ·have pv':c.H b g= .slice (some ⟨g9,0,none⟩) xs.length cap9:=pv;rw [k2]at pv';simp only [Value.slice.injEq,Af,Addr.mk.injEq,and_true]at pv';obtain⟨rfl,rfl,rfl⟩:=pv';have FO:kv.toNat<xs.length:=by omega
      have FB:=LN FO;generalize HU:(AV.sl xs).nth kv.toNat=yk at FB;have E7:=p2 yk (List.mem_of_getElem? FB);have Dx:(a.eval y).cells.toList.length=P.cellsOf t:=by simpa using o4
      have hmul:(kv.toNat+1)*sz≤xs.length*sz:=Nat.mul_le_mul_right _ (by omega);have Dt:C.toList.length=cap*sz:=by simpa using p7
      have Fy:xs.length*sz≤cap*sz:=Nat.mul_le_mul_right _ p4;rw [Nat.add_mul]at hmul;have p6':c.w.heap[m]?=some (.cells C el (0,0)):=p6;obtain⟨m1,m2,m3⟩:=Vf (vs:=(a.eval y).cells.toList) p6' (show(kv.toNat*sz+k)+_≤C.size by rw [Dx,p7];omega);have MB:(C.toList.take (xs.length*sz)).length=xs.length*sz:=by rw [List.length_take,Dt];omega
      obtain⟨n1,n2,n3,hN,s1,s2⟩:=Rd.setVs (p:=kv.toNat*sz+k) p10 o1 (by rw [MB,Dx];omega);have E1: ∀z,z<c.w.heap.size→(c.bm (fz.map (·.1))).ok z→(putCells c.w m (kv.toNat*sz+k) (a.eval y).cells.toList).heap[z]?=c.w.heap[z]?:=by intro z hz AF;refine m1.block z hz ?_;simp only [List.mem_singleton];rintro rfl;exact AF.1 ⟨b,by rw [p8];simp⟩
      have Bv:(d&&dx)=true→n2= []∧f= []:=by
       intro Eh;have uG:Cn.den c.ρ (.flat (.fld (.idx c0 ix) k (P.cellsOf t) (Ao P t)) (P.cellsOf t) (Ao P t)):=hc _ (by simp [Eh]);obtain⟨f1,f2,f3,f4⟩:=uG;simp only [Ad]at Eh;refine⟨?_,q2 Eh.2⟩;have MJ:((AE xs).drop (kv.toNat*sz+k)).take (a.eval y).cells.toList.length=(yk.cells.drop k).take (P.cellsOf t):=by rw [Dx];exact R8 xs p2 _ _ FB k (P.cellsOf t) hle
       rw [MJ]at s2;have BS:(E.fld (.idx c0 ix) k (P.cellsOf t) (Ao P t)).den c.ρ=yk.fld k (P.cellsOf t) (Ao P t):=by simp only [E.den,p1',k3,AV.idx,HU]
       rw [BS]at f2;refine G8 s2 ?_;cases hg:Ao P t with
       |true=>rw [hg]at f2;simpa [AV.fld,AV.cells]using f2
       |false=>
        have h1:P.cellsOf t=1:=by rcases DG with h'|h';rw [hg]at h';cases h';exact h'
        rw [BS]at f4;have f4:=f4 hg;rw [hg]at f4;have Ax:k<yk.cells.length:=by omega
        rw [h1,List.drop_eq_getElem_cons Ax,List.take_succ_cons,List.take_zero];simp only [List.mem_singleton,forall_eq];simpa [AV.fld,Ax]using f4
      have hz:(yk.da k (xe.den c.ρ) (Ao P el)).cells=setVs yk.cells k (xe.den c.ρ).cells:=by
       refine bA ?_ (fun hg=> ?_)
       ·cases hg:Ao P el with
        |true=>exact .inr rfl
        |false=>
         left;rcases EZ with h'|⟨_,h'⟩
         ·rw [hg]at h';cases h'
         ·have h':Ao P t=false:=by simpa using h'
          rw [h']at q5;exact fun cs=>(q5.1 cs)
       ·rcases EZ with h'|⟨h1,h'⟩
        ·rw [hg]at h';cases h'
        ·have h':Ao P t=false:=by simpa using h'
         rw [h']at q5;have Mn:P.cellsOf t=1:=by rcases DG with h2|h2;rw [h']at h2;cases h2;exact h2
         refine⟨by omega,by omega, ?_⟩;cases Yw:xe.den c.ρ<;>first|rfl|exact absurd Yw (q5.1 _)
      have DY:AE (xs.set kv.toNat (yk.da k (xe.den c.ρ) (Ao P el)))=setVs (AE xs) (kv.toNat*sz+k) (xe.den c.ρ).cells:=
       VU xs _ _ yk k _ p2 FB (by rw [o3];exact hle) hz
      have Dm:=CM.jq (t:=b) (b:=m) (w':=putCells c.w m (kv.toNat*sz+k) (a.eval y).cells.toList) (O:=if(d&&dx)=true then((c.bm (fz.map (·.1))).G b).O else []) Lh (by rw [p8];simp) (by split;exact .inr rfl;exact .inl rfl) m1 m3
       (.row el sz g (.set c0 ix (.put (.idx c0 ix) k xe (Ao P el))) (d&&dx)) (by intros;simp) (fun FP=>by
        have Fp: ∀z∈n1++f++n3,(c.bm (fz.map (·.1))).ok z:=by
         intro z hz;simp only [Ah]at hz;rcases hz with(hz|hz)|hz
         ·exact e4 z (by rw [hN];simp [hz])
         ·exact q4 z hz
         ·exact e4 z (by rw [hN];simp [hz])
        have Qk: ∀z∈n1++f++n3,z<c.w.heap.size:=s1.inb;refine⟨e1,e2,n1++f++n3,⟨xs.set kv.toNat (yk.da k (xe.den c.ρ) (Ao P el)), ?_,fun z YD=> ?_,p3, .inr ⟨m,cap,_, ?_,by simpa using p4,p5,m2, ?_, ?_, ?_, ?_⟩⟩,fun z hz=>FP.ok z (Qk z hz) (Fp z hz),fun Eh=> ?_,fun Eh=> ?_⟩
        ·show AV.c6 (c0.den c.ρ) (ix.den c.ρ) (((c0.den c.ρ).idx (ix.den c.ρ)).da k (xe.den c.ρ) (Ao P el))=_;rw [p1',k3];simp only [AV.idx,HU,AV.c6]
        ·rcases List.mem_or_eq_of_mem_set YD with YD|rfl
         ·exact p2 z YD
         ·rw [hz,Ps _ _ _ (by rw [o3,E7];exact hle)];exact E7
        ·rw [List.length_set];exact k2
        ·rw [List.size_toArray,Ps _ _ _ (by rw [Dx,Dt];omega),Array.length_toList];exact p7
        ·simpa [Cx.fj]using p8
        ·simp only [List.length_set,List.toList_toArray];rw [Pp _ _ _ _ (by rw [Dx];omega) (by rw [Dt];omega)];intro u hu;unfold setVs at hu;simp only [Ah]at hu;rcases hu with(hu|hu)|hu
         ·exact p9 u (List.mem_of_mem_take hu)
         ·exact o2 u hu
         ·exact p9 u (List.mem_of_mem_drop hu)
        ·simp only [List.length_set,List.toList_toArray];rw [Pp _ _ _ _ (by rw [Dx];omega) (by rw [Dt];omega),DY];exact s1.frame fun z hz=>E1 z (Qk z hz) (Fp z hz)
        ·obtain⟨z1,z2⟩:=Bv Eh;have hd:d=true:=by simp only [Ad]at Eh;exact Eh.1
         obtain⟨u1,u2⟩:=e5 hd;have Tn:n1++f++n3=N:=by rw [hN,z1,z2]
         rw [Tn];refine⟨u1.frame fun z hz=>E1 z (p10.inb z hz) (e4 z hz), ?_⟩;simp only [Cx.fj,if_true,Eh];exact u2
        ·simp [Cx.fj,Eh])
      intro next Q hk
      unfold Oper.wp;have hr:(execOp a.eval o).run P c.w= .ok .skip (putCells c.w m (kv.toNat*sz+k) (a.eval y).cells.toList):=by have:=aO (P:=P) (t:=t) (v:=a.eval y) (off:=kv.toNat*sz+k) p6' Bc o4 (by rw [o4,p7];omega) o2;simp [execOp,ho,hv,this]
      rw [hr,Oper.upon_skip];refine hk _ ((c.bm (fz.map (·.1))).fj (putCells c.w m (kv.toNat*sz+k) (a.eval y).cells.toList) b (if(d&&dx)=true then((c.bm (fz.map (·.1))).G b).O else [])) ⟨rfl,rfl,rfl,rfl,fun t ht=> .inl ht⟩ ?_;have:=Dm.put (v:=Go.undef) ((SR.undef .nil).mkGd []) o.dst;rw [Nq];exact this
   ·cases he
  ·cases he
 all_goals (rename_i hl;obtain⟨_,_,_,_,_,Bw⟩:=Bm;first|(rw [Bw]at hl;cases hl;done)|exact absurd Bw (hl _ _ _ _ _)|cases he)
end
def Jx (a:Act) (o:Oper):Bool:=match o.op with| .binOp _ _ x _ _=>(match a.eval x with| .slice none _ _=>true|_=>false)|_=>false
section
variable (P:Program) (sg:BC) (Rt:Nat→List AV→AV→Prop)
def NP:Prop:= ∀(c:Cx) (n nx:Nat) (sl:Nat→SV) (hp:Nat→Option Ai) (a:Act) (sl0:Nat→SV) (hp0:Nat→Option Ai) (o:Oper) (gs:Gd) (e:AY) (nv:Nat),Bf P c n nx sl hp a sl0 hp0 o gs→ ¬c.U (nx+999)→KS P sg sl0 hp0 nv nx gs o=some e→
 (∀q∈e.bw,q.den c.ρ)→(∀cl,e.call=some cl→ ∃r,c.ρ[nv]?=some r∧Hz Rt cl.fn ((EL.of cl.args).den c.ρ) c.ρ r)→(∀x,e.bt=some x→c.ρ[nv]?=some (.bool (Jx a o)))→Az P o c n nx sl hp gs a e
def S2:Prop:= ∀(c:Cx) (n nx:Nat) (sl:Nat→SV) (hp:Nat→Option Ai) (a:Act) (sl0:Nat→SV) (hp0:Nat→Option Ai) (o:Oper) (gs:Gd) (e:AY) (nv:Nat) (x:E),Bf P c n nx sl hp a sl0 hp0 o gs→KS P sg sl0 hp0 nv nx gs o=some e→e.bt=some x→Jx a o=true→x.den c.ρ= .sl []
end
theorem nV {hp:Nat→Option Ai} (l:List (Nat × Ai)) (t:Nat):(A2 hp l t=hp t∧ ∀e,(t,e)∉l)∨ ∃e,(t,e)∈l∧A2 hp l t=some e:=by
 induction l generalizing hp with
 |nil=>exact .inl ⟨rfl,by simp⟩
 |cons p l ih=>
  obtain⟨u,f⟩:=p;rcases ih (hp:=fun v=>if v=u then some f else hp v)with⟨h1,h2⟩|⟨e,h1,h2⟩
  ·by_cases ht:t=u
   ·subst ht;refine .inr ⟨f,by simp, ?_⟩;have:A2 hp ((t,f)::l) t=A2 (fun v=>if v=t then some f else hp v) l t:=rfl;rw [this,h1];simp
   ·refine .inl ⟨?_,fun e he=> ?_⟩
    ·have:A2 hp ((u,f)::l) t=A2 (fun v=>if v=u then some f else hp v) l t:=rfl;rw [this,h1,if_neg ht]
    ·rcases Ae.1 he with he|he
     ·cases he;exact ht rfl
     ·exact h2 e he
  ·exact .inr ⟨e,by simp [h1],h2⟩
section
variable {P:Program} {sg:BC} {Rt:Nat→List AV→AV→Prop} {c:Cx} {n nx:Nat} {sl:Nat→SV} {hp:Nat→Option Ai} {a:Act} {ops:Array Oper} {o:Oper} {gs:Gd} {e:AY}
theorem Rel.skip (h:Rel c n sl hp a) (hg: ¬A5 c.ρ gs) {l:List (Nat × Ai)} (hl: ∀t x,(t,x)∈l→nx≤t∧t<nx+Br∧ ∃hs y,x= .gd hs y∧KT gs hs=true) (A0: ∀t,nx≤t→t<nx+Br→ ¬c.U t) (s:SV) (d:Option Nat):
  Rel {c with U:=fun t=>c.U t∨(nx≤t∧t<nx+Br)} n (Cq n sl d (mkGd gs s)) (A2 hp l) (a.put d undef):=by
 have hs:SR {c with U:=fun t=>c.U t∨(nx≤t∧t<nx+Br)} [mkGd gs s] [undef]:=by
  cases gs with
  |nil=>exact absurd (Em _) hg
  |cons g gs=>exact .gd (fun hh=>absurd hh hg) (fun _=>rfl) .nil
 refine Rel.put ?_ hs d;refine h.change (fun t=> ∃x,(t,x)∈l) ⟨rfl,rfl,fun _ _ hb=>hb,fun _ _ _=>rfl,fun _ _ hk=>⟨hk,rfl⟩,fun _ _ _=>⟨Nat.le_refl _,fun _=>⟨rfl,fun _ _ _=>rfl⟩⟩⟩ ⟨h.base.os,h.base.tape,h.base.output,h.base.size,fun t v hp=>⟨.inl (h.base.pins t v hp).1,(h.base.pins t v hp).2⟩,h.base.block,h.base.pk,h.base.lo⟩ (fun t ht=> ?_) (fun _ _ _ _=>rfl) (fun t ht=> ?_) ⟨h.gw.nodup,h.gw.cj,h.gw.allow,h.gw.inb⟩ (fun t g hk=> .inl (h.br t g hk)) (fun t x hx=> ?_)
 ·exact⟨Kx fun x hx=>ht ⟨x,hx⟩,rfl,rfl,fun g hk=>hk⟩
 ·obtain⟨x,hx⟩:=ht;rcases nV (hp:=hp) l t with⟨_,h2⟩|⟨x',h1,h2⟩
  ·exact absurd hx (h2 x)
  ·obtain⟨q1,q2,hs,y,rfl,BA⟩:=hl t x' h1;have Dp: ∀e',¬Ce c.ρ (A2 hp l t) e':=by
    rw [h2];exact fun e' hr=>hg (Wh BA hr.1)
   refine⟨fun e' hr=>absurd hr (Dp e'),fun _=>h.off t fun e' hr=> ?_⟩;cases hh:hp t with
   |none=>rw [hh]at hr;exact hr.elim
   |some e9=>exact A0 t q1 q2 (h.cm t e9 hh)
 ·rcases nV (hp:=hp) l t with⟨h1,_⟩|⟨x',h1,_⟩
  ·rw [h1]at hx;exact .inl (h.cm t x hx)
  ·obtain⟨q1,q2,_⟩:=hl t x' h1;exact .inr ⟨q1,q2⟩
def Th (ρ:List AV) (ops:Array Oper) (o:Oper) (a:Act):Option Gd→Prop
 |none=>Region.wanted o (yielded ops a.tmps)=false
 |some gs=>(A5 ρ gs→Region.wanted o (yielded ops a.tmps)=true)∧(¬A5 ρ gs→Region.wanted o (yielded ops a.tmps)=false)
theorem cM {σ:St} {r:Option Gd} (hg:Np σ ops o=some r) (hs: ∀j want d,o.guard=some (j,want)→(ops[j]?).bind (·.dst)=some d→SR c [Bn σ d] [a.tmps.getD d undef]):Th c.ρ ops o a r:=by
 unfold Np at hg;cases Gk:o.guard with
 |none=>rw [Gk]at hg;simp only [Af]at hg;subst hg;exact⟨fun _=>by simp [Region.wanted,Gk],fun hn=>absurd (Em _) hn⟩
 |some jw=>
  obtain⟨j,want⟩:=jw;rw [Gk]at hg;simp only at hg;cases hd:(ops[j]?).bind (·.dst)with
  |none=>rw [hd]at hg;simp only [Af]at hg;subst hg;simp [Th,Region.wanted,Gk,yielded,hd]
  |some d=>
   rw [hd]at hg;simp only at hg;have hr:=hs j want d Gk hd;have hw: ∀v,a.tmps.getD d undef=v→Region.wanted o (yielded ops a.tmps)=(match v with| .bool b=>b==want|_=>false):=by
    intro v hv;simp only [Region.wanted,Gk,yielded,hd,Ab];rw [Array.getD_eq_getD_getElem?]at hv;cases hq:a.tmps[d]? with
    |none=>rw [hq]at hv;simp at hv;subst hv;simp [undef]
    |some u=>rw [hq]at hv;simp at hv;subst hv;cases u<;>simp
   generalize a.tmps.getD d undef=v at hr hw;have hw:=hw v rfl;have Kc:v=undef→Region.wanted o (yielded ops a.tmps)=false:=by rintro rfl;rw [hw];simp [undef]
   have GX: ∀x f,Rd c.w [v] [x] f→(x= .bool want→Region.wanted o (yielded ops a.tmps)=true)∧(x≠ .bool want→Region.wanted o (yielded ops a.tmps)=false):=by
    intro x f hx;refine⟨fun h=> ?_,fun h=> ?_⟩
    ·rw [hw,Hw hx h];simp
    ·rw [hw];cases v<;>simp only;rename_i b;cases hx with
     |bool _=>simpa using fun hh=>h (by rw [hh])
   split at hg
   ·rename_i b Cu;rw [Cu]at hr;cases hr with
    |e h1 _ _=>
     simp only [Af]at hg;subst hg;obtain⟨q1,q2⟩:=GX _ _ h1;simp only [E.den,AV.bool.injEq]at q1 q2;split
     ·rename_i hb;simp only [beq_iff_eq]at hb;exact⟨fun _=>q1 hb,fun hn=>absurd (Em _) hn⟩
     ·rename_i hb;simp only [beq_iff_eq]at hb;exact q2 (by simpa using hb)
   ·rename_i x _ Cu;rw [Cu]at hr;cases hr with
    |e h1 _ _=>simp only [Af]at hg;subst hg;obtain⟨q1,q2⟩:=GX _ _ h1;exact⟨fun hh=>q1 (hh (x,want) (by simp)),fun hn=>q2 fun hh=>hn (by intro g hg;simp at hg;subst hg;exact hh)⟩
   ·rename_i A4 s Cu;rw [Cu]at hr;cases hr with
    |gd h1 h2 _=>
     split at hg
     ·rename_i hf;simp only [Af]at hg;subst hg;refine Kc (h2 fun hk=> ?_);simp only [rK,List.any_eq_true]at hf;obtain⟨g,hg,Xz⟩:=hf;have:=hk g hg;split at Xz
      ·rename_i b hb;rw [hb]at this;simp only [E.den,AV.bool.injEq]at this;simp [this]at Xz
      ·cases Xz
     ·split at hg
      ·rename_i b;simp only [Af]at hg;subst hg;by_cases hk:A5 c.ρ A4
       ·have h1:=h1 hk;cases h1 with
        |e h1 _ _=>
         obtain⟨q1,q2⟩:=GX _ _ h1;simp only [E.den,AV.bool.injEq]at q1 q2;split
         ·rename_i hb;simp only [beq_iff_eq]at hb;exact⟨fun _=>q1 hb,fun hn=>absurd hk hn⟩
         ·rename_i hb;simp only [beq_iff_eq]at hb;exact q2 (by simpa using hb)
       ·split
        ·exact⟨fun hh=>absurd hh hk,fun _=>Kc (h2 hk)⟩
        ·exact Kc (h2 hk)
      ·rename_i x _;simp only [Af]at hg;subst hg;by_cases hk:A5 c.ρ A4
       ·have h1:=h1 hk;cases h1 with
        |e h1 _ _=>obtain⟨q1,q2⟩:=GX _ _ h1;exact⟨fun hh=>q1 (hh (x,want) (by simp)),fun hn=>q2 fun hh=>hn (by intro g hg;rcases Ae.1 hg with rfl|hg;exact hh;exact hk g hg)⟩
       ·exact⟨fun hh=>absurd (fun g hg=>hh g (by simp [hg])) hk,fun _=>Kc (h2 hk)⟩
      ·cases hg
   ·cases hg
theorem sF (AK:NP P sg Rt) {Q:Exit→Act→World→Prop} {K:Act→World→Prop} {i nv:Nat} (hi:ops[i]?=some o) (Ap:Rel c n sl hp a) {sl0:Nat→SV} {hp0:Nat→Option Ai} (Ex:Th c.ρ ops o a (some gs))
  (Cu: ∀t,Operand.tmp t∈o.op.operands→sl0 t=sl t) (uR: ∀t e,hp0 t=some e→hp t=some e) (A0: ∀t,nx≤t→t<nx+Br→ ¬c.U t)
  (he:KS P sg sl0 hp0 nv nx gs o=some e) (Bg:gs≠ []→ ∀t x,(t,x)∈e.bf→nx≤t∧t<nx+Br∧ ∃hs y,x= .gd hs y∧KT gs hs=true)
  (hc:A5 c.ρ gs→ ∀q∈e.bw,q.den c.ρ) (A3: ∀cl,e.call=some cl→ ∃r,c.ρ[nv]?=some r∧(A5 c.ρ gs→Hz Rt cl.fn ((EL.of cl.args).den c.ρ) c.ρ r)) (Ct: ∀x,e.bt=some x→A5 c.ρ gs→c.ρ[nv]?=some (.bool (Jx a o)))
  (hK: ∀a' c',L6 c c' nx→Rel c' n (Cq n sl o.dst (mkGd gs e.val)) (A2 hp e.bf) a'→K a' c'.w):wpOp P ops Q i K a c.w:=by
 unfold wpOp;simp only [hi];by_cases hg:A5 c.ρ gs
 ·rw [if_pos (Ex.1 hg)];exact .inl (AK c n nx sl hp a sl0 hp0 o gs e nv ⟨Ap,hg,Cu,uR,fun t h1 h2=>A0 t h1 (by simp only [Br];omega)⟩ (A0 _ (by omega) (by simp [Br])) he (hc hg) (fun cl Ay=>by obtain⟨r,h1,h2⟩:=A3 cl Ay;exact⟨r,h1,h2 hg⟩) (fun x hx=>Ct x hx hg) _ _ hK)
 ·rw [if_neg (by rw [Ex.2 hg];simp)];have Bt:gs≠ []:=by rintro rfl;exact hg (Em _)
  exact hK _ {c with U:=fun t=>c.U t∨(nx≤t∧t<nx+Br)} ⟨rfl,rfl,rfl,rfl,fun t ht=>ht⟩ (Ap.skip hg (Bg Bt) A0 e.val o.dst)
end
def Cx.ext (c:Cx) (τ:List AV):Cx:={c with ρ:=c.ρ++τ}
theorem den_app {ρ τ:List AV} {x:E} (h:x.sc ρ.length=true):x.den (ρ++τ)=x.den ρ:=by have:=E.ao ρ τ [] x h;rw [List.append_nil]at this;exact this
theorem zxs {ρ τ:List AV} {x:EL} (h:x.sc ρ.length=true):x.den (ρ++τ)=x.den ρ:=by have:=EL.ao ρ τ [] x h;rw [List.append_nil]at this;exact this
theorem Ku {ρ τ:List AV} {gs:Gd} (h:Rm ρ.length gs=true):A5 (ρ++τ) gs↔A5 ρ gs:=by simp only [Rm,AS]at h;exact⟨fun k g hg=>by rw [←den_app (τ:=τ) (h g hg)];exact k g hg,fun k g hg=>by rw [den_app (h g hg)];exact k g hg⟩
theorem Bl.gf {n:Nat}: ∀{cs:Bl},cs.sc n=true→ ∀s∈cs.toList,s.sc n=true
 | .nil,_,s,h=>by simp [Bl.toList]at h
 | .cons s cs,h,u,hu=>by
  simp only [Bl.sc,Ad]at h;simp only [Bl.toList,Ae]at hu;rcases hu with rfl|hu
  ·exact h.1
  ·exact Bl.gf h.2 u hu
section
variable {c:Cx} {n:Nat} {sl:Nat→SV} {hp:Nat→Option Ai} {a:Act} {τ:List AV}
theorem HE.ext {t g:Nat} {p:Md} {v:Value} (hs:(match p with|some q=>q.1.sc c.ρ.length|none=>true)=true) (h:HE c t g p v):HE (c.ext τ) t g p v:=by
 cases p with
 |none=>exact trivial
 |some p=>obtain⟨i,z,o⟩:=p;obtain⟨b,n,cap,C,ty,fz,kk,k,h1,h2,h3,h4,h5⟩:=h;exact⟨b,n,cap,C,ty,fz,kk,k,h1,h2,h3,by show i.den (c.ρ++τ)=_;rw [den_app hs];exact h4,h5⟩
theorem SR.ext {ss:List SV} {vs:List Value} (h:SR c ss vs):(∀s∈ss,s.sc c.ρ.length=true)→SR (c.ext τ) ss vs:=by
 have tl: ∀{s:SV} {ss:List SV},(∀x∈s::ss,x.sc c.ρ.length=true)→ ∀x∈ss,x.sc c.ρ.length=true:=fun h x hx=>h x (by simp [hx]);have hd: ∀{s:SV} {ss:List SV},(∀x∈s::ss,x.sc c.ρ.length=true)→s.sc c.ρ.length=true:=fun h=>h _ (by simp);have hρ:(c.ext τ).ρ=c.ρ++τ:=rfl
 induction h with
 |nil=>exact fun _=> .nil
 |undef _ ih=>exact fun hs=> .undef (ih (tl hs))
 |e h1 h2 _ ih=>exact fun hs=> .e (by rw [hρ,den_app (hd hs)];exact h1) h2 (ih (tl hs))
 |bu _ ih=>exact fun hs=> .bu (ih (tl hs))
 |emp _ ih=>exact fun hs=> .emp (ih (tl hs))
 |own h1 h2 _ ih=>exact fun hs=> .own h1 h2 (ih (tl hs))
 |cd h1 h2 _ ih=>exact fun hs=> .cd h1 h2 (ih (tl hs))
 |cq h1 h2 h3 h4 h5 _ ih=>exact fun hs=> .cq h1 h2 (by rw [hρ,den_app (hd hs)];exact h3) h4 h5 (ih (tl hs))
 |df h1 h2 h3 h4 h5 h6 _ ih=>intro hs;have:=hd hs;simp only [SV.sc,Ad]at this;exact .df (by rw [hρ,den_app this.1];exact h1) h2 (by rw [hρ,den_app this.2];exact h3) h4 h5 (by rw [hρ,den_app this.1];exact h6) (ih (tl hs))
 |dd h1 h2 _ ih=>exact fun hs=> .dd (by rw [hρ,den_app (hd hs)];exact h1) h2 (ih (tl hs))
 |agg h9 _ _ ih1 ih2=>exact fun hs=> .agg h9 (ih1 (Bl.gf (hd hs))) (ih2 (tl hs))
 |tup _ _ ih1 ih2=>exact fun hs=> .tup (ih1 (Bl.gf (hd hs))) (ih2 (tl hs))
 |fn _ _ ih1 ih2=>exact fun hs=> .fn (ih1 (Bl.gf (hd hs))) (ih2 (tl hs))
 |gd _ h2 _ ih1 ih2=>intro hs;have:=hd hs;simp only [SV.sc,Ad]at this;exact .gd (fun hg=>ih1 ((Ku this.1).1 hg) (by simpa using this.2)) (fun hg=>h2 fun k=>hg ((Ku this.1).2 k)) (ih2 (tl hs))
 | @via t g n p x v ss vs h1 h2 h3 _ ih=>intro hs;have:=hd hs;simp only [SV.sc,Ad]at this;refine .via h1 h2 (fun he=> ?_) (ih (tl hs));obtain⟨q1,q2⟩:=h3 he;exact⟨by rw [hρ,den_app this.2];exact q1,HE.ext (τ:=τ) this.1 q2⟩
 | @vptr t g n p x i sz o v ss vs h1 h2 h3 _ ih=>intro hs;have:=hd hs;simp only [SV.sc,Ad]at this;refine .vptr h1 h2 (fun he=> ?_) (ih (tl hs));obtain⟨b,off,len,cap,kk,k,q1,q2,q3,q4,q5,q6,q7⟩:=h3 he;exact⟨b,off,len,cap,kk,k,by rw [hρ,den_app this.1.2];exact q1,HE.ext (τ:=τ) this.1.1 q2,by rw [hρ,den_app this.2];exact q3,q4,q5,by rw [hρ,den_app this.1.2];exact q6,q7⟩
 |wown h1 h2 h3 h4 h5 h6 _ ih=>exact fun hs=> .wown h1 h2 (by rw [hρ,den_app (hd hs)];exact h3) h4 h5 h6 (ih (tl hs))
 | @lent i _ _ _ h1 _ ih=>exact fun hs=> .lent (by rw [hρ,den_app (x:= .var i) (by simpa [SV.sc,E.sc]using hd hs)];exact h1) (ih (tl hs))
theorem CK.ext {t:Nat} {e:Ai} (h:CK c t e) (hs:e.sc c.ρ.length=true):CK (c.ext τ) t e:=by
 have hρ:(c.ext τ).ρ=c.ρ++τ:=rfl;cases e with
 |box ty g cs=>obtain⟨b,C,h1,h2,h3,h4,h5,h6,h7⟩:=h;exact⟨b,C,h1,h2,h3,h4,h5,h6,h7.ext (by simpa [Ai.sc]using hs)⟩
 |row ety sz g x d=>obtain⟨h1,h2,N,h3,h4,h5⟩:=h;exact⟨h1,h2,N,by rw [hρ,den_app hs];exact h3,h4,h5⟩
 |bm g x=>obtain⟨h1,⟨f,h2,h3⟩,h4⟩:=h;exact⟨h1,⟨f,by rw [hρ,den_app hs];exact h2,h3⟩,h4⟩
 |gd gs e=>exact h
 |dead=>exact h
 |deep e z l g ep x=>obtain⟨h1,h2,h3,h4,h5⟩:=h;exact⟨h1,h2,h3,by rw [hρ,den_app hs];exact h4,h5⟩
 |hol e z l g ep x i o u=>simp only [Ai.sc,Ad]at hs;obtain⟨h1,h2,h3,h4,h5⟩:=h;exact⟨h1,h2,h3,by rw [hρ,den_app hs.1,den_app hs.2];exact h4,h5⟩
theorem zzy {ρ:List AV} {e0 e:Ai} (hs:e0.sc ρ.length=true):Ce (ρ++τ) (some e0) e↔Ce ρ (some e0) e:=by
 cases e0 with
 |gd gs x=>simp only [Ai.sc,Ad]at hs;simp only [Ce];rw [Ku hs.1]
 |_=>simp [Ce]
theorem Rel.ext (h:Rel c n sl hp a) (h1: ∀i,(sl i).sc c.ρ.length=true) (h2: ∀t e,hp t=some e→e.sc c.ρ.length=true) (τ:List AV):Rel (c.ext τ) n sl hp a:=by
 have key: ∀t e,Ce (c.ρ++τ) (hp t) e↔Ce c.ρ (hp t) e:=by
  intro t e;cases hh:hp t with
  |none=>exact Iff.rfl
  |some e0=>exact zzy (h2 t e0 hh)
 refine⟨h.defers,h.size,⟨h.base.os,h.base.tape,h.base.output,h.base.size,h.base.pins,h.base.block,h.base.pk,h.base.lo⟩,fun i=>(h.cx i).ext (by simpa using h1 i),fun t e hr=> ?_,fun t hn=>h.off t fun e hr=>hn e ((key t e).2 hr),⟨h.gw.nodup,h.gw.cj,h.gw.allow,h.gw.inb⟩,h.br,h.cm⟩;have CR:=(key t e).1 hr;have he:=h.ents t e CR;cases hh:hp t with
 |none=>rw [hh]at CR;exact CR.elim
 |some e0=>
  have Dw:=h2 t e0 hh;rw [hh]at CR;cases e0 with
  |gd gs x=>
   obtain⟨_,rfl⟩:=CR;simp only [Ai.sc,Ad]at Dw;cases x with
   |gd=>exact he
   |dead=>exact he
   |box=>exact he.ext (by simpa [Ai.sc]using Dw.2)
   |row=>exact he.ext (by simpa [Ai.sc]using Dw.2)
   |bm=>exact he.ext (by simpa [Ai.sc]using Dw.2)
   |deep=>exact he.ext (by simpa [Ai.sc]using Dw.2)
   |hol=>exact he.ext (by simpa [Ai.sc]using Dw.2)
  |_=>simp only [Ce]at CR;subst CR;exact he.ext Dw
theorem St.k8 {σ:St} (h:σ.sc=true) (i:Nat):(Bn σ i).sc σ.nv=true:=by
 simp only [St.sc,Ad,AS]at h;unfold Bn;cases hi:σ.sl[i]? with
 |none=>simp [SV.sc]
 |some s=>exact h.1 s (List.mem_of_getElem? hi)
theorem St.kp {σ:St} (h:σ.sc=true) (t:Nat) (e:Ai) (he:AD σ.hp t=some e):e.sc σ.nv=true:=by simp only [St.sc,Ad,AS]at h;exact h.2 _ (HZ he)
theorem Cn.jn {ρ τ:List AV} {q:Cn} (h:q.sc ρ.length=true):q.den (ρ++τ)↔q.den ρ:=by
 cases q<;>simp only [Cn.sc,Ad]at h<;>simp only [Cn.den]
 case dfd=>rw [den_app h]
 case agg=>rw [den_app h]
 case cells=>rw [den_app h]
 case inb=>rw [den_app h.1,den_app h.2]
 case inbS=>rw [den_app h.1,den_app h.2]
 case win=>rw [den_app h.1.1,den_app h.1.2,den_app h.2]
 case winS=>rw [den_app h.1.1,den_app h.1.2,den_app h.2]
 case room=>rw [den_app h.1,den_app h.2]
 case roomS=>rw [den_app h.1,den_app h.2]
 case mkroom=>rw [den_app h]
 case nz=>rw [den_app h]
 case nn=>rw [den_app h]
 case isref=>rw [den_app h]
 case issl=>rw [den_app h]
 case flat=>rw [den_app h]
 case flatS=>rw [den_app h]
 case kinds=>rw [den_app h]
theorem eI:SR c [GH] [Go.undef]:= .gd (fun hg=>by have:=hg (.bool false,true) (by simp);simp [E.den]at this) (fun _=>rfl) .nil
theorem nZ {ρ:List AV} {x:E} {b:Bool} {hs:Gd} (hx:x.den ρ= .bool b) (h:NI (x, !b) hs=true): ¬A5 ρ hs:=by intro k;have:=pF h k;simp only at this;rw [hx]at this;simp at this
theorem aM {ρ:List AV} {x:E} {b:Bool} {hs:Gd} (hx:x.den ρ= .bool b):A5 ρ (hs.filter fun h=> !(h.1.beq x&&h.2==b))↔A5 ρ hs:=by
 refine⟨fun k g hg=> ?_,fun k g hg=>k g (List.mem_filter.1 hg).1⟩;by_cases hh:(g.1.beq x&&g.2==b)=true
 ·simp only [Ad,beq_iff_eq]at hh;rw [E.ak ρ _ _ hh.1,hx,hh.2]
 ·exact k g (List.mem_filter.2 ⟨hg,by rw [Bool.not_eq_true]at hh;rw [hh];rfl⟩)
theorem SR.jv {s:SV} {v:Value} {gs:Gd} (h1:A5 c.ρ gs→SR c [s] [v]) (h2: ¬A5 c.ρ gs→v=Go.undef):SR c [Go.Proofs.YtollgpkegmbpmaaGreatDoor.mkGd gs s] [v]:=by
 cases gs with
 |nil=>exact h1 (Em _)
 |cons g gs=>exact .gd h1 h2 .nil
theorem SR.fq {x:E} {b:Bool} (hx:x.den c.ρ= .bool b) {s:SV} {v:Value} (h:SR c [s] [v]):SR c [assumeS x b s] [v]:=by
 cases s with
 |gd hs s=>
  simp only [Go.Proofs.YtollgpkegmbpmaaGreatDoor.assumeS];cases h with
  |gd h1 h2 _=>
   split
   ·rename_i hm;rw [h2 (nZ hx hm)];exact eI
   ·exact SR.jv (fun k=>h1 ((aM hx).1 k)) (fun k=>h2 fun k'=>k ((aM hx).2 k'))
 |_=>exact h
theorem zxj (f:Ai→Ai) (l:List (Nat × Ai)) (t:Nat):AD (l.map fun(t,e)=>(t,f e)) t=(AD l t).map f:=by
 induction l with
 |nil=>rfl
 |cons p l ih=>
  obtain⟨u,e⟩:=p;simp only [List.map_cons,AD];split
  ·rfl
  ·exact ih
theorem Rel.fq {x:E} {b:Bool} (hx:x.den c.ρ= .bool b) (h:Rel c n sl hp a):Rel c n (fun i=>assumeS x b (sl i)) (fun t=>(hp t).map (assumeE x b)) a:=by
 have Ld: ∀t,(∀e,Ce c.ρ (hp t) e→ ∃gs y,e= .gd gs y∨e= .dead)→(c.G t).top= []∧(c.G t).O= []:=by
  intro t ht;by_cases hh: ∃e,Ce c.ρ (hp t) e
  ·obtain⟨e,he⟩:=hh;obtain⟨gs,y,rfl|rfl⟩:=ht e he
   ·exact h.ents t _ he
   ·exact h.ents t _ he
  ·exact h.off t fun e he=>hh ⟨e,he⟩
 have cases': ∀t,((∀e,Ce c.ρ ((hp t).map (assumeE x b)) e↔Ce c.ρ (hp t) e))∨((hp t).map (assumeE x b)=some .dead∧(c.G t).top= []∧(c.G t).O= []):=by
  intro t;cases hh:hp t with
  |none=>exact .inl fun e=>Iff.rfl
  |some e0=>
   cases e0 with
   |gd hs y=>
    by_cases hm:NI (x, !b) hs=true
    ·refine .inr ⟨by simp [Go.Proofs.YtollgpkegmbpmaaGreatDoor.assumeE,hm],Ld t fun e he=> ?_⟩;rw [hh]at he;exact absurd he.1 (nZ hx hm)
    ·by_cases hy: ∃gs z,y= .gd gs z
     ·obtain⟨gs,z,rfl⟩:=hy;refine .inr ⟨by simp [Go.Proofs.YtollgpkegmbpmaaGreatDoor.assumeE,hm],Ld t fun e he=> ?_⟩;rw [hh]at he;exact⟨gs,z, .inl he.2.symm⟩
     ·refine .inl fun e=> ?_;have he:assumeE x b (.gd hs y)=Cy (hs.filter fun h=> !(h.1.beq x&&h.2==b)) y:=by
       simp only [Go.Proofs.YtollgpkegmbpmaaGreatDoor.assumeE,hm,BH,if_false];cases y<;>first|rfl|exact absurd ⟨_,_,rfl⟩ hy
      simp only [Option.map_some,he];show _↔A5 c.ρ hs∧y=e;rw [←aM hx];generalize (hs.filter fun h=> !(h.1.beq x&&h.2==b))=fs;cases fs with
      |nil=>simp only [Cy,Em,true_and];cases y<;>first|exact absurd ⟨_,_,rfl⟩ hy|exact Iff.rfl
      |cons g fs=>exact Iff.rfl
   |_=>exact .inl fun e=>Iff.rfl
 refine⟨h.defers,h.size,h.base,fun i=>(h.cx i).fq hx,fun t e hr=> ?_,fun t hn=> ?_,h.gw,h.br,fun t e he=> ?_⟩
 ·rcases cases' t with hc|⟨hc,h1,h2⟩
  ·exact h.ents t e ((hc e).1 hr)
  ·rw [hc]at hr;have:Ai.dead=e:=hr;subst this;exact⟨h1,h2⟩
 ·rcases cases' t with hc|⟨hc,h1,h2⟩
  ·exact h.off t fun e he=>hn e ((hc e).2 he)
  ·exact⟨h1,h2⟩
 ·cases hh:hp t with
  |none=>rw [hh]at he;cases he
  |some e0=>exact h.cm t e0 hh
end
theorem bB {σ:St} {d:Option Nat} {s:SV}:Bn (G9 σ d s)=Cq σ.sl.length (Bn σ) d s:=by
 funext i;cases d with
 |none=>simp [G9,Cq]
 |some d=>
  simp only [G9,Bn,Cq,Af,List.getElem?_set];by_cases h:d=i
  ·subst h;by_cases h2:d<σ.sl.length
   ·simp [h2]
   ·simp [h2,List.getElem?_eq_none (Nat.le_of_not_lt h2)]
  ·simp [h]
theorem aQ {σ:St} {d:Option Nat} {s:SV}:(G9 σ d s).sl.length=σ.sl.length:=by cases d<;>simp [G9]
theorem bH {σ:St} {d:Option Nat} {s:SV}:(G9 σ d s).hp=σ.hp:=by cases d<;>rfl
theorem bO {σ:St} {d:Option Nat} {s:SV}:(G9 σ d s).nv=σ.nv:=by cases d<;>rfl
theorem zwt (l:List (Nat × Ai)) (t:Nat) (e:Ai) (u:Nat):AD (KW l t e) u=if u=t then some e else AD l u:=by
 induction l with
 |nil=>
  simp only [KW,AD];by_cases h:t=u
  ·simp [h]
  ·rw [if_neg h,if_neg (Ne.symm h)]
 |cons p l ih=>
  obtain⟨v,f⟩:=p;simp only [KW];split
  ·rename_i hv;subst hv;simp only [AD];by_cases h:v=u
   ·simp [h]
   ·rw [if_neg h,if_neg (Ne.symm h),if_neg h]
  ·rename_i hv;simp only [AD];by_cases h:v=u
   ·subst h;rw [if_pos rfl,if_neg hv,if_pos rfl]
   ·rw [if_neg h,ih,if_neg h]
theorem nS: ∀(ents:List (Nat × Ai)) (l:List (Nat × Ai)),AD (ents.foldl (fun l (p:Nat × Ai)=>KW l p.1 p.2) l)=A2 (AD l) ents
 | [],l=>rfl
 |(t,e)::ents,l=>by
  simp only [List.foldl_cons];rw [nS ents];have:AD (KW l t e)=fun u=>if u=t then some e else AD l u:=by funext u;exact zwt l t e u
  rw [this];rfl
section
variable {P:Program} {sg:BC} {Rt:Nat→List AV→AV→Prop} {ops:Array Oper}
theorem pI {σ:St} {gs:Gd} {o:Oper} {e:AY}:Bn (Kw σ gs o e)=Cq σ.sl.length (Bn σ) o.dst (mkGd gs e.val):=by rw [←bB];rfl
theorem qN {σ:St} {gs:Gd} {o:Oper} {e:AY}:AD (Kw σ gs o e).hp=A2 (AD σ.hp) e.bf:=by
 have:(Kw σ gs o e).hp=e.bf.foldl (fun l (p:Nat × Ai)=>KW l p.1 p.2) σ.hp:=by show e.bf.foldl (fun l (p:Nat × Ai)=>KW l p.1 p.2) (G9 σ o.dst (mkGd gs e.val)).hp=_;rw [bH]
 rw [this,nS]
theorem oY {σ:St} {gs:Gd} {o:Oper} {e:AY}:(Kw σ gs o e).sl.length=σ.sl.length:=by show(G9 σ o.dst (mkGd gs e.val)).sl.length=_;rw [aQ]
theorem dF {σ:St} {gs:Gd} {o:Oper} {e:AY}:(Kw σ gs o e).nv=if e.call.isSome||e.bt.isSome then σ.nv+1 else σ.nv:=by show(if e.call.isSome||e.bt.isSome then(G9 σ o.dst (mkGd gs e.val)).nv+1 else(G9 σ o.dst (mkGd gs e.val)).nv)=_;rw [bO]
theorem cW {R:AV→Prop} {gs:Gd} {k:Tr} {L:LK} {js:List JK} {ρ:List AV}: ∀{cs:List Cn},(cs.foldr (fun c k=> .bw gs c k) k:Tr).den Rt R L js ρ→(A5 ρ gs→ ∀q∈cs,q.den ρ)∧k.den Rt R L js ρ
 | [],h=>⟨by simp,h⟩
 |c::cs,h=>by
  obtain⟨h1,h2⟩:=h;obtain⟨h3,h4⟩:=cW h2;refine⟨fun hg q hq=> ?_,h4⟩;rcases Ae.1 hq with rfl|hq
  ·exact h1 hg
  ·exact h3 hg q hq
theorem pD {l:List (Nat × Ai)} {R:List Nat} {t:Nat} {e:Ai} (h:Ot l R t=some e):AD l t=some e:=by
 unfold Ot at h;split at h
 ·exact h
 ·cases h
theorem nO {f:Nat ⊕ E} {as_:EL} {ρ τ:List AV} {r:AV} (h1:(match f with| .inl _=>true| .inr x=>x.sc ρ.length)=true) (h2:as_.sc ρ.length=true):Hz Rt f (as_.den (ρ++τ)) (ρ++τ) r↔Hz Rt f (as_.den ρ) ρ r:=by
 rw [zxs h2];cases f with
 |inl f=>exact Iff.rfl
 |inr x=>simp only [Hz];rw [den_app h1]
theorem EL.jz {n:Nat}: ∀{l:List E},l.all (E.sc n)=true→(EL.of l).sc n=true
 | [],_=>rfl
 |x::l,h=>by simp only [List.all_cons,Ad]at h;simp only [EL.of,EL.sc,Ad];exact⟨h.1,EL.jz h.2⟩
structure Ia (F:Fix) (c:Cx) (σ:St) (a:Act) (n m:Nat):Prop where
 w0:c.w0=F.w0
 A:c.A=F.A
 Mu:c.Mu=F.Mu
 nv:c.ρ.length=σ.nv
 len:σ.sl.length=n
 U: ∀t,c.U t→t<m
 rel:Rel c n (Bn σ) (AD σ.hp) a
theorem Ia.ext {F:Fix} {c:Cx} {σ:St} {a:Act} {n m:Nat} (h:Ia F c σ a n m) (hs:σ.sc=true) (τ:List AV):Rel (c.ext τ) n (Bn σ) (AD σ.hp) a:=
 h.rel.ext (fun i=>by rw [h.nv];exact St.k8 hs i) (fun t e he=>by rw [h.nv];exact St.kp hs t e he) τ
theorem yD (AK:NP P sg Rt) (Ey:S2 P sg) {F:Fix} {c:Cx} {σ:St} {a:Act} {n i base:Nat} {o:Oper} {gs:Gd} {e:AY} {k:Tr} {R:AV→Prop} {L:LK} {js:List JK} {Q:Exit→Act→World→Prop} {K:Act→World→Prop}
  (hi:ops[i]?=some o) (hm:Ia F c σ a n (base+Br*i)) (Ex:Th c.ρ ops o a (some gs)) {Rs:List Nat} (he:KS P sg (Bn σ) (Ot σ.hp Rs) σ.nv (base+Br*i) gs o=some e) (Dw:P5 σ.nv (base+Br*i) σ.hp gs e=true)
  (Q1:(e.call.isSome||e.bt.isSome)=true→σ.sc=true) (hd:(Wi gs e k).den Rt R L js c.ρ)
  (hK: ∀(c':Cx) (a':Act),c.ρ<+:c'.ρ→Ia F c' (Kw σ gs o e) a' n (base+Br*(i+1))→k.den Rt R L js c'.ρ→K a' c'.w):wpOp P ops Q i K a c.w:=by
 simp only [P5,Ad,AS]at Dw;obtain⟨⟨⟨⟨Bu,AU⟩,E4⟩,iA⟩,Yi⟩:=Dw;have Bg:gs≠ []→ ∀t x,(t,x)∈e.bf→base+Br*i≤t∧t<base+Br*i+Br∧ ∃hs y,x= .gd hs y∧KT gs hs=true:=by
  intro Bt t x hx;have:=Yi _ hx;have Qy:gs.isEmpty=false:=by cases gs;exact absurd rfl Bt;rfl
  simp only [Qy,Bool.false_or,Bool.false_and,Bool.or_false,Ad,decide_eq_true_eq]at this;refine⟨this.1.1,this.1.2, ?_⟩;have h3:=this.2;split at h3
  ·exact⟨_,_,rfl,h3⟩
  ·cases h3
 have A0: ∀t,base+Br*i≤t→t<base+Br*i+Br→ ¬c.U t:=fun t h1 _ h3=>by have:=hm.U t h3;omega
 have FF: ∀(τ:List AV),Rel (c.ext τ) n (Bn σ) (AD σ.hp) a→τ.length=(if e.call.isSome||e.bt.isSome then 1 else 0)→k.den Rt R L js (c.ρ++τ)→(A5 c.ρ gs→ ∀q∈e.bw,q.den c.ρ)→
   (∀cl,e.call=some cl→ ∃r,τ= [r]∧(A5 c.ρ gs→Hz Rt cl.fn ((EL.of cl.args).den c.ρ) c.ρ r))→(∀x,e.bt=some x→τ= [.bool (Jx a o)])→wpOp P ops Q i K a c.w:=by
  intro τ Ap hτ hk hc A3 Ct;have FC:σ.nv=c.ρ.length:=hm.nv.symm;rw [FC]at Bu AU E4;have QF: ∀r,τ= [r]→(c.ρ++τ)[σ.nv]?=some r:=by rintro r rfl;rw [FC];simp
  refine sF (c:=c.ext τ) AK hi Ap ⟨fun hg=>Ex.1 ((Ku Bu).1 hg),fun hg=>Ex.2 fun k=>hg ((Ku Bu).2 k)⟩ (fun _ _=>rfl) (fun t e h=>pD h) A0 he Bg (fun hg q hq=> ?_) (fun cl Ay=> ?_) (fun x hx _=>QF _ (Ct x hx)) (fun a' c' A1 hr=> ?_)
  ·exact(Cn.jn (AU q hq)).2 (hc ((Ku Bu).1 hg) q hq)
  ·obtain⟨r,rfl,h2⟩:=A3 cl Ay;rw [Ay]at E4;simp only [Ad]at E4;exact⟨r,QF r rfl,fun hg=>(nO E4.1 (EL.jz E4.2)).2 (h2 ((Ku Bu).1 hg))⟩
  ·have hρ:c'.ρ=c.ρ++τ:=A1.ρ;refine hK c' a' ⟨τ,hρ.symm⟩ ⟨A1.w0.trans hm.w0,A1.A.trans hm.A,A1.Mu.trans hm.Mu, ?_,by rw [oY];exact hm.len,fun t ht=> ?_, ?_⟩ (by rw [hρ];exact hk)
   ·rw [hρ,dF,Ak,hτ,FC];split<;>rfl
   ·have hmul:base+Br*(i+1)=base+Br*i+Br:=by rw [Nat.mul_add];omega
    rw [hmul];rcases A1.U t ht with h|h
    ·have:=hm.U t h;omega
    ·exact h.2
   ·rw [pI,qN,hm.len];exact hr
 unfold Wi at hd;obtain⟨hc,hd⟩:=cW hd;cases Ay:e.call with
 |none=>
  simp only [Ay]at hd;cases Ct:e.bt with
  |none=>simp only [Ct]at hd;refine FF [] (by have:=hm.rel;simpa [Cx.ext]using this) (by simp [Ay,Ct]) (by simpa using hd) hc (fun cl h=>by rw [Ay]at h;cases h) (fun x h=>by rw [Ct]at h;cases h)
  |some x=>simp only [Ct]at hd;have FE:=Q1 (by simp [Ct]);refine FF [.bool (Jx a o)] (hm.ext FE _) (by simp [Ct]) (hd _ fun hg hb=> ?_) hc (fun cl h=>by rw [Ay]at h;cases h) (fun x h=>rfl);exact Ey c n _ _ _ a _ _ o gs e _ x ⟨hm.rel,hg,fun _ _=>rfl,fun t e h=>pD h,fun t h1 h2=>A0 t h1 (Nat.lt_of_lt_of_le h2 (Nat.add_le_add_left (by decide) _))⟩ he Ct hb
 |some cl=>
  simp only [Ay]at hd;cases Ct:e.bt with
  |some x=>rw [Ct]at iA;simp [Ay]at iA
  |none=>simp only [Ct]at hd;obtain⟨r,h1,h2⟩:=hd;have FE:=Q1 (by simp [Ay]);refine FF [r] (hm.ext FE _) (by simp [Ay]) h2 hc (fun cl' h=>by rw [Ay]at h;cases h;exact⟨r,rfl,h1⟩) (fun x h=>by rw [Ct]at h;cases h)
theorem zwv {σ:St} {x:E} {b:Bool} {d:Nat}:Bn (assume x b d σ)=Cq σ.sl.length (fun i=>assumeS x b (Bn σ i)) (some d) (.e (.bool b)):=by
 funext i;simp only [assume,Bn,Cq,Af,List.getElem?_set,List.length_map,List.getElem?_map];by_cases h:d=i
 ·subst h;by_cases h2:d<σ.sl.length
  ·simp [h2]
  ·simp [h2,List.getElem?_eq_none (Nat.le_of_not_lt h2),assumeS]
 ·simp only [h,false_and,if_false];cases hh:σ.sl[i]?<;>simp [assumeS]
theorem zwi {σ:St} {x:E} {b:Bool} {d:Nat}:AD (assume x b d σ).hp=fun t=>(AD σ.hp t).map (assumeE x b):=by funext t;exact zxj _ _ _
theorem Ia.assume {F:Fix} {c:Cx} {σ:St} {a:Act} {n m:Nat} (h:Ia F c σ a n m) {x:E} {b:Bool} (hx:x.den c.ρ= .bool b) {d:Nat} (hd:Bn σ d= .e x):Ia F c (Go.Proofs.YtollgpkegmbpmaaGreatDoor.assume x b d σ) a n m:=by
 refine⟨h.w0,h.A,h.Mu,h.nv, ?_,h.U, ?_⟩
 ·simp only [Go.Proofs.YtollgpkegmbpmaaGreatDoor.assume,List.length_set,List.length_map];exact h.len
 ·rw [zwv,zwi];have hr:=h.rel.fq hx;refine{hr with cx:=fun i=> ?_};unfold Cq;split
  ·rename_i hi;obtain⟨hi,_⟩:=hi;cases hi;have:=h.rel.cx d;rw [hd]at this;generalize a.tmps.getD d Go.undef=v at this;cases this with
   |e h1 h2 _=>exact .e (f:= []) (by rw [hx]at h1;rw [Hw h1 rfl];exact .bool .nil) (by simp) .nil
  ·exact hr.cx i
theorem zwr (AK:NP P sg Rt) (Ey:S2 P sg) {F:Fix} {base:Nat} {R:AV→Prop} {L:LK} {js:List JK} {Q:Exit→Act→World→Prop} {n:Nat} {next:List Log→St→Option Tr} {i:Nat} {o:Oper} {lg:List Log} {rest:List Nat} (hi:ops[i]?=some o)
  (Cf: ∀(lg:List Log) (σ:St) (t:Tr),next lg σ=some t→ ∀(c:Cx) (a:Act),Ia F c σ a n (base+Br*(i+1))→t.den Rt R L js c.ρ→(∀(c':Cx) (a':Act) (σ':St),c.ρ<+:c'.ρ→L js .normal σ' c'.ρ→F6 F c'.ρ σ' a' c'.w→Q .normal a' c'.w)→wpOps P ops Q rest a c.w):
  ∀(m:Nat) (σ:St) (t:Tr),Tf P sg ops false base next i o lg m σ=some t→
  ∀(c:Cx) (a:Act),Ia F c σ a n (base+Br*i)→t.den Rt R L js c.ρ→(∀(c':Cx) (a':Act) (σ':St),c.ρ<+:c'.ρ→L js .normal σ' c'.ρ→F6 F c'.ρ σ' a' c'.w→Q .normal a' c'.w)→wpOps P ops Q (i::rest) a c.w:=by
 have MG:base+Br*i≤base+Br*(i+1):=by rw [Nat.mul_add];omega
 have try_: ∀(fail:Unit→Option Tr) (σ:St) (t:Tr),Te P sg ops false base next i o lg fail σ=some t→ ∀(c:Cx) (a:Act),Ia F c σ a n (base+Br*i)→t.den Rt R L js c.ρ→(∀(c':Cx) (a':Act) (σ':St),c.ρ<+:c'.ρ→L js .normal σ' c'.ρ→F6 F c'.ρ σ' a' c'.w→Q .normal a' c'.w)→
   (fail ()=some t→wpOps P ops Q (i::rest) a c.w)→wpOps P ops Q (i::rest) a c.w:=by
  intro fail σ t ht c a hm hd hq QC;unfold Te at ht;cases Gk:Np σ ops o with
  |none=>rw [Gk]at ht;cases ht
  |some r=>
   have Ex:=cM (c:=c) (a:=a) Gk (fun j want d _ _=>hm.rel.cx d);rw [Gk]at ht;cases r with
   |none=>simp only at ht;rw [wpOps_cons];unfold wpOp;simp only [hi];rw [if_neg (by simp [show Region.wanted o (yielded ops a.tmps)=false from Ex])];refine Cf lg _ t ht c _ ⟨hm.w0,hm.A,hm.Mu,by rw [bO];exact hm.nv,by rw [aQ];exact hm.len,fun t ht=>Nat.lt_of_lt_of_le (hm.U t ht) MG, ?_⟩ hd hq;rw [bB,bH,hm.len];exact hm.rel.put eI o.dst
   |some gs=>
    simp only at ht;split at ht
    ·rename_i e he;split at ht
     ·cases ht
     ·rename_i AI;split at ht
      ·cases ht
      ·rename_i k hk;simp only [Af]at ht;subst ht;simp only [Bool.false_and,Bool.false_or,Bool.not_false,Bool.true_and,Bool.or_eq_true,Bool.not_eq_true',Ad,not_or,Bool.not_eq_false]at AI;rw [wpOps_cons];refine yD AK Ey hi hm Ex he AI.1 (fun hh=> ?_) hd fun c' a' hp Fv Bz=>Cf _ _ k hk c' a' Fv Bz fun c'' a'' σ' hp'=>hq c'' a'' σ' (hp.trans hp');have:=AI.2;simp only [Bool.or_eq_true]at hh;simpa [hh]using this
    ·exact QC ht
 intro m
 induction m with
 |zero=>exact fun σ t ht c a hm hd hq=>try_ _ σ t ht c a hm hd hq fun h=>by cases h
 |succ m ih=>
  intro σ t ht c a hm hd hq;refine try_ _ σ t ht c a hm hd hq fun h=> ?_;split at h
  ·rename_i d _ _;split at h
   ·rename_i x NZ;split at h
    ·rename_i k1 k0 HN N6;simp only [Af]at h;subst h;obtain⟨tt,h1,h2,h3⟩:=hd;cases tt with
     |true=>exact ih _ k1 HN c a (hm.assume h1 NZ) (h2 rfl) hq
     |false=>exact ih _ k0 N6 c a (hm.assume h1 NZ) (h3 rfl) hq
    ·cases h
   ·cases h
  ·cases h
theorem sA (AK:NP P sg Rt) (Ey:S2 P sg) {F:Fix} {base:Nat} {R:AV→Prop} {L:LK} {js:List JK} {Q:Exit→Act→World→Prop} {n:Nat}: ∀(len i:Nat) (lg:List Log) (σ:St) (t:Tr),i+len=ops.size→KV P sg ops false base (List.range' i len) lg σ=some t→
  ∀(c:Cx) (a:Act),Ia F c σ a n (base+Br*i)→t.den Rt R L js c.ρ→(∀(c':Cx) (a':Act) (σ':St),c.ρ<+:c'.ρ→L js .normal σ' c'.ρ→F6 F c'.ρ σ' a' c'.w→Q .normal a' c'.w)→wpOps P ops Q (List.range' i len) a c.w
 |0,i,lg,σ,t,hl,ht,c,a,hm,hd,hq=>by
  simp only [List.range'_zero,KV,Bool.false_and,BH,if_false,Af]at ht ⊢;subst ht;refine hq c a _ (List.prefix_refl _) hd ⟨c,rfl,rfl,hm.w0,hm.A,hm.Mu,hm.nv,fun t ht=> ?_, ?_⟩
  ·have:=hm.U t ht;have h9:i=ops.size:=by omega
   subst h9;exact this
  ·have:=hm.rel;rw [←hm.len]at this;exact this
 |len+1,i,lg,σ,t,hl,ht,c,a,hm,hd,hq=>by
  rw [List.range'_succ]at ht ⊢;unfold KV at ht;obtain⟨o,hi⟩: ∃o,ops[i]?=some o:=⟨ops[i]'(by omega),by simp [show i<ops.size by omega]⟩
  rw [hi]at ht;simp only at ht;exact zwr AK Ey hi (fun lg σ t ht c a=>sA AK Ey (n:=n) len (i+1) lg σ t (by omega) ht c a) 4 σ t ht c a hm hd hq
end
def fT (l:List Oper) (bs:List Nat):Prop:=bs.length=l.length∧ ∀(j:Nat) (o:Oper),l[j]?=some o→ ∀i,((bs[j]?).getD 0).testBit i=true→ ∃e∈o.after.toList,Region.binds .any e=true∧(i=e.on∨(e.on<j∧((bs[e.on]?).getD 0).testBit i=true))
theorem lT (acc:List Nat) (i:Nat): ∀(es:List Edge) (s:Nat),(es.foldl (fun s e=>if Region.binds .any e then s|||2^e.on|||(acc[e.on]?).getD 0 else s) s).testBit i=true→
  s.testBit i=true∨ ∃e∈es,Region.binds .any e=true∧(i=e.on∨((acc[e.on]?).getD 0).testBit i=true)
 | [],s,h=> .inl h
 |e::es,s,h=>by
  simp only [List.foldl_cons]at h;rcases lT acc i es _ h with h|⟨e',h1,h2⟩
  ·split at h
   ·rename_i hb;simp only [Nat.testBit_or,Nat.testBit_two_pow,Bool.or_eq_true,decide_eq_true_eq]at h;rcases h with(h|h)|h
    ·exact .inl h
    ·exact .inr ⟨e,by simp,hb, .inl h.symm⟩
    ·exact .inr ⟨e,by simp,hb, .inr h⟩
   ·exact .inl h
  ·exact .inr ⟨e',by simp [h1],h2⟩
theorem o8: ∀(os pre:List Oper) (acc:List Nat),fT pre acc→fT (pre++os) (JL os acc)
 | [],pre,acc,h=>by simpa [JL]using h
 |o::os,pre,acc,h=>by
  obtain⟨hl,hb⟩:=h;have:=o8 os (pre++ [o]) (acc++ [eM acc o]) ⟨by simp [hl],fun j o' ho i hi=> ?_⟩
  ·simpa [JL]using this
  ·have Ax: ∀k,k<acc.length→((acc++ [eM acc o])[k]?).getD 0=(acc[k]?).getD 0:=fun k hk=>by rw [List.getElem?_append_left hk]
   by_cases hj:j<pre.length
   ·rw [List.getElem?_append_left hj]at ho;rw [Ax j (by omega)]at hi;obtain⟨e,h1,h2,h3⟩:=hb j o' ho i hi;exact⟨e,h1,h2,h3.imp id fun h=>⟨h.1,by rw [Ax _ (by omega)];exact h.2⟩⟩
   ·rw [List.getElem?_append_right (by omega)]at ho;have uV:j-pre.length=0:=by
     cases hh:j-pre.length with
     |zero=>rfl
     |succ k=>rw [hh]at ho;simp at ho
    rw [uV]at ho;simp at ho;subst ho;have Iu:j=acc.length:=by omega
    rw [Iu,List.getElem?_append_right (Nat.le_refl _)]at hi;simp only [Nat.sub_self,List.getElem?_cons_zero,Option.getD_some]at hi;rcases lT acc i _ 0 hi with h|⟨e,h1,h2,h3⟩
    ·simp at h
    ·refine⟨e,h1,h2,h3.imp id fun h=> ?_⟩;have he:e.on<acc.length:=by
      rcases Nat.lt_or_ge e.on acc.length with hh|hh
      ·exact hh
      ·rw [List.getElem?_eq_none hh]at h;simp at h
     exact⟨by omega,by rw [Ax _ he];exact h⟩
def SZ (ops:Array Oper) (S:Nat→Bool):Prop:= ∀k o,S k=true→ops[k]?=some o→ ∀e∈o.after.toList,Region.binds .any e=true→S e.on=true
theorem iS (ops:Array Oper):fT ops.toList (JL ops.toList []):=by have:=o8 ops.toList [] [] ⟨rfl,by simp⟩;simpa using this
theorem nN {ops:Array Oper} {S:Nat→Bool} (hS:SZ ops S): ∀(k i:Nat),S k=true→k<ops.size→(((JL ops.toList [])[k]?).getD 0).testBit i=true→S i=true:=by
 intro k
 induction k using Nat.strongRecOn with
 |_ k ih=>
  intro i hk Ax hb;have ho:ops.toList[k]?=some ops[k]:=by simp [Ax]
  obtain⟨e,h1,h2,h3⟩:=(iS ops).2 k _ ho i hb;have MI:=hS k ops[k] hk (by simp [Ax]) e h1 h2;rcases h3 with rfl|⟨h3,h4⟩
  ·exact MI
  ·exact ih e.on h3 i MI (by omega) h4
theorem zxx {ops:Array Oper} {S:Nat→Bool} (hS:SZ ops S) {j i:Nat} {o:Oper} (ho:ops[j]?=some o) (hr: ∀e∈o.after.toList,Region.binds .any e=true→S e.on=true) (hb:(((JL ops.toList [])[j]?).getD 0).testBit i=true):S i=true:=by
 have Ax:j<ops.size:=(Array.getElem?_eq_some_iff.1 ho).1;obtain⟨e,h1,h2,h3⟩:=(iS ops).2 j o (by simpa using ho) i hb;have MI:=hr e h1 h2;rcases h3 with rfl|⟨h3,h4⟩
 ·exact MI
 ·exact nN hS e.on i MI (by omega) h4
theorem zwA {ops:Array Oper} {S:Nat→Bool} (hS:SZ ops S) {j i:Nat} {o:Oper} (ho:ops[j]?=some o) (hi:i<ops.size) (hj:S j=false) (hr: ∀e∈o.after.toList,Region.binds .any e=true→S e.on=true) (Bt:i≠j) (J7:IM (JL ops.toList []) i j=true):S i=decide (i<j):=by
 unfold IM at J7;split at J7
 ·rename_i h;rw [zxx hS ho hr J7];simp [h]
 ·rename_i h;cases hs:S i with
  |false=>simp [h]
  |true=>have:=nN hS i j hs hi J7;rw [hj]at this;cases this
structure Rec where
 i:Nat
 o:Oper
 σ:St
 r:Option (Gd × AY)
def Rec.next (x:Rec):St:=match x.r with|none=>G9 x.σ x.o.dst GH|some (gs,e)=>Kw x.σ gs x.o e
def Rec.val (x:Rec):SV:=match x.r with|none=>GH|some (gs,e)=>mkGd gs e.val
def Rec.bf (x:Rec):List (Nat × Ai):=match x.r with|none=> []|some (_,e)=>e.bf
def iW (P:Program) (sg:BC) (Rt:Nat→List AV→AV→Prop) (ops:Array Oper) (base:Nat) (ρ:List AV) (x:Rec):Prop:=
 ops[x.i]?=some x.o∧match x.r with
  |none=>Np x.σ ops x.o=some none
  |some (gs,e)=>Np x.σ ops x.o=some (some gs)∧KS P sg (Bn x.σ) (Ot x.σ.hp (SI x.σ gs x.o)) x.σ.nv (base+Br*x.i) gs x.o=some e∧e.bt=none∧P5 x.σ.nv (base+Br*x.i) x.σ.hp gs e=true∧
   (A5 ρ gs→ ∀q∈e.bw,q.den ρ)∧ ∀cl,e.call=some cl→ ∃r,ρ[x.σ.nv]?=some r∧(A5 ρ gs→Hz Rt cl.fn ((EL.of cl.args).den ρ) ρ r)
def DA:Nat→St→List Rec→St→Prop
 |_,σ, [],σ'=>σ=σ'
 |i,σ,x::xs,σ'=>x.i=i∧x.σ=σ∧DA (i+1) x.next xs σ'
def Rec.log (x:Rec):Option Log:=x.r.map fun(gs,e)=>⟨x.i,SI x.σ gs x.o,e.bf.map (·.1)⟩
theorem cR {P:Program} {sg:BC} {Rt:Nat→List AV→AV→Prop} {ops:Array Oper} {base:Nat} {R:AV→Prop} {L:LK} {js:List JK}: ∀(len i:Nat) (lg:List Log) (σ:St) (t:Tr) (ρ:List AV),i+len=ops.size→
  KV P sg ops true base (List.range' i len) lg σ=some t→t.den Rt R L js ρ→ρ.length=σ.nv→
  ∃(τ:List AV) (xs:List Rec) (σ':St) (lg':List Log),DA i σ xs σ'∧xs.length=len∧(∀x∈xs,iW P sg Rt ops base (ρ++τ) x)∧(ρ++τ).length=σ'.nv∧L js .normal {σ' with nx:=base+Br*ops.size} (ρ++τ)∧Ww ops lg'=true∧(∀y∈lg,y∈lg')∧ ∀x∈xs,∀y,x.log=some y→y∈lg'
 |0,i,lg,σ,t,ρ,hl,ht,hd,hn=>by
  simp only [List.range'_zero,KV,Bool.true_and]at ht;split at ht
  ·cases ht
  ·rename_i Tx;simp only [Af]at ht;subst ht;exact⟨[], [],σ,lg,rfl,rfl,by simp,by simpa using hn,by simpa [Tr.den]using hd,by simpa using Tx,fun y hy=>hy,by simp⟩
 |len+1,i,lg,σ,t,ρ,hl,ht,hd,hn=>by
  rw [List.range'_succ]at ht;unfold KV at ht;obtain⟨o,hi⟩: ∃o,ops[i]?=some o:=⟨ops[i]'(by omega),by simp [show i<ops.size by omega]⟩
  rw [hi]at ht;simp only at ht;unfold Tf Te at ht;cases Gk:Np σ ops o with
  |none=>rw [Gk]at ht;cases ht
  |some r=>
   rw [Gk]at ht;cases r with
   |none=>
    simp only at ht;obtain⟨τ,xs,σ',lg',h1,h2,h3,h4,h5,h6,h7,h8⟩:=cR len (i+1) lg _ t ρ (by omega) ht hd (by rw [bO];exact hn);refine⟨τ,⟨i,o,σ,none⟩::xs,σ',lg',⟨rfl,rfl,h1⟩,by simp [h2],fun x hx=> ?_,h4,h5,h6,h7,fun x hx y hy=> ?_⟩
    ·rcases Ae.1 hx with rfl|hx
     ·exact⟨hi,Gk⟩
     ·exact h3 x hx
    ·rcases Ae.1 hx with rfl|hx
     ·simp [Rec.log]at hy
     ·exact h8 x hx y hy
   |some gs=>
    simp only at ht;split at ht
    ·rename_i e he;split at ht
     ·cases ht
     ·rename_i AI;simp only [Bool.true_and,Bool.not_true,Bool.false_and,Bool.or_false,Bool.or_eq_true,Bool.not_eq_true',not_or,Bool.not_eq_false]at AI;have Ct:e.bt=none:=by cases hh:e.bt with|none=>rfl|some x=>rw [hh]at AI;simp at AI
      split at ht
      ·cases ht
      ·rename_i k hk;simp only [Af]at ht;subst ht;have Dw:=AI.2;simp only [P5,Ad,AS]at Dw;obtain⟨⟨⟨⟨Bu,AU⟩,E4⟩,_⟩,_⟩:=Dw;rw [←hn]at Bu AU E4;unfold Wi at hd;obtain⟨hc,hd⟩:=cW hd;simp only [Ct]at hd;obtain⟨τ0,wX,A3,Bz⟩: ∃τ0:List AV,(ρ++τ0).length=(Kw σ gs o e).nv∧(∀cl,e.call=some cl→ ∃r,τ0= [r]∧(A5 ρ gs→Hz Rt cl.fn ((EL.of cl.args).den ρ) ρ r))∧k.den Rt R L js (ρ++τ0):=by
        cases Ay:e.call with
        |none=>rw [Ay]at hd;exact⟨[],by rw [dF];simp [Ay,Ct,hn],by simp,by simpa using hd⟩
        |some cl=>rw [Ay]at hd;obtain⟨r,h1,h2⟩:=hd;exact⟨[r],by rw [dF];simp [Ay,hn],fun cl' h=>by cases h;exact⟨r,rfl,h1⟩,h2⟩
       obtain⟨τ,xs,σ',lg',h1,h2,h3,h4,h5,h6,h7,h8⟩:=cR len (i+1) _ _ k (ρ++τ0) (by omega) hk Bz wX;have W8:ρ++τ0++τ=ρ++(τ0++τ):=List.append_assoc ..;rw [W8]at h3 h4 h5;refine⟨τ0++τ,⟨i,o,σ,some (gs,e)⟩::xs,σ',lg',⟨rfl,rfl,h1⟩,by simp [h2],fun x hx=> ?_,h4,h5,h6,fun y hy=>h7 y (by simp [hy]),fun x hx y hy=> ?_⟩
       ·rcases Ae.1 hx with rfl|hx
        ·refine⟨hi,Gk,he,Ct,AI.2,fun hg q hq=>(Cn.jn (AU q hq)).2 (hc ((Ku Bu).1 hg) q hq),fun cl Ay=> ?_⟩;obtain⟨r,hr,h2⟩:=A3 cl Ay;rw [Ay]at E4;simp only [Ad]at E4;subst hr;exact⟨r,by simp only;rw [←hn];simp,fun hg=>(nO E4.1 (EL.jz (by simpa using E4.2))).2 (h2 ((Ku Bu).1 hg))⟩
        ·exact h3 x hx
       ·rcases Ae.1 hx with rfl|hx
        ·simp only [Rec.log,Option.map_some,Af]at hy;subst hy;exact h7 _ (by simp)
        ·exact h8 x hx y hy
    ·cases ht
def FG (n:Nat) (sl0:Nat→SV) (xs:List Rec) (S:Nat→Bool):Nat→SV:=xs.foldl (fun sl x=>if S x.i then Cq n sl x.o.dst x.val else sl) sl0
def Gp (hp0:Nat→Option Ai) (xs:List Rec) (S:Nat→Bool):Nat→Option Ai:=xs.foldl (fun hp x=>if S x.i then A2 hp x.bf else hp) hp0
section
variable {n:Nat} {S S':Nat→Bool} {d t:Nat}
theorem Se: ∀(xs:List Rec) {sl sl':Nat→SV},sl d=sl' d→(∀x∈xs,x.o.dst=some d→S x.i=S' x.i)→FG n sl xs S d=FG n sl' xs S' d
 | [],_,_,h,_=>h
 |x::xs,sl,sl',h,hs=>by
  refine Se xs (sl:=if S x.i then Cq n sl x.o.dst x.val else sl) (sl':=if S' x.i then Cq n sl' x.o.dst x.val else sl') ?_ fun y hy=>hs y (by simp [hy]);by_cases hd:x.o.dst=some d
  ·rw [←hs x (by simp) hd];split
   ·simp only [Cq,hd,true_and];rw [h]
   ·exact h
  ·have hu: ∀sl:Nat→SV,Cq n sl x.o.dst x.val d=sl d:=fun sl=>by simp [Cq,hd]
   have h1:(if S x.i then Cq n sl x.o.dst x.val else sl) d=sl d:=by split;exact hu sl;rfl
   have h2:(if S' x.i then Cq n sl' x.o.dst x.val else sl') d=sl' d:=by split;exact hu sl';rfl
   rw [h1,h2,h]
theorem dM (xs:List Rec) {sl:Nat→SV} (hs: ∀x∈xs,x.o.dst=some d→S x.i=false):FG n sl xs S d=sl d:=by
 have h1:=Se (n:=n) (S:=S) (S':=fun _=>false) xs (sl:=sl) (sl':=sl) (d:=d) rfl hs;rw [h1];clear h1 hs
 induction xs generalizing sl with
 |nil=>rfl
 |cons x xs ih=>exact ih
theorem fB (hd:n≤d): ∀(xs:List Rec) {sl:Nat→SV},FG n sl xs S d=sl d
 | [],_=>rfl
 |x::xs,sl=>by
  have:=fB hd xs (sl:=if S x.i then Cq n sl x.o.dst x.val else sl);refine Eq.trans this ?_;split
  ·simp only [Cq];rw [if_neg (by omega)]
  ·rfl
theorem sL {y:Rec} (hd:d<n) (hy:y.o.dst=some d) (hS:S y.i=true): ∀(xs:List Rec) {sl:Nat→SV},y∈xs→(∀x∈xs,x≠y→x.o.dst≠some d)→FG n sl xs S d=y.val
 | [],_,h,_=>by simp at h
 |x::xs,sl,h,hu=>by
  by_cases hm:y∈xs
  ·exact sL hd hy hS xs (sl:=if S x.i then Cq n sl x.o.dst x.val else sl) hm fun z hz=>hu z (by simp [hz])
  ·have hx:y=x:=by rcases Ae.1 h with h|h;exact h;exact absurd h hm
   subst hx;have:=dM (n:=n) (S:=S) (d:=d) xs (sl:=Cq n sl y.o.dst y.val) (fun z hz Og=>absurd Og (hu z (by simp [hz]) (fun hh=>hm (hh▸hz))));show FG n (if S y.i then Cq n sl y.o.dst y.val else sl) xs S d=_;rw [if_pos hS,this];simp [Cq,hy,hd]
theorem nW {hp hp':Nat→Option Ai} {l:List (Nat × Ai)} (h:hp t=hp' t):A2 hp l t=A2 hp' l t:=by
 induction l generalizing hp hp' with
 |nil=>exact h
 |cons p l ih=>
  refine ih ?_;show(if t=p.1 then some p.2 else hp t)=(if t=p.1 then some p.2 else hp' t)
  rw [h]
theorem zuV {hp hp':Nat→Option Ai} {l:List (Nat × Ai)} (h:t∈l.map (·.1)):A2 hp l t=A2 hp' l t:=by
 induction l generalizing hp hp' with
 |nil=>simp at h
 |cons p l ih=>
  by_cases hm:t∈l.map (·.1)
  ·exact ih hm
  ·have ht:t=p.1:=by simp only [List.map_cons,Ae]at h;exact h.resolve_right hm
   refine nW (l:=l) ?_;show(if t=p.1 then some p.2 else hp t)=(if t=p.1 then some p.2 else hp' t)
   rw [if_pos ht,if_pos ht]
theorem dO {hp:Nat→Option Ai} {l:List (Nat × Ai)} (h:t∉l.map (·.1)):A2 hp l t=hp t:=
 Kx fun e he=>h (List.mem_map.2 ⟨_,he,rfl⟩)
theorem Sb: ∀(xs:List Rec) {hp hp':Nat→Option Ai},hp t=hp' t→(∀x∈xs,t∈x.bf.map (·.1)→S x.i=S' x.i)→Gp hp xs S t=Gp hp' xs S' t
 | [],_,_,h,_=>h
 |x::xs,hp,hp',h,hs=>by
  refine Sb xs (hp:=if S x.i then A2 hp x.bf else hp) (hp':=if S' x.i then A2 hp' x.bf else hp') ?_ fun y hy=>hs y (by simp [hy]);by_cases hd:t∈x.bf.map (·.1)
  ·rw [←hs x (by simp) hd];split
   ·exact nW h
   ·exact h
  ·have h1:(if S x.i then A2 hp x.bf else hp) t=hp t:=by split;exact dO hd;rfl
   have h2:(if S' x.i then A2 hp' x.bf else hp') t=hp' t:=by split;exact dO hd;rfl
   rw [h1,h2,h]
theorem cY (xs:List Rec) {hp:Nat→Option Ai} (hs: ∀x∈xs,t∈x.bf.map (·.1)→S x.i=false):Gp hp xs S t=hp t:=by
 have h1:=Sb (S:=S) (S':=fun _=>false) xs (hp:=hp) (hp':=hp) (t:=t) rfl hs;rw [h1];clear h1 hs
 induction xs generalizing hp with
 |nil=>rfl
 |cons x xs ih=>exact ih
end
section
variable {n:Nat} {S:Nat→Bool} {d t:Nat}
theorem Rec.ki (x:Rec):Bn x.next=Cq x.σ.sl.length (Bn x.σ) x.o.dst x.val:=by
 obtain⟨i,o,σ,r⟩:=x;cases r with
 |none=>exact bB
 |some ge=>exact pI
theorem Rec.j7 (x:Rec):AD x.next.hp=A2 (AD x.σ.hp) x.bf:=by
 obtain⟨i,o,σ,r⟩:=x;cases r with
 |none=>simp only [Rec.next,Rec.bf,bH];rfl
 |some ge=>exact qN
theorem Rec.jt (x:Rec):x.next.sl.length=x.σ.sl.length:=by
 obtain⟨i,o,σ,r⟩:=x;cases r with
 |none=>exact aQ
 |some ge=>exact oY
theorem DA.range: ∀{xs:List Rec} {i:Nat} {σ σ':St},DA i σ xs σ'→ ∀x∈xs,i≤x.i∧x.i<i+xs.length
 | [],_,_,_,_,x,hx=>by simp at hx
 |y::xs,i,σ,σ',h,x,hx=>by
  rcases Ae.1 hx with rfl|hx
  ·have:=h.1;simp only [Am];omega
  ·have:=DA.range h.2.2 x hx;simp only [Am];omega
theorem DA.ex: ∀{xs:List Rec} {i:Nat} {σ σ':St},DA i σ xs σ'→ ∀j,i≤j→j<i+xs.length→ ∃x∈xs,x.i=j
 | [],i,_,_,_,j,h1,h2=>by simp at h2;omega
 |y::xs,i,σ,σ',h,j,h1,h2=>by
  by_cases hj:j=i
  ·exact⟨y,by simp,by rw [hj];exact h.1⟩
  ·simp only [Am]at h2;obtain⟨x,hx,he⟩:=DA.ex h.2.2 j (by omega) (by omega);exact⟨x,by simp [hx],he⟩
theorem DA.inj: ∀{xs:List Rec} {i:Nat} {σ σ':St},DA i σ xs σ'→ ∀x∈xs,∀y∈xs,x.i=y.i→x=y
 | [],_,_,_,_,x,hx,_,_,_=>by simp at hx
 |z::xs,i,σ,σ',h,x,hx,y,hy,he=>by
  have hz:=h.1;rcases Ae.1 hx with h1|h1<;>rcases Ae.1 hy with h2|h2
  ·rw [h1,h2]
  ·subst h1;have:=(DA.range h.2.2 y h2).1;omega
  ·subst h2;have:=(DA.range h.2.2 x h1).1;omega
  ·exact DA.inj h.2.2 x h1 y h2 he
theorem DA.sl: ∀{xs:List Rec} {i:Nat} {σ σ':St},DA i σ xs σ'→σ.sl.length=n→(∀x∈xs,x.σ.sl.length=n∧ ∀d,Bn x.σ d=FG n (Bn σ) xs (fun k=>decide (k<x.i)) d)∧σ'.sl.length=n∧Bn σ'=FG n (Bn σ) xs fun _=>true
 | [],i,σ,σ',h,hn=>by have h:σ=σ':=h;subst h;exact⟨by simp,hn,rfl⟩
 |y::xs,i,σ,σ',h,hn=>by
  obtain⟨h1,h2,h3⟩:=h;subst h2;obtain⟨q1,q2,q3⟩:=DA.sl h3 (by rw [y.jt];exact hn);rw [y.ki,hn]at q1 q3;refine⟨fun x hx=> ?_,q2,q3⟩;rcases Ae.1 hx with rfl|hx
  ·refine⟨hn,fun d=>(dM _ fun z hz _=> ?_).symm⟩;rcases Ae.1 hz with rfl|hz
   ·simp
   ·have:=(DA.range h3 z hz).1;simp only [decide_eq_false_iff_not];omega
  ·refine⟨(q1 x hx).1,fun d=> ?_⟩;rw [(q1 x hx).2 d];have:=(DA.range h3 x hx).1;show _=FG n (if decide (y.i<x.i)then Cq n (Bn y.σ) y.o.dst y.val else Bn y.σ) xs (fun k=>decide (k<x.i)) d;rw [if_pos (by simp only [decide_eq_true_eq];omega)]
theorem DA.hp: ∀{xs:List Rec} {i:Nat} {σ σ':St},DA i σ xs σ'→(∀x∈xs,∀t,AD x.σ.hp t=Gp (AD σ.hp) xs (fun k=>decide (k<x.i)) t)∧AD σ'.hp=Gp (AD σ.hp) xs fun _=>true
 | [],i,σ,σ',h=>by have h:σ=σ':=h;subst h;exact⟨by simp,rfl⟩
 |y::xs,i,σ,σ',h=>by
  obtain⟨h1,h2,h3⟩:=h;subst h2;obtain⟨q1,q3⟩:=DA.hp h3;rw [y.j7]at q1 q3;refine⟨fun x hx=> ?_,q3⟩;rcases Ae.1 hx with rfl|hx
  ·refine fun d=>(cY _ fun z hz _=> ?_).symm;rcases Ae.1 hz with rfl|hz
   ·simp
   ·have:=(DA.range h3 z hz).1;simp only [decide_eq_false_iff_not];omega
  ·intro t;rw [q1 x hx t];have:=(DA.range h3 x hx).1;show _=Gp (if decide (y.i<x.i)then A2 (AD y.σ.hp) y.bf else AD y.σ.hp) xs (fun k=>decide (k<x.i)) t;rw [if_pos (by simp only [decide_eq_true_eq];omega)]
theorem s9 {y:Rec} {X9:Nat→Option Ai} (hS:S y.i=true) (ht:t∈y.bf.map (·.1)): ∀{xs:List Rec} {i:Nat} {σ σ':St} {hp0:Nat→Option Ai},DA i σ xs σ'→y∈xs→(∀x∈xs,x.i≠y.i→t∈x.bf.map (·.1)→S x.i=decide (x.i<y.i))→Gp hp0 xs S t=A2 X9 y.bf t
 | [],_,_,_,_,_,h,_=>by simp at h
 |x::xs,i,σ,σ',hp0,hc,hm,hs=>by
  by_cases hx:y=x
  ·subst hx;have:=cY (S:=S) (t:=t) xs (hp:=A2 hp0 y.bf) (fun z hz Og=>by
    have Ax:=(DA.range hc.2.2 z hz).1;have h1:=hc.1;rw [hs z (by simp [hz]) (by omega) Og];simp only [decide_eq_false_iff_not];omega)
   show Gp (if S y.i then A2 hp0 y.bf else hp0) xs S t=_;rw [if_pos hS,this];exact zuV ht
  ·have Fv:y∈xs:=by rcases Ae.1 hm with h|h;exact absurd h hx;exact h
   exact s9 hS ht (hp0:=if S x.i then A2 hp0 x.bf else hp0) hc.2.2 Fv fun z hz=>hs z (by simp [hz])
end
theorem o9 {α:Type} {p p':α→Bool}: ∀(l:List α),(∀k∈l,p' k=true→p k=true)→(∃j∈l,p j=true∧p' j=false)→(l.filter p').length<(l.filter p).length
 | [],_,h=>by obtain⟨j,hj,_⟩:=h;simp at hj
 |x::l,hs,h=>by
  have hle:(l.filter p').length≤(l.filter p).length:=by
   have: ∀(l:List α),(∀k∈l,p' k=true→p k=true)→(l.filter p').length≤(l.filter p).length:=by
    intro l
    induction l with
    |nil=>intro _;simp
    |cons y l ih=>
     intro h;have:=ih fun k hk=>h k (by simp [hk]);have hy:=h y (by simp);cases h1:p' y with
     |false=>
      cases h2:p y with
      |false=>simpa [h1,h2]using this
      |true=>simp only [List.filter_cons,h1,h2,BH,if_false,if_true,Am];omega
     |true=>simpa [h1,hy h1]using this
   exact this l fun k hk=>hs k (by simp [hk])
  obtain⟨j,hj,h1,h2⟩:=h;rcases Ae.1 hj with rfl|hj
  ·simp only [List.filter_cons,h1,h2,BH,if_false,if_true,Am];omega
  ·have:=o9 l (fun k hk=>hs k (by simp [hk])) ⟨j,hj,h1,h2⟩;have hx:=hs x (by simp);cases h3:p' x with
   |false=>
    cases h4:p x with
    |false=>simpa [h3,h4]using this
    |true=>simp only [List.filter_cons,h3,h4,BH,if_false,if_true,Am];omega
   |true=>simpa [h3,hx h3]using this
section
variable {ops:Array Oper} {listed:Array Bool}
theorem zwZ (hb: ∀j o,ops[j]?=some o→ ∀e∈o.after.toList,Region.binds .any e=true→e.on<j) (BJ:listed.size=ops.size) (hr:Region.ready .any ops listed= []): ∀k,k<ops.size→listed.getD k true=true:=by
 intro k
 induction k using Nat.strongRecOn with
 |_ k ih=>
  intro hk;cases hs:listed.getD k true with
  |true=>rfl
  |false=>
   have:k∈Region.ready .any ops listed:=mem_ready.2 ⟨hs,ops[k],by simp [hk],fun e he JW=>by
    have Ax:=hb k ops[k] (by simp [hk]) e (by simpa using he) JW;have:=ih e.on Ax (by omega);have h2:e.on<listed.size:=by omega
    simp only [Array.getD_eq_getD_getElem?,Array.getElem?_eq_getElem h2,Option.getD_some]at this ⊢;exact this⟩
   rw [hr]at this;cases this
theorem zyQ (BJ:listed.size=ops.size) {j:Nat} (hj:j<ops.size) (k:Nat):(listed.setIfInBounds j true).getD k true=(decide (k=j)||listed.getD k true):=by
 by_cases h:j=k
 ·subst h;simp [Array.getD_eq_getD_getElem?,show j<listed.size by omega]
 ·rw [getD_set_ne true h];simp [Ne.symm h]
variable {P:Program} {sg:BC} {Rt:Nat→List AV→AV→Prop}
theorem zvF (AK:NP P sg Rt) {F:Fix} {σ σ':St} {xs:List Rec} {ρ:List AV} {lg:List Log} {n:Nat} {Q:Exit→Act→World→Prop} (hc:DA 0 σ xs σ') (hlen:xs.length=ops.size) (AF: ∀x∈xs,iW P sg Rt ops σ.nx ρ x) (Tx:Ww ops lg=true) (QL: ∀x∈xs,∀y,x.log=some y→y∈lg) (hn:σ.sl.length=n)
  (hQ: ∀(c:Cx) (a:Act),c.ρ=ρ→c.w0=F.w0→c.A=F.A→c.Mu=F.Mu→(∀t,c.U t→t<σ.nx+Br*ops.size)→Rel c n (Bn σ') (AD σ'.hp) a→Q .normal a c.w):
  ∀(fuel:Nat) (listed:Array Bool) (a:Act) (c:Cx),listed.size=ops.size→SZ ops (fun k=>listed.getD k true)→c.ρ=ρ→c.w0=F.w0→c.A=F.A→c.Mu=F.Mu→
   (∀t,c.U t→t<σ.nx∨ ∃k,k<ops.size∧listed.getD k true=true∧σ.nx+Br*k≤t∧t<σ.nx+Br*k+Br)→Rel c n (FG n (Bn σ) xs fun k=>listed.getD k true) (Gp (AD σ.hp) xs fun k=>listed.getD k true) a→
   ((List.range ops.size).filter fun k=> !listed.getD k true).length≤fuel→wpAny P .any ops Q fuel listed a c.w:=by
 simp only [Ww,Ad,AS,Bool.or_eq_true,beq_iff_eq,Bool.not_eq_true',decide_eq_true_eq]at Tx;obtain⟨⟨d1,d2⟩,d3⟩:=Tx;have QP: ∀j o,ops[j]?=some o→(o,j)∈ops.toList.zipIdx:=fun j o h=>List.mk_mem_zipIdx_iff_getElem?.2 (by simpa using h);have hb: ∀j o,ops[j]?=some o→ ∀e∈o.after.toList,Region.binds .any e=true→e.on<j:=fun j o h e he JW=>by
  rcases d2 (o,j) (QP j o h) e he with h|h
  ·rw [JW]at h;cases h
  ·exact h
 obtain⟨c1,c2,c3⟩:=hc.sl hn;obtain⟨c4,c5⟩:=hc.hp;have DH: ∀(listed:Array Bool) (a:Act) (c:Cx),listed.size=ops.size→c.ρ=ρ→c.w0=F.w0→c.A=F.A→c.Mu=F.Mu→
   (∀t,c.U t→t<σ.nx∨ ∃k,k<ops.size∧listed.getD k true=true∧σ.nx+Br*k≤t∧t<σ.nx+Br*k+Br)→Rel c n (FG n (Bn σ) xs fun k=>listed.getD k true) (Gp (AD σ.hp) xs fun k=>listed.getD k true) a→
   (∀k,k<ops.size→listed.getD k true=true)→Q .normal a c.w:=by
  intro listed a c BJ h1 h2 h3 h4 h5 h6 C5;refine hQ c a h1 h2 h3 h4 (fun t ht=> ?_) ?_
  ·rcases h5 t ht with h|⟨k,hk,_,_,h⟩
   ·simp only [Br]at*;omega
   ·simp only [Br]at*;omega
  ·have e1:(FG n (Bn σ) xs fun k=>listed.getD k true)=Bn σ':=by
    rw [c3];funext d;exact Se xs rfl fun x hx _=>by have:=(hc.range x hx).2;exact C5 x.i (by omega)
   have e2:(Gp (AD σ.hp) xs fun k=>listed.getD k true)=AD σ'.hp:=by rw [c5];funext d;exact Sb xs rfl fun x hx _=>by have:=(hc.range x hx).2;exact C5 x.i (by omega)
   rw [e1,e2]at h6;exact h6
 intro fuel
 induction fuel with
 |zero=>
  intro listed a c BJ Ay h1 h2 h3 h4 h5 h6 Qv;have C5: ∀k,k<ops.size→listed.getD k true=true:=by intro k hk;have:=List.length_eq_zero_iff.1 (Nat.le_zero.1 Qv);have:=List.filter_eq_nil_iff.1 this k (by simpa using hk);simpa using this
  refine⟨?_,DH listed a c BJ h1 h2 h3 h4 h5 h6 C5⟩;refine List.eq_nil_iff_forall_not_mem.2 fun j hj=> ?_;obtain⟨q1,o,q2,_⟩:=mem_ready.1 hj;rw [C5 j (Array.getElem?_eq_some_iff.1 q2).1]at q1;cases q1
 |succ fuel ih=>
  intro listed a c BJ Ay h1 h2 h3 h4 h5 h6 Qv;refine⟨fun hr=>DH listed a c BJ h1 h2 h3 h4 h5 h6 (zwZ hb BJ hr),fun j hj=> ?_⟩;obtain⟨q1,o,q2,q3⟩:=mem_ready.1 hj;have XM:j<ops.size:=(Array.getElem?_eq_some_iff.1 q2).1;have K3: ∀e∈o.after.toList,Region.binds .any e=true→listed.getD e.on true=true:=fun e he JW=>by
   have h9:=q3 e (by simpa using he) JW;have Ax:=hb j o q2 e he JW;have h8:e.on<listed.size:=by omega
   simp only [Array.getD_eq_getD_getElem?,Array.getElem?_eq_getElem h8,Option.getD_some]at h9 ⊢;exact h9
  obtain⟨y,hy,FT⟩:=hc.ex j (by omega) (by omega);have MT:y.o=o:=by have:=(AF y hy).1;rw [FT,q2]at this;exact(Option.some.inj this).symm
  have TO: ∀x∈xs,x.i<ops.size:=fun x hx=>by have:=(hc.range x hx).2;omega
  have iD: ∀x∈xs,ops[x.i]?=some x.o:=fun x hx=>(AF x hx).1;have agree: ∀x∈xs,x.i≠j→IM (JL ops.toList []) x.i j=true→listed.getD x.i true=decide (x.i<j):=fun x hx Bt ho=>zwA (S:=fun k=>listed.getD k true) Ay q2 (TO x hx) q1 K3 Bt ho;have Lj: ∀x∈xs,x.i=j→listed.getD x.i true=decide (x.i<j):=fun x hx he=>by rw [he,q1];simp
  have GO: ∀d,d∈WA ops o→Bn y.σ d=FG n (Bn σ) xs (fun k=>listed.getD k true) d:=by
   intro d hd;rw [(c1 y hy).2 d,FT];refine Se xs rfl fun x hx Rc=> ?_;by_cases he:x.i=j
   ·exact(Lj x hx he).symm
   ·rcases d3 (o,j) (QP j o q2) (x.o,x.i) (QP _ _ (iD x hx))with h|h
    ·exact absurd h he
    ·simp only [Rc,Ad,Bool.or_eq_true,Bool.not_eq_true']at h;rcases h.2 with h|h
     ·rw [List.contains_iff_mem.2 hd]at h;cases h
     ·exact(agree x hx he h).symm
  have hW: ∀x∈xs,∀t,t∈x.bf.map (·.1)→ ∀ly,y.log=some ly→(t∈ly.R∨t∈ly.W)→listed.getD x.i true=decide (x.i<j):=by
   intro x hx t ht ly QM hm;by_cases he:x.i=j
   ·exact Lj x hx he
   ·cases Yx:x.r with
    |none=>simp [Rec.bf,Yx]at ht
    |some ge=>
     obtain⟨gs,e⟩:=ge;have vA:x.log=some ⟨x.i,SI x.σ gs x.o,e.bf.map (·.1)⟩:=by simp [Rec.log,Yx]
     have XU:ly.i=j:=by unfold Rec.log at QM;obtain⟨ge',_,rfl⟩:=Aq.1 QM;exact FT
     have h9:=d1 _ (QL x hx _ vA) _ (QL y hy _ QM);simp only [XU]at h9;rcases h9 with(h|h)|h
     ·exact absurd h he
     ·exfalso;have:YH (e.bf.map (·.1)) (ly.R++ly.W)=true:=by
       simp only [YH,List.any_eq_true];exact⟨t,by simpa [Rec.bf,Yx]using ht,List.contains_iff_mem.2 (by simpa using hm)⟩
      rw [this]at h;cases h
     ·exact agree x hx he h
  have Cf: ∀k,(listed.setIfInBounds j true).getD k true=(decide (k=j)||listed.getD k true):=zyQ BJ XM;have Yk:FG n (Bn σ) xs (fun k=>(listed.setIfInBounds j true).getD k true)=Cq n (FG n (Bn σ) xs fun k=>listed.getD k true) o.dst y.val:=by
   funext d;unfold Cq;split
   ·rename_i hd;refine sL hd.2 (by rw [MT];exact hd.1) (by rw [Cf,FT];simp) xs hy fun x hx Bt Rc=> ?_;have he:x.i≠j:=fun h=>Bt (hc.inj x hx y hy (by rw [h,FT]));rcases d3 (o,j) (QP j o q2) (x.o,x.i) (QP _ _ (iD x hx))with h|h
    ·exact he h
    ·simp only [Rc,Ad,bne_iff_ne,ne_eq]at h;exact h.1 hd.1
   ·rename_i hd;by_cases Xp:d<n
    ·refine Se xs rfl fun x hx Rc=> ?_;have he:x.i≠j:=fun h=>by
      have:x=y:=hc.inj x hx y hy (by rw [h,FT]);subst this;exact hd ⟨by rw [←MT];exact Rc,Xp⟩
     rw [Cf];simp [he]
    ·rw [fB (by omega),fB (by omega)]
  have XF:Gp (AD σ.hp) xs (fun k=>(listed.setIfInBounds j true).getD k true)=A2 (Gp (AD σ.hp) xs fun k=>listed.getD k true) y.bf:=by
   funext t;by_cases ht:t∈y.bf.map (·.1)
   ·refine s9 (by rw [Cf,FT];simp) ht hc hy fun x hx Bt Yy=> ?_;rw [FT]at Bt ⊢;rw [Cf];simp only [Bt,decide_false,Bool.false_or];cases IJ:y.r with
    |none=>simp [Rec.bf,IJ]at ht
    |some ge=>exact hW x hx t Yy _ (by simp only [Rec.log,IJ,Option.map_some];rfl) (.inr (by simpa [Rec.bf,IJ]using ht))
   ·rw [dO ht];refine Sb xs rfl fun x hx Yy=> ?_;have he:x.i≠j:=fun h=>by
     have:x=y:=hc.inj x hx y hy (by rw [h,FT]);subst this;exact ht Yy
    rw [Cf];simp [he]
  have Qw:((List.range ops.size).filter fun k=> !(listed.setIfInBounds j true).getD k true).length≤fuel:=by have:=o9 (p:=fun k=> !listed.getD k true) (p':=fun k=> !(listed.setIfInBounds j true).getD k true) (List.range ops.size) (fun k _ hk=>by rw [Cf]at hk;simp at hk ⊢;exact hk.2) ⟨j,by simpa using XM,by simp [q1],by rw [Cf];simp⟩;omega
  have Xg:SZ ops (fun k=>(listed.setIfInBounds j true).getD k true):=by
   intro k ok hk XO e he JW;simp only [Cf,Bool.or_eq_true,decide_eq_true_eq]at hk ⊢;rcases hk with rfl|hk
   ·rw [q2]at XO;cases XO;exact .inr (K3 e he JW)
   ·exact .inr (Ay k ok hk XO e he JW)
  have K6: ∀(a':Act) (c':Cx),c'.ρ=ρ→c'.w0=F.w0→c'.A=F.A→c'.Mu=F.Mu→(∀t,c'.U t→c.U t∨(σ.nx+Br*j≤t∧t<σ.nx+Br*j+Br))→Rel c' n (Cq n (FG n (Bn σ) xs fun k=>listed.getD k true) o.dst y.val) (A2 (Gp (AD σ.hp) xs fun k=>listed.getD k true) y.bf) a'→
    wpAny P .any ops Q fuel (listed.setIfInBounds j true) a' c'.w:=by
   intro a' c' g1 g2 g3 g4 g5 g6;refine ih _ a' c' (by simpa using BJ) Xg g1 g2 g3 g4 (fun t ht=> ?_) (by rw [Yk,XF];exact g6) Qw;rcases g5 t ht with h|h
   ·rcases h5 t h with h|⟨k,k1,k2,k3,k4⟩
    ·exact .inl h
    ·exact .inr ⟨k,k1,by rw [Cf,k2];simp,k3,k4⟩
   ·exact .inr ⟨j,XM,by rw [Cf];simp,h.1,h.2⟩
  have gS: ∀j' want d,o.guard=some (j',want)→(ops[j']?).bind (·.dst)=some d→SR c [Bn y.σ d] [a.tmps.getD d Go.undef]:=by intro j' want d hg hd;rw [GO d (by simp only [WA,hg,Ah];exact .inr (by simp [hd]))];exact h6.cx d
  obtain⟨_,CH⟩:=AF y hy;cases IJ:y.r with
  |none=>
   rw [IJ]at CH;have Ex:=cM (c:=c) (a:=a) CH (fun j' want d hg hd=>gS j' want d (by rw [←MT];exact hg) hd);unfold wpOp;simp only [q2];rw [MT]at Ex;rw [if_neg (by simp [show Region.wanted o (yielded ops a.tmps)=false from Ex])];have hv:y.val=GH:=by simp [Rec.val,IJ]
   have he:y.bf= []:=by simp [Rec.bf,IJ]
   refine K6 _ c h1 h2 h3 h4 (fun t ht=> .inl ht) ?_;rw [hv,he];exact h6.put eI o.dst
  |some ge=>
   obtain⟨gs,e⟩:=ge;rw [IJ]at CH;simp only at CH;obtain⟨r1,r2,r3,r4,r5,r6⟩:=CH;rw [MT,FT]at r2;rw [FT]at r4;rw [MT]at r1;have Ex:=cM (c:=c) (a:=a) r1 gS;have hv:y.val=mkGd gs e.val:=by simp [Rec.val,IJ]
   have he:y.bf=e.bf:=by simp [Rec.bf,IJ]
   simp only [P5,Ad,AS]at r4;obtain⟨_,Yi⟩:=r4;have QM:y.log=some ⟨y.i,SI y.σ gs y.o,e.bf.map (·.1)⟩:=by simp [Rec.log,IJ]
   refine sF (c:=c) AK q2 h6 Ex (fun t ht=>GO t (by simp only [WA,Ah,List.mem_filterMap];exact .inl ⟨.tmp t,by simpa using ht,rfl⟩)) (fun t x hx=> ?_) (fun t t1 t2 hU=> ?_) r2 (fun Bt t x hx=> ?_) (by rw [h1];exact r5) (by rw [h1];exact r6) (fun x hx=>by rw [r3]at hx;cases hx) (fun a' c' hs hr=> ?_)
   ·unfold Ot at hx;split at hx
    ·rename_i hR;rw [(c4 y hy) t]at hx;rw [←hx];refine Sb xs rfl fun z hz wU=> ?_;rw [FT];exact hW z hz t wU _ QM (.inl (by rw [MT];simpa using hR))
    ·cases hx
   ·rcases h5 t hU with h|⟨k,k1,k2,k3,k4⟩
    ·simp only [Br]at*;omega
    ·have:k≠j:=by rintro rfl;rw [q1]at k2;cases k2
     simp only [Br]at*;omega
   ·have:=Yi _ hx;have Qy:gs.isEmpty=false:=by cases gs;exact absurd rfl Bt;rfl
    simp only [Qy,Bool.false_or,Bool.false_and,Bool.or_false,Ad,decide_eq_true_eq]at this;refine⟨this.1.1,this.1.2, ?_⟩;have h3:=this.2;split at h3
    ·exact⟨_,_,rfl,h3⟩
    ·cases h3
   ·exact K6 a' c' (hs.ρ.trans h1) (hs.w0.trans h2) (hs.A.trans h3) (hs.Mu.trans h4) hs.U (by rw [hv,he];exact hr)
end
theorem Rel.world {c:Cx} {n:Nat} {sl:Nat→SV} {hp:Nat→Option Ai} {a:Act} (h:Rel c n sl hp a) (w:World) (h1:w.heap=c.w.heap) (h2:w.os=c.w.os) (h3:w.tape=c.w.tape) (h4:w.output=c.w.output):Rel {c with w:=w} n sl hp a:=by
 refine h.change (fun _=>False) ⟨rfl,rfl,fun _ _ hb=>hb,fun b _ _=>by show w.heap[b]?=_;rw [h1],fun _ _ hk=>⟨hk,rfl⟩,fun _ _ _=>⟨Nat.le_refl _,fun _=>⟨rfl,fun b _ _=>by show w.heap[b]?=_;rw [h1]⟩⟩⟩ ⟨h2.trans h.base.os,h3.trans h.base.tape,h4.trans h.base.output,by show _≤w.heap.size;rw [h1];exact h.base.size,h.base.pins,fun b hb hm=>by show w.heap[b]?=_;rw [h1];exact h.base.block b hb hm,h.base.pk,h.base.lo⟩ (fun t _=>⟨rfl,rfl,rfl,fun g hk=>hk⟩) (fun t _ b _=>by show w.heap[b]?=_;rw [h1]) (fun t ht=>ht.elim)
  ⟨h.gw.nodup,h.gw.cj,h.gw.allow,fun t b hb=>by show b<w.heap.size;rw [h1];exact h.gw.inb t b hb⟩ h.br h.cm
theorem zxM {P:Program} {sg:BC} {Rt:Nat→List AV→AV→Prop} (X1:P.follows .mixedOrders=true) (AK:NP P sg Rt) (Ey:S2 P sg):pZ P sg Rt:=by
 intro id ops draw σ t _ Dw vL ht F R L js ρ a w hL hd hr Q hq;obtain⟨c,rfl,rfl,h1,h2,h3,h4,h5,h6⟩:=hr;rw [List.range_eq_range']at ht;cases draw with
 |false=>refine wp_region ?_;rw [List.range_eq_range'];exact sA AK Ey (n:=σ.sl.length) ops.size 0 [] σ t (by omega) ht c a ⟨h1,h2,h3,h4,rfl,by simpa using h5,h6⟩ hd (fun c' a' σ' hp hl Ap=>hq [] .normal σ' c'.ρ a' c'.w hp hl Ap)
 |true=>
  refine wp_region_any X1 ?_;obtain⟨τ,xs,σ',lg',g1,g2,g3,g4,g5,g6,_,g8⟩:=cR ops.size 0 [] σ t c.ρ (by omega) ht hd h4;have Xr:=h6.ext (fun i=>by rw [h4];exact St.k8 Dw i) (fun t e he=>by rw [h4];exact St.kp Dw t e he) τ;have hw:=Xr.world {c.w with drawn:=c.w.drawn+1} rfl rfl rfl rfl;have Gg: ∀k,k<ops.size→(Array.replicate ops.size false).getD k true=false:=fun k hk=>by simp [Array.getD_eq_getD_getElem?,hk]
  have TO: ∀x∈xs,x.i<ops.size:=fun x hx=>by have:=(g1.range x hx).2;omega
  have e1:(FG σ.sl.length (Bn σ) xs fun k=>(Array.replicate ops.size false).getD k true)=Bn σ:=by funext d;exact dM _ fun x hx _=>Gg x.i (TO x hx)
  have e2:(Gp (AD σ.hp) xs fun k=>(Array.replicate ops.size false).getD k true)=AD σ.hp:=by funext d;exact cY _ fun x hx _=>Gg x.i (TO x hx)
  refine zvF (F:=F) (n:=σ.sl.length) (c:={c.ext τ with w:={c.w with drawn:=c.w.drawn+1}}) AK g1 g2 g3 g6 g8 rfl (fun c' a' k1 k2 k3 k4 k5 k6=> ?_) ops.size (Array.replicate ops.size false) a (by simp) (fun k o hk ho=> ?_) rfl h1 h2 h3 (fun t ht=> .inl (h5 t ht)) (by rw [e1,e2];exact hw) (Nat.le_trans (List.length_filter_le _ _) (by simp))
  ·have hlen:=(g1.sl rfl).2.1;refine hq [] .normal _ c'.ρ a' c'.w (by rw [k1];exact List.prefix_append _ _) (by rw [k1];exact g5) ⟨c',rfl,rfl,k2,k3,k4,by rw [k1];exact g4,k5, ?_⟩;show Rel c' σ'.sl.length _ _ a';rw [hlen];exact k6
  ·have:=Gg k (Array.getElem?_eq_some_iff.1 ho).1;have Bz:(Array.replicate ops.size false).getD k true=true:=hk;rw [this]at Bz;cases Bz
section
variable {P:Program} {c:Cx} {n nx:Nat} {sl sl0:Nat→SV} {hp hp0:Nat→Option Ai} {a:Act} {o:Oper} {gs:Gd} {e:AY} {sg:BC} {nv:Nat}
theorem oS (h:Bf P c n nx sl hp a sl0 hp0 o gs) {op:BinOp} {t el:TypeId} {x y:Operand} {ty:TypeId} (ho:o.op= .binOp op t x y ty) (hu:P.underlying t=some (.slice el)) {p:Option Addr} {q r:Nat} (hv:a.eval x= .slice p q r) (r2:SR c [.bu] [a.eval y])
  (AK:op= .eql∨op= .neq) (FC:c.ρ[nv]?=some (.bool (Jx a o))) (x':Option E) {ck:List Cn}:Az P o c n nx sl hp gs a {bw:=ck,bt:=x',val:= .e (if op= .eql then .var nv else .not (.var nv))}:=by
 have hb:Jx a o=p.isNone:=by simp only [Jx,ho,hv];cases p<;>rfl
 rw [hb]at FC;have ex:=fun(v u:Value) (hv:a.eval x=v) (hu:a.eval y=u)=>Ny (P:=P) (o:=o) ho c.w hv hu;generalize CW:a.eval y=v2 at r2;cases r2 with
 |bu _=>
  refine Az.pure h (v:= .bool (if op= .eql then p.isNone else !p.isNone)) ?_ ?_ rfl
  ·rw [ex _ _ hv CW,eqGuard_at_slice];rcases AK with rfl|rfl
   ·simp [Go.Lib.run_eql_slice_nil c.w t el p q r 0 0 hu]
   ·simp [binOp,Op.equal,Op.maxDepth,Go.Lib.run_equalIn_slice_nil c.w 9999 t el p q r 0 0 hu]
  ·rcases AK with rfl|rfl
   ·refine .e (f:= []) ?_ (by simp) .nil;simp only [if_true,E.den,FC,Option.getD_some];exact .bool .nil
   ·refine .e (f:= []) ?_ (by simp) .nil;simp only [reduceCtorEq,if_false,E.den,FC,Option.getD_some,AV.ew];exact .bool .nil
end
section
variable {P:Program} {c:Cx} {n nx:Nat} {sl sl0:Nat→SV} {hp hp0:Nat→Option Ai} {a:Act} {o:Oper} {gs:Gd} {e:AY} {sg:BC} {nv:Nat}
theorem Sk {hp:Nat→Option Ai} {gs:Gd} {m:Nat} {cs:Bl} {x:E} (h:Be hp gs m (.agg cs)=some x): ∃k l,m=k+1∧Cc hp gs k cs.toList=some l∧x= .mk l:=by
 cases m with
 |zero=>simp [Be]at h
 |succ m=>simp only [Be,Aq]at h;obtain⟨l,h1,h2⟩:=h;exact⟨m,l,rfl,h1,h2.symm⟩
theorem JA {hp:Nat→Option Ai} {gs:Gd} {m:Nat} {y x:E} (h:Be hp gs m (.e y)=some x):x=y:=by
 cases m with
 |zero=>simp [Be]at h
 |succ m=>simp [Be]at h;exact h.symm
theorem Ks {hp:Nat→Option Ai} {gs:Gd} {m:Nat} {x:E} (h:Be hp gs m .bu=some x):x= .lst .nil:=by
 cases m with
 |zero=>simp [Be]at h
 |succ m=>simp [Be]at h;exact h.symm
theorem Jn {hp:Nat→Option Ai} {gs:Gd} {m:Nat} {s:SV} {ss:List SV} {x:EL} (h:Cc hp gs m (s::ss)=some x): ∃k y l,m=k+1∧Be hp gs k s=some y∧Cc hp gs k ss=some l∧x= .cons y l:=by
 cases m with
 |zero=>simp [Cc]at h
 |succ m=>
  simp only [Cc]at h;split at h
  ·rename_i y l h1 h2;simp at h;exact⟨m,y,l,rfl,h1,h2,h.symm⟩
  ·cases h
theorem Pn {hp:Nat→Option Ai} {gs:Gd} {ρ:List AV} {w:World}: ∀(vs:List Value) (ss:List SV) (m:Nat) (x:EL),Eo.go vs=some ss→Cc hp gs m ss=some x→Rd w vs (x.den ρ) []
 | [],ss,m,x,h,hx=>by
  simp [Eo.go]at h;subst h;cases m with
  |zero=>simp [Cc]at hx
  |succ m=>simp [Cc]at hx;subst hx;exact .nil
 |v::vs,ss,m,x,h,hx=>by
  unfold Eo.go at h;split at h
  ·rename_i hh;cases hh
  ·rename_i k q l hh;cases hh;split at h
   ·rename_i hk;obtain⟨l',h1,rfl⟩:=Aq.1 h;obtain⟨j,y,l2,rfl,h2,h3,rfl⟩:=Jn hx;rw [JA h2];exact .int hk (Pn _ _ _ _ h1 h3)
   ·cases h
  ·rename_i q l hh;cases hh;obtain⟨l',h1,rfl⟩:=Aq.1 h;obtain⟨j,y,l2,rfl,h2,h3,rfl⟩:=Jn hx;rw [JA h2];exact .bool (Pn _ _ _ _ h1 h3)
  ·rename_i q l hh;cases hh;split at h
   ·rename_i hk;obtain⟨l',h1,rfl⟩:=Aq.1 h;obtain⟨j,y,l2,rfl,h2,h3,rfl⟩:=Jn hx;rw [JA h2];exact .str hk (Pn _ _ _ _ h1 h3)
   ·cases h
  ·rename_i l hh;cases hh;obtain⟨l',h1,rfl⟩:=Aq.1 h;obtain⟨j,y,l2,rfl,h2,h3,rfl⟩:=Jn hx;rw [Ks h2];exact .dw (Pn _ _ _ _ h1 h3)
  ·rename_i l hh;cases hh;obtain⟨l',h1,rfl⟩:=Aq.1 h;obtain⟨j,y,l2,rfl,h2,h3,rfl⟩:=Jn hx;rw [JA h2];exact .dq (Pn _ _ _ _ h1 h3)
  ·cases h
theorem aH {hp:Nat→Option Ai} {gs:Gd} {ρ:List AV} {w:World} {v:Value} {s:SV} {m:Nat} {x:E} (h:Eo v=some s) (hx:Be hp gs m s=some x):
  Rd w v.cells.toList (x.den ρ).cells []∧(∀u∈v.cells.toList,u.oneCell'=true):=by
 have one: ∀{v:Value} {y:AV},Rd w [v] [y] []→(∀cs,y≠ .agg cs)→(∀cs,y≠ .tup cs)→Rd w v.cells.toList y.cells []∧(∀u∈v.cells.toList,u.oneCell'=true):=by
  intro v y hr h1 h2;have h3:=aP hr h1 h2;have h4:y.cells= [y]:=by cases y<;>first|rfl|exact absurd rfl (h1 _)
  rw [one_cells h3,h4];exact⟨by simpa using hr,by simpa using h3⟩
 unfold Eo at h;split at h
 ·split at h
  ·rename_i hk;simp at h;subst h;rw [JA hx];exact one (.int hk .nil) (by simp [E.den]) (by simp [E.den])
  ·cases h
 ·simp at h;subst h;rw [JA hx];exact one (.bool .nil) (by simp [E.den]) (by simp [E.den])
 ·split at h
  ·rename_i hk;simp at h;subst h;rw [JA hx];exact one (.str hk .nil) (by simp [E.den]) (by simp [E.den])
  ·cases h
 ·simp at h;subst h;rw [Ks hx];exact one (.dw .nil) (by simp [E.den]) (by simp [E.den])
 ·simp at h;subst h;rw [JA hx];exact one (.dq .nil) (by simp [E.den]) (by simp [E.den])
 ·rename_i cs;simp only [Option.bind_eq_bind,Au,Af]at h;obtain⟨l,hl,rfl⟩:=h;obtain⟨k,l',rfl,h1,rfl⟩:=Sk hx;rw [Bl.aq]at h1;exact⟨Pn _ _ _ _ hl h1,aS _ _ hl⟩
 ·cases h
theorem fA {w:World} {vs:List Value} {x:AV} (h:Rd w vs x.cells []): ∀k,Rd w (List.replicate k vs).flatten (AE (List.replicate k x)) []
 |0=> .nil
 |k+1=>by simp only [List.replicate_succ,List.flatten_cons,AE,List.flatMap_cons];have:=h.app (fA h k);simpa [AE]using this
theorem Vi (z:Array Value) (hz:0<z.size): ∀k,(madeCells z (k*z.size)).toList=(List.replicate k z.toList).flatten
 |0=>by simp [madeCells]
 |k+1=>by
  have ih:=Vi z hz k;simp only [madeCells,Array.toList_map,Array.toList_range]at ih ⊢;rw [Nat.add_mul,Nat.one_mul,List.range_add,List.map_append,ih,List.replicate_succ',List.flatten_append];congr 1;simp only [List.map_map,List.flatten_cons,List.flatten_nil,List.append_nil];apply List.ext_getElem?;intro i;simp only [List.getElem?_map,List.getElem?_range'];by_cases hi:i<z.size
  ·simp only [List.getElem?_range hi,Option.map_some,Function.comp_apply];have:(k*z.size+i) % z.size=i:=by rw [Nat.add_comm,Nat.add_mul_mod_self_right,Nat.mod_eq_of_lt hi]
   simp [this,hi]
  ·rw [List.getElem?_eq_none (by simpa using hi),List.getElem?_eq_none (by simpa using hi)];rfl
theorem zvo (h:Bf P c n nx sl hp a sl0 hp0 o gs) {t:TypeId} {l m:Operand} (ho:o.op= .makeSlice t l m) {s1 s2:SV} (Bu:Bx sl0 gs l=some s1) (AU:Bx sl0 gs m=some s2) (he:eH P hp0 gs nx t s1 s2=some e) (hc: ∀q∈e.bw,Cn.den c.ρ q):Az P o c n nx sl hp gs a e:=by
 have DK:l∈o.op.operands:=by simp [ho,Op.operands]
 have Dn:m∈o.op.operands:=by simp [ho,Op.operands]
 unfold eH at he;split at he
 ·rename_i el x y A7;have A7:=Jm A7;split at he
  ·cases he
  rename_i hz;have hz:HB P el=true:=by simpa using hz
  obtain⟨i,z,hi,Ft,Dr,BJ,Ci,FM⟩:=Kq hz;have r1:=h.cu Bu DK;have r2:=h.cu AU Dn;have ival: ∀{x:E} {kk:IntKind} {k:Int} {v:Value},SR c [.e x] [v]→x.den c.ρ= .int kk k→v= .int kk k:=by
   intro x kk k v hr hx;cases hr with
   |e h1 _ _=>exact(FY h1 hx).1
  split at he
  ·rename_i Gu;split at he
   ·rename_i s hs;have hs:Eo z=some s:=by simpa [hi,Ft]using hs
    obtain⟨w,hw,rfl⟩:=Aq.1 he;obtain⟨kk,k,hk,h0,hb,hle⟩:Cn.den c.ρ (.mkroom x (P.bytesOf el)):=BE hc;have Ek:=ival r1 hk;have CW:=ival r2 (by rw [←E.ak c.ρ _ _ Gu];exact hk);obtain⟨c1,c2⟩:=aH (w:=c.w) (ρ:=c.ρ) hs hw;obtain⟨kn,rfl⟩:=Int.eq_ofNat_of_zero_le h0;have Dk:(i.bytes:Int)*(kn:Int)≤281474976710656:=by rw [FM]at hb;rw [Int.mul_comm];omega
    have hlen:=c1.len;have TC:=Vi z.cells (by omega) kn;have AQ:=run_make (P:=P) c.w t el i z A7 hi Ft kk kk kn kn (by omega) (Int.le_refl _) Dk (by omega);have EP:(madeCells z.cells (kn*z.cells.size)).size=kn*P.cellsOf el:=by rw [size_madeCells,Dr,Ci]
    have BT:(madeCells z.cells (kn*z.cells.size)).toList.take ((List.replicate kn (w.den c.ρ)).length*P.cellsOf el)=(List.replicate kn z.cells.toList).flatten:=by rw [List.length_replicate,List.take_of_length_le (by rw [Array.length_toList,EP];exact Nat.le_refl _),TC]
    refine Az.newRow (xs:=List.replicate kn (w.den c.ρ)) (N:= []) (C:=madeCells z.cells (kn*z.cells.size)) (cap:=kn) (wd:=c.w) (fz:= []) (ts:= []) h rfl ⟨rfl,rfl,rfl,rfl⟩ ?_ ?_ (by omega) (fun u hu=> ?_) (by simp) (by simp only [maxLen];omega) EP ?_ ?_ (by simp) (fun _=>rfl)
    ·simp only [execOp,ho,Ek,CW,Sem.run_bind,Int.ofNat_eq_natCast,List.length_replicate];rw [AQ,Dr];rfl
    ·simp [E.den,hk,AV.rep]
    ·rw [List.eq_of_mem_replicate hu,←hlen,Array.length_toList,Dr,Ci]
    ·rw [BT];intro u hu;obtain⟨q,hq,hu⟩:=List.mem_flatten.1 hu;rw [List.eq_of_mem_replicate hq]at hu;exact c2 u hu
    ·rw [BT];exact fA c1 kn
   ·cases he
  ·split at he
   ·rename_i k0 _;simp only [Af]at he;subst he;obtain⟨kk,k,hk,h0,hb,hle⟩:Cn.den c.ρ (.mkroom y (P.bytesOf el)):=BE hc;have Ek:=ival r1 (show(E.int k0 0).den c.ρ= .int k0 0 from rfl);have CW:=ival r2 hk;obtain⟨kn,rfl⟩:=Int.eq_ofNat_of_zero_le h0;have Dk:(i.bytes:Int)*(kn:Int)≤281474976710656:=by
     rw [FM]at hb;rw [Int.mul_comm];omega
    have AQ:=run_make (P:=P) c.w t el i z A7 hi Ft k0 kk 0 kn (by omega) (by omega) Dk (by omega);refine Az.newRow (xs:= []) (N:= []) (C:=madeCells z.cells (kn*i.size)) (cap:=kn) (wd:=c.w) (fz:= []) (ts:= []) h rfl ⟨rfl,rfl,rfl,rfl⟩ ?_ rfl (by omega) (by simp) (by simp) (by simp only [maxLen];omega) (by rw [size_madeCells,Ci]) (by simp) (by simpa [AE]using Rd.nil) (by simp) (fun _=>rfl);simp only [execOp,ho,Ek,CW,Sem.run_bind,Int.ofNat_eq_natCast];rw [AQ];rfl
   ·cases he
 ·cases he
end
section
variable {P:Program} {c:Cx} {n nx:Nat} {sl sl0:Nat→SV} {hp hp0:Nat→Option Ai} {a:Act} {o:Oper} {gs:Gd} {e:AY} {sg:BC} {nv:Nat}
def PH (v:Option Value) (k d:Nat):Prop:=(v=none∧k=d)∨ ∃kk,v=some (.int kk (k:Int))
theorem Z1 {w:World} {t el:TypeId} (hu:P.underlying t=some (.slice el)) (Bc:CU P el=true) (p:Option Addr) (m r l h:Nat) {lo hi:Option Value} (BP:PH lo l 0) (Mw:PH hi h m) (h1:l≤h) (h2:h≤m) (h3:m≤r):
  (Instr.sliceAt t (.slice p m r) lo hi none).run P w= .ok (sliced p l h r (P.cellsOf el)) w:=by
 have E6:P.underlying t=some (.slice (P.elem t)):=by simp [Program.elem,hu]
 have he:P.elem t=el:=by simp [Program.elem,hu]
 have hs:(sizeOf (P.elem t)).run P w= .ok (P.cellsOf el) w:=by rw [he];exact Nf Bc w
 rw [run_sliceAt_slice w t _ _ _ _ E6];rcases BP with⟨rfl,rfl⟩|⟨kl,rfl⟩<;>rcases Mw with⟨rfl,rfl⟩|⟨kh,rfl⟩
 ·rw [run_slice_all w t p h r E6,hs];rfl
 ·rw [run_slice_h w t p m r E6 kh _ (by omega) (by omega),hs];rfl
 ·rw [run_slice_l w t p h r E6 kl _ (by omega) (by omega),hs];rfl
 ·rw [run_slice_lh w t p m r E6 kl kh _ _ (by omega) (by omega) (by omega),hs];rfl
theorem zs9 (s:ByteArray) (a b:Nat):(s.extract a b).data.toList=(s.data.toList.drop a).take (b-a):=by rw [ByteArray.data_extract,Array.toList_extract,List.extract_eq_take_drop]
theorem znE {w:World} {t:TypeId} (hu:P.underlying t=some .string) (s:ByteArray) (l h:Nat) {lo hi:Option Value} (BP:PH lo l 0) (Mw:PH hi h s.size) (h1:l≤h) (h2:h≤s.size):
  (Instr.sliceAt t (.string s) lo hi none).run P w= .ok (.string (s.extract l h)) w:=by
 rw [run_sliceAt_string w t _ _ _ _ hu];rcases BP with⟨rfl,rfl⟩|⟨kl,rfl⟩<;>rcases Mw with⟨rfl,rfl⟩|⟨kh,rfl⟩
 ·rw [run_slice_string_all w t s hu]
 ·rw [run_slice_string_h w t s hu kh _ (by omega) (by omega)];rfl
 ·rw [run_slice_string_l w t s hu kl _ (by omega) (by omega)];rfl
 ·rw [run_slice_string w t s kl kh _ _ hu (by omega) (by omega) (by omega)];rfl
theorem cB {sz:Nat} (ys:List AV) (hs: ∀y∈ys,y.cells.length=sz) (l h:Nat) (hl:l≤h) (hh:h≤ys.length):((AE ys).drop (l*sz)).take ((h-l)*sz)=AE ((ys.take h).drop l):=by
 have e:ys=ys.take l++((ys.take h).drop l++ys.drop h):=by
  rw [←List.append_assoc];have:ys.take l++(ys.take h).drop l=ys.take h:=by
   have h2:ys.take l=(ys.take h).take l:=by rw [List.take_take,Nat.min_eq_left hl]
   rw [h2,List.take_append_drop]
  rw [this,List.take_append_drop]
 have f1:AE ys=AE (ys.take l)++(AE ((ys.take h).drop l)++AE (ys.drop h)):=by
  conv=>lhs;rw [e]
  simp [AE]
 have l1:(AE (ys.take l)).length=l*sz:=by rw [LF _ (fun y hy=>hs y (List.mem_of_mem_take hy)),List.length_take,Nat.min_eq_left (by omega)]
 have l2:(AE ((ys.take h).drop l)).length=(h-l)*sz:=by rw [LF _ (fun y hy=>hs y (List.mem_of_mem_take (List.mem_of_mem_drop hy))),List.length_drop,List.length_take,Nat.min_eq_left (by omega)]
 rw [f1,←l1,List.drop_left,←l2,List.take_left]
theorem yN {w:World} {v:Value} {ys:List AV} {f:List Nat} {sz:Nat} (hr:Rd w [v] [.sl ys] f) (hs: ∀y∈ys,y.cells.length=sz) (l h:Nat) (hl:l≤h) (hh:h≤ys.length):
  ∃p r g,v= .slice p ys.length r∧ys.length≤r∧Rd w [sliced p l h r sz] [.sl ((ys.take h).drop l)] g∧ ∀b∈g,b∈f:=by
 cases hr with
 |dw _=>
  rename_i p r;have hh:h=0:=by simpa using hh
  subst hh;have hl:l=0:=by omega
  subst hl;exact⟨_,_, [],rfl,Nat.zero_le _,by simpa [sliced]using Rd.dw .nil,by simp⟩
 |fc hb h1 h2 h3 h4 h5 h6 Gb h7 h8=>
  rename_i b o m r cs C t fz sz' f1 f2;have hy: ∃y,y∈ys:=by cases ys with|nil=>simp at h3;omega|cons y _=>exact⟨y,by simp⟩
  obtain⟨y0,HT⟩:=hy;have FE:sz'=sz:=(h4 y0 HT).symm.trans (hs y0 HT);subst FE;subst h3;refine⟨some ⟨b,o,none⟩,r, ?_⟩;rcases Nat.eq_or_lt_of_le hl with he|Ax
  ·subst he;refine⟨[],rfl,h2.2, ?_,by simp⟩;have:(ys.take l).drop l= []:=List.drop_eq_nil_of_le (by simp;omega);rw [this];simp only [sliced,Nat.sub_self];exact .dw .nil
  ·have EI:=h7.len;obtain⟨g,hg,CS⟩:=h7.piece (l*sz') ((h-l)*sz');rw [cB ys h4 l h hl hh]at CS;refine⟨b::(g++ []),rfl,h2.2, ?_,fun x hx=> ?_⟩
   ·have Cu:sliced (some (⟨b,o,none⟩:Addr)) l h r sz'= .slice (some ⟨b,o+l*sz',none⟩) (h-l) (r-l):=by
     unfold sliced;split
     ·exfalso;omega
     ·simp [Addr.add_lit]
    rw [Cu];refine Rd.fc (cs:=(cs.drop (l*sz')).take ((h-l)*sz')) hb (by omega) ⟨by omega,by omega⟩ (by simp;omega) (fun y hy=>h4 y (List.mem_of_mem_take (List.mem_of_mem_drop hy))) h5 (fun j u hu=> ?_) (fun u hu=>Gb u (List.mem_of_mem_drop (List.mem_of_mem_take hu))) CS .nil;rw [List.getElem?_take]at hu;split at hu
    ·rw [List.getElem?_drop]at hu;have:=h6 _ _ hu;rw [←this];congr 1;omega
    ·cases hu
   ·simp only [List.append_nil,Ae]at hx;rcases hx with rfl|hx
    ·simp
    ·have:=hg x hx;simp [this]
theorem IX {f:Operand→Option SV} {x:Option Operand} {r:Option SV} (h:I7 f x=some r):(x=none∧r=none)∨ ∃y z,x=some y∧f y=some z∧r=some z:=by
 cases x with
 |none=>simp [I7]at h;exact .inl ⟨rfl,h.symm⟩
 |some y=>obtain⟨z,hz,rfl⟩:=Aq.1 h;exact .inr ⟨y,z,rfl,hz,rfl⟩
theorem VB {s:Option SV} {d l:E} (h:Ma s d=some l):(s=none∧l=d)∨s=some (.e l):=by
 unfold Ma at h;split at h
 ·simp at h;exact .inl ⟨rfl,h.symm⟩
 ·simp at h;subst h;exact .inr rfl
 ·cases h
theorem ztL (h:Bf P c n nx sl hp a sl0 hp0 o gs) {t:TypeId} {x:Operand} {lo hi mx:Option Operand} (ho:o.op= .slice t x lo hi mx) {s:SV} (hs:Bx sl0 gs x=some s) {l' h' m':Option SV} (Bw:I7 (Bx sl0 gs) lo=some l') (K7:I7 (Bx sl0 gs) hi=some h') (Fv:I7 (Bx sl0 gs) mx=some m') (he:dU P hp0 gs t s l' h' m'=some e) (hc: ∀q∈e.bw,Cn.den c.ρ q):Az P o c n nx sl hp gs a e:=by
 have hm:x∈o.op.operands:=by simp [ho,Op.operands]
 have MC: ∀y,lo=some y→y∈o.op.operands:=fun y hy=>by simp [ho,Op.operands,hy]
 have J6: ∀y,hi=some y→y∈o.op.operands:=fun y hy=>by simp [ho,Op.operands,hy]
 have X0: ∀y,mx=some y→y∈o.op.operands:=fun y hy=>by simp [ho,Op.operands,hy]
 have hx:=h.cu hs hm;have ival: ∀{x:E} {kk:IntKind} {k:Int} {v:Value},SR c [.e x] [v]→x.den c.ρ= .int kk k→v= .int kk k:=by
  intro x kk k v hr hx;cases hr with
  |e h1 _ _=>exact(FY h1 hx).1
 unfold dU at he;split at he
 ·cases he
 rename_i y hy;obtain⟨f,q1,q2⟩:=h.j3 hs hm hy;have ex:(execOp a.eval o).run P c.w=((Instr.sliceAt t (a.eval x) (lo.map a.eval) (hi.map a.eval) (mx.map a.eval)).run P c.w).andThen fun v w=> .ok (.value v) w:=by simp [execOp,ho]
 split at he
 ·split at he
  ·rename_i el _ _ hu;split at he
   ·rename_i Bc;simp only [Af]at he;subst he;have hd:(y.den c.ρ).len≠ .undef:=BE hc;cases Bj:y.den c.ρ<;>simp only [Bj,AV.len,ne_eq,not_true_eq_false]at hd;rename_i xs;have hl:(y.den c.ρ).len= .int .i64 (xs.length:Int):=by rw [Bj];rfl
    obtain⟨p,q,r,hv⟩: ∃p q r,a.eval x= .slice p q r:=by
     rcases PB q1 hl with⟨p,q,hv,DJ⟩|⟨b,o',k,q,hv,DJ⟩
     ·exact⟨_,_,_,hv⟩
     ·exact⟨_,_,_,hv⟩
    rcases IX Bw with⟨rfl,_⟩|⟨_,_,_,_,hh⟩
    ·rcases IX K7 with⟨_,hh⟩|⟨oh,sh,rfl,wC,hh⟩
     ·cases hh
     ·cases hh;rcases IX Fv with⟨_,hh⟩|⟨om,sm,rfl,IC,hh⟩
      ·cases hh
      ·cases hh;have v1:=(fun{kk:IntKind} (hr:SR c [.e (.int kk 0)] [a.eval oh])=>ival hr (show(E.int kk 0).den c.ρ= .int kk 0 from by simp only [E.den])) (h.cu wC (J6 _ rfl))
       have v2:=(fun{kk:IntKind} (hr:SR c [.e (.int kk 0)] [a.eval om])=>ival hr (show(E.int kk 0).den c.ρ= .int kk 0 from by simp only [E.den])) (h.cu IC (X0 _ rfl))
       have E6:P.underlying t=some (.slice (P.elem t)):=by simp [Program.elem,hu]
       have A7:P.elem t=el:=by simp [Program.elem,hu]
       refine Az.pure h (v:= .slice p 0 0) ?_ (.emp .nil) rfl;rw [ex,hv];simp only [Option.map_none,Option.map_some,v1,v2];rw [run_sliceAt_slice c.w t _ _ _ _ E6,run_slice_hm c.w t p q r E6 _ _ 0 0 (by omega) (by omega) (by omega),A7,Nf Bc];simp [sliced]
    ·cases hh
   ·cases he
  ·cases he
 ·have MD:mx=none:=by
   rcases IX Fv with⟨hh,_⟩|⟨_,_,_,_,hh⟩
   ·exact hh
   ·cases hh
  subst MD;have blo: ∀(l:E) (kk:IntKind) (k:Nat),Ma l' (.int .i64 0)=some l→l.den c.ρ= .int kk k→PH (lo.map a.eval) k 0:=by
   intro l kk k hl hk;rcases IX Bw with⟨rfl,rfl⟩|⟨ol,sl',rfl,Cu,rfl⟩
   ·rcases VB hl with⟨_,rfl⟩|hh
    ·simp only [E.den,AV.int.injEq]at hk;exact .inl ⟨rfl,by omega⟩
    ·cases hh
   ·rcases VB hl with⟨hh,_⟩|hh
    ·cases hh
    ·cases hh;exact .inr ⟨kk,by rw [Option.map_some,ival (h.cu Cu (MC _ rfl)) hk]⟩
  have bhi: ∀(d l:E) (kk:IntKind) (k m:Nat),Ma h' d=some l→l.den c.ρ= .int kk k→d.den c.ρ= .int .i64 (m:Int)→PH (hi.map a.eval) k m:=by
   intro d l kk k m hl hk hd;rcases IX K7 with⟨rfl,rfl⟩|⟨ol,sl',rfl,Cu,rfl⟩
   ·rcases VB hl with⟨_,rfl⟩|hh
    ·rw [hd]at hk;simp only [AV.int.injEq]at hk;exact .inl ⟨rfl,by omega⟩
    ·cases hh
   ·rcases VB hl with⟨hh,_⟩|hh
    ·cases hh
    ·cases hh;exact .inr ⟨kk,by rw [Option.map_some,ival (h.cu Cu (J6 _ rfl)) hk]⟩
  split at he
  ·rename_i hu;split at he
   ·rename_i l hb q J5 Mv;simp only [Af]at he;subst he;obtain⟨ka,ai,kb,bi,bs,d1,d2,d3,d4,d5,d6⟩:Cn.den c.ρ (.winS y l hb):=BE hc;obtain⟨an,rfl⟩:=Int.eq_ofNat_of_zero_le d4;obtain⟨bn,rfl⟩:=Int.eq_ofNat_of_zero_le (Int.le_trans d4 d5);obtain⟨ss,hv,rfl,hle⟩:=P1 q1 d3;have BJ:ss.data.toList.length=ss.size:=by simp
    have AQ:=znE (P:=P) (w:=c.w) hu ss an bn (blo l ka an J5 d1) (bhi (.slen y) hb kb bn ss.size Mv d2 (by simp only [E.den,d3,AV.slen];simp)) (by omega) (by omega);refine Az.pure h (v:= .string (ss.extract an bn)) ?_ (.cw ?_) rfl
    ·rw [ex,hv,Option.map_none,AQ];rfl
    ·simp only [E.den,d1,d2,d3,AV.swin];have:(List.take (bn:Int).toNat ss.data.toList).drop (an:Int).toNat=(ss.extract an bn).data.toList:=by
      simp [zs9,List.drop_take]
     rw [this];exact .str (by simp only [ByteArray.size_extract];omega) .nil
   ·cases he
  ·rename_i el hu;split at he
   ·cases he
   rename_i Bc;have Bc:CU P el=true:=by simpa using Bc
   split at he
   ·rename_i l hb fz J5 Mv GN;simp only [Af]at he;subst he;have Bd:Cn.den c.ρ (.issl y (P.cellsOf el)):=BE hc;obtain⟨ys,CX,MR⟩:=Bd;obtain⟨ka,ai,kb,bi,m,d1,d2,d3,d4,d5,d6⟩:Cn.den c.ρ (.win y l hb):=hc _ (by simp);obtain⟨an,rfl⟩:=Int.eq_ofNat_of_zero_le d4;obtain⟨bn,rfl⟩:=Int.eq_ofNat_of_zero_le (Int.le_trans d4 d5);rw [CX]at q1;have hm9:(m:Int)=ys.length:=by rw [CX]at d3;simpa [AV.len]using d3.symm
    split at GN
    ·rename_i Iw;obtain⟨p,r,g,hv,hr,CS,hg⟩:=yN q1 MR an bn (by omega) (by omega);have AQ:=Z1 (P:=P) (w:=c.w) hu Bc p ys.length r an bn (blo l ka an J5 d1) (bhi (.len y) hb kb bn ys.length Mv d2 (by simp only [E.den,CX,AV.len])) (by omega) (by omega) hr;intro next Q hk
     unfold Oper.wp;rw [ex,hv,Option.map_none,AQ];show Oper.upon P o a next Q (.ok (.value _) c.w)
     rw [Oper.upon_value];have Ap:=h.rel.freeze h.hp h.gs GN;have AF: ∀b∈g,(c.bm (fz.map (·.1))).ok b:=fun b hb=>R2 h.rel h.eh h.gs GN Iw (q2 b (hg b hb));refine hk _ (c.bm (fz.map (·.1))) ⟨rfl,rfl,rfl,rfl,fun t ht=> .inl ht⟩ (Ap.put (SR.mkGd (.e (f:=g) ?_ AF .nil) gs h.gs) o.dst);show Rd c.w _ [(E.win y l hb).den c.ρ] g;simp only [E.den,d1,d2,CX,AV.win,Int.ofNat_eq_natCast,Int.toNat_natCast];exact CS
    ·cases GN
   ·cases he
  ·cases he
end
section
variable {P:Program} {c:Cx} {n nx:Nat} {sl sl0:Nat→SV} {hp hp0:Nat→Option Ai} {a:Act} {o:Oper} {gs:Gd} {e:AY} {sg:BC} {nv:Nat}
theorem P7 {w:World} {v:Value} {x:AV} {f:List Nat} {k:SK} (h:Rd w [v] [x] f) (hk:x.sk=some k):(∃kk n,k= .int kk∧v= .int kk n∧x= .int kk n)∨(∃b,k= .bool∧v= .bool b∧x= .bool b)∨ ∃s:ByteArray,k= .str∧v= .string s∧x= .str s.data.toList:=by
 cases h<;>simp [AV.sk]at hk
 ·exact .inl ⟨_,_,hk.symm,rfl,rfl⟩
 ·exact .inr (.inl ⟨_,hk.symm,rfl,rfl⟩)
 ·exact .inr (.inr ⟨_,hk.symm,rfl,rfl⟩)
theorem aN {t:TypeId} (h:(∃k,P.underlying t=some (.int k))∨P.underlying t=some .bool∨P.underlying t=some .string):Ao P t=false:=by rcases h with⟨k,h⟩|h|h<;>simp [Ao,h]
theorem lX {w:World} (d:Nat): ∀(fs:List Field) (j:Nat) (ks:List SK) {as_ bs:List Value} {cs ds:List AV} {f g:List Nat},PS P j fs=some ks→Rd w as_ cs f→Rd w bs ds g→(cs.drop j).map AV.sk=ks.map some→(ds.drop j).map AV.sk=ks.map some→
  (Op.eqFields (d+1) as_.toArray bs.toArray fs).run P w= .ok (AV.leq (cs.drop j) (ds.drop j)) w
 | [],j,ks,as_,bs,cs,ds,f,g,hk,h1,h2,k1,k2=>by
  simp [PS]at hk;subst hk;have e1:cs.drop j= []:=by simpa using k1
  have e2:ds.drop j= []:=by simpa using k2
  rw [e1,e2];simp [Op.eqFields,AV.leq]
 |fd::fs,j,ks,as_,bs,cs,ds,f,g,hk,h1,h2,k1,k2=>by
  unfold PS at hk;split at hk
  ·cases hk
  rename_i AI;simp only [not_or,Bool.not_eq_true',Decidable.not_not,ne_eq,Bool.not_eq_false]at AI;obtain⟨hn,ho,Bc,BE⟩:=AI;have main: ∀(k:SK) (l:List SK),ks=k::l→PS P (j+1) fs=some l→(∀a b (x y:AV) f g,Rd w [a] [x] f→Rd w [b] [y] g→x.sk=some k→y.sk=some k→(Op.equalIn (d+1) fd.type a b).run P w= .ok (x.seq y) w)→Ao P fd.type=false→
    (Op.eqFields (d+1) as_.toArray bs.toArray (fd::fs)).run P w= .ok (AV.leq (cs.drop j) (ds.drop j)) w:=by
   rintro k l rfl hl heq Hk;have N5:j<cs.length:=by
    rcases Nat.lt_or_ge j cs.length with hh|hh
    ·exact hh
    ·rw [List.drop_eq_nil_of_le hh]at k1;simp at k1
   have XJ:j<ds.length:=by
    rcases Nat.lt_or_ge j ds.length with hh|hh
    ·exact hh
    ·rw [List.drop_eq_nil_of_le hh]at k2;simp at k2
   rw [List.drop_eq_getElem_cons N5]at k1;rw [List.drop_eq_getElem_cons XJ]at k2;simp only [List.map_cons,List.cons.injEq]at k1 k2;have l1:=h1.len;have l2:=h2.len;obtain⟨v,f1,hv,_,r1⟩:=h1.at (show cs[j]?=some cs[j] by simp [N5])
   obtain⟨u,g1,hu,_,r2⟩:=h2.at (show ds[j]?=some ds[j] by simp [XJ])
   have p1:=Sm Bc as_ fd.offset (by omega) (.inr BE) w;have p2:=Sm Bc bs fd.offset (by omega) (.inr BE) w;have e1:((as_.drop fd.offset).take (P.cellsOf fd.type)).headD Go.undef=v:=by rw [BE,ho,List.drop_eq_getElem_cons (by omega),List.take_succ_cons];simpa [show j<as_.length by omega]using hv
   have e2:((bs.drop fd.offset).take (P.cellsOf fd.type)).headD Go.undef=u:=by rw [BE,ho,List.drop_eq_getElem_cons (by omega),List.take_succ_cons];simpa [show j<bs.length by omega]using hu
   rw [Hk,e1]at p1;rw [Hk,e2]at p2;have ih:=lX (w:=w) d fs (j+1) l hl h1 h2 k1.2 k2.2;rw [List.drop_eq_getElem_cons N5,List.drop_eq_getElem_cons XJ];simp only [Op.eqFields,ne_eq,hn,not_false_eq_true,if_true,Sem.run_bind,p1,p2,BH,if_false,Result.andThen_ok,heq v u _ _ _ _ r1 r2 k1.1 k2.1];cases hb:(cs[j]).seq ds[j]with
   |true=>simpa [AV.leq,hb]using ih
   |false=>simp [AV.leq,hb]
  split at hk
  ·rename_i k l hu hl;simp at hk;refine main _ _ hk.symm hl (fun a b x y f g ra rb hx hy=> ?_) (aN (.inl ⟨_,hu⟩));rcases P7 ra hx with⟨kk,m,h5,rfl,rfl⟩|⟨_,h5,_⟩|⟨_,h5,_⟩<;>cases h5
   rcases P7 rb hy with⟨kk,m2,h5,rfl,rfl⟩|⟨_,h5,_⟩|⟨_,h5,_⟩<;>cases h5
   exact run_equalIn_int w d fd.type _ _ _ _ hu
  ·rename_i l hu hl;simp at hk;refine main _ _ hk.symm hl (fun a b x y f g ra rb hx hy=> ?_) (aN (.inr (.inl hu)));rcases P7 ra hx with⟨kk,m,h5,_⟩|⟨_,_,rfl,rfl⟩|⟨_,h5,_⟩<;>try cases h5
   rcases P7 rb hy with⟨kk,m,h5,_⟩|⟨_,_,rfl,rfl⟩|⟨_,h5,_⟩<;>try cases h5
   exact bP d _ _ hu w
  ·rename_i l hu hl;simp at hk;refine main _ _ hk.symm hl (fun a b x y f g ra rb hx hy=> ?_) (aN (.inr (.inr hu)));rcases P7 ra hx with⟨kk,m,h5,_⟩|⟨_,h5,_⟩|⟨_,_,rfl,rfl⟩<;>try cases h5
   rcases P7 rb hy with⟨kk,m,h5,_⟩|⟨_,h5,_⟩|⟨_,_,rfl,rfl⟩<;>try cases h5
   rw [run_equalIn_string w d _ _ _ hu,lJ];rfl
  ·cases hk
theorem zyG (h:Bf P c n nx sl hp a sl0 hp0 o gs) {op:BinOp} {t:TypeId} {x y:Operand} {ty:TypeId} (ho:o.op= .binOp op t x y ty) {fs:Array Field} (hu:P.underlying t=some (.struct fs)) (he:Bq P sg sl0 hp0 nv nx gs o=some e) (hc: ∀q∈e.bw,Cn.den c.ρ q):Az P o c n nx sl hp gs a e:=by
 have DK:x∈o.op.operands:=by simp [ho,Op.operands]
 have Dn:y∈o.op.operands:=by simp [ho,Op.operands]
 simp only [Bq,ho,Au]at he;obtain⟨s1,Bu,s2,AU,he⟩:=he;unfold PR at he;simp only [hu]at he;split at he
 ·cases he
 rename_i hg;simp only [Bool.or_eq_true,not_or,Bool.not_eq_true]at hg;split at he
 ·rename_i ks x' y' u0 CE Bj;obtain⟨f1,q1,_⟩:=h.j3 Bu DK CE;obtain⟨f2,q2,_⟩:=h.j3 AU Dn Bj;have CV:P.underlying t=some (.struct (P.fieldsOf t)):=by simp [Program.fieldsOf,hu]
  have K4:P.fieldsOf t=fs:=by simp [Program.fieldsOf,hu]
  have key: ∀(k1:Cn.den c.ρ (.kinds x' ks)) (k2:Cn.den c.ρ (.kinds y' ks)),∃as_ bs:List Value,∃b,a.eval x= .agg as_.toArray∧a.eval y= .agg bs.toArray∧(E.aeq x' y').den c.ρ= .bool b∧(Op.equalIn 10000 t (.agg as_.toArray) (.agg bs.toArray)).run P c.w= .ok b c.w:=by rintro⟨cs,Bd,k1⟩ ⟨ds,Gf,k2⟩;obtain⟨as_,Ek,_,r1⟩:=IZ q1 Bd;obtain⟨bs,CW,_,r2⟩:=IZ q2 Gf;refine⟨as_,bs,AV.leq cs ds,Ek,CW,by simp only [E.den,Bd,Gf,AV.aeq], ?_⟩;rw [run_equalIn_struct c.w 9999 t _ _ CV hg.1,K4];exact lX (w:=c.w) 9998 fs.toList 0 ks u0 r1 r2 (by simpa using k1) (by simpa using k2)
  split at he
  ·simp only [Af]at he;subst he;obtain⟨as_,bs,b,Ek,CW,hd,hr⟩:=key (hc _ (by simp)) (hc _ (by simp));refine Az.pure h (v:= .bool b) ?_ (.cw (by rw [hd];exact .bool .nil)) rfl;rw [Ny ho c.w Ek CW];simp [run_eqGuard_agg c.w _ t x y _ _ hg.2,run_eql_struct,hr]
  ·simp only [Af]at he;subst he;obtain⟨as_,bs,b,Ek,CW,hd,hr⟩:=key (hc _ (by simp)) (hc _ (by simp));refine Az.pure h (v:= .bool (!b)) ?_ (.cw (by simp only [E.den]at hd ⊢;rw [hd];exact .bool .nil)) rfl;rw [Ny ho c.w Ek CW];simp [run_eqGuard_agg c.w _ t x y _ _ hg.2,run_neq_struct,hr]
  ·cases he
 ·cases he
theorem mG (h:Bf P c n nx sl hp a sl0 hp0 o gs) {x y:Operand} {cl:Call} (ho:o.op= .call cl) {op:BinOp} (AK:(op= .gtr∧cl.callee= .builtin .max)∨(op= .lss∧cl.callee= .builtin .min)) (CQ:cl.args.toList= [x,y]) {s1 s2:SV} (Bu:Bx sl0 gs x=some s1) (AU:Bx sl0 gs y=some s2)
  (he:V0 op s1 s2=some e) (hc: ∀q∈e.bw,Cn.den c.ρ q):Az P o c n nx sl hp gs a e:=by
 have As:cl.args= #[x,y]:=by apply Array.ext';simp [CQ]
 have DK:x∈o.op.operands:=by rcases AK with⟨_,hh⟩|⟨_,hh⟩<;>simp [ho,Op.operands,Call.operands,hh,As]
 have Dn:y∈o.op.operands:=by rcases AK with⟨_,hh⟩|⟨_,hh⟩<;>simp [ho,Op.operands,Call.operands,hh,As]
 unfold V0 at he;split at he
 ·rename_i x' y';simp only [Af]at he;subst he;obtain⟨f1,q1,_⟩:=G6 (h.cu Bu DK) rfl;obtain⟨f2,q2,_⟩:=G6 (h.cu AU Dn) rfl;have hd:AV.bin op (y'.den c.ρ) (x'.den c.ρ)≠ .undef:=BE hc;cases hx:x'.den c.ρ<;>cases hy:y'.den c.ρ<;>simp only [hx,hy,AV.bin,ne_eq,not_true_eq_false]at hd;rename_i k m k' m';split at hd
  ·rename_i hk;have hk:k'=k:=by rcases hk with hk|hk|hk;exact hk;all_goals (rcases AK with⟨h1,_⟩|⟨h1,_⟩<;>rw [h1]at hk<;>cases hk)
   subst hk;obtain⟨v1,i1⟩:=FY q1 hx;obtain⟨v2,i2⟩:=FY q2 hy;rcases AK with⟨rfl,Ay⟩|⟨rfl,Ay⟩
   ·refine Az.pure h (v:= .int k' (if m'>m then m' else m)) ?_ (.cw ?_) rfl
    ·simp [execOp,ho,resolve,Ay,As,invoke,builtin,Builtin.max_,Builtin.max2,v1,v2]
    ·simp only [E.den,hx,hy,AV.bin,true_or,if_true,B8];by_cases hh:m'>m
     ·simp only [hh,decide_true,AV.cond,if_true];exact .int i2 .nil
     ·simp only [hh,decide_false,AV.cond,if_false];exact .int i1 .nil
   ·refine Az.pure h (v:= .int k' (if m'<m then m' else m)) ?_ (.cw ?_) rfl
    ·simp [execOp,ho,resolve,Ay,As,invoke,builtin,Builtin.min_,Builtin.min2,v1,v2]
    ·simp only [E.den,hx,hy,AV.bin,true_or,if_true,B8];by_cases hh:m'<m
     ·simp only [hh,decide_true,AV.cond,if_true];exact .int i2 .nil
     ·simp only [hh,decide_false,AV.cond,if_false];exact .int i1 .nil
  ·exact absurd rfl hd
 ·cases he
end
inductive Ca (P:Program) (w:World):List TypeId→List Bool→List Value→List AV→List Nat→List Nat→Prop where
 |nil {fl}:Ca P w [] fl [] [] [] []
 |own {t ts fl el u us y ys top N rf hs}:fl.headD false=true→Cr P t=some el→(BQ P el=true∧N= []∨BQ P el=false∧DD P t=none)→Cw w el (P.cellsOf el) u y top N→Ca P w ts fl.tail us ys rf hs→Ca P w (t::ts) fl (u::us) (y::ys) (N++rf) (top++hs)
 |deep {t ts fl el e z l u us y ys top rf hs}:fl.headD false=true→Cr P t=some el→BQ P el=false→DD P t=some (.row e z l)→DC w [.row e z l] [u] [y] top→Ca P w ts fl.tail us ys rf hs→Ca P w (t::ts) fl (u::us) (y::ys) rf (top++hs)
 |rd {t ts fl u us y ys f rf hs}:(fl.headD false=true→Cr P t=none)→Rd w [u] [y] f→Ca P w ts fl.tail us ys rf hs→Ca P w (t::ts) fl (u::us) (y::ys) (f++rf) hs
def NG (P:Program) (w:World) (t:TypeId) (fl:List Bool) (v:Value) (x:AV) (rf hs:List Nat):Prop:=
 ∃us ys,(if Ao P t then v= .agg us.toArray∧x= .agg ys∧ ∀u∈us,u.oneCell'=true else us= [v]∧ys= [x])∧Ca P w (AW P t) fl us ys rf hs
def Ef (P:Program) (w:World) (t:TypeId) (fl:List Bool) (v:Value) (x:AV) (rf hs:List Nat):Prop:=
 if F2 P t fl then NG P w t fl v x rf hs else Rd w [v] [x] rf∧hs= []
inductive H4 (P:Program) (w:World):List TypeId→List Bool→List Value→List AV→List Nat→List Nat→Prop where
 |nil {fl}:H4 P w [] fl [] [] [] []
 |cons {t ts fl v vs x xs f h rf hs}:Ef P w t fl v x f h→H4 P w ts (fl.drop (AW P t).length) vs xs rf hs→H4 P w (t::ts) fl (v::vs) (x::xs) (f++rf) (h++hs)
theorem Ca.len {P:Program} {w:World} {ts:List TypeId} {fl:List Bool} {us:List Value} {ys:List AV} {rf hs:List Nat} (h:Ca P w ts fl us ys rf hs):us.length=ts.length∧ys.length=ts.length:=by induction h<;>simp_all
theorem Ca.inb {P:Program} {w:World} {ts:List TypeId} {fl:List Bool} {us:List Value} {ys:List AV} {rf hs:List Nat} (h:Ca P w ts fl us ys rf hs):(∀b∈rf,b<w.heap.size)∧ ∀b∈hs,b<w.heap.size:=by
 induction h with
 |nil=>simp
 |deep _ _ _ _ h _ ih=>
  refine⟨ih.1,fun b hb=> ?_⟩;rcases Ah.1 hb with hb|hb
  ·exact h.inb b hb
  ·exact ih.2 b hb
 |own _ _ _ h _ ih=>
  refine⟨fun b hb=> ?_,fun b hb=> ?_⟩
  ·rcases Ah.1 hb with hb|hb
   ·obtain⟨xs,_,_,_,⟨_,_,_,rfl⟩|⟨g,cap,C,_,_,_,_,_,_,_,hr⟩⟩:=h
    ·simp at hb
    ·exact hr.inb b hb
   ·exact ih.1 b hb
  ·rcases Ah.1 hb with hb|hb
   ·obtain⟨xs,_,_,_,⟨_,_,rfl,_⟩|⟨g,cap,C,_,_,_,hh,_,rfl,_⟩⟩:=h
    ·simp at hb
    ·simp at hb;subst hb;exact El hh
   ·exact ih.2 b hb
 |rd _ h _ ih=>
  refine⟨fun b hb=> ?_,ih.2⟩;rcases Ah.1 hb with hb|hb
  ·exact h.inb b hb
  ·exact ih.1 b hb
structure AL where
 tag:Nat
 new:Option Value
 top:List Nat
 bf:Ai
def AL.pair (r:AL):Nat × Ai:=(r.tag,r.bf)
structure Eu (c c':Cx) (w':World) (recs:List AL):Prop where
 ρ:c'.ρ=c.ρ
 w:c'.w=w'
 G: ∀r∈recs,c'.G r.tag=⟨r.top, []⟩
 new: ∀r∈recs,∀hv,r.new=some hv→c'.K r.tag 0∧(∀g,c'.K r.tag g→g≤0)∧c'.H r.tag 0=hv
 K: ∀t g,c.K t g→c'.K t g∧c'.H t g=c.H t g
 old: ∀t,c.U t→ ∀g,c'.K t g→c.K t g
 j0: ∀r∈recs,r.new.isSome=true→c'.E r.tag=0
 ia: ∀r∈recs,r.new=none→c'.E r.tag=c.E r.tag+1
theorem Eu.mono {c c':Cx} {w':World} {recs recs':List AL} (h:Eu c c' w' recs) (hs: ∀r∈recs',r∈recs):Eu c c' w' recs':=
 ⟨h.ρ,h.w,fun r hr=>h.G r (hs r hr),fun r hr=>h.new r (hs r hr),h.K,h.old,fun r hr=>h.j0 r (hs r hr),fun r hr=>h.ia r (hs r hr)⟩
section
variable {P:Program} {c:Cx} {w':World}
theorem zzG {c':Cx} {t:Nat} {u:Value} {el sz:Nat} {y:AV} {top N:List Nat} (h:Cw w' el sz u y top N) (hk:c'.K t 0) (hh:c'.H t 0=u):SR c' [.own t 0] [u]:=by
 obtain⟨xs,_,_,_,⟨_,⟨a,rfl⟩,_⟩|⟨g,cap,C,rfl,_⟩⟩:=h
 ·exact .own hk hh .nil
 ·exact .own hk hh .nil
theorem Pf {nx:Nat} {mk:Nat→E} {ts:List TypeId} {fl:List Bool} {us:List Value} {ys:List AV} {rf hs:List Nat} (h:Ca P w' ts fl us ys rf hs): ∀(j:Nat),(∀i y,ys[i]?=some y→(mk (j+i)).den c.ρ=y)→
  ∃recs:List AL,(Cv P nx mk j ts fl).2=recs.map AL.pair∧recs.flatMap AL.top=hs∧(∀r∈recs,nx+j≤r.tag∧r.tag<nx+j+ts.length∧r.new.isSome)∧(recs.map AL.tag).Nodup∧(∀r∈recs,r.new=us[r.tag-(nx+j)]?)∧
   ∀c',Eu c c' w' recs→(∀b∈rf,c'.ok b)→SR c' (Cv P nx mk j ts fl).1 us∧ ∀r∈recs,CK c' r.tag r.bf:=by
 induction h with
 |nil=>exact fun j _=>⟨[],rfl,rfl,by simp,by simp,by simp,fun c' _ _=>⟨.nil,by simp⟩⟩
 | @own t ts fl el u us y ys top N rf hs h1 h2 Qd h3 _ ih=>
  intro j Fw;obtain⟨recs,e1,e2,e3,e4,e4',e5⟩:=ih (j+1) (fun i y hy=>by rw [show j+1+i=j+(i+1)from by omega];exact Fw (i+1) y (by simpa using hy));have hy:=Fw 0 y rfl;have X6:P2 P t el 0 0 (mk j)= .row el (P.cellsOf el) 0 (mk j) (BQ P el):=by
   unfold P2;rcases Qd with⟨h,_⟩|⟨h,h'⟩
   ·rw [if_pos h,h]
   ·rw [if_neg (by rw [h];simp),h',h]
  simp only [Cv,h1,h2,X6];refine⟨⟨nx+j,some u,top, .row el (P.cellsOf el) 0 (mk j) (BQ P el)⟩::recs,by simp [e1,AL.pair],by simp [e2],fun r hr=> ?_, ?_,fun r hr=> ?_,fun c' ha AF=> ?_⟩
  ·rcases Ae.1 hr with rfl|hr
   ·simp
   ·have:=e3 r hr;simp only [Am];exact⟨by omega,by omega,this.2.2⟩
  ·simp only [List.map_cons,List.nodup_cons];refine⟨fun hm=> ?_,e4⟩;obtain⟨r,hr,IA⟩:=List.mem_map.1 hm;have:=e3 r hr;omega
  ·rcases Ae.1 hr with rfl|hr
   ·simp
   ·rw [e4' r hr];have:=e3 r hr;rw [show r.tag-(nx+j)=(r.tag-(nx+(j+1)))+1 from by omega,List.getElem?_cons_succ]
  ·obtain⟨q1,q2⟩:=e5 c' (ha.mono fun r hr=>by simp [hr]) fun b hb=>AF b (by simp [hb]);obtain⟨k1,k2,k3⟩:=ha.new _ (List.mem_cons_self ..) u rfl;have kg:=ha.G _ (List.mem_cons_self ..);simp only at k1 k2 k3 kg;refine⟨(zzG h3 k1 k3).cons q1,fun r hr=> ?_⟩;rcases Ae.1 hr with rfl|hr
   ·refine⟨k1,k2,N, ?_,fun b hb=>AF b (by simp [hb]),fun hd=> ?_,fun _=>by rw [kg]⟩
    rotate_left
    ·rcases Qd with⟨_,h⟩|⟨h,_⟩
     ·subst h;exact⟨rfl,by rw [kg]⟩
     ·rw [h]at hd;cases hd
    rw [k3,kg,ha.w,ha.ρ];have Bj:(mk j).den c.ρ=y:=by simpa using hy
    rw [Bj];exact h3
   ·exact q2 r hr
 | @deep t ts fl el e z l u us y ys top rf hs h1 h2 Qc NS h3 _ ih=>
  intro j Fw;obtain⟨recs,e1,e2,e3,e4,e4',e5⟩:=ih (j+1) (fun i y hy=>by rw [show j+1+i=j+(i+1)from by omega];exact Fw (i+1) y (by simpa using hy));have hy:=Fw 0 y rfl;have X6:P2 P t el 0 0 (mk j)= .deep e z l.toList 0 0 (mk j):=by unfold P2;rw [if_neg (by rw [Qc];simp),NS]
  simp only [Cv,h1,h2,X6];refine⟨⟨nx+j,some u,top, .deep e z l.toList 0 0 (mk j)⟩::recs,by simp [e1,AL.pair],by simp [e2],fun r hr=> ?_, ?_,fun r hr=> ?_,fun c' ha AF=> ?_⟩
  ·rcases Ae.1 hr with rfl|hr
   ·simp
   ·have:=e3 r hr;simp only [Am];exact⟨by omega,by omega,this.2.2⟩
  ·simp only [List.map_cons,List.nodup_cons];refine⟨fun hm=> ?_,e4⟩;obtain⟨r,hr,IA⟩:=List.mem_map.1 hm;have:=e3 r hr;omega
  ·rcases Ae.1 hr with rfl|hr
   ·simp
   ·rw [e4' r hr];have:=e3 r hr;rw [show r.tag-(nx+j)=(r.tag-(nx+(j+1)))+1 from by omega,List.getElem?_cons_succ]
  ·obtain⟨q1,q2⟩:=e5 c' (ha.mono fun r hr=>by simp [hr]) AF;obtain⟨k1,k2,k3⟩:=ha.new _ (List.mem_cons_self ..) u rfl;have kg:=ha.G _ (List.mem_cons_self ..);have ke:=ha.j0 _ (List.mem_cons_self ..) rfl;simp only at k1 k2 k3 kg ke;obtain⟨p1,p2,p3,rfl⟩:=h3.head;refine⟨(SR.own k1 k3 .nil).cons q1,fun r hr=> ?_⟩;rcases Ae.1 hr with rfl|hr
   ·refine⟨k1,k2,ke, ?_,by rw [kg]⟩;have Bj:(mk j).den c.ρ=y:=by simpa using hy
    rw [k3,kg,ha.w,ha.ρ,Bj,AO.cr];exact h3
   ·exact q2 r hr
 | @rd t ts fl u us y ys f rf hs h1 h3 _ ih=>
  intro j Fw;obtain⟨recs,e1,e2,e3,e4,e4',e5⟩:=ih (j+1) (fun i y hy=>by rw [show j+1+i=j+(i+1)from by omega];exact Fw (i+1) y (by simpa using hy));have hy:=Fw 0 y rfl;have Xs:Cv P nx mk j (t::ts) fl=(.e (mk j)::(Cv P nx mk (j+1) ts fl.tail).1,(Cv P nx mk (j+1) ts fl.tail).2):=by
   simp only [Cv];split
   ·rename_i h8 h9;rw [h1 h8]at h9;cases h9
   ·rfl
  rw [Xs];refine⟨recs,e1,e2,fun r hr=> ?_,e4,fun r hr=> ?_,fun c' ha AF=> ?_⟩
  ·have:=e3 r hr;simp only [Am];exact⟨by omega,by omega,this.2.2⟩
  ·rw [e4' r hr];have:=e3 r hr;rw [show r.tag-(nx+j)=(r.tag-(nx+(j+1)))+1 from by omega,List.getElem?_cons_succ]
  ·obtain⟨q1,q2⟩:=e5 c' ha fun b hb=>AF b (by simp [hb]);have Bj:(mk j).den c.ρ=y:=by simpa using hy
   exact⟨(SR.e (f:=f) (by rw [ha.w,ha.ρ,Bj];exact h3) (fun b hb=>AF b (by simp [hb])) .nil).cons q1,q2⟩
theorem Nc {nx:Nat} {mk:Nat→E}: ∀(j:Nat) (ts:List TypeId) (fl:List Bool) (t:Nat) (e:Ai) {gs:Gd} {f:Ai},(t,e)∈(Cv P nx mk j ts fl).2→e≠ .gd gs f
 |_, [],_,_,_,_,_,h=>by simp [Cv]at h
 |j,u::ts,fl,t,e,gs,f,h=>by
  unfold Cv at h;split at h
  ·rcases Ae.1 h with h|h
   ·cases h;unfold P2;split
    ·simp
    ·split<;>simp
   ·exact Nc _ _ _ _ _ h
  ·exact Nc _ _ _ _ _ h
theorem Si {ρ:List AV} {x:E} {ys:List AV} (hx:x.den ρ= .agg ys): ∀i y,ys[i]?=some y→(Da x true (0+i)).den ρ=y:=by intro i y hy;simp [Da,E.den,hx,AV.fld,AV.cells,hy]
theorem lD {nx:Nat} {t:TypeId} {fl:List Bool} {x:E} {v:Value} {y:AV} {rf hs:List Nat} (h:Ef P w' t fl v y rf hs) (hx:x.den c.ρ=y):
  ∃recs:List AL,(Nn P nx t fl x).2=recs.map AL.pair∧recs.flatMap AL.top=hs∧(∀r∈recs,nx≤r.tag∧r.tag<nx+(AW P t).length∧r.new.isSome)∧(recs.map AL.tag).Nodup∧
   ∀c',Eu c c' w' recs→(∀b∈rf,c'.ok b)→SR c' [(Nn P nx t fl x).1] [v]∧ ∀r∈recs,CK c' r.tag r.bf:=by
 unfold Ef at h;unfold Nn;split at h
 ·rename_i hf;simp only [hf,if_true];obtain⟨us,ys,hg,hc⟩:=h;split at hg
  ·rename_i AA;obtain⟨rfl,rfl,CB⟩:=hg;obtain⟨recs,e1,e2,e3,e4,_,e5⟩:=Pf (c:=c) (nx:=nx) (mk:=Da x (Ao P t)) hc 0 (by rw [AA];exact Si hx);refine⟨recs,e1,e2,fun r hr=>by have:=e3 r hr;exact⟨by omega,by omega,this.2.2⟩,e4,fun c' ha AF=> ?_⟩;obtain⟨q1,q2⟩:=e5 c' ha AF;rw [if_pos AA];exact⟨.agg CB (by rw [Bl.aq];exact q1) .nil,q2⟩
  ·rename_i AA;obtain⟨rfl,rfl⟩:=hg;have Gc:Ao P t=false:=by simpa using AA
   obtain⟨recs,e1,e2,e3,e4,_,e5⟩:=Pf (c:=c) (nx:=nx) (mk:=Da x (Ao P t)) hc 0 (by
    intro i z hz;cases i with
    |zero=>simp at hz;subst hz;simp [Da,Gc,hx]
    |succ i=>simp at hz)
   refine⟨recs,e1,e2,fun r hr=>by have:=e3 r hr;exact⟨by omega,by omega,this.2.2⟩,e4,fun c' ha AF=> ?_⟩;obtain⟨q1,q2⟩:=e5 c' ha AF;refine⟨?_,q2⟩;rw [if_neg AA];have hl:=q1.len;generalize (Cv P nx (Da x (Ao P t)) 0 (AW P t) fl).1=l at q1 hl
   match l,hl with
   | [s],_=>exact q1
 ·rename_i hf;simp only [hf,if_false,BH];obtain⟨h1,rfl⟩:=h;exact⟨[],rfl,rfl,by simp,by simp,fun c' ha AF=>⟨.e (f:=rf) (by rw [ha.w,ha.ρ,hx];exact h1) AF .nil,by simp⟩⟩
theorem zpB {ts:List TypeId} {fl:List Bool} {x:E} {vs:List Value} {ys:List AV} {rf hs:List Nat} (h:H4 P w' ts fl vs ys rf hs): ∀(nx i:Nat),(∀k y,ys[k]?=some y→(E.proj x (i+k)).den c.ρ=y)→
  ∃recs:List AL,(LB P nx ts fl x i).2=recs.map AL.pair∧recs.flatMap AL.top=hs∧(∀r∈recs,nx≤r.tag∧r.tag<nx+(ts.flatMap (AW P)).length∧r.new.isSome)∧(recs.map AL.tag).Nodup∧
   ∀c',Eu c c' w' recs→(∀b∈rf,c'.ok b)→SR c' (LB P nx ts fl x i).1 vs∧ ∀r∈recs,CK c' r.tag r.bf:=by
 induction h with
 |nil=>exact fun nx i _=>⟨[],rfl,rfl,by simp,by simp,fun c' _ _=>⟨.nil,by simp⟩⟩
 | @cons t ts fl v vs y ys f h rf hs h1 _ ih=>
  intro nx i hx;obtain⟨r1,a1,a2,a3,a4,a5⟩:=lD (c:=c) (nx:=nx) (x:= .proj x i) h1 (hx 0 y rfl);obtain⟨r2,b1,b2,b3,b4,b5⟩:=ih (nx+(AW P t).length) (i+1) (fun k z hz=>by rw [show i+1+k=i+(k+1)from by omega];exact hx (k+1) z (by simpa using hz));simp only [LB];refine⟨r1++r2,by simp [a1,b1],by simp [a2,b2],fun r hr=> ?_, ?_,fun c' ha AF=> ?_⟩
  ·simp only [List.flatMap_cons,Ak];rcases Ah.1 hr with hr|hr
   ·have:=a3 r hr;exact⟨this.1,by omega,this.2.2⟩
   ·have:=b3 r hr;exact⟨by omega,by omega,this.2.2⟩
  ·rw [List.map_append,List.nodup_append];refine⟨a4,b4,fun t1 Q4 t2 Q5 he=> ?_⟩;obtain⟨q1,FQ,rfl⟩:=List.mem_map.1 Q4;obtain⟨q2,Fh,rfl⟩:=List.mem_map.1 Q5;have:=a3 q1 FQ;have:=b3 q2 Fh;omega
  ·obtain⟨p1,p2⟩:=a5 c' (ha.mono fun r hr=>by simp [hr]) fun b hb=>AF b (by simp [hb]);obtain⟨q1,q2⟩:=b5 c' (ha.mono fun r hr=>by simp [hr]) fun b hb=>AF b (by simp [hb]);refine⟨p1.cons q1,fun r hr=> ?_⟩;rcases Ah.1 hr with hr|hr
   ·exact p2 r hr
   ·exact q2 r hr
end
theorem R6 {α:Type} {f:α→List Nat}: ∀{l:List α},(l.flatMap f).Nodup→(∀a∈l,(f a).Nodup)∧ ∀(i j:Nat) (a b:α) (x:Nat),l[i]?=some a→l[j]?=some b→x∈f a→x∈f b→i=j
 | [],_=>⟨by simp,by simp⟩
 |a::l,h=>by
  rw [List.flatMap_cons,List.nodup_append]at h;obtain⟨h1,h2,h3⟩:=h;obtain⟨k1,k2⟩:=R6 h2;refine⟨fun b hb=> ?_,fun i j p q x hi hj hp hq=> ?_⟩
  ·rcases Ae.1 hb with rfl|hb
   ·exact h1
   ·exact k1 b hb
  ·cases i with
   |zero=>
    cases j with
    |zero=>rfl
    |succ j=>simp at hi hj;subst hi;exact absurd rfl (h3 x hp x (List.mem_flatMap.2 ⟨q,List.mem_of_getElem? hj,hq⟩))
   |succ i=>
    cases j with
    |zero=>simp at hi hj;subst hj;exact absurd rfl (h3 x hq x (List.mem_flatMap.2 ⟨p,List.mem_of_getElem? hi,hp⟩))
    |succ j=>rw [k2 i j p q x (by simpa using hi) (by simpa using hj) hp hq]
theorem Px {recs:List AL} (hn:(recs.map AL.tag).Nodup) {r:AL} (hr:r∈recs) (p:AL→Bool) (hp:p r=true) (DM: ∀q,p q=true→q.tag=r.tag):recs.find? p=some r:=by
 induction recs with
 |nil=>simp at hr
 |cons q recs ih=>
  simp only [List.map_cons,List.nodup_cons]at hn;rw [List.find?_cons];rcases Ae.1 hr with rfl|hr
  ·simp [hp]
  ·have:p q=false:=by
    cases hq:p q with
    |false=>rfl
    |true=>exact absurd (List.mem_map.2 ⟨r,hr,(DM q hq).symm⟩) hn.1
   rw [this];exact ih hn.2 hr
def Cx.dj (c:Cx) (w':World) (recs:List AL):Cx:=
 {c with w:=w',G:=fun t=>(match recs.find? (fun r=>r.tag==t)with|some r=>⟨r.top, []⟩|none=>c.G t),K:=fun t g=>c.K t g∨ ∃r∈recs,r.tag=t∧r.new.isSome=true∧g=0,H:=fun t g=>(match recs.find? (fun r=>r.tag==t&&r.new.isSome)with|some r=>r.new.getD undef|none=>c.H t g),U:=fun t=>c.U t∨ ∃r∈recs,r.tag=t,E:=fun t=>match recs.find? (fun r=>r.tag==t)with|some r=>if r.new.isSome then 0 else c.E t+1|none=>c.E t}
section
variable {P:Program} {c:Cx} {n:Nat} {sl:Nat→SV} {hp:Nat→Option Ai} {a:Act} {w':World} {recs:List AL}
theorem Cx.dr (hn:(recs.map AL.tag).Nodup) {r:AL} (hr:r∈recs):(c.dj w' recs).G r.tag=⟨r.top, []⟩:=by simp only [Cx.dj];rw [Px hn hr (fun q=>q.tag==r.tag) (by simp) (fun q hq=>by simpa using hq)]
theorem Cx.c8 {t:Nat} (ht: ∀r∈recs,r.tag≠t):(c.dj w' recs).G t=c.G t:=by
 simp only [Cx.dj];have:recs.find? (fun r=>r.tag==t)=none:=by rw [List.find?_eq_none];intro r hr;simpa using ht r hr
 rw [this]
theorem Cx.dn (hU: ∀t g,c.K t g→c.U t) (hn:(recs.map AL.tag).Nodup) (A0: ∀r∈recs,r.new.isSome=true→ ¬c.U r.tag):Eu c (c.dj w' recs) w' recs:=by
 refine⟨rfl,rfl,fun r hr=>Cx.dr hn hr,fun r hr hv TJ=>⟨.inr ⟨r,hr,rfl,by simp [TJ],rfl⟩,fun g hg=> ?_, ?_⟩,fun t g hk=>⟨.inl hk, ?_⟩,fun t ht g hk=> ?_,fun r hr hs=> ?_,fun r hr hs=> ?_⟩
 ·rcases hg with hg|⟨_,_,_,_,rfl⟩
  ·exact absurd (hU _ _ hg) (A0 r hr (by simp [TJ]))
  ·exact Nat.le_refl _
 ·simp only [Cx.dj];rw [Px hn hr (fun q=>q.tag==r.tag&&q.new.isSome) (by simp [TJ]) (fun q hq=>by simp only [Ad,beq_iff_eq]at hq;exact hq.1)];simp [TJ]
 ·simp only [Cx.dj];have:recs.find? (fun r=>r.tag==t&&r.new.isSome)=none:=by
   rw [List.find?_eq_none];rintro r hr hh;simp only [Ad,beq_iff_eq]at hh;exact A0 r hr hh.2 (hh.1▸hU t g hk)
  rw [this]
 ·rcases hk with hk|⟨r,hr,rfl,hh,_⟩
  ·exact hk
  ·exact absurd ht (A0 r hr hh)
 ·simp only [Cx.dj];rw [Px hn hr (fun q=>q.tag==r.tag) (by simp) (fun q hq=>by simpa using hq)];simp [hs]
 ·simp only [Cx.dj];rw [Px hn hr (fun q=>q.tag==r.tag) (by simp) (fun q hq=>by simpa using hq)];simp [hs]
theorem Cx.jf {t:Nat} (ht: ∀r∈recs,r.tag≠t):(c.dj w' recs).E t=c.E t:=by
 simp only [Cx.dj];have:recs.find? (fun r=>r.tag==t)=none:=by rw [List.find?_eq_none];intro r hr;simpa using ht r hr
 rw [this]
theorem Rel.changes (h:Rel c n sl hp a) {hs:List Nat} {gs:Gd} (k:A5 c.ρ gs) (Cs:Mod hs c.w w') (hn:(recs.map AL.tag).Nodup) (A0: ∀r∈recs,r.new.isSome=true→ ¬c.U r.tag)
  (Gl: ∀b∈hs,∃r∈recs,b∈(c.G r.tag).top) (D8:(recs.flatMap AL.top).Nodup) (B1: ∀r∈recs,∀b∈r.top,(b∈hs∨c.w.heap.size≤b)∧b<w'.heap.size)
  (Bt: ∀r∈recs,∀hs f,r.bf≠ .gd hs f) (Bg:Di c (c.dj w' recs)→ ∀r∈recs,CK (c.dj w' recs) r.tag r.bf):
  Rel (c.dj w' recs) n sl (A2 hp (recs.map fun r=>(r.tag,Cy gs r.bf))) a∧Di c (c.dj w' recs):=by
 have aft:=Cx.dn (w':=w') h.br hn A0;have iB: ∀b∈hs,c.M b:=fun b hb=>by obtain⟨r,_,hr⟩:=Gl b hb;exact⟨_,hr⟩
 have Bh: ∀b∈hs,c.B≤b∨c.Mu b:=fun b hb=>by obtain⟨r,_,hr⟩:=Gl b hb;exact h.gw.allow r.tag b (by simp [GI.own,hr])
 have BF:Di c (c.dj w' recs):=by
  refine⟨rfl,rfl,fun b hb AF=>⟨fun⟨t,ht⟩=> ?_,AF.2⟩,fun b hb AF=>Cs.block b hb fun hh=>AF.1 (iB b hh),aft.K,fun t g hk=> ?_⟩;by_cases hT: ∃r∈recs,r.tag=t
  ·obtain⟨r,hr,rfl⟩:=hT;rw [Cx.dr hn hr]at ht;rcases(B1 r hr b ht).1 with hh|hh
   ·exact AF.1 (iB b hh)
   ·omega
  ·rw [Cx.c8 fun r hr hh=>hT ⟨r,hr,hh⟩]at ht;exact AF.1 ⟨t,ht⟩
  ·by_cases hT: ∃r∈recs,r.tag=t
   ·obtain⟨r,hr,rfl⟩:=hT;have Dp:r.new=none:=by
     cases hh:r.new with
     |none=>rfl
     |some v=>exact absurd (h.br _ _ hk) (A0 r hr (by simp [hh]))
    rw [aft.ia r hr Dp];exact⟨by omega,fun h=>by omega⟩
   ·have gH: ∀r∈recs,r.tag≠t:=fun r hr hh=>hT ⟨r,hr,hh⟩;rw [Cx.jf gH,Cx.c8 gH];refine⟨Nat.le_refl _,fun _=>⟨rfl,fun b hb Ig=>Cs.block b Ig fun hh=> ?_⟩⟩;obtain⟨r,hr,W9⟩:=Gl b hh;exact h.gw.cj t r.tag (fun hh=>hT ⟨r,hr,hh.symm⟩) b (by simp [GI.own,hb]) (by simp [GI.own,W9])
 have Bg:=Bg BF;have IF: ∀r∈recs,∀e',(r.tag,e')∈(recs.map fun r=>(r.tag,Cy gs r.bf))→e'=Cy gs r.bf:=by
  intro r hr e' Ei;obtain⟨q,hq,HR⟩:=List.mem_map.1 Ei;simp only [Prod.mk.injEq]at HR;obtain⟨h1,rfl⟩:=HR;have e1:=Cx.dr (c:=c) (w':=w') hn hr;have:q=r:=by have f1:=Px hn hr (fun q=>q.tag==r.tag) (by simp) (fun q hq=>by simpa using hq);have f2:=Px hn hq (fun p=>p.tag==r.tag) (by simp [h1]) (fun p hp=>by rw [h1];simpa using hp);rw [f1]at f2;cases f2;rfl
  rw [this]
 refine⟨h.change (fun t=> ∃r∈recs,r.tag=t) BF ⟨Cs.os.trans h.base.os,Cs.tape.trans h.base.tape,Cs.output.trans h.base.output,Nat.le_trans h.base.size Cs.size,fun t v Oc=>⟨.inl (h.base.pins t v Oc).1,fun hk=> ?_⟩,fun b hb Fx=> ?_,h.base.pk,h.base.lo⟩
  (fun t ht=>⟨Kx fun e he=> ?_,Cx.c8 fun r hr hh=>ht ⟨r,hr,hh⟩,Cx.jf fun r hr hh=>ht ⟨r,hr,hh⟩,fun g hg=> ?_⟩) (fun t ht b hb=>Cs.block b (h.gw.inb t b (by simp [GI.own,hb])) fun hh=> ?_) (fun t ht=> ?_) ⟨fun t=> ?_,fun t u Ll b hb BL=> ?_,fun t b hb=> ?_,fun t b hb=> ?_⟩ (fun t g hk=> ?_) (fun t e he=> ?_),BF⟩
 ·have Bz:=aft.old t (h.base.pins t v Oc).1 0 hk;rw [(aft.K t 0 Bz).2];exact(h.base.pins t v Oc).2 Bz
 ·refine(Cs.block b (Nat.lt_of_lt_of_le hb h.base.size) fun hh=> ?_).trans (h.base.block b hb Fx);rcases Bh b hh with h1|h1
  ·exact absurd h1 (Nat.not_le.2 hb)
  ·exact Fx h1
 ·obtain⟨q,hq,HR⟩:=List.mem_map.1 he;simp only [Prod.mk.injEq]at HR;exact ht ⟨q,hq,HR.1⟩
 ·rcases hg with hg|⟨r,hr,IA,_⟩
  ·exact hg
  ·exact absurd ⟨r,hr,IA⟩ ht
 ·obtain⟨r,hr,Ig⟩:=Gl b hh;exact h.gw.cj t r.tag (fun hh=>ht ⟨r,hr,hh.symm⟩) b (by simp [GI.own,hb]) (by simp [GI.own,Ig])
 ·obtain⟨r,hr,rfl⟩:=ht;have Dq:=dZ (hp:=hp) (l:=recs.map fun r=>(r.tag,Cy gs r.bf)) (List.mem_map.2 ⟨r,hr,rfl⟩) (IF r hr);rw [Dq];refine⟨fun e' Q0=> ?_,fun Dp=> ?_⟩
  ·rw [(Py k (Bt r hr)).1 Q0];exact Bg r hr
  ·exact absurd ((Py k (Bt r hr)).2 rfl) (Dp r.bf)
 ·by_cases hT: ∃r∈recs,r.tag=t
  ·obtain⟨r,hr,rfl⟩:=hT;rw [Cx.dr hn hr];simpa [GI.own]using(R6 D8).1 r hr
  ·rw [Cx.c8 fun r hr hh=>hT ⟨r,hr,hh⟩];exact h.gw.nodup t
 ·by_cases hT: ∃r∈recs,r.tag=t
  ·obtain⟨r,hr,rfl⟩:=hT;rw [Cx.dr hn hr]at hb;simp only [GI.own,List.append_nil]at hb;by_cases hV: ∃r∈recs,r.tag=u
   ·obtain⟨q,hq,rfl⟩:=hV;rw [Cx.dr hn hq]at BL;simp only [GI.own,List.append_nil]at BL;obtain⟨i,hi⟩:=List.getElem?_of_mem hr;obtain⟨j,hj⟩:=List.getElem?_of_mem hq;have:=(R6 D8).2 i j r q b hi hj hb BL;subst this;rw [hi]at hj;cases hj;exact Ll rfl
   ·rw [Cx.c8 fun r hr hh=>hV ⟨r,hr,hh⟩]at BL;rcases(B1 r hr b hb).1 with hh|hh
    ·obtain⟨q,hq,uD⟩:=Gl b hh;exact h.gw.cj q.tag u (fun hh=>hV ⟨q,hq,hh⟩) b (by simp [GI.own,uD]) BL
    ·have:=h.gw.inb u b BL;omega
  ·rw [Cx.c8 fun r hr hh=>hT ⟨r,hr,hh⟩]at hb;by_cases hV: ∃r∈recs,r.tag=u
   ·obtain⟨q,hq,rfl⟩:=hV;rw [Cx.dr hn hq]at BL;simp only [GI.own,List.append_nil]at BL;rcases(B1 q hq b BL).1 with hh|hh
    ·obtain⟨r,hr,Tv⟩:=Gl b hh;exact h.gw.cj r.tag t (fun hh=>hT ⟨r,hr,hh⟩) b (by simp [GI.own,Tv]) hb
    ·have:=h.gw.inb t b hb;omega
   ·rw [Cx.c8 fun r hr hh=>hV ⟨r,hr,hh⟩]at BL;exact h.gw.cj t u Ll b hb BL
 ·by_cases hT: ∃r∈recs,r.tag=t
  ·obtain⟨r,hr,rfl⟩:=hT;rw [Cx.dr hn hr]at hb;simp only [GI.own,List.append_nil]at hb;rcases(B1 r hr b hb).1 with hh|hh
   ·exact Bh b hh
   ·exact .inl (Nat.le_trans h.base.size hh)
  ·rw [Cx.c8 fun r hr hh=>hT ⟨r,hr,hh⟩]at hb;exact h.gw.allow t b hb
 ·by_cases hT: ∃r∈recs,r.tag=t
  ·obtain⟨r,hr,rfl⟩:=hT;rw [Cx.dr hn hr]at hb;simp only [GI.own,List.append_nil]at hb;exact(B1 r hr b hb).2
  ·rw [Cx.c8 fun r hr hh=>hT ⟨r,hr,hh⟩]at hb;exact Nat.lt_of_lt_of_le (h.gw.inb t b hb) Cs.size
 ·rcases hk with hk|⟨r,hr,IA,_⟩
  ·exact .inl (h.br t g hk)
  ·exact .inr ⟨r,hr,IA⟩
 ·by_cases hT: ∃r∈recs,r.tag=t
  ·exact .inr hT
  ·rw [Kx]at he
   ·exact .inl (h.cm t e he)
   ·intro e' Ei;obtain⟨q,hq,HR⟩:=List.mem_map.1 Ei;simp only [Prod.mk.injEq]at HR;exact hT ⟨q,hq,HR.1⟩
end
def YT (P:Program) (w:World) (t:TypeId):PM→Value→AV→List Nat→List Nat→Prop
 | .ro,v,x,rf,hs=>Rd w [v] [x] rf∧hs= []
 | .va own,v,x,rf,hs=>NG P w t own v x rf hs
 | .mu own,v,x,rf,hs=>NG P w t own v x rf hs
 | .bx own _,v,x,rf,hs=> ∃(ty:TypeId) (b:Nat) (C:Array Value) (ys:List AV) (h:List Nat),JI P t=some ty∧v= .pointer (some ⟨b,0,none⟩)∧w.heap[b]?=some (.cells C ty (0,0))∧(∀u∈C.toList,u.oneCell'=true)∧x= .ref (.agg ys)∧
   Ca P w (AW P ty) own C.toList ys rf h∧hs=b::h
inductive Db (P:Program) (w:World):List TypeId→List PM→List Bool→List Value→List AV→List Nat→List Nat→List Nat→Prop where
 |nil {ms lo}:Db P w [] ms lo [] [] [] [] []
 |cons {t ts ms lo v vs x xs f h rf lf hs}:YT P w t (ms.headD .ro) v x f h→Db P w ts ms.tail lo.tail vs xs rf lf hs→Db P w (t::ts) ms lo (v::vs) (x::xs) (f++rf) lf (h++hs)
 |lent {t ts ms lo v vs x xs f rf lf hs}:lo.headD false=true→ms.headD .ro= .ro→Rd w [v] [x] f→Db P w ts ms.tail lo.tail vs xs rf lf hs→Db P w (t::ts) ms lo (v::vs) (x::xs) rf (f++lf) hs
 |free {ms lo v vs x xs f rf lf hs}:Rd w [v] [x] f→Db P w [] ms.tail lo.tail vs xs rf lf hs→Db P w [] ms lo (v::vs) (x::xs) (f++rf) lf hs
inductive F4 (P:Program) (c:Cx):List TypeId→List Bool→List Value→List (Option RI)→Prop where
 |nil {fl}:F4 P c [] fl [] []
 |row {t ts fl v vs u g el rs}:fl.headD false=true→Cr P t=some el→(BQ P el=true∨DD P t=none)→c.K u g→c.H u g=v→(∀g',c.K u g'→g'≤g)→F4 P c ts fl.tail vs rs→F4 P c (t::ts) fl (v::vs) (some (.fl u g el (P.cellsOf el) (BQ P el))::rs)
 |deep {t ts fl v vs u g el e z l ep rs}:fl.headD false=true→Cr P t=some el→BQ P el=false→DD P t=some (.row e z (AO.of l))→c.K u g→c.H u g=v→(∀g',c.K u g'→g'≤g)→c.E u=ep→F4 P c ts fl.tail vs rs→F4 P c (t::ts) fl (v::vs) (some (.dp u g e z l ep)::rs)
 |none {t ts fl v vs rs}:(fl.headD false=true→Cr P t=none∨ ∃a,v= .slice a 0 0)→F4 P c ts fl.tail vs rs→F4 P c (t::ts) fl (v::vs) (none::rs)
inductive H0 (P:Program) (c:Cx):List TypeId→List PM→List Value→List PA→Prop where
 |nil {ts ms}:H0 P c ts ms [] []
 |ro {ts ms v vs bs}:ms.headD .ro= .ro→H0 P c ts.tail ms.tail vs bs→H0 P c ts ms (v::vs) bs
 |va {ts ms own v vs bs us}:ms.headD .ro= .va own→(∀u∈us,c.U u)→H0 P c ts.tail ms.tail vs bs→H0 P c ts ms (v::vs) (.va us::bs)
 |mu {t ts ms own v vs bs us rs}:ms.headD .ro= .mu own→(if Ao P t then v= .agg us.toArray else us= [v])→F4 P c (AW P t) own us rs→H0 P c ts ms.tail vs bs→H0 P c (t::ts) ms (v::vs) (.mu rs (Ao P t)::bs)
 |bx {t ts ms own own' ty v vs bs T b g olds}:ms.headD .ro= .bx own own'→JI P t=some ty→v= .pointer (some ⟨b,0,none⟩)→c.K T 0→c.H T 0=v→(∀u∈olds,c.U u)→H0 P c ts ms.tail vs bs→H0 P c (t::ts) ms (v::vs) (.box T g own' ty olds::bs)
section
variable {P:Program} {c:Cx} {hp:Nat→Option Ai} {gs:Gd}
theorem Wf {t el:TypeId} {d:DT} (A7:Cr P t=some el) (h:DD P t=some d):P.cellsOf el≠0∧(AW P el).length=P.cellsOf el∧ ∃l:List DT,d= .row el (P.cellsOf el) (AO.of l)∧l.length=P.cellsOf el:=by
 have hu:=Jm A7;unfold DD at h;split at h
 ·cases h
 simp only [WJ,hu]at h;split at h
 ·cases h
 ·rename_i hh;simp only [not_or,Decidable.not_not,ne_eq]at hh;obtain⟨l,hl,rfl⟩:=Aq.1 h;exact⟨hh.1,hh.2,l,rfl,by rw [mapM_len _ _ hl];exact hh.2⟩
where
 mapM_len {α β:Type} {f:α→Option β}: ∀(l:List α) (l':List β),l.mapM f=some l'→l'.length=l.length
  | [],l',h=>by simp at h;subst h;rfl
  |a::l,l',h=>by simp only [List.mapM_cons,Option.bind_eq_bind,Au,Option.pure_def,Af]at h;obtain⟨b,_,bs,Mk,rfl⟩:=h;simp [mapM_len l bs Mk]
theorem Ca.void {w:World} {t el:TypeId} {ts:List TypeId} {fl:List Bool} {a:Option Addr} {us:List Value} {ys:List AV} {rf hs:List Nat} (h1:fl.headD false=true) (h2:Cr P t=some el) (hz:P.cellsOf el≠0) (h:Ca P w ts fl.tail us ys rf hs):Ca P w (t::ts) fl (.slice a 0 0::us) (.sl []::ys) rf ([]++hs):=by
 have Bh:Cw w el (P.cellsOf el) (.slice a 0 0) (.sl []) [] []:=⟨[],rfl,by simp,by omega, .inl ⟨rfl,⟨a,rfl⟩,rfl,rfl⟩⟩
 cases hf:BQ P el with
 |true=>exact .own h1 h2 (.inl ⟨hf,rfl⟩) Bh h
 |false=>
  cases hd:DD P t with
  |none=>exact .own h1 h2 (.inr ⟨hf,hd⟩) Bh h
  |some d=>obtain⟨_,_,l,rfl,hl⟩:=Wf h2 hd;exact .deep h1 h2 hf hd (.void (by omega) (by rw [AO.aq];exact hl) .nil) h
theorem mA {as_ bs:List Value} (h:Value.agg as_.toArray= .agg bs.toArray):as_=bs:=by
 have h1:as_.toArray=bs.toArray:=by injection h
 have:=congrArg Array.toList h1;simpa using this
theorem aF (eh:EH c hp) (k:A5 c.ρ gs) (hU: ∀t g,c.K t g→c.U t): ∀(ts:List TypeId) {cs:List SV} {fl:List Bool} {rs:List (Option RI)} {us:List Nat} {vs:List Value} {xs:EL} {m:Nat},Gx P hp gs ts cs fl=some (rs,us)→SR c cs vs→Cc hp gs m cs=some xs→m≤AT→
  ∃rf hs,Ca P c.w ts fl vs (xs.den c.ρ) rf hs∧(∀b∈rf,c.ed us b)∧hs=(Cp rs).flatMap (fun t=>(c.G t).top)∧F4 P c ts fl vs rs∧ ∀u∈Cp rs,c.U u
 | [], [],fl,rs,us,vs,xs,m,h,hs,hx,hm=>by
  simp [Gx]at h;obtain⟨rfl,rfl⟩:=h;cases hs;cases m with
  |zero=>simp [Cc]at hx
  |succ m=>simp [Cc]at hx;subst hx;exact⟨[], [], .nil,by simp,by simp [Cp], .nil,by simp [Cp]⟩
 | [],s::cs,fl,rs,us,vs,xs,m,h,hs,hx,hm=>by simp [Gx]at h
 |t::ts, [],fl,rs,us,vs,xs,m,h,hs,hx,hm=>by simp [Gx]at h
 |t::ts,s::cs,fl,rs,us, [],xs,m,h,hs,hx,hm=>by have:=hs.len;simp at this
 |t::ts,s::cs,fl,rs,us,v::vs,xs,m,h,hs,hx,hm=>by
  obtain⟨j,y,ys,rfl,hy,CX,rfl⟩:=Jn hx;obtain⟨r1,r2⟩:=hs.bz;unfold Gx at h;split at h
  ·cases h
  rename_i rs' us' CH;obtain⟨rf,A4,q1,q2,q3,q4,q5⟩:=aF eh k hU ts CH r2 CX (by omega);split at h
  ·rename_i hf;split at h
   ·rename_i r hr;simp only [Af,Prod.mk.injEq]at h;obtain⟨rfl,rfl⟩:=h;unfold dV at hr;split at hr
    ·cases hr
    rename_i el A7;split at hr
    ·cases hr
    rename_i hz;have empt: ∀a,v= .slice a 0 0→y.den c.ρ= .sl []→r=none→ ∃rf hs,Ca P c.w (t::ts) fl (v::vs) ((EL.cons y ys).den c.ρ) rf hs∧(∀b∈rf,c.ed us' b)∧hs=(Cp (r::rs')).flatMap (fun t=>(c.G t).top)∧F4 P c (t::ts) fl (v::vs) (r::rs')∧ ∀u∈Cp (r::rs'),c.U u:=by rintro a rfl HT rfl;refine⟨rf, []++A4, ?_,q2,by simpa [Cp]using q3, .none (fun _=> .inr ⟨a,rfl⟩) q4,by simpa [Cp]using q5⟩;rw [EL.den,HT];exact Ca.void hf A7 (by omega) q1
    split at hr
    ·simp only [Af]at hr;subst hr;cases r1 with
     |bu _=>exact empt _ rfl (by rw [Ks hy];rfl) rfl
    ·simp only [Af]at hr;subst hr;cases r1 with
     |emp _=>
      refine empt _ rfl ?_ rfl;cases j with
      |zero=>simp [Be]at hy
      |succ j=>simp [Be]at hy;subst hy;rfl
    ·rename_i u g;split at hr
     ·rename_i e z g' x d hl;split at hr
      ·rename_i hh;obtain⟨rfl,rfl,rfl,Gh⟩:=hh;simp only [Af]at hr;subst hr;obtain⟨p1,p2,N,p3,p4,p5,_⟩:=eh u _ (CD hl k);have Mr:BQ P e=true∨DD P t=none:=Gh.imp (·.1) (by rintro⟨_,h⟩;simpa using h);have Gh:BQ P e=true∧N= []∨BQ P e=false∧DD P t=none:=by
        rcases Gh with⟨h1,h2⟩|⟨h1,h2⟩
        ·exact .inl ⟨h1,(p5 h2).1⟩
        ·exact .inr ⟨h1,by simpa using h2⟩
       have Gv:y=x:=by
        cases j with
        |zero=>simp [Be]at hy
        |succ j=>simp [Be,Ht,hl]at hy;exact hy.symm
       subst Gv;have hv:c.H u g=v:=by
        cases r1 with
        |own _ k2 _=>exact k2
       rw [hv]at p3;refine⟨N++rf,(c.G u).top++A4,Ca.own hf A7 Gh p3 q1,fun b hb=> ?_,by simp [Cp,RI.tag,q3], .row hf A7 Mr p1 hv p2 q4,fun w hw=> ?_⟩
       ·rcases Ah.1 hb with hb|hb
        ·exact .inl (p4 b hb)
        ·exact q2 b hb
       simp only [Cp,List.filterMap_cons,Option.map_some,RI.tag,Ae]at hw;rcases hw with rfl|hw
       ·exact hU _ _ p1
       ·exact q5 w hw
      ·cases hr
     ·rename_i e z l g' ep x hl;split at hr
      ·rename_i hh;obtain⟨rfl,FA,Dl⟩:=hh;have Dl:=VQ Dl;simp only [Af]at hr;subst hr;obtain⟨p1,p2,pE,p3,_⟩:=eh u _ (CD hl k);have Gv:y=x:=by
        cases j with
        |zero=>simp [Be]at hy
        |succ j=>simp [Be,Ht,hl]at hy;exact hy.symm
       subst Gv;have hv:c.H u g=v:=by
        cases r1 with
        |own _ k2 _=>exact k2
       rw [hv]at p3;refine⟨rf,(c.G u).top++A4,Ca.deep hf A7 FA Dl p3 q1,q2,by simp [Cp,RI.tag,q3], .deep hf A7 FA Dl p1 hv p2 pE q4,fun w hw=> ?_⟩;simp only [Cp,List.filterMap_cons,Option.map_some,RI.tag,Ae]at hw;rcases hw with rfl|hw
       ·exact hU _ _ p1
       ·exact q5 w hw
      ·cases hr
     ·cases hr
    ·cases hr
   ·cases h
  ·rename_i hf;simp only [Af,Prod.mk.injEq]at h;obtain⟨rfl,rfl⟩:=h;obtain⟨f,p1,p2⟩:=G7 eh k j hy r1 AT (by omega);refine⟨f++rf,A4,Ca.rd (fun hh=>absurd hh hf) p1 q1,fun b hb=> ?_,by simpa [Cp]using q3, .none (fun hh=>absurd hh hf) q4,by simpa [Cp]using q5⟩;rcases Ah.1 hb with hb|hb
   ·exact(p2 b hb).mono fun t ht=>by simp [ht]
   ·exact(q2 b hb).mono fun t ht=>by simp [ht]
theorem lY (eh:EH c hp) (k:A5 c.ρ gs) (hU: ∀t g,c.K t g→c.U t) {t:TypeId} {s:SV} {v:Value} {fl:List Bool} {rs:List (Option RI)} {us:List Nat} {x:E} (hs:SR c [s] [v]) (hx:Be hp gs AT s=some x) (hg:(G5 s).2=Ao P t)
  (h:Gx P hp gs (AW P t) (G5 s).1 fl=some (rs,us)):
  ∃rf hs,NG P c.w t fl v (x.den c.ρ) rf hs∧(∀b∈rf,c.ed us b)∧hs=(Cp rs).flatMap (fun t=>(c.G t).top)∧(∃vs',(if Ao P t then v= .agg vs'.toArray else vs'= [v])∧F4 P c (AW P t) fl vs' rs)∧ ∀u∈Cp rs,c.U u:=by
 have single: ∀(s:SV),SR c [s] [v]→Be hp gs AT s=some x→Ao P t=false→Gx P hp gs (AW P t) [s] fl=some (rs,us)→ ∃rf hs,NG P c.w t fl v (x.den c.ρ) rf hs∧(∀b∈rf,c.ed us b)∧hs=(Cp rs).flatMap (fun t=>(c.G t).top)∧(∃vs',(if Ao P t then v= .agg vs'.toArray else vs'= [v])∧F4 P c (AW P t) fl vs' rs)∧ ∀u∈Cp rs,c.U u:=by
  intro s hs hx AA h;obtain⟨t0,Yn⟩: ∃t0,AW P t= [t0]:=by
   cases hh:AW P t with
   |nil=>rw [hh]at h;simp [Gx]at h
   |cons t0 l=>
    cases l with
    |nil=>exact⟨t0,rfl⟩
    |cons t1 l=>rw [hh]at h;simp [Gx]at h
  rw [Yn]at h;have key: ∃rf hs,Ca P c.w [t0] fl [v] [x.den c.ρ] rf hs∧(∀b∈rf,c.ed us b)∧hs=(Cp rs).flatMap (fun t=>(c.G t).top)∧F4 P c [t0] fl [v] rs∧ ∀u∈Cp rs,c.U u:=by
   unfold Gx at h;simp only [Gx]at h;split at h
   ·rename_i hf;split at h
    ·rename_i r hr;simp only [Af,Prod.mk.injEq]at h;obtain⟨rfl,rfl⟩:=h;unfold dV at hr;split at hr
     ·cases hr
     rename_i el A7;split at hr
     ·cases hr
     rename_i hz;have empt: ∀a,v= .slice a 0 0→x.den c.ρ= .sl []→r=none→ ∃rf hs,Ca P c.w [t0] fl [v] [x.den c.ρ] rf hs∧(∀b∈rf,c.ed ([]:List Nat) b)∧hs=(Cp [r]).flatMap (fun t=>(c.G t).top)∧F4 P c [t0] fl [v] [r]∧ ∀u∈Cp [r],c.U u:=by rintro a rfl HT rfl;refine⟨[], []++ [], ?_,by simp,by simp [Cp], .none (fun _=> .inr ⟨a,rfl⟩) .nil,by simp [Cp]⟩;rw [HT];exact Ca.void hf A7 (by omega) .nil
     split at hr
     ·simp only [Af]at hr;subst hr;cases hs with
      |bu _=>exact empt _ rfl (by rw [Ks hx];rfl) rfl
     ·simp only [Af]at hr;subst hr;cases hs with
      |emp _=>refine empt _ rfl ?_ rfl;simp [AT,Be]at hx;subst hx;rfl
     ·rename_i u g;split at hr
      ·rename_i e z g' x0 d hl;split at hr
       ·rename_i hh;obtain⟨rfl,rfl,rfl,Gh⟩:=hh;simp only [Af]at hr;subst hr;obtain⟨p1,p2,N,p3,p4,p5,_⟩:=eh u _ (CD hl k);have Mr:BQ P e=true∨DD P t0=none:=Gh.imp (·.1) (by rintro⟨_,h⟩;simpa using h);have Gh:BQ P e=true∧N= []∨BQ P e=false∧DD P t0=none:=by
         rcases Gh with⟨h1,h2⟩|⟨h1,h2⟩
         ·exact .inl ⟨h1,(p5 h2).1⟩
         ·exact .inr ⟨h1,by simpa using h2⟩
        have Gv:x=x0:=by simp [AT,Be,Ht,hl]at hx;exact hx.symm
        subst Gv;have hv:c.H u g=v:=by
         cases hs with
         |own _ k2 _=>exact k2
        rw [hv]at p3;refine⟨N++ [],(c.G u).top++ [],Ca.own hf A7 Gh p3 .nil,fun b hb=> .inl (p4 b (by simpa using hb)),by simp [Cp,RI.tag], .row hf A7 Mr p1 hv p2 .nil,fun w hw=> ?_⟩;simp only [Cp,List.filterMap_cons,Option.map_some,RI.tag,List.filterMap_nil,Ae,List.not_mem_nil,or_false]at hw;subst hw;exact hU _ _ p1
       ·cases hr
      ·rename_i e z l g' ep x0 hl;split at hr
       ·rename_i hh;obtain⟨rfl,FA,Dl⟩:=hh;have Dl:=VQ Dl;simp only [Af]at hr;subst hr;obtain⟨p1,p2,pE,p3,_⟩:=eh u _ (CD hl k);have Gv:x=x0:=by
         simp [AT,Be,Ht,hl]at hx;exact hx.symm
        subst Gv;have hv:c.H u g=v:=by
         cases hs with
         |own _ k2 _=>exact k2
        rw [hv]at p3;refine⟨[],(c.G u).top++ [],Ca.deep hf A7 FA Dl p3 .nil,by simp,by simp [Cp,RI.tag], .deep hf A7 FA Dl p1 hv p2 pE .nil,fun w hw=> ?_⟩;simp only [Cp,List.filterMap_cons,Option.map_some,RI.tag,List.filterMap_nil,Ae,List.not_mem_nil,or_false]at hw;subst hw;exact hU _ _ p1
       ·cases hr
      ·cases hr
     ·cases hr
    ·cases h
   ·rename_i hf;simp only [Af,Prod.mk.injEq]at h;obtain⟨rfl,rfl⟩:=h;obtain⟨f,p1,p2⟩:=G7 eh k AT hx hs AT (Nat.le_refl _);refine⟨f++ [], [],Ca.rd (fun hh=>absurd hh hf) p1 .nil,fun b hb=> ?_,by simp [Cp], .none (fun hh=>absurd hh hf) .nil,by simp [Cp]⟩;rw [List.append_nil]at hb;exact(p2 b hb).mono fun t ht=>by simp [ht]
  obtain⟨rf,A4,q1,q2,q3,q4,q5⟩:=key;refine⟨rf,A4,⟨[v], [x.den c.ρ], ?_,by rw [Yn];exact q1⟩,q2,q3,⟨[v], ?_,by rw [Yn];exact q4⟩,q5⟩
  ·rw [if_neg (by rw [AA];simp)];exact⟨rfl,rfl⟩
  ·rw [if_neg (by rw [AA];simp)]
 cases s with
 |agg cs=>
  simp only [G5]at hg h;obtain⟨m,l,hm,hl,rfl⟩:=Sk hx;cases hs with
  |agg h9 h1 h8=>
   rename_i as_;have Fv:m≤AT:=by simp only [AT]at hm ⊢;omega
   obtain⟨rf,A4,q1,q2,q3,q4,q5⟩:=aF (P:=P) eh k hU (AW P t) h h1 hl Fv;refine⟨rf,A4,⟨as_,l.den c.ρ, ?_,q1⟩,q2,q3,⟨as_, ?_,q4⟩,q5⟩
   ·rw [if_pos hg.symm];exact⟨rfl,rfl,h9⟩
   ·rw [if_pos hg.symm]
 |_=>exact single _ hs hx hg.symm h
end
end Go.Proofs.YtollgpkegmbpmaaGreatDoor
end

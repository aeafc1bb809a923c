/- Parts of a proof, joined: VX, WB, WC, WD, WE, WF, WG, WH, WI, WJ, WK, WL, WM, WN, WO. -/
import Derived.Test.YtfdfahjmonlbiaaGreatDoorZ3
import Derived.Orders
import Derived.Lib.SliceRun
import Derived.Laws.Slices
import Derived.Laws.MakeOwn
import Derived.Laws.StructEq
set_option linter.unusedVariables false
set_option linter.unusedSimpArgs false
section
namespace Go.Proofs.YtfdfahjmonlbiaaGreatDoor
open Go.RowKit
section
variable {P:Program} {c:Cx} {n nx:Nat} {sl sl0:Nat→SV} {hp hp0:Nat→Option Aj} {a:Act} {o:Oper} {gs:Gd} {e:A5} {sg:BT} {nv:Nat}
def Cx.gi (c:Cx) (w':World) (t:Nat) (O:List Nat):Cx:={c with w:=w',G:=fun u=>if u=t then⟨(c.G t).top,O⟩else c.G u,E:=fun u=>if u=t then c.E u+1 else c.E u}
theorem Rel.ki (h:Rel c n sl hp a) {t:Nat} {e0:Aj} {b:Nat} {w':World} {O:List Nat} (AS:Cs c.ρ (hp t) e0) (Cw:b∈(c.G t).top) (hO:O= []∨O=(c.G t).O) (hm:Mod [b] c.w w') (B7:w'.heap.size=c.w.heap.size) (e1:Aj) (Bl: ∀hs f,e1≠ .gd hs f)
  (he:DJ c (c.gi w' t O)→Dh (c.gi w' t O) t e1):
  Rel (c.gi w' t O) n sl (Ba hp [(t,e1)]) a:=by
 have BC:b∈(c.G t).own:=by simp [GI.own,Cw]
 have hG: ∀u,(c.gi w' t O).G u=if u=t then⟨(c.G t).top,O⟩else c.G u:=fun u=>rfl;have EJ: ∀u,((c.gi w' t O).G u).top=(c.G u).top:=by
  intro u;rw [hG];split
  ·rename_i hu;rw [hu]
  ·rfl
 have BP: ∀u,∀q∈((c.gi w' t O).G u).own,q∈(c.G u).own:=by
  intro u q hq;rw [hG]at hq;split at hq
  ·rename_i hu;subst hu;simp only [GI.own,Ai]at hq ⊢;rcases hq with hq|hq
   ·exact .inl hq
   ·rcases hO with rfl|rfl
    ·simp at hq
    ·exact .inr hq
  ·exact hq
 have BU:DJ c (c.gi w' t O):=by
  refine⟨rfl,rfl,fun q _ hq=>⟨fun⟨u,hu⟩=>hq.1 ⟨u,by rw [EJ]at hu;exact hu⟩,hq.2⟩,fun q hq Az=>hm.block q hq ?_,fun u g hu=>⟨hu,rfl⟩,fun u g hu=> ?_⟩
  ·simp only [List.mem_singleton];rintro rfl;exact Az.1 ⟨t,Cw⟩
  ·by_cases GH:u=t
   ·have e1:(c.gi w' t O).E u=c.E u+1:=by simp only [Cx.gi,if_pos GH]
    exact⟨by omega,fun h=>by omega⟩
   ·have e1:(c.gi w' t O).E u=c.E u:=by simp only [Cx.gi,if_neg GH]
    have e2:(c.gi w' t O).G u=c.G u:=by simp only [Cx.gi,if_neg GH]
    rw [e1];refine⟨Nat.le_refl _,fun _=>⟨e2,fun q hq Fb=>hm.block q Fb ?_⟩⟩;simp only [List.mem_singleton];rintro rfl;exact h.gw.ct t u (Ne.symm GH) q BC (by simp [GI.own,hq])
 have DQ: ∀u,Ba hp [(t,e1)] u=if u=t then some e1 else hp u:=fun u=>rfl;refine h.change (fun u=>u=t) BU ⟨hm.os.trans h.base.os,hm.tape.trans h.base.tape,hm.output.trans h.base.output,Nat.le_trans h.base.size hm.size,h.base.pins,fun q hq Ij=> ?_,h.base.pk,h.base.lo⟩
  (fun u hu=>⟨by rw [DQ,if_neg hu],by rw [hG,if_neg hu],by simp [Cx.gi,hu],fun g hg=>hg⟩) (fun u hu q hq=>hm.block q (h.gw.inb u q (by simp [GI.own,hq])) ?_) (fun u hu=> ?_) ⟨fun u=> ?_,fun u v iG q hq gS=>h.gw.ct u v iG q (BP u q hq) (BP v q gS),fun u q hq=>h.gw.allow u q (BP u q hq),fun u q hq=> ?_⟩ h.b8 (fun u f hf=> ?_)
 ·refine(hm.block q (Nat.lt_of_lt_of_le hq h.base.size) ?_).trans (h.base.block q hq Ij);simp only [List.mem_singleton];rintro rfl;rcases h.gw.allow t q BC with hh|hh
  ·exact absurd hh (Nat.not_le.2 hq)
  ·exact Ij hh
 ·simp only [List.mem_singleton];rintro rfl;exact h.gw.ct t u (Ne.symm hu) q BC (by simp [GI.own,hq])
 ·subst hu;rw [DQ,if_pos rfl];refine⟨fun e' hr=> ?_,fun hn=> ?_⟩
  ·cases e1<;>first
    |(simp only [Cs]at hr;subst hr;exact he BU)
    |exact absurd rfl (Bl _ _)
  ·cases e1<;>first
    |exact absurd rfl (Bl _ _)
    |exact absurd rfl (hn _)
 ·rw [hG];split
  ·rename_i hu;subst hu;have h0:=h.gw.nodup u;simp only [GI.own]at h0 ⊢;rcases hO with rfl|rfl
   ·rw [List.append_nil];exact(List.nodup_append.1 h0).1
   ·exact h0
  ·exact h.gw.nodup u
 ·show q<w'.heap.size;rw [B7];exact h.gw.inb u q (BP u q hq)
 ·rw [DQ]at hf;split at hf
  ·rename_i hu;subst hu;cases hh:hp u with
   |none=>rw [hh]at AS;exact AS.elim
   |some e9=>exact h.cw u e9 hh
  ·exact h.cw u f hf
theorem R2 {α:Type} (L vs:List α) (p m:Nat) (h:p+vs.length≤m) (hm:m≤L.length):(setVs L p vs).take m=setVs (L.take m) p vs:=by
 apply List.ext_getElem?;intro j;have hl:(L.take m).length=m:=by rw [List.length_take];omega
 rw [List.getElem?_take,R7 (L.take m) vs p (by omega) j,R7 L vs p (by omega) j,List.getElem?_take];by_cases h1:p≤j∧j<p+vs.length
 ·rw [if_pos (by omega),if_pos h1,if_pos h1]
 ·rw [if_neg h1,if_neg h1]
theorem Rd.setVs {w:World} {L V:List Value} {X Y:List AV} {N f:List Nat} {p:Nat} (h:Rd w L X N) (k:Rd w V Y f) (hp:p+V.length≤L.length):
  ∃n1 n2 n3,N=n1++n2++n3∧Rd w (Go.Proofs.YtfdfahjmonlbiaaGreatDoor.setVs L p V) (Go.Proofs.YtfdfahjmonlbiaaGreatDoor.setVs X p Y) (n1++f++n3)∧Rd w ((L.drop p).take V.length) ((X.drop p).take V.length) n2:=by
 have hl:=h.len;have hk:=k.len;have e1:L=L.take p++((L.drop p).take V.length++L.drop (p+V.length)):=by rw [←List.drop_drop,List.take_append_drop,List.take_append_drop]
 have e2:X=X.take p++((X.drop p).take V.length++X.drop (p+V.length)):=by rw [←List.drop_drop,List.take_append_drop,List.take_append_drop]
 have h':=h;rw [e1,e2]at h';obtain⟨n1,m,rfl,g1,g2⟩:=Rd.ff (by simp;omega) h';obtain⟨n2,n3,rfl,g3,g4⟩:=Rd.ff (by simp;omega) g2;refine⟨n1,n2,n3,by simp, ?_,g3⟩;unfold Go.Proofs.YtfdfahjmonlbiaaGreatDoor.setVs;rw [←hk];exact(g1.app k).app g4
theorem bN {sz:Nat}: ∀(ys:List AV) (k:Nat) (z y:AV) (o:Nat) (vc:List AV),(∀y∈ys,y.cells.length=sz)→ys[k]?=some y→o+vc.length≤sz→z.cells=setVs y.cells o vc→AP (ys.set k z)=setVs (AP ys) (k*sz+o) vc
 | [],k,z,y,o,vc,_,h,_,_=>by simp at h
 |q::ys,0,z,y,o,vc,hs,h,ho,hz=>by simp at h;subst h;have hq:=hs q (by simp);simp only [AP,List.set_cons_zero,List.flatMap_cons,Nat.zero_mul,Nat.zero_add,hz];unfold setVs;rw [List.take_append_of_le_length (by omega),List.drop_append_of_le_length (by omega)];simp
 |q::ys,k+1,z,y,o,vc,hs,h,ho,hz=>by
  have hq:=hs q (by simp);have ih:=bN ys k z y o vc (fun u hu=>hs u (by simp [hu])) (by simpa using h) ho hz;simp only [AP,List.set_cons_succ,List.flatMap_cons]at ih ⊢;rw [ih];unfold setVs;have e0:(k+1)*sz+o=q.cells.length+(k*sz+o):=by rw [hq,Nat.add_mul];omega
  rw [e0,List.take_length_add_append,Nat.add_assoc (q.cells.length),List.drop_length_add_append];simp
theorem pT {y x:AV} {k:Nat} {g:Bool} (hx:(∀cs,x≠ .agg cs)∨g=true) (hy:g=false→y.cells.length=1∧k=0∧x.cells= [x]):(y.dd k x g).cells=setVs y.cells k x.cells:=by
 cases g with
 |true=>simp [AV.dd,AV.cells,setVs]
 |false=>obtain⟨h1,h2,h3⟩:=hy rfl;subst h2;simp only [AV.dd,h3,setVs];rw [if_neg (by simp)];rw [h3];simp only [List.take_zero,List.nil_append,Ap,List.length_nil,Nat.zero_add];rw [List.drop_eq_nil_of_le (by omega)];simp
theorem zxc (h:Br P c n nx sl hp a sl0 hp0 o gs) {t:TypeId} {x y:Operand} (ho:o.op= .store t x y) {b g:Nat} {ix:E} {sz k:Nat} {s:SV} (BK: ∃e z g c d,Dp hp0 gs b=some (.row e z g c d)) (hx:BN sl0 gs x=some (.cx b g ix sz k)) (hy:BN sl0 gs y=some s)
  (he:Nu P hp0 gs t (.cx b g ix sz k) s=some e) (hc: ∀q∈e.bt,Cn.den c.ρ q):AB P o c n nx sl hp gs a e:=by
 have r1:=h.c6 hx (by simp [ho,Op.operands]);have r2:=h.c6 hy (by simp [ho,Op.operands]);simp only [Nu]at he;split at he
 ·rename_i el sz' g' c0 d hl;split at he
  ·rename_i hh;obtain⟨rfl,rfl,rfl,Bn,hle,FC,D8⟩:=hh;split at he
   ·rename_i xe fz dx ck Cf;split at he
    ·cases he
    rename_i E9;simp only [Ah]at he;subst he;have E9: ∀f,(b,f)∉fz:=fun f hf=>E9 (by simp only [List.contains_eq_mem,decide_eq_true_eq];exact List.mem_map.2 ⟨_,hf,rfl⟩);obtain⟨f,q1,q2,⟨ts,q3⟩,q5⟩:=zsE h.rel h.hp h.gs r2 Cf (fun q hq=>hc q (by simp [hq]));obtain⟨q3,q4⟩:=q3;have AS:=L0 h.hp (CV hl h.gs);have Dl:=h.rel.freeze h.hp h.gs q3;have MB:Cs (c.bu (fz.map (·.1))).ρ (Ba hp fz b) (.row el sz g c0 d):=by rw [LJ E9];exact AS
    obtain⟨e1,e2,N,e3,e4,e5,e6⟩:=Dl.ents b _ MB;obtain⟨o1,o2,o3,o4⟩:=qL (P:=P) q1 D8 q5;generalize hv:a.eval x=v at r1;cases r1 with
    |cx k1 k2 k3 k4 k5 _=>
     rename_i m len cap kk kv k6;obtain⟨xs,p1,p2,p3,pcase⟩:=e3;have p1':c0.den c.ρ= .sl xs:=p1;rcases pcase with⟨_,⟨_,pv⟩,_⟩|⟨g9,cap9,C,pv,p4,p5,p6,p7,p8,p9,p10⟩
     ·exfalso;have:c.H b g=_:=pv;rw [k2]at this;cases this;omega
     ·have pv':c.H b g= .slice (some ⟨g9,0,none⟩) xs.length cap9:=pv;rw [k2]at pv';simp only [Value.slice.injEq,Ah,Addr.mk.injEq,and_true]at pv';obtain⟨rfl,rfl,rfl⟩:=pv';have GC:kv.toNat<xs.length:=by omega
      have Gi:=NC GC;generalize Hn:(AV.sl xs).nth kv.toNat=yk at Gi;have FJ:=p2 yk (List.mem_of_getElem? Gi);have Ef:(a.eval y).cells.toList.length=P.cellsOf t:=by simpa using o4
      have hmul:(kv.toNat+1)*sz≤xs.length*sz:=Nat.mul_le_mul_right _ (by omega);have DY:C.toList.length=cap*sz:=by simpa using p7
      have Gc:xs.length*sz≤cap*sz:=Nat.mul_le_mul_right _ p4;rw [Nat.add_mul]at hmul;have p6':c.w.heap[m]?=some (.cells C el (0,0)):=p6;obtain⟨m1,m2,m3⟩:=Zr (vs:=(a.eval y).cells.toList) p6' (show(kv.toNat*sz+k)+_≤C.size by rw [Ef,p7];omega);have Of:(C.toList.take (xs.length*sz)).length=xs.length*sz:=by rw [List.length_take,DY];omega
      obtain⟨n1,n2,n3,hN,s1,s2⟩:=Rd.setVs (p:=kv.toNat*sz+k) p10 o1 (by rw [Of,Ef];omega);have FG: ∀z,z<c.w.heap.size→(c.bu (fz.map (·.1))).ok z→(C7 c.w m (kv.toNat*sz+k) (a.eval y).cells.toList).heap[z]?=c.w.heap[z]?:=by intro z hz Az;refine m1.block z hz ?_;simp only [List.mem_singleton];rintro rfl;exact Az.1 ⟨b,by rw [p8];simp⟩
      have BB:(d&&dx)=true→n2= []∧f= []:=by
       intro EU;have hcf:Cn.den c.ρ (.flat (.fld (.idx c0 ix) k (P.cellsOf t) (Aq P t)) (P.cellsOf t) (Aq P t)):=hc _ (by simp [EU]);obtain⟨f1,f2,f3,f4⟩:=hcf;simp only [Ae]at EU;refine⟨?_,q2 EU.2⟩;have Oq:((AP xs).drop (kv.toNat*sz+k)).take (a.eval y).cells.toList.length=(yk.cells.drop k).take (P.cellsOf t):=by rw [Ef];exact V0 xs p2 _ _ Gi k (P.cellsOf t) hle
       rw [Oq]at s2;have B5:(E.fld (.idx c0 ix) k (P.cellsOf t) (Aq P t)).den c.ρ=yk.fld k (P.cellsOf t) (Aq P t):=by simp only [E.den,p1',k3,AV.idx,Hn]
       rw [B5]at f2;refine H3 s2 ?_;cases hg:Aq P t with
       |true=>rw [hg]at f2;simpa [AV.fld,AV.cells]using f2
       |false=>
        have h1:P.cellsOf t=1:=by rcases D8 with h'|h';rw [hg]at h';cases h';exact h'
        rw [B5]at f4;have f4:=f4 hg;rw [hg]at f4;have An:k<yk.cells.length:=by omega
        rw [h1,List.drop_eq_getElem_cons An,List.take_succ_cons,List.take_zero];simp only [List.mem_singleton,forall_eq];simpa [AV.fld,An]using f4
      have hz:(yk.dd k (xe.den c.ρ) (Aq P el)).cells=setVs yk.cells k (xe.den c.ρ).cells:=by
       refine pT ?_ (fun hg=> ?_)
       ·cases hg:Aq P el with
        |true=>exact .inr rfl
        |false=>
         left;rcases FC with h'|⟨_,h'⟩
         ·rw [hg]at h';cases h'
         ·have h':Aq P t=false:=by simpa using h'
          rw [h']at q5;exact fun cs=>(q5.1 cs)
       ·rcases FC with h'|⟨h1,h'⟩
        ·rw [hg]at h';cases h'
        ·have h':Aq P t=false:=by simpa using h'
         rw [h']at q5;have NX:P.cellsOf t=1:=by rcases D8 with h2|h2;rw [h']at h2;cases h2;exact h2
         refine⟨by omega,by omega, ?_⟩;cases iM:xe.den c.ρ<;>first|rfl|exact absurd iM (q5.1 _)
      have Ez:AP (xs.set kv.toNat (yk.dd k (xe.den c.ρ) (Aq P el)))=setVs (AP xs) (kv.toNat*sz+k) (xe.den c.ρ).cells:=
       bN xs _ _ yk k _ p2 Gi (by rw [o3];exact hle) hz
      have DN:=Dl.ki (t:=b) (b:=m) (w':=C7 c.w m (kv.toNat*sz+k) (a.eval y).cells.toList) (O:=if(d&&dx)=true then((c.bu (fz.map (·.1))).G b).O else []) MB (by rw [p8];simp) (by split;exact .inr rfl;exact .inl rfl) m1 m3
       (.row el sz g (.set c0 ix (.put (.idx c0 ix) k xe (Aq P el))) (d&&dx)) (by intros;simp) (fun GD=>by
        have F5: ∀z∈n1++f++n3,(c.bu (fz.map (·.1))).ok z:=by
         intro z hz;simp only [Ai]at hz;rcases hz with(hz|hz)|hz
         ·exact e4 z (by rw [hN];simp [hz])
         ·exact q4 z hz
         ·exact e4 z (by rw [hN];simp [hz])
        have Ta: ∀z∈n1++f++n3,z<c.w.heap.size:=s1.inb;refine⟨e1,e2,n1++f++n3,⟨xs.set kv.toNat (yk.dd k (xe.den c.ρ) (Aq P el)), ?_,fun z iS=> ?_,p3, .inr ⟨m,cap,_, ?_,by simpa using p4,p5,m2, ?_, ?_, ?_, ?_⟩⟩,fun z hz=>GD.ok z (Ta z hz) (F5 z hz),fun EU=> ?_,fun EU=> ?_⟩
        ·show AV.cz (c0.den c.ρ) (ix.den c.ρ) (((c0.den c.ρ).idx (ix.den c.ρ)).dd k (xe.den c.ρ) (Aq P el))=_;rw [p1',k3];simp only [AV.idx,Hn,AV.cz]
        ·rcases List.mem_or_eq_of_mem_set iS with iS|rfl
         ·exact p2 z iS
         ·rw [hz,R4 _ _ _ (by rw [o3,FJ];exact hle)];exact FJ
        ·rw [List.length_set];exact k2
        ·rw [List.size_toArray,R4 _ _ _ (by rw [Ef,DY];omega),Array.length_toList];exact p7
        ·simpa [Cx.gi]using p8
        ·simp only [List.length_set,List.toList_toArray];rw [R2 _ _ _ _ (by rw [Ef];omega) (by rw [DY];omega)];intro u hu;unfold setVs at hu;simp only [Ai]at hu;rcases hu with(hu|hu)|hu
         ·exact p9 u (List.mem_of_mem_take hu)
         ·exact o2 u hu
         ·exact p9 u (List.mem_of_mem_drop hu)
        ·simp only [List.length_set,List.toList_toArray];rw [R2 _ _ _ _ (by rw [Ef];omega) (by rw [DY];omega),Ez];exact s1.frame fun z hz=>FG z (Ta z hz) (F5 z hz)
        ·obtain⟨z1,z2⟩:=BB EU;have hd:d=true:=by simp only [Ae]at EU;exact EU.1
         obtain⟨u1,u2⟩:=e5 hd;have WU:n1++f++n3=N:=by rw [hN,z1,z2]
         rw [WU];refine⟨u1.frame fun z hz=>FG z (p10.inb z hz) (e4 z hz), ?_⟩;simp only [Cx.gi,if_true,EU];exact u2
        ·simp [Cx.gi,EU])
      intro next Q hk
      unfold Oper.wp;have hr:(execOp a.eval o).run P c.w= .ok .skip (C7 c.w m (kv.toNat*sz+k) (a.eval y).cells.toList):=by have:=oX (P:=P) (t:=t) (v:=a.eval y) (off:=kv.toNat*sz+k) p6' Bn o4 (by rw [o4,p7];omega) o2;simp [execOp,ho,hv,this]
      rw [hr,Oper.upon_skip];refine hk _ ((c.bu (fz.map (·.1))).gi (C7 c.w m (kv.toNat*sz+k) (a.eval y).cells.toList) b (if(d&&dx)=true then((c.bu (fz.map (·.1))).G b).O else [])) ⟨rfl,rfl,rfl,rfl,fun t ht=> .inl ht⟩ ?_;have:=DN.put (v:=Go.undef) ((SR.undef .nil).mkGd []) o.dst;rw [Pr];exact this
   ·cases he
  ·cases he
 all_goals (rename_i hl;obtain⟨_,_,_,_,_,Bu⟩:=BK;first|(rw [Bu]at hl;cases hl;done)|exact absurd Bu (hl _ _ _ _ _)|cases he)
end
def KO (a:Act) (o:Oper):Bool:=match o.op with| .binOp _ _ x _ _=>(match a.eval x with| .slice none _ _=>true|_=>false)|_=>false
section
variable (P:Program) (sg:BT) (Rt:Nat→List AV→AV→Prop)
def OL:Prop:= ∀(c:Cx) (n nx:Nat) (sl:Nat→SV) (hp:Nat→Option Aj) (a:Act) (sl0:Nat→SV) (hp0:Nat→Option Aj) (o:Oper) (gs:Gd) (e:A5) (nv:Nat),Br P c n nx sl hp a sl0 hp0 o gs→ ¬c.U (nx+999)→L8 P sg sl0 hp0 nv nx gs o=some e→
 (∀q∈e.bt,q.den c.ρ)→(∀cl,e.call=some cl→ ∃r,c.ρ[nv]?=some r∧ID Rt cl.fn ((EL.of cl.args).den c.ρ) c.ρ r)→(∀x,e.cd=some x→c.ρ[nv]?=some (.bool (KO a o)))→AB P o c n nx sl hp gs a e
def Ue:Prop:= ∀(c:Cx) (n nx:Nat) (sl:Nat→SV) (hp:Nat→Option Aj) (a:Act) (sl0:Nat→SV) (hp0:Nat→Option Aj) (o:Oper) (gs:Gd) (e:A5) (nv:Nat) (x:E),Br P c n nx sl hp a sl0 hp0 o gs→L8 P sg sl0 hp0 nv nx gs o=some e→e.cd=some x→KO a o=true→x.den c.ρ= .sl []
end
theorem zvK {hp:Nat→Option Aj} (l:List (Nat × Aj)) (t:Nat):(Ba hp l t=hp t∧ ∀e,(t,e)∉l)∨ ∃e,(t,e)∈l∧Ba hp l t=some e:=by
 induction l generalizing hp with
 |nil=>exact .inl ⟨rfl,by simp⟩
 |cons p l ih=>
  obtain⟨u,f⟩:=p;rcases ih (hp:=fun v=>if v=u then some f else hp v)with⟨h1,h2⟩|⟨e,h1,h2⟩
  ·by_cases ht:t=u
   ·subst ht;refine .inr ⟨f,by simp, ?_⟩;have:Ba hp ((t,f)::l) t=Ba (fun v=>if v=t then some f else hp v) l t:=rfl;rw [this,h1];simp
   ·refine .inl ⟨?_,fun e he=> ?_⟩
    ·have:Ba hp ((u,f)::l) t=Ba (fun v=>if v=u then some f else hp v) l t:=rfl;rw [this,h1,if_neg ht]
    ·rcases Ag.1 he with he|he
     ·cases he;exact ht rfl
     ·exact h2 e he
  ·exact .inr ⟨e,by simp [h1],h2⟩
section
variable {P:Program} {sg:BT} {Rt:Nat→List AV→AV→Prop} {c:Cx} {n nx:Nat} {sl:Nat→SV} {hp:Nat→Option Aj} {a:Act} {ops:Array Oper} {o:Oper} {gs:Gd} {e:A5}
theorem Rel.skip (h:Rel c n sl hp a) (hg: ¬Bg c.ρ gs) {l:List (Nat × Aj)} (hl: ∀t x,(t,x)∈l→nx≤t∧t<nx+BH∧ ∃hs y,x= .gd hs y∧Mb gs hs=true) (A2: ∀t,nx≤t→t<nx+BH→ ¬c.U t) (s:SV) (d:Option Nat):
  Rel {c with U:=fun t=>c.U t∨(nx≤t∧t<nx+BH)} n (CF n sl d (mkGd gs s)) (Ba hp l) (a.put d undef):=by
 have hs:SR {c with U:=fun t=>c.U t∨(nx≤t∧t<nx+BH)} [mkGd gs s] [undef]:=by
  cases gs with
  |nil=>exact absurd (E0 _) hg
  |cons g gs=>exact .gd (fun hh=>absurd hh hg) (fun _=>rfl) .nil
 refine Rel.put ?_ hs d;refine h.change (fun t=> ∃x,(t,x)∈l) ⟨rfl,rfl,fun _ _ hb=>hb,fun _ _ _=>rfl,fun _ _ hk=>⟨hk,rfl⟩,fun _ _ _=>⟨Nat.le_refl _,fun _=>⟨rfl,fun _ _ _=>rfl⟩⟩⟩ ⟨h.base.os,h.base.tape,h.base.output,h.base.size,fun t v hp=>⟨.inl (h.base.pins t v hp).1,(h.base.pins t v hp).2⟩,h.base.block,h.base.pk,h.base.lo⟩ (fun t ht=> ?_) (fun _ _ _ _=>rfl) (fun t ht=> ?_) ⟨h.gw.nodup,h.gw.ct,h.gw.allow,h.gw.inb⟩ (fun t g hk=> .inl (h.b8 t g hk)) (fun t x hx=> ?_)
 ·exact⟨LJ fun x hx=>ht ⟨x,hx⟩,rfl,rfl,fun g hk=>hk⟩
 ·obtain⟨x,hx⟩:=ht;rcases zvK (hp:=hp) l t with⟨_,h2⟩|⟨x',h1,h2⟩
  ·exact absurd hx (h2 x)
  ·obtain⟨q1,q2,hs,y,rfl,BP⟩:=hl t x' h1;have Dk: ∀e',¬Cs c.ρ (Ba hp l t) e':=by
    rw [h2];exact fun e' hr=>hg (cL BP hr.1)
   refine⟨fun e' hr=>absurd hr (Dk e'),fun _=>h.off t fun e' hr=> ?_⟩;cases hh:hp t with
   |none=>rw [hh]at hr;exact hr.elim
   |some e9=>exact A2 t q1 q2 (h.cw t e9 hh)
 ·rcases zvK (hp:=hp) l t with⟨h1,_⟩|⟨x',h1,_⟩
  ·rw [h1]at hx;exact .inl (h.cw t x hx)
  ·obtain⟨q1,q2,_⟩:=hl t x' h1;exact .inr ⟨q1,q2⟩
def WL (ρ:List AV) (ops:Array Oper) (o:Oper) (a:Act):Option Gd→Prop
 |none=>Region.wanted o (yielded ops a.tmps)=false
 |some gs=>(Bg ρ gs→Region.wanted o (yielded ops a.tmps)=true)∧(¬Bg ρ gs→Region.wanted o (yielded ops a.tmps)=false)
theorem qZ {σ:St} {r:Option Gd} (hg:Pq σ ops o=some r) (hs: ∀j want d,o.guard=some (j,want)→(ops[j]?).bind (·.dst)=some d→SR c [BD σ d] [a.tmps.getD d undef]):WL c.ρ ops o a r:=by
 unfold Pq at hg;cases Hd:o.guard with
 |none=>rw [Hd]at hg;simp only [Ah]at hg;subst hg;exact⟨fun _=>by simp [Region.wanted,Hd],fun hn=>absurd (E0 _) hn⟩
 |some jw=>
  obtain⟨j,want⟩:=jw;rw [Hd]at hg;simp only at hg;cases hd:(ops[j]?).bind (·.dst)with
  |none=>rw [hd]at hg;simp only [Ah]at hg;subst hg;simp [WL,Region.wanted,Hd,yielded,hd]
  |some d=>
   rw [hd]at hg;simp only at hg;have hr:=hs j want d Hd hd;have hw: ∀v,a.tmps.getD d undef=v→Region.wanted o (yielded ops a.tmps)=(match v with| .bool b=>b==want|_=>false):=by
    intro v hv;simp only [Region.wanted,Hd,yielded,hd,Aa];rw [Array.getD_eq_getD_getElem?]at hv;cases hq:a.tmps[d]? with
    |none=>rw [hq]at hv;simp at hv;subst hv;simp [undef]
    |some u=>rw [hq]at hv;simp at hv;subst hv;cases u<;>simp
   generalize a.tmps.getD d undef=v at hr hw;have hw:=hw v rfl;have Lg:v=undef→Region.wanted o (yielded ops a.tmps)=false:=by rintro rfl;rw [hw];simp [undef]
   have HM: ∀x f,Rd c.w [v] [x] f→(x= .bool want→Region.wanted o (yielded ops a.tmps)=true)∧(x≠ .bool want→Region.wanted o (yielded ops a.tmps)=false):=by
    intro x f hx;refine⟨fun h=> ?_,fun h=> ?_⟩
    ·rw [hw,IA hx h];simp
    ·rw [hw];cases v<;>simp only;rename_i b;cases hx with
     |bool _=>simpa using fun hh=>h (by rw [hh])
   split at hg
   ·rename_i b CL;rw [CL]at hr;cases hr with
    |e h1 _ _=>
     simp only [Ah]at hg;subst hg;obtain⟨q1,q2⟩:=HM _ _ h1;simp only [E.den,AV.bool.injEq]at q1 q2;split
     ·rename_i hb;simp only [beq_iff_eq]at hb;exact⟨fun _=>q1 hb,fun hn=>absurd (E0 _) hn⟩
     ·rename_i hb;simp only [beq_iff_eq]at hb;exact q2 (by simpa using hb)
   ·rename_i x _ CL;rw [CL]at hr;cases hr with
    |e h1 _ _=>simp only [Ah]at hg;subst hg;obtain⟨q1,q2⟩:=HM _ _ h1;exact⟨fun hh=>q1 (hh (x,want) (by simp)),fun hn=>q2 fun hh=>hn (by intro g hg;simp at hg;subst hg;exact hh)⟩
   ·rename_i Bb s CL;rw [CL]at hr;cases hr with
    |gd h1 h2 _=>
     split at hg
     ·rename_i hf;simp only [Ah]at hg;subst hg;refine Lg (h2 fun hk=> ?_);simp only [xF,List.any_eq_true]at hf;obtain⟨g,hg,fD⟩:=hf;have:=hk g hg;split at fD
      ·rename_i b hb;rw [hb]at this;simp only [E.den,AV.bool.injEq]at this;simp [this]at fD
      ·cases fD
     ·split at hg
      ·rename_i b;simp only [Ah]at hg;subst hg;by_cases hk:Bg c.ρ Bb
       ·have h1:=h1 hk;cases h1 with
        |e h1 _ _=>
         obtain⟨q1,q2⟩:=HM _ _ h1;simp only [E.den,AV.bool.injEq]at q1 q2;split
         ·rename_i hb;simp only [beq_iff_eq]at hb;exact⟨fun _=>q1 hb,fun hn=>absurd hk hn⟩
         ·rename_i hb;simp only [beq_iff_eq]at hb;exact q2 (by simpa using hb)
       ·split
        ·exact⟨fun hh=>absurd hh hk,fun _=>Lg (h2 hk)⟩
        ·exact Lg (h2 hk)
      ·rename_i x _;simp only [Ah]at hg;subst hg;by_cases hk:Bg c.ρ Bb
       ·have h1:=h1 hk;cases h1 with
        |e h1 _ _=>obtain⟨q1,q2⟩:=HM _ _ h1;exact⟨fun hh=>q1 (hh (x,want) (by simp)),fun hn=>q2 fun hh=>hn (by intro g hg;rcases Ag.1 hg with rfl|hg;exact hh;exact hk g hg)⟩
       ·exact⟨fun hh=>absurd (fun g hg=>hh g (by simp [hg])) hk,fun _=>Lg (h2 hk)⟩
      ·cases hg
   ·cases hg
theorem xN (AT:OL P sg Rt) {Q:Exit→Act→World→Prop} {K:Act→World→Prop} {i nv:Nat} (hi:ops[i]?=some o) (Ar:Rel c n sl hp a) {sl0:Nat→SV} {hp0:Nat→Option Aj} (El:WL c.ρ ops o a (some gs))
  (CL: ∀t,Operand.tmp t∈o.op.operands→sl0 t=sl t) (hhp: ∀t e,hp0 t=some e→hp t=some e) (A2: ∀t,nx≤t→t<nx+BH→ ¬c.U t)
  (he:L8 P sg sl0 hp0 nv nx gs o=some e) (Bj:gs≠ []→ ∀t x,(t,x)∈e.bq→nx≤t∧t<nx+BH∧ ∃hs y,x= .gd hs y∧Mb gs hs=true)
  (hc:Bg c.ρ gs→ ∀q∈e.bt,q.den c.ρ) (Bd: ∀cl,e.call=some cl→ ∃r,c.ρ[nv]?=some r∧(Bg c.ρ gs→ID Rt cl.fn ((EL.of cl.args).den c.ρ) c.ρ r)) (CK: ∀x,e.cd=some x→Bg c.ρ gs→c.ρ[nv]?=some (.bool (KO a o)))
  (hK: ∀a' c',MQ c c' nx→Rel c' n (CF n sl o.dst (mkGd gs e.val)) (Ba hp e.bq) a'→K a' c'.w):wpOp P ops Q i K a c.w:=by
 unfold wpOp;simp only [hi];by_cases hg:Bg c.ρ gs
 ·rw [if_pos (El.1 hg)];exact .inl (AT c n nx sl hp a sl0 hp0 o gs e nv ⟨Ar,hg,CL,hhp,fun t h1 h2=>A2 t h1 (by simp only [BH];omega)⟩ (A2 _ (by omega) (by simp [BH])) he (hc hg) (fun cl AH=>by obtain⟨r,h1,h2⟩:=Bd cl AH;exact⟨r,h1,h2 hg⟩) (fun x hx=>CK x hx hg) _ _ hK)
 ·rw [if_neg (by rw [El.2 hg];simp)];have Bl:gs≠ []:=by rintro rfl;exact hg (E0 _)
  exact hK _ {c with U:=fun t=>c.U t∨(nx≤t∧t<nx+BH)} ⟨rfl,rfl,rfl,rfl,fun t ht=>ht⟩ (Ar.skip hg (Bj Bl) A2 e.val o.dst)
end
def Cx.ext (c:Cx) (τ:List AV):Cx:={c with ρ:=c.ρ++τ}
theorem den_app {ρ τ:List AV} {x:E} (h:x.sc ρ.length=true):x.den (ρ++τ)=x.den ρ:=by have:=E.az ρ τ [] x h;rw [List.append_nil]at this;exact this
theorem zEM {ρ τ:List AV} {x:EL} (h:x.sc ρ.length=true):x.den (ρ++τ)=x.den ρ:=by have:=EL.az ρ τ [] x h;rw [List.append_nil]at this;exact this
theorem LN {ρ τ:List AV} {gs:Gd} (h:Ur ρ.length gs=true):Bg (ρ++τ) gs↔Bg ρ gs:=by simp only [Ur,AR]at h;exact⟨fun k g hg=>by rw [←den_app (τ:=τ) (h g hg)];exact k g hg,fun k g hg=>by rw [den_app (h g hg)];exact k g hg⟩
theorem Bz.gx {n:Nat}: ∀{cs:Bz},cs.sc n=true→ ∀s∈cs.toList,s.sc n=true
 | .nil,_,s,h=>by simp [Bz.toList]at h
 | .cons s cs,h,u,hu=>by
  simp only [Bz.sc,Ae]at h;simp only [Bz.toList,Ag]at hu;rcases hu with rfl|hu
  ·exact h.1
  ·exact Bz.gx h.2 u hu
section
variable {c:Cx} {n:Nat} {sl:Nat→SV} {hp:Nat→Option Aj} {a:Act} {τ:List AV}
theorem IG.ext {t g:Nat} {p:NN} {v:Value} (hs:(match p with|some q=>q.1.sc c.ρ.length|none=>true)=true) (h:IG c t g p v):IG (c.ext τ) t g p v:=by
 cases p with
 |none=>exact trivial
 |some p=>obtain⟨i,z,o⟩:=p;obtain⟨b,n,cap,C,ty,fz,kk,k,h1,h2,h3,h4,h5⟩:=h;exact⟨b,n,cap,C,ty,fz,kk,k,h1,h2,h3,by show i.den (c.ρ++τ)=_;rw [den_app hs];exact h4,h5⟩
theorem SR.ext {ss:List SV} {vs:List Value} (h:SR c ss vs):(∀s∈ss,s.sc c.ρ.length=true)→SR (c.ext τ) ss vs:=by
 have tl: ∀{s:SV} {ss:List SV},(∀x∈s::ss,x.sc c.ρ.length=true)→ ∀x∈ss,x.sc c.ρ.length=true:=fun h x hx=>h x (by simp [hx]);have hd: ∀{s:SV} {ss:List SV},(∀x∈s::ss,x.sc c.ρ.length=true)→s.sc c.ρ.length=true:=fun h=>h _ (by simp);have hρ:(c.ext τ).ρ=c.ρ++τ:=rfl
 induction h with
 |nil=>exact fun _=> .nil
 |undef _ ih=>exact fun hs=> .undef (ih (tl hs))
 |e h1 h2 _ ih=>exact fun hs=> .e (by rw [hρ,den_app (hd hs)];exact h1) h2 (ih (tl hs))
 |cf _ ih=>exact fun hs=> .cf (ih (tl hs))
 |emp _ ih=>exact fun hs=> .emp (ih (tl hs))
 |own h1 h2 _ ih=>exact fun hs=> .own h1 h2 (ih (tl hs))
 |cm h1 h2 _ ih=>exact fun hs=> .cm h1 h2 (ih (tl hs))
 |cx h1 h2 h3 h4 h5 _ ih=>exact fun hs=> .cx h1 h2 (by rw [hρ,den_app (hd hs)];exact h3) h4 h5 (ih (tl hs))
 |dn h1 h2 h3 h4 h5 h6 _ ih=>intro hs;have:=hd hs;simp only [SV.sc,Ae]at this;exact .dn (by rw [hρ,den_app this.1];exact h1) h2 (by rw [hρ,den_app this.2];exact h3) h4 h5 (by rw [hρ,den_app this.1];exact h6) (ih (tl hs))
 |dj h1 h2 _ ih=>exact fun hs=> .dj (by rw [hρ,den_app (hd hs)];exact h1) h2 (ih (tl hs))
 |agg h9 _ _ ih1 ih2=>exact fun hs=> .agg h9 (ih1 (Bz.gx (hd hs))) (ih2 (tl hs))
 |tup _ _ ih1 ih2=>exact fun hs=> .tup (ih1 (Bz.gx (hd hs))) (ih2 (tl hs))
 |fn _ _ ih1 ih2=>exact fun hs=> .fn (ih1 (Bz.gx (hd hs))) (ih2 (tl hs))
 |gd _ h2 _ ih1 ih2=>intro hs;have:=hd hs;simp only [SV.sc,Ae]at this;exact .gd (fun hg=>ih1 ((LN this.1).1 hg) (by simpa using this.2)) (fun hg=>h2 fun k=>hg ((LN this.1).2 k)) (ih2 (tl hs))
 | @via t g n p x v ss vs h1 h2 h3 _ ih=>intro hs;have:=hd hs;simp only [SV.sc,Ae]at this;refine .via h1 h2 (fun he=> ?_) (ih (tl hs));obtain⟨q1,q2⟩:=h3 he;exact⟨by rw [hρ,den_app this.2];exact q1,IG.ext (τ:=τ) this.1 q2⟩
 | @vptr t g n p x i sz o v ss vs h1 h2 h3 _ ih=>intro hs;have:=hd hs;simp only [SV.sc,Ae]at this;refine .vptr h1 h2 (fun he=> ?_) (ih (tl hs));obtain⟨b,off,len,cap,kk,k,q1,q2,q3,q4,q5,q6,q7⟩:=h3 he;exact⟨b,off,len,cap,kk,k,by rw [hρ,den_app this.1.2];exact q1,IG.ext (τ:=τ) this.1.1 q2,by rw [hρ,den_app this.2];exact q3,q4,q5,by rw [hρ,den_app this.1.2];exact q6,q7⟩
 |wown h1 h2 h3 h4 h5 h6 _ ih=>exact fun hs=> .wown h1 h2 (by rw [hρ,den_app (hd hs)];exact h3) h4 h5 h6 (ih (tl hs))
 | @lent i _ _ _ h1 _ ih=>exact fun hs=> .lent (by rw [hρ,den_app (x:= .var i) (by simpa [SV.sc,E.sc]using hd hs)];exact h1) (ih (tl hs))
theorem Dh.ext {t:Nat} {e:Aj} (h:Dh c t e) (hs:e.sc c.ρ.length=true):Dh (c.ext τ) t e:=by
 have hρ:(c.ext τ).ρ=c.ρ++τ:=rfl;cases e with
 |box ty g cs=>obtain⟨b,C,h1,h2,h3,h4,h5,h6,h7⟩:=h;exact⟨b,C,h1,h2,h3,h4,h5,h6,h7.ext (by simpa [Aj.sc]using hs)⟩
 |row ety sz g x d=>obtain⟨h1,h2,N,h3,h4,h5⟩:=h;exact⟨h1,h2,N,by rw [hρ,den_app hs];exact h3,h4,h5⟩
 |bu g x=>obtain⟨h1,⟨f,h2,h3⟩,h4⟩:=h;exact⟨h1,⟨f,by rw [hρ,den_app hs];exact h2,h3⟩,h4⟩
 |gd gs e=>exact h
 |dead=>exact h
 |deep e z l g ep x=>obtain⟨h1,h2,h3,h4,h5⟩:=h;exact⟨h1,h2,h3,by rw [hρ,den_app hs];exact h4,h5⟩
 |hol e z l g ep x i o u=>simp only [Aj.sc,Ae]at hs;obtain⟨h1,h2,h3,h4,h5⟩:=h;exact⟨h1,h2,h3,by rw [hρ,den_app hs.1,den_app hs.2];exact h4,h5⟩
theorem zHq {ρ:List AV} {e0 e:Aj} (hs:e0.sc ρ.length=true):Cs (ρ++τ) (some e0) e↔Cs ρ (some e0) e:=by
 cases e0 with
 |gd gs x=>simp only [Aj.sc,Ae]at hs;simp only [Cs];rw [LN hs.1]
 |_=>simp [Cs]
theorem Rel.ext (h:Rel c n sl hp a) (h1: ∀i,(sl i).sc c.ρ.length=true) (h2: ∀t e,hp t=some e→e.sc c.ρ.length=true) (τ:List AV):Rel (c.ext τ) n sl hp a:=by
 have key: ∀t e,Cs (c.ρ++τ) (hp t) e↔Cs c.ρ (hp t) e:=by
  intro t e;cases hh:hp t with
  |none=>exact Iff.rfl
  |some e0=>exact zHq (h2 t e0 hh)
 refine⟨h.defers,h.size,⟨h.base.os,h.base.tape,h.base.output,h.base.size,h.base.pins,h.base.block,h.base.pk,h.base.lo⟩,fun i=>(h.c8 i).ext (by simpa using h1 i),fun t e hr=> ?_,fun t hn=>h.off t fun e hr=>hn e ((key t e).2 hr),⟨h.gw.nodup,h.gw.ct,h.gw.allow,h.gw.inb⟩,h.b8,h.cw⟩;have CT:=(key t e).1 hr;have he:=h.ents t e CT;cases hh:hp t with
 |none=>rw [hh]at CT;exact CT.elim
 |some e0=>
  have Fc:=h2 t e0 hh;rw [hh]at CT;cases e0 with
  |gd gs x=>
   obtain⟨_,rfl⟩:=CT;simp only [Aj.sc,Ae]at Fc;cases x with
   |gd=>exact he
   |dead=>exact he
   |box=>exact he.ext (by simpa [Aj.sc]using Fc.2)
   |row=>exact he.ext (by simpa [Aj.sc]using Fc.2)
   |bu=>exact he.ext (by simpa [Aj.sc]using Fc.2)
   |deep=>exact he.ext (by simpa [Aj.sc]using Fc.2)
   |hol=>exact he.ext (by simpa [Aj.sc]using Fc.2)
  |_=>simp only [Cs]at CT;subst CT;exact he.ext Fc
theorem St.mc {σ:St} (h:σ.sc=true) (i:Nat):(BD σ i).sc σ.nv=true:=by
 simp only [St.sc,Ae,AR]at h;unfold BD;cases hi:σ.sl[i]? with
 |none=>simp [SV.sc]
 |some s=>exact h.1 s (List.mem_of_getElem? hi)
theorem St.lz {σ:St} (h:σ.sc=true) (t:Nat) (e:Aj) (he:AG σ.hp t=some e):e.sc σ.nv=true:=by simp only [St.sc,Ae,AR]at h;exact h.2 _ (I0 he)
theorem Cn.kd {ρ τ:List AV} {q:Cn} (h:q.sc ρ.length=true):q.den (ρ++τ)↔q.den ρ:=by
 cases q<;>simp only [Cn.sc,Ae]at h<;>simp only [Cn.den]
 case dfd=>rw [den_app h]
 case agg=>rw [den_app h]
 case cells=>rw [den_app h]
 case inb=>rw [den_app h.1,den_app h.2]
 case inbS=>rw [den_app h.1,den_app h.2]
 case win=>rw [den_app h.1.1,den_app h.1.2,den_app h.2]
 case winS=>rw [den_app h.1.1,den_app h.1.2,den_app h.2]
 case room=>rw [den_app h.1,den_app h.2]
 case roomS=>rw [den_app h.1,den_app h.2]
 case mkroom=>rw [den_app h]
 case nz=>rw [den_app h]
 case nn=>rw [den_app h]
 case isref=>rw [den_app h]
 case issl=>rw [den_app h]
 case flat=>rw [den_app h]
 case flatS=>rw [den_app h]
 case kinds=>rw [den_app h]
theorem sQ:SR c [HB] [Go.undef]:= .gd (fun hg=>by have:=hg (.bool false,true) (by simp);simp [E.den]at this) (fun _=>rfl) .nil
theorem zyM {ρ:List AV} {x:E} {b:Bool} {hs:Gd} (hx:x.den ρ= .bool b) (h:PN (x, !b) hs=true): ¬Bg ρ hs:=by intro k;have:=vX h k;simp only at this;rw [hx]at this;simp at this
theorem pC {ρ:List AV} {x:E} {b:Bool} {hs:Gd} (hx:x.den ρ= .bool b):Bg ρ (hs.filter fun h=> !(h.1.beq x&&h.2==b))↔Bg ρ hs:=by
 refine⟨fun k g hg=> ?_,fun k g hg=>k g (List.mem_filter.1 hg).1⟩;by_cases hh:(g.1.beq x&&g.2==b)=true
 ·simp only [Ae,beq_iff_eq]at hh;rw [E.aw ρ _ _ hh.1,hx,hh.2]
 ·exact k g (List.mem_filter.2 ⟨hg,by rw [Bool.not_eq_true]at hh;rw [hh];rfl⟩)
theorem SR.ko {s:SV} {v:Value} {gs:Gd} (h1:Bg c.ρ gs→SR c [s] [v]) (h2: ¬Bg c.ρ gs→v=Go.undef):SR c [Go.Proofs.YtfdfahjmonlbiaaGreatDoor.mkGd gs s] [v]:=by
 cases gs with
 |nil=>exact h1 (E0 _)
 |cons g gs=>exact .gd h1 h2 .nil
theorem SR.gn {x:E} {b:Bool} (hx:x.den c.ρ= .bool b) {s:SV} {v:Value} (h:SR c [s] [v]):SR c [assumeS x b s] [v]:=by
 cases s with
 |gd hs s=>
  simp only [Go.Proofs.YtfdfahjmonlbiaaGreatDoor.assumeS];cases h with
  |gd h1 h2 _=>
   split
   ·rename_i hm;rw [h2 (zyM hx hm)];exact sQ
   ·exact SR.ko (fun k=>h1 ((pC hx).1 k)) (fun k=>h2 fun k'=>k ((pC hx).2 k'))
 |_=>exact h
theorem zDr (f:Aj→Aj) (l:List (Nat × Aj)) (t:Nat):AG (l.map fun(t,e)=>(t,f e)) t=(AG l t).map f:=by
 induction l with
 |nil=>rfl
 |cons p l ih=>
  obtain⟨u,e⟩:=p;simp only [List.map_cons,AG];split
  ·rfl
  ·exact ih
theorem Rel.gn {x:E} {b:Bool} (hx:x.den c.ρ= .bool b) (h:Rel c n sl hp a):Rel c n (fun i=>assumeS x b (sl i)) (fun t=>(hp t).map (assumeE x b)) a:=by
 have Mx: ∀t,(∀e,Cs c.ρ (hp t) e→ ∃gs y,e= .gd gs y∨e= .dead)→(c.G t).top= []∧(c.G t).O= []:=by
  intro t ht;by_cases hh: ∃e,Cs c.ρ (hp t) e
  ·obtain⟨e,he⟩:=hh;obtain⟨gs,y,rfl|rfl⟩:=ht e he
   ·exact h.ents t _ he
   ·exact h.ents t _ he
  ·exact h.off t fun e he=>hh ⟨e,he⟩
 have cases': ∀t,((∀e,Cs c.ρ ((hp t).map (assumeE x b)) e↔Cs c.ρ (hp t) e))∨((hp t).map (assumeE x b)=some .dead∧(c.G t).top= []∧(c.G t).O= []):=by
  intro t;cases hh:hp t with
  |none=>exact .inl fun e=>Iff.rfl
  |some e0=>
   cases e0 with
   |gd hs y=>
    by_cases hm:PN (x, !b) hs=true
    ·refine .inr ⟨by simp [Go.Proofs.YtfdfahjmonlbiaaGreatDoor.assumeE,hm],Mx t fun e he=> ?_⟩;rw [hh]at he;exact absurd he.1 (zyM hx hm)
    ·by_cases hy: ∃gs z,y= .gd gs z
     ·obtain⟨gs,z,rfl⟩:=hy;refine .inr ⟨by simp [Go.Proofs.YtfdfahjmonlbiaaGreatDoor.assumeE,hm],Mx t fun e he=> ?_⟩;rw [hh]at he;exact⟨gs,z, .inl he.2.symm⟩
     ·refine .inl fun e=> ?_;have he:assumeE x b (.gd hs y)=CP (hs.filter fun h=> !(h.1.beq x&&h.2==b)) y:=by
       simp only [Go.Proofs.YtfdfahjmonlbiaaGreatDoor.assumeE,hm,AM,if_false];cases y<;>first|rfl|exact absurd ⟨_,_,rfl⟩ hy
      simp only [Option.map_some,he];show _↔Bg c.ρ hs∧y=e;rw [←pC hx];generalize (hs.filter fun h=> !(h.1.beq x&&h.2==b))=fs;cases fs with
      |nil=>simp only [CP,E0,true_and];cases y<;>first|exact absurd ⟨_,_,rfl⟩ hy|exact Iff.rfl
      |cons g fs=>exact Iff.rfl
   |_=>exact .inl fun e=>Iff.rfl
 refine⟨h.defers,h.size,h.base,fun i=>(h.c8 i).gn hx,fun t e hr=> ?_,fun t hn=> ?_,h.gw,h.b8,fun t e he=> ?_⟩
 ·rcases cases' t with hc|⟨hc,h1,h2⟩
  ·exact h.ents t e ((hc e).1 hr)
  ·rw [hc]at hr;have:Aj.dead=e:=hr;subst this;exact⟨h1,h2⟩
 ·rcases cases' t with hc|⟨hc,h1,h2⟩
  ·exact h.off t fun e he=>hn e ((hc e).2 he)
  ·exact⟨h1,h2⟩
 ·cases hh:hp t with
  |none=>rw [hh]at he;cases he
  |some e0=>exact h.cw t e0 hh
end
theorem pU {σ:St} {d:Option Nat} {s:SV}:BD (H4 σ d s)=CF σ.sl.length (BD σ) d s:=by
 funext i;cases d with
 |none=>simp [H4,CF]
 |some d=>
  simp only [H4,BD,CF,Ah,List.getElem?_set];by_cases h:d=i
  ·subst h;by_cases h2:d<σ.sl.length
   ·simp [h2]
   ·simp [h2,List.getElem?_eq_none (Nat.le_of_not_lt h2)]
  ·simp [h]
theorem oZ {σ:St} {d:Option Nat} {s:SV}:(H4 σ d s).sl.length=σ.sl.length:=by cases d<;>simp [H4]
theorem pN {σ:St} {d:Option Nat} {s:SV}:(H4 σ d s).hp=σ.hp:=by cases d<;>rfl
theorem pH {σ:St} {d:Option Nat} {s:SV}:(H4 σ d s).nv=σ.nv:=by cases d<;>rfl
theorem zD7 (l:List (Nat × Aj)) (t:Nat) (e:Aj) (u:Nat):AG (Mc l t e) u=if u=t then some e else AG l u:=by
 induction l with
 |nil=>
  simp only [Mc,AG];by_cases h:t=u
  ·simp [h]
  ·rw [if_neg h,if_neg (Ne.symm h)]
 |cons p l ih=>
  obtain⟨v,f⟩:=p;simp only [Mc];split
  ·rename_i hv;subst hv;simp only [AG];by_cases h:v=u
   ·simp [h]
   ·rw [if_neg h,if_neg (Ne.symm h),if_neg h]
  ·rename_i hv;simp only [AG];by_cases h:v=u
   ·subst h;rw [if_pos rfl,if_neg hv,if_pos rfl]
   ·rw [if_neg h,ih,if_neg h]
theorem zvG: ∀(ents:List (Nat × Aj)) (l:List (Nat × Aj)),AG (ents.foldl (fun l (p:Nat × Aj)=>Mc l p.1 p.2) l)=Ba (AG l) ents
 | [],l=>rfl
 |(t,e)::ents,l=>by
  simp only [List.foldl_cons];rw [zvG ents];have:AG (Mc l t e)=fun u=>if u=t then some e else AG l u:=by funext u;exact zD7 l t e u
  rw [this];rfl
section
variable {P:Program} {sg:BT} {Rt:Nat→List AV→AV→Prop} {ops:Array Oper}
theorem vY {σ:St} {gs:Gd} {o:Oper} {e:A5}:BD (LQ σ gs o e)=CF σ.sl.length (BD σ) o.dst (mkGd gs e.val):=by rw [←pU];rfl
theorem wC {σ:St} {gs:Gd} {o:Oper} {e:A5}:AG (LQ σ gs o e).hp=Ba (AG σ.hp) e.bq:=by
 have:(LQ σ gs o e).hp=e.bq.foldl (fun l (p:Nat × Aj)=>Mc l p.1 p.2) σ.hp:=by show e.bq.foldl (fun l (p:Nat × Aj)=>Mc l p.1 p.2) (H4 σ o.dst (mkGd gs e.val)).hp=_;rw [pN]
 rw [this,zvG]
theorem zyT {σ:St} {gs:Gd} {o:Oper} {e:A5}:(LQ σ gs o e).sl.length=σ.sl.length:=by show(H4 σ o.dst (mkGd gs e.val)).sl.length=_;rw [oZ]
theorem sH {σ:St} {gs:Gd} {o:Oper} {e:A5}:(LQ σ gs o e).nv=if e.call.isSome||e.cd.isSome then σ.nv+1 else σ.nv:=by show(if e.call.isSome||e.cd.isSome then(H4 σ o.dst (mkGd gs e.val)).nv+1 else(H4 σ o.dst (mkGd gs e.val)).nv)=_;rw [pH]
theorem rK {R:AV→Prop} {gs:Gd} {k:Tr} {L:LK} {js:List JK} {ρ:List AV}: ∀{cs:List Cn},(cs.foldr (fun c k=> .bt gs c k) k:Tr).den Rt R L js ρ→(Bg ρ gs→ ∀q∈cs,q.den ρ)∧k.den Rt R L js ρ
 | [],h=>⟨by simp,h⟩
 |c::cs,h=>by
  obtain⟨h1,h2⟩:=h;obtain⟨h3,h4⟩:=rK h2;refine⟨fun hg q hq=> ?_,h4⟩;rcases Ag.1 hq with rfl|hq
  ·exact h1 hg
  ·exact h3 hg q hq
theorem vG {l:List (Nat × Aj)} {R:List Nat} {t:Nat} {e:Aj} (h:Qn l R t=some e):AG l t=some e:=by
 unfold Qn at h;split at h
 ·exact h
 ·cases h
theorem zv7 {f:Nat ⊕ E} {as_:EL} {ρ τ:List AV} {r:AV} (h1:(match f with| .inl _=>true| .inr x=>x.sc ρ.length)=true) (h2:as_.sc ρ.length=true):ID Rt f (as_.den (ρ++τ)) (ρ++τ) r↔ID Rt f (as_.den ρ) ρ r:=by
 rw [zEM h2];cases f with
 |inl f=>exact Iff.rfl
 |inr x=>simp only [ID];rw [den_app h1]
theorem EL.kr {n:Nat}: ∀{l:List E},l.all (E.sc n)=true→(EL.of l).sc n=true
 | [],_=>rfl
 |x::l,h=>by simp only [List.all_cons,Ae]at h;simp only [EL.of,EL.sc,Ae];exact⟨h.1,EL.kr h.2⟩
structure Jm (F:Fix) (c:Cx) (σ:St) (a:Act) (n m:Nat):Prop where
 w0:c.w0=F.w0
 A:c.A=F.A
 Mu:c.Mu=F.Mu
 nv:c.ρ.length=σ.nv
 len:σ.sl.length=n
 U: ∀t,c.U t→t<m
 rel:Rel c n (BD σ) (AG σ.hp) a
theorem Jm.ext {F:Fix} {c:Cx} {σ:St} {a:Act} {n m:Nat} (h:Jm F c σ a n m) (hs:σ.sc=true) (τ:List AV):Rel (c.ext τ) n (BD σ) (AG σ.hp) a:=
 h.rel.ext (fun i=>by rw [h.nv];exact St.mc hs i) (fun t e he=>by rw [h.nv];exact St.lz hs t e he) τ
theorem zJR (AT:OL P sg Rt) (Gh:Ue P sg) {F:Fix} {c:Cx} {σ:St} {a:Act} {n i base:Nat} {o:Oper} {gs:Gd} {e:A5} {k:Tr} {R:AV→Prop} {L:LK} {js:List JK} {Q:Exit→Act→World→Prop} {K:Act→World→Prop}
  (hi:ops[i]?=some o) (hm:Jm F c σ a n (base+BH*i)) (El:WL c.ρ ops o a (some gs)) {Rs:List Nat} (he:L8 P sg (BD σ) (Qn σ.hp Rs) σ.nv (base+BH*i) gs o=some e) (Fc:Qj σ.nv (base+BH*i) σ.hp gs e=true)
  (TT:(e.call.isSome||e.cd.isSome)=true→σ.sc=true) (hd:(cZ gs e k).den Rt R L js c.ρ)
  (hK: ∀(c':Cx) (a':Act),c.ρ<+:c'.ρ→Jm F c' (LQ σ gs o e) a' n (base+BH*(i+1))→k.den Rt R L js c'.ρ→K a' c'.w):wpOp P ops Q i K a c.w:=by
 simp only [Qj,Ae,AR]at Fc;obtain⟨⟨⟨⟨BI,A4⟩,Gl⟩,uE⟩,gY⟩:=Fc;have Bj:gs≠ []→ ∀t x,(t,x)∈e.bq→base+BH*i≤t∧t<base+BH*i+BH∧ ∃hs y,x= .gd hs y∧Mb gs hs=true:=by
  intro Bl t x hx;have:=gY _ hx;have Tp:gs.isEmpty=false:=by cases gs;exact absurd rfl Bl;rfl
  simp only [Tp,Bool.false_or,Bool.false_and,Bool.or_false,Ae,decide_eq_true_eq]at this;refine⟨this.1.1,this.1.2, ?_⟩;have h3:=this.2;split at h3
  ·exact⟨_,_,rfl,h3⟩
  ·cases h3
 have A2: ∀t,base+BH*i≤t→t<base+BH*i+BH→ ¬c.U t:=fun t h1 _ h3=>by have:=hm.U t h3;omega
 have DA: ∀(τ:List AV),Rel (c.ext τ) n (BD σ) (AG σ.hp) a→τ.length=(if e.call.isSome||e.cd.isSome then 1 else 0)→k.den Rt R L js (c.ρ++τ)→(Bg c.ρ gs→ ∀q∈e.bt,q.den c.ρ)→
   (∀cl,e.call=some cl→ ∃r,τ= [r]∧(Bg c.ρ gs→ID Rt cl.fn ((EL.of cl.args).den c.ρ) c.ρ r))→(∀x,e.cd=some x→τ= [.bool (KO a o)])→wpOp P ops Q i K a c.w:=by
  intro τ Ar hτ hk hc Bd CK;have Gj:σ.nv=c.ρ.length:=hm.nv.symm;rw [Gj]at BI A4 Gl;have Tx: ∀r,τ= [r]→(c.ρ++τ)[σ.nv]?=some r:=by rintro r rfl;rw [Gj];simp
  refine xN (c:=c.ext τ) AT hi Ar ⟨fun hg=>El.1 ((LN BI).1 hg),fun hg=>El.2 fun k=>hg ((LN BI).2 k)⟩ (fun _ _=>rfl) (fun t e h=>vG h) A2 he Bj (fun hg q hq=> ?_) (fun cl AH=> ?_) (fun x hx _=>Tx _ (CK x hx)) (fun a' c' A8 hr=> ?_)
  ·exact(Cn.kd (A4 q hq)).2 (hc ((LN BI).1 hg) q hq)
  ·obtain⟨r,rfl,h2⟩:=Bd cl AH;rw [AH]at Gl;simp only [Ae]at Gl;exact⟨r,Tx r rfl,fun hg=>(zv7 Gl.1 (EL.kr Gl.2)).2 (h2 ((LN BI).1 hg))⟩
  ·have hρ:c'.ρ=c.ρ++τ:=A8.ρ;refine hK c' a' ⟨τ,hρ.symm⟩ ⟨A8.w0.trans hm.w0,A8.A.trans hm.A,A8.Mu.trans hm.Mu, ?_,by rw [zyT];exact hm.len,fun t ht=> ?_, ?_⟩ (by rw [hρ];exact hk)
   ·rw [hρ,sH,As,hτ,Gj];split<;>rfl
   ·have hmul:base+BH*(i+1)=base+BH*i+BH:=by rw [Nat.mul_add];omega
    rw [hmul];rcases A8.U t ht with h|h
    ·have:=hm.U t h;omega
    ·exact h.2
   ·rw [vY,wC,hm.len];exact hr
 unfold cZ at hd;obtain⟨hc,hd⟩:=rK hd;cases AH:e.call with
 |none=>
  simp only [AH]at hd;cases CK:e.cd with
  |none=>simp only [CK]at hd;refine DA [] (by have:=hm.rel;simpa [Cx.ext]using this) (by simp [AH,CK]) (by simpa using hd) hc (fun cl h=>by rw [AH]at h;cases h) (fun x h=>by rw [CK]at h;cases h)
  |some x=>simp only [CK]at hd;have Gm:=TT (by simp [CK]);refine DA [.bool (KO a o)] (hm.ext Gm _) (by simp [CK]) (hd _ fun hg hb=> ?_) hc (fun cl h=>by rw [AH]at h;cases h) (fun x h=>rfl);exact Gh c n _ _ _ a _ _ o gs e _ x ⟨hm.rel,hg,fun _ _=>rfl,fun t e h=>vG h,fun t h1 h2=>A2 t h1 (Nat.lt_of_lt_of_le h2 (Nat.add_le_add_left (by decide) _))⟩ he CK hb
 |some cl=>
  simp only [AH]at hd;cases CK:e.cd with
  |some x=>rw [CK]at uE;simp [AH]at uE
  |none=>simp only [CK]at hd;obtain⟨r,h1,h2⟩:=hd;have Gm:=TT (by simp [AH]);refine DA [r] (hm.ext Gm _) (by simp [AH]) h2 hc (fun cl' h=>by rw [AH]at h;cases h;exact⟨r,rfl,h1⟩) (fun x h=>by rw [CK]at h;cases h)
theorem zD9 {σ:St} {x:E} {b:Bool} {d:Nat}:BD (assume x b d σ)=CF σ.sl.length (fun i=>assumeS x b (BD σ i)) (some d) (.e (.bool b)):=by
 funext i;simp only [assume,BD,CF,Ah,List.getElem?_set,List.length_map,List.getElem?_map];by_cases h:d=i
 ·subst h;by_cases h2:d<σ.sl.length
  ·simp [h2]
  ·simp [h2,List.getElem?_eq_none (Nat.le_of_not_lt h2),assumeS]
 ·simp only [h,false_and,if_false];cases hh:σ.sl[i]?<;>simp [assumeS]
theorem zD3 {σ:St} {x:E} {b:Bool} {d:Nat}:AG (assume x b d σ).hp=fun t=>(AG σ.hp t).map (assumeE x b):=by funext t;exact zDr _ _ _
theorem Jm.assume {F:Fix} {c:Cx} {σ:St} {a:Act} {n m:Nat} (h:Jm F c σ a n m) {x:E} {b:Bool} (hx:x.den c.ρ= .bool b) {d:Nat} (hd:BD σ d= .e x):Jm F c (Go.Proofs.YtfdfahjmonlbiaaGreatDoor.assume x b d σ) a n m:=by
 refine⟨h.w0,h.A,h.Mu,h.nv, ?_,h.U, ?_⟩
 ·simp only [Go.Proofs.YtfdfahjmonlbiaaGreatDoor.assume,List.length_set,List.length_map];exact h.len
 ·rw [zD9,zD3];have hr:=h.rel.gn hx;refine{hr with c8:=fun i=> ?_};unfold CF;split
  ·rename_i hi;obtain⟨hi,_⟩:=hi;cases hi;have:=h.rel.c8 d;rw [hd]at this;generalize a.tmps.getD d Go.undef=v at this;cases this with
   |e h1 h2 _=>exact .e (f:= []) (by rw [hx]at h1;rw [IA h1 rfl];exact .bool .nil) (by simp) .nil
  ·exact hr.c8 i
theorem zD5 (AT:OL P sg Rt) (Gh:Ue P sg) {F:Fix} {base:Nat} {R:AV→Prop} {L:LK} {js:List JK} {Q:Exit→Act→World→Prop} {n:Nat} {next:List Log→St→Option Tr} {i:Nat} {o:Oper} {lg:List Log} {rest:List Nat} (hi:ops[i]?=some o)
  (Cu: ∀(lg:List Log) (σ:St) (t:Tr),next lg σ=some t→ ∀(c:Cx) (a:Act),Jm F c σ a n (base+BH*(i+1))→t.den Rt R L js c.ρ→(∀(c':Cx) (a':Act) (σ':St),c.ρ<+:c'.ρ→L js .normal σ' c'.ρ→GZ F c'.ρ σ' a' c'.w→Q .normal a' c'.w)→wpOps P ops Q rest a c.w):
  ∀(m:Nat) (σ:St) (t:Tr),Uk P sg ops false base next i o lg m σ=some t→
  ∀(c:Cx) (a:Act),Jm F c σ a n (base+BH*i)→t.den Rt R L js c.ρ→(∀(c':Cx) (a':Act) (σ':St),c.ρ<+:c'.ρ→L js .normal σ' c'.ρ→GZ F c'.ρ σ' a' c'.w→Q .normal a' c'.w)→wpOps P ops Q (i::rest) a c.w:=by
 have Om:base+BH*i≤base+BH*(i+1):=by rw [Nat.mul_add];omega
 have try_: ∀(fail:Unit→Option Tr) (σ:St) (t:Tr),Ui P sg ops false base next i o lg fail σ=some t→ ∀(c:Cx) (a:Act),Jm F c σ a n (base+BH*i)→t.den Rt R L js c.ρ→(∀(c':Cx) (a':Act) (σ':St),c.ρ<+:c'.ρ→L js .normal σ' c'.ρ→GZ F c'.ρ σ' a' c'.w→Q .normal a' c'.w)→
   (fail ()=some t→wpOps P ops Q (i::rest) a c.w)→wpOps P ops Q (i::rest) a c.w:=by
  intro fail σ t ht c a hm hd hq Tu;unfold Ui at ht;cases Hd:Pq σ ops o with
  |none=>rw [Hd]at ht;cases ht
  |some r=>
   have El:=qZ (c:=c) (a:=a) Hd (fun j want d _ _=>hm.rel.c8 d);rw [Hd]at ht;cases r with
   |none=>simp only at ht;rw [wpOps_cons];unfold wpOp;simp only [hi];rw [if_neg (by simp [show Region.wanted o (yielded ops a.tmps)=false from El])];refine Cu lg _ t ht c _ ⟨hm.w0,hm.A,hm.Mu,by rw [pH];exact hm.nv,by rw [oZ];exact hm.len,fun t ht=>Nat.lt_of_lt_of_le (hm.U t ht) Om, ?_⟩ hd hq;rw [pU,pN,hm.len];exact hm.rel.put sQ o.dst
   |some gs=>
    simp only at ht;split at ht
    ·rename_i e he;split at ht
     ·cases ht
     ·rename_i AO;split at ht
      ·cases ht
      ·rename_i k hk;simp only [Ah]at ht;subst ht;simp only [Bool.false_and,Bool.false_or,Bool.not_false,Bool.true_and,Bool.or_eq_true,Bool.not_eq_true',Ae,not_or,Bool.not_eq_false]at AO;rw [wpOps_cons];refine zJR AT Gh hi hm El he AO.1 (fun hh=> ?_) hd fun c' a' hp Ga BV=>Cu _ _ k hk c' a' Ga BV fun c'' a'' σ' hp'=>hq c'' a'' σ' (hp.trans hp');have:=AO.2;simp only [Bool.or_eq_true]at hh;simpa [hh]using this
    ·exact Tu ht
 intro m
 induction m with
 |zero=>exact fun σ t ht c a hm hd hq=>try_ _ σ t ht c a hm hd hq fun h=>by cases h
 |succ m ih=>
  intro σ t ht c a hm hd hq;refine try_ _ σ t ht c a hm hd hq fun h=> ?_;split at h
  ·rename_i d _ _;split at h
   ·rename_i x PZ;split at h
    ·rename_i k1 k0 IS K8;simp only [Ah]at h;subst h;obtain⟨tt,h1,h2,h3⟩:=hd;cases tt with
     |true=>exact ih _ k1 IS c a (hm.assume h1 PZ) (h2 rfl) hq
     |false=>exact ih _ k0 K8 c a (hm.assume h1 PZ) (h3 rfl) hq
    ·cases h
   ·cases h
  ·cases h
theorem xB (AT:OL P sg Rt) (Gh:Ue P sg) {F:Fix} {base:Nat} {R:AV→Prop} {L:LK} {js:List JK} {Q:Exit→Act→World→Prop} {n:Nat}: ∀(len i:Nat) (lg:List Log) (σ:St) (t:Tr),i+len=ops.size→Ma P sg ops false base (List.range' i len) lg σ=some t→
  ∀(c:Cx) (a:Act),Jm F c σ a n (base+BH*i)→t.den Rt R L js c.ρ→(∀(c':Cx) (a':Act) (σ':St),c.ρ<+:c'.ρ→L js .normal σ' c'.ρ→GZ F c'.ρ σ' a' c'.w→Q .normal a' c'.w)→wpOps P ops Q (List.range' i len) a c.w
 |0,i,lg,σ,t,hl,ht,c,a,hm,hd,hq=>by
  simp only [List.range'_zero,Ma,Bool.false_and,AM,if_false,Ah]at ht ⊢;subst ht;refine hq c a _ (List.prefix_refl _) hd ⟨c,rfl,rfl,hm.w0,hm.A,hm.Mu,hm.nv,fun t ht=> ?_, ?_⟩
  ·have:=hm.U t ht;have h9:i=ops.size:=by omega
   subst h9;exact this
  ·have:=hm.rel;rw [←hm.len]at this;exact this
 |len+1,i,lg,σ,t,hl,ht,c,a,hm,hd,hq=>by
  rw [List.range'_succ]at ht ⊢;unfold Ma at ht;obtain⟨o,hi⟩: ∃o,ops[i]?=some o:=⟨ops[i]'(by omega),by simp [show i<ops.size by omega]⟩
  rw [hi]at ht;simp only at ht;exact zD5 AT Gh hi (fun lg σ t ht c a=>xB AT Gh (n:=n) len (i+1) lg σ t (by omega) ht c a) 4 σ t ht c a hm hd hq
end
def kA (l:List Oper) (bs:List Nat):Prop:=bs.length=l.length∧ ∀(j:Nat) (o:Oper),l[j]?=some o→ ∀i,((bs[j]?).getD 0).testBit i=true→ ∃e∈o.after.toList,Region.binds .any e=true∧(i=e.on∨(e.on<j∧((bs[e.on]?).getD 0).testBit i=true))
theorem zrs (acc:List Nat) (i:Nat): ∀(es:List Edge) (s:Nat),(es.foldl (fun s e=>if Region.binds .any e then s|||2^e.on|||(acc[e.on]?).getD 0 else s) s).testBit i=true→
  s.testBit i=true∨ ∃e∈es,Region.binds .any e=true∧(i=e.on∨((acc[e.on]?).getD 0).testBit i=true)
 | [],s,h=> .inl h
 |e::es,s,h=>by
  simp only [List.foldl_cons]at h;rcases zrs acc i es _ h with h|⟨e',h1,h2⟩
  ·split at h
   ·rename_i hb;simp only [Nat.testBit_or,Nat.testBit_two_pow,Bool.or_eq_true,decide_eq_true_eq]at h;rcases h with(h|h)|h
    ·exact .inl h
    ·exact .inr ⟨e,by simp,hb, .inl h.symm⟩
    ·exact .inr ⟨e,by simp,hb, .inr h⟩
   ·exact .inl h
  ·exact .inr ⟨e',by simp [h1],h2⟩
theorem zyY: ∀(os pre:List Oper) (acc:List Nat),kA pre acc→kA (pre++os) (Kt os acc)
 | [],pre,acc,h=>by simpa [Kt]using h
 |o::os,pre,acc,h=>by
  obtain⟨hl,hb⟩:=h;have:=zyY os (pre++ [o]) (acc++ [sU acc o]) ⟨by simp [hl],fun j o' ho i hi=> ?_⟩
  ·simpa [Kt]using this
  ·have An: ∀k,k<acc.length→((acc++ [sU acc o])[k]?).getD 0=(acc[k]?).getD 0:=fun k hk=>by rw [List.getElem?_append_left hk]
   by_cases hj:j<pre.length
   ·rw [List.getElem?_append_left hj]at ho;rw [An j (by omega)]at hi;obtain⟨e,h1,h2,h3⟩:=hb j o' ho i hi;exact⟨e,h1,h2,h3.imp id fun h=>⟨h.1,by rw [An _ (by omega)];exact h.2⟩⟩
   ·rw [List.getElem?_append_right (by omega)]at ho;have hj0:j-pre.length=0:=by
     cases hh:j-pre.length with
     |zero=>rfl
     |succ k=>rw [hh]at ho;simp at ho
    rw [hj0]at ho;simp at ho;subst ho;have P1:j=acc.length:=by omega
    rw [P1,List.getElem?_append_right (Nat.le_refl _)]at hi;simp only [Nat.sub_self,List.getElem?_cons_zero,Option.getD_some]at hi;rcases zrs acc i _ 0 hi with h|⟨e,h1,h2,h3⟩
    ·simp at h
    ·refine⟨e,h1,h2,h3.imp id fun h=> ?_⟩;have he:e.on<acc.length:=by
      rcases Nat.lt_or_ge e.on acc.length with hh|hh
      ·exact hh
      ·rw [List.getElem?_eq_none hh]at h;simp at h
     exact⟨by omega,by rw [An _ he];exact h⟩
def WK (ops:Array Oper) (S:Nat→Bool):Prop:= ∀k o,S k=true→ops[k]?=some o→ ∀e∈o.after.toList,Region.binds .any e=true→S e.on=true
theorem zV (ops:Array Oper):kA ops.toList (Kt ops.toList []):=by have:=zyY ops.toList [] [] ⟨rfl,by simp⟩;simpa using this
theorem zvz {ops:Array Oper} {S:Nat→Bool} (hS:WK ops S): ∀(k i:Nat),S k=true→k<ops.size→(((Kt ops.toList [])[k]?).getD 0).testBit i=true→S i=true:=by
 intro k
 induction k using Nat.strongRecOn with
 |_ k ih=>
  intro i hk An hb;have ho:ops.toList[k]?=some ops[k]:=by simp [An]
  obtain⟨e,h1,h2,h3⟩:=(zV ops).2 k _ ho i hb;have JG:=hS k ops[k] hk (by simp [An]) e h1 h2;rcases h3 with rfl|⟨h3,h4⟩
  ·exact JG
  ·exact ih e.on h3 i JG (by omega) h4
theorem zDA {ops:Array Oper} {S:Nat→Bool} (hS:WK ops S) {j i:Nat} {o:Oper} (ho:ops[j]?=some o) (hr: ∀e∈o.after.toList,Region.binds .any e=true→S e.on=true) (hb:(((Kt ops.toList [])[j]?).getD 0).testBit i=true):S i=true:=by
 have An:j<ops.size:=(Array.getElem?_eq_some_iff.1 ho).1;obtain⟨e,h1,h2,h3⟩:=(zV ops).2 j o (by simpa using ho) i hb;have JG:=hr e h1 h2;rcases h3 with rfl|⟨h3,h4⟩
 ·exact JG
 ·exact zvz hS e.on i JG (by omega) h4
theorem zEd {ops:Array Oper} {S:Nat→Bool} (hS:WK ops S) {j i:Nat} {o:Oper} (ho:ops[j]?=some o) (hi:i<ops.size) (hj:S j=false) (hr: ∀e∈o.after.toList,Region.binds .any e=true→S e.on=true) (Bl:i≠j) (Lc:JZ (Kt ops.toList []) i j=true):S i=decide (i<j):=by
 unfold JZ at Lc;split at Lc
 ·rename_i h;rw [zDA hS ho hr Lc];simp [h]
 ·rename_i h;cases hs:S i with
  |false=>simp [h]
  |true=>have:=zvz hS i j hs hi Lc;rw [hj]at this;cases this
structure Rec where
 i:Nat
 o:Oper
 σ:St
 r:Option (Gd × A5)
def Rec.next (x:Rec):St:=match x.r with|none=>H4 x.σ x.o.dst HB|some (gs,e)=>LQ x.σ gs x.o e
def Rec.val (x:Rec):SV:=match x.r with|none=>HB|some (gs,e)=>mkGd gs e.val
def Rec.bq (x:Rec):List (Nat × Aj):=match x.r with|none=> []|some (_,e)=>e.bq
def zO (P:Program) (sg:BT) (Rt:Nat→List AV→AV→Prop) (ops:Array Oper) (base:Nat) (ρ:List AV) (x:Rec):Prop:=
 ops[x.i]?=some x.o∧match x.r with
  |none=>Pq x.σ ops x.o=some none
  |some (gs,e)=>Pq x.σ ops x.o=some (some gs)∧L8 P sg (BD x.σ) (Qn x.σ.hp (Wp x.σ gs x.o)) x.σ.nv (base+BH*x.i) gs x.o=some e∧e.cd=none∧Qj x.σ.nv (base+BH*x.i) x.σ.hp gs e=true∧
   (Bg ρ gs→ ∀q∈e.bt,q.den ρ)∧ ∀cl,e.call=some cl→ ∃r,ρ[x.σ.nv]?=some r∧(Bg ρ gs→ID Rt cl.fn ((EL.of cl.args).den ρ) ρ r)
def D4:Nat→St→List Rec→St→Prop
 |_,σ, [],σ'=>σ=σ'
 |i,σ,x::xs,σ'=>x.i=i∧x.σ=σ∧D4 (i+1) x.next xs σ'
def Rec.log (x:Rec):Option Log:=x.r.map fun(gs,e)=>⟨x.i,Wp x.σ gs x.o,e.bq.map (·.1)⟩
theorem qX {P:Program} {sg:BT} {Rt:Nat→List AV→AV→Prop} {ops:Array Oper} {base:Nat} {R:AV→Prop} {L:LK} {js:List JK}: ∀(len i:Nat) (lg:List Log) (σ:St) (t:Tr) (ρ:List AV),i+len=ops.size→
  Ma P sg ops true base (List.range' i len) lg σ=some t→t.den Rt R L js ρ→ρ.length=σ.nv→
  ∃(τ:List AV) (xs:List Rec) (σ':St) (lg':List Log),D4 i σ xs σ'∧xs.length=len∧(∀x∈xs,zO P sg Rt ops base (ρ++τ) x)∧(ρ++τ).length=σ'.nv∧L js .normal {σ' with nx:=base+BH*ops.size} (ρ++τ)∧XG ops lg'=true∧(∀y∈lg,y∈lg')∧ ∀x∈xs,∀y,x.log=some y→y∈lg'
 |0,i,lg,σ,t,ρ,hl,ht,hd,hn=>by
  simp only [List.range'_zero,Ma,Bool.true_and]at ht;split at ht
  ·cases ht
  ·rename_i W9;simp only [Ah]at ht;subst ht;exact⟨[], [],σ,lg,rfl,rfl,by simp,by simpa using hn,by simpa [Tr.den]using hd,by simpa using W9,fun y hy=>hy,by simp⟩
 |len+1,i,lg,σ,t,ρ,hl,ht,hd,hn=>by
  rw [List.range'_succ]at ht;unfold Ma at ht;obtain⟨o,hi⟩: ∃o,ops[i]?=some o:=⟨ops[i]'(by omega),by simp [show i<ops.size by omega]⟩
  rw [hi]at ht;simp only at ht;unfold Uk Ui at ht;cases Hd:Pq σ ops o with
  |none=>rw [Hd]at ht;cases ht
  |some r=>
   rw [Hd]at ht;cases r with
   |none=>
    simp only at ht;obtain⟨τ,xs,σ',lg',h1,h2,h3,h4,h5,h6,h7,h8⟩:=qX len (i+1) lg _ t ρ (by omega) ht hd (by rw [pH];exact hn);refine⟨τ,⟨i,o,σ,none⟩::xs,σ',lg',⟨rfl,rfl,h1⟩,by simp [h2],fun x hx=> ?_,h4,h5,h6,h7,fun x hx y hy=> ?_⟩
    ·rcases Ag.1 hx with rfl|hx
     ·exact⟨hi,Hd⟩
     ·exact h3 x hx
    ·rcases Ag.1 hx with rfl|hx
     ·simp [Rec.log]at hy
     ·exact h8 x hx y hy
   |some gs=>
    simp only at ht;split at ht
    ·rename_i e he;split at ht
     ·cases ht
     ·rename_i AO;simp only [Bool.true_and,Bool.not_true,Bool.false_and,Bool.or_false,Bool.or_eq_true,Bool.not_eq_true',not_or,Bool.not_eq_false]at AO;have CK:e.cd=none:=by cases hh:e.cd with|none=>rfl|some x=>rw [hh]at AO;simp at AO
      split at ht
      ·cases ht
      ·rename_i k hk;simp only [Ah]at ht;subst ht;have Fc:=AO.2;simp only [Qj,Ae,AR]at Fc;obtain⟨⟨⟨⟨BI,A4⟩,Gl⟩,_⟩,_⟩:=Fc;rw [←hn]at BI A4 Gl;unfold cZ at hd;obtain⟨hc,hd⟩:=rK hd;simp only [CK]at hd;obtain⟨τ0,hτ0,Bd,BV⟩: ∃τ0:List AV,(ρ++τ0).length=(LQ σ gs o e).nv∧(∀cl,e.call=some cl→ ∃r,τ0= [r]∧(Bg ρ gs→ID Rt cl.fn ((EL.of cl.args).den ρ) ρ r))∧k.den Rt R L js (ρ++τ0):=by
        cases AH:e.call with
        |none=>rw [AH]at hd;exact⟨[],by rw [sH];simp [AH,CK,hn],by simp,by simpa using hd⟩
        |some cl=>rw [AH]at hd;obtain⟨r,h1,h2⟩:=hd;exact⟨[r],by rw [sH];simp [AH,hn],fun cl' h=>by cases h;exact⟨r,rfl,h1⟩,h2⟩
       obtain⟨τ,xs,σ',lg',h1,h2,h3,h4,h5,h6,h7,h8⟩:=qX len (i+1) _ _ k (ρ++τ0) (by omega) hk BV hτ0;have eE:ρ++τ0++τ=ρ++(τ0++τ):=List.append_assoc ..;rw [eE]at h3 h4 h5;refine⟨τ0++τ,⟨i,o,σ,some (gs,e)⟩::xs,σ',lg',⟨rfl,rfl,h1⟩,by simp [h2],fun x hx=> ?_,h4,h5,h6,fun y hy=>h7 y (by simp [hy]),fun x hx y hy=> ?_⟩
       ·rcases Ag.1 hx with rfl|hx
        ·refine⟨hi,Hd,he,CK,AO.2,fun hg q hq=>(Cn.kd (A4 q hq)).2 (hc ((LN BI).1 hg) q hq),fun cl AH=> ?_⟩;obtain⟨r,hr,h2⟩:=Bd cl AH;rw [AH]at Gl;simp only [Ae]at Gl;subst hr;exact⟨r,by simp only;rw [←hn];simp,fun hg=>(zv7 Gl.1 (EL.kr (by simpa using Gl.2))).2 (h2 ((LN BI).1 hg))⟩
        ·exact h3 x hx
       ·rcases Ag.1 hx with rfl|hx
        ·simp only [Rec.log,Option.map_some,Ah]at hy;subst hy;exact h7 _ (by simp)
        ·exact h8 x hx y hy
    ·cases ht
def Gn (n:Nat) (sl0:Nat→SV) (xs:List Rec) (S:Nat→Bool):Nat→SV:=xs.foldl (fun sl x=>if S x.i then CF n sl x.o.dst x.val else sl) sl0
def Hg (hp0:Nat→Option Aj) (xs:List Rec) (S:Nat→Bool):Nat→Option Aj:=xs.foldl (fun hp x=>if S x.i then Ba hp x.bq else hp) hp0
section
variable {n:Nat} {S S':Nat→Bool} {d t:Nat}
theorem VY: ∀(xs:List Rec) {sl sl':Nat→SV},sl d=sl' d→(∀x∈xs,x.o.dst=some d→S x.i=S' x.i)→Gn n sl xs S d=Gn n sl' xs S' d
 | [],_,_,h,_=>h
 |x::xs,sl,sl',h,hs=>by
  refine VY xs (sl:=if S x.i then CF n sl x.o.dst x.val else sl) (sl':=if S' x.i then CF n sl' x.o.dst x.val else sl') ?_ fun y hy=>hs y (by simp [hy]);by_cases hd:x.o.dst=some d
  ·rw [←hs x (by simp) hd];split
   ·simp only [CF,hd,true_and];rw [h]
   ·exact h
  ·have hu: ∀sl:Nat→SV,CF n sl x.o.dst x.val d=sl d:=fun sl=>by simp [CF,hd]
   have h1:(if S x.i then CF n sl x.o.dst x.val else sl) d=sl d:=by split;exact hu sl;rfl
   have h2:(if S' x.i then CF n sl' x.o.dst x.val else sl') d=sl' d:=by split;exact hu sl';rfl
   rw [h1,h2,h]
theorem rW (xs:List Rec) {sl:Nat→SV} (hs: ∀x∈xs,x.o.dst=some d→S x.i=false):Gn n sl xs S d=sl d:=by
 have h1:=VY (n:=n) (S:=S) (S':=fun _=>false) xs (sl:=sl) (sl':=sl) (d:=d) rfl hs;rw [h1];clear h1 hs
 induction xs generalizing sl with
 |nil=>rfl
 |cons x xs ih=>exact ih
theorem jN (hd:n≤d): ∀(xs:List Rec) {sl:Nat→SV},Gn n sl xs S d=sl d
 | [],_=>rfl
 |x::xs,sl=>by
  have:=jN hd xs (sl:=if S x.i then CF n sl x.o.dst x.val else sl);refine Eq.trans this ?_;split
  ·simp only [CF];rw [if_neg (by omega)]
  ·rfl
theorem yA {y:Rec} (hd:d<n) (hy:y.o.dst=some d) (hS:S y.i=true): ∀(xs:List Rec) {sl:Nat→SV},y∈xs→(∀x∈xs,x≠y→x.o.dst≠some d)→Gn n sl xs S d=y.val
 | [],_,h,_=>by simp at h
 |x::xs,sl,h,hu=>by
  by_cases hm:y∈xs
  ·exact yA hd hy hS xs (sl:=if S x.i then CF n sl x.o.dst x.val else sl) hm fun z hz=>hu z (by simp [hz])
  ·have hx:y=x:=by rcases Ag.1 h with h|h;exact h;exact absurd h hm
   subst hx;have:=rW (n:=n) (S:=S) (d:=d) xs (sl:=CF n sl y.o.dst y.val) (fun z hz Qa=>absurd Qa (hu z (by simp [hz]) (fun hh=>hm (hh▸hz))));show Gn n (if S y.i then CF n sl y.o.dst y.val else sl) xs S d=_;rw [if_pos hS,this];simp [CF,hy,hd]
theorem zwc {hp hp':Nat→Option Aj} {l:List (Nat × Aj)} (h:hp t=hp' t):Ba hp l t=Ba hp' l t:=by
 induction l generalizing hp hp' with
 |nil=>exact h
 |cons p l ih=>
  refine ih ?_;show(if t=p.1 then some p.2 else hp t)=(if t=p.1 then some p.2 else hp' t)
  rw [h]
theorem zB4 {hp hp':Nat→Option Aj} {l:List (Nat × Aj)} (h:t∈l.map (·.1)):Ba hp l t=Ba hp' l t:=by
 induction l generalizing hp hp' with
 |nil=>simp at h
 |cons p l ih=>
  by_cases hm:t∈l.map (·.1)
  ·exact ih hm
  ·have ht:t=p.1:=by simp only [List.map_cons,Ag]at h;exact h.resolve_right hm
   refine zwc (l:=l) ?_;show(if t=p.1 then some p.2 else hp t)=(if t=p.1 then some p.2 else hp' t)
   rw [if_pos ht,if_pos ht]
theorem rF {hp:Nat→Option Aj} {l:List (Nat × Aj)} (h:t∉l.map (·.1)):Ba hp l t=hp t:=
 LJ fun e he=>h (List.mem_map.2 ⟨_,he,rfl⟩)
theorem V2: ∀(xs:List Rec) {hp hp':Nat→Option Aj},hp t=hp' t→(∀x∈xs,t∈x.bq.map (·.1)→S x.i=S' x.i)→Hg hp xs S t=Hg hp' xs S' t
 | [],_,_,h,_=>h
 |x::xs,hp,hp',h,hs=>by
  refine V2 xs (hp:=if S x.i then Ba hp x.bq else hp) (hp':=if S' x.i then Ba hp' x.bq else hp') ?_ fun y hy=>hs y (by simp [hy]);by_cases hd:t∈x.bq.map (·.1)
  ·rw [←hs x (by simp) hd];split
   ·exact zwc h
   ·exact h
  ·have h1:(if S x.i then Ba hp x.bq else hp) t=hp t:=by split;exact rF hd;rfl
   have h2:(if S' x.i then Ba hp' x.bq else hp') t=hp' t:=by split;exact rF hd;rfl
   rw [h1,h2,h]
theorem rN (xs:List Rec) {hp:Nat→Option Aj} (hs: ∀x∈xs,t∈x.bq.map (·.1)→S x.i=false):Hg hp xs S t=hp t:=by
 have h1:=V2 (S:=S) (S':=fun _=>false) xs (hp:=hp) (hp':=hp) (t:=t) rfl hs;rw [h1];clear h1 hs
 induction xs generalizing hp with
 |nil=>rfl
 |cons x xs ih=>exact ih
end
section
variable {n:Nat} {S:Nat→Bool} {d t:Nat}
theorem Rec.lp (x:Rec):BD x.next=CF x.σ.sl.length (BD x.σ) x.o.dst x.val:=by
 obtain⟨i,o,σ,r⟩:=x;cases r with
 |none=>exact pU
 |some ge=>exact vY
theorem Rec.ld (x:Rec):AG x.next.hp=Ba (AG x.σ.hp) x.bq:=by
 obtain⟨i,o,σ,r⟩:=x;cases r with
 |none=>simp only [Rec.next,Rec.bq,pN];rfl
 |some ge=>exact wC
theorem Rec.km (x:Rec):x.next.sl.length=x.σ.sl.length:=by
 obtain⟨i,o,σ,r⟩:=x;cases r with
 |none=>exact oZ
 |some ge=>exact zyT
theorem D4.range: ∀{xs:List Rec} {i:Nat} {σ σ':St},D4 i σ xs σ'→ ∀x∈xs,i≤x.i∧x.i<i+xs.length
 | [],_,_,_,_,x,hx=>by simp at hx
 |y::xs,i,σ,σ',h,x,hx=>by
  rcases Ag.1 hx with rfl|hx
  ·have:=h.1;simp only [Ap];omega
  ·have:=D4.range h.2.2 x hx;simp only [Ap];omega
theorem D4.ex: ∀{xs:List Rec} {i:Nat} {σ σ':St},D4 i σ xs σ'→ ∀j,i≤j→j<i+xs.length→ ∃x∈xs,x.i=j
 | [],i,_,_,_,j,h1,h2=>by simp at h2;omega
 |y::xs,i,σ,σ',h,j,h1,h2=>by
  by_cases hj:j=i
  ·exact⟨y,by simp,by rw [hj];exact h.1⟩
  ·simp only [Ap]at h2;obtain⟨x,hx,he⟩:=D4.ex h.2.2 j (by omega) (by omega);exact⟨x,by simp [hx],he⟩
theorem D4.inj: ∀{xs:List Rec} {i:Nat} {σ σ':St},D4 i σ xs σ'→ ∀x∈xs,∀y∈xs,x.i=y.i→x=y
 | [],_,_,_,_,x,hx,_,_,_=>by simp at hx
 |z::xs,i,σ,σ',h,x,hx,y,hy,he=>by
  have hz:=h.1;rcases Ag.1 hx with h1|h1<;>rcases Ag.1 hy with h2|h2
  ·rw [h1,h2]
  ·subst h1;have:=(D4.range h.2.2 y h2).1;omega
  ·subst h2;have:=(D4.range h.2.2 x h1).1;omega
  ·exact D4.inj h.2.2 x h1 y h2 he
theorem D4.sl: ∀{xs:List Rec} {i:Nat} {σ σ':St},D4 i σ xs σ'→σ.sl.length=n→(∀x∈xs,x.σ.sl.length=n∧ ∀d,BD x.σ d=Gn n (BD σ) xs (fun k=>decide (k<x.i)) d)∧σ'.sl.length=n∧BD σ'=Gn n (BD σ) xs fun _=>true
 | [],i,σ,σ',h,hn=>by have h:σ=σ':=h;subst h;exact⟨by simp,hn,rfl⟩
 |y::xs,i,σ,σ',h,hn=>by
  obtain⟨h1,h2,h3⟩:=h;subst h2;obtain⟨q1,q2,q3⟩:=D4.sl h3 (by rw [y.km];exact hn);rw [y.lp,hn]at q1 q3;refine⟨fun x hx=> ?_,q2,q3⟩;rcases Ag.1 hx with rfl|hx
  ·refine⟨hn,fun d=>(rW _ fun z hz _=> ?_).symm⟩;rcases Ag.1 hz with rfl|hz
   ·simp
   ·have:=(D4.range h3 z hz).1;simp only [decide_eq_false_iff_not];omega
  ·refine⟨(q1 x hx).1,fun d=> ?_⟩;rw [(q1 x hx).2 d];have:=(D4.range h3 x hx).1;show _=Gn n (if decide (y.i<x.i)then CF n (BD y.σ) y.o.dst y.val else BD y.σ) xs (fun k=>decide (k<x.i)) d;rw [if_pos (by simp only [decide_eq_true_eq];omega)]
theorem D4.hp: ∀{xs:List Rec} {i:Nat} {σ σ':St},D4 i σ xs σ'→(∀x∈xs,∀t,AG x.σ.hp t=Hg (AG σ.hp) xs (fun k=>decide (k<x.i)) t)∧AG σ'.hp=Hg (AG σ.hp) xs fun _=>true
 | [],i,σ,σ',h=>by have h:σ=σ':=h;subst h;exact⟨by simp,rfl⟩
 |y::xs,i,σ,σ',h=>by
  obtain⟨h1,h2,h3⟩:=h;subst h2;obtain⟨q1,q3⟩:=D4.hp h3;rw [y.ld]at q1 q3;refine⟨fun x hx=> ?_,q3⟩;rcases Ag.1 hx with rfl|hx
  ·refine fun d=>(rN _ fun z hz _=> ?_).symm;rcases Ag.1 hz with rfl|hz
   ·simp
   ·have:=(D4.range h3 z hz).1;simp only [decide_eq_false_iff_not];omega
  ·intro t;rw [q1 x hx t];have:=(D4.range h3 x hx).1;show _=Hg (if decide (y.i<x.i)then Ba (AG y.σ.hp) y.bq else AG y.σ.hp) xs (fun k=>decide (k<x.i)) t;rw [if_pos (by simp only [decide_eq_true_eq];omega)]
theorem yZ {y:Rec} {gP:Nat→Option Aj} (hS:S y.i=true) (ht:t∈y.bq.map (·.1)): ∀{xs:List Rec} {i:Nat} {σ σ':St} {hp0:Nat→Option Aj},D4 i σ xs σ'→y∈xs→(∀x∈xs,x.i≠y.i→t∈x.bq.map (·.1)→S x.i=decide (x.i<y.i))→Hg hp0 xs S t=Ba gP y.bq t
 | [],_,_,_,_,_,h,_=>by simp at h
 |x::xs,i,σ,σ',hp0,hc,hm,hs=>by
  by_cases hx:y=x
  ·subst hx;have:=rN (S:=S) (t:=t) xs (hp:=Ba hp0 y.bq) (fun z hz Qa=>by
    have An:=(D4.range hc.2.2 z hz).1;have h1:=hc.1;rw [hs z (by simp [hz]) (by omega) Qa];simp only [decide_eq_false_iff_not];omega)
   show Hg (if S y.i then Ba hp0 y.bq else hp0) xs S t=_;rw [if_pos hS,this];exact zB4 ht
  ·have Ga:y∈xs:=by rcases Ag.1 hm with h|h;exact absurd h hx;exact h
   exact yZ hS ht (hp0:=if S x.i then Ba hp0 x.bq else hp0) hc.2.2 Ga fun z hz=>hs z (by simp [hz])
end
theorem zyh {α:Type} {p p':α→Bool}: ∀(l:List α),(∀k∈l,p' k=true→p k=true)→(∃j∈l,p j=true∧p' j=false)→(l.filter p').length<(l.filter p).length
 | [],_,h=>by obtain⟨j,hj,_⟩:=h;simp at hj
 |x::l,hs,h=>by
  have hle:(l.filter p').length≤(l.filter p).length:=by
   have: ∀(l:List α),(∀k∈l,p' k=true→p k=true)→(l.filter p').length≤(l.filter p).length:=by
    intro l
    induction l with
    |nil=>intro _;simp
    |cons y l ih=>
     intro h;have:=ih fun k hk=>h k (by simp [hk]);have hy:=h y (by simp);cases h1:p' y with
     |false=>
      cases h2:p y with
      |false=>simpa [h1,h2]using this
      |true=>simp only [List.filter_cons,h1,h2,AM,if_false,if_true,Ap];omega
     |true=>simpa [h1,hy h1]using this
   exact this l fun k hk=>hs k (by simp [hk])
  obtain⟨j,hj,h1,h2⟩:=h;rcases Ag.1 hj with rfl|hj
  ·simp only [List.filter_cons,h1,h2,AM,if_false,if_true,Ap];omega
  ·have:=zyh l (fun k hk=>hs k (by simp [hk])) ⟨j,hj,h1,h2⟩;have hx:=hs x (by simp);cases h3:p' x with
   |false=>
    cases h4:p x with
    |false=>simpa [h3,h4]using this
    |true=>simp only [List.filter_cons,h3,h4,AM,if_false,if_true,Ap];omega
   |true=>simpa [h3,hx h3]using this
section
variable {ops:Array Oper} {listed:Array Bool}
theorem zDi (hb: ∀j o,ops[j]?=some o→ ∀e∈o.after.toList,Region.binds .any e=true→e.on<j) (B7:listed.size=ops.size) (hr:Region.ready .any ops listed= []): ∀k,k<ops.size→listed.getD k true=true:=by
 intro k
 induction k using Nat.strongRecOn with
 |_ k ih=>
  intro hk;cases hs:listed.getD k true with
  |true=>rfl
  |false=>
   have:k∈Region.ready .any ops listed:=mem_ready.2 ⟨hs,ops[k],by simp [hk],fun e he K1=>by
    have An:=hb k ops[k] (by simp [hk]) e (by simpa using he) K1;have:=ih e.on An (by omega);have h2:e.on<listed.size:=by omega
    simp only [Array.getD_eq_getD_getElem?,Array.getElem?_eq_getElem h2,Option.getD_some]at this ⊢;exact this⟩
   rw [hr]at this;cases this
theorem zFX (B7:listed.size=ops.size) {j:Nat} (hj:j<ops.size) (k:Nat):(listed.setIfInBounds j true).getD k true=(decide (k=j)||listed.getD k true):=by
 by_cases h:j=k
 ·subst h;simp [Array.getD_eq_getD_getElem?,show j<listed.size by omega]
 ·rw [getD_set_ne true h];simp [Ne.symm h]
variable {P:Program} {sg:BT} {Rt:Nat→List AV→AV→Prop}
theorem zDH (AT:OL P sg Rt) {F:Fix} {σ σ':St} {xs:List Rec} {ρ:List AV} {lg:List Log} {n:Nat} {Q:Exit→Act→World→Prop} (hc:D4 0 σ xs σ') (hlen:xs.length=ops.size) (Az: ∀x∈xs,zO P sg Rt ops σ.nx ρ x) (W9:XG ops lg=true) (TD: ∀x∈xs,∀y,x.log=some y→y∈lg) (hn:σ.sl.length=n)
  (hQ: ∀(c:Cx) (a:Act),c.ρ=ρ→c.w0=F.w0→c.A=F.A→c.Mu=F.Mu→(∀t,c.U t→t<σ.nx+BH*ops.size)→Rel c n (BD σ') (AG σ'.hp) a→Q .normal a c.w):
  ∀(fuel:Nat) (listed:Array Bool) (a:Act) (c:Cx),listed.size=ops.size→WK ops (fun k=>listed.getD k true)→c.ρ=ρ→c.w0=F.w0→c.A=F.A→c.Mu=F.Mu→
   (∀t,c.U t→t<σ.nx∨ ∃k,k<ops.size∧listed.getD k true=true∧σ.nx+BH*k≤t∧t<σ.nx+BH*k+BH)→Rel c n (Gn n (BD σ) xs fun k=>listed.getD k true) (Hg (AG σ.hp) xs fun k=>listed.getD k true) a→
   ((List.range ops.size).filter fun k=> !listed.getD k true).length≤fuel→wpAny P .any ops Q fuel listed a c.w:=by
 simp only [XG,Ae,AR,Bool.or_eq_true,beq_iff_eq,Bool.not_eq_true',decide_eq_true_eq]at W9;obtain⟨⟨d1,d2⟩,d3⟩:=W9;have Oj: ∀j o,ops[j]?=some o→(o,j)∈ops.toList.zipIdx:=fun j o h=>List.mk_mem_zipIdx_iff_getElem?.2 (by simpa using h);have hb: ∀j o,ops[j]?=some o→ ∀e∈o.after.toList,Region.binds .any e=true→e.on<j:=fun j o h e he K1=>by
  rcases d2 (o,j) (Oj j o h) e he with h|h
  ·rw [K1]at h;cases h
  ·exact h
 obtain⟨c1,c2,c3⟩:=hc.sl hn;obtain⟨c4,c5⟩:=hc.hp;have D9: ∀(listed:Array Bool) (a:Act) (c:Cx),listed.size=ops.size→c.ρ=ρ→c.w0=F.w0→c.A=F.A→c.Mu=F.Mu→
   (∀t,c.U t→t<σ.nx∨ ∃k,k<ops.size∧listed.getD k true=true∧σ.nx+BH*k≤t∧t<σ.nx+BH*k+BH)→Rel c n (Gn n (BD σ) xs fun k=>listed.getD k true) (Hg (AG σ.hp) xs fun k=>listed.getD k true) a→
   (∀k,k<ops.size→listed.getD k true=true)→Q .normal a c.w:=by
  intro listed a c B7 h1 h2 h3 h4 h5 h6 Cd;refine hQ c a h1 h2 h3 h4 (fun t ht=> ?_) ?_
  ·rcases h5 t ht with h|⟨k,hk,_,_,h⟩
   ·simp only [BH]at*;omega
   ·simp only [BH]at*;omega
  ·have e1:(Gn n (BD σ) xs fun k=>listed.getD k true)=BD σ':=by
    rw [c3];funext d;exact VY xs rfl fun x hx _=>by have:=(hc.range x hx).2;exact Cd x.i (by omega)
   have e2:(Hg (AG σ.hp) xs fun k=>listed.getD k true)=AG σ'.hp:=by rw [c5];funext d;exact V2 xs rfl fun x hx _=>by have:=(hc.range x hx).2;exact Cd x.i (by omega)
   rw [e1,e2]at h6;exact h6
 intro fuel
 induction fuel with
 |zero=>
  intro listed a c B7 AH h1 h2 h3 h4 h5 h6 Tm;have Cd: ∀k,k<ops.size→listed.getD k true=true:=by intro k hk;have:=List.length_eq_zero_iff.1 (Nat.le_zero.1 Tm);have:=List.filter_eq_nil_iff.1 this k (by simpa using hk);simpa using this
  refine⟨?_,D9 listed a c B7 h1 h2 h3 h4 h5 h6 Cd⟩;refine List.eq_nil_iff_forall_not_mem.2 fun j hj=> ?_;obtain⟨q1,o,q2,_⟩:=mem_ready.1 hj;rw [Cd j (Array.getElem?_eq_some_iff.1 q2).1]at q1;cases q1
 |succ fuel ih=>
  intro listed a c B7 AH h1 h2 h3 h4 h5 h6 Tm;refine⟨fun hr=>D9 listed a c B7 h1 h2 h3 h4 h5 h6 (zDi hb B7 hr),fun j hj=> ?_⟩;obtain⟨q1,o,q2,q3⟩:=mem_ready.1 hj;have fT:j<ops.size:=(Array.getElem?_eq_some_iff.1 q2).1;have Mj: ∀e∈o.after.toList,Region.binds .any e=true→listed.getD e.on true=true:=fun e he K1=>by
   have h9:=q3 e (by simpa using he) K1;have An:=hb j o q2 e he K1;have h8:e.on<listed.size:=by omega
   simp only [Array.getD_eq_getD_getElem?,Array.getElem?_eq_getElem h8,Option.getD_some]at h9 ⊢;exact h9
  obtain⟨y,hy,Fv⟩:=hc.ex j (by omega) (by omega);have OG:y.o=o:=by have:=(Az y hy).1;rw [Fv,q2]at this;exact(Option.some.inj this).symm
  have Xp: ∀x∈xs,x.i<ops.size:=fun x hx=>by have:=(hc.range x hx).2;omega
  have uI: ∀x∈xs,ops[x.i]?=some x.o:=fun x hx=>(Az x hx).1;have agree: ∀x∈xs,x.i≠j→JZ (Kt ops.toList []) x.i j=true→listed.getD x.i true=decide (x.i<j):=fun x hx Bl ho=>zEd (S:=fun k=>listed.getD k true) AH q2 (Xp x hx) q1 Mj Bl ho;have MF: ∀x∈xs,x.i=j→listed.getD x.i true=decide (x.i<j):=fun x hx he=>by rw [he,q1];simp
  have HG: ∀d,d∈XI ops o→BD y.σ d=Gn n (BD σ) xs (fun k=>listed.getD k true) d:=by
   intro d hd;rw [(c1 y hy).2 d,Fv];refine VY xs rfl fun x hx T2=> ?_;by_cases he:x.i=j
   ·exact(MF x hx he).symm
   ·rcases d3 (o,j) (Oj j o q2) (x.o,x.i) (Oj _ _ (uI x hx))with h|h
    ·exact absurd h he
    ·simp only [T2,Ae,Bool.or_eq_true,Bool.not_eq_true']at h;rcases h.2 with h|h
     ·rw [List.contains_iff_mem.2 hd]at h;cases h
     ·exact(agree x hx he h).symm
  have hW: ∀x∈xs,∀t,t∈x.bq.map (·.1)→ ∀ly,y.log=some ly→(t∈ly.R∨t∈ly.W)→listed.getD x.i true=decide (x.i<j):=by
   intro x hx t ht ly TE hm;by_cases he:x.i=j
   ·exact MF x hx he
   ·cases iO:x.r with
    |none=>simp [Rec.bq,iO]at ht
    |some ge=>
     obtain⟨gs,e⟩:=ge;have hlx:x.log=some ⟨x.i,Wp x.σ gs x.o,e.bq.map (·.1)⟩:=by simp [Rec.log,iO]
     have gB:ly.i=j:=by unfold Rec.log at TE;obtain⟨ge',_,rfl⟩:=Av.1 TE;exact Fv
     have h9:=d1 _ (TD x hx _ hlx) _ (TD y hy _ TE);simp only [gB]at h9;rcases h9 with(h|h)|h
     ·exact absurd h he
     ·exfalso;have:kG (e.bq.map (·.1)) (ly.R++ly.W)=true:=by
       simp only [kG,List.any_eq_true];exact⟨t,by simpa [Rec.bq,iO]using ht,List.contains_iff_mem.2 (by simpa using hm)⟩
      rw [this]at h;cases h
     ·exact agree x hx he h
  have Cu: ∀k,(listed.setIfInBounds j true).getD k true=(decide (k=j)||listed.getD k true):=zFX B7 fT;have hY:Gn n (BD σ) xs (fun k=>(listed.setIfInBounds j true).getD k true)=CF n (Gn n (BD σ) xs fun k=>listed.getD k true) o.dst y.val:=by
   funext d;unfold CF;split
   ·rename_i hd;refine yA hd.2 (by rw [OG];exact hd.1) (by rw [Cu,Fv];simp) xs hy fun x hx Bl T2=> ?_;have he:x.i≠j:=fun h=>Bl (hc.inj x hx y hy (by rw [h,Fv]));rcases d3 (o,j) (Oj j o q2) (x.o,x.i) (Oj _ _ (uI x hx))with h|h
    ·exact he h
    ·simp only [T2,Ae,bne_iff_ne,ne_eq]at h;exact h.1 hd.1
   ·rename_i hd;by_cases eU:d<n
    ·refine VY xs rfl fun x hx T2=> ?_;have he:x.i≠j:=fun h=>by
      have:x=y:=hc.inj x hx y hy (by rw [h,Fv]);subst this;exact hd ⟨by rw [←OG];exact T2,eU⟩
     rw [Cu];simp [he]
    ·rw [jN (by omega),jN (by omega)]
  have fJ:Hg (AG σ.hp) xs (fun k=>(listed.setIfInBounds j true).getD k true)=Ba (Hg (AG σ.hp) xs fun k=>listed.getD k true) y.bq:=by
   funext t;by_cases ht:t∈y.bq.map (·.1)
   ·refine yZ (by rw [Cu,Fv];simp) ht hc hy fun x hx Bl iP=> ?_;rw [Fv]at Bl ⊢;rw [Cu];simp only [Bl,decide_false,Bool.false_or];cases JW:y.r with
    |none=>simp [Rec.bq,JW]at ht
    |some ge=>exact hW x hx t iP _ (by simp only [Rec.log,JW,Option.map_some];rfl) (.inr (by simpa [Rec.bq,JW]using ht))
   ·rw [rF ht];refine V2 xs rfl fun x hx iP=> ?_;have he:x.i≠j:=fun h=>by
     have:x=y:=hc.inj x hx y hy (by rw [h,Fv]);subst this;exact ht iP
    rw [Cu];simp [he]
  have Tn:((List.range ops.size).filter fun k=> !(listed.setIfInBounds j true).getD k true).length≤fuel:=by have:=zyh (p:=fun k=> !listed.getD k true) (p':=fun k=> !(listed.setIfInBounds j true).getD k true) (List.range ops.size) (fun k _ hk=>by rw [Cu]at hk;simp at hk ⊢;exact hk.2) ⟨j,by simpa using fT,by simp [q1],by rw [Cu];simp⟩;omega
  have eL:WK ops (fun k=>(listed.setIfInBounds j true).getD k true):=by
   intro k ok hk fV e he K1;simp only [Cu,Bool.or_eq_true,decide_eq_true_eq]at hk ⊢;rcases hk with rfl|hk
   ·rw [q2]at fV;cases fV;exact .inr (Mj e he K1)
   ·exact .inr (AH k ok hk fV e he K1)
  have Mm: ∀(a':Act) (c':Cx),c'.ρ=ρ→c'.w0=F.w0→c'.A=F.A→c'.Mu=F.Mu→(∀t,c'.U t→c.U t∨(σ.nx+BH*j≤t∧t<σ.nx+BH*j+BH))→Rel c' n (CF n (Gn n (BD σ) xs fun k=>listed.getD k true) o.dst y.val) (Ba (Hg (AG σ.hp) xs fun k=>listed.getD k true) y.bq) a'→
    wpAny P .any ops Q fuel (listed.setIfInBounds j true) a' c'.w:=by
   intro a' c' g1 g2 g3 g4 g5 g6;refine ih _ a' c' (by simpa using B7) eL g1 g2 g3 g4 (fun t ht=> ?_) (by rw [hY,fJ];exact g6) Tn;rcases g5 t ht with h|h
   ·rcases h5 t h with h|⟨k,k1,k2,k3,k4⟩
    ·exact .inl h
    ·exact .inr ⟨k,k1,by rw [Cu,k2];simp,k3,k4⟩
   ·exact .inr ⟨j,fT,by rw [Cu];simp,h.1,h.2⟩
  have Ii: ∀j' want d,o.guard=some (j',want)→(ops[j']?).bind (·.dst)=some d→SR c [BD y.σ d] [a.tmps.getD d Go.undef]:=by intro j' want d hg hd;rw [HG d (by simp only [XI,hg,Ai];exact .inr (by simp [hd]))];exact h6.c8 d
  obtain⟨_,Da⟩:=Az y hy;cases JW:y.r with
  |none=>
   rw [JW]at Da;have El:=qZ (c:=c) (a:=a) Da (fun j' want d hg hd=>Ii j' want d (by rw [←OG];exact hg) hd);unfold wpOp;simp only [q2];rw [OG]at El;rw [if_neg (by simp [show Region.wanted o (yielded ops a.tmps)=false from El])];have hv:y.val=HB:=by simp [Rec.val,JW]
   have he:y.bq= []:=by simp [Rec.bq,JW]
   refine Mm _ c h1 h2 h3 h4 (fun t ht=> .inl ht) ?_;rw [hv,he];exact h6.put sQ o.dst
  |some ge=>
   obtain⟨gs,e⟩:=ge;rw [JW]at Da;simp only at Da;obtain⟨r1,r2,r3,r4,r5,r6⟩:=Da;rw [OG,Fv]at r2;rw [Fv]at r4;rw [OG]at r1;have El:=qZ (c:=c) (a:=a) r1 Ii;have hv:y.val=mkGd gs e.val:=by simp [Rec.val,JW]
   have he:y.bq=e.bq:=by simp [Rec.bq,JW]
   simp only [Qj,Ae,AR]at r4;obtain⟨_,gY⟩:=r4;have TE:y.log=some ⟨y.i,Wp y.σ gs y.o,e.bq.map (·.1)⟩:=by simp [Rec.log,JW]
   refine xN (c:=c) AT q2 h6 El (fun t ht=>HG t (by simp only [XI,Ai,List.mem_filterMap];exact .inl ⟨.tmp t,by simpa using ht,rfl⟩)) (fun t x hx=> ?_) (fun t t1 t2 hU=> ?_) r2 (fun Bl t x hx=> ?_) (by rw [h1];exact r5) (by rw [h1];exact r6) (fun x hx=>by rw [r3]at hx;cases hx) (fun a' c' hs hr=> ?_)
   ·unfold Qn at hx;split at hx
    ·rename_i hR;rw [(c4 y hy) t]at hx;rw [←hx];refine V2 xs rfl fun z hz hzt=> ?_;rw [Fv];exact hW z hz t hzt _ TE (.inl (by rw [OG];simpa using hR))
    ·cases hx
   ·rcases h5 t hU with h|⟨k,k1,k2,k3,k4⟩
    ·simp only [BH]at*;omega
    ·have:k≠j:=by rintro rfl;rw [q1]at k2;cases k2
     simp only [BH]at*;omega
   ·have:=gY _ hx;have Tp:gs.isEmpty=false:=by cases gs;exact absurd rfl Bl;rfl
    simp only [Tp,Bool.false_or,Bool.false_and,Bool.or_false,Ae,decide_eq_true_eq]at this;refine⟨this.1.1,this.1.2, ?_⟩;have h3:=this.2;split at h3
    ·exact⟨_,_,rfl,h3⟩
    ·cases h3
   ·exact Mm a' c' (hs.ρ.trans h1) (hs.w0.trans h2) (hs.A.trans h3) (hs.Mu.trans h4) hs.U (by rw [hv,he];exact hr)
end
theorem Rel.world {c:Cx} {n:Nat} {sl:Nat→SV} {hp:Nat→Option Aj} {a:Act} (h:Rel c n sl hp a) (w:World) (h1:w.heap=c.w.heap) (h2:w.os=c.w.os) (h3:w.tape=c.w.tape) (h4:w.output=c.w.output):Rel {c with w:=w} n sl hp a:=by
 refine h.change (fun _=>False) ⟨rfl,rfl,fun _ _ hb=>hb,fun b _ _=>by show w.heap[b]?=_;rw [h1],fun _ _ hk=>⟨hk,rfl⟩,fun _ _ _=>⟨Nat.le_refl _,fun _=>⟨rfl,fun b _ _=>by show w.heap[b]?=_;rw [h1]⟩⟩⟩ ⟨h2.trans h.base.os,h3.trans h.base.tape,h4.trans h.base.output,by show _≤w.heap.size;rw [h1];exact h.base.size,h.base.pins,fun b hb hm=>by show w.heap[b]?=_;rw [h1];exact h.base.block b hb hm,h.base.pk,h.base.lo⟩ (fun t _=>⟨rfl,rfl,rfl,fun g hk=>hk⟩) (fun t _ b _=>by show w.heap[b]?=_;rw [h1]) (fun t ht=>ht.elim)
  ⟨h.gw.nodup,h.gw.ct,h.gw.allow,fun t b hb=>by show b<w.heap.size;rw [h1];exact h.gw.inb t b hb⟩ h.b8 h.cw
theorem zE2 {P:Program} {sg:BT} {Rt:Nat→List AV→AV→Prop} (gH:P.follows .mixedOrders=true) (AT:OL P sg Rt) (Gh:Ue P sg):wL P sg Rt:=by
 intro id ops draw σ t _ Fc hnx ht F R L js ρ a w hL hd hr Q hq;obtain⟨c,rfl,rfl,h1,h2,h3,h4,h5,h6⟩:=hr;rw [List.range_eq_range']at ht;cases draw with
 |false=>refine wp_region ?_;rw [List.range_eq_range'];exact xB AT Gh (n:=σ.sl.length) ops.size 0 [] σ t (by omega) ht c a ⟨h1,h2,h3,h4,rfl,by simpa using h5,h6⟩ hd (fun c' a' σ' hp hl Ar=>hq [] .normal σ' c'.ρ a' c'.w hp hl Ar)
 |true=>
  refine wp_region_any gH ?_;obtain⟨τ,xs,σ',lg',g1,g2,g3,g4,g5,g6,_,g8⟩:=qX ops.size 0 [] σ t c.ρ (by omega) ht hd h4;have eY:=h6.ext (fun i=>by rw [h4];exact St.mc Fc i) (fun t e he=>by rw [h4];exact St.lz Fc t e he) τ;have hw:=eY.world {c.w with drawn:=c.w.drawn+1} rfl rfl rfl rfl;have G9: ∀k,k<ops.size→(Array.replicate ops.size false).getD k true=false:=fun k hk=>by simp [Array.getD_eq_getD_getElem?,hk]
  have Xp: ∀x∈xs,x.i<ops.size:=fun x hx=>by have:=(g1.range x hx).2;omega
  have e1:(Gn σ.sl.length (BD σ) xs fun k=>(Array.replicate ops.size false).getD k true)=BD σ:=by funext d;exact rW _ fun x hx _=>G9 x.i (Xp x hx)
  have e2:(Hg (AG σ.hp) xs fun k=>(Array.replicate ops.size false).getD k true)=AG σ.hp:=by funext d;exact rN _ fun x hx _=>G9 x.i (Xp x hx)
  refine zDH (F:=F) (n:=σ.sl.length) (c:={c.ext τ with w:={c.w with drawn:=c.w.drawn+1}}) AT g1 g2 g3 g6 g8 rfl (fun c' a' k1 k2 k3 k4 k5 k6=> ?_) ops.size (Array.replicate ops.size false) a (by simp) (fun k o hk ho=> ?_) rfl h1 h2 h3 (fun t ht=> .inl (h5 t ht)) (by rw [e1,e2];exact hw) (Nat.le_trans (List.length_filter_le _ _) (by simp))
  ·have hlen:=(g1.sl rfl).2.1;refine hq [] .normal _ c'.ρ a' c'.w (by rw [k1];exact List.prefix_append _ _) (by rw [k1];exact g5) ⟨c',rfl,rfl,k2,k3,k4,by rw [k1];exact g4,k5, ?_⟩;show Rel c' σ'.sl.length _ _ a';rw [hlen];exact k6
  ·have:=G9 k (Array.getElem?_eq_some_iff.1 ho).1;have BV:(Array.replicate ops.size false).getD k true=true:=hk;rw [this]at BV;cases BV
section
variable {P:Program} {c:Cx} {n nx:Nat} {sl sl0:Nat→SV} {hp hp0:Nat→Option Aj} {a:Act} {o:Oper} {gs:Gd} {e:A5} {sg:BT} {nv:Nat}
theorem zyt (h:Br P c n nx sl hp a sl0 hp0 o gs) {op:BinOp} {t el:TypeId} {x y:Operand} {ty:TypeId} (ho:o.op= .binOp op t x y ty) (hu:P.underlying t=some (.slice el)) {p:Option Addr} {q r:Nat} (hv:a.eval x= .slice p q r) (r2:SR c [.cf] [a.eval y])
  (AT:op= .eql∨op= .neq) (Gj:c.ρ[nv]?=some (.bool (KO a o))) (x':Option E) {ck:List Cn}:AB P o c n nx sl hp gs a {bt:=ck,cd:=x',val:= .e (if op= .eql then .var nv else .not (.var nv))}:=by
 have hb:KO a o=p.isNone:=by simp only [KO,ho,hv];cases p<;>rfl
 rw [hb]at Gj;have ex:=fun(v u:Value) (hv:a.eval x=v) (hu:a.eval y=u)=>PF (P:=P) (o:=o) ho c.w hv hu;generalize Ds:a.eval y=v2 at r2;cases r2 with
 |cf _=>
  refine AB.pure h (v:= .bool (if op= .eql then p.isNone else !p.isNone)) ?_ ?_ rfl
  ·rw [ex _ _ hv Ds,eqGuard_at_slice];rcases AT with rfl|rfl
   ·simp [Go.Lib.run_eql_slice_nil c.w t el p q r 0 0 hu]
   ·simp [binOp,Op.equal,Op.maxDepth,Go.Lib.run_equalIn_slice_nil c.w 9999 t el p q r 0 0 hu]
  ·rcases AT with rfl|rfl
   ·refine .e (f:= []) ?_ (by simp) .nil;simp only [if_true,E.den,Gj,Option.getD_some];exact .bool .nil
   ·refine .e (f:= []) ?_ (by simp) .nil;simp only [reduceCtorEq,if_false,E.den,Gj,Option.getD_some,AV.fm];exact .bool .nil
end
section
variable {P:Program} {c:Cx} {n nx:Nat} {sl sl0:Nat→SV} {hp hp0:Nat→Option Aj} {a:Act} {o:Oper} {gs:Gd} {e:A5} {sg:BT} {nv:Nat}
theorem Wc {hp:Nat→Option Aj} {gs:Gd} {m:Nat} {cs:Bz} {x:E} (h:Bq hp gs m (.agg cs)=some x): ∃k l,m=k+1∧Cr hp gs k cs.toList=some l∧x= .mk l:=by
 cases m with
 |zero=>simp [Bq]at h
 |succ m=>simp only [Bq,Av]at h;obtain⟨l,h1,h2⟩:=h;exact⟨m,l,rfl,h1,h2.symm⟩
theorem KR {hp:Nat→Option Aj} {gs:Gd} {m:Nat} {y x:E} (h:Bq hp gs m (.e y)=some x):x=y:=by
 cases m with
 |zero=>simp [Bq]at h
 |succ m=>simp [Bq]at h;exact h.symm
theorem LI {hp:Nat→Option Aj} {gs:Gd} {m:Nat} {x:E} (h:Bq hp gs m .cf=some x):x= .lst .nil:=by
 cases m with
 |zero=>simp [Bq]at h
 |succ m=>simp [Bq]at h;exact h.symm
theorem Kz {hp:Nat→Option Aj} {gs:Gd} {m:Nat} {s:SV} {ss:List SV} {x:EL} (h:Cr hp gs m (s::ss)=some x): ∃k y l,m=k+1∧Bq hp gs k s=some y∧Cr hp gs k ss=some l∧x= .cons y l:=by
 cases m with
 |zero=>simp [Cr]at h
 |succ m=>
  simp only [Cr]at h;split at h
  ·rename_i y l h1 h2;simp at h;exact⟨m,y,l,rfl,h1,h2,h.symm⟩
  ·cases h
theorem RR {hp:Nat→Option Aj} {gs:Gd} {ρ:List AV} {w:World}: ∀(vs:List Value) (ss:List SV) (m:Nat) (x:EL),E1.go vs=some ss→Cr hp gs m ss=some x→Rd w vs (x.den ρ) []
 | [],ss,m,x,h,hx=>by
  simp [E1.go]at h;subst h;cases m with
  |zero=>simp [Cr]at hx
  |succ m=>simp [Cr]at hx;subst hx;exact .nil
 |v::vs,ss,m,x,h,hx=>by
  unfold E1.go at h;split at h
  ·rename_i hh;cases hh
  ·rename_i k q l hh;cases hh;split at h
   ·rename_i hk;obtain⟨l',h1,rfl⟩:=Av.1 h;obtain⟨j,y,l2,rfl,h2,h3,rfl⟩:=Kz hx;rw [KR h2];exact .int hk (RR _ _ _ _ h1 h3)
   ·cases h
  ·rename_i q l hh;cases hh;obtain⟨l',h1,rfl⟩:=Av.1 h;obtain⟨j,y,l2,rfl,h2,h3,rfl⟩:=Kz hx;rw [KR h2];exact .bool (RR _ _ _ _ h1 h3)
  ·rename_i q l hh;cases hh;split at h
   ·rename_i hk;obtain⟨l',h1,rfl⟩:=Av.1 h;obtain⟨j,y,l2,rfl,h2,h3,rfl⟩:=Kz hx;rw [KR h2];exact .str hk (RR _ _ _ _ h1 h3)
   ·cases h
  ·rename_i l hh;cases hh;obtain⟨l',h1,rfl⟩:=Av.1 h;obtain⟨j,y,l2,rfl,h2,h3,rfl⟩:=Kz hx;rw [LI h2];exact .ej (RR _ _ _ _ h1 h3)
  ·rename_i l hh;cases hh;obtain⟨l',h1,rfl⟩:=Av.1 h;obtain⟨j,y,l2,rfl,h2,h3,rfl⟩:=Kz hx;rw [KR h2];exact .dy (RR _ _ _ _ h1 h3)
  ·cases h
theorem o6 {hp:Nat→Option Aj} {gs:Gd} {ρ:List AV} {w:World} {v:Value} {s:SV} {m:Nat} {x:E} (h:E1 v=some s) (hx:Bq hp gs m s=some x):
  Rd w v.cells.toList (x.den ρ).cells []∧(∀u∈v.cells.toList,u.oneCell'=true):=by
 have one: ∀{v:Value} {y:AV},Rd w [v] [y] []→(∀cs,y≠ .agg cs)→(∀cs,y≠ .tup cs)→Rd w v.cells.toList y.cells []∧(∀u∈v.cells.toList,u.oneCell'=true):=by
  intro v y hr h1 h2;have h3:=oY hr h1 h2;have h4:y.cells= [y]:=by cases y<;>first|rfl|exact absurd rfl (h1 _)
  rw [one_cells h3,h4];exact⟨by simpa using hr,by simpa using h3⟩
 unfold E1 at h;split at h
 ·split at h
  ·rename_i hk;simp at h;subst h;rw [KR hx];exact one (.int hk .nil) (by simp [E.den]) (by simp [E.den])
  ·cases h
 ·simp at h;subst h;rw [KR hx];exact one (.bool .nil) (by simp [E.den]) (by simp [E.den])
 ·split at h
  ·rename_i hk;simp at h;subst h;rw [KR hx];exact one (.str hk .nil) (by simp [E.den]) (by simp [E.den])
  ·cases h
 ·simp at h;subst h;rw [LI hx];exact one (.ej .nil) (by simp [E.den]) (by simp [E.den])
 ·simp at h;subst h;rw [KR hx];exact one (.dy .nil) (by simp [E.den]) (by simp [E.den])
 ·rename_i cs;simp only [Option.bind_eq_bind,Aw,Ah]at h;obtain⟨l,hl,rfl⟩:=h;obtain⟨k,l',rfl,h1,rfl⟩:=Wc hx;rw [Bz.bb]at h1;exact⟨RR _ _ _ _ hl h1,o8 _ _ hl⟩
 ·cases h
theorem jJ {w:World} {vs:List Value} {x:AV} (h:Rd w vs x.cells []): ∀k,Rd w (List.replicate k vs).flatten (AP (List.replicate k x)) []
 |0=> .nil
 |k+1=>by simp only [List.replicate_succ,List.flatten_cons,AP,List.flatMap_cons];have:=h.app (jJ h k);simpa [AP]using this
theorem ZM (z:Array Value) (hz:0<z.size): ∀k,(madeCells z (k*z.size)).toList=(List.replicate k z.toList).flatten
 |0=>by simp [madeCells]
 |k+1=>by
  have ih:=ZM z hz k;simp only [madeCells,Array.toList_map,Array.toList_range]at ih ⊢;rw [Nat.add_mul,Nat.one_mul,List.range_add,List.map_append,ih,List.replicate_succ',List.flatten_append];congr 1;simp only [List.map_map,List.flatten_cons,List.flatten_nil,List.append_nil];apply List.ext_getElem?;intro i;simp only [List.getElem?_map,List.getElem?_range'];by_cases hi:i<z.size
  ·simp only [List.getElem?_range hi,Option.map_some,Function.comp_apply];have:(k*z.size+i) % z.size=i:=by rw [Nat.add_comm,Nat.add_mul_mod_self_right,Nat.mod_eq_of_lt hi]
   simp [this,hi]
  ·rw [List.getElem?_eq_none (by simpa using hi),List.getElem?_eq_none (by simpa using hi)];rfl
theorem zCn (h:Br P c n nx sl hp a sl0 hp0 o gs) {t:TypeId} {l m:Operand} (ho:o.op= .makeSlice t l m) {s1 s2:SV} (BI:BN sl0 gs l=some s1) (A4:BN sl0 gs m=some s2) (he:sP P hp0 gs nx t s1 s2=some e) (hc: ∀q∈e.bt,Cn.den c.ρ q):AB P o c n nx sl hp gs a e:=by
 have Eb:l∈o.op.operands:=by simp [ho,Op.operands]
 have DP:m∈o.op.operands:=by simp [ho,Op.operands]
 unfold sP at he;split at he
 ·rename_i el x y BA;have BA:=Ky BA;split at he
  ·cases he
  rename_i hz;have hz:IE P el=true:=by simpa using hz
  obtain⟨i,z,hi,F8,DR,B7,Cz,GA⟩:=LC hz;have r1:=h.c6 BI Eb;have r2:=h.c6 A4 DP;have ival: ∀{x:E} {kk:IntKind} {k:Int} {v:Value},SR c [.e x] [v]→x.den c.ρ= .int kk k→v= .int kk k:=by
   intro x kk k v hr hx;cases hr with
   |e h1 _ _=>exact(GR h1 hx).1
  split at he
  ·rename_i Hm;split at he
   ·rename_i s hs;have hs:E1 z=some s:=by simpa [hi,F8]using hs
    obtain⟨w,hw,rfl⟩:=Av.1 he;obtain⟨kk,k,hk,h0,hb,hle⟩:Cn.den c.ρ (.mkroom x (P.bytesOf el)):=BY hc;have EW:=ival r1 hk;have Ds:=ival r2 (by rw [←E.aw c.ρ _ _ Hm];exact hk);obtain⟨c1,c2⟩:=o6 (w:=c.w) (ρ:=c.ρ) hs hw;obtain⟨kn,rfl⟩:=Int.eq_ofNat_of_zero_le h0;have DL:(i.bytes:Int)*(kn:Int)≤281474976710656:=by rw [GA]at hb;rw [Int.mul_comm];omega
    have hlen:=c1.len;have Xc:=ZM z.cells (by omega) kn;have AU:=run_make (P:=P) c.w t el i z BA hi F8 kk kk kn kn (by omega) (Int.le_refl _) DL (by omega);have Fu:(madeCells z.cells (kn*z.cells.size)).size=kn*P.cellsOf el:=by rw [size_madeCells,DR,Cz]
    have CG:(madeCells z.cells (kn*z.cells.size)).toList.take ((List.replicate kn (w.den c.ρ)).length*P.cellsOf el)=(List.replicate kn z.cells.toList).flatten:=by rw [List.length_replicate,List.take_of_length_le (by rw [Array.length_toList,Fu];exact Nat.le_refl _),Xc]
    refine AB.newRow (xs:=List.replicate kn (w.den c.ρ)) (N:= []) (C:=madeCells z.cells (kn*z.cells.size)) (cap:=kn) (wd:=c.w) (fz:= []) (ts:= []) h rfl ⟨rfl,rfl,rfl,rfl⟩ ?_ ?_ (by omega) (fun u hu=> ?_) (by simp) (by simp only [maxLen];omega) Fu ?_ ?_ (by simp) (fun _=>rfl)
    ·simp only [execOp,ho,EW,Ds,Sem.run_bind,Int.ofNat_eq_natCast,List.length_replicate];rw [AU,DR];rfl
    ·simp [E.den,hk,AV.rep]
    ·rw [List.eq_of_mem_replicate hu,←hlen,Array.length_toList,DR,Cz]
    ·rw [CG];intro u hu;obtain⟨q,hq,hu⟩:=List.mem_flatten.1 hu;rw [List.eq_of_mem_replicate hq]at hu;exact c2 u hu
    ·rw [CG];exact jJ c1 kn
   ·cases he
  ·split at he
   ·rename_i k0 _;simp only [Ah]at he;subst he;obtain⟨kk,k,hk,h0,hb,hle⟩:Cn.den c.ρ (.mkroom y (P.bytesOf el)):=BY hc;have EW:=ival r1 (show(E.int k0 0).den c.ρ= .int k0 0 from rfl);have Ds:=ival r2 hk;obtain⟨kn,rfl⟩:=Int.eq_ofNat_of_zero_le h0;have DL:(i.bytes:Int)*(kn:Int)≤281474976710656:=by
     rw [GA]at hb;rw [Int.mul_comm];omega
    have AU:=run_make (P:=P) c.w t el i z BA hi F8 k0 kk 0 kn (by omega) (by omega) DL (by omega);refine AB.newRow (xs:= []) (N:= []) (C:=madeCells z.cells (kn*i.size)) (cap:=kn) (wd:=c.w) (fz:= []) (ts:= []) h rfl ⟨rfl,rfl,rfl,rfl⟩ ?_ rfl (by omega) (by simp) (by simp) (by simp only [maxLen];omega) (by rw [size_madeCells,Cz]) (by simp) (by simpa [AP]using Rd.nil) (by simp) (fun _=>rfl);simp only [execOp,ho,EW,Ds,Sem.run_bind,Int.ofNat_eq_natCast];rw [AU];rfl
   ·cases he
 ·cases he
end
section
variable {P:Program} {c:Cx} {n nx:Nat} {sl sl0:Nat→SV} {hp hp0:Nat→Option Aj} {a:Act} {o:Oper} {gs:Gd} {e:A5} {sg:BT} {nv:Nat}
def SA (v:Option Value) (k d:Nat):Prop:=(v=none∧k=d)∨ ∃kk,v=some (.int kk (k:Int))
theorem nH {w:World} {t el:TypeId} (hu:P.underlying t=some (.slice el)) (Bn:Dv P el=true) (p:Option Addr) (m r l h:Nat) {lo hi:Option Value} (Cc:SA lo l 0) (Ob:SA hi h m) (h1:l≤h) (h2:h≤m) (h3:m≤r):
  (Instr.sliceAt t (.slice p m r) lo hi none).run P w= .ok (sliced p l h r (P.cellsOf el)) w:=by
 have FI:P.underlying t=some (.slice (P.elem t)):=by simp [Program.elem,hu]
 have he:P.elem t=el:=by simp [Program.elem,hu]
 have hs:(sizeOf (P.elem t)).run P w= .ok (P.cellsOf el) w:=by rw [he];exact Ph Bn w
 rw [run_sliceAt_slice w t _ _ _ _ FI];rcases Cc with⟨rfl,rfl⟩|⟨kl,rfl⟩<;>rcases Ob with⟨rfl,rfl⟩|⟨kh,rfl⟩
 ·rw [run_slice_all w t p h r FI,hs];rfl
 ·rw [run_slice_h w t p m r FI kh _ (by omega) (by omega),hs];rfl
 ·rw [run_slice_l w t p h r FI kl _ (by omega) (by omega),hs];rfl
 ·rw [run_slice_lh w t p m r FI kl kh _ _ (by omega) (by omega) (by omega),hs];rfl
theorem zzq (s:ByteArray) (a b:Nat):(s.extract a b).data.toList=(s.data.toList.drop a).take (b-a):=by rw [ByteArray.data_extract,Array.toList_extract,List.extract_eq_take_drop]
theorem ztw {w:World} {t:TypeId} (hu:P.underlying t=some .string) (s:ByteArray) (l h:Nat) {lo hi:Option Value} (Cc:SA lo l 0) (Ob:SA hi h s.size) (h1:l≤h) (h2:h≤s.size):
  (Instr.sliceAt t (.string s) lo hi none).run P w= .ok (.string (s.extract l h)) w:=by
 rw [run_sliceAt_string w t _ _ _ _ hu];rcases Cc with⟨rfl,rfl⟩|⟨kl,rfl⟩<;>rcases Ob with⟨rfl,rfl⟩|⟨kh,rfl⟩
 ·rw [run_slice_string_all w t s hu]
 ·rw [run_slice_string_h w t s hu kh _ (by omega) (by omega)];rfl
 ·rw [run_slice_string_l w t s hu kl _ (by omega) (by omega)];rfl
 ·rw [run_slice_string w t s kl kh _ _ hu (by omega) (by omega) (by omega)];rfl
theorem qS {sz:Nat} (ys:List AV) (hs: ∀y∈ys,y.cells.length=sz) (l h:Nat) (hl:l≤h) (hh:h≤ys.length):((AP ys).drop (l*sz)).take ((h-l)*sz)=AP ((ys.take h).drop l):=by
 have e:ys=ys.take l++((ys.take h).drop l++ys.drop h):=by
  rw [←List.append_assoc];have:ys.take l++(ys.take h).drop l=ys.take h:=by
   have h2:ys.take l=(ys.take h).take l:=by rw [List.take_take,Nat.min_eq_left hl]
   rw [h2,List.take_append_drop]
  rw [this,List.take_append_drop]
 have f1:AP ys=AP (ys.take l)++(AP ((ys.take h).drop l)++AP (ys.drop h)):=by
  conv=>lhs;rw [e]
  simp [AP]
 have l1:(AP (ys.take l)).length=l*sz:=by rw [Nn _ (fun y hy=>hs y (List.mem_of_mem_take hy)),List.length_take,Nat.min_eq_left (by omega)]
 have l2:(AP ((ys.take h).drop l)).length=(h-l)*sz:=by rw [Nn _ (fun y hy=>hs y (List.mem_of_mem_take (List.mem_of_mem_drop hy))),List.length_drop,List.length_take,Nat.min_eq_left (by omega)]
 rw [f1,←l1,List.drop_left,←l2,List.take_left]
theorem zJE {w:World} {v:Value} {ys:List AV} {f:List Nat} {sz:Nat} (hr:Rd w [v] [.sl ys] f) (hs: ∀y∈ys,y.cells.length=sz) (l h:Nat) (hl:l≤h) (hh:h≤ys.length):
  ∃p r g,v= .slice p ys.length r∧ys.length≤r∧Rd w [sliced p l h r sz] [.sl ((ys.take h).drop l)] g∧ ∀b∈g,b∈f:=by
 cases hr with
 |ej _=>
  rename_i p r;have hh:h=0:=by simpa using hh
  subst hh;have hl:l=0:=by omega
  subst hl;exact⟨_,_, [],rfl,Nat.zero_le _,by simpa [sliced]using Rd.ej .nil,by simp⟩
 |fu hb h1 h2 h3 h4 h5 h6 G4 h7 h8=>
  rename_i b o m r cs C t fz sz' f1 f2;have hy: ∃y,y∈ys:=by cases ys with|nil=>simp at h3;omega|cons y _=>exact⟨y,by simp⟩
  obtain⟨y0,HO⟩:=hy;have Gm:sz'=sz:=(h4 y0 HO).symm.trans (hs y0 HO);subst Gm;subst h3;refine⟨some ⟨b,o,none⟩,r, ?_⟩;rcases Nat.eq_or_lt_of_le hl with he|An
  ·subst he;refine⟨[],rfl,h2.2, ?_,by simp⟩;have:(ys.take l).drop l= []:=List.drop_eq_nil_of_le (by simp;omega);rw [this];simp only [sliced,Nat.sub_self];exact .ej .nil
  ·have Ej:=h7.len;obtain⟨g,hg,Dz⟩:=h7.piece (l*sz') ((h-l)*sz');rw [qS ys h4 l h hl hh]at Dz;refine⟨b::(g++ []),rfl,h2.2, ?_,fun x hx=> ?_⟩
   ·have CL:sliced (some (⟨b,o,none⟩:Addr)) l h r sz'= .slice (some ⟨b,o+l*sz',none⟩) (h-l) (r-l):=by
     unfold sliced;split
     ·exfalso;omega
     ·simp [Addr.add_lit]
    rw [CL];refine Rd.fu (cs:=(cs.drop (l*sz')).take ((h-l)*sz')) hb (by omega) ⟨by omega,by omega⟩ (by simp;omega) (fun y hy=>h4 y (List.mem_of_mem_take (List.mem_of_mem_drop hy))) h5 (fun j u hu=> ?_) (fun u hu=>G4 u (List.mem_of_mem_drop (List.mem_of_mem_take hu))) Dz .nil;rw [List.getElem?_take]at hu;split at hu
    ·rw [List.getElem?_drop]at hu;have:=h6 _ _ hu;rw [←this];congr 1;omega
    ·cases hu
   ·simp only [List.append_nil,Ag]at hx;rcases hx with rfl|hx
    ·simp
    ·have:=hg x hx;simp [this]
theorem J8 {f:Operand→Option SV} {x:Option Operand} {r:Option SV} (h:Kh f x=some r):(x=none∧r=none)∨ ∃y z,x=some y∧f y=some z∧r=some z:=by
 cases x with
 |none=>simp [Kh]at h;exact .inl ⟨rfl,h.symm⟩
 |some y=>obtain⟨z,hz,rfl⟩:=Av.1 h;exact .inr ⟨y,z,rfl,hz,rfl⟩
theorem aW {s:Option SV} {d l:E} (h:MW s d=some l):(s=none∧l=d)∨s=some (.e l):=by
 unfold MW at h;split at h
 ·simp at h;exact .inl ⟨rfl,h.symm⟩
 ·simp at h;subst h;exact .inr rfl
 ·cases h
theorem zzJ (h:Br P c n nx sl hp a sl0 hp0 o gs) {t:TypeId} {x:Operand} {lo hi mx:Option Operand} (ho:o.op= .slice t x lo hi mx) {s:SV} (hs:BN sl0 gs x=some s) {l' h' m':Option SV} (Bu:Kh (BN sl0 gs) lo=some l') (Mo:Kh (BN sl0 gs) hi=some h') (Ga:Kh (BN sl0 gs) mx=some m') (he:rO P hp0 gs t s l' h' m'=some e) (hc: ∀q∈e.bt,Cn.den c.ρ q):AB P o c n nx sl hp gs a e:=by
 have hm:x∈o.op.operands:=by simp [ho,Op.operands]
 have Og: ∀y,lo=some y→y∈o.op.operands:=fun y hy=>by simp [ho,Op.operands,hy]
 have Lb: ∀y,hi=some y→y∈o.op.operands:=fun y hy=>by simp [ho,Op.operands,hy]
 have gG: ∀y,mx=some y→y∈o.op.operands:=fun y hy=>by simp [ho,Op.operands,hy]
 have hx:=h.c6 hs hm;have ival: ∀{x:E} {kk:IntKind} {k:Int} {v:Value},SR c [.e x] [v]→x.den c.ρ= .int kk k→v= .int kk k:=by
  intro x kk k v hr hx;cases hr with
  |e h1 _ _=>exact(GR h1 hx).1
 unfold rO at he;split at he
 ·cases he
 rename_i y hy;obtain⟨f,q1,q2⟩:=h.ku hs hm hy;have ex:(execOp a.eval o).run P c.w=((Instr.sliceAt t (a.eval x) (lo.map a.eval) (hi.map a.eval) (mx.map a.eval)).run P c.w).andThen fun v w=> .ok (.value v) w:=by simp [execOp,ho]
 split at he
 ·split at he
  ·rename_i el _ _ hu;split at he
   ·rename_i Bn;simp only [Ah]at he;subst he;have hd:(y.den c.ρ).len≠ .undef:=BY hc;cases Bv:y.den c.ρ<;>simp only [Bv,AV.len,ne_eq,not_true_eq_false]at hd;rename_i xs;have hl:(y.den c.ρ).len= .int .i64 (xs.length:Int):=by rw [Bv];rfl
    obtain⟨p,q,r,hv⟩: ∃p q r,a.eval x= .slice p q r:=by
     rcases Sh q1 hl with⟨p,q,hv,Ea⟩|⟨b,o',k,q,hv,Ea⟩
     ·exact⟨_,_,_,hv⟩
     ·exact⟨_,_,_,hv⟩
    rcases J8 Bu with⟨rfl,_⟩|⟨_,_,_,_,hh⟩
    ·rcases J8 Mo with⟨_,hh⟩|⟨oh,sh,rfl,hsh,hh⟩
     ·cases hh
     ·cases hh;rcases J8 Ga with⟨_,hh⟩|⟨om,sm,rfl,Ox,hh⟩
      ·cases hh
      ·cases hh;have v1:=(fun{kk:IntKind} (hr:SR c [.e (.int kk 0)] [a.eval oh])=>ival hr (show(E.int kk 0).den c.ρ= .int kk 0 from by simp only [E.den])) (h.c6 hsh (Lb _ rfl))
       have v2:=(fun{kk:IntKind} (hr:SR c [.e (.int kk 0)] [a.eval om])=>ival hr (show(E.int kk 0).den c.ρ= .int kk 0 from by simp only [E.den])) (h.c6 Ox (gG _ rfl))
       have FI:P.underlying t=some (.slice (P.elem t)):=by simp [Program.elem,hu]
       have BA:P.elem t=el:=by simp [Program.elem,hu]
       refine AB.pure h (v:= .slice p 0 0) ?_ (.emp .nil) rfl;rw [ex,hv];simp only [Option.map_none,Option.map_some,v1,v2];rw [run_sliceAt_slice c.w t _ _ _ _ FI,run_slice_hm c.w t p q r FI _ _ 0 0 (by omega) (by omega) (by omega),BA,Ph Bn];simp [sliced]
    ·cases hh
   ·cases he
  ·cases he
 ·have Oi:mx=none:=by
   rcases J8 Ga with⟨hh,_⟩|⟨_,_,_,_,hh⟩
   ·exact hh
   ·cases hh
  subst Oi;have blo: ∀(l:E) (kk:IntKind) (k:Nat),MW l' (.int .i64 0)=some l→l.den c.ρ= .int kk k→SA (lo.map a.eval) k 0:=by
   intro l kk k hl hk;rcases J8 Bu with⟨rfl,rfl⟩|⟨ol,sl',rfl,CL,rfl⟩
   ·rcases aW hl with⟨_,rfl⟩|hh
    ·simp only [E.den,AV.int.injEq]at hk;exact .inl ⟨rfl,by omega⟩
    ·cases hh
   ·rcases aW hl with⟨hh,_⟩|hh
    ·cases hh
    ·cases hh;exact .inr ⟨kk,by rw [Option.map_some,ival (h.c6 CL (Og _ rfl)) hk]⟩
  have bhi: ∀(d l:E) (kk:IntKind) (k m:Nat),MW h' d=some l→l.den c.ρ= .int kk k→d.den c.ρ= .int .i64 (m:Int)→SA (hi.map a.eval) k m:=by
   intro d l kk k m hl hk hd;rcases J8 Mo with⟨rfl,rfl⟩|⟨ol,sl',rfl,CL,rfl⟩
   ·rcases aW hl with⟨_,rfl⟩|hh
    ·rw [hd]at hk;simp only [AV.int.injEq]at hk;exact .inl ⟨rfl,by omega⟩
    ·cases hh
   ·rcases aW hl with⟨hh,_⟩|hh
    ·cases hh
    ·cases hh;exact .inr ⟨kk,by rw [Option.map_some,ival (h.c6 CL (Lb _ rfl)) hk]⟩
  split at he
  ·rename_i hu;split at he
   ·rename_i l hb q La Oa;simp only [Ah]at he;subst he;obtain⟨ka,ai,kb,bi,bs,d1,d2,d3,d4,d5,d6⟩:Cn.den c.ρ (.winS y l hb):=BY hc;obtain⟨an,rfl⟩:=Int.eq_ofNat_of_zero_le d4;obtain⟨bn,rfl⟩:=Int.eq_ofNat_of_zero_le (Int.le_trans d4 d5);obtain⟨ss,hv,rfl,hle⟩:=SL q1 d3;have B7:ss.data.toList.length=ss.size:=by simp
    have AU:=ztw (P:=P) (w:=c.w) hu ss an bn (blo l ka an La d1) (bhi (.slen y) hb kb bn ss.size Oa d2 (by simp only [E.den,d3,AV.slen];simp)) (by omega) (by omega);refine AB.pure h (v:= .string (ss.extract an bn)) ?_ (.c7 ?_) rfl
    ·rw [ex,hv,Option.map_none,AU];rfl
    ·simp only [E.den,d1,d2,d3,AV.swin];have:(List.take (bn:Int).toNat ss.data.toList).drop (an:Int).toNat=(ss.extract an bn).data.toList:=by
      simp [zzq,List.drop_take]
     rw [this];exact .str (by simp only [ByteArray.size_extract];omega) .nil
   ·cases he
  ·rename_i el hu;split at he
   ·cases he
   rename_i Bn;have Bn:Dv P el=true:=by simpa using Bn
   split at he
   ·rename_i l hb fz La Oa HF;simp only [Ah]at he;subst he;have Bi:Cn.den c.ρ (.issl y (P.cellsOf el)):=BY hc;obtain⟨ys,Dw,OD⟩:=Bi;obtain⟨ka,ai,kb,bi,m,d1,d2,d3,d4,d5,d6⟩:Cn.den c.ρ (.win y l hb):=hc _ (by simp);obtain⟨an,rfl⟩:=Int.eq_ofNat_of_zero_le d4;obtain⟨bn,rfl⟩:=Int.eq_ofNat_of_zero_le (Int.le_trans d4 d5);rw [Dw]at q1;have hm9:(m:Int)=ys.length:=by rw [Dw]at d3;simpa [AV.len]using d3.symm
    split at HF
    ·rename_i JE;obtain⟨p,r,g,hv,hr,Dz,hg⟩:=zJE q1 OD an bn (by omega) (by omega);have AU:=nH (P:=P) (w:=c.w) hu Bn p ys.length r an bn (blo l ka an La d1) (bhi (.len y) hb kb bn ys.length Oa d2 (by simp only [E.den,Dw,AV.len])) (by omega) (by omega) hr;intro next Q hk
     unfold Oper.wp;rw [ex,hv,Option.map_none,AU];show Oper.upon P o a next Q (.ok (.value _) c.w)
     rw [Oper.upon_value];have Ar:=h.rel.freeze h.hp h.gs HF;have Az: ∀b∈g,(c.bu (fz.map (·.1))).ok b:=fun b hb=>VN h.rel h.eh h.gs HF JE (q2 b (hg b hb));refine hk _ (c.bu (fz.map (·.1))) ⟨rfl,rfl,rfl,rfl,fun t ht=> .inl ht⟩ (Ar.put (SR.mkGd (.e (f:=g) ?_ Az .nil) gs h.gs) o.dst);show Rd c.w _ [(E.win y l hb).den c.ρ] g;simp only [E.den,d1,d2,Dw,AV.win,Int.ofNat_eq_natCast,Int.toNat_natCast];exact Dz
    ·cases HF
   ·cases he
  ·cases he
end
section
variable {P:Program} {c:Cx} {n nx:Nat} {sl sl0:Nat→SV} {hp hp0:Nat→Option Aj} {a:Act} {o:Oper} {gs:Gd} {e:A5} {sg:BT} {nv:Nat}
theorem Qf {w:World} {v:Value} {x:AV} {f:List Nat} {k:SK} (h:Rd w [v] [x] f) (hk:x.sk=some k):(∃kk n,k= .int kk∧v= .int kk n∧x= .int kk n)∨(∃b,k= .bool∧v= .bool b∧x= .bool b)∨ ∃s:ByteArray,k= .str∧v= .string s∧x= .str s.data.toList:=by
 cases h<;>simp [AV.sk]at hk
 ·exact .inl ⟨_,_,hk.symm,rfl,rfl⟩
 ·exact .inr (.inl ⟨_,hk.symm,rfl,rfl⟩)
 ·exact .inr (.inr ⟨_,hk.symm,rfl,rfl⟩)
theorem pD {t:TypeId} (h:(∃k,P.underlying t=some (.int k))∨P.underlying t=some .bool∨P.underlying t=some .string):Aq P t=false:=by rcases h with⟨k,h⟩|h|h<;>simp [Aq,h]
theorem zrw {w:World} (d:Nat): ∀(fs:List Field) (j:Nat) (ks:List SK) {as_ bs:List Value} {cs ds:List AV} {f g:List Nat},SW P j fs=some ks→Rd w as_ cs f→Rd w bs ds g→(cs.drop j).map AV.sk=ks.map some→(ds.drop j).map AV.sk=ks.map some→
  (Op.eqFields (d+1) as_.toArray bs.toArray fs).run P w= .ok (AV.leq (cs.drop j) (ds.drop j)) w
 | [],j,ks,as_,bs,cs,ds,f,g,hk,h1,h2,k1,k2=>by
  simp [SW]at hk;subst hk;have e1:cs.drop j= []:=by simpa using k1
  have e2:ds.drop j= []:=by simpa using k2
  rw [e1,e2];simp [Op.eqFields,AV.leq]
 |fd::fs,j,ks,as_,bs,cs,ds,f,g,hk,h1,h2,k1,k2=>by
  unfold SW at hk;split at hk
  ·cases hk
  rename_i AO;simp only [not_or,Bool.not_eq_true',Decidable.not_not,ne_eq,Bool.not_eq_false]at AO;obtain⟨hn,ho,Bn,BY⟩:=AO;have main: ∀(k:SK) (l:List SK),ks=k::l→SW P (j+1) fs=some l→(∀a b (x y:AV) f g,Rd w [a] [x] f→Rd w [b] [y] g→x.sk=some k→y.sk=some k→(Op.equalIn (d+1) fd.type a b).run P w= .ok (x.seq y) w)→Aq P fd.type=false→
    (Op.eqFields (d+1) as_.toArray bs.toArray (fd::fs)).run P w= .ok (AV.leq (cs.drop j) (ds.drop j)) w:=by
   rintro k l rfl hl heq Ib;have GB:j<cs.length:=by
    rcases Nat.lt_or_ge j cs.length with hh|hh
    ·exact hh
    ·rw [List.drop_eq_nil_of_le hh]at k1;simp at k1
   have fP:j<ds.length:=by
    rcases Nat.lt_or_ge j ds.length with hh|hh
    ·exact hh
    ·rw [List.drop_eq_nil_of_le hh]at k2;simp at k2
   rw [List.drop_eq_getElem_cons GB]at k1;rw [List.drop_eq_getElem_cons fP]at k2;simp only [List.map_cons,List.cons.injEq]at k1 k2;have l1:=h1.len;have l2:=h2.len;obtain⟨v,f1,hv,_,r1⟩:=h1.at (show cs[j]?=some cs[j] by simp [GB])
   obtain⟨u,g1,hu,_,r2⟩:=h2.at (show ds[j]?=some ds[j] by simp [fP])
   have p1:=Wb Bn as_ fd.offset (by omega) (.inr BY) w;have p2:=Wb Bn bs fd.offset (by omega) (.inr BY) w;have e1:((as_.drop fd.offset).take (P.cellsOf fd.type)).headD Go.undef=v:=by rw [BY,ho,List.drop_eq_getElem_cons (by omega),List.take_succ_cons];simpa [show j<as_.length by omega]using hv
   have e2:((bs.drop fd.offset).take (P.cellsOf fd.type)).headD Go.undef=u:=by rw [BY,ho,List.drop_eq_getElem_cons (by omega),List.take_succ_cons];simpa [show j<bs.length by omega]using hu
   rw [Ib,e1]at p1;rw [Ib,e2]at p2;have ih:=zrw (w:=w) d fs (j+1) l hl h1 h2 k1.2 k2.2;rw [List.drop_eq_getElem_cons GB,List.drop_eq_getElem_cons fP];simp only [Op.eqFields,ne_eq,hn,not_false_eq_true,if_true,Sem.run_bind,p1,p2,AM,if_false,Result.andThen_ok,heq v u _ _ _ _ r1 r2 k1.1 k2.1];cases hb:(cs[j]).seq ds[j]with
   |true=>simpa [AV.leq,hb]using ih
   |false=>simp [AV.leq,hb]
  split at hk
  ·rename_i k l hu hl;simp at hk;refine main _ _ hk.symm hl (fun a b x y f g ra rb hx hy=> ?_) (pD (.inl ⟨_,hu⟩));rcases Qf ra hx with⟨kk,m,h5,rfl,rfl⟩|⟨_,h5,_⟩|⟨_,h5,_⟩<;>cases h5
   rcases Qf rb hy with⟨kk,m2,h5,rfl,rfl⟩|⟨_,h5,_⟩|⟨_,h5,_⟩<;>cases h5
   exact run_equalIn_int w d fd.type _ _ _ _ hu
  ·rename_i l hu hl;simp at hk;refine main _ _ hk.symm hl (fun a b x y f g ra rb hx hy=> ?_) (pD (.inr (.inl hu)));rcases Qf ra hx with⟨kk,m,h5,_⟩|⟨_,_,rfl,rfl⟩|⟨_,h5,_⟩<;>try cases h5
   rcases Qf rb hy with⟨kk,m,h5,_⟩|⟨_,_,rfl,rfl⟩|⟨_,h5,_⟩<;>try cases h5
   exact pK d _ _ hu w
  ·rename_i l hu hl;simp at hk;refine main _ _ hk.symm hl (fun a b x y f g ra rb hx hy=> ?_) (pD (.inr (.inr hu)));rcases Qf ra hx with⟨kk,m,h5,_⟩|⟨_,h5,_⟩|⟨_,_,rfl,rfl⟩<;>try cases h5
   rcases Qf rb hy with⟨kk,m,h5,_⟩|⟨_,h5,_⟩|⟨_,_,rfl,rfl⟩<;>try cases h5
   rw [run_equalIn_string w d _ _ _ hu,zpt];rfl
  ·cases hk
theorem zFO (h:Br P c n nx sl hp a sl0 hp0 o gs) {op:BinOp} {t:TypeId} {x y:Operand} {ty:TypeId} (ho:o.op= .binOp op t x y ty) {fs:Array Field} (hu:P.underlying t=some (.struct fs)) (he:BF P sg sl0 hp0 nv nx gs o=some e) (hc: ∀q∈e.bt,Cn.den c.ρ q):AB P o c n nx sl hp gs a e:=by
 have Eb:x∈o.op.operands:=by simp [ho,Op.operands]
 have DP:y∈o.op.operands:=by simp [ho,Op.operands]
 simp only [BF,ho,Aw]at he;obtain⟨s1,BI,s2,A4,he⟩:=he;unfold SU at he;simp only [hu]at he;split at he
 ·cases he
 rename_i hg;simp only [Bool.or_eq_true,not_or,Bool.not_eq_true]at hg;split at he
 ·rename_i ks x' y' hks C6 Bv;obtain⟨f1,q1,_⟩:=h.ku BI Eb C6;obtain⟨f2,q2,_⟩:=h.ku A4 DP Bv;have Ek:P.underlying t=some (.struct (P.fieldsOf t)):=by simp [Program.fieldsOf,hu]
  have Mk:P.fieldsOf t=fs:=by simp [Program.fieldsOf,hu]
  have key: ∀(k1:Cn.den c.ρ (.kinds x' ks)) (k2:Cn.den c.ρ (.kinds y' ks)),∃as_ bs:List Value,∃b,a.eval x= .agg as_.toArray∧a.eval y= .agg bs.toArray∧(E.aeq x' y').den c.ρ= .bool b∧(Op.equalIn 10000 t (.agg as_.toArray) (.agg bs.toArray)).run P c.w= .ok b c.w:=by rintro⟨cs,Bi,k1⟩ ⟨ds,G8,k2⟩;obtain⟨as_,EW,_,r1⟩:=Kb q1 Bi;obtain⟨bs,Ds,_,r2⟩:=Kb q2 G8;refine⟨as_,bs,AV.leq cs ds,EW,Ds,by simp only [E.den,Bi,G8,AV.aeq], ?_⟩;rw [run_equalIn_struct c.w 9999 t _ _ Ek hg.1,Mk];exact zrw (w:=c.w) 9998 fs.toList 0 ks hks r1 r2 (by simpa using k1) (by simpa using k2)
  split at he
  ·simp only [Ah]at he;subst he;obtain⟨as_,bs,b,EW,Ds,hd,hr⟩:=key (hc _ (by simp)) (hc _ (by simp));refine AB.pure h (v:= .bool b) ?_ (.c7 (by rw [hd];exact .bool .nil)) rfl;rw [PF ho c.w EW Ds];simp [run_eqGuard_agg c.w _ t x y _ _ hg.2,run_eql_struct,hr]
  ·simp only [Ah]at he;subst he;obtain⟨as_,bs,b,EW,Ds,hd,hr⟩:=key (hc _ (by simp)) (hc _ (by simp));refine AB.pure h (v:= .bool (!b)) ?_ (.c7 (by simp only [E.den]at hd ⊢;rw [hd];exact .bool .nil)) rfl;rw [PF ho c.w EW Ds];simp [run_eqGuard_agg c.w _ t x y _ _ hg.2,run_neq_struct,hr]
  ·cases he
 ·cases he
theorem ztC (h:Br P c n nx sl hp a sl0 hp0 o gs) {x y:Operand} {cl:Call} (ho:o.op= .call cl) {op:BinOp} (AT:(op= .gtr∧cl.callee= .builtin .max)∨(op= .lss∧cl.callee= .builtin .min)) (Dq:cl.args.toList= [x,y]) {s1 s2:SV} (BI:BN sl0 gs x=some s1) (A4:BN sl0 gs y=some s2)
  (he:bX op s1 s2=some e) (hc: ∀q∈e.bt,Cn.den c.ρ q):AB P o c n nx sl hp gs a e:=by
 have Ay:cl.args= #[x,y]:=by apply Array.ext';simp [Dq]
 have Eb:x∈o.op.operands:=by rcases AT with⟨_,hh⟩|⟨_,hh⟩<;>simp [ho,Op.operands,Call.operands,hh,Ay]
 have DP:y∈o.op.operands:=by rcases AT with⟨_,hh⟩|⟨_,hh⟩<;>simp [ho,Op.operands,Call.operands,hh,Ay]
 unfold bX at he;split at he
 ·rename_i x' y';simp only [Ah]at he;subst he;obtain⟨f1,q1,_⟩:=HY (h.c6 BI Eb) rfl;obtain⟨f2,q2,_⟩:=HY (h.c6 A4 DP) rfl;have hd:AV.bin op (y'.den c.ρ) (x'.den c.ρ)≠ .undef:=BY hc;cases hx:x'.den c.ρ<;>cases hy:y'.den c.ρ<;>simp only [hx,hy,AV.bin,ne_eq,not_true_eq_false]at hd;rename_i k m k' m';split at hd
  ·rename_i hk;have hk:k'=k:=by rcases hk with hk|hk|hk;exact hk;all_goals (rcases AT with⟨h1,_⟩|⟨h1,_⟩<;>rw [h1]at hk<;>cases hk)
   subst hk;obtain⟨v1,i1⟩:=GR q1 hx;obtain⟨v2,i2⟩:=GR q2 hy;rcases AT with⟨rfl,AH⟩|⟨rfl,AH⟩
   ·refine AB.pure h (v:= .int k' (if m'>m then m' else m)) ?_ (.c7 ?_) rfl
    ·simp [execOp,ho,resolve,AH,Ay,invoke,builtin,Builtin.max_,Builtin.max2,v1,v2]
    ·simp only [E.den,hx,hy,AV.bin,true_or,if_true,BL];by_cases hh:m'>m
     ·simp only [hh,decide_true,AV.cond,if_true];exact .int i2 .nil
     ·simp only [hh,decide_false,AV.cond,if_false];exact .int i1 .nil
   ·refine AB.pure h (v:= .int k' (if m'<m then m' else m)) ?_ (.c7 ?_) rfl
    ·simp [execOp,ho,resolve,AH,Ay,invoke,builtin,Builtin.min_,Builtin.min2,v1,v2]
    ·simp only [E.den,hx,hy,AV.bin,true_or,if_true,BL];by_cases hh:m'<m
     ·simp only [hh,decide_true,AV.cond,if_true];exact .int i2 .nil
     ·simp only [hh,decide_false,AV.cond,if_false];exact .int i1 .nil
  ·exact absurd rfl hd
 ·cases he
end
inductive Cp (P:Program) (w:World):List TypeId→List Bool→List Value→List AV→List Nat→List Nat→Prop where
 |nil {fl}:Cp P w [] fl [] [] [] []
 |own {t ts fl el u us y ys top N rf hs}:fl.headD false=true→CI P t=some el→(Ca P el=true∧N= []∨Ca P el=false∧D5 P t=none)→CZ w el (P.cellsOf el) u y top N→Cp P w ts fl.tail us ys rf hs→Cp P w (t::ts) fl (u::us) (y::ys) (N++rf) (top++hs)
 |deep {t ts fl el e z l u us y ys top rf hs}:fl.headD false=true→CI P t=some el→Ca P el=false→D5 P t=some (.row e z l)→DC w [.row e z l] [u] [y] top→Cp P w ts fl.tail us ys rf hs→Cp P w (t::ts) fl (u::us) (y::ys) rf (top++hs)
 |rd {t ts fl u us y ys f rf hs}:(fl.headD false=true→CI P t=none)→Rd w [u] [y] f→Cp P w ts fl.tail us ys rf hs→Cp P w (t::ts) fl (u::us) (y::ys) (f++rf) hs
def PK (P:Program) (w:World) (t:TypeId) (fl:List Bool) (v:Value) (x:AV) (rf hs:List Nat):Prop:=
 ∃us ys,(if Aq P t then v= .agg us.toArray∧x= .agg ys∧ ∀u∈us,u.oneCell'=true else us= [v]∧ys= [x])∧Cp P w (A6 P t) fl us ys rf hs
def ES (P:Program) (w:World) (t:TypeId) (fl:List Bool) (v:Value) (x:AV) (rf hs:List Nat):Prop:=
 if GV P t fl then PK P w t fl v x rf hs else Rd w [v] [x] rf∧hs= []
inductive Jg (P:Program) (w:World):List TypeId→List Bool→List Value→List AV→List Nat→List Nat→Prop where
 |nil {fl}:Jg P w [] fl [] [] [] []
 |cons {t ts fl v vs x xs f h rf hs}:ES P w t fl v x f h→Jg P w ts (fl.drop (A6 P t).length) vs xs rf hs→Jg P w (t::ts) fl (v::vs) (x::xs) (f++rf) (h++hs)
theorem Cp.len {P:Program} {w:World} {ts:List TypeId} {fl:List Bool} {us:List Value} {ys:List AV} {rf hs:List Nat} (h:Cp P w ts fl us ys rf hs):us.length=ts.length∧ys.length=ts.length:=by induction h<;>simp_all
theorem Cp.inb {P:Program} {w:World} {ts:List TypeId} {fl:List Bool} {us:List Value} {ys:List AV} {rf hs:List Nat} (h:Cp P w ts fl us ys rf hs):(∀b∈rf,b<w.heap.size)∧ ∀b∈hs,b<w.heap.size:=by
 induction h with
 |nil=>simp
 |deep _ _ _ _ h _ ih=>
  refine⟨ih.1,fun b hb=> ?_⟩;rcases Ai.1 hb with hb|hb
  ·exact h.inb b hb
  ·exact ih.2 b hb
 |own _ _ _ h _ ih=>
  refine⟨fun b hb=> ?_,fun b hb=> ?_⟩
  ·rcases Ai.1 hb with hb|hb
   ·obtain⟨xs,_,_,_,⟨_,_,_,rfl⟩|⟨g,cap,C,_,_,_,_,_,_,_,hr⟩⟩:=h
    ·simp at hb
    ·exact hr.inb b hb
   ·exact ih.1 b hb
  ·rcases Ai.1 hb with hb|hb
   ·obtain⟨xs,_,_,_,⟨_,_,rfl,_⟩|⟨g,cap,C,_,_,_,hh,_,rfl,_⟩⟩:=h
    ·simp at hb
    ·simp at hb;subst hb;exact FM hh
   ·exact ih.2 b hb
 |rd _ h _ ih=>
  refine⟨fun b hb=> ?_,ih.2⟩;rcases Ai.1 hb with hb|hb
  ·exact h.inb b hb
  ·exact ih.1 b hb
structure AW where
 tag:Nat
 new:Option Value
 top:List Nat
 bq:Aj
def AW.pair (r:AW):Nat × Aj:=(r.tag,r.bq)
structure E5 (c c':Cx) (w':World) (recs:List AW):Prop where
 ρ:c'.ρ=c.ρ
 w:c'.w=w'
 G: ∀r∈recs,c'.G r.tag=⟨r.top, []⟩
 new: ∀r∈recs,∀hv,r.new=some hv→c'.K r.tag 0∧(∀g,c'.K r.tag g→g≤0)∧c'.H r.tag 0=hv
 K: ∀t g,c.K t g→c'.K t g∧c'.H t g=c.H t g
 old: ∀t,c.U t→ ∀g,c'.K t g→c.K t g
 kt: ∀r∈recs,r.new.isSome=true→c'.E r.tag=0
 iz: ∀r∈recs,r.new=none→c'.E r.tag=c.E r.tag+1
theorem E5.mono {c c':Cx} {w':World} {recs recs':List AW} (h:E5 c c' w' recs) (hs: ∀r∈recs',r∈recs):E5 c c' w' recs':=
 ⟨h.ρ,h.w,fun r hr=>h.G r (hs r hr),fun r hr=>h.new r (hs r hr),h.K,h.old,fun r hr=>h.kt r (hs r hr),fun r hr=>h.iz r (hs r hr)⟩
section
variable {P:Program} {c:Cx} {w':World}
theorem zHz {c':Cx} {t:Nat} {u:Value} {el sz:Nat} {y:AV} {top N:List Nat} (h:CZ w' el sz u y top N) (hk:c'.K t 0) (hh:c'.H t 0=u):SR c' [.own t 0] [u]:=by
 obtain⟨xs,_,_,_,⟨_,⟨a,rfl⟩,_⟩|⟨g,cap,C,rfl,_⟩⟩:=h
 ·exact .own hk hh .nil
 ·exact .own hk hh .nil
theorem Rp {nx:Nat} {mk:Nat→E} {ts:List TypeId} {fl:List Bool} {us:List Value} {ys:List AV} {rf hs:List Nat} (h:Cp P w' ts fl us ys rf hs): ∀(j:Nat),(∀i y,ys[i]?=some y→(mk (j+i)).den c.ρ=y)→
  ∃recs:List AW,(CO P nx mk j ts fl).2=recs.map AW.pair∧recs.flatMap AW.top=hs∧(∀r∈recs,nx+j≤r.tag∧r.tag<nx+j+ts.length∧r.new.isSome)∧(recs.map AW.tag).Nodup∧(∀r∈recs,r.new=us[r.tag-(nx+j)]?)∧
   ∀c',E5 c c' w' recs→(∀b∈rf,c'.ok b)→SR c' (CO P nx mk j ts fl).1 us∧ ∀r∈recs,Dh c' r.tag r.bq:=by
 induction h with
 |nil=>exact fun j _=>⟨[],rfl,rfl,by simp,by simp,by simp,fun c' _ _=>⟨.nil,by simp⟩⟩
 | @own t ts fl el u us y ys top N rf hs h1 h2 S3 h3 _ ih=>
  intro j Gb;obtain⟨recs,e1,e2,e3,e4,e4',e5⟩:=ih (j+1) (fun i y hy=>by rw [show j+1+i=j+(i+1)from by omega];exact Gb (i+1) y (by simpa using hy));have hy:=Gb 0 y rfl;have gM:SM P t el 0 0 (mk j)= .row el (P.cellsOf el) 0 (mk j) (Ca P el):=by
   unfold SM;rcases S3 with⟨h,_⟩|⟨h,h'⟩
   ·rw [if_pos h,h]
   ·rw [if_neg (by rw [h];simp),h',h]
  simp only [CO,h1,h2,gM];refine⟨⟨nx+j,some u,top, .row el (P.cellsOf el) 0 (mk j) (Ca P el)⟩::recs,by simp [e1,AW.pair],by simp [e2],fun r hr=> ?_, ?_,fun r hr=> ?_,fun c' ha Az=> ?_⟩
  ·rcases Ag.1 hr with rfl|hr
   ·simp
   ·have:=e3 r hr;simp only [Ap];exact⟨by omega,by omega,this.2.2⟩
  ·simp only [List.map_cons,List.nodup_cons];refine⟨fun hm=> ?_,e4⟩;obtain⟨r,hr,JL⟩:=List.mem_map.1 hm;have:=e3 r hr;omega
  ·rcases Ag.1 hr with rfl|hr
   ·simp
   ·rw [e4' r hr];have:=e3 r hr;rw [show r.tag-(nx+j)=(r.tag-(nx+(j+1)))+1 from by omega,List.getElem?_cons_succ]
  ·obtain⟨q1,q2⟩:=e5 c' (ha.mono fun r hr=>by simp [hr]) fun b hb=>Az b (by simp [hb]);obtain⟨k1,k2,k3⟩:=ha.new _ (List.mem_cons_self ..) u rfl;have kg:=ha.G _ (List.mem_cons_self ..);simp only at k1 k2 k3 kg;refine⟨(zHz h3 k1 k3).cons q1,fun r hr=> ?_⟩;rcases Ag.1 hr with rfl|hr
   ·refine⟨k1,k2,N, ?_,fun b hb=>Az b (by simp [hb]),fun hd=> ?_,fun _=>by rw [kg]⟩
    rotate_left
    ·rcases S3 with⟨_,h⟩|⟨h,_⟩
     ·subst h;exact⟨rfl,by rw [kg]⟩
     ·rw [h]at hd;cases hd
    rw [k3,kg,ha.w,ha.ρ];have Bv:(mk j).den c.ρ=y:=by simpa using hy
    rw [Bv];exact h3
   ·exact q2 r hr
 | @deep t ts fl el e z l u us y ys top rf hs h1 h2 S2 PR h3 _ ih=>
  intro j Gb;obtain⟨recs,e1,e2,e3,e4,e4',e5⟩:=ih (j+1) (fun i y hy=>by rw [show j+1+i=j+(i+1)from by omega];exact Gb (i+1) y (by simpa using hy));have hy:=Gb 0 y rfl;have gM:SM P t el 0 0 (mk j)= .deep e z l.toList 0 0 (mk j):=by unfold SM;rw [if_neg (by rw [S2];simp),PR]
  simp only [CO,h1,h2,gM];refine⟨⟨nx+j,some u,top, .deep e z l.toList 0 0 (mk j)⟩::recs,by simp [e1,AW.pair],by simp [e2],fun r hr=> ?_, ?_,fun r hr=> ?_,fun c' ha Az=> ?_⟩
  ·rcases Ag.1 hr with rfl|hr
   ·simp
   ·have:=e3 r hr;simp only [Ap];exact⟨by omega,by omega,this.2.2⟩
  ·simp only [List.map_cons,List.nodup_cons];refine⟨fun hm=> ?_,e4⟩;obtain⟨r,hr,JL⟩:=List.mem_map.1 hm;have:=e3 r hr;omega
  ·rcases Ag.1 hr with rfl|hr
   ·simp
   ·rw [e4' r hr];have:=e3 r hr;rw [show r.tag-(nx+j)=(r.tag-(nx+(j+1)))+1 from by omega,List.getElem?_cons_succ]
  ·obtain⟨q1,q2⟩:=e5 c' (ha.mono fun r hr=>by simp [hr]) Az;obtain⟨k1,k2,k3⟩:=ha.new _ (List.mem_cons_self ..) u rfl;have kg:=ha.G _ (List.mem_cons_self ..);have ke:=ha.kt _ (List.mem_cons_self ..) rfl;simp only at k1 k2 k3 kg ke;obtain⟨p1,p2,p3,rfl⟩:=h3.head;refine⟨(SR.own k1 k3 .nil).cons q1,fun r hr=> ?_⟩;rcases Ag.1 hr with rfl|hr
   ·refine⟨k1,k2,ke, ?_,by rw [kg]⟩;have Bv:(mk j).den c.ρ=y:=by simpa using hy
    rw [k3,kg,ha.w,ha.ρ,Bv,AY.cy];exact h3
   ·exact q2 r hr
 | @rd t ts fl u us y ys f rf hs h1 h3 _ ih=>
  intro j Gb;obtain⟨recs,e1,e2,e3,e4,e4',e5⟩:=ih (j+1) (fun i y hy=>by rw [show j+1+i=j+(i+1)from by omega];exact Gb (i+1) y (by simpa using hy));have hy:=Gb 0 y rfl;have eZ:CO P nx mk j (t::ts) fl=(.e (mk j)::(CO P nx mk (j+1) ts fl.tail).1,(CO P nx mk (j+1) ts fl.tail).2):=by
   simp only [CO];split
   ·rename_i h8 h9;rw [h1 h8]at h9;cases h9
   ·rfl
  rw [eZ];refine⟨recs,e1,e2,fun r hr=> ?_,e4,fun r hr=> ?_,fun c' ha Az=> ?_⟩
  ·have:=e3 r hr;simp only [Ap];exact⟨by omega,by omega,this.2.2⟩
  ·rw [e4' r hr];have:=e3 r hr;rw [show r.tag-(nx+j)=(r.tag-(nx+(j+1)))+1 from by omega,List.getElem?_cons_succ]
  ·obtain⟨q1,q2⟩:=e5 c' ha fun b hb=>Az b (by simp [hb]);have Bv:(mk j).den c.ρ=y:=by simpa using hy
   exact⟨(SR.e (f:=f) (by rw [ha.w,ha.ρ,Bv];exact h3) (fun b hb=>Az b (by simp [hb])) .nil).cons q1,q2⟩
theorem Pe {nx:Nat} {mk:Nat→E}: ∀(j:Nat) (ts:List TypeId) (fl:List Bool) (t:Nat) (e:Aj) {gs:Gd} {f:Aj},(t,e)∈(CO P nx mk j ts fl).2→e≠ .gd gs f
 |_, [],_,_,_,_,_,h=>by simp [CO]at h
 |j,u::ts,fl,t,e,gs,f,h=>by
  unfold CO at h;split at h
  ·rcases Ag.1 h with h|h
   ·cases h;unfold SM;split
    ·simp
    ·split<;>simp
   ·exact Pe _ _ _ _ _ h
  ·exact Pe _ _ _ _ _ h
theorem V6 {ρ:List AV} {x:E} {ys:List AV} (hx:x.den ρ= .agg ys): ∀i y,ys[i]?=some y→(DD x true (0+i)).den ρ=y:=by intro i y hy;simp [DD,E.den,hx,AV.fld,AV.cells,hy]
theorem zp8 {nx:Nat} {t:TypeId} {fl:List Bool} {x:E} {v:Value} {y:AV} {rf hs:List Nat} (h:ES P w' t fl v y rf hs) (hx:x.den c.ρ=y):
  ∃recs:List AW,(Pp P nx t fl x).2=recs.map AW.pair∧recs.flatMap AW.top=hs∧(∀r∈recs,nx≤r.tag∧r.tag<nx+(A6 P t).length∧r.new.isSome)∧(recs.map AW.tag).Nodup∧
   ∀c',E5 c c' w' recs→(∀b∈rf,c'.ok b)→SR c' [(Pp P nx t fl x).1] [v]∧ ∀r∈recs,Dh c' r.tag r.bq:=by
 unfold ES at h;unfold Pp;split at h
 ·rename_i hf;simp only [hf,if_true];obtain⟨us,ys,hg,hc⟩:=h;split at hg
  ·rename_i AE;obtain⟨rfl,rfl,CS⟩:=hg;obtain⟨recs,e1,e2,e3,e4,_,e5⟩:=Rp (c:=c) (nx:=nx) (mk:=DD x (Aq P t)) hc 0 (by rw [AE];exact V6 hx);refine⟨recs,e1,e2,fun r hr=>by have:=e3 r hr;exact⟨by omega,by omega,this.2.2⟩,e4,fun c' ha Az=> ?_⟩;obtain⟨q1,q2⟩:=e5 c' ha Az;rw [if_pos AE];exact⟨.agg CS (by rw [Bz.bb];exact q1) .nil,q2⟩
  ·rename_i AE;obtain⟨rfl,rfl⟩:=hg;have G5:Aq P t=false:=by simpa using AE
   obtain⟨recs,e1,e2,e3,e4,_,e5⟩:=Rp (c:=c) (nx:=nx) (mk:=DD x (Aq P t)) hc 0 (by
    intro i z hz;cases i with
    |zero=>simp at hz;subst hz;simp [DD,G5,hx]
    |succ i=>simp at hz)
   refine⟨recs,e1,e2,fun r hr=>by have:=e3 r hr;exact⟨by omega,by omega,this.2.2⟩,e4,fun c' ha Az=> ?_⟩;obtain⟨q1,q2⟩:=e5 c' ha Az;refine⟨?_,q2⟩;rw [if_neg AE];have hl:=q1.len;generalize (CO P nx (DD x (Aq P t)) 0 (A6 P t) fl).1=l at q1 hl
   match l,hl with
   | [s],_=>exact q1
 ·rename_i hf;simp only [hf,if_false,AM];obtain⟨h1,rfl⟩:=h;exact⟨[],rfl,rfl,by simp,by simp,fun c' ha Az=>⟨.e (f:=rf) (by rw [ha.w,ha.ρ,hx];exact h1) Az .nil,by simp⟩⟩
theorem zvd {ts:List TypeId} {fl:List Bool} {x:E} {vs:List Value} {ys:List AV} {rf hs:List Nat} (h:Jg P w' ts fl vs ys rf hs): ∀(nx i:Nat),(∀k y,ys[k]?=some y→(E.proj x (i+k)).den c.ρ=y)→
  ∃recs:List AW,(Nl P nx ts fl x i).2=recs.map AW.pair∧recs.flatMap AW.top=hs∧(∀r∈recs,nx≤r.tag∧r.tag<nx+(ts.flatMap (A6 P)).length∧r.new.isSome)∧(recs.map AW.tag).Nodup∧
   ∀c',E5 c c' w' recs→(∀b∈rf,c'.ok b)→SR c' (Nl P nx ts fl x i).1 vs∧ ∀r∈recs,Dh c' r.tag r.bq:=by
 induction h with
 |nil=>exact fun nx i _=>⟨[],rfl,rfl,by simp,by simp,fun c' _ _=>⟨.nil,by simp⟩⟩
 | @cons t ts fl v vs y ys f h rf hs h1 _ ih=>
  intro nx i hx;obtain⟨r1,a1,a2,a3,a4,a5⟩:=zp8 (c:=c) (nx:=nx) (x:= .proj x i) h1 (hx 0 y rfl);obtain⟨r2,b1,b2,b3,b4,b5⟩:=ih (nx+(A6 P t).length) (i+1) (fun k z hz=>by rw [show i+1+k=i+(k+1)from by omega];exact hx (k+1) z (by simpa using hz));simp only [Nl];refine⟨r1++r2,by simp [a1,b1],by simp [a2,b2],fun r hr=> ?_, ?_,fun c' ha Az=> ?_⟩
  ·simp only [List.flatMap_cons,As];rcases Ai.1 hr with hr|hr
   ·have:=a3 r hr;exact⟨this.1,by omega,this.2.2⟩
   ·have:=b3 r hr;exact⟨by omega,by omega,this.2.2⟩
  ·rw [List.map_append,List.nodup_append];refine⟨a4,b4,fun t1 Oy t2 Lf he=> ?_⟩;obtain⟨q1,GF,rfl⟩:=List.mem_map.1 Oy;obtain⟨q2,Fb,rfl⟩:=List.mem_map.1 Lf;have:=a3 q1 GF;have:=b3 q2 Fb;omega
  ·obtain⟨p1,p2⟩:=a5 c' (ha.mono fun r hr=>by simp [hr]) fun b hb=>Az b (by simp [hb]);obtain⟨q1,q2⟩:=b5 c' (ha.mono fun r hr=>by simp [hr]) fun b hb=>Az b (by simp [hb]);refine⟨p1.cons q1,fun r hr=> ?_⟩;rcases Ai.1 hr with hr|hr
   ·exact p2 r hr
   ·exact q2 r hr
end
theorem VT {α:Type} {f:α→List Nat}: ∀{l:List α},(l.flatMap f).Nodup→(∀a∈l,(f a).Nodup)∧ ∀(i j:Nat) (a b:α) (x:Nat),l[i]?=some a→l[j]?=some b→x∈f a→x∈f b→i=j
 | [],_=>⟨by simp,by simp⟩
 |a::l,h=>by
  rw [List.flatMap_cons,List.nodup_append]at h;obtain⟨h1,h2,h3⟩:=h;obtain⟨k1,k2⟩:=VT h2;refine⟨fun b hb=> ?_,fun i j p q x hi hj hp hq=> ?_⟩
  ·rcases Ag.1 hb with rfl|hb
   ·exact h1
   ·exact k1 b hb
  ·cases i with
   |zero=>
    cases j with
    |zero=>rfl
    |succ j=>simp at hi hj;subst hi;exact absurd rfl (h3 x hp x (List.mem_flatMap.2 ⟨q,List.mem_of_getElem? hj,hq⟩))
   |succ i=>
    cases j with
    |zero=>simp at hi hj;subst hj;exact absurd rfl (h3 x hq x (List.mem_flatMap.2 ⟨p,List.mem_of_getElem? hi,hp⟩))
    |succ j=>rw [k2 i j p q x (by simpa using hi) (by simpa using hj) hp hq]
theorem Sa {recs:List AW} (hn:(recs.map AW.tag).Nodup) {r:AW} (hr:r∈recs) (p:AW→Bool) (hp:p r=true) (Ee: ∀q,p q=true→q.tag=r.tag):recs.find? p=some r:=by
 induction recs with
 |nil=>simp at hr
 |cons q recs ih=>
  simp only [List.map_cons,List.nodup_cons]at hn;rw [List.find?_cons];rcases Ag.1 hr with rfl|hr
  ·simp [hp]
  ·have:p q=false:=by
    cases hq:p q with
    |false=>rfl
    |true=>exact absurd (List.mem_map.2 ⟨r,hr,(Ee q hq).symm⟩) hn.1
   rw [this];exact ih hn.2 hr
def Cx.du (c:Cx) (w':World) (recs:List AW):Cx:=
 {c with w:=w',G:=fun t=>(match recs.find? (fun r=>r.tag==t)with|some r=>⟨r.top, []⟩|none=>c.G t),K:=fun t g=>c.K t g∨ ∃r∈recs,r.tag=t∧r.new.isSome=true∧g=0,H:=fun t g=>(match recs.find? (fun r=>r.tag==t&&r.new.isSome)with|some r=>r.new.getD undef|none=>c.H t g),U:=fun t=>c.U t∨ ∃r∈recs,r.tag=t,E:=fun t=>match recs.find? (fun r=>r.tag==t)with|some r=>if r.new.isSome then 0 else c.E t+1|none=>c.E t}
section
variable {P:Program} {c:Cx} {n:Nat} {sl:Nat→SV} {hp:Nat→Option Aj} {a:Act} {w':World} {recs:List AW}
theorem Cx.dz (hn:(recs.map AW.tag).Nodup) {r:AW} (hr:r∈recs):(c.du w' recs).G r.tag=⟨r.top, []⟩:=by simp only [Cx.du];rw [Sa hn hr (fun q=>q.tag==r.tag) (by simp) (fun q hq=>by simpa using hq)]
theorem Cx.de {t:Nat} (ht: ∀r∈recs,r.tag≠t):(c.du w' recs).G t=c.G t:=by
 simp only [Cx.du];have:recs.find? (fun r=>r.tag==t)=none:=by rw [List.find?_eq_none];intro r hr;simpa using ht r hr
 rw [this]
theorem Cx.dv (hU: ∀t g,c.K t g→c.U t) (hn:(recs.map AW.tag).Nodup) (A2: ∀r∈recs,r.new.isSome=true→ ¬c.U r.tag):E5 c (c.du w' recs) w' recs:=by
 refine⟨rfl,rfl,fun r hr=>Cx.dz hn hr,fun r hr hv Xk=>⟨.inr ⟨r,hr,rfl,by simp [Xk],rfl⟩,fun g hg=> ?_, ?_⟩,fun t g hk=>⟨.inl hk, ?_⟩,fun t ht g hk=> ?_,fun r hr hs=> ?_,fun r hr hs=> ?_⟩
 ·rcases hg with hg|⟨_,_,_,_,rfl⟩
  ·exact absurd (hU _ _ hg) (A2 r hr (by simp [Xk]))
  ·exact Nat.le_refl _
 ·simp only [Cx.du];rw [Sa hn hr (fun q=>q.tag==r.tag&&q.new.isSome) (by simp [Xk]) (fun q hq=>by simp only [Ae,beq_iff_eq]at hq;exact hq.1)];simp [Xk]
 ·simp only [Cx.du];have:recs.find? (fun r=>r.tag==t&&r.new.isSome)=none:=by
   rw [List.find?_eq_none];rintro r hr hh;simp only [Ae,beq_iff_eq]at hh;exact A2 r hr hh.2 (hh.1▸hU t g hk)
  rw [this]
 ·rcases hk with hk|⟨r,hr,rfl,hh,_⟩
  ·exact hk
  ·exact absurd ht (A2 r hr hh)
 ·simp only [Cx.du];rw [Sa hn hr (fun q=>q.tag==r.tag) (by simp) (fun q hq=>by simpa using hq)];simp [hs]
 ·simp only [Cx.du];rw [Sa hn hr (fun q=>q.tag==r.tag) (by simp) (fun q hq=>by simpa using hq)];simp [hs]
theorem Cx.j3 {t:Nat} (ht: ∀r∈recs,r.tag≠t):(c.du w' recs).E t=c.E t:=by
 simp only [Cx.du];have:recs.find? (fun r=>r.tag==t)=none:=by rw [List.find?_eq_none];intro r hr;simpa using ht r hr
 rw [this]
theorem Rel.changes (h:Rel c n sl hp a) {hs:List Nat} {gs:Gd} (k:Bg c.ρ gs) (Dr:Mod hs c.w w') (hn:(recs.map AW.tag).Nodup) (A2: ∀r∈recs,r.new.isSome=true→ ¬c.U r.tag)
  (He: ∀b∈hs,∃r∈recs,b∈(c.G r.tag).top) (EJ:(recs.flatMap AW.top).Nodup) (Cb: ∀r∈recs,∀b∈r.top,(b∈hs∨c.w.heap.size≤b)∧b<w'.heap.size)
  (Bl: ∀r∈recs,∀hs f,r.bq≠ .gd hs f) (Bj:DJ c (c.du w' recs)→ ∀r∈recs,Dh (c.du w' recs) r.tag r.bq):
  Rel (c.du w' recs) n sl (Ba hp (recs.map fun r=>(r.tag,CP gs r.bq))) a∧DJ c (c.du w' recs):=by
 have aft:=Cx.dv (w':=w') h.b8 hn A2;have uF: ∀b∈hs,c.M b:=fun b hb=>by obtain⟨r,_,hr⟩:=He b hb;exact⟨_,hr⟩
 have BC: ∀b∈hs,c.B≤b∨c.Mu b:=fun b hb=>by obtain⟨r,_,hr⟩:=He b hb;exact h.gw.allow r.tag b (by simp [GI.own,hr])
 have BU:DJ c (c.du w' recs):=by
  refine⟨rfl,rfl,fun b hb Az=>⟨fun⟨t,ht⟩=> ?_,Az.2⟩,fun b hb Az=>Dr.block b hb fun hh=>Az.1 (uF b hh),aft.K,fun t g hk=> ?_⟩;by_cases hT: ∃r∈recs,r.tag=t
  ·obtain⟨r,hr,rfl⟩:=hT;rw [Cx.dz hn hr]at ht;rcases(Cb r hr b ht).1 with hh|hh
   ·exact Az.1 (uF b hh)
   ·omega
  ·rw [Cx.de fun r hr hh=>hT ⟨r,hr,hh⟩]at ht;exact Az.1 ⟨t,ht⟩
  ·by_cases hT: ∃r∈recs,r.tag=t
   ·obtain⟨r,hr,rfl⟩:=hT;have Dk:r.new=none:=by
     cases hh:r.new with
     |none=>rfl
     |some v=>exact absurd (h.b8 _ _ hk) (A2 r hr (by simp [hh]))
    rw [aft.iz r hr Dk];exact⟨by omega,fun h=>by omega⟩
   ·have tJ: ∀r∈recs,r.tag≠t:=fun r hr hh=>hT ⟨r,hr,hh⟩;rw [Cx.j3 tJ,Cx.de tJ];refine⟨Nat.le_refl _,fun _=>⟨rfl,fun b hb G7=>Dr.block b G7 fun hh=> ?_⟩⟩;obtain⟨r,hr,IN⟩:=He b hh;exact h.gw.ct t r.tag (fun hh=>hT ⟨r,hr,hh.symm⟩) b (by simp [GI.own,hb]) (by simp [GI.own,IN])
 have Bj:=Bj BU;have JQ: ∀r∈recs,∀e',(r.tag,e')∈(recs.map fun r=>(r.tag,CP gs r.bq))→e'=CP gs r.bq:=by
  intro r hr e' EV;obtain⟨q,hq,IT⟩:=List.mem_map.1 EV;simp only [Prod.mk.injEq]at IT;obtain⟨h1,rfl⟩:=IT;have e1:=Cx.dz (c:=c) (w':=w') hn hr;have:q=r:=by have f1:=Sa hn hr (fun q=>q.tag==r.tag) (by simp) (fun q hq=>by simpa using hq);have f2:=Sa hn hq (fun p=>p.tag==r.tag) (by simp [h1]) (fun p hp=>by rw [h1];simpa using hp);rw [f1]at f2;cases f2;rfl
  rw [this]
 refine⟨h.change (fun t=> ∃r∈recs,r.tag=t) BU ⟨Dr.os.trans h.base.os,Dr.tape.trans h.base.tape,Dr.output.trans h.base.output,Nat.le_trans h.base.size Dr.size,fun t v P6=>⟨.inl (h.base.pins t v P6).1,fun hk=> ?_⟩,fun b hb Ij=> ?_,h.base.pk,h.base.lo⟩
  (fun t ht=>⟨LJ fun e he=> ?_,Cx.de fun r hr hh=>ht ⟨r,hr,hh⟩,Cx.j3 fun r hr hh=>ht ⟨r,hr,hh⟩,fun g hg=> ?_⟩) (fun t ht b hb=>Dr.block b (h.gw.inb t b (by simp [GI.own,hb])) fun hh=> ?_) (fun t ht=> ?_) ⟨fun t=> ?_,fun t u MH b hb BX=> ?_,fun t b hb=> ?_,fun t b hb=> ?_⟩ (fun t g hk=> ?_) (fun t e he=> ?_),BU⟩
 ·have BV:=aft.old t (h.base.pins t v P6).1 0 hk;rw [(aft.K t 0 BV).2];exact(h.base.pins t v P6).2 BV
 ·refine(Dr.block b (Nat.lt_of_lt_of_le hb h.base.size) fun hh=> ?_).trans (h.base.block b hb Ij);rcases BC b hh with h1|h1
  ·exact absurd h1 (Nat.not_le.2 hb)
  ·exact Ij h1
 ·obtain⟨q,hq,IT⟩:=List.mem_map.1 he;simp only [Prod.mk.injEq]at IT;exact ht ⟨q,hq,IT.1⟩
 ·rcases hg with hg|⟨r,hr,JL,_⟩
  ·exact hg
  ·exact absurd ⟨r,hr,JL⟩ ht
 ·obtain⟨r,hr,G7⟩:=He b hh;exact h.gw.ct t r.tag (fun hh=>ht ⟨r,hr,hh.symm⟩) b (by simp [GI.own,hb]) (by simp [GI.own,G7])
 ·obtain⟨r,hr,rfl⟩:=ht;have DQ:=sL (hp:=hp) (l:=recs.map fun r=>(r.tag,CP gs r.bq)) (List.mem_map.2 ⟨r,hr,rfl⟩) (JQ r hr);rw [DQ];refine⟨fun e' TS=> ?_,fun Dk=> ?_⟩
  ·rw [(Sb k (Bl r hr)).1 TS];exact Bj r hr
  ·exact absurd ((Sb k (Bl r hr)).2 rfl) (Dk r.bq)
 ·by_cases hT: ∃r∈recs,r.tag=t
  ·obtain⟨r,hr,rfl⟩:=hT;rw [Cx.dz hn hr];simpa [GI.own]using(VT EJ).1 r hr
  ·rw [Cx.de fun r hr hh=>hT ⟨r,hr,hh⟩];exact h.gw.nodup t
 ·by_cases hT: ∃r∈recs,r.tag=t
  ·obtain⟨r,hr,rfl⟩:=hT;rw [Cx.dz hn hr]at hb;simp only [GI.own,List.append_nil]at hb;by_cases hV: ∃r∈recs,r.tag=u
   ·obtain⟨q,hq,rfl⟩:=hV;rw [Cx.dz hn hq]at BX;simp only [GI.own,List.append_nil]at BX;obtain⟨i,hi⟩:=List.getElem?_of_mem hr;obtain⟨j,hj⟩:=List.getElem?_of_mem hq;have:=(VT EJ).2 i j r q b hi hj hb BX;subst this;rw [hi]at hj;cases hj;exact MH rfl
   ·rw [Cx.de fun r hr hh=>hV ⟨r,hr,hh⟩]at BX;rcases(Cb r hr b hb).1 with hh|hh
    ·obtain⟨q,hq,W7⟩:=He b hh;exact h.gw.ct q.tag u (fun hh=>hV ⟨q,hq,hh⟩) b (by simp [GI.own,W7]) BX
    ·have:=h.gw.inb u b BX;omega
  ·rw [Cx.de fun r hr hh=>hT ⟨r,hr,hh⟩]at hb;by_cases hV: ∃r∈recs,r.tag=u
   ·obtain⟨q,hq,rfl⟩:=hV;rw [Cx.dz hn hq]at BX;simp only [GI.own,List.append_nil]at BX;rcases(Cb q hq b BX).1 with hh|hh
    ·obtain⟨r,hr,W8⟩:=He b hh;exact h.gw.ct r.tag t (fun hh=>hT ⟨r,hr,hh⟩) b (by simp [GI.own,W8]) hb
    ·have:=h.gw.inb t b hb;omega
   ·rw [Cx.de fun r hr hh=>hV ⟨r,hr,hh⟩]at BX;exact h.gw.ct t u MH b hb BX
 ·by_cases hT: ∃r∈recs,r.tag=t
  ·obtain⟨r,hr,rfl⟩:=hT;rw [Cx.dz hn hr]at hb;simp only [GI.own,List.append_nil]at hb;rcases(Cb r hr b hb).1 with hh|hh
   ·exact BC b hh
   ·exact .inl (Nat.le_trans h.base.size hh)
  ·rw [Cx.de fun r hr hh=>hT ⟨r,hr,hh⟩]at hb;exact h.gw.allow t b hb
 ·by_cases hT: ∃r∈recs,r.tag=t
  ·obtain⟨r,hr,rfl⟩:=hT;rw [Cx.dz hn hr]at hb;simp only [GI.own,List.append_nil]at hb;exact(Cb r hr b hb).2
  ·rw [Cx.de fun r hr hh=>hT ⟨r,hr,hh⟩]at hb;exact Nat.lt_of_lt_of_le (h.gw.inb t b hb) Dr.size
 ·rcases hk with hk|⟨r,hr,JL,_⟩
  ·exact .inl (h.b8 t g hk)
  ·exact .inr ⟨r,hr,JL⟩
 ·by_cases hT: ∃r∈recs,r.tag=t
  ·exact .inr hT
  ·rw [LJ]at he
   ·exact .inl (h.cw t e he)
   ·intro e' EV;obtain⟨q,hq,IT⟩:=List.mem_map.1 EV;simp only [Prod.mk.injEq]at IT;exact hT ⟨q,hq,IT.1⟩
end
def kQ (P:Program) (w:World) (t:TypeId):PM→Value→AV→List Nat→List Nat→Prop
 | .ro,v,x,rf,hs=>Rd w [v] [x] rf∧hs= []
 | .va own,v,x,rf,hs=>PK P w t own v x rf hs
 | .mu own,v,x,rf,hs=>PK P w t own v x rf hs
 | .bx own _,v,x,rf,hs=> ∃(ty:TypeId) (b:Nat) (C:Array Value) (ys:List AV) (h:List Nat),Kr P t=some ty∧v= .pointer (some ⟨b,0,none⟩)∧w.heap[b]?=some (.cells C ty (0,0))∧(∀u∈C.toList,u.oneCell'=true)∧x= .ref (.agg ys)∧
   Cp P w (A6 P ty) own C.toList ys rf h∧hs=b::h
inductive DE (P:Program) (w:World):List TypeId→List PM→List Bool→List Value→List AV→List Nat→List Nat→List Nat→Prop where
 |nil {ms lo}:DE P w [] ms lo [] [] [] [] []
 |cons {t ts ms lo v vs x xs f h rf lf hs}:kQ P w t (ms.headD .ro) v x f h→DE P w ts ms.tail lo.tail vs xs rf lf hs→DE P w (t::ts) ms lo (v::vs) (x::xs) (f++rf) lf (h++hs)
 |lent {t ts ms lo v vs x xs f rf lf hs}:lo.headD false=true→ms.headD .ro= .ro→Rd w [v] [x] f→DE P w ts ms.tail lo.tail vs xs rf lf hs→DE P w (t::ts) ms lo (v::vs) (x::xs) rf (f++lf) hs
 |free {ms lo v vs x xs f rf lf hs}:Rd w [v] [x] f→DE P w [] ms.tail lo.tail vs xs rf lf hs→DE P w [] ms lo (v::vs) (x::xs) (f++rf) lf hs
inductive GU (P:Program) (c:Cx):List TypeId→List Bool→List Value→List (Option RI)→Prop where
 |nil {fl}:GU P c [] fl [] []
 |row {t ts fl v vs u g el rs}:fl.headD false=true→CI P t=some el→(Ca P el=true∨D5 P t=none)→c.K u g→c.H u g=v→(∀g',c.K u g'→g'≤g)→GU P c ts fl.tail vs rs→GU P c (t::ts) fl (v::vs) (some (.fl u g el (P.cellsOf el) (Ca P el))::rs)
 |deep {t ts fl v vs u g el e z l ep rs}:fl.headD false=true→CI P t=some el→Ca P el=false→D5 P t=some (.row e z (AY.of l))→c.K u g→c.H u g=v→(∀g',c.K u g'→g'≤g)→c.E u=ep→GU P c ts fl.tail vs rs→GU P c (t::ts) fl (v::vs) (some (.dp u g e z l ep)::rs)
 |none {t ts fl v vs rs}:(fl.headD false=true→CI P t=none∨ ∃a,v= .slice a 0 0)→GU P c ts fl.tail vs rs→GU P c (t::ts) fl (v::vs) (none::rs)
inductive I6 (P:Program) (c:Cx):List TypeId→List PM→List Value→List PA→Prop where
 |nil {ts ms}:I6 P c ts ms [] []
 |ro {ts ms v vs bs}:ms.headD .ro= .ro→I6 P c ts.tail ms.tail vs bs→I6 P c ts ms (v::vs) bs
 |va {ts ms own v vs bs us}:ms.headD .ro= .va own→(∀u∈us,c.U u)→I6 P c ts.tail ms.tail vs bs→I6 P c ts ms (v::vs) (.va us::bs)
 |mu {t ts ms own v vs bs us rs}:ms.headD .ro= .mu own→(if Aq P t then v= .agg us.toArray else us= [v])→GU P c (A6 P t) own us rs→I6 P c ts ms.tail vs bs→I6 P c (t::ts) ms (v::vs) (.mu rs (Aq P t)::bs)
 |bx {t ts ms own own' ty v vs bs T b g olds}:ms.headD .ro= .bx own own'→Kr P t=some ty→v= .pointer (some ⟨b,0,none⟩)→c.K T 0→c.H T 0=v→(∀u∈olds,c.U u)→I6 P c ts ms.tail vs bs→I6 P c (t::ts) ms (v::vs) (.box T g own' ty olds::bs)
section
variable {P:Program} {c:Cx} {hp:Nat→Option Aj} {gs:Gd}
theorem cS {t el:TypeId} {d:DT} (BA:CI P t=some el) (h:D5 P t=some d):P.cellsOf el≠0∧(A6 P el).length=P.cellsOf el∧ ∃l:List DT,d= .row el (P.cellsOf el) (AY.of l)∧l.length=P.cellsOf el:=by
 have hu:=Ky BA;unfold D5 at h;split at h
 ·cases h
 simp only [dI,hu]at h;split at h
 ·cases h
 ·rename_i hh;simp only [not_or,Decidable.not_not,ne_eq]at hh;obtain⟨l,hl,rfl⟩:=Av.1 h;exact⟨hh.1,hh.2,l,rfl,by rw [mapM_len _ _ hl];exact hh.2⟩
where
 mapM_len {α β:Type} {f:α→Option β}: ∀(l:List α) (l':List β),l.mapM f=some l'→l'.length=l.length
  | [],l',h=>by simp at h;subst h;rfl
  |a::l,l',h=>by simp only [List.mapM_cons,Option.bind_eq_bind,Aw,Option.pure_def,Ah]at h;obtain⟨b,_,bs,Kj,rfl⟩:=h;simp [mapM_len l bs Kj]
theorem Cp.void {w:World} {t el:TypeId} {ts:List TypeId} {fl:List Bool} {a:Option Addr} {us:List Value} {ys:List AV} {rf hs:List Nat} (h1:fl.headD false=true) (h2:CI P t=some el) (hz:P.cellsOf el≠0) (h:Cp P w ts fl.tail us ys rf hs):Cp P w (t::ts) fl (.slice a 0 0::us) (.sl []::ys) rf ([]++hs):=by
 have BC:CZ w el (P.cellsOf el) (.slice a 0 0) (.sl []) [] []:=⟨[],rfl,by simp,by omega, .inl ⟨rfl,⟨a,rfl⟩,rfl,rfl⟩⟩
 cases hf:Ca P el with
 |true=>exact .own h1 h2 (.inl ⟨hf,rfl⟩) BC h
 |false=>
  cases hd:D5 P t with
  |none=>exact .own h1 h2 (.inr ⟨hf,hd⟩) BC h
  |some d=>obtain⟨_,_,l,rfl,hl⟩:=cS h2 hd;exact .deep h1 h2 hf hd (.void (by omega) (by rw [AY.bb];exact hl) .nil) h
theorem zsX {as_ bs:List Value} (h:Value.agg as_.toArray= .agg bs.toArray):as_=bs:=by
 have h1:as_.toArray=bs.toArray:=by injection h
 have:=congrArg Array.toList h1;simpa using this
theorem oO (eh:EH c hp) (k:Bg c.ρ gs) (hU: ∀t g,c.K t g→c.U t): ∀(ts:List TypeId) {cs:List SV} {fl:List Bool} {rs:List (Option RI)} {us:List Nat} {vs:List Value} {xs:EL} {m:Nat},Hs P hp gs ts cs fl=some (rs,us)→SR c cs vs→Cr hp gs m cs=some xs→m≤A1→
  ∃rf hs,Cp P c.w ts fl vs (xs.den c.ρ) rf hs∧(∀b∈rf,c.eu us b)∧hs=(CE rs).flatMap (fun t=>(c.G t).top)∧GU P c ts fl vs rs∧ ∀u∈CE rs,c.U u
 | [], [],fl,rs,us,vs,xs,m,h,hs,hx,hm=>by
  simp [Hs]at h;obtain⟨rfl,rfl⟩:=h;cases hs;cases m with
  |zero=>simp [Cr]at hx
  |succ m=>simp [Cr]at hx;subst hx;exact⟨[], [], .nil,by simp,by simp [CE], .nil,by simp [CE]⟩
 | [],s::cs,fl,rs,us,vs,xs,m,h,hs,hx,hm=>by simp [Hs]at h
 |t::ts, [],fl,rs,us,vs,xs,m,h,hs,hx,hm=>by simp [Hs]at h
 |t::ts,s::cs,fl,rs,us, [],xs,m,h,hs,hx,hm=>by have:=hs.len;simp at this
 |t::ts,s::cs,fl,rs,us,v::vs,xs,m,h,hs,hx,hm=>by
  obtain⟨j,y,ys,rfl,hy,Dw,rfl⟩:=Kz hx;obtain⟨r1,r2⟩:=hs.cg;unfold Hs at h;split at h
  ·cases h
  rename_i rs' us' Da;obtain⟨rf,Bb,q1,q2,q3,q4,q5⟩:=oO eh k hU ts Da r2 Dw (by omega);split at h
  ·rename_i hf;split at h
   ·rename_i r hr;simp only [Ah,Prod.mk.injEq]at h;obtain⟨rfl,rfl⟩:=h;unfold rQ at hr;split at hr
    ·cases hr
    rename_i el BA;split at hr
    ·cases hr
    rename_i hz;have empt: ∀a,v= .slice a 0 0→y.den c.ρ= .sl []→r=none→ ∃rf hs,Cp P c.w (t::ts) fl (v::vs) ((EL.cons y ys).den c.ρ) rf hs∧(∀b∈rf,c.eu us' b)∧hs=(CE (r::rs')).flatMap (fun t=>(c.G t).top)∧GU P c (t::ts) fl (v::vs) (r::rs')∧ ∀u∈CE (r::rs'),c.U u:=by rintro a rfl HO rfl;refine⟨rf, []++Bb, ?_,q2,by simpa [CE]using q3, .none (fun _=> .inr ⟨a,rfl⟩) q4,by simpa [CE]using q5⟩;rw [EL.den,HO];exact Cp.void hf BA (by omega) q1
    split at hr
    ·simp only [Ah]at hr;subst hr;cases r1 with
     |cf _=>exact empt _ rfl (by rw [LI hy];rfl) rfl
    ·simp only [Ah]at hr;subst hr;cases r1 with
     |emp _=>
      refine empt _ rfl ?_ rfl;cases j with
      |zero=>simp [Bq]at hy
      |succ j=>simp [Bq]at hy;subst hy;rfl
    ·rename_i u g;split at hr
     ·rename_i e z g' x d hl;split at hr
      ·rename_i hh;obtain⟨rfl,rfl,rfl,Ha⟩:=hh;simp only [Ah]at hr;subst hr;obtain⟨p1,p2,N,p3,p4,p5,_⟩:=eh u _ (CV hl k);have N5:Ca P e=true∨D5 P t=none:=Ha.imp (·.1) (by rintro⟨_,h⟩;simpa using h);have Ha:Ca P e=true∧N= []∨Ca P e=false∧D5 P t=none:=by
        rcases Ha with⟨h1,h2⟩|⟨h1,h2⟩
        ·exact .inl ⟨h1,(p5 h2).1⟩
        ·exact .inr ⟨h1,by simpa using h2⟩
       have Ho:y=x:=by
        cases j with
        |zero=>simp [Bq]at hy
        |succ j=>simp [Bq,Iw,hl]at hy;exact hy.symm
       subst Ho;have hv:c.H u g=v:=by
        cases r1 with
        |own _ k2 _=>exact k2
       rw [hv]at p3;refine⟨N++rf,(c.G u).top++Bb,Cp.own hf BA Ha p3 q1,fun b hb=> ?_,by simp [CE,RI.tag,q3], .row hf BA N5 p1 hv p2 q4,fun w hw=> ?_⟩
       ·rcases Ai.1 hb with hb|hb
        ·exact .inl (p4 b hb)
        ·exact q2 b hb
       simp only [CE,List.filterMap_cons,Option.map_some,RI.tag,Ag]at hw;rcases hw with rfl|hw
       ·exact hU _ _ p1
       ·exact q5 w hw
      ·cases hr
     ·rename_i e z l g' ep x hl;split at hr
      ·rename_i hh;obtain⟨rfl,Gg,DM⟩:=hh;have DM:=bL DM;simp only [Ah]at hr;subst hr;obtain⟨p1,p2,pE,p3,_⟩:=eh u _ (CV hl k);have Ho:y=x:=by
        cases j with
        |zero=>simp [Bq]at hy
        |succ j=>simp [Bq,Iw,hl]at hy;exact hy.symm
       subst Ho;have hv:c.H u g=v:=by
        cases r1 with
        |own _ k2 _=>exact k2
       rw [hv]at p3;refine⟨rf,(c.G u).top++Bb,Cp.deep hf BA Gg DM p3 q1,q2,by simp [CE,RI.tag,q3], .deep hf BA Gg DM p1 hv p2 pE q4,fun w hw=> ?_⟩;simp only [CE,List.filterMap_cons,Option.map_some,RI.tag,Ag]at hw;rcases hw with rfl|hw
       ·exact hU _ _ p1
       ·exact q5 w hw
      ·cases hr
     ·cases hr
    ·cases hr
   ·cases h
  ·rename_i hf;simp only [Ah,Prod.mk.injEq]at h;obtain⟨rfl,rfl⟩:=h;obtain⟨f,p1,p2⟩:=H5 eh k j hy r1 A1 (by omega);refine⟨f++rf,Bb,Cp.rd (fun hh=>absurd hh hf) p1 q1,fun b hb=> ?_,by simpa [CE]using q3, .none (fun hh=>absurd hh hf) q4,by simpa [CE]using q5⟩;rcases Ai.1 hb with hb|hb
   ·exact(p2 b hb).mono fun t ht=>by simp [ht]
   ·exact(q2 b hb).mono fun t ht=>by simp [ht]
theorem zsO (eh:EH c hp) (k:Bg c.ρ gs) (hU: ∀t g,c.K t g→c.U t) {t:TypeId} {s:SV} {v:Value} {fl:List Bool} {rs:List (Option RI)} {us:List Nat} {x:E} (hs:SR c [s] [v]) (hx:Bq hp gs A1 s=some x) (hg:(HZ s).2=Aq P t)
  (h:Hs P hp gs (A6 P t) (HZ s).1 fl=some (rs,us)):
  ∃rf hs,PK P c.w t fl v (x.den c.ρ) rf hs∧(∀b∈rf,c.eu us b)∧hs=(CE rs).flatMap (fun t=>(c.G t).top)∧(∃vs',(if Aq P t then v= .agg vs'.toArray else vs'= [v])∧GU P c (A6 P t) fl vs' rs)∧ ∀u∈CE rs,c.U u:=by
 have single: ∀(s:SV),SR c [s] [v]→Bq hp gs A1 s=some x→Aq P t=false→Hs P hp gs (A6 P t) [s] fl=some (rs,us)→ ∃rf hs,PK P c.w t fl v (x.den c.ρ) rf hs∧(∀b∈rf,c.eu us b)∧hs=(CE rs).flatMap (fun t=>(c.G t).top)∧(∃vs',(if Aq P t then v= .agg vs'.toArray else vs'= [v])∧GU P c (A6 P t) fl vs' rs)∧ ∀u∈CE rs,c.U u:=by
  intro s hs hx AE h;obtain⟨t0,iC⟩: ∃t0,A6 P t= [t0]:=by
   cases hh:A6 P t with
   |nil=>rw [hh]at h;simp [Hs]at h
   |cons t0 l=>
    cases l with
    |nil=>exact⟨t0,rfl⟩
    |cons t1 l=>rw [hh]at h;simp [Hs]at h
  rw [iC]at h;have key: ∃rf hs,Cp P c.w [t0] fl [v] [x.den c.ρ] rf hs∧(∀b∈rf,c.eu us b)∧hs=(CE rs).flatMap (fun t=>(c.G t).top)∧GU P c [t0] fl [v] rs∧ ∀u∈CE rs,c.U u:=by
   unfold Hs at h;simp only [Hs]at h;split at h
   ·rename_i hf;split at h
    ·rename_i r hr;simp only [Ah,Prod.mk.injEq]at h;obtain⟨rfl,rfl⟩:=h;unfold rQ at hr;split at hr
     ·cases hr
     rename_i el BA;split at hr
     ·cases hr
     rename_i hz;have empt: ∀a,v= .slice a 0 0→x.den c.ρ= .sl []→r=none→ ∃rf hs,Cp P c.w [t0] fl [v] [x.den c.ρ] rf hs∧(∀b∈rf,c.eu ([]:List Nat) b)∧hs=(CE [r]).flatMap (fun t=>(c.G t).top)∧GU P c [t0] fl [v] [r]∧ ∀u∈CE [r],c.U u:=by rintro a rfl HO rfl;refine⟨[], []++ [], ?_,by simp,by simp [CE], .none (fun _=> .inr ⟨a,rfl⟩) .nil,by simp [CE]⟩;rw [HO];exact Cp.void hf BA (by omega) .nil
     split at hr
     ·simp only [Ah]at hr;subst hr;cases hs with
      |cf _=>exact empt _ rfl (by rw [LI hx];rfl) rfl
     ·simp only [Ah]at hr;subst hr;cases hs with
      |emp _=>refine empt _ rfl ?_ rfl;simp [A1,Bq]at hx;subst hx;rfl
     ·rename_i u g;split at hr
      ·rename_i e z g' x0 d hl;split at hr
       ·rename_i hh;obtain⟨rfl,rfl,rfl,Ha⟩:=hh;simp only [Ah]at hr;subst hr;obtain⟨p1,p2,N,p3,p4,p5,_⟩:=eh u _ (CV hl k);have N5:Ca P e=true∨D5 P t0=none:=Ha.imp (·.1) (by rintro⟨_,h⟩;simpa using h);have Ha:Ca P e=true∧N= []∨Ca P e=false∧D5 P t0=none:=by
         rcases Ha with⟨h1,h2⟩|⟨h1,h2⟩
         ·exact .inl ⟨h1,(p5 h2).1⟩
         ·exact .inr ⟨h1,by simpa using h2⟩
        have Ho:x=x0:=by simp [A1,Bq,Iw,hl]at hx;exact hx.symm
        subst Ho;have hv:c.H u g=v:=by
         cases hs with
         |own _ k2 _=>exact k2
        rw [hv]at p3;refine⟨N++ [],(c.G u).top++ [],Cp.own hf BA Ha p3 .nil,fun b hb=> .inl (p4 b (by simpa using hb)),by simp [CE,RI.tag], .row hf BA N5 p1 hv p2 .nil,fun w hw=> ?_⟩;simp only [CE,List.filterMap_cons,Option.map_some,RI.tag,List.filterMap_nil,Ag,List.not_mem_nil,or_false]at hw;subst hw;exact hU _ _ p1
       ·cases hr
      ·rename_i e z l g' ep x0 hl;split at hr
       ·rename_i hh;obtain⟨rfl,Gg,DM⟩:=hh;have DM:=bL DM;simp only [Ah]at hr;subst hr;obtain⟨p1,p2,pE,p3,_⟩:=eh u _ (CV hl k);have Ho:x=x0:=by
         simp [A1,Bq,Iw,hl]at hx;exact hx.symm
        subst Ho;have hv:c.H u g=v:=by
         cases hs with
         |own _ k2 _=>exact k2
        rw [hv]at p3;refine⟨[],(c.G u).top++ [],Cp.deep hf BA Gg DM p3 .nil,by simp,by simp [CE,RI.tag], .deep hf BA Gg DM p1 hv p2 pE .nil,fun w hw=> ?_⟩;simp only [CE,List.filterMap_cons,Option.map_some,RI.tag,List.filterMap_nil,Ag,List.not_mem_nil,or_false]at hw;subst hw;exact hU _ _ p1
       ·cases hr
      ·cases hr
     ·cases hr
    ·cases h
   ·rename_i hf;simp only [Ah,Prod.mk.injEq]at h;obtain⟨rfl,rfl⟩:=h;obtain⟨f,p1,p2⟩:=H5 eh k A1 hx hs A1 (Nat.le_refl _);refine⟨f++ [], [],Cp.rd (fun hh=>absurd hh hf) p1 .nil,fun b hb=> ?_,by simp [CE], .none (fun hh=>absurd hh hf) .nil,by simp [CE]⟩;rw [List.append_nil]at hb;exact(p2 b hb).mono fun t ht=>by simp [ht]
  obtain⟨rf,Bb,q1,q2,q3,q4,q5⟩:=key;refine⟨rf,Bb,⟨[v], [x.den c.ρ], ?_,by rw [iC];exact q1⟩,q2,q3,⟨[v], ?_,by rw [iC];exact q4⟩,q5⟩
  ·rw [if_neg (by rw [AE];simp)];exact⟨rfl,rfl⟩
  ·rw [if_neg (by rw [AE];simp)]
 cases s with
 |agg cs=>
  simp only [HZ]at hg h;obtain⟨m,l,hm,hl,rfl⟩:=Wc hx;cases hs with
  |agg h9 h1 h8=>
   rename_i as_;have Ga:m≤A1:=by simp only [A1]at hm ⊢;omega
   obtain⟨rf,Bb,q1,q2,q3,q4,q5⟩:=oO (P:=P) eh k hU (A6 P t) h h1 hl Ga;refine⟨rf,Bb,⟨as_,l.den c.ρ, ?_,q1⟩,q2,q3,⟨as_, ?_,q4⟩,q5⟩
   ·rw [if_pos hg.symm];exact⟨rfl,rfl,h9⟩
   ·rw [if_pos hg.symm]
 |_=>exact single _ hs hx hg.symm h
end
end Go.Proofs.YtfdfahjmonlbiaaGreatDoor
end

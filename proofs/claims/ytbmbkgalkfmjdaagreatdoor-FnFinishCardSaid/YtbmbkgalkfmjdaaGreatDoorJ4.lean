/- Parts of a proof, joined: VX, WB, WC, WD, WE, WF, WG, WH, WI, WJ, WK, WL, WM, WN, WO. -/
import Derived.Test.YtbmbkgalkfmjdaaGreatDoorJ3
import Derived.Orders
import Derived.Lib.SliceRun
import Derived.Laws.Slices
import Derived.Laws.MakeOwn
import Derived.Laws.StructEq
set_option linter.unusedVariables false
set_option linter.unusedSimpArgs false
section
namespace Go.Proofs.YtbmbkgalkfmjdaaGreatDoor
open Go.RowKit
section
variable {P:Program} {c:Cx} {n nx:Nat} {sl sl0:Nat→SV} {hp hp0:Nat→Option Aj} {a:Act} {o:Oper} {gs:Gd} {e:A7} {sg:B0} {nv:Nat}
def Cx.gz (c:Cx) (w':World) (t:Nat) (O:List Nat):Cx:={c with w:=w',G:=fun u=>if u=t then⟨(c.G t).top,O⟩else c.G u,E:=fun u=>if u=t then c.E u+1 else c.E u}
theorem Rel.k8 (h:Rel c n sl hp a) {t:Nat} {e0:Aj} {b:Nat} {w':World} {O:List Nat} (AQ:CD c.ρ (hp t) e0) (CG:b∈(c.G t).top) (hO:O= []∨O=(c.G t).O) (hm:Mod [b] c.w w') (Cf:w'.heap.size=c.w.heap.size) (e1:Aj) (A5: ∀hs f,e1≠ .gd hs f)
  (he:DV c (c.gz w' t O)→Dn (c.gz w' t O) t e1):
  Rel (c.gz w' t O) n sl (Bd hp [(t,e1)]) a:=by
 have BH:b∈(c.G t).own:=by simp [GI.own,CG]
 have hG: ∀u,(c.gz w' t O).G u=if u=t then⟨(c.G t).top,O⟩else c.G u:=fun u=>rfl;have EZ: ∀u,((c.gz w' t O).G u).top=(c.G u).top:=by
  intro u;rw [hG];split
  ·rename_i hu;rw [hu]
  ·rfl
 have BY: ∀u,∀q∈((c.gz w' t O).G u).own,q∈(c.G u).own:=by
  intro u q hq;rw [hG]at hq;split at hq
  ·rename_i hu;subst hu;simp only [GI.own,Ai]at hq ⊢;rcases hq with hq|hq
   ·exact .inl hq
   ·rcases hO with rfl|rfl
    ·simp at hq
    ·exact .inr hq
  ·exact hq
 have B3:DV c (c.gz w' t O):=by
  refine⟨rfl,rfl,fun q _ hq=>⟨fun⟨u,hu⟩=>hq.1 ⟨u,by rw [EZ]at hu;exact hu⟩,hq.2⟩,fun q hq Aw=>hm.block q hq ?_,fun u g hu=>⟨hu,rfl⟩,fun u g hu=> ?_⟩
  ·simp only [List.mem_singleton];rintro rfl;exact Aw.1 ⟨t,CG⟩
  ·by_cases G7:u=t
   ·have e1:(c.gz w' t O).E u=c.E u+1:=by simp only [Cx.gz,if_pos G7]
    exact⟨by omega,fun h=>by omega⟩
   ·have e1:(c.gz w' t O).E u=c.E u:=by simp only [Cx.gz,if_neg G7]
    have e2:(c.gz w' t O).G u=c.G u:=by simp only [Cx.gz,if_neg G7]
    rw [e1];refine⟨Nat.le_refl _,fun _=>⟨e2,fun q hq EF=>hm.block q EF ?_⟩⟩;simp only [List.mem_singleton];rintro rfl;exact h.gw.cz t u (Ne.symm G7) q BH (by simp [GI.own,hq])
 have Dv: ∀u,Bd hp [(t,e1)] u=if u=t then some e1 else hp u:=fun u=>rfl;refine h.change (fun u=>u=t) B3 ⟨hm.os.trans h.base.os,hm.tape.trans h.base.tape,hm.output.trans h.base.output,Nat.le_trans h.base.size hm.size,h.base.pins,fun q hq IA=> ?_,h.base.pk,h.base.lo⟩
  (fun u hu=>⟨by rw [Dv,if_neg hu],by rw [hG,if_neg hu],by simp [Cx.gz,hu],fun g hg=>hg⟩) (fun u hu q hq=>hm.block q (h.gw.inb u q (by simp [GI.own,hq])) ?_) (fun u hu=> ?_) ⟨fun u=> ?_,fun u v fM q hq eX=>h.gw.cz u v fM q (BY u q hq) (BY v q eX),fun u q hq=>h.gw.allow u q (BY u q hq),fun u q hq=> ?_⟩ h.cj (fun u f hf=> ?_)
 ·refine(hm.block q (Nat.lt_of_lt_of_le hq h.base.size) ?_).trans (h.base.block q hq IA);simp only [List.mem_singleton];rintro rfl;rcases h.gw.allow t q BH with hh|hh
  ·exact absurd hh (Nat.not_le.2 hq)
  ·exact IA hh
 ·simp only [List.mem_singleton];rintro rfl;exact h.gw.cz t u (Ne.symm hu) q BH (by simp [GI.own,hq])
 ·subst hu;rw [Dv,if_pos rfl];refine⟨fun e' hr=> ?_,fun hn=> ?_⟩
  ·cases e1<;>first
    |(simp only [CD]at hr;subst hr;exact he B3)
    |exact absurd rfl (A5 _ _)
  ·cases e1<;>first
    |exact absurd rfl (A5 _ _)
    |exact absurd rfl (hn _)
 ·rw [hG];split
  ·rename_i hu;subst hu;have h0:=h.gw.nodup u;simp only [GI.own]at h0 ⊢;rcases hO with rfl|rfl
   ·rw [List.append_nil];exact(List.nodup_append.1 h0).1
   ·exact h0
  ·exact h.gw.nodup u
 ·show q<w'.heap.size;rw [Cf];exact h.gw.inb u q (BY u q hq)
 ·rw [Dv]at hf;split at hf
  ·rename_i hu;subst hu;cases hh:hp u with
   |none=>rw [hh]at AQ;exact AQ.elim
   |some e9=>exact h.c6 u e9 hh
  ·exact h.c6 u f hf
theorem Sq {α:Type} (L vs:List α) (p m:Nat) (h:p+vs.length≤m) (hm:m≤L.length):(setVs L p vs).take m=setVs (L.take m) p vs:=by
 apply List.ext_getElem?;intro j;have hl:(L.take m).length=m:=by rw [List.length_take];omega
 rw [List.getElem?_take,Sy (L.take m) vs p (by omega) j,Sy L vs p (by omega) j,List.getElem?_take];by_cases h1:p≤j∧j<p+vs.length
 ·rw [if_pos (by omega),if_pos h1,if_pos h1]
 ·rw [if_neg h1,if_neg h1]
theorem Rd.setVs {w:World} {L V:List Value} {X Y:List AV} {N f:List Nat} {p:Nat} (h:Rd w L X N) (k:Rd w V Y f) (hp:p+V.length≤L.length):
  ∃n1 n2 n3,N=n1++n2++n3∧Rd w (Go.Proofs.YtbmbkgalkfmjdaaGreatDoor.setVs L p V) (Go.Proofs.YtbmbkgalkfmjdaaGreatDoor.setVs X p Y) (n1++f++n3)∧Rd w ((L.drop p).take V.length) ((X.drop p).take V.length) n2:=by
 have hl:=h.len;have hk:=k.len;have e1:L=L.take p++((L.drop p).take V.length++L.drop (p+V.length)):=by rw [←List.drop_drop,List.take_append_drop,List.take_append_drop]
 have e2:X=X.take p++((X.drop p).take V.length++X.drop (p+V.length)):=by rw [←List.drop_drop,List.take_append_drop,List.take_append_drop]
 have h':=h;rw [e1,e2]at h';obtain⟨n1,m,rfl,g1,g2⟩:=Rd.gh (by simp;omega) h';obtain⟨n2,n3,rfl,g3,g4⟩:=Rd.gh (by simp;omega) g2;refine⟨n1,n2,n3,by simp, ?_,g3⟩;unfold Go.Proofs.YtbmbkgalkfmjdaaGreatDoor.setVs;rw [←hk];exact(g1.app k).app g4
theorem ZU {sz:Nat}: ∀(ys:List AV) (k:Nat) (z y:AV) (o:Nat) (vc:List AV),(∀y∈ys,y.cells.length=sz)→ys[k]?=some y→o+vc.length≤sz→z.cells=setVs y.cells o vc→AL (ys.set k z)=setVs (AL ys) (k*sz+o) vc
 | [],k,z,y,o,vc,_,h,_,_=>by simp at h
 |q::ys,0,z,y,o,vc,hs,h,ho,hz=>by simp at h;subst h;have hq:=hs q (by simp);simp only [AL,List.set_cons_zero,List.flatMap_cons,Nat.zero_mul,Nat.zero_add,hz];unfold setVs;rw [List.take_append_of_le_length (by omega),List.drop_append_of_le_length (by omega)];simp
 |q::ys,k+1,z,y,o,vc,hs,h,ho,hz=>by
  have hq:=hs q (by simp);have ih:=ZU ys k z y o vc (fun u hu=>hs u (by simp [hu])) (by simpa using h) ho hz;simp only [AL,List.set_cons_succ,List.flatMap_cons]at ih ⊢;rw [ih];unfold setVs;have e0:(k+1)*sz+o=q.cells.length+(k*sz+o):=by rw [hq,Nat.add_mul];omega
  rw [e0,List.take_length_add_append,Nat.add_assoc (q.cells.length),List.drop_length_add_append];simp
theorem oT {y x:AV} {k:Nat} {g:Bool} (hx:(∀cs,x≠ .agg cs)∨g=true) (hy:g=false→y.cells.length=1∧k=0∧x.cells= [x]):(y.dj k x g).cells=setVs y.cells k x.cells:=by
 cases g with
 |true=>simp [AV.dj,AV.cells,setVs]
 |false=>obtain⟨h1,h2,h3⟩:=hy rfl;subst h2;simp only [AV.dj,h3,setVs];rw [if_neg (by simp)];rw [h3];simp only [List.take_zero,List.nil_append,An,List.length_nil,Nat.zero_add];rw [List.drop_eq_nil_of_le (by omega)];simp
theorem zuH (h:Bt P c n nx sl hp a sl0 hp0 o gs) {t:TypeId} {x y:Operand} (ho:o.op= .store t x y) {b g:Nat} {ix:E} {sz k:Nat} {s:SV} (BI: ∃e z g c d,Dy hp0 gs b=some (.row e z g c d)) (hx:BV sl0 gs x=some (.c7 b g ix sz k)) (hy:BV sl0 gs y=some s)
  (he:NX P hp0 gs t (.c7 b g ix sz k) s=some e) (hc: ∀q∈e.ca,Cn.den c.ρ q):AB P o c n nx sl hp gs a e:=by
 have r1:=h.db hx (by simp [ho,Op.operands]);have r2:=h.db hy (by simp [ho,Op.operands]);simp only [NX]at he;split at he
 ·rename_i el sz' g' c0 d hl;split at he
  ·rename_i hh;obtain⟨rfl,rfl,rfl,Bp,hle,FX,Er⟩:=hh;split at he
   ·rename_i xe fz dx ck Cp;split at he
    ·cases he
    rename_i Fv;simp only [Ah]at he;subst he;have Fv: ∀f,(b,f)∉fz:=fun f hf=>Fv (by simp only [List.contains_eq_mem,decide_eq_true_eq];exact List.mem_map.2 ⟨_,hf,rfl⟩);obtain⟨f,q1,q2,⟨ts,q3⟩,q5⟩:=zry h.rel h.hp h.gs r2 Cp (fun q hq=>hc q (by simp [hq]));obtain⟨q3,q4⟩:=q3;have AQ:=Mm h.hp (Db hl h.gs);have Du:=h.rel.freeze h.hp h.gs q3;have M6:CD (c.cf (fz.map (·.1))).ρ (Bd hp fz b) (.row el sz g c0 d):=by rw [Ml Fv];exact AQ
    obtain⟨e1,e2,N,e3,e4,e5,e6⟩:=Du.ents b _ M6;obtain⟨o1,o2,o3,o4⟩:=pQ (P:=P) q1 Er q5;generalize hv:a.eval x=v at r1;cases r1 with
    |c7 k1 k2 k3 k4 k5 _=>
     rename_i m len cap kk kv k6;obtain⟨xs,p1,p2,p3,pcase⟩:=e3;have p1':c0.den c.ρ= .sl xs:=p1;rcases pcase with⟨_,⟨_,pv⟩,_⟩|⟨g9,cap9,C,pv,p4,p5,p6,p7,p8,p9,p10⟩
     ·exfalso;have:c.H b g=_:=pv;rw [k2]at this;cases this;omega
     ·have pv':c.H b g= .slice (some ⟨g9,0,none⟩) xs.length cap9:=pv;rw [k2]at pv';simp only [Value.slice.injEq,Ah,Addr.mk.injEq,and_true]at pv';obtain⟨rfl,rfl,rfl⟩:=pv';have G3:kv.toNat<xs.length:=by omega
      have GG:=N8 G3;generalize HC:(AV.sl xs).nth kv.toNat=yk at GG;have F5:=p2 yk (List.mem_of_getElem? GG);have Ex:(a.eval y).cells.toList.length=P.cellsOf t:=by simpa using o4
      have hmul:(kv.toNat+1)*sz≤xs.length*sz:=Nat.mul_le_mul_right _ (by omega);have Ee:C.toList.length=cap*sz:=by simpa using p7
      have GB:xs.length*sz≤cap*sz:=Nat.mul_le_mul_right _ p4;rw [Nat.add_mul]at hmul;have p6':c.w.heap[m]?=some (.cells C el (0,0)):=p6;obtain⟨m1,m2,m3⟩:=Y2 (vs:=(a.eval y).cells.toList) p6' (show(kv.toNat*sz+k)+_≤C.size by rw [Ex,p7];omega);have OR:(C.toList.take (xs.length*sz)).length=xs.length*sz:=by rw [List.length_take,Ee];omega
      obtain⟨n1,n2,n3,hN,s1,s2⟩:=Rd.setVs (p:=kv.toNat*sz+k) p10 o1 (by rw [OR,Ex];omega);have F0: ∀z,z<c.w.heap.size→(c.cf (fz.map (·.1))).ok z→(Dg c.w m (kv.toNat*sz+k) (a.eval y).cells.toList).heap[z]?=c.w.heap[z]?:=by intro z hz Aw;refine m1.block z hz ?_;simp only [List.mem_singleton];rintro rfl;exact Aw.1 ⟨b,by rw [p8];simp⟩
      have BF:(d&&dx)=true→n2= []∧f= []:=by
       intro E8;have tH:Cn.den c.ρ (.flat (.fld (.idx c0 ix) k (P.cellsOf t) (Ao P t)) (P.cellsOf t) (Ao P t)):=hc _ (by simp [E8]);obtain⟨f1,f2,f3,f4⟩:=tH;simp only [Ae]at E8;refine⟨?_,q2 E8.2⟩;have O3:((AL xs).drop (kv.toNat*sz+k)).take (a.eval y).cells.toList.length=(yk.cells.drop k).take (P.cellsOf t):=by rw [Ex];exact We xs p2 _ _ GG k (P.cellsOf t) hle
       rw [O3]at s2;have Ce:(E.fld (.idx c0 ix) k (P.cellsOf t) (Ao P t)).den c.ρ=yk.fld k (P.cellsOf t) (Ao P t):=by simp only [E.den,p1',k3,AV.idx,HC]
       rw [Ce]at f2;refine Ij s2 ?_;cases hg:Ao P t with
       |true=>rw [hg]at f2;simpa [AV.fld,AV.cells]using f2
       |false=>
        have h1:P.cellsOf t=1:=by rcases Er with h'|h';rw [hg]at h';cases h';exact h'
        rw [Ce]at f4;have f4:=f4 hg;rw [hg]at f4;have Ak:k<yk.cells.length:=by omega
        rw [h1,List.drop_eq_getElem_cons Ak,List.take_succ_cons,List.take_zero];simp only [List.mem_singleton,forall_eq];simpa [AV.fld,Ak]using f4
      have hz:(yk.dj k (xe.den c.ρ) (Ao P el)).cells=setVs yk.cells k (xe.den c.ρ).cells:=by
       refine oT ?_ (fun hg=> ?_)
       ·cases hg:Ao P el with
        |true=>exact .inr rfl
        |false=>
         left;rcases FX with h'|⟨_,h'⟩
         ·rw [hg]at h';cases h'
         ·have h':Ao P t=false:=by simpa using h'
          rw [h']at q5;exact fun cs=>(q5.1 cs)
       ·rcases FX with h'|⟨h1,h'⟩
        ·rw [hg]at h';cases h'
        ·have h':Ao P t=false:=by simpa using h'
         rw [h']at q5;have OC:P.cellsOf t=1:=by rcases Er with h2|h2;rw [h']at h2;cases h2;exact h2
         refine⟨by omega,by omega, ?_⟩;cases fS:xe.den c.ρ<;>first|rfl|exact absurd fS (q5.1 _)
      have ER:AL (xs.set kv.toNat (yk.dj k (xe.den c.ρ) (Ao P el)))=setVs (AL xs) (kv.toNat*sz+k) (xe.den c.ρ).cells:=
       ZU xs _ _ yk k _ p2 GG (by rw [o3];exact hle) hz
      have DZ:=Du.k8 (t:=b) (b:=m) (w':=Dg c.w m (kv.toNat*sz+k) (a.eval y).cells.toList) (O:=if(d&&dx)=true then((c.cf (fz.map (·.1))).G b).O else []) M6 (by rw [p8];simp) (by split;exact .inr rfl;exact .inl rfl) m1 m3
       (.row el sz g (.set c0 ix (.put (.idx c0 ix) k xe (Ao P el))) (d&&dx)) (by intros;simp) (fun G4=>by
        have Gt: ∀z∈n1++f++n3,(c.cf (fz.map (·.1))).ok z:=by
         intro z hz;simp only [Ai]at hz;rcases hz with(hz|hz)|hz
         ·exact e4 z (by rw [hN];simp [hz])
         ·exact q4 z hz
         ·exact e4 z (by rw [hN];simp [hz])
        have TJ: ∀z∈n1++f++n3,z<c.w.heap.size:=s1.inb;refine⟨e1,e2,n1++f++n3,⟨xs.set kv.toNat (yk.dj k (xe.den c.ρ) (Ao P el)), ?_,fun z fY=> ?_,p3, .inr ⟨m,cap,_, ?_,by simpa using p4,p5,m2, ?_, ?_, ?_, ?_⟩⟩,fun z hz=>G4.ok z (TJ z hz) (Gt z hz),fun E8=> ?_,fun E8=> ?_⟩
        ·show AV.da (c0.den c.ρ) (ix.den c.ρ) (((c0.den c.ρ).idx (ix.den c.ρ)).dj k (xe.den c.ρ) (Ao P el))=_;rw [p1',k3];simp only [AV.idx,HC,AV.da]
        ·rcases List.mem_or_eq_of_mem_set fY with fY|rfl
         ·exact p2 z fY
         ·rw [hz,SC _ _ _ (by rw [o3,F5];exact hle)];exact F5
        ·rw [List.length_set];exact k2
        ·rw [List.size_toArray,SC _ _ _ (by rw [Ex,Ee];omega),Array.length_toList];exact p7
        ·simpa [Cx.gz]using p8
        ·simp only [List.length_set,List.toList_toArray];rw [Sq _ _ _ _ (by rw [Ex];omega) (by rw [Ee];omega)];intro u hu;unfold setVs at hu;simp only [Ai]at hu;rcases hu with(hu|hu)|hu
         ·exact p9 u (List.mem_of_mem_take hu)
         ·exact o2 u hu
         ·exact p9 u (List.mem_of_mem_drop hu)
        ·simp only [List.length_set,List.toList_toArray];rw [Sq _ _ _ _ (by rw [Ex];omega) (by rw [Ee];omega),ER];exact s1.frame fun z hz=>F0 z (TJ z hz) (Gt z hz)
        ·obtain⟨z1,z2⟩:=BF E8;have hd:d=true:=by simp only [Ae]at E8;exact E8.1
         obtain⟨u1,u2⟩:=e5 hd;have W4:n1++f++n3=N:=by rw [hN,z1,z2]
         rw [W4];refine⟨u1.frame fun z hz=>F0 z (p10.inb z hz) (e4 z hz), ?_⟩;simp only [Cx.gz,if_true,E8];exact u2
        ·simp [Cx.gz,E8])
      intro next Q hk
      unfold Oper.wp;have hr:(execOp a.eval o).run P c.w= .ok .skip (Dg c.w m (kv.toNat*sz+k) (a.eval y).cells.toList):=by have:=nM (P:=P) (t:=t) (v:=a.eval y) (off:=kv.toNat*sz+k) p6' Bp o4 (by rw [o4,p7];omega) o2;simp [execOp,ho,hv,this]
      rw [hr,Oper.upon_skip];refine hk _ ((c.cf (fz.map (·.1))).gz (Dg c.w m (kv.toNat*sz+k) (a.eval y).cells.toList) b (if(d&&dx)=true then((c.cf (fz.map (·.1))).G b).O else [])) ⟨rfl,rfl,rfl,rfl,fun t ht=> .inl ht⟩ ?_;have:=DZ.put (v:=Go.undef) ((SR.undef .nil).mkGd []) o.dst;rw [Qa];exact this
   ·cases he
  ·cases he
 all_goals (rename_i hl;obtain⟨_,_,_,_,_,BG⟩:=BI;first|(rw [BG]at hl;cases hl;done)|exact absurd BG (hl _ _ _ _ _)|cases he)
end
def Lc (a:Act) (o:Oper):Bool:=match o.op with| .binOp _ _ x _ _=>(match a.eval x with| .slice none _ _=>true|_=>false)|_=>false
section
variable (P:Program) (sg:B0) (Rt:Nat→List AV→AV→Prop)
def Pv:Prop:= ∀(c:Cx) (n nx:Nat) (sl:Nat→SV) (hp:Nat→Option Aj) (a:Act) (sl0:Nat→SV) (hp0:Nat→Option Aj) (o:Oper) (gs:Gd) (e:A7) (nv:Nat),Bt P c n nx sl hp a sl0 hp0 o gs→ ¬c.U (nx+999)→MC P sg sl0 hp0 nv nx gs o=some e→
 (∀q∈e.ca,q.den c.ρ)→(∀cl,e.call=some cl→ ∃r,c.ρ[nv]?=some r∧IT Rt cl.fn ((EL.of cl.args).den c.ρ) c.ρ r)→(∀x,e.cm=some x→c.ρ[nv]?=some (.bool (Lc a o)))→AB P o c n nx sl hp gs a e
def UI:Prop:= ∀(c:Cx) (n nx:Nat) (sl:Nat→SV) (hp:Nat→Option Aj) (a:Act) (sl0:Nat→SV) (hp0:Nat→Option Aj) (o:Oper) (gs:Gd) (e:A7) (nv:Nat) (x:E),Bt P c n nx sl hp a sl0 hp0 o gs→MC P sg sl0 hp0 nv nx gs o=some e→e.cm=some x→Lc a o=true→x.den c.ρ= .sl []
end
theorem zuh {hp:Nat→Option Aj} (l:List (Nat × Aj)) (t:Nat):(Bd hp l t=hp t∧ ∀e,(t,e)∉l)∨ ∃e,(t,e)∈l∧Bd hp l t=some e:=by
 induction l generalizing hp with
 |nil=>exact .inl ⟨rfl,by simp⟩
 |cons p l ih=>
  obtain⟨u,f⟩:=p;rcases ih (hp:=fun v=>if v=u then some f else hp v)with⟨h1,h2⟩|⟨e,h1,h2⟩
  ·by_cases ht:t=u
   ·subst ht;refine .inr ⟨f,by simp, ?_⟩;have:Bd hp ((t,f)::l) t=Bd (fun v=>if v=t then some f else hp v) l t:=rfl;rw [this,h1];simp
   ·refine .inl ⟨?_,fun e he=> ?_⟩
    ·have:Bd hp ((u,f)::l) t=Bd (fun v=>if v=u then some f else hp v) l t:=rfl;rw [this,h1,if_neg ht]
    ·rcases Ag.1 he with he|he
     ·cases he;exact ht rfl
     ·exact h2 e he
  ·exact .inr ⟨e,by simp [h1],h2⟩
section
variable {P:Program} {sg:B0} {Rt:Nat→List AV→AV→Prop} {c:Cx} {n nx:Nat} {sl:Nat→SV} {hp:Nat→Option Aj} {a:Act} {ops:Array Oper} {o:Oper} {gs:Gd} {e:A7}
theorem Rel.skip (h:Rel c n sl hp a) (hg: ¬Bj c.ρ gs) {l:List (Nat × Aj)} (hl: ∀t x,(t,x)∈l→nx≤t∧t<nx+BN∧ ∃hs y,x= .gd hs y∧MF gs hs=true) (A1: ∀t,nx≤t→t<nx+BN→ ¬c.U t) (s:SV) (d:Option Nat):
  Rel {c with U:=fun t=>c.U t∨(nx≤t∧t<nx+BN)} n (CN n sl d (mkGd gs s)) (Bd hp l) (a.put d undef):=by
 have hs:SR {c with U:=fun t=>c.U t∨(nx≤t∧t<nx+BN)} [mkGd gs s] [undef]:=by
  cases gs with
  |nil=>exact absurd (Ff _) hg
  |cons g gs=>exact .gd (fun hh=>absurd hh hg) (fun _=>rfl) .nil
 refine Rel.put ?_ hs d;refine h.change (fun t=> ∃x,(t,x)∈l) ⟨rfl,rfl,fun _ _ hb=>hb,fun _ _ _=>rfl,fun _ _ hk=>⟨hk,rfl⟩,fun _ _ _=>⟨Nat.le_refl _,fun _=>⟨rfl,fun _ _ _=>rfl⟩⟩⟩ ⟨h.base.os,h.base.tape,h.base.output,h.base.size,fun t v hp=>⟨.inl (h.base.pins t v hp).1,(h.base.pins t v hp).2⟩,h.base.block,h.base.pk,h.base.lo⟩ (fun t ht=> ?_) (fun _ _ _ _=>rfl) (fun t ht=> ?_) ⟨h.gw.nodup,h.gw.cz,h.gw.allow,h.gw.inb⟩ (fun t g hk=> .inl (h.cj t g hk)) (fun t x hx=> ?_)
 ·exact⟨Ml fun x hx=>ht ⟨x,hx⟩,rfl,rfl,fun g hk=>hk⟩
 ·obtain⟨x,hx⟩:=ht;rcases zuh (hp:=hp) l t with⟨_,h2⟩|⟨x',h1,h2⟩
  ·exact absurd hx (h2 x)
  ·obtain⟨q1,q2,hs,y,rfl,BY⟩:=hl t x' h1;have Dt: ∀e',¬CD c.ρ (Bd hp l t) e':=by
    rw [h2];exact fun e' hr=>hg (aM BY hr.1)
   refine⟨fun e' hr=>absurd hr (Dt e'),fun _=>h.off t fun e' hr=> ?_⟩;cases hh:hp t with
   |none=>rw [hh]at hr;exact hr.elim
   |some e9=>exact A1 t q1 q2 (h.c6 t e9 hh)
 ·rcases zuh (hp:=hp) l t with⟨h1,_⟩|⟨x',h1,_⟩
  ·rw [h1]at hx;exact .inl (h.c6 t x hx)
  ·obtain⟨q1,q2,_⟩:=hl t x' h1;exact .inr ⟨q1,q2⟩
def WU (ρ:List AV) (ops:Array Oper) (o:Oper) (a:Act):Option Gd→Prop
 |none=>Region.wanted o (yielded ops a.tmps)=false
 |some gs=>(Bj ρ gs→Region.wanted o (yielded ops a.tmps)=true)∧(¬Bj ρ gs→Region.wanted o (yielded ops a.tmps)=false)
theorem pV {σ:St} {r:Option Gd} (hg:P9 σ ops o=some r) (hs: ∀j want d,o.guard=some (j,want)→(ops[j]?).bind (·.dst)=some d→SR c [BJ σ d] [a.tmps.getD d undef]):WU c.ρ ops o a r:=by
 unfold P9 at hg;cases Hr:o.guard with
 |none=>rw [Hr]at hg;simp only [Ah]at hg;subst hg;exact⟨fun _=>by simp [Region.wanted,Hr],fun hn=>absurd (Ff _) hn⟩
 |some jw=>
  obtain⟨j,want⟩:=jw;rw [Hr]at hg;simp only at hg;cases hd:(ops[j]?).bind (·.dst)with
  |none=>rw [hd]at hg;simp only [Ah]at hg;subst hg;simp [WU,Region.wanted,Hr,yielded,hd]
  |some d=>
   rw [hd]at hg;simp only at hg;have hr:=hs j want d Hr hd;have hw: ∀v,a.tmps.getD d undef=v→Region.wanted o (yielded ops a.tmps)=(match v with| .bool b=>b==want|_=>false):=by
    intro v hv;simp only [Region.wanted,Hr,yielded,hd,Aa];rw [Array.getD_eq_getD_getElem?]at hv;cases hq:a.tmps[d]? with
    |none=>rw [hq]at hv;simp at hv;subst hv;simp [undef]
    |some u=>rw [hq]at hv;simp at hv;subst hv;cases u<;>simp
   generalize a.tmps.getD d undef=v at hr hw;have hw:=hw v rfl;have LI:v=undef→Region.wanted o (yielded ops a.tmps)=false:=by rintro rfl;rw [hw];simp [undef]
   have H7: ∀x f,Rd c.w [v] [x] f→(x= .bool want→Region.wanted o (yielded ops a.tmps)=true)∧(x≠ .bool want→Region.wanted o (yielded ops a.tmps)=false):=by
    intro x f hx;refine⟨fun h=> ?_,fun h=> ?_⟩
    ·rw [hw,IQ hx h];simp
    ·rw [hw];cases v<;>simp only;rename_i b;cases hx with
     |bool _=>simpa using fun hh=>h (by rw [hh])
   split at hg
   ·rename_i b CV;rw [CV]at hr;cases hr with
    |e h1 _ _=>
     simp only [Ah]at hg;subst hg;obtain⟨q1,q2⟩:=H7 _ _ h1;simp only [E.den,AV.bool.injEq]at q1 q2;split
     ·rename_i hb;simp only [beq_iff_eq]at hb;exact⟨fun _=>q1 hb,fun hn=>absurd (Ff _) hn⟩
     ·rename_i hb;simp only [beq_iff_eq]at hb;exact q2 (by simpa using hb)
   ·rename_i x _ CV;rw [CV]at hr;cases hr with
    |e h1 _ _=>simp only [Ah]at hg;subst hg;obtain⟨q1,q2⟩:=H7 _ _ h1;exact⟨fun hh=>q1 (hh (x,want) (by simp)),fun hn=>q2 fun hh=>hn (by intro g hg;simp at hg;subst hg;exact hh)⟩
   ·rename_i Bh s CV;rw [CV]at hr;cases hr with
    |gd h1 h2 _=>
     split at hg
     ·rename_i hf;simp only [Ah]at hg;subst hg;refine LI (h2 fun hk=> ?_);simp only [uI,List.any_eq_true]at hf;obtain⟨g,hg,dH⟩:=hf;have:=hk g hg;split at dH
      ·rename_i b hb;rw [hb]at this;simp only [E.den,AV.bool.injEq]at this;simp [this]at dH
      ·cases dH
     ·split at hg
      ·rename_i b;simp only [Ah]at hg;subst hg;by_cases hk:Bj c.ρ Bh
       ·have h1:=h1 hk;cases h1 with
        |e h1 _ _=>
         obtain⟨q1,q2⟩:=H7 _ _ h1;simp only [E.den,AV.bool.injEq]at q1 q2;split
         ·rename_i hb;simp only [beq_iff_eq]at hb;exact⟨fun _=>q1 hb,fun hn=>absurd hk hn⟩
         ·rename_i hb;simp only [beq_iff_eq]at hb;exact q2 (by simpa using hb)
       ·split
        ·exact⟨fun hh=>absurd hh hk,fun _=>LI (h2 hk)⟩
        ·exact LI (h2 hk)
      ·rename_i x _;simp only [Ah]at hg;subst hg;by_cases hk:Bj c.ρ Bh
       ·have h1:=h1 hk;cases h1 with
        |e h1 _ _=>obtain⟨q1,q2⟩:=H7 _ _ h1;exact⟨fun hh=>q1 (hh (x,want) (by simp)),fun hn=>q2 fun hh=>hn (by intro g hg;rcases Ag.1 hg with rfl|hg;exact hh;exact hk g hg)⟩
       ·exact⟨fun hh=>absurd (fun g hg=>hh g (by simp [hg])) hk,fun _=>LI (h2 hk)⟩
      ·cases hg
   ·cases hg
theorem uT (AS:Pv P sg Rt) {Q:Exit→Act→World→Prop} {K:Act→World→Prop} {i nv:Nat} (hi:ops[i]?=some o) (As:Rel c n sl hp a) {sl0:Nat→SV} {hp0:Nat→Option Aj} (ED:WU c.ρ ops o a (some gs))
  (CV: ∀t,Operand.tmp t∈o.op.operands→sl0 t=sl t) (hhp: ∀t e,hp0 t=some e→hp t=some e) (A1: ∀t,nx≤t→t<nx+BN→ ¬c.U t)
  (he:MC P sg sl0 hp0 nv nx gs o=some e) (Bn:gs≠ []→ ∀t x,(t,x)∈e.bu→nx≤t∧t<nx+BN∧ ∃hs y,x= .gd hs y∧MF gs hs=true)
  (hc:Bj c.ρ gs→ ∀q∈e.ca,q.den c.ρ) (Be: ∀cl,e.call=some cl→ ∃r,c.ρ[nv]?=some r∧(Bj c.ρ gs→IT Rt cl.fn ((EL.of cl.args).den c.ρ) c.ρ r)) (CU: ∀x,e.cm=some x→Bj c.ρ gs→c.ρ[nv]?=some (.bool (Lc a o)))
  (hK: ∀a' c',Nv c c' nx→Rel c' n (CN n sl o.dst (mkGd gs e.val)) (Bd hp e.bu) a'→K a' c'.w):wpOp P ops Q i K a c.w:=by
 unfold wpOp;simp only [hi];by_cases hg:Bj c.ρ gs
 ·rw [if_pos (ED.1 hg)];exact .inl (AS c n nx sl hp a sl0 hp0 o gs e nv ⟨As,hg,CV,hhp,fun t h1 h2=>A1 t h1 (by simp only [BN];omega)⟩ (A1 _ (by omega) (by simp [BN])) he (hc hg) (fun cl AF=>by obtain⟨r,h1,h2⟩:=Be cl AF;exact⟨r,h1,h2 hg⟩) (fun x hx=>CU x hx hg) _ _ hK)
 ·rw [if_neg (by rw [ED.2 hg];simp)];have A5:gs≠ []:=by rintro rfl;exact hg (Ff _)
  exact hK _ {c with U:=fun t=>c.U t∨(nx≤t∧t<nx+BN)} ⟨rfl,rfl,rfl,rfl,fun t ht=>ht⟩ (As.skip hg (Bn A5) A1 e.val o.dst)
end
def Cx.ext (c:Cx) (τ:List AV):Cx:={c with ρ:=c.ρ++τ}
theorem den_app {ρ τ:List AV} {x:E} (h:x.sc ρ.length=true):x.den (ρ++τ)=x.den ρ:=by have:=E.bb ρ τ [] x h;rw [List.append_nil]at this;exact this
theorem zCo {ρ τ:List AV} {x:EL} (h:x.sc ρ.length=true):x.den (ρ++τ)=x.den ρ:=by have:=EL.bb ρ τ [] x h;rw [List.append_nil]at this;exact this
theorem Mh {ρ τ:List AV} {gs:Gd} (h:U0 ρ.length gs=true):Bj (ρ++τ) gs↔Bj ρ gs:=by simp only [U0,AG]at h;exact⟨fun k g hg=>by rw [←den_app (τ:=τ) (h g hg)];exact k g hg,fun k g hg=>by rw [den_app (h g hg)];exact k g hg⟩
theorem BD.iq {n:Nat}: ∀{cs:BD},cs.sc n=true→ ∀s∈cs.toList,s.sc n=true
 | .nil,_,s,h=>by simp [BD.toList]at h
 | .cons s cs,h,u,hu=>by
  simp only [BD.sc,Ae]at h;simp only [BD.toList,Ag]at hu;rcases hu with rfl|hu
  ·exact h.1
  ·exact BD.iq h.2 u hu
section
variable {c:Cx} {n:Nat} {sl:Nat→SV} {hp:Nat→Option Aj} {a:Act} {τ:List AV}
theorem I0.ext {t g:Nat} {p:Ot} {v:Value} (hs:(match p with|some q=>q.1.sc c.ρ.length|none=>true)=true) (h:I0 c t g p v):I0 (c.ext τ) t g p v:=by
 cases p with
 |none=>exact trivial
 |some p=>obtain⟨i,z,o⟩:=p;obtain⟨b,n,cap,C,ty,fz,kk,k,h1,h2,h3,h4,h5⟩:=h;exact⟨b,n,cap,C,ty,fz,kk,k,h1,h2,h3,by show i.den (c.ρ++τ)=_;rw [den_app hs];exact h4,h5⟩
theorem SR.ext {ss:List SV} {vs:List Value} (h:SR c ss vs):(∀s∈ss,s.sc c.ρ.length=true)→SR (c.ext τ) ss vs:=by
 have tl: ∀{s:SV} {ss:List SV},(∀x∈s::ss,x.sc c.ρ.length=true)→ ∀x∈ss,x.sc c.ρ.length=true:=fun h x hx=>h x (by simp [hx]);have hd: ∀{s:SV} {ss:List SV},(∀x∈s::ss,x.sc c.ρ.length=true)→s.sc c.ρ.length=true:=fun h=>h _ (by simp);have hρ:(c.ext τ).ρ=c.ρ++τ:=rfl
 induction h with
 |nil=>exact fun _=> .nil
 |undef _ ih=>exact fun hs=> .undef (ih (tl hs))
 |e h1 h2 _ ih=>exact fun hs=> .e (by rw [hρ,den_app (hd hs)];exact h1) h2 (ih (tl hs))
 |cq _ ih=>exact fun hs=> .cq (ih (tl hs))
 |emp _ ih=>exact fun hs=> .emp (ih (tl hs))
 |own h1 h2 _ ih=>exact fun hs=> .own h1 h2 (ih (tl hs))
 |cu h1 h2 _ ih=>exact fun hs=> .cu h1 h2 (ih (tl hs))
 |c7 h1 h2 h3 h4 h5 _ ih=>exact fun hs=> .c7 h1 h2 (by rw [hρ,den_app (hd hs)];exact h3) h4 h5 (ih (tl hs))
 |du h1 h2 h3 h4 h5 h6 _ ih=>intro hs;have:=hd hs;simp only [SV.sc,Ae]at this;exact .du (by rw [hρ,den_app this.1];exact h1) h2 (by rw [hρ,den_app this.2];exact h3) h4 h5 (by rw [hρ,den_app this.1];exact h6) (ih (tl hs))
 |dr h1 h2 _ ih=>exact fun hs=> .dr (by rw [hρ,den_app (hd hs)];exact h1) h2 (ih (tl hs))
 |agg h9 _ _ ih1 ih2=>exact fun hs=> .agg h9 (ih1 (BD.iq (hd hs))) (ih2 (tl hs))
 |tup _ _ ih1 ih2=>exact fun hs=> .tup (ih1 (BD.iq (hd hs))) (ih2 (tl hs))
 |fn _ _ ih1 ih2=>exact fun hs=> .fn (ih1 (BD.iq (hd hs))) (ih2 (tl hs))
 |gd _ h2 _ ih1 ih2=>intro hs;have:=hd hs;simp only [SV.sc,Ae]at this;exact .gd (fun hg=>ih1 ((Mh this.1).1 hg) (by simpa using this.2)) (fun hg=>h2 fun k=>hg ((Mh this.1).2 k)) (ih2 (tl hs))
 | @via t g n p x v ss vs h1 h2 h3 _ ih=>intro hs;have:=hd hs;simp only [SV.sc,Ae]at this;refine .via h1 h2 (fun he=> ?_) (ih (tl hs));obtain⟨q1,q2⟩:=h3 he;exact⟨by rw [hρ,den_app this.2];exact q1,I0.ext (τ:=τ) this.1 q2⟩
 | @vptr t g n p x i sz o v ss vs h1 h2 h3 _ ih=>intro hs;have:=hd hs;simp only [SV.sc,Ae]at this;refine .vptr h1 h2 (fun he=> ?_) (ih (tl hs));obtain⟨b,off,len,cap,kk,k,q1,q2,q3,q4,q5,q6,q7⟩:=h3 he;exact⟨b,off,len,cap,kk,k,by rw [hρ,den_app this.1.2];exact q1,I0.ext (τ:=τ) this.1.1 q2,by rw [hρ,den_app this.2];exact q3,q4,q5,by rw [hρ,den_app this.1.2];exact q6,q7⟩
 |wown h1 h2 h3 h4 h5 h6 _ ih=>exact fun hs=> .wown h1 h2 (by rw [hρ,den_app (hd hs)];exact h3) h4 h5 h6 (ih (tl hs))
 | @lent i _ _ _ h1 _ ih=>exact fun hs=> .lent (by rw [hρ,den_app (x:= .var i) (by simpa [SV.sc,E.sc]using hd hs)];exact h1) (ih (tl hs))
theorem Dn.ext {t:Nat} {e:Aj} (h:Dn c t e) (hs:e.sc c.ρ.length=true):Dn (c.ext τ) t e:=by
 have hρ:(c.ext τ).ρ=c.ρ++τ:=rfl;cases e with
 |box ty g cs=>obtain⟨b,C,h1,h2,h3,h4,h5,h6,h7⟩:=h;exact⟨b,C,h1,h2,h3,h4,h5,h6,h7.ext (by simpa [Aj.sc]using hs)⟩
 |row ety sz g x d=>obtain⟨h1,h2,N,h3,h4,h5⟩:=h;exact⟨h1,h2,N,by rw [hρ,den_app hs];exact h3,h4,h5⟩
 |cf g x=>obtain⟨h1,⟨f,h2,h3⟩,h4⟩:=h;exact⟨h1,⟨f,by rw [hρ,den_app hs];exact h2,h3⟩,h4⟩
 |gd gs e=>exact h
 |dead=>exact h
 |deep e z l g ep x=>obtain⟨h1,h2,h3,h4,h5⟩:=h;exact⟨h1,h2,h3,by rw [hρ,den_app hs];exact h4,h5⟩
 |hol e z l g ep x i o u=>simp only [Aj.sc,Ae]at hs;obtain⟨h1,h2,h3,h4,h5⟩:=h;exact⟨h1,h2,h3,by rw [hρ,den_app hs.1,den_app hs.2];exact h4,h5⟩
theorem zE7 {ρ:List AV} {e0 e:Aj} (hs:e0.sc ρ.length=true):CD (ρ++τ) (some e0) e↔CD ρ (some e0) e:=by
 cases e0 with
 |gd gs x=>simp only [Aj.sc,Ae]at hs;simp only [CD];rw [Mh hs.1]
 |_=>simp [CD]
theorem Rel.ext (h:Rel c n sl hp a) (h1: ∀i,(sl i).sc c.ρ.length=true) (h2: ∀t e,hp t=some e→e.sc c.ρ.length=true) (τ:List AV):Rel (c.ext τ) n sl hp a:=by
 have key: ∀t e,CD (c.ρ++τ) (hp t) e↔CD c.ρ (hp t) e:=by
  intro t e;cases hh:hp t with
  |none=>exact Iff.rfl
  |some e0=>exact zE7 (h2 t e0 hh)
 refine⟨h.defers,h.size,⟨h.base.os,h.base.tape,h.base.output,h.base.size,h.base.pins,h.base.block,h.base.pk,h.base.lo⟩,fun i=>(h.de i).ext (by simpa using h1 i),fun t e hr=> ?_,fun t hn=>h.off t fun e hr=>hn e ((key t e).2 hr),⟨h.gw.nodup,h.gw.cz,h.gw.allow,h.gw.inb⟩,h.cj,h.c6⟩;have C7:=(key t e).1 hr;have he:=h.ents t e C7;cases hh:hp t with
 |none=>rw [hh]at C7;exact C7.elim
 |some e0=>
  have Fx:=h2 t e0 hh;rw [hh]at C7;cases e0 with
  |gd gs x=>
   obtain⟨_,rfl⟩:=C7;simp only [Aj.sc,Ae]at Fx;cases x with
   |gd=>exact he
   |dead=>exact he
   |box=>exact he.ext (by simpa [Aj.sc]using Fx.2)
   |row=>exact he.ext (by simpa [Aj.sc]using Fx.2)
   |cf=>exact he.ext (by simpa [Aj.sc]using Fx.2)
   |deep=>exact he.ext (by simpa [Aj.sc]using Fx.2)
   |hol=>exact he.ext (by simpa [Aj.sc]using Fx.2)
  |_=>simp only [CD]at C7;subst C7;exact he.ext Fx
theorem St.mr {σ:St} (h:σ.sc=true) (i:Nat):(BJ σ i).sc σ.nv=true:=by
 simp only [St.sc,Ae,AG]at h;unfold BJ;cases hi:σ.sl[i]? with
 |none=>simp [SV.sc]
 |some s=>exact h.1 s (List.mem_of_getElem? hi)
theorem St.mi {σ:St} (h:σ.sc=true) (t:Nat) (e:Aj) (he:AE σ.hp t=some e):e.sc σ.nv=true:=by simp only [St.sc,Ae,AG]at h;exact h.2 _ (Jl he)
theorem Cn.ky {ρ τ:List AV} {q:Cn} (h:q.sc ρ.length=true):q.den (ρ++τ)↔q.den ρ:=by
 cases q<;>simp only [Cn.sc,Ae]at h<;>simp only [Cn.den]
 case dfd=>rw [den_app h]
 case agg=>rw [den_app h]
 case cells=>rw [den_app h]
 case inb=>rw [den_app h.1,den_app h.2]
 case inbS=>rw [den_app h.1,den_app h.2]
 case win=>rw [den_app h.1.1,den_app h.1.2,den_app h.2]
 case winS=>rw [den_app h.1.1,den_app h.1.2,den_app h.2]
 case room=>rw [den_app h.1,den_app h.2]
 case roomS=>rw [den_app h.1,den_app h.2]
 case mkroom=>rw [den_app h]
 case nz=>rw [den_app h]
 case nn=>rw [den_app h]
 case isref=>rw [den_app h]
 case issl=>rw [den_app h]
 case flat=>rw [den_app h]
 case flatS=>rw [den_app h]
 case kinds=>rw [den_app h]
theorem rQ:SR c [gone] [Go.undef]:= .gd (fun hg=>by have:=hg (.bool false,true) (by simp);simp [E.den]at this) (fun _=>rfl) .nil
theorem zv1 {ρ:List AV} {x:E} {b:Bool} {hs:Gd} (hx:x.den ρ= .bool b) (h:Qt (x, !b) hs=true): ¬Bj ρ hs:=by intro k;have:=zyv h k;simp only at this;rw [hx]at this;simp at this
theorem nU {ρ:List AV} {x:E} {b:Bool} {hs:Gd} (hx:x.den ρ= .bool b):Bj ρ (hs.filter fun h=> !(h.1.beq x&&h.2==b))↔Bj ρ hs:=by
 refine⟨fun k g hg=> ?_,fun k g hg=>k g (List.mem_filter.1 hg).1⟩;by_cases hh:(g.1.beq x&&g.2==b)=true
 ·simp only [Ae,beq_iff_eq]at hh;rw [E.au ρ _ _ hh.1,hx,hh.2]
 ·exact k g (List.mem_filter.2 ⟨hg,by rw [Bool.not_eq_true]at hh;rw [hh];rfl⟩)
theorem SR.lj {s:SV} {v:Value} {gs:Gd} (h1:Bj c.ρ gs→SR c [s] [v]) (h2: ¬Bj c.ρ gs→v=Go.undef):SR c [Go.Proofs.YtbmbkgalkfmjdaaGreatDoor.mkGd gs s] [v]:=by
 cases gs with
 |nil=>exact h1 (Ff _)
 |cons g gs=>exact .gd h1 h2 .nil
theorem SR.ie {x:E} {b:Bool} (hx:x.den c.ρ= .bool b) {s:SV} {v:Value} (h:SR c [s] [v]):SR c [assumeS x b s] [v]:=by
 cases s with
 |gd hs s=>
  simp only [Go.Proofs.YtbmbkgalkfmjdaaGreatDoor.assumeS];cases h with
  |gd h1 h2 _=>
   split
   ·rename_i hm;rw [h2 (zv1 hx hm)];exact rQ
   ·exact SR.lj (fun k=>h1 ((nU hx).1 k)) (fun k=>h2 fun k'=>k ((nU hx).2 k'))
 |_=>exact h
theorem zCb (f:Aj→Aj) (l:List (Nat × Aj)) (t:Nat):AE (l.map fun(t,e)=>(t,f e)) t=(AE l t).map f:=by
 induction l with
 |nil=>rfl
 |cons p l ih=>
  obtain⟨u,e⟩:=p;simp only [List.map_cons,AE];split
  ·rfl
  ·exact ih
theorem Rel.ie {x:E} {b:Bool} (hx:x.den c.ρ= .bool b) (h:Rel c n sl hp a):Rel c n (fun i=>assumeS x b (sl i)) (fun t=>(hp t).map (assumeE x b)) a:=by
 have M1: ∀t,(∀e,CD c.ρ (hp t) e→ ∃gs y,e= .gd gs y∨e= .dead)→(c.G t).top= []∧(c.G t).O= []:=by
  intro t ht;by_cases hh: ∃e,CD c.ρ (hp t) e
  ·obtain⟨e,he⟩:=hh;obtain⟨gs,y,rfl|rfl⟩:=ht e he
   ·exact h.ents t _ he
   ·exact h.ents t _ he
  ·exact h.off t fun e he=>hh ⟨e,he⟩
 have cases': ∀t,((∀e,CD c.ρ ((hp t).map (assumeE x b)) e↔CD c.ρ (hp t) e))∨((hp t).map (assumeE x b)=some .dead∧(c.G t).top= []∧(c.G t).O= []):=by
  intro t;cases hh:hp t with
  |none=>exact .inl fun e=>Iff.rfl
  |some e0=>
   cases e0 with
   |gd hs y=>
    by_cases hm:Qt (x, !b) hs=true
    ·refine .inr ⟨by simp [Go.Proofs.YtbmbkgalkfmjdaaGreatDoor.assumeE,hm],M1 t fun e he=> ?_⟩;rw [hh]at he;exact absurd he.1 (zv1 hx hm)
    ·by_cases hy: ∃gs z,y= .gd gs z
     ·obtain⟨gs,z,rfl⟩:=hy;refine .inr ⟨by simp [Go.Proofs.YtbmbkgalkfmjdaaGreatDoor.assumeE,hm],M1 t fun e he=> ?_⟩;rw [hh]at he;exact⟨gs,z, .inl he.2.symm⟩
     ·refine .inl fun e=> ?_;have he:assumeE x b (.gd hs y)=CY (hs.filter fun h=> !(h.1.beq x&&h.2==b)) y:=by
       simp only [Go.Proofs.YtbmbkgalkfmjdaaGreatDoor.assumeE,hm,AX,if_false];cases y<;>first|rfl|exact absurd ⟨_,_,rfl⟩ hy
      simp only [Option.map_some,he];show _↔Bj c.ρ hs∧y=e;rw [←nU hx];generalize (hs.filter fun h=> !(h.1.beq x&&h.2==b))=fs;cases fs with
      |nil=>simp only [CY,Ff,true_and];cases y<;>first|exact absurd ⟨_,_,rfl⟩ hy|exact Iff.rfl
      |cons g fs=>exact Iff.rfl
   |_=>exact .inl fun e=>Iff.rfl
 refine⟨h.defers,h.size,h.base,fun i=>(h.de i).ie hx,fun t e hr=> ?_,fun t hn=> ?_,h.gw,h.cj,fun t e he=> ?_⟩
 ·rcases cases' t with hc|⟨hc,h1,h2⟩
  ·exact h.ents t e ((hc e).1 hr)
  ·rw [hc]at hr;have:Aj.dead=e:=hr;subst this;exact⟨h1,h2⟩
 ·rcases cases' t with hc|⟨hc,h1,h2⟩
  ·exact h.off t fun e he=>hn e ((hc e).2 he)
  ·exact⟨h1,h2⟩
 ·cases hh:hp t with
  |none=>rw [hh]at he;cases he
  |some e0=>exact h.c6 t e0 hh
end
theorem oV {σ:St} {d:Option Nat} {s:SV}:BJ (Ik σ d s)=CN σ.sl.length (BJ σ) d s:=by
 funext i;cases d with
 |none=>simp [Ik,CN]
 |some d=>
  simp only [Ik,BJ,CN,Ah,List.getElem?_set];by_cases h:d=i
  ·subst h;by_cases h2:d<σ.sl.length
   ·simp [h2]
   ·simp [h2,List.getElem?_eq_none (Nat.le_of_not_lt h2)]
  ·simp [h]
theorem nD {σ:St} {d:Option Nat} {s:SV}:(Ik σ d s).sl.length=σ.sl.length:=by cases d<;>simp [Ik]
theorem oZ {σ:St} {d:Option Nat} {s:SV}:(Ik σ d s).hp=σ.hp:=by cases d<;>rfl
theorem oK {σ:St} {d:Option Nat} {s:SV}:(Ik σ d s).nv=σ.nv:=by cases d<;>rfl
theorem zBe (l:List (Nat × Aj)) (t:Nat) (e:Aj) (u:Nat):AE (MI l t e) u=if u=t then some e else AE l u:=by
 induction l with
 |nil=>
  simp only [MI,AE];by_cases h:t=u
  ·simp [h]
  ·rw [if_neg h,if_neg (Ne.symm h)]
 |cons p l ih=>
  obtain⟨v,f⟩:=p;simp only [MI];split
  ·rename_i hv;subst hv;simp only [AE];by_cases h:v=u
   ·simp [h]
   ·rw [if_neg h,if_neg (Ne.symm h),if_neg h]
  ·rename_i hv;simp only [AE];by_cases h:v=u
   ·subst h;rw [if_pos rfl,if_neg hv,if_pos rfl]
   ·rw [if_neg h,ih,if_neg h]
theorem zud: ∀(ents:List (Nat × Aj)) (l:List (Nat × Aj)),AE (ents.foldl (fun l (p:Nat × Aj)=>MI l p.1 p.2) l)=Bd (AE l) ents
 | [],l=>rfl
 |(t,e)::ents,l=>by
  simp only [List.foldl_cons];rw [zud ents];have:AE (MI l t e)=fun u=>if u=t then some e else AE l u:=by funext u;exact zBe l t e u
  rw [this];rfl
section
variable {P:Program} {sg:B0} {Rt:Nat→List AV→AV→Prop} {ops:Array Oper}
theorem zyD {σ:St} {gs:Gd} {o:Oper} {e:A7}:BJ (Mk σ gs o e)=CN σ.sl.length (BJ σ) o.dst (mkGd gs e.val):=by rw [←oV];rfl
theorem zyR {σ:St} {gs:Gd} {o:Oper} {e:A7}:AE (Mk σ gs o e).hp=Bd (AE σ.hp) e.bu:=by
 have:(Mk σ gs o e).hp=e.bu.foldl (fun l (p:Nat × Aj)=>MI l p.1 p.2) σ.hp:=by show e.bu.foldl (fun l (p:Nat × Aj)=>MI l p.1 p.2) (Ik σ o.dst (mkGd gs e.val)).hp=_;rw [oZ]
 rw [this,zud]
theorem zwg {σ:St} {gs:Gd} {o:Oper} {e:A7}:(Mk σ gs o e).sl.length=σ.sl.length:=by show(Ik σ o.dst (mkGd gs e.val)).sl.length=_;rw [nD]
theorem qM {σ:St} {gs:Gd} {o:Oper} {e:A7}:(Mk σ gs o e).nv=if e.call.isSome||e.cm.isSome then σ.nv+1 else σ.nv:=by show(if e.call.isSome||e.cm.isSome then(Ik σ o.dst (mkGd gs e.val)).nv+1 else(Ik σ o.dst (mkGd gs e.val)).nv)=_;rw [oK]
theorem qT {R:AV→Prop} {gs:Gd} {k:Tr} {L:LK} {js:List JK} {ρ:List AV}: ∀{cs:List Cn},(cs.foldr (fun c k=> .ca gs c k) k:Tr).den Rt R L js ρ→(Bj ρ gs→ ∀q∈cs,q.den ρ)∧k.den Rt R L js ρ
 | [],h=>⟨by simp,h⟩
 |c::cs,h=>by
  obtain⟨h1,h2⟩:=h;obtain⟨h3,h4⟩:=qT h2;refine⟨fun hg q hq=> ?_,h4⟩;rcases Ag.1 hq with rfl|hq
  ·exact h1 hg
  ·exact h3 hg q hq
theorem zyt {l:List (Nat × Aj)} {R:List Nat} {t:Nat} {e:Aj} (h:Q4 l R t=some e):AE l t=some e:=by
 unfold Q4 at h;split at h
 ·exact h
 ·cases h
theorem zt9 {f:Nat ⊕ E} {as_:EL} {ρ τ:List AV} {r:AV} (h1:(match f with| .inl _=>true| .inr x=>x.sc ρ.length)=true) (h2:as_.sc ρ.length=true):IT Rt f (as_.den (ρ++τ)) (ρ++τ) r↔IT Rt f (as_.den ρ) ρ r:=by
 rw [zCo h2];cases f with
 |inl f=>exact Iff.rfl
 |inr x=>simp only [IT];rw [den_app h1]
theorem EL.lp {n:Nat}: ∀{l:List E},l.all (E.sc n)=true→(EL.of l).sc n=true
 | [],_=>rfl
 |x::l,h=>by simp only [List.all_cons,Ae]at h;simp only [EL.of,EL.sc,Ae];exact⟨h.1,EL.lp h.2⟩
structure JC (F:Fix) (c:Cx) (σ:St) (a:Act) (n m:Nat):Prop where
 w0:c.w0=F.w0
 A:c.A=F.A
 Mu:c.Mu=F.Mu
 nv:c.ρ.length=σ.nv
 len:σ.sl.length=n
 U: ∀t,c.U t→t<m
 rel:Rel c n (BJ σ) (AE σ.hp) a
theorem JC.ext {F:Fix} {c:Cx} {σ:St} {a:Act} {n m:Nat} (h:JC F c σ a n m) (hs:σ.sc=true) (τ:List AV):Rel (c.ext τ) n (BJ σ) (AE σ.hp) a:=
 h.rel.ext (fun i=>by rw [h.nv];exact St.mr hs i) (fun t e he=>by rw [h.nv];exact St.mi hs t e he) τ
theorem zHj (AS:Pv P sg Rt) (GF:UI P sg) {F:Fix} {c:Cx} {σ:St} {a:Act} {n i base:Nat} {o:Oper} {gs:Gd} {e:A7} {k:Tr} {R:AV→Prop} {L:LK} {js:List JK} {Q:Exit→Act→World→Prop} {K:Act→World→Prop}
  (hi:ops[i]?=some o) (hm:JC F c σ a n (base+BN*i)) (ED:WU c.ρ ops o a (some gs)) {Rs:List Nat} (he:MC P sg (BJ σ) (Q4 σ.hp Rs) σ.nv (base+BN*i) gs o=some e) (Fx:Tn σ.nv (base+BN*i) σ.hp gs e=true)
  (Us:(e.call.isSome||e.cm.isSome)=true→σ.sc=true) (hd:(aT gs e k).den Rt R L js c.ρ)
  (hK: ∀(c':Cx) (a':Act),c.ρ<+:c'.ρ→JC F c' (Mk σ gs o e) a' n (base+BN*(i+1))→k.den Rt R L js c'.ρ→K a' c'.w):wpOp P ops Q i K a c.w:=by
 simp only [Tn,Ae,AG]at Fx;obtain⟨⟨⟨⟨BO,A6⟩,Fw⟩,tU⟩,fD⟩:=Fx;have Bn:gs≠ []→ ∀t x,(t,x)∈e.bu→base+BN*i≤t∧t<base+BN*i+BN∧ ∃hs y,x= .gd hs y∧MF gs hs=true:=by
  intro A5 t x hx;have:=fD _ hx;have TY:gs.isEmpty=false:=by cases gs;exact absurd rfl A5;rfl
  simp only [TY,Bool.false_or,Bool.false_and,Bool.or_false,Ae,decide_eq_true_eq]at this;refine⟨this.1.1,this.1.2, ?_⟩;have h3:=this.2;split at h3
  ·exact⟨_,_,rfl,h3⟩
  ·cases h3
 have A1: ∀t,base+BN*i≤t→t<base+BN*i+BN→ ¬c.U t:=fun t h1 _ h3=>by have:=hm.U t h3;omega
 have DL: ∀(τ:List AV),Rel (c.ext τ) n (BJ σ) (AE σ.hp) a→τ.length=(if e.call.isSome||e.cm.isSome then 1 else 0)→k.den Rt R L js (c.ρ++τ)→(Bj c.ρ gs→ ∀q∈e.ca,q.den c.ρ)→
   (∀cl,e.call=some cl→ ∃r,τ= [r]∧(Bj c.ρ gs→IT Rt cl.fn ((EL.of cl.args).den c.ρ) c.ρ r))→(∀x,e.cm=some x→τ= [.bool (Lc a o)])→wpOp P ops Q i K a c.w:=by
  intro τ As hτ hk hc Be CU;have GH:σ.nv=c.ρ.length:=hm.nv.symm;rw [GH]at BO A6 Fw;have T5: ∀r,τ= [r]→(c.ρ++τ)[σ.nv]?=some r:=by rintro r rfl;rw [GH];simp
  refine uT (c:=c.ext τ) AS hi As ⟨fun hg=>ED.1 ((Mh BO).1 hg),fun hg=>ED.2 fun k=>hg ((Mh BO).2 k)⟩ (fun _ _=>rfl) (fun t e h=>zyt h) A1 he Bn (fun hg q hq=> ?_) (fun cl AF=> ?_) (fun x hx _=>T5 _ (CU x hx)) (fun a' c' Bc hr=> ?_)
  ·exact(Cn.ky (A6 q hq)).2 (hc ((Mh BO).1 hg) q hq)
  ·obtain⟨r,rfl,h2⟩:=Be cl AF;rw [AF]at Fw;simp only [Ae]at Fw;exact⟨r,T5 r rfl,fun hg=>(zt9 Fw.1 (EL.lp Fw.2)).2 (h2 ((Mh BO).1 hg))⟩
  ·have hρ:c'.ρ=c.ρ++τ:=Bc.ρ;refine hK c' a' ⟨τ,hρ.symm⟩ ⟨Bc.w0.trans hm.w0,Bc.A.trans hm.A,Bc.Mu.trans hm.Mu, ?_,by rw [zwg];exact hm.len,fun t ht=> ?_, ?_⟩ (by rw [hρ];exact hk)
   ·rw [hρ,qM,Ap,hτ,GH];split<;>rfl
   ·have hmul:base+BN*(i+1)=base+BN*i+BN:=by rw [Nat.mul_add];omega
    rw [hmul];rcases Bc.U t ht with h|h
    ·have:=hm.U t h;omega
    ·exact h.2
   ·rw [zyD,zyR,hm.len];exact hr
 unfold aT at hd;obtain⟨hc,hd⟩:=qT hd;cases AF:e.call with
 |none=>
  simp only [AF]at hd;cases CU:e.cm with
  |none=>simp only [CU]at hd;refine DL [] (by have:=hm.rel;simpa [Cx.ext]using this) (by simp [AF,CU]) (by simpa using hd) hc (fun cl h=>by rw [AF]at h;cases h) (fun x h=>by rw [CU]at h;cases h)
  |some x=>simp only [CU]at hd;have F3:=Us (by simp [CU]);refine DL [.bool (Lc a o)] (hm.ext F3 _) (by simp [CU]) (hd _ fun hg hb=> ?_) hc (fun cl h=>by rw [AF]at h;cases h) (fun x h=>rfl);exact GF c n _ _ _ a _ _ o gs e _ x ⟨hm.rel,hg,fun _ _=>rfl,fun t e h=>zyt h,fun t h1 h2=>A1 t h1 (Nat.lt_of_lt_of_le h2 (Nat.add_le_add_left (by decide) _))⟩ he CU hb
 |some cl=>
  simp only [AF]at hd;cases CU:e.cm with
  |some x=>rw [CU]at tU;simp [AF]at tU
  |none=>simp only [CU]at hd;obtain⟨r,h1,h2⟩:=hd;have F3:=Us (by simp [AF]);refine DL [r] (hm.ext F3 _) (by simp [AF]) h2 hc (fun cl' h=>by rw [AF]at h;cases h;exact⟨r,rfl,h1⟩) (fun x h=>by rw [CU]at h;cases h)
theorem zBg {σ:St} {x:E} {b:Bool} {d:Nat}:BJ (assume x b d σ)=CN σ.sl.length (fun i=>assumeS x b (BJ σ i)) (some d) (.e (.bool b)):=by
 funext i;simp only [assume,BJ,CN,Ah,List.getElem?_set,List.length_map,List.getElem?_map];by_cases h:d=i
 ·subst h;by_cases h2:d<σ.sl.length
  ·simp [h2]
  ·simp [h2,List.getElem?_eq_none (Nat.le_of_not_lt h2),assumeS]
 ·simp only [h,false_and,if_false];cases hh:σ.sl[i]?<;>simp [assumeS]
theorem zA6 {σ:St} {x:E} {b:Bool} {d:Nat}:AE (assume x b d σ).hp=fun t=>(AE σ.hp t).map (assumeE x b):=by funext t;exact zCb _ _ _
theorem JC.assume {F:Fix} {c:Cx} {σ:St} {a:Act} {n m:Nat} (h:JC F c σ a n m) {x:E} {b:Bool} (hx:x.den c.ρ= .bool b) {d:Nat} (hd:BJ σ d= .e x):JC F c (Go.Proofs.YtbmbkgalkfmjdaaGreatDoor.assume x b d σ) a n m:=by
 refine⟨h.w0,h.A,h.Mu,h.nv, ?_,h.U, ?_⟩
 ·simp only [Go.Proofs.YtbmbkgalkfmjdaaGreatDoor.assume,List.length_set,List.length_map];exact h.len
 ·rw [zBg,zA6];have hr:=h.rel.ie hx;refine{hr with de:=fun i=> ?_};unfold CN;split
  ·rename_i hi;obtain⟨hi,_⟩:=hi;cases hi;have:=h.rel.de d;rw [hd]at this;generalize a.tmps.getD d Go.undef=v at this;cases this with
   |e h1 h2 _=>exact .e (f:= []) (by rw [hx]at h1;rw [IQ h1 rfl];exact .bool .nil) (by simp) .nil
  ·exact hr.de i
theorem zBb (AS:Pv P sg Rt) (GF:UI P sg) {F:Fix} {base:Nat} {R:AV→Prop} {L:LK} {js:List JK} {Q:Exit→Act→World→Prop} {n:Nat} {next:List Log→St→Option Tr} {i:Nat} {o:Oper} {lg:List Log} {rest:List Nat} (hi:ops[i]?=some o)
  (B8: ∀(lg:List Log) (σ:St) (t:Tr),next lg σ=some t→ ∀(c:Cx) (a:Act),JC F c σ a n (base+BN*(i+1))→t.den Rt R L js c.ρ→(∀(c':Cx) (a':Act) (σ':St),c.ρ<+:c'.ρ→L js .normal σ' c'.ρ→Hf F c'.ρ σ' a' c'.w→Q .normal a' c'.w)→wpOps P ops Q rest a c.w):
  ∀(m:Nat) (σ:St) (t:Tr),US P sg ops false base next i o lg m σ=some t→
  ∀(c:Cx) (a:Act),JC F c σ a n (base+BN*i)→t.den Rt R L js c.ρ→(∀(c':Cx) (a':Act) (σ':St),c.ρ<+:c'.ρ→L js .normal σ' c'.ρ→Hf F c'.ρ σ' a' c'.w→Q .normal a' c'.w)→wpOps P ops Q (i::rest) a c.w:=by
 have OY:base+BN*i≤base+BN*(i+1):=by rw [Nat.mul_add];omega
 have try_: ∀(fail:Unit→Option Tr) (σ:St) (t:Tr),UR P sg ops false base next i o lg fail σ=some t→ ∀(c:Cx) (a:Act),JC F c σ a n (base+BN*i)→t.den Rt R L js c.ρ→(∀(c':Cx) (a':Act) (σ':St),c.ρ<+:c'.ρ→L js .normal σ' c'.ρ→Hf F c'.ρ σ' a' c'.w→Q .normal a' c'.w)→
   (fail ()=some t→wpOps P ops Q (i::rest) a c.w)→wpOps P ops Q (i::rest) a c.w:=by
  intro fail σ t ht c a hm hd hq T2;unfold UR at ht;cases Hr:P9 σ ops o with
  |none=>rw [Hr]at ht;cases ht
  |some r=>
   have ED:=pV (c:=c) (a:=a) Hr (fun j want d _ _=>hm.rel.de d);rw [Hr]at ht;cases r with
   |none=>simp only at ht;rw [wpOps_cons];unfold wpOp;simp only [hi];rw [if_neg (by simp [show Region.wanted o (yielded ops a.tmps)=false from ED])];refine B8 lg _ t ht c _ ⟨hm.w0,hm.A,hm.Mu,by rw [oK];exact hm.nv,by rw [nD];exact hm.len,fun t ht=>Nat.lt_of_lt_of_le (hm.U t ht) OY, ?_⟩ hd hq;rw [oV,oZ,hm.len];exact hm.rel.put rQ o.dst
   |some gs=>
    simp only at ht;split at ht
    ·rename_i e he;split at ht
     ·cases ht
     ·rename_i AJ;split at ht
      ·cases ht
      ·rename_i k hk;simp only [Ah]at ht;subst ht;simp only [Bool.false_and,Bool.false_or,Bool.not_false,Bool.true_and,Bool.or_eq_true,Bool.not_eq_true',Ae,not_or,Bool.not_eq_false]at AJ;rw [wpOps_cons];refine zHj AS GF hi hm ED he AJ.1 (fun hh=> ?_) hd fun c' a' hp Gz B5=>B8 _ _ k hk c' a' Gz B5 fun c'' a'' σ' hp'=>hq c'' a'' σ' (hp.trans hp');have:=AJ.2;simp only [Bool.or_eq_true]at hh;simpa [hh]using this
    ·exact T2 ht
 intro m
 induction m with
 |zero=>exact fun σ t ht c a hm hd hq=>try_ _ σ t ht c a hm hd hq fun h=>by cases h
 |succ m ih=>
  intro σ t ht c a hm hd hq;refine try_ _ σ t ht c a hm hd hq fun h=> ?_;split at h
  ·rename_i d _ _;split at h
   ·rename_i x QF;split at h
    ·rename_i k1 k0 Jc LA;simp only [Ah]at h;subst h;obtain⟨tt,h1,h2,h3⟩:=hd;cases tt with
     |true=>exact ih _ k1 Jc c a (hm.assume h1 QF) (h2 rfl) hq
     |false=>exact ih _ k0 LA c a (hm.assume h1 QF) (h3 rfl) hq
    ·cases h
   ·cases h
  ·cases h
theorem vF (AS:Pv P sg Rt) (GF:UI P sg) {F:Fix} {base:Nat} {R:AV→Prop} {L:LK} {js:List JK} {Q:Exit→Act→World→Prop} {n:Nat}: ∀(len i:Nat) (lg:List Log) (σ:St) (t:Tr),i+len=ops.size→MH P sg ops false base (List.range' i len) lg σ=some t→
  ∀(c:Cx) (a:Act),JC F c σ a n (base+BN*i)→t.den Rt R L js c.ρ→(∀(c':Cx) (a':Act) (σ':St),c.ρ<+:c'.ρ→L js .normal σ' c'.ρ→Hf F c'.ρ σ' a' c'.w→Q .normal a' c'.w)→wpOps P ops Q (List.range' i len) a c.w
 |0,i,lg,σ,t,hl,ht,c,a,hm,hd,hq=>by
  simp only [List.range'_zero,MH,Bool.false_and,AX,if_false,Ah]at ht ⊢;subst ht;refine hq c a _ (List.prefix_refl _) hd ⟨c,rfl,rfl,hm.w0,hm.A,hm.Mu,hm.nv,fun t ht=> ?_, ?_⟩
  ·have:=hm.U t ht;have h9:i=ops.size:=by omega
   subst h9;exact this
  ·have:=hm.rel;rw [←hm.len]at this;exact this
 |len+1,i,lg,σ,t,hl,ht,c,a,hm,hd,hq=>by
  rw [List.range'_succ]at ht ⊢;unfold MH at ht;obtain⟨o,hi⟩: ∃o,ops[i]?=some o:=⟨ops[i]'(by omega),by simp [show i<ops.size by omega]⟩
  rw [hi]at ht;simp only at ht;exact zBb AS GF hi (fun lg σ t ht c a=>vF AS GF (n:=n) len (i+1) lg σ t (by omega) ht c a) 4 σ t ht c a hm hd hq
end
def iH (l:List Oper) (bs:List Nat):Prop:=bs.length=l.length∧ ∀(j:Nat) (o:Oper),l[j]?=some o→ ∀i,((bs[j]?).getD 0).testBit i=true→ ∃e∈o.after.toList,Region.binds .any e=true∧(i=e.on∨(e.on<j∧((bs[e.on]?).getD 0).testBit i=true))
theorem zqz (acc:List Nat) (i:Nat): ∀(es:List Edge) (s:Nat),(es.foldl (fun s e=>if Region.binds .any e then s|||2^e.on|||(acc[e.on]?).getD 0 else s) s).testBit i=true→
  s.testBit i=true∨ ∃e∈es,Region.binds .any e=true∧(i=e.on∨((acc[e.on]?).getD 0).testBit i=true)
 | [],s,h=> .inl h
 |e::es,s,h=>by
  simp only [List.foldl_cons]at h;rcases zqz acc i es _ h with h|⟨e',h1,h2⟩
  ·split at h
   ·rename_i hb;simp only [Nat.testBit_or,Nat.testBit_two_pow,Bool.or_eq_true,decide_eq_true_eq]at h;rcases h with(h|h)|h
    ·exact .inl h
    ·exact .inr ⟨e,by simp,hb, .inl h.symm⟩
    ·exact .inr ⟨e,by simp,hb, .inr h⟩
   ·exact .inl h
  ·exact .inr ⟨e',by simp [h1],h2⟩
theorem zwv: ∀(os pre:List Oper) (acc:List Nat),iH pre acc→iH (pre++os) (KR os acc)
 | [],pre,acc,h=>by simpa [KR]using h
 |o::os,pre,acc,h=>by
  obtain⟨hl,hb⟩:=h;have:=zwv os (pre++ [o]) (acc++ [sN acc o]) ⟨by simp [hl],fun j o' ho i hi=> ?_⟩
  ·simpa [KR]using this
  ·have Ak: ∀k,k<acc.length→((acc++ [sN acc o])[k]?).getD 0=(acc[k]?).getD 0:=fun k hk=>by rw [List.getElem?_append_left hk]
   by_cases hj:j<pre.length
   ·rw [List.getElem?_append_left hj]at ho;rw [Ak j (by omega)]at hi;obtain⟨e,h1,h2,h3⟩:=hb j o' ho i hi;exact⟨e,h1,h2,h3.imp id fun h=>⟨h.1,by rw [Ak _ (by omega)];exact h.2⟩⟩
   ·rw [List.getElem?_append_right (by omega)]at ho;have hj0:j-pre.length=0:=by
     cases hh:j-pre.length with
     |zero=>rfl
     |succ k=>rw [hh]at ho;simp at ho
    rw [hj0]at ho;simp at ho;subst ho;have QJ:j=acc.length:=by omega
    rw [QJ,List.getElem?_append_right (Nat.le_refl _)]at hi;simp only [Nat.sub_self,List.getElem?_cons_zero,Option.getD_some]at hi;rcases zqz acc i _ 0 hi with h|⟨e,h1,h2,h3⟩
    ·simp at h
    ·refine⟨e,h1,h2,h3.imp id fun h=> ?_⟩;have he:e.on<acc.length:=by
      rcases Nat.lt_or_ge e.on acc.length with hh|hh
      ·exact hh
      ·rw [List.getElem?_eq_none hh]at h;simp at h
     exact⟨by omega,by rw [Ak _ he];exact h⟩
def WO (ops:Array Oper) (S:Nat→Bool):Prop:= ∀k o,S k=true→ops[k]?=some o→ ∀e∈o.after.toList,Region.binds .any e=true→S e.on=true
theorem xK (ops:Array Oper):iH ops.toList (KR ops.toList []):=by have:=zwv ops.toList [] [] ⟨rfl,by simp⟩;simpa using this
theorem zt2 {ops:Array Oper} {S:Nat→Bool} (hS:WO ops S): ∀(k i:Nat),S k=true→k<ops.size→(((KR ops.toList [])[k]?).getD 0).testBit i=true→S i=true:=by
 intro k
 induction k using Nat.strongRecOn with
 |_ k ih=>
  intro i hk Ak hb;have ho:ops.toList[k]?=some ops[k]:=by simp [Ak]
  obtain⟨e,h1,h2,h3⟩:=(xK ops).2 k _ ho i hb;have J2:=hS k ops[k] hk (by simp [Ak]) e h1 h2;rcases h3 with rfl|⟨h3,h4⟩
  ·exact J2
  ·exact ih e.on h3 i J2 (by omega) h4
theorem zCw {ops:Array Oper} {S:Nat→Bool} (hS:WO ops S) {j i:Nat} {o:Oper} (ho:ops[j]?=some o) (hr: ∀e∈o.after.toList,Region.binds .any e=true→S e.on=true) (hb:(((KR ops.toList [])[j]?).getD 0).testBit i=true):S i=true:=by
 have Ak:j<ops.size:=(Array.getElem?_eq_some_iff.1 ho).1;obtain⟨e,h1,h2,h3⟩:=(xK ops).2 j o (by simpa using ho) i hb;have J2:=hr e h1 h2;rcases h3 with rfl|⟨h3,h4⟩
 ·exact J2
 ·exact zt2 hS e.on i J2 (by omega) h4
theorem zBm {ops:Array Oper} {S:Nat→Bool} (hS:WO ops S) {j i:Nat} {o:Oper} (ho:ops[j]?=some o) (hi:i<ops.size) (hj:S j=false) (hr: ∀e∈o.after.toList,Region.binds .any e=true→S e.on=true) (A5:i≠j) (LF:Kh (KR ops.toList []) i j=true):S i=decide (i<j):=by
 unfold Kh at LF;split at LF
 ·rename_i h;rw [zCw hS ho hr LF];simp [h]
 ·rename_i h;cases hs:S i with
  |false=>simp [h]
  |true=>have:=zt2 hS i j hs hi LF;rw [hj]at this;cases this
structure Rec where
 i:Nat
 o:Oper
 σ:St
 r:Option (Gd × A7)
def Rec.next (x:Rec):St:=match x.r with|none=>Ik x.σ x.o.dst gone|some (gs,e)=>Mk x.σ gs x.o e
def Rec.val (x:Rec):SV:=match x.r with|none=>gone|some (gs,e)=>mkGd gs e.val
def Rec.bu (x:Rec):List (Nat × Aj):=match x.r with|none=> []|some (_,e)=>e.bu
def xY (P:Program) (sg:B0) (Rt:Nat→List AV→AV→Prop) (ops:Array Oper) (base:Nat) (ρ:List AV) (x:Rec):Prop:=
 ops[x.i]?=some x.o∧match x.r with
  |none=>P9 x.σ ops x.o=some none
  |some (gs,e)=>P9 x.σ ops x.o=some (some gs)∧MC P sg (BJ x.σ) (Q4 x.σ.hp (WD x.σ gs x.o)) x.σ.nv (base+BN*x.i) gs x.o=some e∧e.cm=none∧Tn x.σ.nv (base+BN*x.i) x.σ.hp gs e=true∧
   (Bj ρ gs→ ∀q∈e.ca,q.den ρ)∧ ∀cl,e.call=some cl→ ∃r,ρ[x.σ.nv]?=some r∧(Bj ρ gs→IT Rt cl.fn ((EL.of cl.args).den ρ) ρ r)
def Ek:Nat→St→List Rec→St→Prop
 |_,σ, [],σ'=>σ=σ'
 |i,σ,x::xs,σ'=>x.i=i∧x.σ=σ∧Ek (i+1) x.next xs σ'
def Rec.log (x:Rec):Option Log:=x.r.map fun(gs,e)=>⟨x.i,WD x.σ gs x.o,e.bu.map (·.1)⟩
theorem qA {P:Program} {sg:B0} {Rt:Nat→List AV→AV→Prop} {ops:Array Oper} {base:Nat} {R:AV→Prop} {L:LK} {js:List JK}: ∀(len i:Nat) (lg:List Log) (σ:St) (t:Tr) (ρ:List AV),i+len=ops.size→
  MH P sg ops true base (List.range' i len) lg σ=some t→t.den Rt R L js ρ→ρ.length=σ.nv→
  ∃(τ:List AV) (xs:List Rec) (σ':St) (lg':List Log),Ek i σ xs σ'∧xs.length=len∧(∀x∈xs,xY P sg Rt ops base (ρ++τ) x)∧(ρ++τ).length=σ'.nv∧L js .normal {σ' with nx:=base+BN*ops.size} (ρ++τ)∧bJ ops lg'=true∧(∀y∈lg,y∈lg')∧ ∀x∈xs,∀y,x.log=some y→y∈lg'
 |0,i,lg,σ,t,ρ,hl,ht,hd,hn=>by
  simp only [List.range'_zero,MH,Bool.true_and]at ht;split at ht
  ·cases ht
  ·rename_i Xh;simp only [Ah]at ht;subst ht;exact⟨[], [],σ,lg,rfl,rfl,by simp,by simpa using hn,by simpa [Tr.den]using hd,by simpa using Xh,fun y hy=>hy,by simp⟩
 |len+1,i,lg,σ,t,ρ,hl,ht,hd,hn=>by
  rw [List.range'_succ]at ht;unfold MH at ht;obtain⟨o,hi⟩: ∃o,ops[i]?=some o:=⟨ops[i]'(by omega),by simp [show i<ops.size by omega]⟩
  rw [hi]at ht;simp only at ht;unfold US UR at ht;cases Hr:P9 σ ops o with
  |none=>rw [Hr]at ht;cases ht
  |some r=>
   rw [Hr]at ht;cases r with
   |none=>
    simp only at ht;obtain⟨τ,xs,σ',lg',h1,h2,h3,h4,h5,h6,h7,h8⟩:=qA len (i+1) lg _ t ρ (by omega) ht hd (by rw [oK];exact hn);refine⟨τ,⟨i,o,σ,none⟩::xs,σ',lg',⟨rfl,rfl,h1⟩,by simp [h2],fun x hx=> ?_,h4,h5,h6,h7,fun x hx y hy=> ?_⟩
    ·rcases Ag.1 hx with rfl|hx
     ·exact⟨hi,Hr⟩
     ·exact h3 x hx
    ·rcases Ag.1 hx with rfl|hx
     ·simp [Rec.log]at hy
     ·exact h8 x hx y hy
   |some gs=>
    simp only at ht;split at ht
    ·rename_i e he;split at ht
     ·cases ht
     ·rename_i AJ;simp only [Bool.true_and,Bool.not_true,Bool.false_and,Bool.or_false,Bool.or_eq_true,Bool.not_eq_true',not_or,Bool.not_eq_false]at AJ;have CU:e.cm=none:=by cases hh:e.cm with|none=>rfl|some x=>rw [hh]at AJ;simp at AJ
      split at ht
      ·cases ht
      ·rename_i k hk;simp only [Ah]at ht;subst ht;have Fx:=AJ.2;simp only [Tn,Ae,AG]at Fx;obtain⟨⟨⟨⟨BO,A6⟩,Fw⟩,_⟩,_⟩:=Fx;rw [←hn]at BO A6 Fw;unfold aT at hd;obtain⟨hc,hd⟩:=qT hd;simp only [CU]at hd;obtain⟨τ0,hτ0,Be,B5⟩: ∃τ0:List AV,(ρ++τ0).length=(Mk σ gs o e).nv∧(∀cl,e.call=some cl→ ∃r,τ0= [r]∧(Bj ρ gs→IT Rt cl.fn ((EL.of cl.args).den ρ) ρ r))∧k.den Rt R L js (ρ++τ0):=by
        cases AF:e.call with
        |none=>rw [AF]at hd;exact⟨[],by rw [qM];simp [AF,CU,hn],by simp,by simpa using hd⟩
        |some cl=>rw [AF]at hd;obtain⟨r,h1,h2⟩:=hd;exact⟨[r],by rw [qM];simp [AF,hn],fun cl' h=>by cases h;exact⟨r,rfl,h1⟩,h2⟩
       obtain⟨τ,xs,σ',lg',h1,h2,h3,h4,h5,h6,h7,h8⟩:=qA len (i+1) _ _ k (ρ++τ0) (by omega) hk B5 hτ0;have cJ:ρ++τ0++τ=ρ++(τ0++τ):=List.append_assoc ..;rw [cJ]at h3 h4 h5;refine⟨τ0++τ,⟨i,o,σ,some (gs,e)⟩::xs,σ',lg',⟨rfl,rfl,h1⟩,by simp [h2],fun x hx=> ?_,h4,h5,h6,fun y hy=>h7 y (by simp [hy]),fun x hx y hy=> ?_⟩
       ·rcases Ag.1 hx with rfl|hx
        ·refine⟨hi,Hr,he,CU,AJ.2,fun hg q hq=>(Cn.ky (A6 q hq)).2 (hc ((Mh BO).1 hg) q hq),fun cl AF=> ?_⟩;obtain⟨r,hr,h2⟩:=Be cl AF;rw [AF]at Fw;simp only [Ae]at Fw;subst hr;exact⟨r,by simp only;rw [←hn];simp,fun hg=>(zt9 Fw.1 (EL.lp (by simpa using Fw.2))).2 (h2 ((Mh BO).1 hg))⟩
        ·exact h3 x hx
       ·rcases Ag.1 hx with rfl|hx
        ·simp only [Rec.log,Option.map_some,Ah]at hy;subst hy;exact h7 _ (by simp)
        ·exact h8 x hx y hy
    ·cases ht
def GL (n:Nat) (sl0:Nat→SV) (xs:List Rec) (S:Nat→Bool):Nat→SV:=xs.foldl (fun sl x=>if S x.i then CN n sl x.o.dst x.val else sl) sl0
def Hv (hp0:Nat→Option Aj) (xs:List Rec) (S:Nat→Bool):Nat→Option Aj:=xs.foldl (fun hp x=>if S x.i then Bd hp x.bu else hp) hp0
section
variable {n:Nat} {S S':Nat→Bool} {d t:Nat}
theorem V7: ∀(xs:List Rec) {sl sl':Nat→SV},sl d=sl' d→(∀x∈xs,x.o.dst=some d→S x.i=S' x.i)→GL n sl xs S d=GL n sl' xs S' d
 | [],_,_,h,_=>h
 |x::xs,sl,sl',h,hs=>by
  refine V7 xs (sl:=if S x.i then CN n sl x.o.dst x.val else sl) (sl':=if S' x.i then CN n sl' x.o.dst x.val else sl') ?_ fun y hy=>hs y (by simp [hy]);by_cases hd:x.o.dst=some d
  ·rw [←hs x (by simp) hd];split
   ·simp only [CN,hd,true_and];rw [h]
   ·exact h
  ·have hu: ∀sl:Nat→SV,CN n sl x.o.dst x.val d=sl d:=fun sl=>by simp [CN,hd]
   have h1:(if S x.i then CN n sl x.o.dst x.val else sl) d=sl d:=by split;exact hu sl;rfl
   have h2:(if S' x.i then CN n sl' x.o.dst x.val else sl') d=sl' d:=by split;exact hu sl';rfl
   rw [h1,h2,h]
theorem qV (xs:List Rec) {sl:Nat→SV} (hs: ∀x∈xs,x.o.dst=some d→S x.i=false):GL n sl xs S d=sl d:=by
 have h1:=V7 (n:=n) (S:=S) (S':=fun _=>false) xs (sl:=sl) (sl':=sl) (d:=d) rfl hs;rw [h1];clear h1 hs
 induction xs generalizing sl with
 |nil=>rfl
 |cons x xs ih=>exact ih
theorem gJ (hd:n≤d): ∀(xs:List Rec) {sl:Nat→SV},GL n sl xs S d=sl d
 | [],_=>rfl
 |x::xs,sl=>by
  have:=gJ hd xs (sl:=if S x.i then CN n sl x.o.dst x.val else sl);refine Eq.trans this ?_;split
  ·simp only [CN];rw [if_neg (by omega)]
  ·rfl
theorem w8 {y:Rec} (hd:d<n) (hy:y.o.dst=some d) (hS:S y.i=true): ∀(xs:List Rec) {sl:Nat→SV},y∈xs→(∀x∈xs,x≠y→x.o.dst≠some d)→GL n sl xs S d=y.val
 | [],_,h,_=>by simp at h
 |x::xs,sl,h,hu=>by
  by_cases hm:y∈xs
  ·exact w8 hd hy hS xs (sl:=if S x.i then CN n sl x.o.dst x.val else sl) hm fun z hz=>hu z (by simp [hz])
  ·have hx:y=x:=by rcases Ag.1 h with h|h;exact h;exact absurd h hm
   subst hx;have:=qV (n:=n) (S:=S) (d:=d) xs (sl:=CN n sl y.o.dst y.val) (fun z hz Ng=>absurd Ng (hu z (by simp [hz]) (fun hh=>hm (hh▸hz))));show GL n (if S y.i then CN n sl y.o.dst y.val else sl) xs S d=_;rw [if_pos hS,this];simp [CN,hy,hd]
theorem zui {hp hp':Nat→Option Aj} {l:List (Nat × Aj)} (h:hp t=hp' t):Bd hp l t=Bd hp' l t:=by
 induction l generalizing hp hp' with
 |nil=>exact h
 |cons p l ih=>
  refine ih ?_;show(if t=p.1 then some p.2 else hp t)=(if t=p.1 then some p.2 else hp' t)
  rw [h]
theorem zzy {hp hp':Nat→Option Aj} {l:List (Nat × Aj)} (h:t∈l.map (·.1)):Bd hp l t=Bd hp' l t:=by
 induction l generalizing hp hp' with
 |nil=>simp at h
 |cons p l ih=>
  by_cases hm:t∈l.map (·.1)
  ·exact ih hm
  ·have ht:t=p.1:=by simp only [List.map_cons,Ag]at h;exact h.resolve_right hm
   refine zui (l:=l) ?_;show(if t=p.1 then some p.2 else hp t)=(if t=p.1 then some p.2 else hp' t)
   rw [if_pos ht,if_pos ht]
theorem qX {hp:Nat→Option Aj} {l:List (Nat × Aj)} (h:t∉l.map (·.1)):Bd hp l t=hp t:=
 Ml fun e he=>h (List.mem_map.2 ⟨_,he,rfl⟩)
theorem V5: ∀(xs:List Rec) {hp hp':Nat→Option Aj},hp t=hp' t→(∀x∈xs,t∈x.bu.map (·.1)→S x.i=S' x.i)→Hv hp xs S t=Hv hp' xs S' t
 | [],_,_,h,_=>h
 |x::xs,hp,hp',h,hs=>by
  refine V5 xs (hp:=if S x.i then Bd hp x.bu else hp) (hp':=if S' x.i then Bd hp' x.bu else hp') ?_ fun y hy=>hs y (by simp [hy]);by_cases hd:t∈x.bu.map (·.1)
  ·rw [←hs x (by simp) hd];split
   ·exact zui h
   ·exact h
  ·have h1:(if S x.i then Bd hp x.bu else hp) t=hp t:=by split;exact qX hd;rfl
   have h2:(if S' x.i then Bd hp' x.bu else hp') t=hp' t:=by split;exact qX hd;rfl
   rw [h1,h2,h]
theorem qH (xs:List Rec) {hp:Nat→Option Aj} (hs: ∀x∈xs,t∈x.bu.map (·.1)→S x.i=false):Hv hp xs S t=hp t:=by
 have h1:=V5 (S:=S) (S':=fun _=>false) xs (hp:=hp) (hp':=hp) (t:=t) rfl hs;rw [h1];clear h1 hs
 induction xs generalizing hp with
 |nil=>rfl
 |cons x xs ih=>exact ih
end
section
variable {n:Nat} {S:Nat→Bool} {d t:Nat}
theorem Rec.mb (x:Rec):BJ x.next=CN x.σ.sl.length (BJ x.σ) x.o.dst x.val:=by
 obtain⟨i,o,σ,r⟩:=x;cases r with
 |none=>exact oV
 |some ge=>exact zyD
theorem Rec.l4 (x:Rec):AE x.next.hp=Bd (AE x.σ.hp) x.bu:=by
 obtain⟨i,o,σ,r⟩:=x;cases r with
 |none=>simp only [Rec.next,Rec.bu,oZ];rfl
 |some ge=>exact zyR
theorem Rec.ld (x:Rec):x.next.sl.length=x.σ.sl.length:=by
 obtain⟨i,o,σ,r⟩:=x;cases r with
 |none=>exact nD
 |some ge=>exact zwg
theorem Ek.range: ∀{xs:List Rec} {i:Nat} {σ σ':St},Ek i σ xs σ'→ ∀x∈xs,i≤x.i∧x.i<i+xs.length
 | [],_,_,_,_,x,hx=>by simp at hx
 |y::xs,i,σ,σ',h,x,hx=>by
  rcases Ag.1 hx with rfl|hx
  ·have:=h.1;simp only [An];omega
  ·have:=Ek.range h.2.2 x hx;simp only [An];omega
theorem Ek.ex: ∀{xs:List Rec} {i:Nat} {σ σ':St},Ek i σ xs σ'→ ∀j,i≤j→j<i+xs.length→ ∃x∈xs,x.i=j
 | [],i,_,_,_,j,h1,h2=>by simp at h2;omega
 |y::xs,i,σ,σ',h,j,h1,h2=>by
  by_cases hj:j=i
  ·exact⟨y,by simp,by rw [hj];exact h.1⟩
  ·simp only [An]at h2;obtain⟨x,hx,he⟩:=Ek.ex h.2.2 j (by omega) (by omega);exact⟨x,by simp [hx],he⟩
theorem Ek.inj: ∀{xs:List Rec} {i:Nat} {σ σ':St},Ek i σ xs σ'→ ∀x∈xs,∀y∈xs,x.i=y.i→x=y
 | [],_,_,_,_,x,hx,_,_,_=>by simp at hx
 |z::xs,i,σ,σ',h,x,hx,y,hy,he=>by
  have hz:=h.1;rcases Ag.1 hx with h1|h1<;>rcases Ag.1 hy with h2|h2
  ·rw [h1,h2]
  ·subst h1;have:=(Ek.range h.2.2 y h2).1;omega
  ·subst h2;have:=(Ek.range h.2.2 x h1).1;omega
  ·exact Ek.inj h.2.2 x h1 y h2 he
theorem Ek.sl: ∀{xs:List Rec} {i:Nat} {σ σ':St},Ek i σ xs σ'→σ.sl.length=n→(∀x∈xs,x.σ.sl.length=n∧ ∀d,BJ x.σ d=GL n (BJ σ) xs (fun k=>decide (k<x.i)) d)∧σ'.sl.length=n∧BJ σ'=GL n (BJ σ) xs fun _=>true
 | [],i,σ,σ',h,hn=>by have h:σ=σ':=h;subst h;exact⟨by simp,hn,rfl⟩
 |y::xs,i,σ,σ',h,hn=>by
  obtain⟨h1,h2,h3⟩:=h;subst h2;obtain⟨q1,q2,q3⟩:=Ek.sl h3 (by rw [y.ld];exact hn);rw [y.mb,hn]at q1 q3;refine⟨fun x hx=> ?_,q2,q3⟩;rcases Ag.1 hx with rfl|hx
  ·refine⟨hn,fun d=>(qV _ fun z hz _=> ?_).symm⟩;rcases Ag.1 hz with rfl|hz
   ·simp
   ·have:=(Ek.range h3 z hz).1;simp only [decide_eq_false_iff_not];omega
  ·refine⟨(q1 x hx).1,fun d=> ?_⟩;rw [(q1 x hx).2 d];have:=(Ek.range h3 x hx).1;show _=GL n (if decide (y.i<x.i)then CN n (BJ y.σ) y.o.dst y.val else BJ y.σ) xs (fun k=>decide (k<x.i)) d;rw [if_pos (by simp only [decide_eq_true_eq];omega)]
theorem Ek.hp: ∀{xs:List Rec} {i:Nat} {σ σ':St},Ek i σ xs σ'→(∀x∈xs,∀t,AE x.σ.hp t=Hv (AE σ.hp) xs (fun k=>decide (k<x.i)) t)∧AE σ'.hp=Hv (AE σ.hp) xs fun _=>true
 | [],i,σ,σ',h=>by have h:σ=σ':=h;subst h;exact⟨by simp,rfl⟩
 |y::xs,i,σ,σ',h=>by
  obtain⟨h1,h2,h3⟩:=h;subst h2;obtain⟨q1,q3⟩:=Ek.hp h3;rw [y.l4]at q1 q3;refine⟨fun x hx=> ?_,q3⟩;rcases Ag.1 hx with rfl|hx
  ·refine fun d=>(qH _ fun z hz _=> ?_).symm;rcases Ag.1 hz with rfl|hz
   ·simp
   ·have:=(Ek.range h3 z hz).1;simp only [decide_eq_false_iff_not];omega
  ·intro t;rw [q1 x hx t];have:=(Ek.range h3 x hx).1;show _=Hv (if decide (y.i<x.i)then Bd (AE y.σ.hp) y.bu else AE y.σ.hp) xs (fun k=>decide (k<x.i)) t;rw [if_pos (by simp only [decide_eq_true_eq];omega)]
theorem vX {y:Rec} {eT:Nat→Option Aj} (hS:S y.i=true) (ht:t∈y.bu.map (·.1)): ∀{xs:List Rec} {i:Nat} {σ σ':St} {hp0:Nat→Option Aj},Ek i σ xs σ'→y∈xs→(∀x∈xs,x.i≠y.i→t∈x.bu.map (·.1)→S x.i=decide (x.i<y.i))→Hv hp0 xs S t=Bd eT y.bu t
 | [],_,_,_,_,_,h,_=>by simp at h
 |x::xs,i,σ,σ',hp0,hc,hm,hs=>by
  by_cases hx:y=x
  ·subst hx;have:=qH (S:=S) (t:=t) xs (hp:=Bd hp0 y.bu) (fun z hz Ng=>by
    have Ak:=(Ek.range hc.2.2 z hz).1;have h1:=hc.1;rw [hs z (by simp [hz]) (by omega) Ng];simp only [decide_eq_false_iff_not];omega)
   show Hv (if S y.i then Bd hp0 y.bu else hp0) xs S t=_;rw [if_pos hS,this];exact zzy ht
  ·have Gz:y∈xs:=by rcases Ag.1 hm with h|h;exact absurd h hx;exact h
   exact vX hS ht (hp0:=if S x.i then Bd hp0 x.bu else hp0) hc.2.2 Gz fun z hz=>hs z (by simp [hz])
end
theorem zwy {α:Type} {p p':α→Bool}: ∀(l:List α),(∀k∈l,p' k=true→p k=true)→(∃j∈l,p j=true∧p' j=false)→(l.filter p').length<(l.filter p).length
 | [],_,h=>by obtain⟨j,hj,_⟩:=h;simp at hj
 |x::l,hs,h=>by
  have hle:(l.filter p').length≤(l.filter p).length:=by
   have: ∀(l:List α),(∀k∈l,p' k=true→p k=true)→(l.filter p').length≤(l.filter p).length:=by
    intro l
    induction l with
    |nil=>intro _;simp
    |cons y l ih=>
     intro h;have:=ih fun k hk=>h k (by simp [hk]);have hy:=h y (by simp);cases h1:p' y with
     |false=>
      cases h2:p y with
      |false=>simpa [h1,h2]using this
      |true=>simp only [List.filter_cons,h1,h2,AX,if_false,if_true,An];omega
     |true=>simpa [h1,hy h1]using this
   exact this l fun k hk=>hs k (by simp [hk])
  obtain⟨j,hj,h1,h2⟩:=h;rcases Ag.1 hj with rfl|hj
  ·simp only [List.filter_cons,h1,h2,AX,if_false,if_true,An];omega
  ·have:=zwy l (fun k hk=>hs k (by simp [hk])) ⟨j,hj,h1,h2⟩;have hx:=hs x (by simp);cases h3:p' x with
   |false=>
    cases h4:p x with
    |false=>simpa [h3,h4]using this
    |true=>simp only [List.filter_cons,h3,h4,AX,if_false,if_true,An];omega
   |true=>simpa [h3,hx h3]using this
section
variable {ops:Array Oper} {listed:Array Bool}
theorem zBP (hb: ∀j o,ops[j]?=some o→ ∀e∈o.after.toList,Region.binds .any e=true→e.on<j) (Cf:listed.size=ops.size) (hr:Region.ready .any ops listed= []): ∀k,k<ops.size→listed.getD k true=true:=by
 intro k
 induction k using Nat.strongRecOn with
 |_ k ih=>
  intro hk;cases hs:listed.getD k true with
  |true=>rfl
  |false=>
   have:k∈Region.ready .any ops listed:=mem_ready.2 ⟨hs,ops[k],by simp [hk],fun e he Lr=>by
    have Ak:=hb k ops[k] (by simp [hk]) e (by simpa using he) Lr;have:=ih e.on Ak (by omega);have h2:e.on<listed.size:=by omega
    simp only [Array.getD_eq_getD_getElem?,Array.getElem?_eq_getElem h2,Option.getD_some]at this ⊢;exact this⟩
   rw [hr]at this;cases this
theorem zD6 (Cf:listed.size=ops.size) {j:Nat} (hj:j<ops.size) (k:Nat):(listed.setIfInBounds j true).getD k true=(decide (k=j)||listed.getD k true):=by
 by_cases h:j=k
 ·subst h;simp [Array.getD_eq_getD_getElem?,show j<listed.size by omega]
 ·rw [getD_set_ne true h];simp [Ne.symm h]
variable {P:Program} {sg:B0} {Rt:Nat→List AV→AV→Prop}
theorem zAr (AS:Pv P sg Rt) {F:Fix} {σ σ':St} {xs:List Rec} {ρ:List AV} {lg:List Log} {n:Nat} {Q:Exit→Act→World→Prop} (hc:Ek 0 σ xs σ') (hlen:xs.length=ops.size) (Aw: ∀x∈xs,xY P sg Rt ops σ.nx ρ x) (Xh:bJ ops lg=true) (Uc: ∀x∈xs,∀y,x.log=some y→y∈lg) (hn:σ.sl.length=n)
  (hQ: ∀(c:Cx) (a:Act),c.ρ=ρ→c.w0=F.w0→c.A=F.A→c.Mu=F.Mu→(∀t,c.U t→t<σ.nx+BN*ops.size)→Rel c n (BJ σ') (AE σ'.hp) a→Q .normal a c.w):
  ∀(fuel:Nat) (listed:Array Bool) (a:Act) (c:Cx),listed.size=ops.size→WO ops (fun k=>listed.getD k true)→c.ρ=ρ→c.w0=F.w0→c.A=F.A→c.Mu=F.Mu→
   (∀t,c.U t→t<σ.nx∨ ∃k,k<ops.size∧listed.getD k true=true∧σ.nx+BN*k≤t∧t<σ.nx+BN*k+BN)→Rel c n (GL n (BJ σ) xs fun k=>listed.getD k true) (Hv (AE σ.hp) xs fun k=>listed.getD k true) a→
   ((List.range ops.size).filter fun k=> !listed.getD k true).length≤fuel→wpAny P .any ops Q fuel listed a c.w:=by
 simp only [bJ,Ae,AG,Bool.or_eq_true,beq_iff_eq,Bool.not_eq_true',decide_eq_true_eq]at Xh;obtain⟨⟨d1,d2⟩,d3⟩:=Xh;have OV: ∀j o,ops[j]?=some o→(o,j)∈ops.toList.zipIdx:=fun j o h=>List.mk_mem_zipIdx_iff_getElem?.2 (by simpa using h);have hb: ∀j o,ops[j]?=some o→ ∀e∈o.after.toList,Region.binds .any e=true→e.on<j:=fun j o h e he Lr=>by
  rcases d2 (o,j) (OV j o h) e he with h|h
  ·rw [Lr]at h;cases h
  ·exact h
 obtain⟨c1,c2,c3⟩:=hc.sl hn;obtain⟨c4,c5⟩:=hc.hp;have Cl: ∀(listed:Array Bool) (a:Act) (c:Cx),listed.size=ops.size→c.ρ=ρ→c.w0=F.w0→c.A=F.A→c.Mu=F.Mu→
   (∀t,c.U t→t<σ.nx∨ ∃k,k<ops.size∧listed.getD k true=true∧σ.nx+BN*k≤t∧t<σ.nx+BN*k+BN)→Rel c n (GL n (BJ σ) xs fun k=>listed.getD k true) (Hv (AE σ.hp) xs fun k=>listed.getD k true) a→
   (∀k,k<ops.size→listed.getD k true=true)→Q .normal a c.w:=by
  intro listed a c Cf h1 h2 h3 h4 h5 h6 Ck;refine hQ c a h1 h2 h3 h4 (fun t ht=> ?_) ?_
  ·rcases h5 t ht with h|⟨k,hk,_,_,h⟩
   ·simp only [BN]at*;omega
   ·simp only [BN]at*;omega
  ·have e1:(GL n (BJ σ) xs fun k=>listed.getD k true)=BJ σ':=by
    rw [c3];funext d;exact V7 xs rfl fun x hx _=>by have:=(hc.range x hx).2;exact Ck x.i (by omega)
   have e2:(Hv (AE σ.hp) xs fun k=>listed.getD k true)=AE σ'.hp:=by rw [c5];funext d;exact V5 xs rfl fun x hx _=>by have:=(hc.range x hx).2;exact Ck x.i (by omega)
   rw [e1,e2]at h6;exact h6
 intro fuel
 induction fuel with
 |zero=>
  intro listed a c Cf AF h1 h2 h3 h4 h5 h6 Lu;have Ck: ∀k,k<ops.size→listed.getD k true=true:=by intro k hk;have:=List.length_eq_zero_iff.1 (Nat.le_zero.1 Lu);have:=List.filter_eq_nil_iff.1 this k (by simpa using hk);simpa using this
  refine⟨?_,Cl listed a c Cf h1 h2 h3 h4 h5 h6 Ck⟩;refine List.eq_nil_iff_forall_not_mem.2 fun j hj=> ?_;obtain⟨q1,o,q2,_⟩:=mem_ready.1 hj;rw [Ck j (Array.getElem?_eq_some_iff.1 q2).1]at q1;cases q1
 |succ fuel ih=>
  intro listed a c Cf AF h1 h2 h3 h4 h5 h6 Lu;refine⟨fun hr=>Cl listed a c Cf h1 h2 h3 h4 h5 h6 (zBP hb Cf hr),fun j hj=> ?_⟩;obtain⟨q1,o,q2,q3⟩:=mem_ready.1 hj;have dW:j<ops.size:=(Array.getElem?_eq_some_iff.1 q2).1;have MO: ∀e∈o.after.toList,Region.binds .any e=true→listed.getD e.on true=true:=fun e he Lr=>by
   have h9:=q3 e (by simpa using he) Lr;have Ak:=hb j o q2 e he Lr;have h8:e.on<listed.size:=by omega
   simp only [Array.getD_eq_getD_getElem?,Array.getElem?_eq_getElem h8,Option.getD_some]at h9 ⊢;exact h9
  obtain⟨y,hy,FO⟩:=hc.ex j (by omega) (by omega);have Pl:y.o=o:=by have:=(Aw y hy).1;rw [FO,q2]at this;exact(Option.some.inj this).symm
  have Xz: ∀x∈xs,x.i<ops.size:=fun x hx=>by have:=(hc.range x hx).2;omega
  have tY: ∀x∈xs,ops[x.i]?=some x.o:=fun x hx=>(Aw x hx).1;have agree: ∀x∈xs,x.i≠j→Kh (KR ops.toList []) x.i j=true→listed.getD x.i true=decide (x.i<j):=fun x hx A5 ho=>zBm (S:=fun k=>listed.getD k true) AF q2 (Xz x hx) q1 MO A5 ho;have M9: ∀x∈xs,x.i=j→listed.getD x.i true=decide (x.i<j):=fun x hx he=>by rw [he,q1];simp
  have H3: ∀d,d∈bD ops o→BJ y.σ d=GL n (BJ σ) xs (fun k=>listed.getD k true) d:=by
   intro d hd;rw [(c1 y hy).2 d,FO];refine V7 xs rfl fun x hx UB=> ?_;by_cases he:x.i=j
   ·exact(M9 x hx he).symm
   ·rcases d3 (o,j) (OV j o q2) (x.o,x.i) (OV _ _ (tY x hx))with h|h
    ·exact absurd h he
    ·simp only [UB,Ae,Bool.or_eq_true,Bool.not_eq_true']at h;rcases h.2 with h|h
     ·rw [List.contains_iff_mem.2 hd]at h;cases h
     ·exact(agree x hx he h).symm
  have hW: ∀x∈xs,∀t,t∈x.bu.map (·.1)→ ∀ly,y.log=some ly→(t∈ly.R∨t∈ly.W)→listed.getD x.i true=decide (x.i<j):=by
   intro x hx t ht ly Ud hm;by_cases he:x.i=j
   ·exact M9 x hx he
   ·cases fU:x.r with
    |none=>simp [Rec.bu,fU]at ht
    |some ge=>
     obtain⟨gs,e⟩:=ge;have hlx:x.log=some ⟨x.i,WD x.σ gs x.o,e.bu.map (·.1)⟩:=by simp [Rec.log,fU]
     have eE:ly.i=j:=by unfold Rec.log at Ud;obtain⟨ge',_,rfl⟩:=Au.1 Ud;exact FO
     have h9:=d1 _ (Uc x hx _ hlx) _ (Uc y hy _ Ud);simp only [eE]at h9;rcases h9 with(h|h)|h
     ·exact absurd h he
     ·exfalso;have:iA (e.bu.map (·.1)) (ly.R++ly.W)=true:=by
       simp only [iA,List.any_eq_true];exact⟨t,by simpa [Rec.bu,fU]using ht,List.contains_iff_mem.2 (by simpa using hm)⟩
      rw [this]at h;cases h
     ·exact agree x hx he h
  have B8: ∀k,(listed.setIfInBounds j true).getD k true=(decide (k=j)||listed.getD k true):=zD6 Cf dW;have fE:GL n (BJ σ) xs (fun k=>(listed.setIfInBounds j true).getD k true)=CN n (GL n (BJ σ) xs fun k=>listed.getD k true) o.dst y.val:=by
   funext d;unfold CN;split
   ·rename_i hd;refine w8 hd.2 (by rw [Pl];exact hd.1) (by rw [B8,FO];simp) xs hy fun x hx A5 UB=> ?_;have he:x.i≠j:=fun h=>A5 (hc.inj x hx y hy (by rw [h,FO]));rcases d3 (o,j) (OV j o q2) (x.o,x.i) (OV _ _ (tY x hx))with h|h
    ·exact he h
    ·simp only [UB,Ae,bne_iff_ne,ne_eq]at h;exact h.1 hd.1
   ·rename_i hd;by_cases cY:d<n
    ·refine V7 xs rfl fun x hx UB=> ?_;have he:x.i≠j:=fun h=>by
      have:x=y:=hc.inj x hx y hy (by rw [h,FO]);subst this;exact hd ⟨by rw [←Pl];exact UB,cY⟩
     rw [B8];simp [he]
    ·rw [gJ (by omega),gJ (by omega)]
  have dL:Hv (AE σ.hp) xs (fun k=>(listed.setIfInBounds j true).getD k true)=Bd (Hv (AE σ.hp) xs fun k=>listed.getD k true) y.bu:=by
   funext t;by_cases ht:t∈y.bu.map (·.1)
   ·refine vX (by rw [B8,FO];simp) ht hc hy fun x hx A5 fV=> ?_;rw [FO]at A5 ⊢;rw [B8];simp only [A5,decide_false,Bool.false_or];cases Ke:y.r with
    |none=>simp [Rec.bu,Ke]at ht
    |some ge=>exact hW x hx t fV _ (by simp only [Rec.log,Ke,Option.map_some];rfl) (.inr (by simpa [Rec.bu,Ke]using ht))
   ·rw [qX ht];refine V5 xs rfl fun x hx fV=> ?_;have he:x.i≠j:=fun h=>by
     have:x=y:=hc.inj x hx y hy (by rw [h,FO]);subst this;exact ht fV
    rw [B8];simp [he]
  have TW:((List.range ops.size).filter fun k=> !(listed.setIfInBounds j true).getD k true).length≤fuel:=by have:=zwy (p:=fun k=> !listed.getD k true) (p':=fun k=> !(listed.setIfInBounds j true).getD k true) (List.range ops.size) (fun k _ hk=>by rw [B8]at hk;simp at hk ⊢;exact hk.2) ⟨j,by simpa using dW,by simp [q1],by rw [B8];simp⟩;omega
  have cP:WO ops (fun k=>(listed.setIfInBounds j true).getD k true):=by
   intro k ok hk dY e he Lr;simp only [B8,Bool.or_eq_true,decide_eq_true_eq]at hk ⊢;rcases hk with rfl|hk
   ·rw [q2]at dY;cases dY;exact .inr (MO e he Lr)
   ·exact .inr (AF k ok hk dY e he Lr)
  have MS: ∀(a':Act) (c':Cx),c'.ρ=ρ→c'.w0=F.w0→c'.A=F.A→c'.Mu=F.Mu→(∀t,c'.U t→c.U t∨(σ.nx+BN*j≤t∧t<σ.nx+BN*j+BN))→Rel c' n (CN n (GL n (BJ σ) xs fun k=>listed.getD k true) o.dst y.val) (Bd (Hv (AE σ.hp) xs fun k=>listed.getD k true) y.bu) a'→
    wpAny P .any ops Q fuel (listed.setIfInBounds j true) a' c'.w:=by
   intro a' c' g1 g2 g3 g4 g5 g6;refine ih _ a' c' (by simpa using Cf) cP g1 g2 g3 g4 (fun t ht=> ?_) (by rw [fE,dL];exact g6) TW;rcases g5 t ht with h|h
   ·rcases h5 t h with h|⟨k,k1,k2,k3,k4⟩
    ·exact .inl h
    ·exact .inr ⟨k,k1,by rw [B8,k2];simp,k3,k4⟩
   ·exact .inr ⟨j,dW,by rw [B8];simp,h.1,h.2⟩
  have G1: ∀j' want d,o.guard=some (j',want)→(ops[j']?).bind (·.dst)=some d→SR c [BJ y.σ d] [a.tmps.getD d Go.undef]:=by intro j' want d hg hd;rw [H3 d (by simp only [bD,hg,Ai];exact .inr (by simp [hd]))];exact h6.de d
  obtain⟨_,Dj⟩:=Aw y hy;cases Ke:y.r with
  |none=>
   rw [Ke]at Dj;have ED:=pV (c:=c) (a:=a) Dj (fun j' want d hg hd=>G1 j' want d (by rw [←Pl];exact hg) hd);unfold wpOp;simp only [q2];rw [Pl]at ED;rw [if_neg (by simp [show Region.wanted o (yielded ops a.tmps)=false from ED])];have hv:y.val=gone:=by simp [Rec.val,Ke]
   have he:y.bu= []:=by simp [Rec.bu,Ke]
   refine MS _ c h1 h2 h3 h4 (fun t ht=> .inl ht) ?_;rw [hv,he];exact h6.put rQ o.dst
  |some ge=>
   obtain⟨gs,e⟩:=ge;rw [Ke]at Dj;simp only at Dj;obtain⟨r1,r2,r3,r4,r5,r6⟩:=Dj;rw [Pl,FO]at r2;rw [FO]at r4;rw [Pl]at r1;have ED:=pV (c:=c) (a:=a) r1 G1;have hv:y.val=mkGd gs e.val:=by simp [Rec.val,Ke]
   have he:y.bu=e.bu:=by simp [Rec.bu,Ke]
   simp only [Tn,Ae,AG]at r4;obtain⟨_,fD⟩:=r4;have Ud:y.log=some ⟨y.i,WD y.σ gs y.o,e.bu.map (·.1)⟩:=by simp [Rec.log,Ke]
   refine uT (c:=c) AS q2 h6 ED (fun t ht=>H3 t (by simp only [bD,Ai,List.mem_filterMap];exact .inl ⟨.tmp t,by simpa using ht,rfl⟩)) (fun t x hx=> ?_) (fun t t1 t2 hU=> ?_) r2 (fun A5 t x hx=> ?_) (by rw [h1];exact r5) (by rw [h1];exact r6) (fun x hx=>by rw [r3]at hx;cases hx) (fun a' c' hs hr=> ?_)
   ·unfold Q4 at hx;split at hx
    ·rename_i hR;rw [(c4 y hy) t]at hx;rw [←hx];refine V5 xs rfl fun z hz hzt=> ?_;rw [FO];exact hW z hz t hzt _ Ud (.inl (by rw [Pl];simpa using hR))
    ·cases hx
   ·rcases h5 t hU with h|⟨k,k1,k2,k3,k4⟩
    ·simp only [BN]at*;omega
    ·have:k≠j:=by rintro rfl;rw [q1]at k2;cases k2
     simp only [BN]at*;omega
   ·have:=fD _ hx;have TY:gs.isEmpty=false:=by cases gs;exact absurd rfl A5;rfl
    simp only [TY,Bool.false_or,Bool.false_and,Bool.or_false,Ae,decide_eq_true_eq]at this;refine⟨this.1.1,this.1.2, ?_⟩;have h3:=this.2;split at h3
    ·exact⟨_,_,rfl,h3⟩
    ·cases h3
   ·exact MS a' c' (hs.ρ.trans h1) (hs.w0.trans h2) (hs.A.trans h3) (hs.Mu.trans h4) hs.U (by rw [hv,he];exact hr)
end
theorem Rel.world {c:Cx} {n:Nat} {sl:Nat→SV} {hp:Nat→Option Aj} {a:Act} (h:Rel c n sl hp a) (w:World) (h1:w.heap=c.w.heap) (h2:w.os=c.w.os) (h3:w.tape=c.w.tape) (h4:w.output=c.w.output):Rel {c with w:=w} n sl hp a:=by
 refine h.change (fun _=>False) ⟨rfl,rfl,fun _ _ hb=>hb,fun b _ _=>by show w.heap[b]?=_;rw [h1],fun _ _ hk=>⟨hk,rfl⟩,fun _ _ _=>⟨Nat.le_refl _,fun _=>⟨rfl,fun b _ _=>by show w.heap[b]?=_;rw [h1]⟩⟩⟩ ⟨h2.trans h.base.os,h3.trans h.base.tape,h4.trans h.base.output,by show _≤w.heap.size;rw [h1];exact h.base.size,h.base.pins,fun b hb hm=>by show w.heap[b]?=_;rw [h1];exact h.base.block b hb hm,h.base.pk,h.base.lo⟩ (fun t _=>⟨rfl,rfl,rfl,fun g hk=>hk⟩) (fun t _ b _=>by show w.heap[b]?=_;rw [h1]) (fun t ht=>ht.elim)
  ⟨h.gw.nodup,h.gw.cz,h.gw.allow,fun t b hb=>by show b<w.heap.size;rw [h1];exact h.gw.inb t b hb⟩ h.cj h.c6
theorem zCM {P:Program} {sg:B0} {Rt:Nat→List AV→AV→Prop} (eL:P.follows .mixedOrders=true) (AS:Pv P sg Rt) (GF:UI P sg):zzf P sg Rt:=by
 intro id ops draw σ t _ Fx hnx ht F R L js ρ a w hL hd hr Q hq;obtain⟨c,rfl,rfl,h1,h2,h3,h4,h5,h6⟩:=hr;rw [List.range_eq_range']at ht;cases draw with
 |false=>refine wp_region ?_;rw [List.range_eq_range'];exact vF AS GF (n:=σ.sl.length) ops.size 0 [] σ t (by omega) ht c a ⟨h1,h2,h3,h4,rfl,by simpa using h5,h6⟩ hd (fun c' a' σ' hp hl As=>hq [] .normal σ' c'.ρ a' c'.w hp hl As)
 |true=>
  refine wp_region_any eL ?_;obtain⟨τ,xs,σ',lg',g1,g2,g3,g4,g5,g6,_,g8⟩:=qA ops.size 0 [] σ t c.ρ (by omega) ht hd h4;have dB:=h6.ext (fun i=>by rw [h4];exact St.mr Fx i) (fun t e he=>by rw [h4];exact St.mi Fx t e he) τ;have hw:=dB.world {c.w with drawn:=c.w.drawn+1} rfl rfl rfl rfl;have Hn: ∀k,k<ops.size→(Array.replicate ops.size false).getD k true=false:=fun k hk=>by simp [Array.getD_eq_getD_getElem?,hk]
  have Xz: ∀x∈xs,x.i<ops.size:=fun x hx=>by have:=(g1.range x hx).2;omega
  have e1:(GL σ.sl.length (BJ σ) xs fun k=>(Array.replicate ops.size false).getD k true)=BJ σ:=by funext d;exact qV _ fun x hx _=>Hn x.i (Xz x hx)
  have e2:(Hv (AE σ.hp) xs fun k=>(Array.replicate ops.size false).getD k true)=AE σ.hp:=by funext d;exact qH _ fun x hx _=>Hn x.i (Xz x hx)
  refine zAr (F:=F) (n:=σ.sl.length) (c:={c.ext τ with w:={c.w with drawn:=c.w.drawn+1}}) AS g1 g2 g3 g6 g8 rfl (fun c' a' k1 k2 k3 k4 k5 k6=> ?_) ops.size (Array.replicate ops.size false) a (by simp) (fun k o hk ho=> ?_) rfl h1 h2 h3 (fun t ht=> .inl (h5 t ht)) (by rw [e1,e2];exact hw) (Nat.le_trans (List.length_filter_le _ _) (by simp))
  ·have hlen:=(g1.sl rfl).2.1;refine hq [] .normal _ c'.ρ a' c'.w (by rw [k1];exact List.prefix_append _ _) (by rw [k1];exact g5) ⟨c',rfl,rfl,k2,k3,k4,by rw [k1];exact g4,k5, ?_⟩;show Rel c' σ'.sl.length _ _ a';rw [hlen];exact k6
  ·have:=Hn k (Array.getElem?_eq_some_iff.1 ho).1;have B5:(Array.replicate ops.size false).getD k true=true:=hk;rw [this]at B5;cases B5
section
variable {P:Program} {c:Cx} {n nx:Nat} {sl sl0:Nat→SV} {hp hp0:Nat→Option Aj} {a:Act} {o:Oper} {gs:Gd} {e:A7} {sg:B0} {nv:Nat}
theorem zw0 (h:Bt P c n nx sl hp a sl0 hp0 o gs) {op:BinOp} {t el:TypeId} {x y:Operand} {ty:TypeId} (ho:o.op= .binOp op t x y ty) (hu:P.underlying t=some (.slice el)) {p:Option Addr} {q r:Nat} (hv:a.eval x= .slice p q r) (r2:SR c [.cq] [a.eval y])
  (AS:op= .eql∨op= .neq) (GH:c.ρ[nv]?=some (.bool (Lc a o))) (x':Option E) {ck:List Cn}:AB P o c n nx sl hp gs a {ca:=ck,cm:=x',val:= .e (if op= .eql then .var nv else .not (.var nv))}:=by
 have hb:Lc a o=p.isNone:=by simp only [Lc,ho,hv];cases p<;>rfl
 rw [hb]at GH;have ex:=fun(v u:Value) (hv:a.eval x=v) (hu:a.eval y=u)=>Qj (P:=P) (o:=o) ho c.w hv hu;generalize DB:a.eval y=v2 at r2;cases r2 with
 |cq _=>
  refine AB.pure h (v:= .bool (if op= .eql then p.isNone else !p.isNone)) ?_ ?_ rfl
  ·rw [ex _ _ hv DB,eqGuard_at_slice];rcases AS with rfl|rfl
   ·simp [Go.Lib.run_eql_slice_nil c.w t el p q r 0 0 hu]
   ·simp [binOp,Op.equal,Op.maxDepth,Go.Lib.run_equalIn_slice_nil c.w 9999 t el p q r 0 0 hu]
  ·rcases AS with rfl|rfl
   ·refine .e (f:= []) ?_ (by simp) .nil;simp only [if_true,E.den,GH,Option.getD_some];exact .bool .nil
   ·refine .e (f:= []) ?_ (by simp) .nil;simp only [reduceCtorEq,if_false,E.den,GH,Option.getD_some,AV.gq];exact .bool .nil
end
section
variable {P:Program} {c:Cx} {n nx:Nat} {sl sl0:Nat→SV} {hp hp0:Nat→Option Aj} {a:Act} {o:Oper} {gs:Gd} {e:A7} {sg:B0} {nv:Nat}
theorem Wl {hp:Nat→Option Aj} {gs:Gd} {m:Nat} {cs:BD} {x:E} (h:Br hp gs m (.agg cs)=some x): ∃k l,m=k+1∧CC hp gs k cs.toList=some l∧x= .mk l:=by
 cases m with
 |zero=>simp [Br]at h
 |succ m=>simp only [Br,Au]at h;obtain⟨l,h1,h2⟩:=h;exact⟨m,l,rfl,h1,h2.symm⟩
theorem K8 {hp:Nat→Option Aj} {gs:Gd} {m:Nat} {y x:E} (h:Br hp gs m (.e y)=some x):x=y:=by
 cases m with
 |zero=>simp [Br]at h
 |succ m=>simp [Br]at h;exact h.symm
theorem Mb {hp:Nat→Option Aj} {gs:Gd} {m:Nat} {x:E} (h:Br hp gs m .cq=some x):x= .lst .nil:=by
 cases m with
 |zero=>simp [Br]at h
 |succ m=>simp [Br]at h;exact h.symm
theorem KY {hp:Nat→Option Aj} {gs:Gd} {m:Nat} {s:SV} {ss:List SV} {x:EL} (h:CC hp gs m (s::ss)=some x): ∃k y l,m=k+1∧Br hp gs k s=some y∧CC hp gs k ss=some l∧x= .cons y l:=by
 cases m with
 |zero=>simp [CC]at h
 |succ m=>
  simp only [CC]at h;split at h
  ·rename_i y l h1 h2;simp at h;exact⟨m,y,l,rfl,h1,h2,h.symm⟩
  ·cases h
theorem Sn {hp:Nat→Option Aj} {gs:Gd} {ρ:List AV} {w:World}: ∀(vs:List Value) (ss:List SV) (m:Nat) (x:EL),Fg.go vs=some ss→CC hp gs m ss=some x→Rd w vs (x.den ρ) []
 | [],ss,m,x,h,hx=>by
  simp [Fg.go]at h;subst h;cases m with
  |zero=>simp [CC]at hx
  |succ m=>simp [CC]at hx;subst hx;exact .nil
 |v::vs,ss,m,x,h,hx=>by
  unfold Fg.go at h;split at h
  ·rename_i hh;cases hh
  ·rename_i k q l hh;cases hh;split at h
   ·rename_i hk;obtain⟨l',h1,rfl⟩:=Au.1 h;obtain⟨j,y,l2,rfl,h2,h3,rfl⟩:=KY hx;rw [K8 h2];exact .int hk (Sn _ _ _ _ h1 h3)
   ·cases h
  ·rename_i q l hh;cases hh;obtain⟨l',h1,rfl⟩:=Au.1 h;obtain⟨j,y,l2,rfl,h2,h3,rfl⟩:=KY hx;rw [K8 h2];exact .bool (Sn _ _ _ _ h1 h3)
  ·rename_i q l hh;cases hh;split at h
   ·rename_i hk;obtain⟨l',h1,rfl⟩:=Au.1 h;obtain⟨j,y,l2,rfl,h2,h3,rfl⟩:=KY hx;rw [K8 h2];exact .str hk (Sn _ _ _ _ h1 h3)
   ·cases h
  ·rename_i l hh;cases hh;obtain⟨l',h1,rfl⟩:=Au.1 h;obtain⟨j,y,l2,rfl,h2,h3,rfl⟩:=KY hx;rw [Mb h2];exact .fc (Sn _ _ _ _ h1 h3)
  ·rename_i l hh;cases hh;obtain⟨l',h1,rfl⟩:=Au.1 h;obtain⟨j,y,l2,rfl,h2,h3,rfl⟩:=KY hx;rw [K8 h2];exact .ej (Sn _ _ _ _ h1 h3)
  ·cases h
theorem nQ {hp:Nat→Option Aj} {gs:Gd} {ρ:List AV} {w:World} {v:Value} {s:SV} {m:Nat} {x:E} (h:Fg v=some s) (hx:Br hp gs m s=some x):
  Rd w v.cells.toList (x.den ρ).cells []∧(∀u∈v.cells.toList,u.oneCell'=true):=by
 have one: ∀{v:Value} {y:AV},Rd w [v] [y] []→(∀cs,y≠ .agg cs)→(∀cs,y≠ .tup cs)→Rd w v.cells.toList y.cells []∧(∀u∈v.cells.toList,u.oneCell'=true):=by
  intro v y hr h1 h2;have h3:=nN hr h1 h2;have h4:y.cells= [y]:=by cases y<;>first|rfl|exact absurd rfl (h1 _)
  rw [one_cells h3,h4];exact⟨by simpa using hr,by simpa using h3⟩
 unfold Fg at h;split at h
 ·split at h
  ·rename_i hk;simp at h;subst h;rw [K8 hx];exact one (.int hk .nil) (by simp [E.den]) (by simp [E.den])
  ·cases h
 ·simp at h;subst h;rw [K8 hx];exact one (.bool .nil) (by simp [E.den]) (by simp [E.den])
 ·split at h
  ·rename_i hk;simp at h;subst h;rw [K8 hx];exact one (.str hk .nil) (by simp [E.den]) (by simp [E.den])
  ·cases h
 ·simp at h;subst h;rw [Mb hx];exact one (.fc .nil) (by simp [E.den]) (by simp [E.den])
 ·simp at h;subst h;rw [K8 hx];exact one (.ej .nil) (by simp [E.den]) (by simp [E.den])
 ·rename_i cs;simp only [Option.bind_eq_bind,Av,Ah]at h;obtain⟨l,hl,rfl⟩:=h;obtain⟨k,l',rfl,h1,rfl⟩:=Wl hx;rw [BD.bc]at h1;exact⟨Sn _ _ _ _ hl h1,nG _ _ hl⟩
 ·cases h
theorem gE {w:World} {vs:List Value} {x:AV} (h:Rd w vs x.cells []): ∀k,Rd w (List.replicate k vs).flatten (AL (List.replicate k x)) []
 |0=> .nil
 |k+1=>by simp only [List.replicate_succ,List.flatten_cons,AL,List.flatMap_cons];have:=h.app (gE h k);simpa [AL]using this
theorem Y4 (z:Array Value) (hz:0<z.size): ∀k,(madeCells z (k*z.size)).toList=(List.replicate k z.toList).flatten
 |0=>by simp [madeCells]
 |k+1=>by
  have ih:=Y4 z hz k;simp only [madeCells,Array.toList_map,Array.toList_range]at ih ⊢;rw [Nat.add_mul,Nat.one_mul,List.range_add,List.map_append,ih,List.replicate_succ',List.flatten_append];congr 1;simp only [List.map_map,List.flatten_cons,List.flatten_nil,List.append_nil];apply List.ext_getElem?;intro i;simp only [List.getElem?_map,List.getElem?_range'];by_cases hi:i<z.size
  ·simp only [List.getElem?_range hi,Option.map_some,Function.comp_apply];have:(k*z.size+i) % z.size=i:=by rw [Nat.add_comm,Nat.add_mul_mod_self_right,Nat.mod_eq_of_lt hi]
   simp [this,hi]
  ·rw [List.getElem?_eq_none (by simpa using hi),List.getElem?_eq_none (by simpa using hi)];rfl
theorem zz8 (h:Bt P c n nx sl hp a sl0 hp0 o gs) {t:TypeId} {l m:Operand} (ho:o.op= .makeSlice t l m) {s1 s2:SV} (BO:BV sl0 gs l=some s1) (A6:BV sl0 gs m=some s2) (he:sF P hp0 gs nx t s1 s2=some e) (hc: ∀q∈e.ca,Cn.den c.ρ q):AB P o c n nx sl hp gs a e:=by
 have Et:l∈o.op.operands:=by simp [ho,Op.operands]
 have DF:m∈o.op.operands:=by simp [ho,Op.operands]
 unfold sF at he;split at he
 ·rename_i el x y BE;have BE:=KX BE;split at he
  ·cases he
  rename_i hz;have hz:IU P el=true:=by simpa using hz
  obtain⟨i,z,hi,Gx,D0,Cf,CI,G0⟩:=L8 hz;have r1:=h.db BO Et;have r2:=h.db A6 DF;have ival: ∀{x:E} {kk:IntKind} {k:Int} {v:Value},SR c [.e x] [v]→x.den c.ρ= .int kk k→v= .int kk k:=by
   intro x kk k v hr hx;cases hr with
   |e h1 _ _=>exact(Ha h1 hx).1
  split at he
  ·rename_i HB;split at he
   ·rename_i s hs;have hs:Fg z=some s:=by simpa [hi,Gx]using hs
    obtain⟨w,hw,rfl⟩:=Au.1 he;obtain⟨kk,k,hk,h0,hb,hle⟩:Cn.den c.ρ (.mkroom x (P.bytesOf el)):=B2 hc;have Fc:=ival r1 hk;have DB:=ival r2 (by rw [←E.au c.ρ _ _ HB];exact hk);obtain⟨c1,c2⟩:=nQ (w:=c.w) (ρ:=c.ρ) hs hw;obtain⟨kn,rfl⟩:=Int.eq_ofNat_of_zero_le h0;have DX:(i.bytes:Int)*(kn:Int)≤281474976710656:=by rw [G0]at hb;rw [Int.mul_comm];omega
    have hlen:=c1.len;have Xk:=Y4 z.cells (by omega) kn;have AN:=run_make (P:=P) c.w t el i z BE hi Gx kk kk kn kn (by omega) (Int.le_refl _) DX (by omega);have FK:(madeCells z.cells (kn*z.cells.size)).size=kn*P.cellsOf el:=by rw [size_madeCells,D0,CI]
    have CO:(madeCells z.cells (kn*z.cells.size)).toList.take ((List.replicate kn (w.den c.ρ)).length*P.cellsOf el)=(List.replicate kn z.cells.toList).flatten:=by rw [List.length_replicate,List.take_of_length_le (by rw [Array.length_toList,FK];exact Nat.le_refl _),Xk]
    refine AB.newRow (xs:=List.replicate kn (w.den c.ρ)) (N:= []) (C:=madeCells z.cells (kn*z.cells.size)) (cap:=kn) (wd:=c.w) (fz:= []) (ts:= []) h rfl ⟨rfl,rfl,rfl,rfl⟩ ?_ ?_ (by omega) (fun u hu=> ?_) (by simp) (by simp only [maxLen];omega) FK ?_ ?_ (by simp) (fun _=>rfl)
    ·simp only [execOp,ho,Fc,DB,Sem.run_bind,Int.ofNat_eq_natCast,List.length_replicate];rw [AN,D0];rfl
    ·simp [E.den,hk,AV.rep]
    ·rw [List.eq_of_mem_replicate hu,←hlen,Array.length_toList,D0,CI]
    ·rw [CO];intro u hu;obtain⟨q,hq,hu⟩:=List.mem_flatten.1 hu;rw [List.eq_of_mem_replicate hq]at hu;exact c2 u hu
    ·rw [CO];exact gE c1 kn
   ·cases he
  ·split at he
   ·rename_i k0 _;simp only [Ah]at he;subst he;obtain⟨kk,k,hk,h0,hb,hle⟩:Cn.den c.ρ (.mkroom y (P.bytesOf el)):=B2 hc;have Fc:=ival r1 (show(E.int k0 0).den c.ρ= .int k0 0 from rfl);have DB:=ival r2 hk;obtain⟨kn,rfl⟩:=Int.eq_ofNat_of_zero_le h0;have DX:(i.bytes:Int)*(kn:Int)≤281474976710656:=by
     rw [G0]at hb;rw [Int.mul_comm];omega
    have AN:=run_make (P:=P) c.w t el i z BE hi Gx k0 kk 0 kn (by omega) (by omega) DX (by omega);refine AB.newRow (xs:= []) (N:= []) (C:=madeCells z.cells (kn*i.size)) (cap:=kn) (wd:=c.w) (fz:= []) (ts:= []) h rfl ⟨rfl,rfl,rfl,rfl⟩ ?_ rfl (by omega) (by simp) (by simp) (by simp only [maxLen];omega) (by rw [size_madeCells,CI]) (by simp) (by simpa [AL]using Rd.nil) (by simp) (fun _=>rfl);simp only [execOp,ho,Fc,DB,Sem.run_bind,Int.ofNat_eq_natCast];rw [AN];rfl
   ·cases he
 ·cases he
end
section
variable {P:Program} {c:Cx} {n nx:Nat} {sl sl0:Nat→SV} {hp hp0:Nat→Option Aj} {a:Act} {o:Oper} {gs:Gd} {e:A7} {sg:B0} {nv:Nat}
def S3 (v:Option Value) (k d:Nat):Prop:=(v=none∧k=d)∨ ∃kk,v=some (.int kk (k:Int))
theorem lG {w:World} {t el:TypeId} (hu:P.underlying t=some (.slice el)) (Bp:DE P el=true) (p:Option Addr) (m r l h:Nat) {lo hi:Option Value} (Ci:S3 lo l 0) (OM:S3 hi h m) (h1:l≤h) (h2:h≤m) (h3:m≤r):
  (Instr.sliceAt t (.slice p m r) lo hi none).run P w= .ok (sliced p l h r (P.cellsOf el)) w:=by
 have F4:P.underlying t=some (.slice (P.elem t)):=by simp [Program.elem,hu]
 have he:P.elem t=el:=by simp [Program.elem,hu]
 have hs:(sizeOf (P.elem t)).run P w= .ok (P.cellsOf el) w:=by rw [he];exact PX Bp w
 rw [run_sliceAt_slice w t _ _ _ _ F4];rcases Ci with⟨rfl,rfl⟩|⟨kl,rfl⟩<;>rcases OM with⟨rfl,rfl⟩|⟨kh,rfl⟩
 ·rw [run_slice_all w t p h r F4,hs];rfl
 ·rw [run_slice_h w t p m r F4 kh _ (by omega) (by omega),hs];rfl
 ·rw [run_slice_l w t p h r F4 kl _ (by omega) (by omega),hs];rfl
 ·rw [run_slice_lh w t p m r F4 kl kh _ _ (by omega) (by omega) (by omega),hs];rfl
theorem zxt (s:ByteArray) (a b:Nat):(s.extract a b).data.toList=(s.data.toList.drop a).take (b-a):=by rw [ByteArray.data_extract,Array.toList_extract,List.extract_eq_take_drop]
theorem zrs {w:World} {t:TypeId} (hu:P.underlying t=some .string) (s:ByteArray) (l h:Nat) {lo hi:Option Value} (Ci:S3 lo l 0) (OM:S3 hi h s.size) (h1:l≤h) (h2:h≤s.size):
  (Instr.sliceAt t (.string s) lo hi none).run P w= .ok (.string (s.extract l h)) w:=by
 rw [run_sliceAt_string w t _ _ _ _ hu];rcases Ci with⟨rfl,rfl⟩|⟨kl,rfl⟩<;>rcases OM with⟨rfl,rfl⟩|⟨kh,rfl⟩
 ·rw [run_slice_string_all w t s hu]
 ·rw [run_slice_string_h w t s hu kh _ (by omega) (by omega)];rfl
 ·rw [run_slice_string_l w t s hu kl _ (by omega) (by omega)];rfl
 ·rw [run_slice_string w t s kl kh _ _ hu (by omega) (by omega) (by omega)];rfl
theorem pO {sz:Nat} (ys:List AV) (hs: ∀y∈ys,y.cells.length=sz) (l h:Nat) (hl:l≤h) (hh:h≤ys.length):((AL ys).drop (l*sz)).take ((h-l)*sz)=AL ((ys.take h).drop l):=by
 have e:ys=ys.take l++((ys.take h).drop l++ys.drop h):=by
  rw [←List.append_assoc];have:ys.take l++(ys.take h).drop l=ys.take h:=by
   have h2:ys.take l=(ys.take h).take l:=by rw [List.take_take,Nat.min_eq_left hl]
   rw [h2,List.take_append_drop]
  rw [this,List.take_append_drop]
 have f1:AL ys=AL (ys.take l)++(AL ((ys.take h).drop l)++AL (ys.drop h)):=by
  conv=>lhs;rw [e]
  simp [AL]
 have l1:(AL (ys.take l)).length=l*sz:=by rw [NU _ (fun y hy=>hs y (List.mem_of_mem_take hy)),List.length_take,Nat.min_eq_left (by omega)]
 have l2:(AL ((ys.take h).drop l)).length=(h-l)*sz:=by rw [NU _ (fun y hy=>hs y (List.mem_of_mem_take (List.mem_of_mem_drop hy))),List.length_drop,List.length_take,Nat.min_eq_left (by omega)]
 rw [f1,←l1,List.drop_left,←l2,List.take_left]
theorem zGT {w:World} {v:Value} {ys:List AV} {f:List Nat} {sz:Nat} (hr:Rd w [v] [.sl ys] f) (hs: ∀y∈ys,y.cells.length=sz) (l h:Nat) (hl:l≤h) (hh:h≤ys.length):
  ∃p r g,v= .slice p ys.length r∧ys.length≤r∧Rd w [sliced p l h r sz] [.sl ((ys.take h).drop l)] g∧ ∀b∈g,b∈f:=by
 cases hr with
 |fc _=>
  rename_i p r;have hh:h=0:=by simpa using hh
  subst hh;have hl:l=0:=by omega
  subst hl;exact⟨_,_, [],rfl,Nat.zero_le _,by simpa [sliced]using Rd.fc .nil,by simp⟩
 |gu hb h1 h2 h3 h4 h5 h6 Hj h7 h8=>
  rename_i b o m r cs C t fz sz' f1 f2;have hy: ∃y,y∈ys:=by cases ys with|nil=>simp at h3;omega|cons y _=>exact⟨y,by simp⟩
  obtain⟨y0,Ia⟩:=hy;have F3:sz'=sz:=(h4 y0 Ia).symm.trans (hs y0 Ia);subst F3;subst h3;refine⟨some ⟨b,o,none⟩,r, ?_⟩;rcases Nat.eq_or_lt_of_le hl with he|Ak
  ·subst he;refine⟨[],rfl,h2.2, ?_,by simp⟩;have:(ys.take l).drop l= []:=List.drop_eq_nil_of_le (by simp;omega);rw [this];simp only [sliced,Nat.sub_self];exact .fc .nil
  ·have EB:=h7.len;obtain⟨g,hg,DJ⟩:=h7.piece (l*sz') ((h-l)*sz');rw [pO ys h4 l h hl hh]at DJ;refine⟨b::(g++ []),rfl,h2.2, ?_,fun x hx=> ?_⟩
   ·have CV:sliced (some (⟨b,o,none⟩:Addr)) l h r sz'= .slice (some ⟨b,o+l*sz',none⟩) (h-l) (r-l):=by
     unfold sliced;split
     ·exfalso;omega
     ·simp [Addr.add_lit]
    rw [CV];refine Rd.gu (cs:=(cs.drop (l*sz')).take ((h-l)*sz')) hb (by omega) ⟨by omega,by omega⟩ (by simp;omega) (fun y hy=>h4 y (List.mem_of_mem_take (List.mem_of_mem_drop hy))) h5 (fun j u hu=> ?_) (fun u hu=>Hj u (List.mem_of_mem_drop (List.mem_of_mem_take hu))) DJ .nil;rw [List.getElem?_take]at hu;split at hu
    ·rw [List.getElem?_drop]at hu;have:=h6 _ _ hu;rw [←this];congr 1;omega
    ·cases hu
   ·simp only [List.append_nil,Ag]at hx;rcases hx with rfl|hx
    ·simp
    ·have:=hg x hx;simp [this]
theorem Ks {f:Operand→Option SV} {x:Option Operand} {r:Option SV} (h:KB f x=some r):(x=none∧r=none)∨ ∃y z,x=some y∧f y=some z∧r=some z:=by
 cases x with
 |none=>simp [KB]at h;exact .inl ⟨rfl,h.symm⟩
 |some y=>obtain⟨z,hz,rfl⟩:=Au.1 h;exact .inr ⟨y,z,rfl,hz,rfl⟩
theorem ZA {s:Option SV} {d l:E} (h:Nr s d=some l):(s=none∧l=d)∨s=some (.e l):=by
 unfold Nr at h;split at h
 ·simp at h;exact .inl ⟨rfl,h.symm⟩
 ·simp at h;subst h;exact .inr rfl
 ·cases h
theorem zyb (h:Bt P c n nx sl hp a sl0 hp0 o gs) {t:TypeId} {x:Operand} {lo hi mx:Option Operand} (ho:o.op= .slice t x lo hi mx) {s:SV} (hs:BV sl0 gs x=some s) {l' h' m':Option SV} (BG:KB (BV sl0 gs) lo=some l') (MT:KB (BV sl0 gs) hi=some h') (Gz:KB (BV sl0 gs) mx=some m') (he:qI P hp0 gs t s l' h' m'=some e) (hc: ∀q∈e.ca,Cn.den c.ρ q):AB P o c n nx sl hp gs a e:=by
 have hm:x∈o.op.operands:=by simp [ho,Op.operands]
 have OS: ∀y,lo=some y→y∈o.op.operands:=fun y hy=>by simp [ho,Op.operands,hy]
 have LD: ∀y,hi=some y→y∈o.op.operands:=fun y hy=>by simp [ho,Op.operands,hy]
 have eK: ∀y,mx=some y→y∈o.op.operands:=fun y hy=>by simp [ho,Op.operands,hy]
 have hx:=h.db hs hm;have ival: ∀{x:E} {kk:IntKind} {k:Int} {v:Value},SR c [.e x] [v]→x.den c.ρ= .int kk k→v= .int kk k:=by
  intro x kk k v hr hx;cases hr with
  |e h1 _ _=>exact(Ha h1 hx).1
 unfold qI at he;split at he
 ·cases he
 rename_i y hy;obtain⟨f,q1,q2⟩:=h.lr hs hm hy;have ex:(execOp a.eval o).run P c.w=((Instr.sliceAt t (a.eval x) (lo.map a.eval) (hi.map a.eval) (mx.map a.eval)).run P c.w).andThen fun v w=> .ok (.value v) w:=by simp [execOp,ho]
 split at he
 ·split at he
  ·rename_i el _ _ hu;split at he
   ·rename_i Bp;simp only [Ah]at he;subst he;have hd:(y.den c.ρ).len≠ .undef:=B2 hc;cases Bz:y.den c.ρ<;>simp only [Bz,AV.len,ne_eq,not_true_eq_false]at hd;rename_i xs;have hl:(y.den c.ρ).len= .int .i64 (xs.length:Int):=by rw [Bz];rfl
    obtain⟨p,q,r,hv⟩: ∃p q r,a.eval x= .slice p q r:=by
     rcases SL q1 hl with⟨p,q,hv,Es⟩|⟨b,o',k,q,hv,Es⟩
     ·exact⟨_,_,_,hv⟩
     ·exact⟨_,_,_,hv⟩
    rcases Ks BG with⟨rfl,_⟩|⟨_,_,_,_,hh⟩
    ·rcases Ks MT with⟨_,hh⟩|⟨oh,sh,rfl,hsh,hh⟩
     ·cases hh
     ·cases hh;rcases Ks Gz with⟨_,hh⟩|⟨om,sm,rfl,O9,hh⟩
      ·cases hh
      ·cases hh;have v1:=(fun{kk:IntKind} (hr:SR c [.e (.int kk 0)] [a.eval oh])=>ival hr (show(E.int kk 0).den c.ρ= .int kk 0 from by simp only [E.den])) (h.db hsh (LD _ rfl))
       have v2:=(fun{kk:IntKind} (hr:SR c [.e (.int kk 0)] [a.eval om])=>ival hr (show(E.int kk 0).den c.ρ= .int kk 0 from by simp only [E.den])) (h.db O9 (eK _ rfl))
       have F4:P.underlying t=some (.slice (P.elem t)):=by simp [Program.elem,hu]
       have BE:P.elem t=el:=by simp [Program.elem,hu]
       refine AB.pure h (v:= .slice p 0 0) ?_ (.emp .nil) rfl;rw [ex,hv];simp only [Option.map_none,Option.map_some,v1,v2];rw [run_sliceAt_slice c.w t _ _ _ _ F4,run_slice_hm c.w t p q r F4 _ _ 0 0 (by omega) (by omega) (by omega),BE,PX Bp];simp [sliced]
    ·cases hh
   ·cases he
  ·cases he
 ·have OU:mx=none:=by
   rcases Ks Gz with⟨hh,_⟩|⟨_,_,_,_,hh⟩
   ·exact hh
   ·cases hh
  subst OU;have blo: ∀(l:E) (kk:IntKind) (k:Nat),Nr l' (.int .i64 0)=some l→l.den c.ρ= .int kk k→S3 (lo.map a.eval) k 0:=by
   intro l kk k hl hk;rcases Ks BG with⟨rfl,rfl⟩|⟨ol,sl',rfl,CV,rfl⟩
   ·rcases ZA hl with⟨_,rfl⟩|hh
    ·simp only [E.den,AV.int.injEq]at hk;exact .inl ⟨rfl,by omega⟩
    ·cases hh
   ·rcases ZA hl with⟨hh,_⟩|hh
    ·cases hh
    ·cases hh;exact .inr ⟨kk,by rw [Option.map_some,ival (h.db CV (OS _ rfl)) hk]⟩
  have bhi: ∀(d l:E) (kk:IntKind) (k m:Nat),Nr h' d=some l→l.den c.ρ= .int kk k→d.den c.ρ= .int .i64 (m:Int)→S3 (hi.map a.eval) k m:=by
   intro d l kk k m hl hk hd;rcases Ks MT with⟨rfl,rfl⟩|⟨ol,sl',rfl,CV,rfl⟩
   ·rcases ZA hl with⟨_,rfl⟩|hh
    ·rw [hd]at hk;simp only [AV.int.injEq]at hk;exact .inl ⟨rfl,by omega⟩
    ·cases hh
   ·rcases ZA hl with⟨hh,_⟩|hh
    ·cases hh
    ·cases hh;exact .inr ⟨kk,by rw [Option.map_some,ival (h.db CV (LD _ rfl)) hk]⟩
  split at he
  ·rename_i hu;split at he
   ·rename_i l hb q LB OL;simp only [Ah]at he;subst he;obtain⟨ka,ai,kb,bi,bs,d1,d2,d3,d4,d5,d6⟩:Cn.den c.ρ (.winS y l hb):=B2 hc;obtain⟨an,rfl⟩:=Int.eq_ofNat_of_zero_le d4;obtain⟨bn,rfl⟩:=Int.eq_ofNat_of_zero_le (Int.le_trans d4 d5);obtain⟨ss,hv,rfl,hle⟩:=Tb q1 d3;have Cf:ss.data.toList.length=ss.size:=by simp
    have AN:=zrs (P:=P) (w:=c.w) hu ss an bn (blo l ka an LB d1) (bhi (.slen y) hb kb bn ss.size OL d2 (by simp only [E.den,d3,AV.slen];simp)) (by omega) (by omega);refine AB.pure h (v:= .string (ss.extract an bn)) ?_ (.dd ?_) rfl
    ·rw [ex,hv,Option.map_none,AN];rfl
    ·simp only [E.den,d1,d2,d3,AV.swin];have:(List.take (bn:Int).toNat ss.data.toList).drop (an:Int).toNat=(ss.extract an bn).data.toList:=by
      simp [zxt,List.drop_take]
     rw [this];exact .str (by simp only [ByteArray.size_extract];omega) .nil
   ·cases he
  ·rename_i el hu;split at he
   ·cases he
   rename_i Bp;have Bp:DE P el=true:=by simpa using Bp
   split at he
   ·rename_i l hb fz LB OL H2;simp only [Ah]at he;subst he;have Bm:Cn.den c.ρ (.issl y (P.cellsOf el)):=B2 hc;obtain⟨ys,DG,Ph⟩:=Bm;obtain⟨ka,ai,kb,bi,m,d1,d2,d3,d4,d5,d6⟩:Cn.den c.ρ (.win y l hb):=hc _ (by simp);obtain⟨an,rfl⟩:=Int.eq_ofNat_of_zero_le d4;obtain⟨bn,rfl⟩:=Int.eq_ofNat_of_zero_le (Int.le_trans d4 d5);rw [DG]at q1;have hm9:(m:Int)=ys.length:=by rw [DG]at d3;simpa [AV.len]using d3.symm
    split at H2
    ·rename_i J0;obtain⟨p,r,g,hv,hr,DJ,hg⟩:=zGT q1 Ph an bn (by omega) (by omega);have AN:=lG (P:=P) (w:=c.w) hu Bp p ys.length r an bn (blo l ka an LB d1) (bhi (.len y) hb kb bn ys.length OL d2 (by simp only [E.den,DG,AV.len])) (by omega) (by omega) hr;intro next Q hk
     unfold Oper.wp;rw [ex,hv,Option.map_none,AN];show Oper.upon P o a next Q (.ok (.value _) c.w)
     rw [Oper.upon_value];have As:=h.rel.freeze h.hp h.gs H2;have Aw: ∀b∈g,(c.cf (fz.map (·.1))).ok b:=fun b hb=>V0 h.rel h.eh h.gs H2 J0 (q2 b (hg b hb));refine hk _ (c.cf (fz.map (·.1))) ⟨rfl,rfl,rfl,rfl,fun t ht=> .inl ht⟩ (As.put (SR.mkGd (.e (f:=g) ?_ Aw .nil) gs h.gs) o.dst);show Rd c.w _ [(E.win y l hb).den c.ρ] g;simp only [E.den,d1,d2,DG,AV.win,Int.ofNat_eq_natCast,Int.toNat_natCast];exact DJ
    ·cases H2
   ·cases he
  ·cases he
end
section
variable {P:Program} {c:Cx} {n nx:Nat} {sl sl0:Nat→SV} {hp hp0:Nat→Option Aj} {a:Act} {o:Oper} {gs:Gd} {e:A7} {sg:B0} {nv:Nat}
theorem Tl {w:World} {v:Value} {x:AV} {f:List Nat} {k:SK} (h:Rd w [v] [x] f) (hk:x.sk=some k):(∃kk n,k= .int kk∧v= .int kk n∧x= .int kk n)∨(∃b,k= .bool∧v= .bool b∧x= .bool b)∨ ∃s:ByteArray,k= .str∧v= .string s∧x= .str s.data.toList:=by
 cases h<;>simp [AV.sk]at hk
 ·exact .inl ⟨_,_,hk.symm,rfl,rfl⟩
 ·exact .inr (.inl ⟨_,hk.symm,rfl,rfl⟩)
 ·exact .inr (.inr ⟨_,hk.symm,rfl,rfl⟩)
theorem nV {t:TypeId} (h:(∃k,P.underlying t=some (.int k))∨P.underlying t=some .bool∨P.underlying t=some .string):Ao P t=false:=by rcases h with⟨k,h⟩|h|h<;>simp [Ao,h]
theorem zqB {w:World} (d:Nat): ∀(fs:List Field) (j:Nat) (ks:List SK) {as_ bs:List Value} {cs ds:List AV} {f g:List Nat},Tg P j fs=some ks→Rd w as_ cs f→Rd w bs ds g→(cs.drop j).map AV.sk=ks.map some→(ds.drop j).map AV.sk=ks.map some→
  (Op.eqFields (d+1) as_.toArray bs.toArray fs).run P w= .ok (AV.leq (cs.drop j) (ds.drop j)) w
 | [],j,ks,as_,bs,cs,ds,f,g,hk,h1,h2,k1,k2=>by
  simp [Tg]at hk;subst hk;have e1:cs.drop j= []:=by simpa using k1
  have e2:ds.drop j= []:=by simpa using k2
  rw [e1,e2];simp [Op.eqFields,AV.leq]
 |fd::fs,j,ks,as_,bs,cs,ds,f,g,hk,h1,h2,k1,k2=>by
  unfold Tg at hk;split at hk
  ·cases hk
  rename_i AJ;simp only [not_or,Bool.not_eq_true',Decidable.not_not,ne_eq,Bool.not_eq_false]at AJ;obtain⟨hn,ho,Bp,B2⟩:=AJ;have main: ∀(k:SK) (l:List SK),ks=k::l→Tg P (j+1) fs=some l→(∀a b (x y:AV) f g,Rd w [a] [x] f→Rd w [b] [y] g→x.sk=some k→y.sk=some k→(Op.equalIn (d+1) fd.type a b).run P w= .ok (x.seq y) w)→Ao P fd.type=false→
    (Op.eqFields (d+1) as_.toArray bs.toArray (fd::fs)).run P w= .ok (AV.leq (cs.drop j) (ds.drop j)) w:=by
   rintro k l rfl hl heq Iv;have G2:j<cs.length:=by
    rcases Nat.lt_or_ge j cs.length with hh|hh
    ·exact hh
    ·rw [List.drop_eq_nil_of_le hh]at k1;simp at k1
   have dR:j<ds.length:=by
    rcases Nat.lt_or_ge j ds.length with hh|hh
    ·exact hh
    ·rw [List.drop_eq_nil_of_le hh]at k2;simp at k2
   rw [List.drop_eq_getElem_cons G2]at k1;rw [List.drop_eq_getElem_cons dR]at k2;simp only [List.map_cons,List.cons.injEq]at k1 k2;have l1:=h1.len;have l2:=h2.len;obtain⟨v,f1,hv,_,r1⟩:=h1.at (show cs[j]?=some cs[j] by simp [G2])
   obtain⟨u,g1,hu,_,r2⟩:=h2.at (show ds[j]?=some ds[j] by simp [dR])
   have p1:=Wp Bp as_ fd.offset (by omega) (.inr B2) w;have p2:=Wp Bp bs fd.offset (by omega) (.inr B2) w;have e1:((as_.drop fd.offset).take (P.cellsOf fd.type)).headD Go.undef=v:=by rw [B2,ho,List.drop_eq_getElem_cons (by omega),List.take_succ_cons];simpa [show j<as_.length by omega]using hv
   have e2:((bs.drop fd.offset).take (P.cellsOf fd.type)).headD Go.undef=u:=by rw [B2,ho,List.drop_eq_getElem_cons (by omega),List.take_succ_cons];simpa [show j<bs.length by omega]using hu
   rw [Iv,e1]at p1;rw [Iv,e2]at p2;have ih:=zqB (w:=w) d fs (j+1) l hl h1 h2 k1.2 k2.2;rw [List.drop_eq_getElem_cons G2,List.drop_eq_getElem_cons dR];simp only [Op.eqFields,ne_eq,hn,not_false_eq_true,if_true,Sem.run_bind,p1,p2,AX,if_false,Result.andThen_ok,heq v u _ _ _ _ r1 r2 k1.1 k2.1];cases hb:(cs[j]).seq ds[j]with
   |true=>simpa [AV.leq,hb]using ih
   |false=>simp [AV.leq,hb]
  split at hk
  ·rename_i k l hu hl;simp at hk;refine main _ _ hk.symm hl (fun a b x y f g ra rb hx hy=> ?_) (nV (.inl ⟨_,hu⟩));rcases Tl ra hx with⟨kk,m,h5,rfl,rfl⟩|⟨_,h5,_⟩|⟨_,h5,_⟩<;>cases h5
   rcases Tl rb hy with⟨kk,m2,h5,rfl,rfl⟩|⟨_,h5,_⟩|⟨_,h5,_⟩<;>cases h5
   exact run_equalIn_int w d fd.type _ _ _ _ hu
  ·rename_i l hu hl;simp at hk;refine main _ _ hk.symm hl (fun a b x y f g ra rb hx hy=> ?_) (nV (.inr (.inl hu)));rcases Tl ra hx with⟨kk,m,h5,_⟩|⟨_,_,rfl,rfl⟩|⟨_,h5,_⟩<;>try cases h5
   rcases Tl rb hy with⟨kk,m,h5,_⟩|⟨_,_,rfl,rfl⟩|⟨_,h5,_⟩<;>try cases h5
   exact oP d _ _ hu w
  ·rename_i l hu hl;simp at hk;refine main _ _ hk.symm hl (fun a b x y f g ra rb hx hy=> ?_) (nV (.inr (.inr hu)));rcases Tl ra hx with⟨kk,m,h5,_⟩|⟨_,h5,_⟩|⟨_,_,rfl,rfl⟩<;>try cases h5
   rcases Tl rb hy with⟨kk,m,h5,_⟩|⟨_,h5,_⟩|⟨_,_,rfl,rfl⟩<;>try cases h5
   rw [run_equalIn_string w d _ _ _ hu,z8];rfl
  ·cases hk
theorem zDU (h:Bt P c n nx sl hp a sl0 hp0 o gs) {op:BinOp} {t:TypeId} {x y:Operand} {ty:TypeId} (ho:o.op= .binOp op t x y ty) {fs:Array Field} (hu:P.underlying t=some (.struct fs)) (he:BL P sg sl0 hp0 nv nx gs o=some e) (hc: ∀q∈e.ca,Cn.den c.ρ q):AB P o c n nx sl hp gs a e:=by
 have Et:x∈o.op.operands:=by simp [ho,Op.operands]
 have DF:y∈o.op.operands:=by simp [ho,Op.operands]
 simp only [BL,ho,Av]at he;obtain⟨s1,BO,s2,A6,he⟩:=he;unfold Tf at he;simp only [hu]at he;split at he
 ·cases he
 rename_i hg;simp only [Bool.or_eq_true,not_or,Bool.not_eq_true]at hg;split at he
 ·rename_i ks x' y' hks Df Bz;obtain⟨f1,q1,_⟩:=h.lr BO Et Df;obtain⟨f2,q2,_⟩:=h.lr A6 DF Bz;have EC:P.underlying t=some (.struct (P.fieldsOf t)):=by simp [Program.fieldsOf,hu]
  have MQ:P.fieldsOf t=fs:=by simp [Program.fieldsOf,hu]
  have key: ∀(k1:Cn.den c.ρ (.kinds x' ks)) (k2:Cn.den c.ρ (.kinds y' ks)),∃as_ bs:List Value,∃b,a.eval x= .agg as_.toArray∧a.eval y= .agg bs.toArray∧(E.aeq x' y').den c.ρ= .bool b∧(Op.equalIn 10000 t (.agg as_.toArray) (.agg bs.toArray)).run P c.w= .ok b c.w:=by rintro⟨cs,Bm,k1⟩ ⟨ds,Hm,k2⟩;obtain⟨as_,Fc,_,r1⟩:=Kw q1 Bm;obtain⟨bs,DB,_,r2⟩:=Kw q2 Hm;refine⟨as_,bs,AV.leq cs ds,Fc,DB,by simp only [E.den,Bm,Hm,AV.aeq], ?_⟩;rw [run_equalIn_struct c.w 9999 t _ _ EC hg.1,MQ];exact zqB (w:=c.w) 9998 fs.toList 0 ks hks r1 r2 (by simpa using k1) (by simpa using k2)
  split at he
  ·simp only [Ah]at he;subst he;obtain⟨as_,bs,b,Fc,DB,hd,hr⟩:=key (hc _ (by simp)) (hc _ (by simp));refine AB.pure h (v:= .bool b) ?_ (.dd (by rw [hd];exact .bool .nil)) rfl;rw [Qj ho c.w Fc DB];simp [run_eqGuard_agg c.w _ t x y _ _ hg.2,run_eql_struct,hr]
  ·simp only [Ah]at he;subst he;obtain⟨as_,bs,b,Fc,DB,hd,hr⟩:=key (hc _ (by simp)) (hc _ (by simp));refine AB.pure h (v:= .bool (!b)) ?_ (.dd (by simp only [E.den]at hd ⊢;rw [hd];exact .bool .nil)) rfl;rw [Qj ho c.w Fc DB];simp [run_eqGuard_agg c.w _ t x y _ _ hg.2,run_neq_struct,hr]
  ·cases he
 ·cases he
theorem zrC (h:Bt P c n nx sl hp a sl0 hp0 o gs) {x y:Operand} {cl:Call} (ho:o.op= .call cl) {op:BinOp} (AS:(op= .gtr∧cl.callee= .builtin .max)∨(op= .lss∧cl.callee= .builtin .min)) (Dz:cl.args.toList= [x,y]) {s1 s2:SV} (BO:BV sl0 gs x=some s1) (A6:BV sl0 gs y=some s2)
  (he:Z5 op s1 s2=some e) (hc: ∀q∈e.ca,Cn.den c.ρ q):AB P o c n nx sl hp gs a e:=by
 have Ay:cl.args= #[x,y]:=by apply Array.ext';simp [Dz]
 have Et:x∈o.op.operands:=by rcases AS with⟨_,hh⟩|⟨_,hh⟩<;>simp [ho,Op.operands,Call.operands,hh,Ay]
 have DF:y∈o.op.operands:=by rcases AS with⟨_,hh⟩|⟨_,hh⟩<;>simp [ho,Op.operands,Call.operands,hh,Ay]
 unfold Z5 at he;split at he
 ·rename_i x' y';simp only [Ah]at he;subst he;obtain⟨f1,q1,_⟩:=Ig (h.db BO Et) rfl;obtain⟨f2,q2,_⟩:=Ig (h.db A6 DF) rfl;have hd:AV.bin op (y'.den c.ρ) (x'.den c.ρ)≠ .undef:=B2 hc;cases hx:x'.den c.ρ<;>cases hy:y'.den c.ρ<;>simp only [hx,hy,AV.bin,ne_eq,not_true_eq_false]at hd;rename_i k m k' m';split at hd
  ·rename_i hk;have hk:k'=k:=by rcases hk with hk|hk|hk;exact hk;all_goals (rcases AS with⟨h1,_⟩|⟨h1,_⟩<;>rw [h1]at hk<;>cases hk)
   subst hk;obtain⟨v1,i1⟩:=Ha q1 hx;obtain⟨v2,i2⟩:=Ha q2 hy;rcases AS with⟨rfl,AF⟩|⟨rfl,AF⟩
   ·refine AB.pure h (v:= .int k' (if m'>m then m' else m)) ?_ (.dd ?_) rfl
    ·simp [execOp,ho,resolve,AF,Ay,invoke,builtin,Builtin.max_,Builtin.max2,v1,v2]
    ·simp only [E.den,hx,hy,AV.bin,true_or,if_true,BT];by_cases hh:m'>m
     ·simp only [hh,decide_true,AV.cond,if_true];exact .int i2 .nil
     ·simp only [hh,decide_false,AV.cond,if_false];exact .int i1 .nil
   ·refine AB.pure h (v:= .int k' (if m'<m then m' else m)) ?_ (.dd ?_) rfl
    ·simp [execOp,ho,resolve,AF,Ay,invoke,builtin,Builtin.min_,Builtin.min2,v1,v2]
    ·simp only [E.den,hx,hy,AV.bin,true_or,if_true,BT];by_cases hh:m'<m
     ·simp only [hh,decide_true,AV.cond,if_true];exact .int i2 .nil
     ·simp only [hh,decide_false,AV.cond,if_false];exact .int i1 .nil
  ·exact absurd rfl hd
 ·cases he
end
inductive CA (P:Program) (w:World):List TypeId→List Bool→List Value→List AV→List Nat→List Nat→Prop where
 |nil {fl}:CA P w [] fl [] [] [] []
 |own {t ts fl el u us y ys top N rf hs}:fl.headD false=true→CT P t=some el→(Cg P el=true∧N= []∨Cg P el=false∧El P t=none)→Dd w el (P.cellsOf el) u y top N→CA P w ts fl.tail us ys rf hs→CA P w (t::ts) fl (u::us) (y::ys) (N++rf) (top++hs)
 |deep {t ts fl el e z l u us y ys top rf hs}:fl.headD false=true→CT P t=some el→Cg P el=false→El P t=some (.row e z l)→DC w [.row e z l] [u] [y] top→CA P w ts fl.tail us ys rf hs→CA P w (t::ts) fl (u::us) (y::ys) rf (top++hs)
 |rd {t ts fl u us y ys f rf hs}:(fl.headD false=true→CT P t=none)→Rd w [u] [y] f→CA P w ts fl.tail us ys rf hs→CA P w (t::ts) fl (u::us) (y::ys) (f++rf) hs
def Qq (P:Program) (w:World) (t:TypeId) (fl:List Bool) (v:Value) (x:AV) (rf hs:List Nat):Prop:=
 ∃us ys,(if Ao P t then v= .agg us.toArray∧x= .agg ys∧ ∀u∈us,u.oneCell'=true else us= [v]∧ys= [x])∧CA P w (A9 P t) fl us ys rf hs
def E6 (P:Program) (w:World) (t:TypeId) (fl:List Bool) (v:Value) (x:AV) (rf hs:List Nat):Prop:=
 if Hd P t fl then Qq P w t fl v x rf hs else Rd w [v] [x] rf∧hs= []
inductive Jv (P:Program) (w:World):List TypeId→List Bool→List Value→List AV→List Nat→List Nat→Prop where
 |nil {fl}:Jv P w [] fl [] [] [] []
 |cons {t ts fl v vs x xs f h rf hs}:E6 P w t fl v x f h→Jv P w ts (fl.drop (A9 P t).length) vs xs rf hs→Jv P w (t::ts) fl (v::vs) (x::xs) (f++rf) (h++hs)
theorem CA.len {P:Program} {w:World} {ts:List TypeId} {fl:List Bool} {us:List Value} {ys:List AV} {rf hs:List Nat} (h:CA P w ts fl us ys rf hs):us.length=ts.length∧ys.length=ts.length:=by induction h<;>simp_all
theorem CA.inb {P:Program} {w:World} {ts:List TypeId} {fl:List Bool} {us:List Value} {ys:List AV} {rf hs:List Nat} (h:CA P w ts fl us ys rf hs):(∀b∈rf,b<w.heap.size)∧ ∀b∈hs,b<w.heap.size:=by
 induction h with
 |nil=>simp
 |deep _ _ _ _ h _ ih=>
  refine⟨ih.1,fun b hb=> ?_⟩;rcases Ai.1 hb with hb|hb
  ·exact h.inb b hb
  ·exact ih.2 b hb
 |own _ _ _ h _ ih=>
  refine⟨fun b hb=> ?_,fun b hb=> ?_⟩
  ·rcases Ai.1 hb with hb|hb
   ·obtain⟨xs,_,_,_,⟨_,_,_,rfl⟩|⟨g,cap,C,_,_,_,_,_,_,_,hr⟩⟩:=h
    ·simp at hb
    ·exact hr.inb b hb
   ·exact ih.1 b hb
  ·rcases Ai.1 hb with hb|hb
   ·obtain⟨xs,_,_,_,⟨_,_,rfl,_⟩|⟨g,cap,C,_,_,_,hh,_,rfl,_⟩⟩:=h
    ·simp at hb
    ·simp at hb;subst hb;exact F7 hh
   ·exact ih.2 b hb
 |rd _ h _ ih=>
  refine⟨fun b hb=> ?_,ih.2⟩;rcases Ai.1 hb with hb|hb
  ·exact h.inb b hb
  ·exact ih.1 b hb
structure AU where
 tag:Nat
 new:Option Value
 top:List Nat
 bu:Aj
def AU.pair (r:AU):Nat × Aj:=(r.tag,r.bu)
structure Fp (c c':Cx) (w':World) (recs:List AU):Prop where
 ρ:c'.ρ=c.ρ
 w:c'.w=w'
 G: ∀r∈recs,c'.G r.tag=⟨r.top, []⟩
 new: ∀r∈recs,∀hv,r.new=some hv→c'.K r.tag 0∧(∀g,c'.K r.tag g→g≤0)∧c'.H r.tag 0=hv
 K: ∀t g,c.K t g→c'.K t g∧c'.H t g=c.H t g
 old: ∀t,c.U t→ ∀g,c'.K t g→c.K t g
 lq: ∀r∈recs,r.new.isSome=true→c'.E r.tag=0
 jq: ∀r∈recs,r.new=none→c'.E r.tag=c.E r.tag+1
theorem Fp.mono {c c':Cx} {w':World} {recs recs':List AU} (h:Fp c c' w' recs) (hs: ∀r∈recs',r∈recs):Fp c c' w' recs':=
 ⟨h.ρ,h.w,fun r hr=>h.G r (hs r hr),fun r hr=>h.new r (hs r hr),h.K,h.old,fun r hr=>h.lq r (hs r hr),fun r hr=>h.jq r (hs r hr)⟩
section
variable {P:Program} {c:Cx} {w':World}
theorem zFg {c':Cx} {t:Nat} {u:Value} {el sz:Nat} {y:AV} {top N:List Nat} (h:Dd w' el sz u y top N) (hk:c'.K t 0) (hh:c'.H t 0=u):SR c' [.own t 0] [u]:=by
 obtain⟨xs,_,_,_,⟨_,⟨a,rfl⟩,_⟩|⟨g,cap,C,rfl,_⟩⟩:=h
 ·exact .own hk hh .nil
 ·exact .own hk hh .nil
theorem RV {nx:Nat} {mk:Nat→E} {ts:List TypeId} {fl:List Bool} {us:List Value} {ys:List AV} {rf hs:List Nat} (h:CA P w' ts fl us ys rf hs): ∀(j:Nat),(∀i y,ys[i]?=some y→(mk (j+i)).den c.ρ=y)→
  ∃recs:List AU,(CW P nx mk j ts fl).2=recs.map AU.pair∧recs.flatMap AU.top=hs∧(∀r∈recs,nx+j≤r.tag∧r.tag<nx+j+ts.length∧r.new.isSome)∧(recs.map AU.tag).Nodup∧(∀r∈recs,r.new=us[r.tag-(nx+j)]?)∧
   ∀c',Fp c c' w' recs→(∀b∈rf,c'.ok b)→SR c' (CW P nx mk j ts fl).1 us∧ ∀r∈recs,Dn c' r.tag r.bu:=by
 induction h with
 |nil=>exact fun j _=>⟨[],rfl,rfl,by simp,by simp,by simp,fun c' _ _=>⟨.nil,by simp⟩⟩
 | @own t ts fl el u us y ys top N rf hs h1 h2 TB h3 _ ih=>
  intro j GA;obtain⟨recs,e1,e2,e3,e4,e4',e5⟩:=ih (j+1) (fun i y hy=>by rw [show j+1+i=j+(i+1)from by omega];exact GA (i+1) y (by simpa using hy));have hy:=GA 0 y rfl;have eQ:Tj P t el 0 0 (mk j)= .row el (P.cellsOf el) 0 (mk j) (Cg P el):=by
   unfold Tj;rcases TB with⟨h,_⟩|⟨h,h'⟩
   ·rw [if_pos h,h]
   ·rw [if_neg (by rw [h];simp),h',h]
  simp only [CW,h1,h2,eQ];refine⟨⟨nx+j,some u,top, .row el (P.cellsOf el) 0 (mk j) (Cg P el)⟩::recs,by simp [e1,AU.pair],by simp [e2],fun r hr=> ?_, ?_,fun r hr=> ?_,fun c' ha Aw=> ?_⟩
  ·rcases Ag.1 hr with rfl|hr
   ·simp
   ·have:=e3 r hr;simp only [An];exact⟨by omega,by omega,this.2.2⟩
  ·simp only [List.map_cons,List.nodup_cons];refine⟨fun hm=> ?_,e4⟩;obtain⟨r,hr,IB⟩:=List.mem_map.1 hm;have:=e3 r hr;omega
  ·rcases Ag.1 hr with rfl|hr
   ·simp
   ·rw [e4' r hr];have:=e3 r hr;rw [show r.tag-(nx+j)=(r.tag-(nx+(j+1)))+1 from by omega,List.getElem?_cons_succ]
  ·obtain⟨q1,q2⟩:=e5 c' (ha.mono fun r hr=>by simp [hr]) fun b hb=>Aw b (by simp [hb]);obtain⟨k1,k2,k3⟩:=ha.new _ (List.mem_cons_self ..) u rfl;have kg:=ha.G _ (List.mem_cons_self ..);simp only at k1 k2 k3 kg;refine⟨(zFg h3 k1 k3).cons q1,fun r hr=> ?_⟩;rcases Ag.1 hr with rfl|hr
   ·refine⟨k1,k2,N, ?_,fun b hb=>Aw b (by simp [hb]),fun hd=> ?_,fun _=>by rw [kg]⟩
    rotate_left
    ·rcases TB with⟨_,h⟩|⟨h,_⟩
     ·subst h;exact⟨rfl,by rw [kg]⟩
     ·rw [h]at hd;cases hd
    rw [k3,kg,ha.w,ha.ρ];have Bz:(mk j).den c.ρ=y:=by simpa using hy
    rw [Bz];exact h3
   ·exact q2 r hr
 | @deep t ts fl el e z l u us y ys top rf hs h1 h2 TA Qw h3 _ ih=>
  intro j GA;obtain⟨recs,e1,e2,e3,e4,e4',e5⟩:=ih (j+1) (fun i y hy=>by rw [show j+1+i=j+(i+1)from by omega];exact GA (i+1) y (by simpa using hy));have hy:=GA 0 y rfl;have eQ:Tj P t el 0 0 (mk j)= .deep e z l.toList 0 0 (mk j):=by unfold Tj;rw [if_neg (by rw [TA];simp),Qw]
  simp only [CW,h1,h2,eQ];refine⟨⟨nx+j,some u,top, .deep e z l.toList 0 0 (mk j)⟩::recs,by simp [e1,AU.pair],by simp [e2],fun r hr=> ?_, ?_,fun r hr=> ?_,fun c' ha Aw=> ?_⟩
  ·rcases Ag.1 hr with rfl|hr
   ·simp
   ·have:=e3 r hr;simp only [An];exact⟨by omega,by omega,this.2.2⟩
  ·simp only [List.map_cons,List.nodup_cons];refine⟨fun hm=> ?_,e4⟩;obtain⟨r,hr,IB⟩:=List.mem_map.1 hm;have:=e3 r hr;omega
  ·rcases Ag.1 hr with rfl|hr
   ·simp
   ·rw [e4' r hr];have:=e3 r hr;rw [show r.tag-(nx+j)=(r.tag-(nx+(j+1)))+1 from by omega,List.getElem?_cons_succ]
  ·obtain⟨q1,q2⟩:=e5 c' (ha.mono fun r hr=>by simp [hr]) Aw;obtain⟨k1,k2,k3⟩:=ha.new _ (List.mem_cons_self ..) u rfl;have kg:=ha.G _ (List.mem_cons_self ..);have ke:=ha.lq _ (List.mem_cons_self ..) rfl;simp only at k1 k2 k3 kg ke;obtain⟨p1,p2,p3,rfl⟩:=h3.head;refine⟨(SR.own k1 k3 .nil).cons q1,fun r hr=> ?_⟩;rcases Ag.1 hr with rfl|hr
   ·refine⟨k1,k2,ke, ?_,by rw [kg]⟩;have Bz:(mk j).den c.ρ=y:=by simpa using hy
    rw [k3,kg,ha.w,ha.ρ,Bz,AZ.c8];exact h3
   ·exact q2 r hr
 | @rd t ts fl u us y ys f rf hs h1 h3 _ ih=>
  intro j GA;obtain⟨recs,e1,e2,e3,e4,e4',e5⟩:=ih (j+1) (fun i y hy=>by rw [show j+1+i=j+(i+1)from by omega];exact GA (i+1) y (by simpa using hy));have hy:=GA 0 y rfl;have dC:CW P nx mk j (t::ts) fl=(.e (mk j)::(CW P nx mk (j+1) ts fl.tail).1,(CW P nx mk (j+1) ts fl.tail).2):=by
   simp only [CW];split
   ·rename_i h8 h9;rw [h1 h8]at h9;cases h9
   ·rfl
  rw [dC];refine⟨recs,e1,e2,fun r hr=> ?_,e4,fun r hr=> ?_,fun c' ha Aw=> ?_⟩
  ·have:=e3 r hr;simp only [An];exact⟨by omega,by omega,this.2.2⟩
  ·rw [e4' r hr];have:=e3 r hr;rw [show r.tag-(nx+j)=(r.tag-(nx+(j+1)))+1 from by omega,List.getElem?_cons_succ]
  ·obtain⟨q1,q2⟩:=e5 c' ha fun b hb=>Aw b (by simp [hb]);have Bz:(mk j).den c.ρ=y:=by simpa using hy
   exact⟨(SR.e (f:=f) (by rw [ha.w,ha.ρ,Bz];exact h3) (fun b hb=>Aw b (by simp [hb])) .nil).cons q1,q2⟩
theorem PW {nx:Nat} {mk:Nat→E}: ∀(j:Nat) (ts:List TypeId) (fl:List Bool) (t:Nat) (e:Aj) {gs:Gd} {f:Aj},(t,e)∈(CW P nx mk j ts fl).2→e≠ .gd gs f
 |_, [],_,_,_,_,_,h=>by simp [CW]at h
 |j,u::ts,fl,t,e,gs,f,h=>by
  unfold CW at h;split at h
  ·rcases Ag.1 h with h|h
   ·cases h;unfold Tj;split
    ·simp
    ·split<;>simp
   ·exact PW _ _ _ _ _ h
  ·exact PW _ _ _ _ _ h
theorem Wb {ρ:List AV} {x:E} {ys:List AV} (hx:x.den ρ= .agg ys): ∀i y,ys[i]?=some y→(DO x true (0+i)).den ρ=y:=by intro i y hy;simp [DO,E.den,hx,AV.fld,AV.cells,hy]
theorem zpb {nx:Nat} {t:TypeId} {fl:List Bool} {x:E} {v:Value} {y:AV} {rf hs:List Nat} (h:E6 P w' t fl v y rf hs) (hx:x.den c.ρ=y):
  ∃recs:List AU,(P8 P nx t fl x).2=recs.map AU.pair∧recs.flatMap AU.top=hs∧(∀r∈recs,nx≤r.tag∧r.tag<nx+(A9 P t).length∧r.new.isSome)∧(recs.map AU.tag).Nodup∧
   ∀c',Fp c c' w' recs→(∀b∈rf,c'.ok b)→SR c' [(P8 P nx t fl x).1] [v]∧ ∀r∈recs,Dn c' r.tag r.bu:=by
 unfold E6 at h;unfold P8;split at h
 ·rename_i hf;simp only [hf,if_true];obtain⟨us,ys,hg,hc⟩:=h;split at hg
  ·rename_i AD;obtain⟨rfl,rfl,C6⟩:=hg;obtain⟨recs,e1,e2,e3,e4,_,e5⟩:=RV (c:=c) (nx:=nx) (mk:=DO x (Ao P t)) hc 0 (by rw [AD];exact Wb hx);refine⟨recs,e1,e2,fun r hr=>by have:=e3 r hr;exact⟨by omega,by omega,this.2.2⟩,e4,fun c' ha Aw=> ?_⟩;obtain⟨q1,q2⟩:=e5 c' ha Aw;rw [if_pos AD];exact⟨.agg C6 (by rw [BD.bc];exact q1) .nil,q2⟩
  ·rename_i AD;obtain⟨rfl,rfl⟩:=hg;have Hk:Ao P t=false:=by simpa using AD
   obtain⟨recs,e1,e2,e3,e4,_,e5⟩:=RV (c:=c) (nx:=nx) (mk:=DO x (Ao P t)) hc 0 (by
    intro i z hz;cases i with
    |zero=>simp at hz;subst hz;simp [DO,Hk,hx]
    |succ i=>simp at hz)
   refine⟨recs,e1,e2,fun r hr=>by have:=e3 r hr;exact⟨by omega,by omega,this.2.2⟩,e4,fun c' ha Aw=> ?_⟩;obtain⟨q1,q2⟩:=e5 c' ha Aw;refine⟨?_,q2⟩;rw [if_neg AD];have hl:=q1.len;generalize (CW P nx (DO x (Ao P t)) 0 (A9 P t) fl).1=l at q1 hl
   match l,hl with
   | [s],_=>exact q1
 ·rename_i hf;simp only [hf,if_false,AX];obtain⟨h1,rfl⟩:=h;exact⟨[],rfl,rfl,by simp,by simp,fun c' ha Aw=>⟨.e (f:=rf) (by rw [ha.w,ha.ρ,hx];exact h1) Aw .nil,by simp⟩⟩
theorem ztu {ts:List TypeId} {fl:List Bool} {x:E} {vs:List Value} {ys:List AV} {rf hs:List Nat} (h:Jv P w' ts fl vs ys rf hs): ∀(nx i:Nat),(∀k y,ys[k]?=some y→(E.proj x (i+k)).den c.ρ=y)→
  ∃recs:List AU,(NR P nx ts fl x i).2=recs.map AU.pair∧recs.flatMap AU.top=hs∧(∀r∈recs,nx≤r.tag∧r.tag<nx+(ts.flatMap (A9 P)).length∧r.new.isSome)∧(recs.map AU.tag).Nodup∧
   ∀c',Fp c c' w' recs→(∀b∈rf,c'.ok b)→SR c' (NR P nx ts fl x i).1 vs∧ ∀r∈recs,Dn c' r.tag r.bu:=by
 induction h with
 |nil=>exact fun nx i _=>⟨[],rfl,rfl,by simp,by simp,fun c' _ _=>⟨.nil,by simp⟩⟩
 | @cons t ts fl v vs y ys f h rf hs h1 _ ih=>
  intro nx i hx;obtain⟨r1,a1,a2,a3,a4,a5⟩:=zpb (c:=c) (nx:=nx) (x:= .proj x i) h1 (hx 0 y rfl);obtain⟨r2,b1,b2,b3,b4,b5⟩:=ih (nx+(A9 P t).length) (i+1) (fun k z hz=>by rw [show i+1+k=i+(k+1)from by omega];exact hx (k+1) z (by simpa using hz));simp only [NR];refine⟨r1++r2,by simp [a1,b1],by simp [a2,b2],fun r hr=> ?_, ?_,fun c' ha Aw=> ?_⟩
  ·simp only [List.flatMap_cons,Ap];rcases Ai.1 hr with hr|hr
   ·have:=a3 r hr;exact⟨this.1,by omega,this.2.2⟩
   ·have:=b3 r hr;exact⟨by omega,by omega,this.2.2⟩
  ·rw [List.map_append,List.nodup_append];refine⟨a4,b4,fun t1 Pb t2 LH he=> ?_⟩;obtain⟨q1,Gg,rfl⟩:=List.mem_map.1 Pb;obtain⟨q2,EF,rfl⟩:=List.mem_map.1 LH;have:=a3 q1 Gg;have:=b3 q2 EF;omega
  ·obtain⟨p1,p2⟩:=a5 c' (ha.mono fun r hr=>by simp [hr]) fun b hb=>Aw b (by simp [hb]);obtain⟨q1,q2⟩:=b5 c' (ha.mono fun r hr=>by simp [hr]) fun b hb=>Aw b (by simp [hb]);refine⟨p1.cons q1,fun r hr=> ?_⟩;rcases Ai.1 hr with hr|hr
   ·exact p2 r hr
   ·exact q2 r hr
end
theorem V4 {α:Type} {f:α→List Nat}: ∀{l:List α},(l.flatMap f).Nodup→(∀a∈l,(f a).Nodup)∧ ∀(i j:Nat) (a b:α) (x:Nat),l[i]?=some a→l[j]?=some b→x∈f a→x∈f b→i=j
 | [],_=>⟨by simp,by simp⟩
 |a::l,h=>by
  rw [List.flatMap_cons,List.nodup_append]at h;obtain⟨h1,h2,h3⟩:=h;obtain⟨k1,k2⟩:=V4 h2;refine⟨fun b hb=> ?_,fun i j p q x hi hj hp hq=> ?_⟩
  ·rcases Ag.1 hb with rfl|hb
   ·exact h1
   ·exact k1 b hb
  ·cases i with
   |zero=>
    cases j with
    |zero=>rfl
    |succ j=>simp at hi hj;subst hi;exact absurd rfl (h3 x hp x (List.mem_flatMap.2 ⟨q,List.mem_of_getElem? hj,hq⟩))
   |succ i=>
    cases j with
    |zero=>simp at hi hj;subst hj;exact absurd rfl (h3 x hq x (List.mem_flatMap.2 ⟨p,List.mem_of_getElem? hi,hp⟩))
    |succ j=>rw [k2 i j p q x (by simpa using hi) (by simpa using hj) hp hq]
theorem Sz {recs:List AU} (hn:(recs.map AU.tag).Nodup) {r:AU} (hr:r∈recs) (p:AU→Bool) (hp:p r=true) (Ew: ∀q,p q=true→q.tag=r.tag):recs.find? p=some r:=by
 induction recs with
 |nil=>simp at hr
 |cons q recs ih=>
  simp only [List.map_cons,List.nodup_cons]at hn;rw [List.find?_cons];rcases Ag.1 hr with rfl|hr
  ·simp [hp]
  ·have:p q=false:=by
    cases hq:p q with
    |false=>rfl
    |true=>exact absurd (List.mem_map.2 ⟨r,hr,(Ew q hq).symm⟩) hn.1
   rw [this];exact ih hn.2 hr
def Cx.dz (c:Cx) (w':World) (recs:List AU):Cx:=
 {c with w:=w',G:=fun t=>(match recs.find? (fun r=>r.tag==t)with|some r=>⟨r.top, []⟩|none=>c.G t),K:=fun t g=>c.K t g∨ ∃r∈recs,r.tag=t∧r.new.isSome=true∧g=0,H:=fun t g=>(match recs.find? (fun r=>r.tag==t&&r.new.isSome)with|some r=>r.new.getD undef|none=>c.H t g),U:=fun t=>c.U t∨ ∃r∈recs,r.tag=t,E:=fun t=>match recs.find? (fun r=>r.tag==t)with|some r=>if r.new.isSome then 0 else c.E t+1|none=>c.E t}
section
variable {P:Program} {c:Cx} {n:Nat} {sl:Nat→SV} {hp:Nat→Option Aj} {a:Act} {w':World} {recs:List AU}
theorem Cx.eo (hn:(recs.map AU.tag).Nodup) {r:AU} (hr:r∈recs):(c.dz w' recs).G r.tag=⟨r.top, []⟩:=by simp only [Cx.dz];rw [Sz hn hr (fun q=>q.tag==r.tag) (by simp) (fun q hq=>by simpa using hq)]
theorem Cx.dk {t:Nat} (ht: ∀r∈recs,r.tag≠t):(c.dz w' recs).G t=c.G t:=by
 simp only [Cx.dz];have:recs.find? (fun r=>r.tag==t)=none:=by rw [List.find?_eq_none];intro r hr;simpa using ht r hr
 rw [this]
theorem Cx.ed (hU: ∀t g,c.K t g→c.U t) (hn:(recs.map AU.tag).Nodup) (A1: ∀r∈recs,r.new.isSome=true→ ¬c.U r.tag):Fp c (c.dz w' recs) w' recs:=by
 refine⟨rfl,rfl,fun r hr=>Cx.eo hn hr,fun r hr hv Xr=>⟨.inr ⟨r,hr,rfl,by simp [Xr],rfl⟩,fun g hg=> ?_, ?_⟩,fun t g hk=>⟨.inl hk, ?_⟩,fun t ht g hk=> ?_,fun r hr hs=> ?_,fun r hr hs=> ?_⟩
 ·rcases hg with hg|⟨_,_,_,_,rfl⟩
  ·exact absurd (hU _ _ hg) (A1 r hr (by simp [Xr]))
  ·exact Nat.le_refl _
 ·simp only [Cx.dz];rw [Sz hn hr (fun q=>q.tag==r.tag&&q.new.isSome) (by simp [Xr]) (fun q hq=>by simp only [Ae,beq_iff_eq]at hq;exact hq.1)];simp [Xr]
 ·simp only [Cx.dz];have:recs.find? (fun r=>r.tag==t&&r.new.isSome)=none:=by
   rw [List.find?_eq_none];rintro r hr hh;simp only [Ae,beq_iff_eq]at hh;exact A1 r hr hh.2 (hh.1▸hU t g hk)
  rw [this]
 ·rcases hk with hk|⟨r,hr,rfl,hh,_⟩
  ·exact hk
  ·exact absurd ht (A1 r hr hh)
 ·simp only [Cx.dz];rw [Sz hn hr (fun q=>q.tag==r.tag) (by simp) (fun q hq=>by simpa using hq)];simp [hs]
 ·simp only [Cx.dz];rw [Sz hn hr (fun q=>q.tag==r.tag) (by simp) (fun q hq=>by simpa using hq)];simp [hs]
theorem Cx.kp {t:Nat} (ht: ∀r∈recs,r.tag≠t):(c.dz w' recs).E t=c.E t:=by
 simp only [Cx.dz];have:recs.find? (fun r=>r.tag==t)=none:=by rw [List.find?_eq_none];intro r hr;simpa using ht r hr
 rw [this]
theorem Rel.changes (h:Rel c n sl hp a) {hs:List Nat} {gs:Gd} (k:Bj c.ρ gs) (DA:Mod hs c.w w') (hn:(recs.map AU.tag).Nodup) (A1: ∀r∈recs,r.new.isSome=true→ ¬c.U r.tag)
  (Hs: ∀b∈hs,∃r∈recs,b∈(c.G r.tag).top) (EZ:(recs.flatMap AU.top).Nodup) (Ch: ∀r∈recs,∀b∈r.top,(b∈hs∨c.w.heap.size≤b)∧b<w'.heap.size)
  (A5: ∀r∈recs,∀hs f,r.bu≠ .gd hs f) (Bn:DV c (c.dz w' recs)→ ∀r∈recs,Dn (c.dz w' recs) r.tag r.bu):
  Rel (c.dz w' recs) n sl (Bd hp (recs.map fun r=>(r.tag,CY gs r.bu))) a∧DV c (c.dz w' recs):=by
 have aft:=Cx.ed (w':=w') h.cj hn A1;have tV: ∀b∈hs,c.M b:=fun b hb=>by obtain⟨r,_,hr⟩:=Hs b hb;exact⟨_,hr⟩
 have BH: ∀b∈hs,c.B≤b∨c.Mu b:=fun b hb=>by obtain⟨r,_,hr⟩:=Hs b hb;exact h.gw.allow r.tag b (by simp [GI.own,hr])
 have B3:DV c (c.dz w' recs):=by
  refine⟨rfl,rfl,fun b hb Aw=>⟨fun⟨t,ht⟩=> ?_,Aw.2⟩,fun b hb Aw=>DA.block b hb fun hh=>Aw.1 (tV b hh),aft.K,fun t g hk=> ?_⟩;by_cases hT: ∃r∈recs,r.tag=t
  ·obtain⟨r,hr,rfl⟩:=hT;rw [Cx.eo hn hr]at ht;rcases(Ch r hr b ht).1 with hh|hh
   ·exact Aw.1 (tV b hh)
   ·omega
  ·rw [Cx.dk fun r hr hh=>hT ⟨r,hr,hh⟩]at ht;exact Aw.1 ⟨t,ht⟩
  ·by_cases hT: ∃r∈recs,r.tag=t
   ·obtain⟨r,hr,rfl⟩:=hT;have Dt:r.new=none:=by
     cases hh:r.new with
     |none=>rfl
     |some v=>exact absurd (h.cj _ _ hk) (A1 r hr (by simp [hh]))
    rw [aft.jq r hr Dt];exact⟨by omega,fun h=>by omega⟩
   ·have tB: ∀r∈recs,r.tag≠t:=fun r hr hh=>hT ⟨r,hr,hh⟩;rw [Cx.kp tB,Cx.dk tB];refine⟨Nat.le_refl _,fun _=>⟨rfl,fun b hb EA=>DA.block b EA fun hh=> ?_⟩⟩;obtain⟨r,hr,Gu⟩:=Hs b hh;exact h.gw.cz t r.tag (fun hh=>hT ⟨r,hr,hh.symm⟩) b (by simp [GI.own,hb]) (by simp [GI.own,Gu])
 have Bn:=Bn B3;have Ka: ∀r∈recs,∀e',(r.tag,e')∈(recs.map fun r=>(r.tag,CY gs r.bu))→e'=CY gs r.bu:=by
  intro r hr e' E9;obtain⟨q,hq,Jd⟩:=List.mem_map.1 E9;simp only [Prod.mk.injEq]at Jd;obtain⟨h1,rfl⟩:=Jd;have e1:=Cx.eo (c:=c) (w':=w') hn hr;have:q=r:=by have f1:=Sz hn hr (fun q=>q.tag==r.tag) (by simp) (fun q hq=>by simpa using hq);have f2:=Sz hn hq (fun p=>p.tag==r.tag) (by simp [h1]) (fun p hp=>by rw [h1];simpa using hp);rw [f1]at f2;cases f2;rfl
  rw [this]
 refine⟨h.change (fun t=> ∃r∈recs,r.tag=t) B3 ⟨DA.os.trans h.base.os,DA.tape.trans h.base.tape,DA.output.trans h.base.output,Nat.le_trans h.base.size DA.size,fun t v QN=>⟨.inl (h.base.pins t v QN).1,fun hk=> ?_⟩,fun b hb IA=> ?_,h.base.pk,h.base.lo⟩
  (fun t ht=>⟨Ml fun e he=> ?_,Cx.dk fun r hr hh=>ht ⟨r,hr,hh⟩,Cx.kp fun r hr hh=>ht ⟨r,hr,hh⟩,fun g hg=> ?_⟩) (fun t ht b hb=>DA.block b (h.gw.inb t b (by simp [GI.own,hb])) fun hh=> ?_) (fun t ht=> ?_) ⟨fun t=> ?_,fun t u Nb b hb Cd=> ?_,fun t b hb=> ?_,fun t b hb=> ?_⟩ (fun t g hk=> ?_) (fun t e he=> ?_),B3⟩
 ·have B5:=aft.old t (h.base.pins t v QN).1 0 hk;rw [(aft.K t 0 B5).2];exact(h.base.pins t v QN).2 B5
 ·refine(DA.block b (Nat.lt_of_lt_of_le hb h.base.size) fun hh=> ?_).trans (h.base.block b hb IA);rcases BH b hh with h1|h1
  ·exact absurd h1 (Nat.not_le.2 hb)
  ·exact IA h1
 ·obtain⟨q,hq,Jd⟩:=List.mem_map.1 he;simp only [Prod.mk.injEq]at Jd;exact ht ⟨q,hq,Jd.1⟩
 ·rcases hg with hg|⟨r,hr,IB,_⟩
  ·exact hg
  ·exact absurd ⟨r,hr,IB⟩ ht
 ·obtain⟨r,hr,EA⟩:=Hs b hh;exact h.gw.cz t r.tag (fun hh=>ht ⟨r,hr,hh.symm⟩) b (by simp [GI.own,hb]) (by simp [GI.own,EA])
 ·obtain⟨r,hr,rfl⟩:=ht;have Dv:=rG (hp:=hp) (l:=recs.map fun r=>(r.tag,CY gs r.bu)) (List.mem_map.2 ⟨r,hr,rfl⟩) (Ka r hr);rw [Dv];refine⟨fun e' Ur=> ?_,fun Dt=> ?_⟩
  ·rw [(SA k (A5 r hr)).1 Ur];exact Bn r hr
  ·exact absurd ((SA k (A5 r hr)).2 rfl) (Dt r.bu)
 ·by_cases hT: ∃r∈recs,r.tag=t
  ·obtain⟨r,hr,rfl⟩:=hT;rw [Cx.eo hn hr];simpa [GI.own]using(V4 EZ).1 r hr
  ·rw [Cx.dk fun r hr hh=>hT ⟨r,hr,hh⟩];exact h.gw.nodup t
 ·by_cases hT: ∃r∈recs,r.tag=t
  ·obtain⟨r,hr,rfl⟩:=hT;rw [Cx.eo hn hr]at hb;simp only [GI.own,List.append_nil]at hb;by_cases hV: ∃r∈recs,r.tag=u
   ·obtain⟨q,hq,rfl⟩:=hV;rw [Cx.eo hn hq]at Cd;simp only [GI.own,List.append_nil]at Cd;obtain⟨i,hi⟩:=List.getElem?_of_mem hr;obtain⟨j,hj⟩:=List.getElem?_of_mem hq;have:=(V4 EZ).2 i j r q b hi hj hb Cd;subst this;rw [hi]at hj;cases hj;exact Nb rfl
   ·rw [Cx.dk fun r hr hh=>hV ⟨r,hr,hh⟩]at Cd;rcases(Ch r hr b hb).1 with hh|hh
    ·obtain⟨q,hq,Xf⟩:=Hs b hh;exact h.gw.cz q.tag u (fun hh=>hV ⟨q,hq,hh⟩) b (by simp [GI.own,Xf]) Cd
    ·have:=h.gw.inb u b Cd;omega
  ·rw [Cx.dk fun r hr hh=>hT ⟨r,hr,hh⟩]at hb;by_cases hV: ∃r∈recs,r.tag=u
   ·obtain⟨q,hq,rfl⟩:=hV;rw [Cx.eo hn hq]at Cd;simp only [GI.own,List.append_nil]at Cd;rcases(Ch q hq b Cd).1 with hh|hh
    ·obtain⟨r,hr,Xg⟩:=Hs b hh;exact h.gw.cz r.tag t (fun hh=>hT ⟨r,hr,hh⟩) b (by simp [GI.own,Xg]) hb
    ·have:=h.gw.inb t b hb;omega
   ·rw [Cx.dk fun r hr hh=>hV ⟨r,hr,hh⟩]at Cd;exact h.gw.cz t u Nb b hb Cd
 ·by_cases hT: ∃r∈recs,r.tag=t
  ·obtain⟨r,hr,rfl⟩:=hT;rw [Cx.eo hn hr]at hb;simp only [GI.own,List.append_nil]at hb;rcases(Ch r hr b hb).1 with hh|hh
   ·exact BH b hh
   ·exact .inl (Nat.le_trans h.base.size hh)
  ·rw [Cx.dk fun r hr hh=>hT ⟨r,hr,hh⟩]at hb;exact h.gw.allow t b hb
 ·by_cases hT: ∃r∈recs,r.tag=t
  ·obtain⟨r,hr,rfl⟩:=hT;rw [Cx.eo hn hr]at hb;simp only [GI.own,List.append_nil]at hb;exact(Ch r hr b hb).2
  ·rw [Cx.dk fun r hr hh=>hT ⟨r,hr,hh⟩]at hb;exact Nat.lt_of_lt_of_le (h.gw.inb t b hb) DA.size
 ·rcases hk with hk|⟨r,hr,IB,_⟩
  ·exact .inl (h.cj t g hk)
  ·exact .inr ⟨r,hr,IB⟩
 ·by_cases hT: ∃r∈recs,r.tag=t
  ·exact .inr hT
  ·rw [Ml]at he
   ·exact .inl (h.c6 t e he)
   ·intro e' E9;obtain⟨q,hq,Jd⟩:=List.mem_map.1 E9;simp only [Prod.mk.injEq]at Jd;exact hT ⟨q,hq,Jd.1⟩
end
def iM (P:Program) (w:World) (t:TypeId):PM→Value→AV→List Nat→List Nat→Prop
 | .ro,v,x,rf,hs=>Rd w [v] [x] rf∧hs= []
 | .va own,v,x,rf,hs=>Qq P w t own v x rf hs
 | .mu own,v,x,rf,hs=>Qq P w t own v x rf hs
 | .bx own _,v,x,rf,hs=> ∃(ty:TypeId) (b:Nat) (C:Array Value) (ys:List AV) (h:List Nat),KP P t=some ty∧v= .pointer (some ⟨b,0,none⟩)∧w.heap[b]?=some (.cells C ty (0,0))∧(∀u∈C.toList,u.oneCell'=true)∧x= .ref (.agg ys)∧
   CA P w (A9 P ty) own C.toList ys rf h∧hs=b::h
inductive DP (P:Program) (w:World):List TypeId→List PM→List Bool→List Value→List AV→List Nat→List Nat→List Nat→Prop where
 |nil {ms lo}:DP P w [] ms lo [] [] [] [] []
 |cons {t ts ms lo v vs x xs f h rf lf hs}:iM P w t (ms.headD .ro) v x f h→DP P w ts ms.tail lo.tail vs xs rf lf hs→DP P w (t::ts) ms lo (v::vs) (x::xs) (f++rf) lf (h++hs)
 |lent {t ts ms lo v vs x xs f rf lf hs}:lo.headD false=true→ms.headD .ro= .ro→Rd w [v] [x] f→DP P w ts ms.tail lo.tail vs xs rf lf hs→DP P w (t::ts) ms lo (v::vs) (x::xs) rf (f++lf) hs
 |free {ms lo v vs x xs f rf lf hs}:Rd w [v] [x] f→DP P w [] ms.tail lo.tail vs xs rf lf hs→DP P w [] ms lo (v::vs) (x::xs) (f++rf) lf hs
inductive He (P:Program) (c:Cx):List TypeId→List Bool→List Value→List (Option RI)→Prop where
 |nil {fl}:He P c [] fl [] []
 |row {t ts fl v vs u g el rs}:fl.headD false=true→CT P t=some el→(Cg P el=true∨El P t=none)→c.K u g→c.H u g=v→(∀g',c.K u g'→g'≤g)→He P c ts fl.tail vs rs→He P c (t::ts) fl (v::vs) (some (.fl u g el (P.cellsOf el) (Cg P el))::rs)
 |deep {t ts fl v vs u g el e z l ep rs}:fl.headD false=true→CT P t=some el→Cg P el=false→El P t=some (.row e z (AZ.of l))→c.K u g→c.H u g=v→(∀g',c.K u g'→g'≤g)→c.E u=ep→He P c ts fl.tail vs rs→He P c (t::ts) fl (v::vs) (some (.dp u g e z l ep)::rs)
 |none {t ts fl v vs rs}:(fl.headD false=true→CT P t=none∨ ∃a,v= .slice a 0 0)→He P c ts fl.tail vs rs→He P c (t::ts) fl (v::vs) (none::rs)
inductive Jn (P:Program) (c:Cx):List TypeId→List PM→List Value→List PA→Prop where
 |nil {ts ms}:Jn P c ts ms [] []
 |ro {ts ms v vs bs}:ms.headD .ro= .ro→Jn P c ts.tail ms.tail vs bs→Jn P c ts ms (v::vs) bs
 |va {ts ms own v vs bs us}:ms.headD .ro= .va own→(∀u∈us,c.U u)→Jn P c ts.tail ms.tail vs bs→Jn P c ts ms (v::vs) (.va us::bs)
 |mu {t ts ms own v vs bs us rs}:ms.headD .ro= .mu own→(if Ao P t then v= .agg us.toArray else us= [v])→He P c (A9 P t) own us rs→Jn P c ts ms.tail vs bs→Jn P c (t::ts) ms (v::vs) (.mu rs (Ao P t)::bs)
 |bx {t ts ms own own' ty v vs bs T b g olds}:ms.headD .ro= .bx own own'→KP P t=some ty→v= .pointer (some ⟨b,0,none⟩)→c.K T 0→c.H T 0=v→(∀u∈olds,c.U u)→Jn P c ts ms.tail vs bs→Jn P c (t::ts) ms (v::vs) (.box T g own' ty olds::bs)
section
variable {P:Program} {c:Cx} {hp:Nat→Option Aj} {gs:Gd}
theorem aK {t el:TypeId} {d:DT} (BE:CT P t=some el) (h:El P t=some d):P.cellsOf el≠0∧(A9 P el).length=P.cellsOf el∧ ∃l:List DT,d= .row el (P.cellsOf el) (AZ.of l)∧l.length=P.cellsOf el:=by
 have hu:=KX BE;unfold El at h;split at h
 ·cases h
 simp only [bM,hu]at h;split at h
 ·cases h
 ·rename_i hh;simp only [not_or,Decidable.not_not,ne_eq]at hh;obtain⟨l,hl,rfl⟩:=Au.1 h;exact⟨hh.1,hh.2,l,rfl,by rw [mapM_len _ _ hl];exact hh.2⟩
where
 mapM_len {α β:Type} {f:α→Option β}: ∀(l:List α) (l':List β),l.mapM f=some l'→l'.length=l.length
  | [],l',h=>by simp at h;subst h;rfl
  |a::l,l',h=>by simp only [List.mapM_cons,Option.bind_eq_bind,Av,Option.pure_def,Ah]at h;obtain⟨b,_,bs,TP,rfl⟩:=h;simp [mapM_len l bs TP]
theorem CA.void {w:World} {t el:TypeId} {ts:List TypeId} {fl:List Bool} {a:Option Addr} {us:List Value} {ys:List AV} {rf hs:List Nat} (h1:fl.headD false=true) (h2:CT P t=some el) (hz:P.cellsOf el≠0) (h:CA P w ts fl.tail us ys rf hs):CA P w (t::ts) fl (.slice a 0 0::us) (.sl []::ys) rf ([]++hs):=by
 have BH:Dd w el (P.cellsOf el) (.slice a 0 0) (.sl []) [] []:=⟨[],rfl,by simp,by omega, .inl ⟨rfl,⟨a,rfl⟩,rfl,rfl⟩⟩
 cases hf:Cg P el with
 |true=>exact .own h1 h2 (.inl ⟨hf,rfl⟩) BH h
 |false=>
  cases hd:El P t with
  |none=>exact .own h1 h2 (.inr ⟨hf,hd⟩) BH h
  |some d=>obtain⟨_,_,l,rfl,hl⟩:=aK h2 hd;exact .deep h1 h2 hf hd (.void (by omega) (by rw [AZ.bc];exact hl) .nil) h
theorem zrX {as_ bs:List Value} (h:Value.agg as_.toArray= .agg bs.toArray):as_=bs:=by
 have h1:as_.toArray=bs.toArray:=by injection h
 have:=congrArg Array.toList h1;simpa using this
theorem mZ (eh:EH c hp) (k:Bj c.ρ gs) (hU: ∀t g,c.K t g→c.U t): ∀(ts:List TypeId) {cs:List SV} {fl:List Bool} {rs:List (Option RI)} {us:List Nat} {vs:List Value} {xs:EL} {m:Nat},HF P hp gs ts cs fl=some (rs,us)→SR c cs vs→CC hp gs m cs=some xs→m≤A3→
  ∃rf hs,CA P c.w ts fl vs (xs.den c.ρ) rf hs∧(∀b∈rf,c.fj us b)∧hs=(CM rs).flatMap (fun t=>(c.G t).top)∧He P c ts fl vs rs∧ ∀u∈CM rs,c.U u
 | [], [],fl,rs,us,vs,xs,m,h,hs,hx,hm=>by
  simp [HF]at h;obtain⟨rfl,rfl⟩:=h;cases hs;cases m with
  |zero=>simp [CC]at hx
  |succ m=>simp [CC]at hx;subst hx;exact⟨[], [], .nil,by simp,by simp [CM], .nil,by simp [CM]⟩
 | [],s::cs,fl,rs,us,vs,xs,m,h,hs,hx,hm=>by simp [HF]at h
 |t::ts, [],fl,rs,us,vs,xs,m,h,hs,hx,hm=>by simp [HF]at h
 |t::ts,s::cs,fl,rs,us, [],xs,m,h,hs,hx,hm=>by have:=hs.len;simp at this
 |t::ts,s::cs,fl,rs,us,v::vs,xs,m,h,hs,hx,hm=>by
  obtain⟨j,y,ys,rfl,hy,DG,rfl⟩:=KY hx;obtain⟨r1,r2⟩:=hs.cr;unfold HF at h;split at h
  ·cases h
  rename_i rs' us' Dj;obtain⟨rf,Bh,q1,q2,q3,q4,q5⟩:=mZ eh k hU ts Dj r2 DG (by omega);split at h
  ·rename_i hf;split at h
   ·rename_i r hr;simp only [Ah,Prod.mk.injEq]at h;obtain⟨rfl,rfl⟩:=h;unfold rF at hr;split at hr
    ·cases hr
    rename_i el BE;split at hr
    ·cases hr
    rename_i hz;have empt: ∀a,v= .slice a 0 0→y.den c.ρ= .sl []→r=none→ ∃rf hs,CA P c.w (t::ts) fl (v::vs) ((EL.cons y ys).den c.ρ) rf hs∧(∀b∈rf,c.fj us' b)∧hs=(CM (r::rs')).flatMap (fun t=>(c.G t).top)∧He P c (t::ts) fl (v::vs) (r::rs')∧ ∀u∈CM (r::rs'),c.U u:=by rintro a rfl Ia rfl;refine⟨rf, []++Bh, ?_,q2,by simpa [CM]using q3, .none (fun _=> .inr ⟨a,rfl⟩) q4,by simpa [CM]using q5⟩;rw [EL.den,Ia];exact CA.void hf BE (by omega) q1
    split at hr
    ·simp only [Ah]at hr;subst hr;cases r1 with
     |cq _=>exact empt _ rfl (by rw [Mb hy];rfl) rfl
    ·simp only [Ah]at hr;subst hr;cases r1 with
     |emp _=>
      refine empt _ rfl ?_ rfl;cases j with
      |zero=>simp [Br]at hy
      |succ j=>simp [Br]at hy;subst hy;rfl
    ·rename_i u g;split at hr
     ·rename_i e z g' x d hl;split at hr
      ·rename_i hh;obtain⟨rfl,rfl,rfl,Ho⟩:=hh;simp only [Ah]at hr;subst hr;obtain⟨p1,p2,N,p3,p4,p5,_⟩:=eh u _ (Db hl k);have OG:Cg P e=true∨El P t=none:=Ho.imp (·.1) (by rintro⟨_,h⟩;simpa using h);have Ho:Cg P e=true∧N= []∨Cg P e=false∧El P t=none:=by
        rcases Ho with⟨h1,h2⟩|⟨h1,h2⟩
        ·exact .inl ⟨h1,(p5 h2).1⟩
        ·exact .inr ⟨h1,by simpa using h2⟩
       have HD:y=x:=by
        cases j with
        |zero=>simp [Br]at hy
        |succ j=>simp [Br,IN,hl]at hy;exact hy.symm
       subst HD;have hv:c.H u g=v:=by
        cases r1 with
        |own _ k2 _=>exact k2
       rw [hv]at p3;refine⟨N++rf,(c.G u).top++Bh,CA.own hf BE Ho p3 q1,fun b hb=> ?_,by simp [CM,RI.tag,q3], .row hf BE OG p1 hv p2 q4,fun w hw=> ?_⟩
       ·rcases Ai.1 hb with hb|hb
        ·exact .inl (p4 b hb)
        ·exact q2 b hb
       simp only [CM,List.filterMap_cons,Option.map_some,RI.tag,Ag]at hw;rcases hw with rfl|hw
       ·exact hU _ _ p1
       ·exact q5 w hw
      ·cases hr
     ·rename_i e z l g' ep x hl;split at hr
      ·rename_i hh;obtain⟨rfl,GD,DY⟩:=hh;have DY:=ZQ DY;simp only [Ah]at hr;subst hr;obtain⟨p1,p2,pE,p3,_⟩:=eh u _ (Db hl k);have HD:y=x:=by
        cases j with
        |zero=>simp [Br]at hy
        |succ j=>simp [Br,IN,hl]at hy;exact hy.symm
       subst HD;have hv:c.H u g=v:=by
        cases r1 with
        |own _ k2 _=>exact k2
       rw [hv]at p3;refine⟨rf,(c.G u).top++Bh,CA.deep hf BE GD DY p3 q1,q2,by simp [CM,RI.tag,q3], .deep hf BE GD DY p1 hv p2 pE q4,fun w hw=> ?_⟩;simp only [CM,List.filterMap_cons,Option.map_some,RI.tag,Ag]at hw;rcases hw with rfl|hw
       ·exact hU _ _ p1
       ·exact q5 w hw
      ·cases hr
     ·cases hr
    ·cases hr
   ·cases h
  ·rename_i hf;simp only [Ah,Prod.mk.injEq]at h;obtain⟨rfl,rfl⟩:=h;obtain⟨f,p1,p2⟩:=Ii eh k j hy r1 A3 (by omega);refine⟨f++rf,Bh,CA.rd (fun hh=>absurd hh hf) p1 q1,fun b hb=> ?_,by simpa [CM]using q3, .none (fun hh=>absurd hh hf) q4,by simpa [CM]using q5⟩;rcases Ai.1 hb with hb|hb
   ·exact(p2 b hb).mono fun t ht=>by simp [ht]
   ·exact(q2 b hb).mono fun t ht=>by simp [ht]
theorem zrQ (eh:EH c hp) (k:Bj c.ρ gs) (hU: ∀t g,c.K t g→c.U t) {t:TypeId} {s:SV} {v:Value} {fl:List Bool} {rs:List (Option RI)} {us:List Nat} {x:E} (hs:SR c [s] [v]) (hx:Br hp gs A3 s=some x) (hg:(Ih s).2=Ao P t)
  (h:HF P hp gs (A9 P t) (Ih s).1 fl=some (rs,us)):
  ∃rf hs,Qq P c.w t fl v (x.den c.ρ) rf hs∧(∀b∈rf,c.fj us b)∧hs=(CM rs).flatMap (fun t=>(c.G t).top)∧(∃vs',(if Ao P t then v= .agg vs'.toArray else vs'= [v])∧He P c (A9 P t) fl vs' rs)∧ ∀u∈CM rs,c.U u:=by
 have single: ∀(s:SV),SR c [s] [v]→Br hp gs A3 s=some x→Ao P t=false→HF P hp gs (A9 P t) [s] fl=some (rs,us)→ ∃rf hs,Qq P c.w t fl v (x.den c.ρ) rf hs∧(∀b∈rf,c.fj us b)∧hs=(CM rs).flatMap (fun t=>(c.G t).top)∧(∃vs',(if Ao P t then v= .agg vs'.toArray else vs'= [v])∧He P c (A9 P t) fl vs' rs)∧ ∀u∈CM rs,c.U u:=by
  intro s hs hx AD h;obtain⟨t0,fH⟩: ∃t0,A9 P t= [t0]:=by
   cases hh:A9 P t with
   |nil=>rw [hh]at h;simp [HF]at h
   |cons t0 l=>
    cases l with
    |nil=>exact⟨t0,rfl⟩
    |cons t1 l=>rw [hh]at h;simp [HF]at h
  rw [fH]at h;have key: ∃rf hs,CA P c.w [t0] fl [v] [x.den c.ρ] rf hs∧(∀b∈rf,c.fj us b)∧hs=(CM rs).flatMap (fun t=>(c.G t).top)∧He P c [t0] fl [v] rs∧ ∀u∈CM rs,c.U u:=by
   unfold HF at h;simp only [HF]at h;split at h
   ·rename_i hf;split at h
    ·rename_i r hr;simp only [Ah,Prod.mk.injEq]at h;obtain⟨rfl,rfl⟩:=h;unfold rF at hr;split at hr
     ·cases hr
     rename_i el BE;split at hr
     ·cases hr
     rename_i hz;have empt: ∀a,v= .slice a 0 0→x.den c.ρ= .sl []→r=none→ ∃rf hs,CA P c.w [t0] fl [v] [x.den c.ρ] rf hs∧(∀b∈rf,c.fj ([]:List Nat) b)∧hs=(CM [r]).flatMap (fun t=>(c.G t).top)∧He P c [t0] fl [v] [r]∧ ∀u∈CM [r],c.U u:=by rintro a rfl Ia rfl;refine⟨[], []++ [], ?_,by simp,by simp [CM], .none (fun _=> .inr ⟨a,rfl⟩) .nil,by simp [CM]⟩;rw [Ia];exact CA.void hf BE (by omega) .nil
     split at hr
     ·simp only [Ah]at hr;subst hr;cases hs with
      |cq _=>exact empt _ rfl (by rw [Mb hx];rfl) rfl
     ·simp only [Ah]at hr;subst hr;cases hs with
      |emp _=>refine empt _ rfl ?_ rfl;simp [A3,Br]at hx;subst hx;rfl
     ·rename_i u g;split at hr
      ·rename_i e z g' x0 d hl;split at hr
       ·rename_i hh;obtain⟨rfl,rfl,rfl,Ho⟩:=hh;simp only [Ah]at hr;subst hr;obtain⟨p1,p2,N,p3,p4,p5,_⟩:=eh u _ (Db hl k);have OG:Cg P e=true∨El P t0=none:=Ho.imp (·.1) (by rintro⟨_,h⟩;simpa using h);have Ho:Cg P e=true∧N= []∨Cg P e=false∧El P t0=none:=by
         rcases Ho with⟨h1,h2⟩|⟨h1,h2⟩
         ·exact .inl ⟨h1,(p5 h2).1⟩
         ·exact .inr ⟨h1,by simpa using h2⟩
        have HD:x=x0:=by simp [A3,Br,IN,hl]at hx;exact hx.symm
        subst HD;have hv:c.H u g=v:=by
         cases hs with
         |own _ k2 _=>exact k2
        rw [hv]at p3;refine⟨N++ [],(c.G u).top++ [],CA.own hf BE Ho p3 .nil,fun b hb=> .inl (p4 b (by simpa using hb)),by simp [CM,RI.tag], .row hf BE OG p1 hv p2 .nil,fun w hw=> ?_⟩;simp only [CM,List.filterMap_cons,Option.map_some,RI.tag,List.filterMap_nil,Ag,List.not_mem_nil,or_false]at hw;subst hw;exact hU _ _ p1
       ·cases hr
      ·rename_i e z l g' ep x0 hl;split at hr
       ·rename_i hh;obtain⟨rfl,GD,DY⟩:=hh;have DY:=ZQ DY;simp only [Ah]at hr;subst hr;obtain⟨p1,p2,pE,p3,_⟩:=eh u _ (Db hl k);have HD:x=x0:=by
         simp [A3,Br,IN,hl]at hx;exact hx.symm
        subst HD;have hv:c.H u g=v:=by
         cases hs with
         |own _ k2 _=>exact k2
        rw [hv]at p3;refine⟨[],(c.G u).top++ [],CA.deep hf BE GD DY p3 .nil,by simp,by simp [CM,RI.tag], .deep hf BE GD DY p1 hv p2 pE .nil,fun w hw=> ?_⟩;simp only [CM,List.filterMap_cons,Option.map_some,RI.tag,List.filterMap_nil,Ag,List.not_mem_nil,or_false]at hw;subst hw;exact hU _ _ p1
       ·cases hr
      ·cases hr
     ·cases hr
    ·cases h
   ·rename_i hf;simp only [Ah,Prod.mk.injEq]at h;obtain⟨rfl,rfl⟩:=h;obtain⟨f,p1,p2⟩:=Ii eh k A3 hx hs A3 (Nat.le_refl _);refine⟨f++ [], [],CA.rd (fun hh=>absurd hh hf) p1 .nil,fun b hb=> ?_,by simp [CM], .none (fun hh=>absurd hh hf) .nil,by simp [CM]⟩;rw [List.append_nil]at hb;exact(p2 b hb).mono fun t ht=>by simp [ht]
  obtain⟨rf,Bh,q1,q2,q3,q4,q5⟩:=key;refine⟨rf,Bh,⟨[v], [x.den c.ρ], ?_,by rw [fH];exact q1⟩,q2,q3,⟨[v], ?_,by rw [fH];exact q4⟩,q5⟩
  ·rw [if_neg (by rw [AD];simp)];exact⟨rfl,rfl⟩
  ·rw [if_neg (by rw [AD];simp)]
 cases s with
 |agg cs=>
  simp only [Ih]at hg h;obtain⟨m,l,hm,hl,rfl⟩:=Wl hx;cases hs with
  |agg h9 h1 h8=>
   rename_i as_;have Gz:m≤A3:=by simp only [A3]at hm ⊢;omega
   obtain⟨rf,Bh,q1,q2,q3,q4,q5⟩:=mZ (P:=P) eh k hU (A9 P t) h h1 hl Gz;refine⟨rf,Bh,⟨as_,l.den c.ρ, ?_,q1⟩,q2,q3,⟨as_, ?_,q4⟩,q5⟩
   ·rw [if_pos hg.symm];exact⟨rfl,rfl,h9⟩
   ·rw [if_pos hg.symm]
 |_=>exact single _ hs hx hg.symm h
end
end Go.Proofs.YtbmbkgalkfmjdaaGreatDoor
end

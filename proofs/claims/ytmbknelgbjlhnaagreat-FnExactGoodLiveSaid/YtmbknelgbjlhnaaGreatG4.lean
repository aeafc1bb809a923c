/- Parts of a proof, joined: VX, WB, WC, WD, WE, WF, WG, WH, WI, WJ, WK, WL, WM, WN, WO. -/
import Derived.Test.YtmbknelgbjlhnaaGreatG3
import Derived.Orders
import Derived.Lib.SliceRun
import Derived.Laws.Slices
import Derived.Laws.MakeOwn
import Derived.Laws.StructEq
set_option linter.unusedVariables false
set_option linter.unusedSimpArgs false
section
namespace Go.Proofs.YtmbknelgbjlhnaaGreat
open Go.RowKit
section
variable {P:Program} {c:Cx} {n nx:Nat} {sl sl0:Nat→SV} {hp hp0:Nat→Option Ad} {a:Act} {o:Oper} {gs:Gd} {e:AP} {sg:BB} {nv:Nat}
def Cx.gm (c:Cx) (w':World) (t:Nat) (O:List Nat):Cx:={c with w:=w',G:=fun u=>if u=t then⟨(c.G t).top,O⟩else c.G u,E:=fun u=>if u=t then c.E u+1 else c.E u}
theorem Rel.jx (h:Rel c n sl hp a) {t:Nat} {e0:Ad} {b:Nat} {w':World} {O:List Nat} (AO:B0 c.ρ (hp t) e0) (B4:b∈(c.G t).top) (hO:O= []∨O=(c.G t).O) (hm:Mod [b] c.w w') (B3:w'.heap.size=c.w.heap.size) (e1:Ad) (BE: ∀hs f,e1≠ .gd hs f)
  (he:CX c (c.gm w' t O)→CD (c.gm w' t O) t e1):
  Rel (c.gm w' t O) n sl (AW hp [(t,e1)]) a:=by
 have Bk:b∈(c.G t).own:=by simp [GI.own,B4]
 have hG: ∀u,(c.gm w' t O).G u=if u=t then⟨(c.G t).top,O⟩else c.G u:=fun u=>rfl;have DU: ∀u,((c.gm w' t O).G u).top=(c.G u).top:=by
  intro u;rw [hG];split
  ·rename_i hu;rw [hu]
  ·rfl
 have Bt: ∀u,∀q∈((c.gm w' t O).G u).own,q∈(c.G u).own:=by
  intro u q hq;rw [hG]at hq;split at hq
  ·rename_i hu;subst hu;simp only [GI.own,Ag]at hq ⊢;rcases hq with hq|hq
   ·exact .inl hq
   ·rcases hO with rfl|rfl
    ·simp at hq
    ·exact .inr hq
  ·exact hq
 have Bw:CX c (c.gm w' t O):=by
  refine⟨rfl,rfl,fun q _ hq=>⟨fun⟨u,hu⟩=>hq.1 ⟨u,by rw [DU]at hu;exact hu⟩,hq.2⟩,fun q hq AF=>hm.block q hq ?_,fun u g hu=>⟨hu,rfl⟩,fun u g hu=> ?_⟩
  ·simp only [List.mem_singleton];rintro rfl;exact AF.1 ⟨t,B4⟩
  ·by_cases Ft:u=t
   ·have e1:(c.gm w' t O).E u=c.E u+1:=by simp only [Cx.gm,if_pos Ft]
    exact⟨by omega,fun h=>by omega⟩
   ·have e1:(c.gm w' t O).E u=c.E u:=by simp only [Cx.gm,if_neg Ft]
    have e2:(c.gm w' t O).G u=c.G u:=by simp only [Cx.gm,if_neg Ft]
    rw [e1];refine⟨Nat.le_refl _,fun _=>⟨e2,fun q hq Gf=>hm.block q Gf ?_⟩⟩;simp only [List.mem_singleton];rintro rfl;exact h.gw.c7 t u (Ne.symm Ft) q Bk (by simp [GI.own,hq])
 have Db: ∀u,AW hp [(t,e1)] u=if u=t then some e1 else hp u:=fun u=>rfl;refine h.change (fun u=>u=t) Bw ⟨hm.os.trans h.base.os,hm.tape.trans h.base.tape,hm.output.trans h.base.output,Nat.le_trans h.base.size hm.size,h.base.pins,fun q hq GO=> ?_,h.base.pk,h.base.lo⟩
  (fun u hu=>⟨by rw [Db,if_neg hu],by rw [hG,if_neg hu],by simp [Cx.gm,hu],fun g hg=>hg⟩) (fun u hu q hq=>hm.block q (h.gw.inb u q (by simp [GI.own,hq])) ?_) (fun u hu=> ?_) ⟨fun u=> ?_,fun u v Zl q hq Y8=>h.gw.c7 u v Zl q (Bt u q hq) (Bt v q Y8),fun u q hq=>h.gw.allow u q (Bt u q hq),fun u q hq=> ?_⟩ h.cg (fun u f hf=> ?_)
 ·refine(hm.block q (Nat.lt_of_lt_of_le hq h.base.size) ?_).trans (h.base.block q hq GO);simp only [List.mem_singleton];rintro rfl;rcases h.gw.allow t q Bk with hh|hh
  ·exact absurd hh (Nat.not_le.2 hq)
  ·exact GO hh
 ·simp only [List.mem_singleton];rintro rfl;exact h.gw.c7 t u (Ne.symm hu) q Bk (by simp [GI.own,hq])
 ·subst hu;rw [Db,if_pos rfl];refine⟨fun e' hr=> ?_,fun hn=> ?_⟩
  ·cases e1<;>first
    |(simp only [B0]at hr;subst hr;exact he Bw)
    |exact absurd rfl (BE _ _)
  ·cases e1<;>first
    |exact absurd rfl (BE _ _)
    |exact absurd rfl (hn _)
 ·rw [hG];split
  ·rename_i hu;subst hu;have h0:=h.gw.nodup u;simp only [GI.own]at h0 ⊢;rcases hO with rfl|rfl
   ·rw [List.append_nil];exact(List.nodup_append.1 h0).1
   ·exact h0
  ·exact h.gw.nodup u
 ·show q<w'.heap.size;rw [B3];exact h.gw.inb u q (Bt u q hq)
 ·rw [Db]at hf;split at hf
  ·rename_i hu;subst hu;cases hh:hp u with
   |none=>rw [hh]at AO;exact AO.elim
   |some e9=>exact h.c8 u e9 hh
  ·exact h.c8 u f hf
theorem Oz {α:Type} (L vs:List α) (p m:Nat) (h:p+vs.length≤m) (hm:m≤L.length):(setVs L p vs).take m=setVs (L.take m) p vs:=by
 apply List.ext_getElem?;intro j;have hl:(L.take m).length=m:=by rw [List.length_take];omega
 rw [List.getElem?_take,OH (L.take m) vs p (by omega) j,OH L vs p (by omega) j,List.getElem?_take];by_cases h1:p≤j∧j<p+vs.length
 ·rw [if_pos (by omega),if_pos h1,if_pos h1]
 ·rw [if_neg h1,if_neg h1]
theorem Rd.setVs {w:World} {L V:List Value} {X Y:List AV} {N f:List Nat} {p:Nat} (h:Rd w L X N) (k:Rd w V Y f) (hp:p+V.length≤L.length):
  ∃n1 n2 n3,N=n1++n2++n3∧Rd w (Go.Proofs.YtmbknelgbjlhnaaGreat.setVs L p V) (Go.Proofs.YtmbknelgbjlhnaaGreat.setVs X p Y) (n1++f++n3)∧Rd w ((L.drop p).take V.length) ((X.drop p).take V.length) n2:=by
 have hl:=h.len;have hk:=k.len;have e1:L=L.take p++((L.drop p).take V.length++L.drop (p+V.length)):=by rw [←List.drop_drop,List.take_append_drop,List.take_append_drop]
 have e2:X=X.take p++((X.drop p).take V.length++X.drop (p+V.length)):=by rw [←List.drop_drop,List.take_append_drop,List.take_append_drop]
 have h':=h;rw [e1,e2]at h';obtain⟨n1,m,rfl,g1,g2⟩:=Rd.fu (by simp;omega) h';obtain⟨n2,n3,rfl,g3,g4⟩:=Rd.fu (by simp;omega) g2;refine⟨n1,n2,n3,by simp, ?_,g3⟩;unfold Go.Proofs.YtmbknelgbjlhnaaGreat.setVs;rw [←hk];exact(g1.app k).app g4
theorem Xk {sz:Nat}: ∀(ys:List AV) (k:Nat) (z y:AV) (o:Nat) (vc:List AV),(∀y∈ys,y.cells.length=sz)→ys[k]?=some y→o+vc.length≤sz→z.cells=setVs y.cells o vc→AM (ys.set k z)=setVs (AM ys) (k*sz+o) vc
 | [],k,z,y,o,vc,_,h,_,_=>by simp at h
 |q::ys,0,z,y,o,vc,hs,h,ho,hz=>by simp at h;subst h;have hq:=hs q (by simp);simp only [AM,List.set_cons_zero,List.flatMap_cons,Nat.zero_mul,Nat.zero_add,hz];unfold setVs;rw [List.take_append_of_le_length (by omega),List.drop_append_of_le_length (by omega)];simp
 |q::ys,k+1,z,y,o,vc,hs,h,ho,hz=>by
  have hq:=hs q (by simp);have ih:=Xk ys k z y o vc (fun u hu=>hs u (by simp [hu])) (by simpa using h) ho hz;simp only [AM,List.set_cons_succ,List.flatMap_cons]at ih ⊢;rw [ih];unfold setVs;have e0:(k+1)*sz+o=q.cells.length+(k*sz+o):=by rw [hq,Nat.add_mul];omega
  rw [e0,List.take_length_add_append,Nat.add_assoc (q.cells.length),List.drop_length_add_append];simp
theorem dL {y x:AV} {k:Nat} {g:Bool} (hx:(∀cs,x≠ .agg cs)∨g=true) (hy:g=false→y.cells.length=1∧k=0∧x.cells= [x]):(y.eb k x g).cells=setVs y.cells k x.cells:=by
 cases g with
 |true=>simp [AV.eb,AV.cells,setVs]
 |false=>obtain⟨h1,h2,h3⟩:=hy rfl;subst h2;simp only [AV.eb,h3,setVs];rw [if_neg (by simp)];rw [h3];simp only [List.take_zero,List.nil_append,AL,List.length_nil,Nat.zero_add];rw [List.drop_eq_nil_of_le (by omega)];simp
theorem zsU (h:A6 P c n nx sl hp a sl0 hp0 o gs) {t:TypeId} {x y:Operand} (ho:o.op= .store t x y) {b g:Nat} {ix:E} {sz k:Nat} {s:SV} (Da: ∃e z g c d,look hp0 gs b=some (.row e z g c d)) (hx:Bm sl0 gs x=some (.da b g ix sz k)) (hy:Bm sl0 gs y=some s)
  (he:Lc P hp0 gs t (.da b g ix sz k) s=some e) (hc: ∀q∈e.c6,Cn.den c.ρ q):As P o c n nx sl hp gs a e:=by
 have r1:=h.de hx (by simp [ho,Op.operands]);have r2:=h.de hy (by simp [ho,Op.operands]);simp only [Lc]at he;split at he
 ·rename_i el sz' g' c0 d hl;split at he
  ·rename_i hh;obtain⟨rfl,rfl,rfl,A4,hle,Ey,Dp⟩:=hh;split at he
   ·rename_i xe fz dx ck BR;split at he
    ·cases he
    rename_i Dv;simp only [Ab]at he;subst he;have Dv: ∀f,(b,f)∉fz:=fun f hf=>Dv (by simp only [List.contains_eq_mem,decide_eq_true_eq];exact List.mem_map.2 ⟨_,hf,rfl⟩);obtain⟨f,q1,q2,⟨ts,q3⟩,q5⟩:=mN h.rel h.hp h.gs r2 BR (fun q hq=>hc q (by simp [hq]));obtain⟨q3,q4⟩:=q3;have AO:=J5 h.hp (Cu hl h.gs);have CF:=h.rel.freeze h.hp h.gs q3;have KG:B0 (c.cc (fz.map (·.1))).ρ (AW hp fz b) (.row el sz g c0 d):=by rw [JV Dv];exact AO
    obtain⟨e1,e2,N,e3,e4,e5,e6⟩:=CF.ents b _ KG;obtain⟨o1,o2,o3,o4⟩:=eE (P:=P) q1 Dp q5;generalize hv:a.eval x=v at r1;cases r1 with
    |da k1 k2 k3 k4 k5 _=>
     rename_i m len cap kk kv k6;obtain⟨xs,p1,p2,p3,pcase⟩:=e3;have p1':c0.den c.ρ= .sl xs:=p1;rcases pcase with⟨_,⟨_,pv⟩,_⟩|⟨g9,cap9,C,pv,p4,p5,p6,p7,p8,p9,p10⟩
     ·exfalso;have:c.H b g=_:=pv;rw [k2]at this;cases this;omega
     ·have pv':c.H b g= .slice (some ⟨g9,0,none⟩) xs.length cap9:=pv;rw [k2]at pv';simp only [Value.slice.injEq,Ab,Addr.mk.injEq,and_true]at pv';obtain⟨rfl,rfl,rfl⟩:=pv';have GM:kv.toNat<xs.length:=by omega
      have E5:=Lf GM;generalize Ho:(AV.sl xs).nth kv.toNat=yk at E5;have ED:=p2 yk (List.mem_of_getElem? E5);have Fb:(a.eval y).cells.toList.length=P.cellsOf t:=by simpa using o4
      have hmul:(kv.toNat+1)*sz≤xs.length*sz:=Nat.mul_le_mul_right _ (by omega);have Dg:C.toList.length=cap*sz:=by simpa using p7
      have E0:xs.length*sz≤cap*sz:=Nat.mul_le_mul_right _ p4;rw [Nat.add_mul]at hmul;have p6':c.w.heap[m]?=some (.cells C el (0,0)):=p6;obtain⟨m1,m2,m3⟩:=VD (vs:=(a.eval y).cells.toList) p6' (show(kv.toNat*sz+k)+_≤C.size by rw [Fb,p7];omega);have LQ:(C.toList.take (xs.length*sz)).length=xs.length*sz:=by rw [List.length_take,Dg];omega
      obtain⟨n1,n2,n3,hN,s1,s2⟩:=Rd.setVs (p:=kv.toNat*sz+k) p10 o1 (by rw [LQ,Fb];omega);have EB: ∀z,z<c.w.heap.size→(c.cc (fz.map (·.1))).ok z→(Cy c.w m (kv.toNat*sz+k) (a.eval y).cells.toList).heap[z]?=c.w.heap[z]?:=by intro z hz AF;refine m1.block z hz ?_;simp only [List.mem_singleton];rintro rfl;exact AF.1 ⟨b,by rw [p8];simp⟩
      have BG:(d&&dx)=true→n2= []∧f= []:=by
       intro DZ;have rS:Cn.den c.ρ (.flat (.fld (.idx c0 ix) k (P.cellsOf t) (Ak P t)) (P.cellsOf t) (Ak P t)):=hc _ (by simp [DZ]);obtain⟨f1,f2,f3,f4⟩:=rS;simp only [Ac]at DZ;refine⟨?_,q2 DZ.2⟩;have LZ:((AM xs).drop (kv.toNat*sz+k)).take (a.eval y).cells.toList.length=(yk.cells.drop k).take (P.cellsOf t):=by rw [Fb];exact Sc xs p2 _ _ E5 k (P.cellsOf t) hle
       rw [LZ]at s2;have BF:(E.fld (.idx c0 ix) k (P.cellsOf t) (Ak P t)).den c.ρ=yk.fld k (P.cellsOf t) (Ak P t):=by simp only [E.den,p1',k3,AV.idx,Ho]
       rw [BF]at f2;refine Gu s2 ?_;cases hg:Ak P t with
       |true=>rw [hg]at f2;simpa [AV.fld,AV.cells]using f2
       |false=>
        have h1:P.cellsOf t=1:=by rcases Dp with h'|h';rw [hg]at h';cases h';exact h'
        rw [BF]at f4;have f4:=f4 hg;rw [hg]at f4;have AB:k<yk.cells.length:=by omega
        rw [h1,List.drop_eq_getElem_cons AB,List.take_succ_cons,List.take_zero];simp only [List.mem_singleton,forall_eq];simpa [AV.fld,AB]using f4
      have hz:(yk.eb k (xe.den c.ρ) (Ak P el)).cells=setVs yk.cells k (xe.den c.ρ).cells:=by
       refine dL ?_ (fun hg=> ?_)
       ·cases hg:Ak P el with
        |true=>exact .inr rfl
        |false=>
         left;rcases Ey with h'|⟨_,h'⟩
         ·rw [hg]at h';cases h'
         ·have h':Ak P t=false:=by simpa using h'
          rw [h']at q5;exact fun cs=>(q5.1 cs)
       ·rcases Ey with h'|⟨h1,h'⟩
        ·rw [hg]at h';cases h'
        ·have h':Ak P t=false:=by simpa using h'
         rw [h']at q5;have PK:P.cellsOf t=1:=by rcases Dp with h2|h2;rw [h']at h2;cases h2;exact h2
         refine⟨by omega,by omega, ?_⟩;cases Zq:xe.den c.ρ<;>first|rfl|exact absurd Zq (q5.1 _)
      have DL:AM (xs.set kv.toNat (yk.eb k (xe.den c.ρ) (Ak P el)))=setVs (AM xs) (kv.toNat*sz+k) (xe.den c.ρ).cells:=
       Xk xs _ _ yk k _ p2 E5 (by rw [o3];exact hle) hz
      have C3:=CF.jx (t:=b) (b:=m) (w':=Cy c.w m (kv.toNat*sz+k) (a.eval y).cells.toList) (O:=if(d&&dx)=true then((c.cc (fz.map (·.1))).G b).O else []) KG (by rw [p8];simp) (by split;exact .inr rfl;exact .inl rfl) m1 m3
       (.row el sz g (.set c0 ix (.put (.idx c0 ix) k xe (Ak P el))) (d&&dx)) (by intros;simp) (fun Fs=>by
        have ET: ∀z∈n1++f++n3,(c.cc (fz.map (·.1))).ok z:=by
         intro z hz;simp only [Ag]at hz;rcases hz with(hz|hz)|hz
         ·exact e4 z (by rw [hN];simp [hz])
         ·exact q4 z hz
         ·exact e4 z (by rw [hN];simp [hz])
        have Pt: ∀z∈n1++f++n3,z<c.w.heap.size:=s1.inb;refine⟨e1,e2,n1++f++n3,⟨xs.set kv.toNat (yk.eb k (xe.den c.ρ) (Ak P el)), ?_,fun z Zw=> ?_,p3, .inr ⟨m,cap,_, ?_,by simpa using p4,p5,m2, ?_, ?_, ?_, ?_⟩⟩,fun z hz=>Fs.ok z (Pt z hz) (ET z hz),fun DZ=> ?_,fun DZ=> ?_⟩
        ·show AV.ec (c0.den c.ρ) (ix.den c.ρ) (((c0.den c.ρ).idx (ix.den c.ρ)).eb k (xe.den c.ρ) (Ak P el))=_;rw [p1',k3];simp only [AV.idx,Ho,AV.ec]
        ·rcases List.mem_or_eq_of_mem_set Zw with Zw|rfl
         ·exact p2 z Zw
         ·rw [hz,OC _ _ _ (by rw [o3,ED];exact hle)];exact ED
        ·rw [List.length_set];exact k2
        ·rw [List.size_toArray,OC _ _ _ (by rw [Fb,Dg];omega),Array.length_toList];exact p7
        ·simpa [Cx.gm]using p8
        ·simp only [List.length_set,List.toList_toArray];rw [Oz _ _ _ _ (by rw [Fb];omega) (by rw [Dg];omega)];intro u hu;unfold setVs at hu;simp only [Ag]at hu;rcases hu with(hu|hu)|hu
         ·exact p9 u (List.mem_of_mem_take hu)
         ·exact o2 u hu
         ·exact p9 u (List.mem_of_mem_drop hu)
        ·simp only [List.length_set,List.toList_toArray];rw [Oz _ _ _ _ (by rw [Fb];omega) (by rw [Dg];omega),DL];exact s1.frame fun z hz=>EB z (Pt z hz) (ET z hz)
        ·obtain⟨z1,z2⟩:=BG DZ;have hd:d=true:=by simp only [Ac]at DZ;exact DZ.1
         obtain⟨u1,u2⟩:=e5 hd;have Tv:n1++f++n3=N:=by rw [hN,z1,z2]
         rw [Tv];refine⟨u1.frame fun z hz=>EB z (p10.inb z hz) (e4 z hz), ?_⟩;simp only [Cx.gm,if_true,DZ];exact u2
        ·simp [Cx.gm,DZ])
      intro next Q hk
      unfold Oper.wp;have hr:(execOp a.eval o).run P c.w= .ok .skip (Cy c.w m (kv.toNat*sz+k) (a.eval y).cells.toList):=by have:=dD (P:=P) (t:=t) (v:=a.eval y) (off:=kv.toNat*sz+k) p6' A4 o4 (by rw [o4,p7];omega) o2;simp [execOp,ho,hv,this]
      rw [hr,Oper.upon_skip];refine hk _ ((c.cc (fz.map (·.1))).gm (Cy c.w m (kv.toNat*sz+k) (a.eval y).cells.toList) b (if(d&&dx)=true then((c.cc (fz.map (·.1))).G b).O else [])) ⟨rfl,rfl,rfl,rfl,fun t ht=> .inl ht⟩ ?_;have:=C3.put (v:=Go.undef) ((SR.undef .nil).mkGd []) o.dst;rw [My];exact this
   ·cases he
  ·cases he
 all_goals (rename_i hl;obtain⟨_,_,_,_,_,Bl⟩:=Da;first|(rw [Bl]at hl;cases hl;done)|exact absurd Bl (hl _ _ _ _ _)|cases he)
end
def I7 (a:Act) (o:Oper):Bool:=match o.op with| .binOp _ _ x _ _=>(match a.eval x with| .slice none _ _=>true|_=>false)|_=>false
section
variable (P:Program) (sg:BB) (Rt:Nat→List AV→AV→Prop)
def Mb:Prop:= ∀(c:Cx) (n nx:Nat) (sl:Nat→SV) (hp:Nat→Option Ad) (a:Act) (sl0:Nat→SV) (hp0:Nat→Option Ad) (o:Oper) (gs:Gd) (e:AP) (nv:Nat),A6 P c n nx sl hp a sl0 hp0 o gs→ ¬c.U (nx+999)→Kc P sg sl0 hp0 nv nx gs o=some e→
 (∀q∈e.c6,q.den c.ρ)→(∀cl,e.call=some cl→ ∃r,c.ρ[nv]?=some r∧G6 Rt cl.fn ((EL.of cl.args).den c.ρ) c.ρ r)→(∀x,e.cq=some x→c.ρ[nv]?=some (.bool (I7 a o)))→As P o c n nx sl hp gs a e
def Ta:Prop:= ∀(c:Cx) (n nx:Nat) (sl:Nat→SV) (hp:Nat→Option Ad) (a:Act) (sl0:Nat→SV) (hp0:Nat→Option Ad) (o:Oper) (gs:Gd) (e:AP) (nv:Nat) (x:E),A6 P c n nx sl hp a sl0 hp0 o gs→Kc P sg sl0 hp0 nv nx gs o=some e→e.cq=some x→I7 a o=true→x.den c.ρ= .sl []
end
theorem nR {hp:Nat→Option Ad} (l:List (Nat × Ad)) (t:Nat):(AW hp l t=hp t∧ ∀e,(t,e)∉l)∨ ∃e,(t,e)∈l∧AW hp l t=some e:=by
 induction l generalizing hp with
 |nil=>exact .inl ⟨rfl,by simp⟩
 |cons p l ih=>
  obtain⟨u,f⟩:=p;rcases ih (hp:=fun v=>if v=u then some f else hp v)with⟨h1,h2⟩|⟨e,h1,h2⟩
  ·by_cases ht:t=u
   ·subst ht;refine .inr ⟨f,by simp, ?_⟩;have:AW hp ((t,f)::l) t=AW (fun v=>if v=t then some f else hp v) l t:=rfl;rw [this,h1];simp
   ·refine .inl ⟨?_,fun e he=> ?_⟩
    ·have:AW hp ((u,f)::l) t=AW (fun v=>if v=u then some f else hp v) l t:=rfl;rw [this,h1,if_neg ht]
    ·rcases Ae.1 he with he|he
     ·cases he;exact ht rfl
     ·exact h2 e he
  ·exact .inr ⟨e,by simp [h1],h2⟩
section
variable {P:Program} {sg:BB} {Rt:Nat→List AV→AV→Prop} {c:Cx} {n nx:Nat} {sl:Nat→SV} {hp:Nat→Option Ad} {a:Act} {ops:Array Oper} {o:Oper} {gs:Gd} {e:AP}
theorem Rel.skip (h:Rel c n sl hp a) (hg: ¬A1 c.ρ gs) {l:List (Nat × Ad)} (hl: ∀t x,(t,x)∈l→nx≤t∧t<nx+Bj∧ ∃hs y,x= .gd hs y∧Ki gs hs=true) (AS: ∀t,nx≤t→t<nx+Bj→ ¬c.U t) (s:SV) (d:Option Nat):
  Rel {c with U:=fun t=>c.U t∨(nx≤t∧t<nx+Bj)} n (Cb n sl d (mkGd gs s)) (AW hp l) (a.put d undef):=by
 have hs:SR {c with U:=fun t=>c.U t∨(nx≤t∧t<nx+Bj)} [mkGd gs s] [undef]:=by
  cases gs with
  |nil=>exact absurd (D3 _) hg
  |cons g gs=>exact .gd (fun hh=>absurd hh hg) (fun _=>rfl) .nil
 refine Rel.put ?_ hs d;refine h.change (fun t=> ∃x,(t,x)∈l) ⟨rfl,rfl,fun _ _ hb=>hb,fun _ _ _=>rfl,fun _ _ hk=>⟨hk,rfl⟩,fun _ _ _=>⟨Nat.le_refl _,fun _=>⟨rfl,fun _ _ _=>rfl⟩⟩⟩ ⟨h.base.os,h.base.tape,h.base.output,h.base.size,fun t v hp=>⟨.inl (h.base.pins t v hp).1,(h.base.pins t v hp).2⟩,h.base.block,h.base.pk,h.base.lo⟩ (fun t ht=> ?_) (fun _ _ _ _=>rfl) (fun t ht=> ?_) ⟨h.gw.nodup,h.gw.c7,h.gw.allow,h.gw.inb⟩ (fun t g hk=> .inl (h.cg t g hk)) (fun t x hx=> ?_)
 ·exact⟨JV fun x hx=>ht ⟨x,hx⟩,rfl,rfl,fun g hk=>hk⟩
 ·obtain⟨x,hx⟩:=ht;rcases nR (hp:=hp) l t with⟨_,h2⟩|⟨x',h1,h2⟩
  ·exact absurd hx (h2 x)
  ·obtain⟨q1,q2,hs,y,rfl,Bt⟩:=hl t x' h1;have DP: ∀e',¬B0 c.ρ (AW hp l t) e':=by
    rw [h2];exact fun e' hr=>hg (Xs Bt hr.1)
   refine⟨fun e' hr=>absurd hr (DP e'),fun _=>h.off t fun e' hr=> ?_⟩;cases hh:hp t with
   |none=>rw [hh]at hr;exact hr.elim
   |some e9=>exact AS t q1 q2 (h.c8 t e9 hh)
 ·rcases nR (hp:=hp) l t with⟨h1,_⟩|⟨x',h1,_⟩
  ·rw [h1]at hx;exact .inl (h.c8 t x hx)
  ·obtain⟨q1,q2,_⟩:=hl t x' h1;exact .inr ⟨q1,q2⟩
def To (ρ:List AV) (ops:Array Oper) (o:Oper) (a:Act):Option Gd→Prop
 |none=>Region.wanted o (yielded ops a.tmps)=false
 |some gs=>(A1 ρ gs→Region.wanted o (yielded ops a.tmps)=true)∧(¬A1 ρ gs→Region.wanted o (yielded ops a.tmps)=false)
theorem eG {σ:St} {r:Option Gd} (hg:Mx σ ops o=some r) (hs: ∀j want d,o.guard=some (j,want)→(ops[j]?).bind (·.dst)=some d→SR c [Bd σ d] [a.tmps.getD d undef]):To c.ρ ops o a r:=by
 unfold Mx at hg;cases FP:o.guard with
 |none=>rw [FP]at hg;simp only [Ab]at hg;subst hg;exact⟨fun _=>by simp [Region.wanted,FP],fun hn=>absurd (D3 _) hn⟩
 |some jw=>
  obtain⟨j,want⟩:=jw;rw [FP]at hg;simp only at hg;cases hd:(ops[j]?).bind (·.dst)with
  |none=>rw [hd]at hg;simp only [Ab]at hg;subst hg;simp [To,Region.wanted,FP,yielded,hd]
  |some d=>
   rw [hd]at hg;simp only at hg;have hr:=hs j want d FP hd;have hw: ∀v,a.tmps.getD d undef=v→Region.wanted o (yielded ops a.tmps)=(match v with| .bool b=>b==want|_=>false):=by
    intro v hv;simp only [Region.wanted,FP,yielded,hd,Aa];rw [Array.getD_eq_getD_getElem?]at hv;cases hq:a.tmps[d]? with
    |none=>rw [hq]at hv;simp at hv;subst hv;simp [undef]
    |some u=>rw [hq]at hv;simp at hv;subst hv;cases u<;>simp
   generalize a.tmps.getD d undef=v at hr hw;have hw:=hw v rfl;have JB:v=undef→Region.wanted o (yielded ops a.tmps)=false:=by rintro rfl;rw [hw];simp [undef]
   have Gh: ∀x f,Rd c.w [v] [x] f→(x= .bool want→Region.wanted o (yielded ops a.tmps)=true)∧(x≠ .bool want→Region.wanted o (yielded ops a.tmps)=false):=by
    intro x f hx;refine⟨fun h=> ?_,fun h=> ?_⟩
    ·rw [hw,G2 hx h];simp
    ·rw [hw];cases v<;>simp only;rename_i b;cases hx with
     |bool _=>simpa using fun hh=>h (by rw [hh])
   split at hg
   ·rename_i b CG;rw [CG]at hr;cases hr with
    |e h1 _ _=>
     simp only [Ab]at hg;subst hg;obtain⟨q1,q2⟩:=Gh _ _ h1;simp only [E.den,AV.bool.injEq]at q1 q2;split
     ·rename_i hb;simp only [beq_iff_eq]at hb;exact⟨fun _=>q1 hb,fun hn=>absurd (D3 _) hn⟩
     ·rename_i hb;simp only [beq_iff_eq]at hb;exact q2 (by simpa using hb)
   ·rename_i x _ CG;rw [CG]at hr;cases hr with
    |e h1 _ _=>simp only [Ab]at hg;subst hg;obtain⟨q1,q2⟩:=Gh _ _ h1;exact⟨fun hh=>q1 (hh (x,want) (by simp)),fun hn=>q2 fun hh=>hn (by intro g hg;simp at hg;subst hg;exact hh)⟩
   ·rename_i AY s CG;rw [CG]at hr;cases hr with
    |gd h1 h2 _=>
     split at hg
     ·rename_i hf;simp only [Ab]at hg;subst hg;refine JB (h2 fun hk=> ?_);simp only [qE,List.any_eq_true]at hf;obtain⟨g,hg,Yx⟩:=hf;have:=hk g hg;split at Yx
      ·rename_i b hb;rw [hb]at this;simp only [E.den,AV.bool.injEq]at this;simp [this]at Yx
      ·cases Yx
     ·split at hg
      ·rename_i b;simp only [Ab]at hg;subst hg;by_cases hk:A1 c.ρ AY
       ·have h1:=h1 hk;cases h1 with
        |e h1 _ _=>
         obtain⟨q1,q2⟩:=Gh _ _ h1;simp only [E.den,AV.bool.injEq]at q1 q2;split
         ·rename_i hb;simp only [beq_iff_eq]at hb;exact⟨fun _=>q1 hb,fun hn=>absurd hk hn⟩
         ·rename_i hb;simp only [beq_iff_eq]at hb;exact q2 (by simpa using hb)
       ·split
        ·exact⟨fun hh=>absurd hh hk,fun _=>JB (h2 hk)⟩
        ·exact JB (h2 hk)
      ·rename_i x _;simp only [Ab]at hg;subst hg;by_cases hk:A1 c.ρ AY
       ·have h1:=h1 hk;cases h1 with
        |e h1 _ _=>obtain⟨q1,q2⟩:=Gh _ _ h1;exact⟨fun hh=>q1 (hh (x,want) (by simp)),fun hn=>q2 fun hh=>hn (by intro g hg;rcases Ae.1 hg with rfl|hg;exact hh;exact hk g hg)⟩
       ·exact⟨fun hh=>absurd (fun g hg=>hh g (by simp [hg])) hk,fun _=>JB (h2 hk)⟩
      ·cases hg
   ·cases hg
theorem qR (AE:Mb P sg Rt) {Q:Exit→Act→World→Prop} {K:Act→World→Prop} {i nv:Nat} (hi:ops[i]?=some o) (Am:Rel c n sl hp a) {sl0:Nat→SV} {hp0:Nat→Option Ad} (GL:To c.ρ ops o a (some gs))
  (CG: ∀t,Operand.tmp t∈o.op.operands→sl0 t=sl t) (sA: ∀t e,hp0 t=some e→hp t=some e) (AS: ∀t,nx≤t→t<nx+Bj→ ¬c.U t)
  (he:Kc P sg sl0 hp0 nv nx gs o=some e) (A8:gs≠ []→ ∀t x,(t,x)∈e.bt→nx≤t∧t<nx+Bj∧ ∃hs y,x= .gd hs y∧Ki gs hs=true)
  (hc:A1 c.ρ gs→ ∀q∈e.c6,q.den c.ρ) (AX: ∀cl,e.call=some cl→ ∃r,c.ρ[nv]?=some r∧(A1 c.ρ gs→G6 Rt cl.fn ((EL.of cl.args).den c.ρ) c.ρ r)) (Ck: ∀x,e.cq=some x→A1 c.ρ gs→c.ρ[nv]?=some (.bool (I7 a o)))
  (hK: ∀a' c',KR c c' nx→Rel c' n (Cb n sl o.dst (mkGd gs e.val)) (AW hp e.bt) a'→K a' c'.w):wpOp P ops Q i K a c.w:=by
 unfold wpOp;simp only [hi];by_cases hg:A1 c.ρ gs
 ·rw [if_pos (GL.1 hg)];exact .inl (AE c n nx sl hp a sl0 hp0 o gs e nv ⟨Am,hg,CG,sA,fun t h1 h2=>AS t h1 (by simp only [Bj];omega)⟩ (AS _ (by omega) (by simp [Bj])) he (hc hg) (fun cl AA=>by obtain⟨r,h1,h2⟩:=AX cl AA;exact⟨r,h1,h2 hg⟩) (fun x hx=>Ck x hx hg) _ _ hK)
 ·rw [if_neg (by rw [GL.2 hg];simp)];have BE:gs≠ []:=by rintro rfl;exact hg (D3 _)
  exact hK _ {c with U:=fun t=>c.U t∨(nx≤t∧t<nx+Bj)} ⟨rfl,rfl,rfl,rfl,fun t ht=>ht⟩ (Am.skip hg (A8 BE) AS e.val o.dst)
end
def Cx.ext (c:Cx) (τ:List AV):Cx:={c with ρ:=c.ρ++τ}
theorem den_app {ρ τ:List AV} {x:E} (h:x.sc ρ.length=true):x.den (ρ++τ)=x.den ρ:=by have:=E.ar ρ τ [] x h;rw [List.append_nil]at this;exact this
theorem vD {ρ τ:List AV} {x:EL} (h:x.sc ρ.length=true):x.den (ρ++τ)=x.den ρ:=by have:=EL.ar ρ τ [] x h;rw [List.append_nil]at this;exact this
theorem JX {ρ τ:List AV} {gs:Gd} (h:QG ρ.length gs=true):A1 (ρ++τ) gs↔A1 ρ gs:=by simp only [QG,A9]at h;exact⟨fun k g hg=>by rw [←den_app (τ:=τ) (h g hg)];exact k g hg,fun k g hg=>by rw [den_app (h g hg)];exact k g hg⟩
theorem Bb.gu {n:Nat}: ∀{cs:Bb},cs.sc n=true→ ∀s∈cs.toList,s.sc n=true
 | .nil,_,s,h=>by simp [Bb.toList]at h
 | .cons s cs,h,u,hu=>by
  simp only [Bb.sc,Ac]at h;simp only [Bb.toList,Ae]at hu;rcases hu with rfl|hu
  ·exact h.1
  ·exact Bb.gu h.2 u hu
section
variable {c:Cx} {n:Nat} {sl:Nat→SV} {hp:Nat→Option Ad} {a:Act} {τ:List AV}
theorem Hd.ext {t g:Nat} {p:Lq} {v:Value} (hs:(match p with|some q=>q.1.sc c.ρ.length|none=>true)=true) (h:Hd c t g p v):Hd (c.ext τ) t g p v:=by
 cases p with
 |none=>exact trivial
 |some p=>obtain⟨i,z,o⟩:=p;obtain⟨b,n,cap,C,ty,fz,kk,k,h1,h2,h3,h4,h5⟩:=h;exact⟨b,n,cap,C,ty,fz,kk,k,h1,h2,h3,by show i.den (c.ρ++τ)=_;rw [den_app hs];exact h4,h5⟩
theorem SR.ext {ss:List SV} {vs:List Value} (h:SR c ss vs):(∀s∈ss,s.sc c.ρ.length=true)→SR (c.ext τ) ss vs:=by
 have tl: ∀{s:SV} {ss:List SV},(∀x∈s::ss,x.sc c.ρ.length=true)→ ∀x∈ss,x.sc c.ρ.length=true:=fun h x hx=>h x (by simp [hx]);have hd: ∀{s:SV} {ss:List SV},(∀x∈s::ss,x.sc c.ρ.length=true)→s.sc c.ρ.length=true:=fun h=>h _ (by simp);have hρ:(c.ext τ).ρ=c.ρ++τ:=rfl
 induction h with
 |nil=>exact fun _=> .nil
 |undef _ ih=>exact fun hs=> .undef (ih (tl hs))
 |e h1 h2 _ ih=>exact fun hs=> .e (by rw [hρ,den_app (hd hs)];exact h1) h2 (ih (tl hs))
 |cr _ ih=>exact fun hs=> .cr (ih (tl hs))
 |emp _ ih=>exact fun hs=> .emp (ih (tl hs))
 |own h1 h2 _ ih=>exact fun hs=> .own h1 h2 (ih (tl hs))
 |cy h1 h2 _ ih=>exact fun hs=> .cy h1 h2 (ih (tl hs))
 |da h1 h2 h3 h4 h5 _ ih=>exact fun hs=> .da h1 h2 (by rw [hρ,den_app (hd hs)];exact h3) h4 h5 (ih (tl hs))
 |dv h1 h2 h3 h4 h5 h6 _ ih=>intro hs;have:=hd hs;simp only [SV.sc,Ac]at this;exact .dv (by rw [hρ,den_app this.1];exact h1) h2 (by rw [hρ,den_app this.2];exact h3) h4 h5 (by rw [hρ,den_app this.1];exact h6) (ih (tl hs))
 |dt h1 h2 _ ih=>exact fun hs=> .dt (by rw [hρ,den_app (hd hs)];exact h1) h2 (ih (tl hs))
 |agg h9 _ _ ih1 ih2=>exact fun hs=> .agg h9 (ih1 (Bb.gu (hd hs))) (ih2 (tl hs))
 |tup _ _ ih1 ih2=>exact fun hs=> .tup (ih1 (Bb.gu (hd hs))) (ih2 (tl hs))
 |fn _ _ ih1 ih2=>exact fun hs=> .fn (ih1 (Bb.gu (hd hs))) (ih2 (tl hs))
 |gd _ h2 _ ih1 ih2=>intro hs;have:=hd hs;simp only [SV.sc,Ac]at this;exact .gd (fun hg=>ih1 ((JX this.1).1 hg) (by simpa using this.2)) (fun hg=>h2 fun k=>hg ((JX this.1).2 k)) (ih2 (tl hs))
 | @via t g n p x v ss vs h1 h2 h3 _ ih=>intro hs;have:=hd hs;simp only [SV.sc,Ac]at this;refine .via h1 h2 (fun he=> ?_) (ih (tl hs));obtain⟨q1,q2⟩:=h3 he;exact⟨by rw [hρ,den_app this.2];exact q1,Hd.ext (τ:=τ) this.1 q2⟩
 | @vptr t g n p x i sz o v ss vs h1 h2 h3 _ ih=>intro hs;have:=hd hs;simp only [SV.sc,Ac]at this;refine .vptr h1 h2 (fun he=> ?_) (ih (tl hs));obtain⟨b,off,len,cap,kk,k,q1,q2,q3,q4,q5,q6,q7⟩:=h3 he;exact⟨b,off,len,cap,kk,k,by rw [hρ,den_app this.1.2];exact q1,Hd.ext (τ:=τ) this.1.1 q2,by rw [hρ,den_app this.2];exact q3,q4,q5,by rw [hρ,den_app this.1.2];exact q6,q7⟩
 |wown h1 h2 h3 h4 h5 h6 _ ih=>exact fun hs=> .wown h1 h2 (by rw [hρ,den_app (hd hs)];exact h3) h4 h5 h6 (ih (tl hs))
 | @lent i _ _ _ h1 _ ih=>exact fun hs=> .lent (by rw [hρ,den_app (x:= .var i) (by simpa [SV.sc,E.sc]using hd hs)];exact h1) (ih (tl hs))
theorem CD.ext {t:Nat} {e:Ad} (h:CD c t e) (hs:e.sc c.ρ.length=true):CD (c.ext τ) t e:=by
 have hρ:(c.ext τ).ρ=c.ρ++τ:=rfl;cases e with
 |box ty g cs=>obtain⟨b,C,h1,h2,h3,h4,h5,h6,h7⟩:=h;exact⟨b,C,h1,h2,h3,h4,h5,h6,h7.ext (by simpa [Ad.sc]using hs)⟩
 |row ety sz g x d=>obtain⟨h1,h2,N,h3,h4,h5⟩:=h;exact⟨h1,h2,N,by rw [hρ,den_app hs];exact h3,h4,h5⟩
 |cc g x=>obtain⟨h1,⟨f,h2,h3⟩,h4⟩:=h;exact⟨h1,⟨f,by rw [hρ,den_app hs];exact h2,h3⟩,h4⟩
 |gd gs e=>exact h
 |dead=>exact h
 |deep e z l g ep x=>obtain⟨h1,h2,h3,h4,h5⟩:=h;exact⟨h1,h2,h3,by rw [hρ,den_app hs];exact h4,h5⟩
 |hol e z l g ep x i o u=>simp only [Ad.sc,Ac]at hs;obtain⟨h1,h2,h3,h4,h5⟩:=h;exact⟨h1,h2,h3,by rw [hρ,den_app hs.1,den_app hs.2];exact h4,h5⟩
theorem xY {ρ:List AV} {e0 e:Ad} (hs:e0.sc ρ.length=true):B0 (ρ++τ) (some e0) e↔B0 ρ (some e0) e:=by
 cases e0 with
 |gd gs x=>simp only [Ad.sc,Ac]at hs;simp only [B0];rw [JX hs.1]
 |_=>simp [B0]
theorem Rel.ext (h:Rel c n sl hp a) (h1: ∀i,(sl i).sc c.ρ.length=true) (h2: ∀t e,hp t=some e→e.sc c.ρ.length=true) (τ:List AV):Rel (c.ext τ) n sl hp a:=by
 have key: ∀t e,B0 (c.ρ++τ) (hp t) e↔B0 c.ρ (hp t) e:=by
  intro t e;cases hh:hp t with
  |none=>exact Iff.rfl
  |some e0=>exact xY (h2 t e0 hh)
 refine⟨h.defers,h.size,⟨h.base.os,h.base.tape,h.base.output,h.base.size,h.base.pins,h.base.block,h.base.pk,h.base.lo⟩,fun i=>(h.dg i).ext (by simpa using h1 i),fun t e hr=> ?_,fun t hn=>h.off t fun e hr=>hn e ((key t e).2 hr),⟨h.gw.nodup,h.gw.c7,h.gw.allow,h.gw.inb⟩,h.cg,h.c8⟩;have C6:=(key t e).1 hr;have he:=h.ents t e C6;cases hh:hp t with
 |none=>rw [hh]at C6;exact C6.elim
 |some e0=>
  have Ec:=h2 t e0 hh;rw [hh]at C6;cases e0 with
  |gd gs x=>
   obtain⟨_,rfl⟩:=C6;simp only [Ad.sc,Ac]at Ec;cases x with
   |gd=>exact he
   |dead=>exact he
   |box=>exact he.ext (by simpa [Ad.sc]using Ec.2)
   |row=>exact he.ext (by simpa [Ad.sc]using Ec.2)
   |cc=>exact he.ext (by simpa [Ad.sc]using Ec.2)
   |deep=>exact he.ext (by simpa [Ad.sc]using Ec.2)
   |hol=>exact he.ext (by simpa [Ad.sc]using Ec.2)
  |_=>simp only [B0]at C6;subst C6;exact he.ext Ec
theorem St.lk {σ:St} (h:σ.sc=true) (i:Nat):(Bd σ i).sc σ.nv=true:=by
 simp only [St.sc,Ac,A9]at h;unfold Bd;cases hi:σ.sl[i]? with
 |none=>simp [SV.sc]
 |some s=>exact h.1 s (List.mem_of_getElem? hi)
theorem St.ku {σ:St} (h:σ.sc=true) (t:Nat) (e:Ad) (he:Aw σ.hp t=some e):e.sc σ.nv=true:=by simp only [St.sc,Ac,A9]at h;exact h.2 _ (Hr he)
theorem Cn.ju {ρ τ:List AV} {q:Cn} (h:q.sc ρ.length=true):q.den (ρ++τ)↔q.den ρ:=by
 cases q<;>simp only [Cn.sc,Ac]at h<;>simp only [Cn.den]
 case dfd=>rw [den_app h]
 case agg=>rw [den_app h]
 case cells=>rw [den_app h]
 case inb=>rw [den_app h.1,den_app h.2]
 case inbS=>rw [den_app h.1,den_app h.2]
 case win=>rw [den_app h.1.1,den_app h.1.2,den_app h.2]
 case winS=>rw [den_app h.1.1,den_app h.1.2,den_app h.2]
 case room=>rw [den_app h.1,den_app h.2]
 case roomS=>rw [den_app h.1,den_app h.2]
 case mkroom=>rw [den_app h]
 case nz=>rw [den_app h]
 case nn=>rw [den_app h]
 case isref=>rw [den_app h]
 case issl=>rw [den_app h]
 case flat=>rw [den_app h]
 case flatS=>rw [den_app h]
 case kinds=>rw [den_app h]
theorem gA:SR c [F6] [Go.undef]:= .gd (fun hg=>by have:=hg (.bool false,true) (by simp);simp [E.den]at this) (fun _=>rfl) .nil
theorem oJ {ρ:List AV} {x:E} {b:Bool} {hs:Gd} (hx:x.den ρ= .bool b) (h:MQ (x, !b) hs=true): ¬A1 ρ hs:=by intro k;have:=pF h k;simp only at this;rw [hx]at this;simp at this
theorem dA {ρ:List AV} {x:E} {b:Bool} {hs:Gd} (hx:x.den ρ= .bool b):A1 ρ (hs.filter fun h=> !(h.1.beq x&&h.2==b))↔A1 ρ hs:=by
 refine⟨fun k g hg=> ?_,fun k g hg=>k g (List.mem_filter.1 hg).1⟩;by_cases hh:(g.1.beq x&&g.2==b)=true
 ·simp only [Ac,beq_iff_eq]at hh;rw [E.ah ρ _ _ hh.1,hx,hh.2]
 ·exact k g (List.mem_filter.2 ⟨hg,by rw [Bool.not_eq_true]at hh;rw [hh];rfl⟩)
theorem SR.j3 {s:SV} {v:Value} {gs:Gd} (h1:A1 c.ρ gs→SR c [s] [v]) (h2: ¬A1 c.ρ gs→v=Go.undef):SR c [Go.Proofs.YtmbknelgbjlhnaaGreat.mkGd gs s] [v]:=by
 cases gs with
 |nil=>exact h1 (D3 _)
 |cons g gs=>exact .gd h1 h2 .nil
theorem SR.gp {x:E} {b:Bool} (hx:x.den c.ρ= .bool b) {s:SV} {v:Value} (h:SR c [s] [v]):SR c [assumeS x b s] [v]:=by
 cases s with
 |gd hs s=>
  simp only [Go.Proofs.YtmbknelgbjlhnaaGreat.assumeS];cases h with
  |gd h1 h2 _=>
   split
   ·rename_i hm;rw [h2 (oJ hx hm)];exact gA
   ·exact SR.j3 (fun k=>h1 ((dA hx).1 k)) (fun k=>h2 fun k'=>k ((dA hx).2 k'))
 |_=>exact h
theorem zz0 (f:Ad→Ad) (l:List (Nat × Ad)) (t:Nat):Aw (l.map fun(t,e)=>(t,f e)) t=(Aw l t).map f:=by
 induction l with
 |nil=>rfl
 |cons p l ih=>
  obtain⟨u,e⟩:=p;simp only [List.map_cons,Aw];split
  ·rfl
  ·exact ih
theorem Rel.gp {x:E} {b:Bool} (hx:x.den c.ρ= .bool b) (h:Rel c n sl hp a):Rel c n (fun i=>assumeS x b (sl i)) (fun t=>(hp t).map (assumeE x b)) a:=by
 have KB: ∀t,(∀e,B0 c.ρ (hp t) e→ ∃gs y,e= .gd gs y∨e= .dead)→(c.G t).top= []∧(c.G t).O= []:=by
  intro t ht;by_cases hh: ∃e,B0 c.ρ (hp t) e
  ·obtain⟨e,he⟩:=hh;obtain⟨gs,y,rfl|rfl⟩:=ht e he
   ·exact h.ents t _ he
   ·exact h.ents t _ he
  ·exact h.off t fun e he=>hh ⟨e,he⟩
 have cases': ∀t,((∀e,B0 c.ρ ((hp t).map (assumeE x b)) e↔B0 c.ρ (hp t) e))∨((hp t).map (assumeE x b)=some .dead∧(c.G t).top= []∧(c.G t).O= []):=by
  intro t;cases hh:hp t with
  |none=>exact .inl fun e=>Iff.rfl
  |some e0=>
   cases e0 with
   |gd hs y=>
    by_cases hm:MQ (x, !b) hs=true
    ·refine .inr ⟨by simp [Go.Proofs.YtmbknelgbjlhnaaGreat.assumeE,hm],KB t fun e he=> ?_⟩;rw [hh]at he;exact absurd he.1 (oJ hx hm)
    ·by_cases hy: ∃gs z,y= .gd gs z
     ·obtain⟨gs,z,rfl⟩:=hy;refine .inr ⟨by simp [Go.Proofs.YtmbknelgbjlhnaaGreat.assumeE,hm],KB t fun e he=> ?_⟩;rw [hh]at he;exact⟨gs,z, .inl he.2.symm⟩
     ·refine .inl fun e=> ?_;have he:assumeE x b (.gd hs y)=Co (hs.filter fun h=> !(h.1.beq x&&h.2==b)) y:=by
       simp only [Go.Proofs.YtmbknelgbjlhnaaGreat.assumeE,hm,Bu,if_false];cases y<;>first|rfl|exact absurd ⟨_,_,rfl⟩ hy
      simp only [Option.map_some,he];show _↔A1 c.ρ hs∧y=e;rw [←dA hx];generalize (hs.filter fun h=> !(h.1.beq x&&h.2==b))=fs;cases fs with
      |nil=>simp only [Co,D3,true_and];cases y<;>first|exact absurd ⟨_,_,rfl⟩ hy|exact Iff.rfl
      |cons g fs=>exact Iff.rfl
   |_=>exact .inl fun e=>Iff.rfl
 refine⟨h.defers,h.size,h.base,fun i=>(h.dg i).gp hx,fun t e hr=> ?_,fun t hn=> ?_,h.gw,h.cg,fun t e he=> ?_⟩
 ·rcases cases' t with hc|⟨hc,h1,h2⟩
  ·exact h.ents t e ((hc e).1 hr)
  ·rw [hc]at hr;have:Ad.dead=e:=hr;subst this;exact⟨h1,h2⟩
 ·rcases cases' t with hc|⟨hc,h1,h2⟩
  ·exact h.off t fun e he=>hn e ((hc e).2 he)
  ·exact⟨h1,h2⟩
 ·cases hh:hp t with
  |none=>rw [hh]at he;cases he
  |some e0=>exact h.c8 t e0 hh
end
theorem dM {σ:St} {d:Option Nat} {s:SV}:Bd (Gw σ d s)=Cb σ.sl.length (Bd σ) d s:=by
 funext i;cases d with
 |none=>simp [Gw,Cb]
 |some d=>
  simp only [Gw,Bd,Cb,Ab,List.getElem?_set];by_cases h:d=i
  ·subst h;by_cases h2:d<σ.sl.length
   ·simp [h2]
   ·simp [h2,List.getElem?_eq_none (Nat.le_of_not_lt h2)]
  ·simp [h]
theorem dF {σ:St} {d:Option Nat} {s:SV}:(Gw σ d s).sl.length=σ.sl.length:=by cases d<;>simp [Gw]
theorem dS {σ:St} {d:Option Nat} {s:SV}:(Gw σ d s).hp=σ.hp:=by cases d<;>rfl
theorem dN {σ:St} {d:Option Nat} {s:SV}:(Gw σ d s).nv=σ.nv:=by cases d<;>rfl
theorem zy9 (l:List (Nat × Ad)) (t:Nat) (e:Ad) (u:Nat):Aw (Kl l t e) u=if u=t then some e else Aw l u:=by
 induction l with
 |nil=>
  simp only [Kl,Aw];by_cases h:t=u
  ·simp [h]
  ·rw [if_neg h,if_neg (Ne.symm h)]
 |cons p l ih=>
  obtain⟨v,f⟩:=p;simp only [Kl];split
  ·rename_i hv;subst hv;simp only [Aw];by_cases h:v=u
   ·simp [h]
   ·rw [if_neg h,if_neg (Ne.symm h),if_neg h]
  ·rename_i hv;simp only [Aw];by_cases h:v=u
   ·subst h;rw [if_pos rfl,if_neg hv,if_pos rfl]
   ·rw [if_neg h,ih,if_neg h]
theorem nO: ∀(ents:List (Nat × Ad)) (l:List (Nat × Ad)),Aw (ents.foldl (fun l (p:Nat × Ad)=>Kl l p.1 p.2) l)=AW (Aw l) ents
 | [],l=>rfl
 |(t,e)::ents,l=>by
  simp only [List.foldl_cons];rw [nO ents];have:Aw (Kl l t e)=fun u=>if u=t then some e else Aw l u:=by funext u;exact zy9 l t e u
  rw [this];rfl
section
variable {P:Program} {sg:BB} {Rt:Nat→List AV→AV→Prop} {ops:Array Oper}
theorem pH {σ:St} {gs:Gd} {o:Oper} {e:AP}:Bd (JU σ gs o e)=Cb σ.sl.length (Bd σ) o.dst (mkGd gs e.val):=by rw [←dM];rfl
theorem pM {σ:St} {gs:Gd} {o:Oper} {e:AP}:Aw (JU σ gs o e).hp=AW (Aw σ.hp) e.bt:=by
 have:(JU σ gs o e).hp=e.bt.foldl (fun l (p:Nat × Ad)=>Kl l p.1 p.2) σ.hp:=by show e.bt.foldl (fun l (p:Nat × Ad)=>Kl l p.1 p.2) (Gw σ o.dst (mkGd gs e.val)).hp=_;rw [dS]
 rw [this,nO]
theorem oP {σ:St} {gs:Gd} {o:Oper} {e:AP}:(JU σ gs o e).sl.length=σ.sl.length:=by show(Gw σ o.dst (mkGd gs e.val)).sl.length=_;rw [dF]
theorem eY {σ:St} {gs:Gd} {o:Oper} {e:AP}:(JU σ gs o e).nv=if e.call.isSome||e.cq.isSome then σ.nv+1 else σ.nv:=by show(if e.call.isSome||e.cq.isSome then(Gw σ o.dst (mkGd gs e.val)).nv+1 else(Gw σ o.dst (mkGd gs e.val)).nv)=_;rw [dN]
theorem fE {R:AV→Prop} {gs:Gd} {k:Tr} {L:LK} {js:List JK} {ρ:List AV}: ∀{cs:List Cn},(cs.foldr (fun c k=> .c6 gs c k) k:Tr).den Rt R L js ρ→(A1 ρ gs→ ∀q∈cs,q.den ρ)∧k.den Rt R L js ρ
 | [],h=>⟨by simp,h⟩
 |c::cs,h=>by
  obtain⟨h1,h2⟩:=h;obtain⟨h3,h4⟩:=fE h2;refine⟨fun hg q hq=> ?_,h4⟩;rcases Ae.1 hq with rfl|hq
  ·exact h1 hg
  ·exact h3 hg q hq
theorem pC {l:List (Nat × Ad)} {R:List Nat} {t:Nat} {e:Ad} (h:Ni l R t=some e):Aw l t=some e:=by
 unfold Ni at h;split at h
 ·exact h
 ·cases h
theorem nL {f:Nat ⊕ E} {as_:EL} {ρ τ:List AV} {r:AV} (h1:(match f with| .inl _=>true| .inr x=>x.sc ρ.length)=true) (h2:as_.sc ρ.length=true):G6 Rt f (as_.den (ρ++τ)) (ρ++τ) r↔G6 Rt f (as_.den ρ) ρ r:=by
 rw [vD h2];cases f with
 |inl f=>exact Iff.rfl
 |inr x=>simp only [G6];rw [den_app h1]
theorem EL.j7 {n:Nat}: ∀{l:List E},l.all (E.sc n)=true→(EL.of l).sc n=true
 | [],_=>rfl
 |x::l,h=>by simp only [List.all_cons,Ac]at h;simp only [EL.of,EL.sc,Ac];exact⟨h.1,EL.j7 h.2⟩
structure HE (F:Fix) (c:Cx) (σ:St) (a:Act) (n m:Nat):Prop where
 w0:c.w0=F.w0
 A:c.A=F.A
 Mu:c.Mu=F.Mu
 nv:c.ρ.length=σ.nv
 len:σ.sl.length=n
 U: ∀t,c.U t→t<m
 rel:Rel c n (Bd σ) (Aw σ.hp) a
theorem HE.ext {F:Fix} {c:Cx} {σ:St} {a:Act} {n m:Nat} (h:HE F c σ a n m) (hs:σ.sc=true) (τ:List AV):Rel (c.ext τ) n (Bd σ) (Aw σ.hp) a:=
 h.rel.ext (fun i=>by rw [h.nv];exact St.lk hs i) (fun t e he=>by rw [h.nv];exact St.ku hs t e he) τ
theorem zEt (AE:Mb P sg Rt) (E4:Ta P sg) {F:Fix} {c:Cx} {σ:St} {a:Act} {n i base:Nat} {o:Oper} {gs:Gd} {e:AP} {k:Tr} {R:AV→Prop} {L:LK} {js:List JK} {Q:Exit→Act→World→Prop} {K:Act→World→Prop}
  (hi:ops[i]?=some o) (hm:HE F c σ a n (base+Bj*i)) (GL:To c.ρ ops o a (some gs)) {Rs:List Nat} (he:Kc P sg (Bd σ) (Ni σ.hp Rs) σ.nv (base+Bj*i) gs o=some e) (Ec:Pc σ.nv (base+Bj*i) σ.hp gs e=true)
  (Qj:(e.call.isSome||e.cq.isSome)=true→σ.sc=true) (hd:(XJ gs e k).den Rt R L js c.ρ)
  (hK: ∀(c':Cx) (a':Act),c.ρ<+:c'.ρ→HE F c' (JU σ gs o e) a' n (base+Bj*(i+1))→k.den Rt R L js c'.ρ→K a' c'.w):wpOp P ops Q i K a c.w:=by
 simp only [Pc,Ac,A9]at Ec;obtain⟨⟨⟨⟨Br,AQ⟩,Hl⟩,iX⟩,Zd⟩:=Ec;have A8:gs≠ []→ ∀t x,(t,x)∈e.bt→base+Bj*i≤t∧t<base+Bj*i+Bj∧ ∃hs y,x= .gd hs y∧Ki gs hs=true:=by
  intro BE t x hx;have:=Zd _ hx;have PL:gs.isEmpty=false:=by cases gs;exact absurd rfl BE;rfl
  simp only [PL,Bool.false_or,Bool.false_and,Bool.or_false,Ac,decide_eq_true_eq]at this;refine⟨this.1.1,this.1.2, ?_⟩;have h3:=this.2;split at h3
  ·exact⟨_,_,rfl,h3⟩
  ·cases h3
 have AS: ∀t,base+Bj*i≤t→t<base+Bj*i+Bj→ ¬c.U t:=fun t h1 _ h3=>by have:=hm.U t h3;omega
 have E9: ∀(τ:List AV),Rel (c.ext τ) n (Bd σ) (Aw σ.hp) a→τ.length=(if e.call.isSome||e.cq.isSome then 1 else 0)→k.den Rt R L js (c.ρ++τ)→(A1 c.ρ gs→ ∀q∈e.c6,q.den c.ρ)→
   (∀cl,e.call=some cl→ ∃r,τ= [r]∧(A1 c.ρ gs→G6 Rt cl.fn ((EL.of cl.args).den c.ρ) c.ρ r))→(∀x,e.cq=some x→τ= [.bool (I7 a o)])→wpOp P ops Q i K a c.w:=by
  intro τ Am hτ hk hc AX Ck;have E6:σ.nv=c.ρ.length:=hm.nv.symm;rw [E6]at Br AQ Hl;have PV: ∀r,τ= [r]→(c.ρ++τ)[σ.nv]?=some r:=by rintro r rfl;rw [E6];simp
  refine qR (c:=c.ext τ) AE hi Am ⟨fun hg=>GL.1 ((JX Br).1 hg),fun hg=>GL.2 fun k=>hg ((JX Br).2 k)⟩ (fun _ _=>rfl) (fun t e h=>pC h) AS he A8 (fun hg q hq=> ?_) (fun cl AA=> ?_) (fun x hx _=>PV _ (Ck x hx)) (fun a' c' AT hr=> ?_)
  ·exact(Cn.ju (AQ q hq)).2 (hc ((JX Br).1 hg) q hq)
  ·obtain⟨r,rfl,h2⟩:=AX cl AA;rw [AA]at Hl;simp only [Ac]at Hl;exact⟨r,PV r rfl,fun hg=>(nL Hl.1 (EL.j7 Hl.2)).2 (h2 ((JX Br).1 hg))⟩
  ·have hρ:c'.ρ=c.ρ++τ:=AT.ρ;refine hK c' a' ⟨τ,hρ.symm⟩ ⟨AT.w0.trans hm.w0,AT.A.trans hm.A,AT.Mu.trans hm.Mu, ?_,by rw [oP];exact hm.len,fun t ht=> ?_, ?_⟩ (by rw [hρ];exact hk)
   ·rw [hρ,eY,AG,hτ,E6];split<;>rfl
   ·have hmul:base+Bj*(i+1)=base+Bj*i+Bj:=by rw [Nat.mul_add];omega
    rw [hmul];rcases AT.U t ht with h|h
    ·have:=hm.U t h;omega
    ·exact h.2
   ·rw [pH,pM,hm.len];exact hr
 unfold XJ at hd;obtain⟨hc,hd⟩:=fE hd;cases AA:e.call with
 |none=>
  simp only [AA]at hd;cases Ck:e.cq with
  |none=>simp only [Ck]at hd;refine E9 [] (by have:=hm.rel;simpa [Cx.ext]using this) (by simp [AA,Ck]) (by simpa using hd) hc (fun cl h=>by rw [AA]at h;cases h) (fun x h=>by rw [Ck]at h;cases h)
  |some x=>simp only [Ck]at hd;have E8:=Qj (by simp [Ck]);refine E9 [.bool (I7 a o)] (hm.ext E8 _) (by simp [Ck]) (hd _ fun hg hb=> ?_) hc (fun cl h=>by rw [AA]at h;cases h) (fun x h=>rfl);exact E4 c n _ _ _ a _ _ o gs e _ x ⟨hm.rel,hg,fun _ _=>rfl,fun t e h=>pC h,fun t h1 h2=>AS t h1 (Nat.lt_of_lt_of_le h2 (Nat.add_le_add_left (by decide) _))⟩ he Ck hb
 |some cl=>
  simp only [AA]at hd;cases Ck:e.cq with
  |some x=>rw [Ck]at iX;simp [AA]at iX
  |none=>simp only [Ck]at hd;obtain⟨r,h1,h2⟩:=hd;have E8:=Qj (by simp [AA]);refine E9 [r] (hm.ext E8 _) (by simp [AA]) h2 hc (fun cl' h=>by rw [AA]at h;cases h;exact⟨r,rfl,h1⟩) (fun x h=>by rw [Ck]at h;cases h)
theorem zza {σ:St} {x:E} {b:Bool} {d:Nat}:Bd (assume x b d σ)=Cb σ.sl.length (fun i=>assumeS x b (Bd σ i)) (some d) (.e (.bool b)):=by
 funext i;simp only [assume,Bd,Cb,Ab,List.getElem?_set,List.length_map,List.getElem?_map];by_cases h:d=i
 ·subst h;by_cases h2:d<σ.sl.length
  ·simp [h2]
  ·simp [h2,List.getElem?_eq_none (Nat.le_of_not_lt h2),assumeS]
 ·simp only [h,false_and,if_false];cases hh:σ.sl[i]?<;>simp [assumeS]
theorem zy1 {σ:St} {x:E} {b:Bool} {d:Nat}:Aw (assume x b d σ).hp=fun t=>(Aw σ.hp t).map (assumeE x b):=by funext t;exact zz0 _ _ _
theorem HE.assume {F:Fix} {c:Cx} {σ:St} {a:Act} {n m:Nat} (h:HE F c σ a n m) {x:E} {b:Bool} (hx:x.den c.ρ= .bool b) {d:Nat} (hd:Bd σ d= .e x):HE F c (Go.Proofs.YtmbknelgbjlhnaaGreat.assume x b d σ) a n m:=by
 refine⟨h.w0,h.A,h.Mu,h.nv, ?_,h.U, ?_⟩
 ·simp only [Go.Proofs.YtmbknelgbjlhnaaGreat.assume,List.length_set,List.length_map];exact h.len
 ·rw [zza,zy1];have hr:=h.rel.gp hx;refine{hr with dg:=fun i=> ?_};unfold Cb;split
  ·rename_i hi;obtain⟨hi,_⟩:=hi;cases hi;have:=h.rel.dg d;rw [hd]at this;generalize a.tmps.getD d Go.undef=v at this;cases this with
   |e h1 h2 _=>exact .e (f:= []) (by rw [hx]at h1;rw [G2 h1 rfl];exact .bool .nil) (by simp) .nil
  ·exact hr.dg i
theorem zy7 (AE:Mb P sg Rt) (E4:Ta P sg) {F:Fix} {base:Nat} {R:AV→Prop} {L:LK} {js:List JK} {Q:Exit→Act→World→Prop} {n:Nat} {next:List Log→St→Option Tr} {i:Nat} {o:Oper} {lg:List Log} {rest:List Nat} (hi:ops[i]?=some o)
  (B2: ∀(lg:List Log) (σ:St) (t:Tr),next lg σ=some t→ ∀(c:Cx) (a:Act),HE F c σ a n (base+Bj*(i+1))→t.den Rt R L js c.ρ→(∀(c':Cx) (a':Act) (σ':St),c.ρ<+:c'.ρ→L js .normal σ' c'.ρ→FC F c'.ρ σ' a' c'.w→Q .normal a' c'.w)→wpOps P ops Q rest a c.w):
  ∀(m:Nat) (σ:St) (t:Tr),Tg P sg ops false base next i o lg m σ=some t→
  ∀(c:Cx) (a:Act),HE F c σ a n (base+Bj*i)→t.den Rt R L js c.ρ→(∀(c':Cx) (a':Act) (σ':St),c.ρ<+:c'.ρ→L js .normal σ' c'.ρ→FC F c'.ρ σ' a' c'.w→Q .normal a' c'.w)→wpOps P ops Q (i::rest) a c.w:=by
 have LW:base+Bj*i≤base+Bj*(i+1):=by rw [Nat.mul_add];omega
 have try_: ∀(fail:Unit→Option Tr) (σ:St) (t:Tr),QB P sg ops false base next i o lg fail σ=some t→ ∀(c:Cx) (a:Act),HE F c σ a n (base+Bj*i)→t.den Rt R L js c.ρ→(∀(c':Cx) (a':Act) (σ':St),c.ρ<+:c'.ρ→L js .normal σ' c'.ρ→FC F c'.ρ σ' a' c'.w→Q .normal a' c'.w)→
   (fail ()=some t→wpOps P ops Q (i::rest) a c.w)→wpOps P ops Q (i::rest) a c.w:=by
  intro fail σ t ht c a hm hd hq PR;unfold QB at ht;cases FP:Mx σ ops o with
  |none=>rw [FP]at ht;cases ht
  |some r=>
   have GL:=eG (c:=c) (a:=a) FP (fun j want d _ _=>hm.rel.dg d);rw [FP]at ht;cases r with
   |none=>simp only at ht;rw [wpOps_cons];unfold wpOp;simp only [hi];rw [if_neg (by simp [show Region.wanted o (yielded ops a.tmps)=false from GL])];refine B2 lg _ t ht c _ ⟨hm.w0,hm.A,hm.Mu,by rw [dN];exact hm.nv,by rw [dF];exact hm.len,fun t ht=>Nat.lt_of_lt_of_le (hm.U t ht) LW, ?_⟩ hd hq;rw [dM,dS,hm.len];exact hm.rel.put gA o.dst
   |some gs=>
    simp only at ht;split at ht
    ·rename_i e he;split at ht
     ·cases ht
     ·rename_i Ax;split at ht
      ·cases ht
      ·rename_i k hk;simp only [Ab]at ht;subst ht;simp only [Bool.false_and,Bool.false_or,Bool.not_false,Bool.true_and,Bool.or_eq_true,Bool.not_eq_true',Ac,not_or,Bool.not_eq_false]at Ax;rw [wpOps_cons];refine zEt AE E4 hi hm GL he Ax.1 (fun hh=> ?_) hd fun c' a' hp EY Bx=>B2 _ _ k hk c' a' EY Bx fun c'' a'' σ' hp'=>hq c'' a'' σ' (hp.trans hp');have:=Ax.2;simp only [Bool.or_eq_true]at hh;simpa [hh]using this
    ·exact PR ht
 intro m
 induction m with
 |zero=>exact fun σ t ht c a hm hd hq=>try_ _ σ t ht c a hm hd hq fun h=>by cases h
 |succ m ih=>
  intro σ t ht c a hm hd hq;refine try_ _ σ t ht c a hm hd hq fun h=> ?_;split at h
  ·rename_i d _ _;split at h
   ·rename_i x TC;split at h
    ·rename_i k1 k0 Hj YJ;simp only [Ab]at h;subst h;obtain⟨tt,h1,h2,h3⟩:=hd;cases tt with
     |true=>exact ih _ k1 Hj c a (hm.assume h1 TC) (h2 rfl) hq
     |false=>exact ih _ k0 YJ c a (hm.assume h1 TC) (h3 rfl) hq
    ·cases h
   ·cases h
  ·cases h
theorem jF (AE:Mb P sg Rt) (E4:Ta P sg) {F:Fix} {base:Nat} {R:AV→Prop} {L:LK} {js:List JK} {Q:Exit→Act→World→Prop} {n:Nat}: ∀(len i:Nat) (lg:List Log) (σ:St) (t:Tr),i+len=ops.size→Kj P sg ops false base (List.range' i len) lg σ=some t→
  ∀(c:Cx) (a:Act),HE F c σ a n (base+Bj*i)→t.den Rt R L js c.ρ→(∀(c':Cx) (a':Act) (σ':St),c.ρ<+:c'.ρ→L js .normal σ' c'.ρ→FC F c'.ρ σ' a' c'.w→Q .normal a' c'.w)→wpOps P ops Q (List.range' i len) a c.w
 |0,i,lg,σ,t,hl,ht,c,a,hm,hd,hq=>by
  simp only [List.range'_zero,Kj,Bool.false_and,Bu,if_false,Ab]at ht ⊢;subst ht;refine hq c a _ (List.prefix_refl _) hd ⟨c,rfl,rfl,hm.w0,hm.A,hm.Mu,hm.nv,fun t ht=> ?_, ?_⟩
  ·have:=hm.U t ht;have h9:i=ops.size:=by omega
   subst h9;exact this
  ·have:=hm.rel;rw [←hm.len]at this;exact this
 |len+1,i,lg,σ,t,hl,ht,c,a,hm,hd,hq=>by
  rw [List.range'_succ]at ht ⊢;unfold Kj at ht;obtain⟨o,hi⟩: ∃o,ops[i]?=some o:=⟨ops[i]'(by omega),by simp [show i<ops.size by omega]⟩
  rw [hi]at ht;simp only at ht;exact zy7 AE E4 hi (fun lg σ t ht c a=>jF AE E4 (n:=n) len (i+1) lg σ t (by omega) ht c a) 4 σ t ht c a hm hd hq
end
def ZK (l:List Oper) (bs:List Nat):Prop:=bs.length=l.length∧ ∀(j:Nat) (o:Oper),l[j]?=some o→ ∀i,((bs[j]?).getD 0).testBit i=true→ ∃e∈o.after.toList,Region.binds .any e=true∧(i=e.on∨(e.on<j∧((bs[e.on]?).getD 0).testBit i=true))
theorem mD (acc:List Nat) (i:Nat): ∀(es:List Edge) (s:Nat),(es.foldl (fun s e=>if Region.binds .any e then s|||2^e.on|||(acc[e.on]?).getD 0 else s) s).testBit i=true→
  s.testBit i=true∨ ∃e∈es,Region.binds .any e=true∧(i=e.on∨((acc[e.on]?).getD 0).testBit i=true)
 | [],s,h=> .inl h
 |e::es,s,h=>by
  simp only [List.foldl_cons]at h;rcases mD acc i es _ h with h|⟨e',h1,h2⟩
  ·split at h
   ·rename_i hb;simp only [Nat.testBit_or,Nat.testBit_two_pow,Bool.or_eq_true,decide_eq_true_eq]at h;rcases h with(h|h)|h
    ·exact .inl h
    ·exact .inr ⟨e,by simp,hb, .inl h.symm⟩
    ·exact .inr ⟨e,by simp,hb, .inr h⟩
   ·exact .inl h
  ·exact .inr ⟨e',by simp [h1],h2⟩
theorem n7: ∀(os pre:List Oper) (acc:List Nat),ZK pre acc→ZK (pre++os) (ID os acc)
 | [],pre,acc,h=>by simpa [ID]using h
 |o::os,pre,acc,h=>by
  obtain⟨hl,hb⟩:=h;have:=n7 os (pre++ [o]) (acc++ [fR acc o]) ⟨by simp [hl],fun j o' ho i hi=> ?_⟩
  ·simpa [ID]using this
  ·have AB: ∀k,k<acc.length→((acc++ [fR acc o])[k]?).getD 0=(acc[k]?).getD 0:=fun k hk=>by rw [List.getElem?_append_left hk]
   by_cases hj:j<pre.length
   ·rw [List.getElem?_append_left hj]at ho;rw [AB j (by omega)]at hi;obtain⟨e,h1,h2,h3⟩:=hb j o' ho i hi;exact⟨e,h1,h2,h3.imp id fun h=>⟨h.1,by rw [AB _ (by omega)];exact h.2⟩⟩
   ·rw [List.getElem?_append_right (by omega)]at ho;have sD:j-pre.length=0:=by
     cases hh:j-pre.length with
     |zero=>rfl
     |succ k=>rw [hh]at ho;simp at ho
    rw [sD]at ho;simp at ho;subst ho;have YF:j=acc.length:=by omega
    rw [YF,List.getElem?_append_right (Nat.le_refl _)]at hi;simp only [Nat.sub_self,List.getElem?_cons_zero,Option.getD_some]at hi;rcases mD acc i _ 0 hi with h|⟨e,h1,h2,h3⟩
    ·simp at h
    ·refine⟨e,h1,h2,h3.imp id fun h=> ?_⟩;have he:e.on<acc.length:=by
      rcases Nat.lt_or_ge e.on acc.length with hh|hh
      ·exact hh
      ·rw [List.getElem?_eq_none hh]at h;simp at h
     exact⟨by omega,by rw [AB _ he];exact h⟩
def S6 (ops:Array Oper) (S:Nat→Bool):Prop:= ∀k o,S k=true→ops[k]?=some o→ ∀e∈o.after.toList,Region.binds .any e=true→S e.on=true
theorem kG (ops:Array Oper):ZK ops.toList (ID ops.toList []):=by have:=n7 ops.toList [] [] ⟨rfl,by simp⟩;simpa using this
theorem nK {ops:Array Oper} {S:Nat→Bool} (hS:S6 ops S): ∀(k i:Nat),S k=true→k<ops.size→(((ID ops.toList [])[k]?).getD 0).testBit i=true→S i=true:=by
 intro k
 induction k using Nat.strongRecOn with
 |_ k ih=>
  intro i hk AB hb;have ho:ops.toList[k]?=some ops[k]:=by simp [AB]
  obtain⟨e,h1,h2,h3⟩:=(kG ops).2 k _ ho i hb;have Qe:=hS k ops[k] hk (by simp [AB]) e h1 h2;rcases h3 with rfl|⟨h3,h4⟩
  ·exact Qe
  ·exact ih e.on h3 i Qe (by omega) h4
theorem vG {ops:Array Oper} {S:Nat→Bool} (hS:S6 ops S) {j i:Nat} {o:Oper} (ho:ops[j]?=some o) (hr: ∀e∈o.after.toList,Region.binds .any e=true→S e.on=true) (hb:(((ID ops.toList [])[j]?).getD 0).testBit i=true):S i=true:=by
 have AB:j<ops.size:=(Array.getElem?_eq_some_iff.1 ho).1;obtain⟨e,h1,h2,h3⟩:=(kG ops).2 j o (by simpa using ho) i hb;have Qe:=hr e h1 h2;rcases h3 with rfl|⟨h3,h4⟩
 ·exact Qe
 ·exact nK hS e.on i Qe (by omega) h4
theorem zzd {ops:Array Oper} {S:Nat→Bool} (hS:S6 ops S) {j i:Nat} {o:Oper} (ho:ops[j]?=some o) (hi:i<ops.size) (hj:S j=false) (hr: ∀e∈o.after.toList,Region.binds .any e=true→S e.on=true) (BE:i≠j) (Jx:Ic (ID ops.toList []) i j=true):S i=decide (i<j):=by
 unfold Ic at Jx;split at Jx
 ·rename_i h;rw [vG hS ho hr Jx];simp [h]
 ·rename_i h;cases hs:S i with
  |false=>simp [h]
  |true=>have:=nK hS i j hs hi Jx;rw [hj]at this;cases this
structure Rec where
 i:Nat
 o:Oper
 σ:St
 r:Option (Gd × AP)
def Rec.next (x:Rec):St:=match x.r with|none=>Gw x.σ x.o.dst F6|some (gs,e)=>JU x.σ gs x.o e
def Rec.val (x:Rec):SV:=match x.r with|none=>F6|some (gs,e)=>mkGd gs e.val
def Rec.bt (x:Rec):List (Nat × Ad):=match x.r with|none=> []|some (_,e)=>e.bt
def kL (P:Program) (sg:BB) (Rt:Nat→List AV→AV→Prop) (ops:Array Oper) (base:Nat) (ρ:List AV) (x:Rec):Prop:=
 ops[x.i]?=some x.o∧match x.r with
  |none=>Mx x.σ ops x.o=some none
  |some (gs,e)=>Mx x.σ ops x.o=some (some gs)∧Kc P sg (Bd x.σ) (Ni x.σ.hp (SU x.σ gs x.o)) x.σ.nv (base+Bj*x.i) gs x.o=some e∧e.cq=none∧Pc x.σ.nv (base+Bj*x.i) x.σ.hp gs e=true∧
   (A1 ρ gs→ ∀q∈e.c6,q.den ρ)∧ ∀cl,e.call=some cl→ ∃r,ρ[x.σ.nv]?=some r∧(A1 ρ gs→G6 Rt cl.fn ((EL.of cl.args).den ρ) ρ r)
def Dl:Nat→St→List Rec→St→Prop
 |_,σ, [],σ'=>σ=σ'
 |i,σ,x::xs,σ'=>x.i=i∧x.σ=σ∧Dl (i+1) x.next xs σ'
def Rec.log (x:Rec):Option Log:=x.r.map fun(gs,e)=>⟨x.i,SU x.σ gs x.o,e.bt.map (·.1)⟩
theorem eJ {P:Program} {sg:BB} {Rt:Nat→List AV→AV→Prop} {ops:Array Oper} {base:Nat} {R:AV→Prop} {L:LK} {js:List JK}: ∀(len i:Nat) (lg:List Log) (σ:St) (t:Tr) (ρ:List AV),i+len=ops.size→
  Kj P sg ops true base (List.range' i len) lg σ=some t→t.den Rt R L js ρ→ρ.length=σ.nv→
  ∃(τ:List AV) (xs:List Rec) (σ':St) (lg':List Log),Dl i σ xs σ'∧xs.length=len∧(∀x∈xs,kL P sg Rt ops base (ρ++τ) x)∧(ρ++τ).length=σ'.nv∧L js .normal {σ' with nx:=base+Bj*ops.size} (ρ++τ)∧XR ops lg'=true∧(∀y∈lg,y∈lg')∧ ∀x∈xs,∀y,x.log=some y→y∈lg'
 |0,i,lg,σ,t,ρ,hl,ht,hd,hn=>by
  simp only [List.range'_zero,Kj,Bool.true_and]at ht;split at ht
  ·cases ht
  ·rename_i TA;simp only [Ab]at ht;subst ht;exact⟨[], [],σ,lg,rfl,rfl,by simp,by simpa using hn,by simpa [Tr.den]using hd,by simpa using TA,fun y hy=>hy,by simp⟩
 |len+1,i,lg,σ,t,ρ,hl,ht,hd,hn=>by
  rw [List.range'_succ]at ht;unfold Kj at ht;obtain⟨o,hi⟩: ∃o,ops[i]?=some o:=⟨ops[i]'(by omega),by simp [show i<ops.size by omega]⟩
  rw [hi]at ht;simp only at ht;unfold Tg QB at ht;cases FP:Mx σ ops o with
  |none=>rw [FP]at ht;cases ht
  |some r=>
   rw [FP]at ht;cases r with
   |none=>
    simp only at ht;obtain⟨τ,xs,σ',lg',h1,h2,h3,h4,h5,h6,h7,h8⟩:=eJ len (i+1) lg _ t ρ (by omega) ht hd (by rw [dN];exact hn);refine⟨τ,⟨i,o,σ,none⟩::xs,σ',lg',⟨rfl,rfl,h1⟩,by simp [h2],fun x hx=> ?_,h4,h5,h6,h7,fun x hx y hy=> ?_⟩
    ·rcases Ae.1 hx with rfl|hx
     ·exact⟨hi,FP⟩
     ·exact h3 x hx
    ·rcases Ae.1 hx with rfl|hx
     ·simp [Rec.log]at hy
     ·exact h8 x hx y hy
   |some gs=>
    simp only at ht;split at ht
    ·rename_i e he;split at ht
     ·cases ht
     ·rename_i Ax;simp only [Bool.true_and,Bool.not_true,Bool.false_and,Bool.or_false,Bool.or_eq_true,Bool.not_eq_true',not_or,Bool.not_eq_false]at Ax;have Ck:e.cq=none:=by cases hh:e.cq with|none=>rfl|some x=>rw [hh]at Ax;simp at Ax
      split at ht
      ·cases ht
      ·rename_i k hk;simp only [Ab]at ht;subst ht;have Ec:=Ax.2;simp only [Pc,Ac,A9]at Ec;obtain⟨⟨⟨⟨Br,AQ⟩,Hl⟩,_⟩,_⟩:=Ec;rw [←hn]at Br AQ Hl;unfold XJ at hd;obtain⟨hc,hd⟩:=fE hd;simp only [Ck]at hd;obtain⟨τ0,tS,AX,Bx⟩: ∃τ0:List AV,(ρ++τ0).length=(JU σ gs o e).nv∧(∀cl,e.call=some cl→ ∃r,τ0= [r]∧(A1 ρ gs→G6 Rt cl.fn ((EL.of cl.args).den ρ) ρ r))∧k.den Rt R L js (ρ++τ0):=by
        cases AA:e.call with
        |none=>rw [AA]at hd;exact⟨[],by rw [eY];simp [AA,Ck,hn],by simp,by simpa using hd⟩
        |some cl=>rw [AA]at hd;obtain⟨r,h1,h2⟩:=hd;exact⟨[r],by rw [eY];simp [AA,hn],fun cl' h=>by cases h;exact⟨r,rfl,h1⟩,h2⟩
       obtain⟨τ,xs,σ',lg',h1,h2,h3,h4,h5,h6,h7,h8⟩:=eJ len (i+1) _ _ k (ρ++τ0) (by omega) hk Bx tS;have Yd:ρ++τ0++τ=ρ++(τ0++τ):=List.append_assoc ..;rw [Yd]at h3 h4 h5;refine⟨τ0++τ,⟨i,o,σ,some (gs,e)⟩::xs,σ',lg',⟨rfl,rfl,h1⟩,by simp [h2],fun x hx=> ?_,h4,h5,h6,fun y hy=>h7 y (by simp [hy]),fun x hx y hy=> ?_⟩
       ·rcases Ae.1 hx with rfl|hx
        ·refine⟨hi,FP,he,Ck,Ax.2,fun hg q hq=>(Cn.ju (AQ q hq)).2 (hc ((JX Br).1 hg) q hq),fun cl AA=> ?_⟩;obtain⟨r,hr,h2⟩:=AX cl AA;rw [AA]at Hl;simp only [Ac]at Hl;subst hr;exact⟨r,by simp only;rw [←hn];simp,fun hg=>(nL Hl.1 (EL.j7 (by simpa using Hl.2))).2 (h2 ((JX Br).1 hg))⟩
        ·exact h3 x hx
       ·rcases Ae.1 hx with rfl|hx
        ·simp only [Rec.log,Option.map_some,Ab]at hy;subst hy;exact h7 _ (by simp)
        ·exact h8 x hx y hy
    ·cases ht
def Fe (n:Nat) (sl0:Nat→SV) (xs:List Rec) (S:Nat→Bool):Nat→SV:=xs.foldl (fun sl x=>if S x.i then Cb n sl x.o.dst x.val else sl) sl0
def FT (hp0:Nat→Option Ad) (xs:List Rec) (S:Nat→Bool):Nat→Option Ad:=xs.foldl (fun hp x=>if S x.i then AW hp x.bt else hp) hp0
section
variable {n:Nat} {S S':Nat→Bool} {d t:Nat}
theorem Sh: ∀(xs:List Rec) {sl sl':Nat→SV},sl d=sl' d→(∀x∈xs,x.o.dst=some d→S x.i=S' x.i)→Fe n sl xs S d=Fe n sl' xs S' d
 | [],_,_,h,_=>h
 |x::xs,sl,sl',h,hs=>by
  refine Sh xs (sl:=if S x.i then Cb n sl x.o.dst x.val else sl) (sl':=if S' x.i then Cb n sl' x.o.dst x.val else sl') ?_ fun y hy=>hs y (by simp [hy]);by_cases hd:x.o.dst=some d
  ·rw [←hs x (by simp) hd];split
   ·simp only [Cb,hd,true_and];rw [h]
   ·exact h
  ·have hu: ∀sl:Nat→SV,Cb n sl x.o.dst x.val d=sl d:=fun sl=>by simp [Cb,hd]
   have h1:(if S x.i then Cb n sl x.o.dst x.val else sl) d=sl d:=by split;exact hu sl;rfl
   have h2:(if S' x.i then Cb n sl' x.o.dst x.val else sl') d=sl' d:=by split;exact hu sl';rfl
   rw [h1,h2,h]
theorem eP (xs:List Rec) {sl:Nat→SV} (hs: ∀x∈xs,x.o.dst=some d→S x.i=false):Fe n sl xs S d=sl d:=by
 have h1:=Sh (n:=n) (S:=S) (S':=fun _=>false) xs (sl:=sl) (sl':=sl) (d:=d) rfl hs;rw [h1];clear h1 hs
 induction xs generalizing sl with
 |nil=>rfl
 |cons x xs ih=>exact ih
theorem gR (hd:n≤d): ∀(xs:List Rec) {sl:Nat→SV},Fe n sl xs S d=sl d
 | [],_=>rfl
 |x::xs,sl=>by
  have:=gR hd xs (sl:=if S x.i then Cb n sl x.o.dst x.val else sl);refine Eq.trans this ?_;split
  ·simp only [Cb];rw [if_neg (by omega)]
  ·rfl
theorem jO {y:Rec} (hd:d<n) (hy:y.o.dst=some d) (hS:S y.i=true): ∀(xs:List Rec) {sl:Nat→SV},y∈xs→(∀x∈xs,x≠y→x.o.dst≠some d)→Fe n sl xs S d=y.val
 | [],_,h,_=>by simp at h
 |x::xs,sl,h,hu=>by
  by_cases hm:y∈xs
  ·exact jO hd hy hS xs (sl:=if S x.i then Cb n sl x.o.dst x.val else sl) hm fun z hz=>hu z (by simp [hz])
  ·have hx:y=x:=by rcases Ae.1 h with h|h;exact h;exact absurd h hm
   subst hx;have:=eP (n:=n) (S:=S) (d:=d) xs (sl:=Cb n sl y.o.dst y.val) (fun z hz M9=>absurd M9 (hu z (by simp [hz]) (fun hh=>hm (hh▸hz))));show Fe n (if S y.i then Cb n sl y.o.dst y.val else sl) xs S d=_;rw [if_pos hS,this];simp [Cb,hy,hd]
theorem nT {hp hp':Nat→Option Ad} {l:List (Nat × Ad)} (h:hp t=hp' t):AW hp l t=AW hp' l t:=by
 induction l generalizing hp hp' with
 |nil=>exact h
 |cons p l ih=>
  refine ih ?_;show(if t=p.1 then some p.2 else hp t)=(if t=p.1 then some p.2 else hp' t)
  rw [h]
theorem zxz {hp hp':Nat→Option Ad} {l:List (Nat × Ad)} (h:t∈l.map (·.1)):AW hp l t=AW hp' l t:=by
 induction l generalizing hp hp' with
 |nil=>simp at h
 |cons p l ih=>
  by_cases hm:t∈l.map (·.1)
  ·exact ih hm
  ·have ht:t=p.1:=by simp only [List.map_cons,Ae]at h;exact h.resolve_right hm
   refine nT (l:=l) ?_;show(if t=p.1 then some p.2 else hp t)=(if t=p.1 then some p.2 else hp' t)
   rw [if_pos ht,if_pos ht]
theorem eR {hp:Nat→Option Ad} {l:List (Nat × Ad)} (h:t∉l.map (·.1)):AW hp l t=hp t:=
 JV fun e he=>h (List.mem_map.2 ⟨_,he,rfl⟩)
theorem Sf: ∀(xs:List Rec) {hp hp':Nat→Option Ad},hp t=hp' t→(∀x∈xs,t∈x.bt.map (·.1)→S x.i=S' x.i)→FT hp xs S t=FT hp' xs S' t
 | [],_,_,h,_=>h
 |x::xs,hp,hp',h,hs=>by
  refine Sf xs (hp:=if S x.i then AW hp x.bt else hp) (hp':=if S' x.i then AW hp' x.bt else hp') ?_ fun y hy=>hs y (by simp [hy]);by_cases hd:t∈x.bt.map (·.1)
  ·rw [←hs x (by simp) hd];split
   ·exact nT h
   ·exact h
  ·have h1:(if S x.i then AW hp x.bt else hp) t=hp t:=by split;exact eR hd;rfl
   have h2:(if S' x.i then AW hp' x.bt else hp') t=hp' t:=by split;exact eR hd;rfl
   rw [h1,h2,h]
theorem fG (xs:List Rec) {hp:Nat→Option Ad} (hs: ∀x∈xs,t∈x.bt.map (·.1)→S x.i=false):FT hp xs S t=hp t:=by
 have h1:=Sf (S:=S) (S':=fun _=>false) xs (hp:=hp) (hp':=hp) (t:=t) rfl hs;rw [h1];clear h1 hs
 induction xs generalizing hp with
 |nil=>rfl
 |cons x xs ih=>exact ih
end
section
variable {n:Nat} {S:Nat→Bool} {d t:Nat}
theorem Rec.kp (x:Rec):Bd x.next=Cb x.σ.sl.length (Bd x.σ) x.o.dst x.val:=by
 obtain⟨i,o,σ,r⟩:=x;cases r with
 |none=>exact dM
 |some ge=>exact pH
theorem Rec.kf (x:Rec):Aw x.next.hp=AW (Aw x.σ.hp) x.bt:=by
 obtain⟨i,o,σ,r⟩:=x;cases r with
 |none=>simp only [Rec.next,Rec.bt,dS];rfl
 |some ge=>exact pM
theorem Rec.jz (x:Rec):x.next.sl.length=x.σ.sl.length:=by
 obtain⟨i,o,σ,r⟩:=x;cases r with
 |none=>exact dF
 |some ge=>exact oP
theorem Dl.range: ∀{xs:List Rec} {i:Nat} {σ σ':St},Dl i σ xs σ'→ ∀x∈xs,i≤x.i∧x.i<i+xs.length
 | [],_,_,_,_,x,hx=>by simp at hx
 |y::xs,i,σ,σ',h,x,hx=>by
  rcases Ae.1 hx with rfl|hx
  ·have:=h.1;simp only [AL];omega
  ·have:=Dl.range h.2.2 x hx;simp only [AL];omega
theorem Dl.ex: ∀{xs:List Rec} {i:Nat} {σ σ':St},Dl i σ xs σ'→ ∀j,i≤j→j<i+xs.length→ ∃x∈xs,x.i=j
 | [],i,_,_,_,j,h1,h2=>by simp at h2;omega
 |y::xs,i,σ,σ',h,j,h1,h2=>by
  by_cases hj:j=i
  ·exact⟨y,by simp,by rw [hj];exact h.1⟩
  ·simp only [AL]at h2;obtain⟨x,hx,he⟩:=Dl.ex h.2.2 j (by omega) (by omega);exact⟨x,by simp [hx],he⟩
theorem Dl.inj: ∀{xs:List Rec} {i:Nat} {σ σ':St},Dl i σ xs σ'→ ∀x∈xs,∀y∈xs,x.i=y.i→x=y
 | [],_,_,_,_,x,hx,_,_,_=>by simp at hx
 |z::xs,i,σ,σ',h,x,hx,y,hy,he=>by
  have hz:=h.1;rcases Ae.1 hx with h1|h1<;>rcases Ae.1 hy with h2|h2
  ·rw [h1,h2]
  ·subst h1;have:=(Dl.range h.2.2 y h2).1;omega
  ·subst h2;have:=(Dl.range h.2.2 x h1).1;omega
  ·exact Dl.inj h.2.2 x h1 y h2 he
theorem Dl.sl: ∀{xs:List Rec} {i:Nat} {σ σ':St},Dl i σ xs σ'→σ.sl.length=n→(∀x∈xs,x.σ.sl.length=n∧ ∀d,Bd x.σ d=Fe n (Bd σ) xs (fun k=>decide (k<x.i)) d)∧σ'.sl.length=n∧Bd σ'=Fe n (Bd σ) xs fun _=>true
 | [],i,σ,σ',h,hn=>by have h:σ=σ':=h;subst h;exact⟨by simp,hn,rfl⟩
 |y::xs,i,σ,σ',h,hn=>by
  obtain⟨h1,h2,h3⟩:=h;subst h2;obtain⟨q1,q2,q3⟩:=Dl.sl h3 (by rw [y.jz];exact hn);rw [y.kp,hn]at q1 q3;refine⟨fun x hx=> ?_,q2,q3⟩;rcases Ae.1 hx with rfl|hx
  ·refine⟨hn,fun d=>(eP _ fun z hz _=> ?_).symm⟩;rcases Ae.1 hz with rfl|hz
   ·simp
   ·have:=(Dl.range h3 z hz).1;simp only [decide_eq_false_iff_not];omega
  ·refine⟨(q1 x hx).1,fun d=> ?_⟩;rw [(q1 x hx).2 d];have:=(Dl.range h3 x hx).1;show _=Fe n (if decide (y.i<x.i)then Cb n (Bd y.σ) y.o.dst y.val else Bd y.σ) xs (fun k=>decide (k<x.i)) d;rw [if_pos (by simp only [decide_eq_true_eq];omega)]
theorem Dl.hp: ∀{xs:List Rec} {i:Nat} {σ σ':St},Dl i σ xs σ'→(∀x∈xs,∀t,Aw x.σ.hp t=FT (Aw σ.hp) xs (fun k=>decide (k<x.i)) t)∧Aw σ'.hp=FT (Aw σ.hp) xs fun _=>true
 | [],i,σ,σ',h=>by have h:σ=σ':=h;subst h;exact⟨by simp,rfl⟩
 |y::xs,i,σ,σ',h=>by
  obtain⟨h1,h2,h3⟩:=h;subst h2;obtain⟨q1,q3⟩:=Dl.hp h3;rw [y.kf]at q1 q3;refine⟨fun x hx=> ?_,q3⟩;rcases Ae.1 hx with rfl|hx
  ·refine fun d=>(fG _ fun z hz _=> ?_).symm;rcases Ae.1 hz with rfl|hz
   ·simp
   ·have:=(Dl.range h3 z hz).1;simp only [decide_eq_false_iff_not];omega
  ·intro t;rw [q1 x hx t];have:=(Dl.range h3 x hx).1;show _=FT (if decide (y.i<x.i)then AW (Aw y.σ.hp) y.bt else Aw y.σ.hp) xs (fun k=>decide (k<x.i)) t;rw [if_pos (by simp only [decide_eq_true_eq];omega)]
theorem kC {y:Rec} {Y5:Nat→Option Ad} (hS:S y.i=true) (ht:t∈y.bt.map (·.1)): ∀{xs:List Rec} {i:Nat} {σ σ':St} {hp0:Nat→Option Ad},Dl i σ xs σ'→y∈xs→(∀x∈xs,x.i≠y.i→t∈x.bt.map (·.1)→S x.i=decide (x.i<y.i))→FT hp0 xs S t=AW Y5 y.bt t
 | [],_,_,_,_,_,h,_=>by simp at h
 |x::xs,i,σ,σ',hp0,hc,hm,hs=>by
  by_cases hx:y=x
  ·subst hx;have:=fG (S:=S) (t:=t) xs (hp:=AW hp0 y.bt) (fun z hz M9=>by
    have AB:=(Dl.range hc.2.2 z hz).1;have h1:=hc.1;rw [hs z (by simp [hz]) (by omega) M9];simp only [decide_eq_false_iff_not];omega)
   show FT (if S y.i then AW hp0 y.bt else hp0) xs S t=_;rw [if_pos hS,this];exact zxz ht
  ·have EY:y∈xs:=by rcases Ae.1 hm with h|h;exact absurd h hx;exact h
   exact kC hS ht (hp0:=if S x.i then AW hp0 x.bt else hp0) hc.2.2 EY fun z hz=>hs z (by simp [hz])
end
theorem n8 {α:Type} {p p':α→Bool}: ∀(l:List α),(∀k∈l,p' k=true→p k=true)→(∃j∈l,p j=true∧p' j=false)→(l.filter p').length<(l.filter p).length
 | [],_,h=>by obtain⟨j,hj,_⟩:=h;simp at hj
 |x::l,hs,h=>by
  have hle:(l.filter p').length≤(l.filter p).length:=by
   have: ∀(l:List α),(∀k∈l,p' k=true→p k=true)→(l.filter p').length≤(l.filter p).length:=by
    intro l
    induction l with
    |nil=>intro _;simp
    |cons y l ih=>
     intro h;have:=ih fun k hk=>h k (by simp [hk]);have hy:=h y (by simp);cases h1:p' y with
     |false=>
      cases h2:p y with
      |false=>simpa [h1,h2]using this
      |true=>simp only [List.filter_cons,h1,h2,Bu,if_false,if_true,AL];omega
     |true=>simpa [h1,hy h1]using this
   exact this l fun k hk=>hs k (by simp [hk])
  obtain⟨j,hj,h1,h2⟩:=h;rcases Ae.1 hj with rfl|hj
  ·simp only [List.filter_cons,h1,h2,Bu,if_false,if_true,AL];omega
  ·have:=n8 l (fun k hk=>hs k (by simp [hk])) ⟨j,hj,h1,h2⟩;have hx:=hs x (by simp);cases h3:p' x with
   |false=>
    cases h4:p x with
    |false=>simpa [h3,h4]using this
    |true=>simp only [List.filter_cons,h3,h4,Bu,if_false,if_true,AL];omega
   |true=>simpa [h3,hx h3]using this
section
variable {ops:Array Oper} {listed:Array Bool}
theorem zzB (hb: ∀j o,ops[j]?=some o→ ∀e∈o.after.toList,Region.binds .any e=true→e.on<j) (B3:listed.size=ops.size) (hr:Region.ready .any ops listed= []): ∀k,k<ops.size→listed.getD k true=true:=by
 intro k
 induction k using Nat.strongRecOn with
 |_ k ih=>
  intro hk;cases hs:listed.getD k true with
  |true=>rfl
  |false=>
   have:k∈Region.ready .any ops listed:=mem_ready.2 ⟨hs,ops[k],by simp [hk],fun e he Jo=>by
    have AB:=hb k ops[k] (by simp [hk]) e (by simpa using he) Jo;have:=ih e.on AB (by omega);have h2:e.on<listed.size:=by omega
    simp only [Array.getD_eq_getD_getElem?,Array.getElem?_eq_getElem h2,Option.getD_some]at this ⊢;exact this⟩
   rw [hr]at this;cases this
theorem wU (B3:listed.size=ops.size) {j:Nat} (hj:j<ops.size) (k:Nat):(listed.setIfInBounds j true).getD k true=(decide (k=j)||listed.getD k true):=by
 by_cases h:j=k
 ·subst h;simp [Array.getD_eq_getD_getElem?,show j<listed.size by omega]
 ·rw [getD_set_ne true h];simp [Ne.symm h]
variable {P:Program} {sg:BB} {Rt:Nat→List AV→AV→Prop}
theorem zym (AE:Mb P sg Rt) {F:Fix} {σ σ':St} {xs:List Rec} {ρ:List AV} {lg:List Log} {n:Nat} {Q:Exit→Act→World→Prop} (hc:Dl 0 σ xs σ') (hlen:xs.length=ops.size) (AF: ∀x∈xs,kL P sg Rt ops σ.nx ρ x) (TA:XR ops lg=true) (P2: ∀x∈xs,∀y,x.log=some y→y∈lg) (hn:σ.sl.length=n)
  (hQ: ∀(c:Cx) (a:Act),c.ρ=ρ→c.w0=F.w0→c.A=F.A→c.Mu=F.Mu→(∀t,c.U t→t<σ.nx+Bj*ops.size)→Rel c n (Bd σ') (Aw σ'.hp) a→Q .normal a c.w):
  ∀(fuel:Nat) (listed:Array Bool) (a:Act) (c:Cx),listed.size=ops.size→S6 ops (fun k=>listed.getD k true)→c.ρ=ρ→c.w0=F.w0→c.A=F.A→c.Mu=F.Mu→
   (∀t,c.U t→t<σ.nx∨ ∃k,k<ops.size∧listed.getD k true=true∧σ.nx+Bj*k≤t∧t<σ.nx+Bj*k+Bj)→Rel c n (Fe n (Bd σ) xs fun k=>listed.getD k true) (FT (Aw σ.hp) xs fun k=>listed.getD k true) a→
   ((List.range ops.size).filter fun k=> !listed.getD k true).length≤fuel→wpAny P .any ops Q fuel listed a c.w:=by
 simp only [XR,Ac,A9,Bool.or_eq_true,beq_iff_eq,Bool.not_eq_true',decide_eq_true_eq]at TA;obtain⟨⟨d1,d2⟩,d3⟩:=TA;have P6: ∀j o,ops[j]?=some o→(o,j)∈ops.toList.zipIdx:=fun j o h=>List.mk_mem_zipIdx_iff_getElem?.2 (by simpa using h);have hb: ∀j o,ops[j]?=some o→ ∀e∈o.after.toList,Region.binds .any e=true→e.on<j:=fun j o h e he Jo=>by
  rcases d2 (o,j) (P6 j o h) e he with h|h
  ·rw [Jo]at h;cases h
  ·exact h
 obtain⟨c1,c2,c3⟩:=hc.sl hn;obtain⟨c4,c5⟩:=hc.hp;have Dr: ∀(listed:Array Bool) (a:Act) (c:Cx),listed.size=ops.size→c.ρ=ρ→c.w0=F.w0→c.A=F.A→c.Mu=F.Mu→
   (∀t,c.U t→t<σ.nx∨ ∃k,k<ops.size∧listed.getD k true=true∧σ.nx+Bj*k≤t∧t<σ.nx+Bj*k+Bj)→Rel c n (Fe n (Bd σ) xs fun k=>listed.getD k true) (FT (Aw σ.hp) xs fun k=>listed.getD k true) a→
   (∀k,k<ops.size→listed.getD k true=true)→Q .normal a c.w:=by
  intro listed a c B3 h1 h2 h3 h4 h5 h6 Dq;refine hQ c a h1 h2 h3 h4 (fun t ht=> ?_) ?_
  ·rcases h5 t ht with h|⟨k,hk,_,_,h⟩
   ·simp only [Bj]at*;omega
   ·simp only [Bj]at*;omega
  ·have e1:(Fe n (Bd σ) xs fun k=>listed.getD k true)=Bd σ':=by
    rw [c3];funext d;exact Sh xs rfl fun x hx _=>by have:=(hc.range x hx).2;exact Dq x.i (by omega)
   have e2:(FT (Aw σ.hp) xs fun k=>listed.getD k true)=Aw σ'.hp:=by rw [c5];funext d;exact Sf xs rfl fun x hx _=>by have:=(hc.range x hx).2;exact Dq x.i (by omega)
   rw [e1,e2]at h6;exact h6
 intro fuel
 induction fuel with
 |zero=>
  intro listed a c B3 AA h1 h2 h3 h4 h5 h6 PI;have Dq: ∀k,k<ops.size→listed.getD k true=true:=by intro k hk;have:=List.length_eq_zero_iff.1 (Nat.le_zero.1 PI);have:=List.filter_eq_nil_iff.1 this k (by simpa using hk);simpa using this
  refine⟨?_,Dr listed a c B3 h1 h2 h3 h4 h5 h6 Dq⟩;refine List.eq_nil_iff_forall_not_mem.2 fun j hj=> ?_;obtain⟨q1,o,q2,_⟩:=mem_ready.1 hj;rw [Dq j (Array.getElem?_eq_some_iff.1 q2).1]at q1;cases q1
 |succ fuel ih=>
  intro listed a c B3 AA h1 h2 h3 h4 h5 h6 PI;refine⟨fun hr=>Dr listed a c B3 h1 h2 h3 h4 h5 h6 (zzB hb B3 hr),fun j hj=> ?_⟩;obtain⟨q1,o,q2,q3⟩:=mem_ready.1 hj;have YI:j<ops.size:=(Array.getElem?_eq_some_iff.1 q2).1;have Kp: ∀e∈o.after.toList,Region.binds .any e=true→listed.getD e.on true=true:=fun e he Jo=>by
   have h9:=q3 e (by simpa using he) Jo;have AB:=hb j o q2 e he Jo;have h8:e.on<listed.size:=by omega
   simp only [Array.getD_eq_getD_getElem?,Array.getElem?_eq_getElem h8,Option.getD_some]at h9 ⊢;exact h9
  obtain⟨y,hy,Hn⟩:=hc.ex j (by omega) (by omega);have Ma:y.o=o:=by have:=(AF y hy).1;rw [Hn,q2]at this;exact(Option.some.inj this).symm
  have TO: ∀x∈xs,x.i<ops.size:=fun x hx=>by have:=(hc.range x hx).2;omega
  have iZ: ∀x∈xs,ops[x.i]?=some x.o:=fun x hx=>(AF x hx).1;have agree: ∀x∈xs,x.i≠j→Ic (ID ops.toList []) x.i j=true→listed.getD x.i true=decide (x.i<j):=fun x hx BE ho=>zzd (S:=fun k=>listed.getD k true) AA q2 (TO x hx) q1 Kp BE ho;have KI: ∀x∈xs,x.i=j→listed.getD x.i true=decide (x.i<j):=fun x hx he=>by rw [he,q1];simp
  have Gb: ∀d,d∈XU ops o→Bd y.σ d=Fe n (Bd σ) xs (fun k=>listed.getD k true) d:=by
   intro d hd;rw [(c1 y hy).2 d,Hn];refine Sh xs rfl fun x hx Qv=> ?_;by_cases he:x.i=j
   ·exact(KI x hx he).symm
   ·rcases d3 (o,j) (P6 j o q2) (x.o,x.i) (P6 _ _ (iZ x hx))with h|h
    ·exact absurd h he
    ·simp only [Qv,Ac,Bool.or_eq_true,Bool.not_eq_true']at h;rcases h.2 with h|h
     ·rw [List.contains_iff_mem.2 hd]at h;cases h
     ·exact(agree x hx he h).symm
  have hW: ∀x∈xs,∀t,t∈x.bt.map (·.1)→ ∀ly,y.log=some ly→(t∈ly.R∨t∈ly.W)→listed.getD x.i true=decide (x.i<j):=by
   intro x hx t ht ly P3 hm;by_cases he:x.i=j
   ·exact KI x hx he
   ·cases Zr:x.r with
    |none=>simp [Rec.bt,Zr]at ht
    |some ge=>
     obtain⟨gs,e⟩:=ge;have sP:x.log=some ⟨x.i,SU x.σ gs x.o,e.bt.map (·.1)⟩:=by simp [Rec.log,Zr]
     have YR:ly.i=j:=by unfold Rec.log at P3;obtain⟨ge',_,rfl⟩:=An.1 P3;exact Hn
     have h9:=d1 _ (P2 x hx _ sP) _ (P2 y hy _ P3);simp only [YR]at h9;rcases h9 with(h|h)|h
     ·exact absurd h he
     ·exfalso;have:ZL (e.bt.map (·.1)) (ly.R++ly.W)=true:=by
       simp only [ZL,List.any_eq_true];exact⟨t,by simpa [Rec.bt,Zr]using ht,List.contains_iff_mem.2 (by simpa using hm)⟩
      rw [this]at h;cases h
     ·exact agree x hx he h
  have B2: ∀k,(listed.setIfInBounds j true).getD k true=(decide (k=j)||listed.getD k true):=wU B3 YI;have Zf:Fe n (Bd σ) xs (fun k=>(listed.setIfInBounds j true).getD k true)=Cb n (Fe n (Bd σ) xs fun k=>listed.getD k true) o.dst y.val:=by
   funext d;unfold Cb;split
   ·rename_i hd;refine jO hd.2 (by rw [Ma];exact hd.1) (by rw [B2,Hn];simp) xs hy fun x hx BE Qv=> ?_;have he:x.i≠j:=fun h=>BE (hc.inj x hx y hy (by rw [h,Hn]));rcases d3 (o,j) (P6 j o q2) (x.o,x.i) (P6 _ _ (iZ x hx))with h|h
    ·exact he h
    ·simp only [Qv,Ac,bne_iff_ne,ne_eq]at h;exact h.1 hd.1
   ·rename_i hd;by_cases Yq:d<n
    ·refine Sh xs rfl fun x hx Qv=> ?_;have he:x.i≠j:=fun h=>by
      have:x=y:=hc.inj x hx y hy (by rw [h,Hn]);subst this;exact hd ⟨by rw [←Ma];exact Qv,Yq⟩
     rw [B2];simp [he]
    ·rw [gR (by omega),gR (by omega)]
  have YC:FT (Aw σ.hp) xs (fun k=>(listed.setIfInBounds j true).getD k true)=AW (FT (Aw σ.hp) xs fun k=>listed.getD k true) y.bt:=by
   funext t;by_cases ht:t∈y.bt.map (·.1)
   ·refine kC (by rw [B2,Hn];simp) ht hc hy fun x hx BE Zs=> ?_;rw [Hn]at BE ⊢;rw [B2];simp only [BE,decide_false,Bool.false_or];cases H9:y.r with
    |none=>simp [Rec.bt,H9]at ht
    |some ge=>exact hW x hx t Zs _ (by simp only [Rec.log,H9,Option.map_some];rfl) (.inr (by simpa [Rec.bt,H9]using ht))
   ·rw [eR ht];refine Sf xs rfl fun x hx Zs=> ?_;have he:x.i≠j:=fun h=>by
     have:x=y:=hc.inj x hx y hy (by rw [h,Hn]);subst this;exact ht Zs
    rw [B2];simp [he]
  have PJ:((List.range ops.size).filter fun k=> !(listed.setIfInBounds j true).getD k true).length≤fuel:=by have:=n8 (p:=fun k=> !listed.getD k true) (p':=fun k=> !(listed.setIfInBounds j true).getD k true) (List.range ops.size) (fun k _ hk=>by rw [B2]at hk;simp at hk ⊢;exact hk.2) ⟨j,by simpa using YI,by simp [q1],by rw [B2];simp⟩;omega
  have Yk:S6 ops (fun k=>(listed.setIfInBounds j true).getD k true):=by
   intro k ok hk YK e he Jo;simp only [B2,Bool.or_eq_true,decide_eq_true_eq]at hk ⊢;rcases hk with rfl|hk
   ·rw [q2]at YK;cases YK;exact .inr (Kp e he Jo)
   ·exact .inr (AA k ok hk YK e he Jo)
  have Kt: ∀(a':Act) (c':Cx),c'.ρ=ρ→c'.w0=F.w0→c'.A=F.A→c'.Mu=F.Mu→(∀t,c'.U t→c.U t∨(σ.nx+Bj*j≤t∧t<σ.nx+Bj*j+Bj))→Rel c' n (Cb n (Fe n (Bd σ) xs fun k=>listed.getD k true) o.dst y.val) (AW (FT (Aw σ.hp) xs fun k=>listed.getD k true) y.bt) a'→
    wpAny P .any ops Q fuel (listed.setIfInBounds j true) a' c'.w:=by
   intro a' c' g1 g2 g3 g4 g5 g6;refine ih _ a' c' (by simpa using B3) Yk g1 g2 g3 g4 (fun t ht=> ?_) (by rw [Zf,YC];exact g6) PJ;rcases g5 t ht with h|h
   ·rcases h5 t h with h|⟨k,k1,k2,k3,k4⟩
    ·exact .inl h
    ·exact .inr ⟨k,k1,by rw [B2,k2];simp,k3,k4⟩
   ·exact .inr ⟨j,YI,by rw [B2];simp,h.1,h.2⟩
  have LI: ∀j' want d,o.guard=some (j',want)→(ops[j']?).bind (·.dst)=some d→SR c [Bd y.σ d] [a.tmps.getD d Go.undef]:=by intro j' want d hg hd;rw [Gb d (by simp only [XU,hg,Ag];exact .inr (by simp [hd]))];exact h6.dg d
  obtain⟨_,CB⟩:=AF y hy;cases H9:y.r with
  |none=>
   rw [H9]at CB;have GL:=eG (c:=c) (a:=a) CB (fun j' want d hg hd=>LI j' want d (by rw [←Ma];exact hg) hd);unfold wpOp;simp only [q2];rw [Ma]at GL;rw [if_neg (by simp [show Region.wanted o (yielded ops a.tmps)=false from GL])];have hv:y.val=F6:=by simp [Rec.val,H9]
   have he:y.bt= []:=by simp [Rec.bt,H9]
   refine Kt _ c h1 h2 h3 h4 (fun t ht=> .inl ht) ?_;rw [hv,he];exact h6.put gA o.dst
  |some ge=>
   obtain⟨gs,e⟩:=ge;rw [H9]at CB;simp only at CB;obtain⟨r1,r2,r3,r4,r5,r6⟩:=CB;rw [Ma,Hn]at r2;rw [Hn]at r4;rw [Ma]at r1;have GL:=eG (c:=c) (a:=a) r1 LI;have hv:y.val=mkGd gs e.val:=by simp [Rec.val,H9]
   have he:y.bt=e.bt:=by simp [Rec.bt,H9]
   simp only [Pc,Ac,A9]at r4;obtain⟨_,Zd⟩:=r4;have P3:y.log=some ⟨y.i,SU y.σ gs y.o,e.bt.map (·.1)⟩:=by simp [Rec.log,H9]
   refine qR (c:=c) AE q2 h6 GL (fun t ht=>Gb t (by simp only [XU,Ag,List.mem_filterMap];exact .inl ⟨.tmp t,by simpa using ht,rfl⟩)) (fun t x hx=> ?_) (fun t t1 t2 hU=> ?_) r2 (fun BE t x hx=> ?_) (by rw [h1];exact r5) (by rw [h1];exact r6) (fun x hx=>by rw [r3]at hx;cases hx) (fun a' c' hs hr=> ?_)
   ·unfold Ni at hx;split at hx
    ·rename_i hR;rw [(c4 y hy) t]at hx;rw [←hx];refine Sf xs rfl fun z hz tQ=> ?_;rw [Hn];exact hW z hz t tQ _ P3 (.inl (by rw [Ma];simpa using hR))
    ·cases hx
   ·rcases h5 t hU with h|⟨k,k1,k2,k3,k4⟩
    ·simp only [Bj]at*;omega
    ·have:k≠j:=by rintro rfl;rw [q1]at k2;cases k2
     simp only [Bj]at*;omega
   ·have:=Zd _ hx;have PL:gs.isEmpty=false:=by cases gs;exact absurd rfl BE;rfl
    simp only [PL,Bool.false_or,Bool.false_and,Bool.or_false,Ac,decide_eq_true_eq]at this;refine⟨this.1.1,this.1.2, ?_⟩;have h3:=this.2;split at h3
    ·exact⟨_,_,rfl,h3⟩
    ·cases h3
   ·exact Kt a' c' (hs.ρ.trans h1) (hs.w0.trans h2) (hs.A.trans h3) (hs.Mu.trans h4) hs.U (by rw [hv,he];exact hr)
end
theorem Rel.world {c:Cx} {n:Nat} {sl:Nat→SV} {hp:Nat→Option Ad} {a:Act} (h:Rel c n sl hp a) (w:World) (h1:w.heap=c.w.heap) (h2:w.os=c.w.os) (h3:w.tape=c.w.tape) (h4:w.output=c.w.output):Rel {c with w:=w} n sl hp a:=by
 refine h.change (fun _=>False) ⟨rfl,rfl,fun _ _ hb=>hb,fun b _ _=>by show w.heap[b]?=_;rw [h1],fun _ _ hk=>⟨hk,rfl⟩,fun _ _ _=>⟨Nat.le_refl _,fun _=>⟨rfl,fun b _ _=>by show w.heap[b]?=_;rw [h1]⟩⟩⟩ ⟨h2.trans h.base.os,h3.trans h.base.tape,h4.trans h.base.output,by show _≤w.heap.size;rw [h1];exact h.base.size,h.base.pins,fun b hb hm=>by show w.heap[b]?=_;rw [h1];exact h.base.block b hb hm,h.base.pk,h.base.lo⟩ (fun t _=>⟨rfl,rfl,rfl,fun g hk=>hk⟩) (fun t _ b _=>by show w.heap[b]?=_;rw [h1]) (fun t ht=>ht.elim)
  ⟨h.gw.nodup,h.gw.c7,h.gw.allow,fun t b hb=>by show b<w.heap.size;rw [h1];exact h.gw.inb t b hb⟩ h.cg h.c8
theorem vL {P:Program} {sg:BB} {Rt:Nat→List AV→AV→Prop} (YX:P.follows .mixedOrders=true) (AE:Mb P sg Rt) (E4:Ta P sg):pX P sg Rt:=by
 intro id ops draw σ t _ Ec sW ht F R L js ρ a w hL hd hr Q hq;obtain⟨c,rfl,rfl,h1,h2,h3,h4,h5,h6⟩:=hr;rw [List.range_eq_range']at ht;cases draw with
 |false=>refine wp_region ?_;rw [List.range_eq_range'];exact jF AE E4 (n:=σ.sl.length) ops.size 0 [] σ t (by omega) ht c a ⟨h1,h2,h3,h4,rfl,by simpa using h5,h6⟩ hd (fun c' a' σ' hp hl Am=>hq [] .normal σ' c'.ρ a' c'.w hp hl Am)
 |true=>
  refine wp_region_any YX ?_;obtain⟨τ,xs,σ',lg',g1,g2,g3,g4,g5,g6,_,g8⟩:=eJ ops.size 0 [] σ t c.ρ (by omega) ht hd h4;have Ys:=h6.ext (fun i=>by rw [h4];exact St.lk Ec i) (fun t e he=>by rw [h4];exact St.ku Ec t e he) τ;have hw:=Ys.world {c.w with drawn:=c.w.drawn+1} rfl rfl rfl rfl;have FK: ∀k,k<ops.size→(Array.replicate ops.size false).getD k true=false:=fun k hk=>by simp [Array.getD_eq_getD_getElem?,hk]
  have TO: ∀x∈xs,x.i<ops.size:=fun x hx=>by have:=(g1.range x hx).2;omega
  have e1:(Fe σ.sl.length (Bd σ) xs fun k=>(Array.replicate ops.size false).getD k true)=Bd σ:=by funext d;exact eP _ fun x hx _=>FK x.i (TO x hx)
  have e2:(FT (Aw σ.hp) xs fun k=>(Array.replicate ops.size false).getD k true)=Aw σ.hp:=by funext d;exact fG _ fun x hx _=>FK x.i (TO x hx)
  refine zym (F:=F) (n:=σ.sl.length) (c:={c.ext τ with w:={c.w with drawn:=c.w.drawn+1}}) AE g1 g2 g3 g6 g8 rfl (fun c' a' k1 k2 k3 k4 k5 k6=> ?_) ops.size (Array.replicate ops.size false) a (by simp) (fun k o hk ho=> ?_) rfl h1 h2 h3 (fun t ht=> .inl (h5 t ht)) (by rw [e1,e2];exact hw) (Nat.le_trans (List.length_filter_le _ _) (by simp))
  ·have hlen:=(g1.sl rfl).2.1;refine hq [] .normal _ c'.ρ a' c'.w (by rw [k1];exact List.prefix_append _ _) (by rw [k1];exact g5) ⟨c',rfl,rfl,k2,k3,k4,by rw [k1];exact g4,k5, ?_⟩;show Rel c' σ'.sl.length _ _ a';rw [hlen];exact k6
  ·have:=FK k (Array.getElem?_eq_some_iff.1 ho).1;have Bx:(Array.replicate ops.size false).getD k true=true:=hk;rw [this]at Bx;cases Bx
section
variable {P:Program} {c:Cx} {n nx:Nat} {sl sl0:Nat→SV} {hp hp0:Nat→Option Ad} {a:Act} {o:Oper} {gs:Gd} {e:AP} {sg:BB} {nv:Nat}
theorem oR (h:A6 P c n nx sl hp a sl0 hp0 o gs) {op:BinOp} {t el:TypeId} {x y:Operand} {ty:TypeId} (ho:o.op= .binOp op t x y ty) (hu:P.underlying t=some (.slice el)) {p:Option Addr} {q r:Nat} (hv:a.eval x= .slice p q r) (r2:SR c [.cr] [a.eval y])
  (AE:op= .eql∨op= .neq) (E6:c.ρ[nv]?=some (.bool (I7 a o))) (x':Option E) {ck:List Cn}:As P o c n nx sl hp gs a {c6:=ck,cq:=x',val:= .e (if op= .eql then .var nv else .not (.var nv))}:=by
 have hb:I7 a o=p.isNone:=by simp only [I7,ho,hv];cases p<;>rfl
 rw [hb]at E6;have ex:=fun(v u:Value) (hv:a.eval x=v) (hu:a.eval y=u)=>MK (P:=P) (o:=o) ho c.w hv hu;generalize CQ:a.eval y=v2 at r2;cases r2 with
 |cr _=>
  refine As.pure h (v:= .bool (if op= .eql then p.isNone else !p.isNone)) ?_ ?_ rfl
  ·rw [ex _ _ hv CQ,eqGuard_at_slice];rcases AE with rfl|rfl
   ·simp [Go.Lib.run_eql_slice_nil c.w t el p q r 0 0 hu]
   ·simp [binOp,Op.equal,Op.maxDepth,Go.Lib.run_equalIn_slice_nil c.w 9999 t el p q r 0 0 hu]
  ·rcases AE with rfl|rfl
   ·refine .e (f:= []) ?_ (by simp) .nil;simp only [if_true,E.den,E6,Option.getD_some];exact .bool .nil
   ·refine .e (f:= []) ?_ (by simp) .nil;simp only [reduceCtorEq,if_false,E.den,E6,Option.getD_some,AV.gh];exact .bool .nil
end
section
variable {P:Program} {c:Cx} {n nx:Nat} {sl sl0:Nat→SV} {hp hp0:Nat→Option Ad} {a:Act} {o:Oper} {gs:Gd} {e:AP} {sg:BB} {nv:Nat}
theorem Sr {hp:Nat→Option Ad} {gs:Gd} {m:Nat} {cs:Bb} {x:E} (h:A5 hp gs m (.agg cs)=some x): ∃k l,m=k+1∧BZ hp gs k cs.toList=some l∧x= .mk l:=by
 cases m with
 |zero=>simp [A5]at h
 |succ m=>simp only [A5,An]at h;obtain⟨l,h1,h2⟩:=h;exact⟨m,l,rfl,h1,h2.symm⟩
theorem Jb {hp:Nat→Option Ad} {gs:Gd} {m:Nat} {y x:E} (h:A5 hp gs m (.e y)=some x):x=y:=by
 cases m with
 |zero=>simp [A5]at h
 |succ m=>simp [A5]at h;exact h.symm
theorem JS {hp:Nat→Option Ad} {gs:Gd} {m:Nat} {x:E} (h:A5 hp gs m .cr=some x):x= .lst .nil:=by
 cases m with
 |zero=>simp [A5]at h
 |succ m=>simp [A5]at h;exact h.symm
theorem IV {hp:Nat→Option Ad} {gs:Gd} {m:Nat} {s:SV} {ss:List SV} {x:EL} (h:BZ hp gs m (s::ss)=some x): ∃k y l,m=k+1∧A5 hp gs k s=some y∧BZ hp gs k ss=some l∧x= .cons y l:=by
 cases m with
 |zero=>simp [BZ]at h
 |succ m=>
  simp only [BZ]at h;split at h
  ·rename_i y l h1 h2;simp at h;exact⟨m,y,l,rfl,h1,h2,h.symm⟩
  ·cases h
theorem Ow {hp:Nat→Option Ad} {gs:Gd} {ρ:List AV} {w:World}: ∀(vs:List Value) (ss:List SV) (m:Nat) (x:EL),D4.go vs=some ss→BZ hp gs m ss=some x→Rd w vs (x.den ρ) []
 | [],ss,m,x,h,hx=>by
  simp [D4.go]at h;subst h;cases m with
  |zero=>simp [BZ]at hx
  |succ m=>simp [BZ]at hx;subst hx;exact .nil
 |v::vs,ss,m,x,h,hx=>by
  unfold D4.go at h;split at h
  ·rename_i hh;cases hh
  ·rename_i k q l hh;cases hh;split at h
   ·rename_i hk;obtain⟨l',h1,rfl⟩:=An.1 h;obtain⟨j,y,l2,rfl,h2,h3,rfl⟩:=IV hx;rw [Jb h2];exact .int hk (Ow _ _ _ _ h1 h3)
   ·cases h
  ·rename_i q l hh;cases hh;obtain⟨l',h1,rfl⟩:=An.1 h;obtain⟨j,y,l2,rfl,h2,h3,rfl⟩:=IV hx;rw [Jb h2];exact .bool (Ow _ _ _ _ h1 h3)
  ·rename_i q l hh;cases hh;split at h
   ·rename_i hk;obtain⟨l',h1,rfl⟩:=An.1 h;obtain⟨j,y,l2,rfl,h2,h3,rfl⟩:=IV hx;rw [Jb h2];exact .str hk (Ow _ _ _ _ h1 h3)
   ·cases h
  ·rename_i l hh;cases hh;obtain⟨l',h1,rfl⟩:=An.1 h;obtain⟨j,y,l2,rfl,h2,h3,rfl⟩:=IV hx;rw [JS h2];exact .fb (Ow _ _ _ _ h1 h3)
  ·rename_i l hh;cases hh;obtain⟨l',h1,rfl⟩:=An.1 h;obtain⟨j,y,l2,rfl,h2,h3,rfl⟩:=IV hx;rw [Jb h2];exact .ei (Ow _ _ _ _ h1 h3)
  ·cases h
theorem cX {hp:Nat→Option Ad} {gs:Gd} {ρ:List AV} {w:World} {v:Value} {s:SV} {m:Nat} {x:E} (h:D4 v=some s) (hx:A5 hp gs m s=some x):
  Rd w v.cells.toList (x.den ρ).cells []∧(∀u∈v.cells.toList,u.oneCell'=true):=by
 have one: ∀{v:Value} {y:AV},Rd w [v] [y] []→(∀cs,y≠ .agg cs)→(∀cs,y≠ .tup cs)→Rd w v.cells.toList y.cells []∧(∀u∈v.cells.toList,u.oneCell'=true):=by
  intro v y hr h1 h2;have h3:=dE hr h1 h2;have h4:y.cells= [y]:=by cases y<;>first|rfl|exact absurd rfl (h1 _)
  rw [one_cells h3,h4];exact⟨by simpa using hr,by simpa using h3⟩
 unfold D4 at h;split at h
 ·split at h
  ·rename_i hk;simp at h;subst h;rw [Jb hx];exact one (.int hk .nil) (by simp [E.den]) (by simp [E.den])
  ·cases h
 ·simp at h;subst h;rw [Jb hx];exact one (.bool .nil) (by simp [E.den]) (by simp [E.den])
 ·split at h
  ·rename_i hk;simp at h;subst h;rw [Jb hx];exact one (.str hk .nil) (by simp [E.den]) (by simp [E.den])
  ·cases h
 ·simp at h;subst h;rw [JS hx];exact one (.fb .nil) (by simp [E.den]) (by simp [E.den])
 ·simp at h;subst h;rw [Jb hx];exact one (.ei .nil) (by simp [E.den]) (by simp [E.den])
 ·rename_i cs;simp only [Option.bind_eq_bind,Ao,Ab]at h;obtain⟨l,hl,rfl⟩:=h;obtain⟨k,l',rfl,h1,rfl⟩:=Sr hx;rw [Bb.az]at h1;exact⟨Ow _ _ _ _ hl h1,cT _ _ hl⟩
 ·cases h
theorem gK {w:World} {vs:List Value} {x:AV} (h:Rd w vs x.cells []): ∀k,Rd w (List.replicate k vs).flatten (AM (List.replicate k x)) []
 |0=> .nil
 |k+1=>by simp only [List.replicate_succ,List.flatten_cons,AM,List.flatMap_cons];have:=h.app (gK h k);simpa [AM]using this
theorem Wk (z:Array Value) (hz:0<z.size): ∀k,(madeCells z (k*z.size)).toList=(List.replicate k z.toList).flatten
 |0=>by simp [madeCells]
 |k+1=>by
  have ih:=Wk z hz k;simp only [madeCells,Array.toList_map,Array.toList_range]at ih ⊢;rw [Nat.add_mul,Nat.one_mul,List.range_add,List.map_append,ih,List.replicate_succ',List.flatten_append];congr 1;simp only [List.map_map,List.flatten_cons,List.flatten_nil,List.append_nil];apply List.ext_getElem?;intro i;simp only [List.getElem?_map,List.getElem?_range'];by_cases hi:i<z.size
  ·simp only [List.getElem?_range hi,Option.map_some,Function.comp_apply];have:(k*z.size+i) % z.size=i:=by rw [Nat.add_comm,Nat.add_mul_mod_self_right,Nat.mod_eq_of_lt hi]
   simp [this,hi]
  ·rw [List.getElem?_eq_none (by simpa using hi),List.getElem?_eq_none (by simpa using hi)];rfl
theorem zx4 (h:A6 P c n nx sl hp a sl0 hp0 o gs) {t:TypeId} {l m:Operand} (ho:o.op= .makeSlice t l m) {s1 s2:SV} (Br:Bm sl0 gs l=some s1) (AQ:Bm sl0 gs m=some s2) (he:fM P hp0 gs nx t s1 s2=some e) (hc: ∀q∈e.c6,Cn.den c.ρ q):As P o c n nx sl hp gs a e:=by
 have Du:l∈o.op.operands:=by simp [ho,Op.operands]
 have C4:m∈o.op.operands:=by simp [ho,Op.operands]
 unfold fM at he;split at he
 ·rename_i el x y Bc;have Bc:=IU Bc;split at he
  ·cases he
  rename_i hz;have hz:G7 P el=true:=by simpa using hz
  obtain⟨i,z,hi,EW,Ed,B3,B6,HK⟩:=JR hz;have r1:=h.de Br Du;have r2:=h.de AQ C4;have ival: ∀{x:E} {kk:IntKind} {k:Int} {v:Value},SR c [.e x] [v]→x.den c.ρ= .int kk k→v= .int kk k:=by
   intro x kk k v hr hx;cases hr with
   |e h1 _ _=>exact(Fy h1 hx).1
  split at he
  ·rename_i Fc;split at he
   ·rename_i s hs;have hs:D4 z=some s:=by simpa [hi,EW]using hs
    obtain⟨w,hw,rfl⟩:=An.1 he;obtain⟨kk,k,hk,h0,hb,hle⟩:Cn.den c.ρ (.mkroom x (P.bytesOf el)):=BD hc;have EK:=ival r1 hk;have CQ:=ival r2 (by rw [←E.ah c.ρ _ _ Fc];exact hk);obtain⟨c1,c2⟩:=cX (w:=c.w) (ρ:=c.ρ) hs hw;obtain⟨kn,rfl⟩:=Int.eq_ofNat_of_zero_le h0;have C1:(i.bytes:Int)*(kn:Int)≤281474976710656:=by rw [HK]at hb;rw [Int.mul_comm];omega
    have hlen:=c1.len;have TF:=Wk z.cells (by omega) kn;have AK:=run_make (P:=P) c.w t el i z Bc hi EW kk kk kn kn (by omega) (Int.le_refl _) C1 (by omega);have Ep:(madeCells z.cells (kn*z.cells.size)).size=kn*P.cellsOf el:=by rw [size_madeCells,Ed,B6]
    have Cd:(madeCells z.cells (kn*z.cells.size)).toList.take ((List.replicate kn (w.den c.ρ)).length*P.cellsOf el)=(List.replicate kn z.cells.toList).flatten:=by rw [List.length_replicate,List.take_of_length_le (by rw [Array.length_toList,Ep];exact Nat.le_refl _),TF]
    refine As.newRow (xs:=List.replicate kn (w.den c.ρ)) (N:= []) (C:=madeCells z.cells (kn*z.cells.size)) (cap:=kn) (wd:=c.w) (fz:= []) (ts:= []) h rfl ⟨rfl,rfl,rfl,rfl⟩ ?_ ?_ (by omega) (fun u hu=> ?_) (by simp) (by simp only [maxLen];omega) Ep ?_ ?_ (by simp) (fun _=>rfl)
    ·simp only [execOp,ho,EK,CQ,Sem.run_bind,Int.ofNat_eq_natCast,List.length_replicate];rw [AK,Ed];rfl
    ·simp [E.den,hk,AV.rep]
    ·rw [List.eq_of_mem_replicate hu,←hlen,Array.length_toList,Ed,B6]
    ·rw [Cd];intro u hu;obtain⟨q,hq,hu⟩:=List.mem_flatten.1 hu;rw [List.eq_of_mem_replicate hq]at hu;exact c2 u hu
    ·rw [Cd];exact gK c1 kn
   ·cases he
  ·split at he
   ·rename_i k0 _;simp only [Ab]at he;subst he;obtain⟨kk,k,hk,h0,hb,hle⟩:Cn.den c.ρ (.mkroom y (P.bytesOf el)):=BD hc;have EK:=ival r1 (show(E.int k0 0).den c.ρ= .int k0 0 from rfl);have CQ:=ival r2 hk;obtain⟨kn,rfl⟩:=Int.eq_ofNat_of_zero_le h0;have C1:(i.bytes:Int)*(kn:Int)≤281474976710656:=by
     rw [HK]at hb;rw [Int.mul_comm];omega
    have AK:=run_make (P:=P) c.w t el i z Bc hi EW k0 kk 0 kn (by omega) (by omega) C1 (by omega);refine As.newRow (xs:= []) (N:= []) (C:=madeCells z.cells (kn*i.size)) (cap:=kn) (wd:=c.w) (fz:= []) (ts:= []) h rfl ⟨rfl,rfl,rfl,rfl⟩ ?_ rfl (by omega) (by simp) (by simp) (by simp only [maxLen];omega) (by rw [size_madeCells,B6]) (by simp) (by simpa [AM]using Rd.nil) (by simp) (fun _=>rfl);simp only [execOp,ho,EK,CQ,Sem.run_bind,Int.ofNat_eq_natCast];rw [AK];rfl
   ·cases he
 ·cases he
end
section
variable {P:Program} {c:Cx} {n nx:Nat} {sl sl0:Nat→SV} {hp hp0:Nat→Option Ad} {a:Act} {o:Oper} {gs:Gd} {e:AP} {sg:BB} {nv:Nat}
def OV (v:Option Value) (k d:Nat):Prop:=(v=none∧k=d)∨ ∃kk,v=some (.int kk (k:Int))
theorem bY {w:World} {t el:TypeId} (hu:P.underlying t=some (.slice el)) (A4:CM P el=true) (p:Option Addr) (m r l h:Nat) {lo hi:Option Value} (BV:OV lo l 0) (LL:OV hi h m) (h1:l≤h) (h2:h≤m) (h3:m≤r):
  (Instr.sliceAt t (.slice p m r) lo hi none).run P w= .ok (sliced p l h r (P.cellsOf el)) w:=by
 have EC:P.underlying t=some (.slice (P.elem t)):=by simp [Program.elem,hu]
 have he:P.elem t=el:=by simp [Program.elem,hu]
 have hs:(sizeOf (P.elem t)).run P w= .ok (P.cellsOf el) w:=by rw [he];exact Mr A4 w
 rw [run_sliceAt_slice w t _ _ _ _ EC];rcases BV with⟨rfl,rfl⟩|⟨kl,rfl⟩<;>rcases LL with⟨rfl,rfl⟩|⟨kh,rfl⟩
 ·rw [run_slice_all w t p h r EC,hs];rfl
 ·rw [run_slice_h w t p m r EC kh _ (by omega) (by omega),hs];rfl
 ·rw [run_slice_l w t p h r EC kl _ (by omega) (by omega),hs];rfl
 ·rw [run_slice_lh w t p m r EC kl kh _ _ (by omega) (by omega) (by omega),hs];rfl
theorem zvG (s:ByteArray) (a b:Nat):(s.extract a b).data.toList=(s.data.toList.drop a).take (b-a):=by rw [ByteArray.data_extract,Array.toList_extract,List.extract_eq_take_drop]
theorem zpt {w:World} {t:TypeId} (hu:P.underlying t=some .string) (s:ByteArray) (l h:Nat) {lo hi:Option Value} (BV:OV lo l 0) (LL:OV hi h s.size) (h1:l≤h) (h2:h≤s.size):
  (Instr.sliceAt t (.string s) lo hi none).run P w= .ok (.string (s.extract l h)) w:=by
 rw [run_sliceAt_string w t _ _ _ _ hu];rcases BV with⟨rfl,rfl⟩|⟨kl,rfl⟩<;>rcases LL with⟨rfl,rfl⟩|⟨kh,rfl⟩
 ·rw [run_slice_string_all w t s hu]
 ·rw [run_slice_string_h w t s hu kh _ (by omega) (by omega)];rfl
 ·rw [run_slice_string_l w t s hu kl _ (by omega) (by omega)];rfl
 ·rw [run_slice_string w t s kl kh _ _ hu (by omega) (by omega) (by omega)];rfl
theorem eD {sz:Nat} (ys:List AV) (hs: ∀y∈ys,y.cells.length=sz) (l h:Nat) (hl:l≤h) (hh:h≤ys.length):((AM ys).drop (l*sz)).take ((h-l)*sz)=AM ((ys.take h).drop l):=by
 have e:ys=ys.take l++((ys.take h).drop l++ys.drop h):=by
  rw [←List.append_assoc];have:ys.take l++(ys.take h).drop l=ys.take h:=by
   have h2:ys.take l=(ys.take h).take l:=by rw [List.take_take,Nat.min_eq_left hl]
   rw [h2,List.take_append_drop]
  rw [this,List.take_append_drop]
 have f1:AM ys=AM (ys.take l)++(AM ((ys.take h).drop l)++AM (ys.drop h)):=by
  conv=>lhs;rw [e]
  simp [AM]
 have l1:(AM (ys.take l)).length=l*sz:=by rw [OJ _ (fun y hy=>hs y (List.mem_of_mem_take hy)),List.length_take,Nat.min_eq_left (by omega)]
 have l2:(AM ((ys.take h).drop l)).length=(h-l)*sz:=by rw [OJ _ (fun y hy=>hs y (List.mem_of_mem_take (List.mem_of_mem_drop hy))),List.length_drop,List.length_take,Nat.min_eq_left (by omega)]
 rw [f1,←l1,List.drop_left,←l2,List.take_left]
theorem yT {w:World} {v:Value} {ys:List AV} {f:List Nat} {sz:Nat} (hr:Rd w [v] [.sl ys] f) (hs: ∀y∈ys,y.cells.length=sz) (l h:Nat) (hl:l≤h) (hh:h≤ys.length):
  ∃p r g,v= .slice p ys.length r∧ys.length≤r∧Rd w [sliced p l h r sz] [.sl ((ys.take h).drop l)] g∧ ∀b∈g,b∈f:=by
 cases hr with
 |fb _=>
  rename_i p r;have hh:h=0:=by simpa using hh
  subst hh;have hl:l=0:=by omega
  subst hl;exact⟨_,_, [],rfl,Nat.zero_le _,by simpa [sliced]using Rd.fb .nil,by simp⟩
 |gj hb h1 h2 h3 h4 h5 h6 FF h7 h8=>
  rename_i b o m r cs C t fz sz' f1 f2;have hy: ∃y,y∈ys:=by cases ys with|nil=>simp at h3;omega|cons y _=>exact⟨y,by simp⟩
  obtain⟨y0,Hm⟩:=hy;have E8:sz'=sz:=(h4 y0 Hm).symm.trans (hs y0 Hm);subst E8;subst h3;refine⟨some ⟨b,o,none⟩,r, ?_⟩;rcases Nat.eq_or_lt_of_le hl with he|AB
  ·subst he;refine⟨[],rfl,h2.2, ?_,by simp⟩;have:(ys.take l).drop l= []:=List.drop_eq_nil_of_le (by simp;omega);rw [this];simp only [sliced,Nat.sub_self];exact .fb .nil
  ·have Fq:=h7.len;obtain⟨g,hg,C8⟩:=h7.piece (l*sz') ((h-l)*sz');rw [eD ys h4 l h hl hh]at C8;refine⟨b::(g++ []),rfl,h2.2, ?_,fun x hx=> ?_⟩
   ·have CG:sliced (some (⟨b,o,none⟩:Addr)) l h r sz'= .slice (some ⟨b,o+l*sz',none⟩) (h-l) (r-l):=by
     unfold sliced;split
     ·exfalso;omega
     ·simp [Addr.add_lit]
    rw [CG];refine Rd.gj (cs:=(cs.drop (l*sz')).take ((h-l)*sz')) hb (by omega) ⟨by omega,by omega⟩ (by simp;omega) (fun y hy=>h4 y (List.mem_of_mem_take (List.mem_of_mem_drop hy))) h5 (fun j u hu=> ?_) (fun u hu=>FF u (List.mem_of_mem_drop (List.mem_of_mem_take hu))) C8 .nil;rw [List.getElem?_take]at hu;split at hu
    ·rw [List.getElem?_drop]at hu;have:=h6 _ _ hu;rw [←this];congr 1;omega
    ·cases hu
   ·simp only [List.append_nil,Ae]at hx;rcases hx with rfl|hx
    ·simp
    ·have:=hg x hx;simp [this]
theorem Ij {f:Operand→Option SV} {x:Option Operand} {r:Option SV} (h:Iu f x=some r):(x=none∧r=none)∨ ∃y z,x=some y∧f y=some z∧r=some z:=by
 cases x with
 |none=>simp [Iu]at h;exact .inl ⟨rfl,h.symm⟩
 |some y=>obtain⟨z,hz,rfl⟩:=An.1 h;exact .inr ⟨y,z,rfl,hz,rfl⟩
theorem W4 {s:Option SV} {d l:E} (h:KV s d=some l):(s=none∧l=d)∨s=some (.e l):=by
 unfold KV at h;split at h
 ·simp at h;exact .inl ⟨rfl,h.symm⟩
 ·simp at h;subst h;exact .inr rfl
 ·cases h
theorem zwo (h:A6 P c n nx sl hp a sl0 hp0 o gs) {t:TypeId} {x:Operand} {lo hi mx:Option Operand} (ho:o.op= .slice t x lo hi mx) {s:SV} (hs:Bm sl0 gs x=some s) {l' h' m':Option SV} (Bl:Iu (Bm sl0 gs) lo=some l') (Ku:Iu (Bm sl0 gs) hi=some h') (EY:Iu (Bm sl0 gs) mx=some m') (he:fI P hp0 gs t s l' h' m'=some e) (hc: ∀q∈e.c6,Cn.den c.ρ q):As P o c n nx sl hp gs a e:=by
 have hm:x∈o.op.operands:=by simp [ho,Op.operands]
 have LR: ∀y,lo=some y→y∈o.op.operands:=fun y hy=>by simp [ho,Op.operands,hy]
 have Jw: ∀y,hi=some y→y∈o.op.operands:=fun y hy=>by simp [ho,Op.operands,hy]
 have YW: ∀y,mx=some y→y∈o.op.operands:=fun y hy=>by simp [ho,Op.operands,hy]
 have hx:=h.de hs hm;have ival: ∀{x:E} {kk:IntKind} {k:Int} {v:Value},SR c [.e x] [v]→x.den c.ρ= .int kk k→v= .int kk k:=by
  intro x kk k v hr hx;cases hr with
  |e h1 _ _=>exact(Fy h1 hx).1
 unfold fI at he;split at he
 ·cases he
 rename_i y hy;obtain⟨f,q1,q2⟩:=h.j9 hs hm hy;have ex:(execOp a.eval o).run P c.w=((Instr.sliceAt t (a.eval x) (lo.map a.eval) (hi.map a.eval) (mx.map a.eval)).run P c.w).andThen fun v w=> .ok (.value v) w:=by simp [execOp,ho]
 split at he
 ·split at he
  ·rename_i el _ _ hu;split at he
   ·rename_i A4;simp only [Ab]at he;subst he;have hd:(y.den c.ρ).len≠ .undef:=BD hc;cases Ba:y.den c.ρ<;>simp only [Ba,AV.len,ne_eq,not_true_eq_false]at hd;rename_i xs;have hl:(y.den c.ρ).len= .int .i64 (xs.length:Int):=by rw [Ba];rfl
    obtain⟨p,q,r,hv⟩: ∃p q r,a.eval x= .slice p q r:=by
     rcases OO q1 hl with⟨p,q,hv,Dt⟩|⟨b,o',k,q,hv,Dt⟩
     ·exact⟨_,_,_,hv⟩
     ·exact⟨_,_,_,hv⟩
    rcases Ij Bl with⟨rfl,_⟩|⟨_,_,_,_,hh⟩
    ·rcases Ij Ku with⟨_,hh⟩|⟨oh,sh,rfl,tF,hh⟩
     ·cases hh
     ·cases hh;rcases Ij EY with⟨_,hh⟩|⟨om,sm,rfl,Zg,hh⟩
      ·cases hh
      ·cases hh;have v1:=(fun{kk:IntKind} (hr:SR c [.e (.int kk 0)] [a.eval oh])=>ival hr (show(E.int kk 0).den c.ρ= .int kk 0 from by simp only [E.den])) (h.de tF (Jw _ rfl))
       have v2:=(fun{kk:IntKind} (hr:SR c [.e (.int kk 0)] [a.eval om])=>ival hr (show(E.int kk 0).den c.ρ= .int kk 0 from by simp only [E.den])) (h.de Zg (YW _ rfl))
       have EC:P.underlying t=some (.slice (P.elem t)):=by simp [Program.elem,hu]
       have Bc:P.elem t=el:=by simp [Program.elem,hu]
       refine As.pure h (v:= .slice p 0 0) ?_ (.emp .nil) rfl;rw [ex,hv];simp only [Option.map_none,Option.map_some,v1,v2];rw [run_sliceAt_slice c.w t _ _ _ _ EC,run_slice_hm c.w t p q r EC _ _ 0 0 (by omega) (by omega) (by omega),Bc,Mr A4];simp [sliced]
    ·cases hh
   ·cases he
  ·cases he
 ·have LS:mx=none:=by
   rcases Ij EY with⟨hh,_⟩|⟨_,_,_,_,hh⟩
   ·exact hh
   ·cases hh
  subst LS;have blo: ∀(l:E) (kk:IntKind) (k:Nat),KV l' (.int .i64 0)=some l→l.den c.ρ= .int kk k→OV (lo.map a.eval) k 0:=by
   intro l kk k hl hk;rcases Ij Bl with⟨rfl,rfl⟩|⟨ol,sl',rfl,CG,rfl⟩
   ·rcases W4 hl with⟨_,rfl⟩|hh
    ·simp only [E.den,AV.int.injEq]at hk;exact .inl ⟨rfl,by omega⟩
    ·cases hh
   ·rcases W4 hl with⟨hh,_⟩|hh
    ·cases hh
    ·cases hh;exact .inr ⟨kk,by rw [Option.map_some,ival (h.de CG (LR _ rfl)) hk]⟩
  have bhi: ∀(d l:E) (kk:IntKind) (k m:Nat),KV h' d=some l→l.den c.ρ= .int kk k→d.den c.ρ= .int .i64 (m:Int)→OV (hi.map a.eval) k m:=by
   intro d l kk k m hl hk hd;rcases Ij Ku with⟨rfl,rfl⟩|⟨ol,sl',rfl,CG,rfl⟩
   ·rcases W4 hl with⟨_,rfl⟩|hh
    ·rw [hd]at hk;simp only [AV.int.injEq]at hk;exact .inl ⟨rfl,by omega⟩
    ·cases hh
   ·rcases W4 hl with⟨hh,_⟩|hh
    ·cases hh
    ·cases hh;exact .inr ⟨kk,by rw [Option.map_some,ival (h.de CG (Jw _ rfl)) hk]⟩
  split at he
  ·rename_i hu;split at he
   ·rename_i l hb q Jv LJ;simp only [Ab]at he;subst he;obtain⟨ka,ai,kb,bi,bs,d1,d2,d3,d4,d5,d6⟩:Cn.den c.ρ (.winS y l hb):=BD hc;obtain⟨an,rfl⟩:=Int.eq_ofNat_of_zero_le d4;obtain⟨bn,rfl⟩:=Int.eq_ofNat_of_zero_le (Int.le_trans d4 d5);obtain⟨ss,hv,rfl,hle⟩:=O8 q1 d3;have B3:ss.data.toList.length=ss.size:=by simp
    have AK:=zpt (P:=P) (w:=c.w) hu ss an bn (blo l ka an Jv d1) (bhi (.slen y) hb kb bn ss.size LJ d2 (by simp only [E.den,d3,AV.slen];simp)) (by omega) (by omega);refine As.pure h (v:= .string (ss.extract an bn)) ?_ (.df ?_) rfl
    ·rw [ex,hv,Option.map_none,AK];rfl
    ·simp only [E.den,d1,d2,d3,AV.swin];have:(List.take (bn:Int).toNat ss.data.toList).drop (an:Int).toNat=(ss.extract an bn).data.toList:=by
      simp [zvG,List.drop_take]
     rw [this];exact .str (by simp only [ByteArray.size_extract];omega) .nil
   ·cases he
  ·rename_i el hu;split at he
   ·cases he
   rename_i A4;have A4:CM P el=true:=by simpa using A4
   split at he
   ·rename_i l hb fz Jv LJ F9;simp only [Ab]at he;subst he;have Bp:Cn.den c.ρ (.issl y (P.cellsOf el)):=BD hc;obtain⟨ys,CN,L8⟩:=Bp;obtain⟨ka,ai,kb,bi,m,d1,d2,d3,d4,d5,d6⟩:Cn.den c.ρ (.win y l hb):=hc _ (by simp);obtain⟨an,rfl⟩:=Int.eq_ofNat_of_zero_le d4;obtain⟨bn,rfl⟩:=Int.eq_ofNat_of_zero_le (Int.le_trans d4 d5);rw [CN]at q1;have hm9:(m:Int)=ys.length:=by rw [CN]at d3;simpa [AV.len]using d3.symm
    split at F9
    ·rename_i HX;obtain⟨p,r,g,hv,hr,C8,hg⟩:=yT q1 L8 an bn (by omega) (by omega);have AK:=bY (P:=P) (w:=c.w) hu A4 p ys.length r an bn (blo l ka an Jv d1) (bhi (.len y) hb kb bn ys.length LJ d2 (by simp only [E.den,CN,AV.len])) (by omega) (by omega) hr;intro next Q hk
     unfold Oper.wp;rw [ex,hv,Option.map_none,AK];show Oper.upon P o a next Q (.ok (.value _) c.w)
     rw [Oper.upon_value];have Am:=h.rel.freeze h.hp h.gs F9;have AF: ∀b∈g,(c.cc (fz.map (·.1))).ok b:=fun b hb=>RY h.rel h.eh h.gs F9 HX (q2 b (hg b hb));refine hk _ (c.cc (fz.map (·.1))) ⟨rfl,rfl,rfl,rfl,fun t ht=> .inl ht⟩ (Am.put (SR.mkGd (.e (f:=g) ?_ AF .nil) gs h.gs) o.dst);show Rd c.w _ [(E.win y l hb).den c.ρ] g;simp only [E.den,d1,d2,CN,AV.win,Int.ofNat_eq_natCast,Int.toNat_natCast];exact C8
    ·cases F9
   ·cases he
  ·cases he
end
section
variable {P:Program} {c:Cx} {n nx:Nat} {sl sl0:Nat→SV} {hp hp0:Nat→Option Ad} {a:Act} {o:Oper} {gs:Gd} {e:AP} {sg:BB} {nv:Nat}
theorem Pa {w:World} {v:Value} {x:AV} {f:List Nat} {k:SK} (h:Rd w [v] [x] f) (hk:x.sk=some k):(∃kk n,k= .int kk∧v= .int kk n∧x= .int kk n)∨(∃b,k= .bool∧v= .bool b∧x= .bool b)∨ ∃s:ByteArray,k= .str∧v= .string s∧x= .str s.data.toList:=by
 cases h<;>simp [AV.sk]at hk
 ·exact .inl ⟨_,_,hk.symm,rfl,rfl⟩
 ·exact .inr (.inl ⟨_,hk.symm,rfl,rfl⟩)
 ·exact .inr (.inr ⟨_,hk.symm,rfl,rfl⟩)
theorem dB {t:TypeId} (h:(∃k,P.underlying t=some (.int k))∨P.underlying t=some .bool∨P.underlying t=some .string):Ak P t=false:=by rcases h with⟨k,h⟩|h|h<;>simp [Ak,h]
theorem mF {w:World} (d:Nat): ∀(fs:List Field) (j:Nat) (ks:List SK) {as_ bs:List Value} {cs ds:List AV} {f g:List Nat},O4 P j fs=some ks→Rd w as_ cs f→Rd w bs ds g→(cs.drop j).map AV.sk=ks.map some→(ds.drop j).map AV.sk=ks.map some→
  (Op.eqFields (d+1) as_.toArray bs.toArray fs).run P w= .ok (AV.leq (cs.drop j) (ds.drop j)) w
 | [],j,ks,as_,bs,cs,ds,f,g,hk,h1,h2,k1,k2=>by
  simp [O4]at hk;subst hk;have e1:cs.drop j= []:=by simpa using k1
  have e2:ds.drop j= []:=by simpa using k2
  rw [e1,e2];simp [Op.eqFields,AV.leq]
 |fd::fs,j,ks,as_,bs,cs,ds,f,g,hk,h1,h2,k1,k2=>by
  unfold O4 at hk;split at hk
  ·cases hk
  rename_i Ax;simp only [not_or,Bool.not_eq_true',Decidable.not_not,ne_eq,Bool.not_eq_false]at Ax;obtain⟨hn,ho,A4,BD⟩:=Ax;have main: ∀(k:SK) (l:List SK),ks=k::l→O4 P (j+1) fs=some l→(∀a b (x y:AV) f g,Rd w [a] [x] f→Rd w [b] [y] g→x.sk=some k→y.sk=some k→(Op.equalIn (d+1) fd.type a b).run P w= .ok (x.seq y) w)→Ak P fd.type=false→
    (Op.eqFields (d+1) as_.toArray bs.toArray (fd::fs)).run P w= .ok (AV.leq (cs.drop j) (ds.drop j)) w:=by
   rintro k l rfl hl heq GF;have Ju:j<cs.length:=by
    rcases Nat.lt_or_ge j cs.length with hh|hh
    ·exact hh
    ·rw [List.drop_eq_nil_of_le hh]at k1;simp at k1
   have YG:j<ds.length:=by
    rcases Nat.lt_or_ge j ds.length with hh|hh
    ·exact hh
    ·rw [List.drop_eq_nil_of_le hh]at k2;simp at k2
   rw [List.drop_eq_getElem_cons Ju]at k1;rw [List.drop_eq_getElem_cons YG]at k2;simp only [List.map_cons,List.cons.injEq]at k1 k2;have l1:=h1.len;have l2:=h2.len;obtain⟨v,f1,hv,_,r1⟩:=h1.at (show cs[j]?=some cs[j] by simp [Ju])
   obtain⟨u,g1,hu,_,r2⟩:=h2.at (show ds[j]?=some ds[j] by simp [YG])
   have p1:=Sp A4 as_ fd.offset (by omega) (.inr BD) w;have p2:=Sp A4 bs fd.offset (by omega) (.inr BD) w;have e1:((as_.drop fd.offset).take (P.cellsOf fd.type)).headD Go.undef=v:=by rw [BD,ho,List.drop_eq_getElem_cons (by omega),List.take_succ_cons];simpa [show j<as_.length by omega]using hv
   have e2:((bs.drop fd.offset).take (P.cellsOf fd.type)).headD Go.undef=u:=by rw [BD,ho,List.drop_eq_getElem_cons (by omega),List.take_succ_cons];simpa [show j<bs.length by omega]using hu
   rw [GF,e1]at p1;rw [GF,e2]at p2;have ih:=mF (w:=w) d fs (j+1) l hl h1 h2 k1.2 k2.2;rw [List.drop_eq_getElem_cons Ju,List.drop_eq_getElem_cons YG];simp only [Op.eqFields,ne_eq,hn,not_false_eq_true,if_true,Sem.run_bind,p1,p2,Bu,if_false,Result.andThen_ok,heq v u _ _ _ _ r1 r2 k1.1 k2.1];cases hb:(cs[j]).seq ds[j]with
   |true=>simpa [AV.leq,hb]using ih
   |false=>simp [AV.leq,hb]
  split at hk
  ·rename_i k l hu hl;simp at hk;refine main _ _ hk.symm hl (fun a b x y f g ra rb hx hy=> ?_) (dB (.inl ⟨_,hu⟩));rcases Pa ra hx with⟨kk,m,h5,rfl,rfl⟩|⟨_,h5,_⟩|⟨_,h5,_⟩<;>cases h5
   rcases Pa rb hy with⟨kk,m2,h5,rfl,rfl⟩|⟨_,h5,_⟩|⟨_,h5,_⟩<;>cases h5
   exact run_equalIn_int w d fd.type _ _ _ _ hu
  ·rename_i l hu hl;simp at hk;refine main _ _ hk.symm hl (fun a b x y f g ra rb hx hy=> ?_) (dB (.inr (.inl hu)));rcases Pa ra hx with⟨kk,m,h5,_⟩|⟨_,_,rfl,rfl⟩|⟨_,h5,_⟩<;>try cases h5
   rcases Pa rb hy with⟨kk,m,h5,_⟩|⟨_,_,rfl,rfl⟩|⟨_,h5,_⟩<;>try cases h5
   exact dO d _ _ hu w
  ·rename_i l hu hl;simp at hk;refine main _ _ hk.symm hl (fun a b x y f g ra rb hx hy=> ?_) (dB (.inr (.inr hu)));rcases Pa ra hx with⟨kk,m,h5,_⟩|⟨_,h5,_⟩|⟨_,_,rfl,rfl⟩<;>try cases h5
   rcases Pa rb hy with⟨kk,m,h5,_⟩|⟨_,h5,_⟩|⟨_,_,rfl,rfl⟩<;>try cases h5
   rw [run_equalIn_string w d _ _ _ hu,zsL];rfl
  ·cases hk
theorem wF (h:A6 P c n nx sl hp a sl0 hp0 o gs) {op:BinOp} {t:TypeId} {x y:Operand} {ty:TypeId} (ho:o.op= .binOp op t x y ty) {fs:Array Field} (hu:P.underlying t=some (.struct fs)) (he:Bg P sg sl0 hp0 nv nx gs o=some e) (hc: ∀q∈e.c6,Cn.den c.ρ q):As P o c n nx sl hp gs a e:=by
 have Du:x∈o.op.operands:=by simp [ho,Op.operands]
 have C4:y∈o.op.operands:=by simp [ho,Op.operands]
 simp only [Bg,ho,Ao]at he;obtain⟨s1,Br,s2,AQ,he⟩:=he;unfold O3 at he;simp only [hu]at he;split at he
 ·cases he
 rename_i hg;simp only [Bool.or_eq_true,not_or,Bool.not_eq_true]at hg;split at he
 ·rename_i ks x' y' sI CV Ba;obtain⟨f1,q1,_⟩:=h.j9 Br Du CV;obtain⟨f2,q2,_⟩:=h.j9 AQ C4 Ba;have FM:P.underlying t=some (.struct (P.fieldsOf t)):=by simp [Program.fieldsOf,hu]
  have Kr:P.fieldsOf t=fs:=by simp [Program.fieldsOf,hu]
  have key: ∀(k1:Cn.den c.ρ (.kinds x' ks)) (k2:Cn.den c.ρ (.kinds y' ks)),∃as_ bs:List Value,∃b,a.eval x= .agg as_.toArray∧a.eval y= .agg bs.toArray∧(E.aeq x' y').den c.ρ= .bool b∧(Op.equalIn 10000 t (.agg as_.toArray) (.agg bs.toArray)).run P c.w= .ok b c.w:=by rintro⟨cs,Bp,k1⟩ ⟨ds,FJ,k2⟩;obtain⟨as_,EK,_,r1⟩:=Iq q1 Bp;obtain⟨bs,CQ,_,r2⟩:=Iq q2 FJ;refine⟨as_,bs,AV.leq cs ds,EK,CQ,by simp only [E.den,Bp,FJ,AV.aeq], ?_⟩;rw [run_equalIn_struct c.w 9999 t _ _ FM hg.1,Kr];exact mF (w:=c.w) 9998 fs.toList 0 ks sI r1 r2 (by simpa using k1) (by simpa using k2)
  split at he
  ·simp only [Ab]at he;subst he;obtain⟨as_,bs,b,EK,CQ,hd,hr⟩:=key (hc _ (by simp)) (hc _ (by simp));refine As.pure h (v:= .bool b) ?_ (.df (by rw [hd];exact .bool .nil)) rfl;rw [MK ho c.w EK CQ];simp [run_eqGuard_agg c.w _ t x y _ _ hg.2,run_eql_struct,hr]
  ·simp only [Ab]at he;subst he;obtain⟨as_,bs,b,EK,CQ,hd,hr⟩:=key (hc _ (by simp)) (hc _ (by simp));refine As.pure h (v:= .bool (!b)) ?_ (.df (by simp only [E.den]at hd ⊢;rw [hd];exact .bool .nil)) rfl;rw [MK ho c.w EK CQ];simp [run_eqGuard_agg c.w _ t x y _ _ hg.2,run_neq_struct,hr]
  ·cases he
 ·cases he
theorem mO (h:A6 P c n nx sl hp a sl0 hp0 o gs) {x y:Operand} {cl:Call} (ho:o.op= .call cl) {op:BinOp} (AE:(op= .gtr∧cl.callee= .builtin .max)∨(op= .lss∧cl.callee= .builtin .min)) (CI:cl.args.toList= [x,y]) {s1 s2:SV} (Br:Bm sl0 gs x=some s1) (AQ:Bm sl0 gs y=some s2)
  (he:W8 op s1 s2=some e) (hc: ∀q∈e.c6,Cn.den c.ρ q):As P o c n nx sl hp gs a e:=by
 have Az:cl.args= #[x,y]:=by apply Array.ext';simp [CI]
 have Du:x∈o.op.operands:=by rcases AE with⟨_,hh⟩|⟨_,hh⟩<;>simp [ho,Op.operands,Call.operands,hh,Az]
 have C4:y∈o.op.operands:=by rcases AE with⟨_,hh⟩|⟨_,hh⟩<;>simp [ho,Op.operands,Call.operands,hh,Az]
 unfold W8 at he;split at he
 ·rename_i x' y';simp only [Ab]at he;subst he;obtain⟨f1,q1,_⟩:=Gq (h.de Br Du) rfl;obtain⟨f2,q2,_⟩:=Gq (h.de AQ C4) rfl;have hd:AV.bin op (y'.den c.ρ) (x'.den c.ρ)≠ .undef:=BD hc;cases hx:x'.den c.ρ<;>cases hy:y'.den c.ρ<;>simp only [hx,hy,AV.bin,ne_eq,not_true_eq_false]at hd;rename_i k m k' m';split at hd
  ·rename_i hk;have hk:k'=k:=by rcases hk with hk|hk|hk;exact hk;all_goals (rcases AE with⟨h1,_⟩|⟨h1,_⟩<;>rw [h1]at hk<;>cases hk)
   subst hk;obtain⟨v1,i1⟩:=Fy q1 hx;obtain⟨v2,i2⟩:=Fy q2 hy;rcases AE with⟨rfl,AA⟩|⟨rfl,AA⟩
   ·refine As.pure h (v:= .int k' (if m'>m then m' else m)) ?_ (.df ?_) rfl
    ·simp [execOp,ho,resolve,AA,Az,invoke,builtin,Builtin.max_,Builtin.max2,v1,v2]
    ·simp only [E.den,hx,hy,AV.bin,true_or,if_true,CR];by_cases hh:m'>m
     ·simp only [hh,decide_true,AV.cond,if_true];exact .int i2 .nil
     ·simp only [hh,decide_false,AV.cond,if_false];exact .int i1 .nil
   ·refine As.pure h (v:= .int k' (if m'<m then m' else m)) ?_ (.df ?_) rfl
    ·simp [execOp,ho,resolve,AA,Az,invoke,builtin,Builtin.min_,Builtin.min2,v1,v2]
    ·simp only [E.den,hx,hy,AV.bin,true_or,if_true,CR];by_cases hh:m'<m
     ·simp only [hh,decide_true,AV.cond,if_true];exact .int i2 .nil
     ·simp only [hh,decide_false,AV.cond,if_false];exact .int i1 .nil
  ·exact absurd rfl hd
 ·cases he
end
inductive B5 (P:Program) (w:World):List TypeId→List Bool→List Value→List AV→List Nat→List Nat→Prop where
 |nil {fl}:B5 P w [] fl [] [] [] []
 |own {t ts fl el u us y ys top N rf hs}:fl.headD false=true→Cv P t=some el→(BM P el=true∧N= []∨BM P el=false∧Dm P t=none)→CK w el (P.cellsOf el) u y top N→B5 P w ts fl.tail us ys rf hs→B5 P w (t::ts) fl (u::us) (y::ys) (N++rf) (top++hs)
 |deep {t ts fl el e z l u us y ys top rf hs}:fl.headD false=true→Cv P t=some el→BM P el=false→Dm P t=some (.row e z l)→DC w [.row e z l] [u] [y] top→B5 P w ts fl.tail us ys rf hs→B5 P w (t::ts) fl (u::us) (y::ys) rf (top++hs)
 |rd {t ts fl u us y ys f rf hs}:(fl.headD false=true→Cv P t=none)→Rd w [u] [y] f→B5 P w ts fl.tail us ys rf hs→B5 P w (t::ts) fl (u::us) (y::ys) (f++rf) hs
def Pd (P:Program) (w:World) (t:TypeId) (fl:List Bool) (v:Value) (x:AV) (rf hs:List Nat):Prop:=
 ∃us ys,(if Ak P t then v= .agg us.toArray∧x= .agg ys∧ ∀u∈us,u.oneCell'=true else us= [v]∧ys= [x])∧B5 P w (AZ P t) fl us ys rf hs
def Fm (P:Program) (w:World) (t:TypeId) (fl:List Bool) (v:Value) (x:AV) (rf hs:List Nat):Prop:=
 if Ha P t fl then Pd P w t fl v x rf hs else Rd w [v] [x] rf∧hs= []
inductive Kk (P:Program) (w:World):List TypeId→List Bool→List Value→List AV→List Nat→List Nat→Prop where
 |nil {fl}:Kk P w [] fl [] [] [] []
 |cons {t ts fl v vs x xs f h rf hs}:Fm P w t fl v x f h→Kk P w ts (fl.drop (AZ P t).length) vs xs rf hs→Kk P w (t::ts) fl (v::vs) (x::xs) (f++rf) (h++hs)
theorem B5.len {P:Program} {w:World} {ts:List TypeId} {fl:List Bool} {us:List Value} {ys:List AV} {rf hs:List Nat} (h:B5 P w ts fl us ys rf hs):us.length=ts.length∧ys.length=ts.length:=by induction h<;>simp_all
theorem B5.inb {P:Program} {w:World} {ts:List TypeId} {fl:List Bool} {us:List Value} {ys:List AV} {rf hs:List Nat} (h:B5 P w ts fl us ys rf hs):(∀b∈rf,b<w.heap.size)∧ ∀b∈hs,b<w.heap.size:=by
 induction h with
 |nil=>simp
 |deep _ _ _ _ h _ ih=>
  refine⟨ih.1,fun b hb=> ?_⟩;rcases Ag.1 hb with hb|hb
  ·exact h.inb b hb
  ·exact ih.2 b hb
 |own _ _ _ h _ ih=>
  refine⟨fun b hb=> ?_,fun b hb=> ?_⟩
  ·rcases Ag.1 hb with hb|hb
   ·obtain⟨xs,_,_,_,⟨_,_,_,rfl⟩|⟨g,cap,C,_,_,_,_,_,_,_,hr⟩⟩:=h
    ·simp at hb
    ·exact hr.inb b hb
   ·exact ih.1 b hb
  ·rcases Ag.1 hb with hb|hb
   ·obtain⟨xs,_,_,_,⟨_,_,rfl,_⟩|⟨g,cap,C,_,_,_,hh,_,rfl,_⟩⟩:=h
    ·simp at hb
    ·simp at hb;subst hb;exact FX hh
   ·exact ih.2 b hb
 |rd _ h _ ih=>
  refine⟨fun b hb=> ?_,ih.2⟩;rcases Ag.1 hb with hb|hb
  ·exact h.inb b hb
  ·exact ih.1 b hb
structure AD where
 tag:Nat
 new:Option Value
 top:List Nat
 bt:Ad
def AD.pair (r:AD):Nat × Ad:=(r.tag,r.bt)
structure D7 (c c':Cx) (w':World) (recs:List AD):Prop where
 ρ:c'.ρ=c.ρ
 w:c'.w=w'
 G: ∀r∈recs,c'.G r.tag=⟨r.top, []⟩
 new: ∀r∈recs,∀hv,r.new=some hv→c'.K r.tag 0∧(∀g,c'.K r.tag g→g≤0)∧c'.H r.tag 0=hv
 K: ∀t g,c.K t g→c'.K t g∧c'.H t g=c.H t g
 old: ∀t,c.U t→ ∀g,c'.K t g→c.K t g
 j8: ∀r∈recs,r.new.isSome=true→c'.E r.tag=0
 im: ∀r∈recs,r.new=none→c'.E r.tag=c.E r.tag+1
theorem D7.mono {c c':Cx} {w':World} {recs recs':List AD} (h:D7 c c' w' recs) (hs: ∀r∈recs',r∈recs):D7 c c' w' recs':=
 ⟨h.ρ,h.w,fun r hr=>h.G r (hs r hr),fun r hr=>h.new r (hs r hr),h.K,h.old,fun r hr=>h.j8 r (hs r hr),fun r hr=>h.im r (hs r hr)⟩
section
variable {P:Program} {c:Cx} {w':World}
theorem yF {c':Cx} {t:Nat} {u:Value} {el sz:Nat} {y:AV} {top N:List Nat} (h:CK w' el sz u y top N) (hk:c'.K t 0) (hh:c'.H t 0=u):SR c' [.own t 0] [u]:=by
 obtain⟨xs,_,_,_,⟨_,⟨a,rfl⟩,_⟩|⟨g,cap,C,rfl,_⟩⟩:=h
 ·exact .own hk hh .nil
 ·exact .own hk hh .nil
theorem Oe {nx:Nat} {mk:Nat→E} {ts:List TypeId} {fl:List Bool} {us:List Value} {ys:List AV} {rf hs:List Nat} (h:B5 P w' ts fl us ys rf hs): ∀(j:Nat),(∀i y,ys[i]?=some y→(mk (j+i)).den c.ρ=y)→
  ∃recs:List AD,(Cm P nx mk j ts fl).2=recs.map AD.pair∧recs.flatMap AD.top=hs∧(∀r∈recs,nx+j≤r.tag∧r.tag<nx+j+ts.length∧r.new.isSome)∧(recs.map AD.tag).Nodup∧(∀r∈recs,r.new=us[r.tag-(nx+j)]?)∧
   ∀c',D7 c c' w' recs→(∀b∈rf,c'.ok b)→SR c' (Cm P nx mk j ts fl).1 us∧ ∀r∈recs,CD c' r.tag r.bt:=by
 induction h with
 |nil=>exact fun j _=>⟨[],rfl,rfl,by simp,by simp,by simp,fun c' _ _=>⟨.nil,by simp⟩⟩
 | @own t ts fl el u us y ys top N rf hs h1 h2 Po h3 _ ih=>
  intro j EZ;obtain⟨recs,e1,e2,e3,e4,e4',e5⟩:=ih (j+1) (fun i y hy=>by rw [show j+1+i=j+(i+1)from by omega];exact EZ (i+1) y (by simpa using hy));have hy:=EZ 0 y rfl;have Y3:O9 P t el 0 0 (mk j)= .row el (P.cellsOf el) 0 (mk j) (BM P el):=by
   unfold O9;rcases Po with⟨h,_⟩|⟨h,h'⟩
   ·rw [if_pos h,h]
   ·rw [if_neg (by rw [h];simp),h',h]
  simp only [Cm,h1,h2,Y3];refine⟨⟨nx+j,some u,top, .row el (P.cellsOf el) 0 (mk j) (BM P el)⟩::recs,by simp [e1,AD.pair],by simp [e2],fun r hr=> ?_, ?_,fun r hr=> ?_,fun c' ha AF=> ?_⟩
  ·rcases Ae.1 hr with rfl|hr
   ·simp
   ·have:=e3 r hr;simp only [AL];exact⟨by omega,by omega,this.2.2⟩
  ·simp only [List.map_cons,List.nodup_cons];refine⟨fun hm=> ?_,e4⟩;obtain⟨r,hr,H2⟩:=List.mem_map.1 hm;have:=e3 r hr;omega
  ·rcases Ae.1 hr with rfl|hr
   ·simp
   ·rw [e4' r hr];have:=e3 r hr;rw [show r.tag-(nx+j)=(r.tag-(nx+(j+1)))+1 from by omega,List.getElem?_cons_succ]
  ·obtain⟨q1,q2⟩:=e5 c' (ha.mono fun r hr=>by simp [hr]) fun b hb=>AF b (by simp [hb]);obtain⟨k1,k2,k3⟩:=ha.new _ (List.mem_cons_self ..) u rfl;have kg:=ha.G _ (List.mem_cons_self ..);simp only at k1 k2 k3 kg;refine⟨(yF h3 k1 k3).cons q1,fun r hr=> ?_⟩;rcases Ae.1 hr with rfl|hr
   ·refine⟨k1,k2,N, ?_,fun b hb=>AF b (by simp [hb]),fun hd=> ?_,fun _=>by rw [kg]⟩
    rotate_left
    ·rcases Po with⟨_,h⟩|⟨h,_⟩
     ·subst h;exact⟨rfl,by rw [kg]⟩
     ·rw [h]at hd;cases hd
    rw [k3,kg,ha.w,ha.ρ];have Ba:(mk j).den c.ρ=y:=by simpa using hy
    rw [Ba];exact h3
   ·exact q2 r hr
 | @deep t ts fl el e z l u us y ys top rf hs h1 h2 Pn MZ h3 _ ih=>
  intro j EZ;obtain⟨recs,e1,e2,e3,e4,e4',e5⟩:=ih (j+1) (fun i y hy=>by rw [show j+1+i=j+(i+1)from by omega];exact EZ (i+1) y (by simpa using hy));have hy:=EZ 0 y rfl;have Y3:O9 P t el 0 0 (mk j)= .deep e z l.toList 0 0 (mk j):=by unfold O9;rw [if_neg (by rw [Pn];simp),MZ]
  simp only [Cm,h1,h2,Y3];refine⟨⟨nx+j,some u,top, .deep e z l.toList 0 0 (mk j)⟩::recs,by simp [e1,AD.pair],by simp [e2],fun r hr=> ?_, ?_,fun r hr=> ?_,fun c' ha AF=> ?_⟩
  ·rcases Ae.1 hr with rfl|hr
   ·simp
   ·have:=e3 r hr;simp only [AL];exact⟨by omega,by omega,this.2.2⟩
  ·simp only [List.map_cons,List.nodup_cons];refine⟨fun hm=> ?_,e4⟩;obtain⟨r,hr,H2⟩:=List.mem_map.1 hm;have:=e3 r hr;omega
  ·rcases Ae.1 hr with rfl|hr
   ·simp
   ·rw [e4' r hr];have:=e3 r hr;rw [show r.tag-(nx+j)=(r.tag-(nx+(j+1)))+1 from by omega,List.getElem?_cons_succ]
  ·obtain⟨q1,q2⟩:=e5 c' (ha.mono fun r hr=>by simp [hr]) AF;obtain⟨k1,k2,k3⟩:=ha.new _ (List.mem_cons_self ..) u rfl;have kg:=ha.G _ (List.mem_cons_self ..);have ke:=ha.j8 _ (List.mem_cons_self ..) rfl;simp only at k1 k2 k3 kg ke;obtain⟨p1,p2,p3,rfl⟩:=h3.head;refine⟨(SR.own k1 k3 .nil).cons q1,fun r hr=> ?_⟩;rcases Ae.1 hr with rfl|hr
   ·refine⟨k1,k2,ke, ?_,by rw [kg]⟩;have Ba:(mk j).den c.ρ=y:=by simpa using hy
    rw [k3,kg,ha.w,ha.ρ,Ba,AJ.dd];exact h3
   ·exact q2 r hr
 | @rd t ts fl u us y ys f rf hs h1 h3 _ ih=>
  intro j EZ;obtain⟨recs,e1,e2,e3,e4,e4',e5⟩:=ih (j+1) (fun i y hy=>by rw [show j+1+i=j+(i+1)from by omega];exact EZ (i+1) y (by simpa using hy));have hy:=EZ 0 y rfl;have Yt:Cm P nx mk j (t::ts) fl=(.e (mk j)::(Cm P nx mk (j+1) ts fl.tail).1,(Cm P nx mk (j+1) ts fl.tail).2):=by
   simp only [Cm];split
   ·rename_i h8 h9;rw [h1 h8]at h9;cases h9
   ·rfl
  rw [Yt];refine⟨recs,e1,e2,fun r hr=> ?_,e4,fun r hr=> ?_,fun c' ha AF=> ?_⟩
  ·have:=e3 r hr;simp only [AL];exact⟨by omega,by omega,this.2.2⟩
  ·rw [e4' r hr];have:=e3 r hr;rw [show r.tag-(nx+j)=(r.tag-(nx+(j+1)))+1 from by omega,List.getElem?_cons_succ]
  ·obtain⟨q1,q2⟩:=e5 c' ha fun b hb=>AF b (by simp [hb]);have Ba:(mk j).den c.ρ=y:=by simpa using hy
   exact⟨(SR.e (f:=f) (by rw [ha.w,ha.ρ,Ba];exact h3) (fun b hb=>AF b (by simp [hb])) .nil).cons q1,q2⟩
theorem Mn {nx:Nat} {mk:Nat→E}: ∀(j:Nat) (ts:List TypeId) (fl:List Bool) (t:Nat) (e:Ad) {gs:Gd} {f:Ad},(t,e)∈(Cm P nx mk j ts fl).2→e≠ .gd gs f
 |_, [],_,_,_,_,_,h=>by simp [Cm]at h
 |j,u::ts,fl,t,e,gs,f,h=>by
  unfold Cm at h;split at h
  ·rcases Ae.1 h with h|h
   ·cases h;unfold O9;split
    ·simp
    ·split<;>simp
   ·exact Mn _ _ _ _ _ h
  ·exact Mn _ _ _ _ _ h
theorem Sm {ρ:List AV} {x:E} {ys:List AV} (hx:x.den ρ= .agg ys): ∀i y,ys[i]?=some y→(CU x true (0+i)).den ρ=y:=by intro i y hy;simp [CU,E.den,hx,AV.fld,AV.cells,hy]
theorem lQ {nx:Nat} {t:TypeId} {fl:List Bool} {x:E} {v:Value} {y:AV} {rf hs:List Nat} (h:Fm P w' t fl v y rf hs) (hx:x.den c.ρ=y):
  ∃recs:List AD,(Mw P nx t fl x).2=recs.map AD.pair∧recs.flatMap AD.top=hs∧(∀r∈recs,nx≤r.tag∧r.tag<nx+(AZ P t).length∧r.new.isSome)∧(recs.map AD.tag).Nodup∧
   ∀c',D7 c c' w' recs→(∀b∈rf,c'.ok b)→SR c' [(Mw P nx t fl x).1] [v]∧ ∀r∈recs,CD c' r.tag r.bt:=by
 unfold Fm at h;unfold Mw;split at h
 ·rename_i hf;simp only [hf,if_true];obtain⟨us,ys,hg,hc⟩:=h;split at hg
  ·rename_i Au;obtain⟨rfl,rfl,Cr⟩:=hg;obtain⟨recs,e1,e2,e3,e4,_,e5⟩:=Oe (c:=c) (nx:=nx) (mk:=CU x (Ak P t)) hc 0 (by rw [Au];exact Sm hx);refine⟨recs,e1,e2,fun r hr=>by have:=e3 r hr;exact⟨by omega,by omega,this.2.2⟩,e4,fun c' ha AF=> ?_⟩;obtain⟨q1,q2⟩:=e5 c' ha AF;rw [if_pos Au];exact⟨.agg Cr (by rw [Bb.az];exact q1) .nil,q2⟩
  ·rename_i Au;obtain⟨rfl,rfl⟩:=hg;have FG:Ak P t=false:=by simpa using Au
   obtain⟨recs,e1,e2,e3,e4,_,e5⟩:=Oe (c:=c) (nx:=nx) (mk:=CU x (Ak P t)) hc 0 (by
    intro i z hz;cases i with
    |zero=>simp at hz;subst hz;simp [CU,FG,hx]
    |succ i=>simp at hz)
   refine⟨recs,e1,e2,fun r hr=>by have:=e3 r hr;exact⟨by omega,by omega,this.2.2⟩,e4,fun c' ha AF=> ?_⟩;obtain⟨q1,q2⟩:=e5 c' ha AF;refine⟨?_,q2⟩;rw [if_neg Au];have hl:=q1.len;generalize (Cm P nx (CU x (Ak P t)) 0 (AZ P t) fl).1=l at q1 hl
   match l,hl with
   | [s],_=>exact q1
 ·rename_i hf;simp only [hf,if_false,Bu];obtain⟨h1,rfl⟩:=h;exact⟨[],rfl,rfl,by simp,by simp,fun c' ha AF=>⟨.e (f:=rf) (by rw [ha.w,ha.ρ,hx];exact h1) AF .nil,by simp⟩⟩
theorem zrV {ts:List TypeId} {fl:List Bool} {x:E} {vs:List Value} {ys:List AV} {rf hs:List Nat} (h:Kk P w' ts fl vs ys rf hs): ∀(nx i:Nat),(∀k y,ys[k]?=some y→(E.proj x (i+k)).den c.ρ=y)→
  ∃recs:List AD,(La P nx ts fl x i).2=recs.map AD.pair∧recs.flatMap AD.top=hs∧(∀r∈recs,nx≤r.tag∧r.tag<nx+(ts.flatMap (AZ P)).length∧r.new.isSome)∧(recs.map AD.tag).Nodup∧
   ∀c',D7 c c' w' recs→(∀b∈rf,c'.ok b)→SR c' (La P nx ts fl x i).1 vs∧ ∀r∈recs,CD c' r.tag r.bt:=by
 induction h with
 |nil=>exact fun nx i _=>⟨[],rfl,rfl,by simp,by simp,fun c' _ _=>⟨.nil,by simp⟩⟩
 | @cons t ts fl v vs y ys f h rf hs h1 _ ih=>
  intro nx i hx;obtain⟨r1,a1,a2,a3,a4,a5⟩:=lQ (c:=c) (nx:=nx) (x:= .proj x i) h1 (hx 0 y rfl);obtain⟨r2,b1,b2,b3,b4,b5⟩:=ih (nx+(AZ P t).length) (i+1) (fun k z hz=>by rw [show i+1+k=i+(k+1)from by omega];exact hx (k+1) z (by simpa using hz));simp only [La];refine⟨r1++r2,by simp [a1,b1],by simp [a2,b2],fun r hr=> ?_, ?_,fun c' ha AF=> ?_⟩
  ·simp only [List.flatMap_cons,AG];rcases Ag.1 hr with hr|hr
   ·have:=a3 r hr;exact⟨this.1,by omega,this.2.2⟩
   ·have:=b3 r hr;exact⟨by omega,by omega,this.2.2⟩
  ·rw [List.map_append,List.nodup_append];refine⟨a4,b4,fun t1 Qn t2 Qo he=> ?_⟩;obtain⟨q1,KF,rfl⟩:=List.mem_map.1 Qn;obtain⟨q2,Gf,rfl⟩:=List.mem_map.1 Qo;have:=a3 q1 KF;have:=b3 q2 Gf;omega
  ·obtain⟨p1,p2⟩:=a5 c' (ha.mono fun r hr=>by simp [hr]) fun b hb=>AF b (by simp [hb]);obtain⟨q1,q2⟩:=b5 c' (ha.mono fun r hr=>by simp [hr]) fun b hb=>AF b (by simp [hb]);refine⟨p1.cons q1,fun r hr=> ?_⟩;rcases Ag.1 hr with hr|hr
   ·exact p2 r hr
   ·exact q2 r hr
end
theorem R3 {α:Type} {f:α→List Nat}: ∀{l:List α},(l.flatMap f).Nodup→(∀a∈l,(f a).Nodup)∧ ∀(i j:Nat) (a b:α) (x:Nat),l[i]?=some a→l[j]?=some b→x∈f a→x∈f b→i=j
 | [],_=>⟨by simp,by simp⟩
 |a::l,h=>by
  rw [List.flatMap_cons,List.nodup_append]at h;obtain⟨h1,h2,h3⟩:=h;obtain⟨k1,k2⟩:=R3 h2;refine⟨fun b hb=> ?_,fun i j p q x hi hj hp hq=> ?_⟩
  ·rcases Ae.1 hb with rfl|hb
   ·exact h1
   ·exact k1 b hb
  ·cases i with
   |zero=>
    cases j with
    |zero=>rfl
    |succ j=>simp at hi hj;subst hi;exact absurd rfl (h3 x hp x (List.mem_flatMap.2 ⟨q,List.mem_of_getElem? hj,hq⟩))
   |succ i=>
    cases j with
    |zero=>simp at hi hj;subst hj;exact absurd rfl (h3 x hq x (List.mem_flatMap.2 ⟨p,List.mem_of_getElem? hi,hp⟩))
    |succ j=>rw [k2 i j p q x (by simpa using hi) (by simpa using hj) hp hq]
theorem OI {recs:List AD} (hn:(recs.map AD.tag).Nodup) {r:AD} (hr:r∈recs) (p:AD→Bool) (hp:p r=true) (Dw: ∀q,p q=true→q.tag=r.tag):recs.find? p=some r:=by
 induction recs with
 |nil=>simp at hr
 |cons q recs ih=>
  simp only [List.map_cons,List.nodup_cons]at hn;rw [List.find?_cons];rcases Ae.1 hr with rfl|hr
  ·simp [hp]
  ·have:p q=false:=by
    cases hq:p q with
    |false=>rfl
    |true=>exact absurd (List.mem_map.2 ⟨r,hr,(Dw q hq).symm⟩) hn.1
   rw [this];exact ih hn.2 hr
def Cx.ed (c:Cx) (w':World) (recs:List AD):Cx:=
 {c with w:=w',G:=fun t=>(match recs.find? (fun r=>r.tag==t)with|some r=>⟨r.top, []⟩|none=>c.G t),K:=fun t g=>c.K t g∨ ∃r∈recs,r.tag=t∧r.new.isSome=true∧g=0,H:=fun t g=>(match recs.find? (fun r=>r.tag==t&&r.new.isSome)with|some r=>r.new.getD undef|none=>c.H t g),U:=fun t=>c.U t∨ ∃r∈recs,r.tag=t,E:=fun t=>match recs.find? (fun r=>r.tag==t)with|some r=>if r.new.isSome then 0 else c.E t+1|none=>c.E t}
section
variable {P:Program} {c:Cx} {n:Nat} {sl:Nat→SV} {hp:Nat→Option Ad} {a:Act} {w':World} {recs:List AD}
theorem Cx.en (hn:(recs.map AD.tag).Nodup) {r:AD} (hr:r∈recs):(c.ed w' recs).G r.tag=⟨r.top, []⟩:=by simp only [Cx.ed];rw [OI hn hr (fun q=>q.tag==r.tag) (by simp) (fun q hq=>by simpa using hq)]
theorem Cx.dm {t:Nat} (ht: ∀r∈recs,r.tag≠t):(c.ed w' recs).G t=c.G t:=by
 simp only [Cx.ed];have:recs.find? (fun r=>r.tag==t)=none:=by rw [List.find?_eq_none];intro r hr;simpa using ht r hr
 rw [this]
theorem Cx.eg (hU: ∀t g,c.K t g→c.U t) (hn:(recs.map AD.tag).Nodup) (AS: ∀r∈recs,r.new.isSome=true→ ¬c.U r.tag):D7 c (c.ed w' recs) w' recs:=by
 refine⟨rfl,rfl,fun r hr=>Cx.en hn hr,fun r hr hv TL=>⟨.inr ⟨r,hr,rfl,by simp [TL],rfl⟩,fun g hg=> ?_, ?_⟩,fun t g hk=>⟨.inl hk, ?_⟩,fun t ht g hk=> ?_,fun r hr hs=> ?_,fun r hr hs=> ?_⟩
 ·rcases hg with hg|⟨_,_,_,_,rfl⟩
  ·exact absurd (hU _ _ hg) (AS r hr (by simp [TL]))
  ·exact Nat.le_refl _
 ·simp only [Cx.ed];rw [OI hn hr (fun q=>q.tag==r.tag&&q.new.isSome) (by simp [TL]) (fun q hq=>by simp only [Ac,beq_iff_eq]at hq;exact hq.1)];simp [TL]
 ·simp only [Cx.ed];have:recs.find? (fun r=>r.tag==t&&r.new.isSome)=none:=by
   rw [List.find?_eq_none];rintro r hr hh;simp only [Ac,beq_iff_eq]at hh;exact AS r hr hh.2 (hh.1▸hU t g hk)
  rw [this]
 ·rcases hk with hk|⟨r,hr,rfl,hh,_⟩
  ·exact hk
  ·exact absurd ht (AS r hr hh)
 ·simp only [Cx.ed];rw [OI hn hr (fun q=>q.tag==r.tag) (by simp) (fun q hq=>by simpa using hq)];simp [hs]
 ·simp only [Cx.ed];rw [OI hn hr (fun q=>q.tag==r.tag) (by simp) (fun q hq=>by simpa using hq)];simp [hs]
theorem Cx.jm {t:Nat} (ht: ∀r∈recs,r.tag≠t):(c.ed w' recs).E t=c.E t:=by
 simp only [Cx.ed];have:recs.find? (fun r=>r.tag==t)=none:=by rw [List.find?_eq_none];intro r hr;simpa using ht r hr
 rw [this]
theorem Rel.changes (h:Rel c n sl hp a) {hs:List Nat} {gs:Gd} (k:A1 c.ρ gs) (C5:Mod hs c.w w') (hn:(recs.map AD.tag).Nodup) (AS: ∀r∈recs,r.new.isSome=true→ ¬c.U r.tag)
  (FQ: ∀b∈hs,∃r∈recs,b∈(c.G r.tag).top) (DU:(recs.flatMap AD.top).Nodup) (BP: ∀r∈recs,∀b∈r.top,(b∈hs∨c.w.heap.size≤b)∧b<w'.heap.size)
  (BE: ∀r∈recs,∀hs f,r.bt≠ .gd hs f) (A8:CX c (c.ed w' recs)→ ∀r∈recs,CD (c.ed w' recs) r.tag r.bt):
  Rel (c.ed w' recs) n sl (AW hp (recs.map fun r=>(r.tag,Co gs r.bt))) a∧CX c (c.ed w' recs):=by
 have aft:=Cx.eg (w':=w') h.cg hn AS;have iY: ∀b∈hs,c.M b:=fun b hb=>by obtain⟨r,_,hr⟩:=FQ b hb;exact⟨_,hr⟩
 have Bk: ∀b∈hs,c.B≤b∨c.Mu b:=fun b hb=>by obtain⟨r,_,hr⟩:=FQ b hb;exact h.gw.allow r.tag b (by simp [GI.own,hr])
 have Bw:CX c (c.ed w' recs):=by
  refine⟨rfl,rfl,fun b hb AF=>⟨fun⟨t,ht⟩=> ?_,AF.2⟩,fun b hb AF=>C5.block b hb fun hh=>AF.1 (iY b hh),aft.K,fun t g hk=> ?_⟩;by_cases hT: ∃r∈recs,r.tag=t
  ·obtain⟨r,hr,rfl⟩:=hT;rw [Cx.en hn hr]at ht;rcases(BP r hr b ht).1 with hh|hh
   ·exact AF.1 (iY b hh)
   ·omega
  ·rw [Cx.dm fun r hr hh=>hT ⟨r,hr,hh⟩]at ht;exact AF.1 ⟨t,ht⟩
  ·by_cases hT: ∃r∈recs,r.tag=t
   ·obtain⟨r,hr,rfl⟩:=hT;have DP:r.new=none:=by
     cases hh:r.new with
     |none=>rfl
     |some v=>exact absurd (h.cg _ _ hk) (AS r hr (by simp [hh]))
    rw [aft.im r hr DP];exact⟨by omega,fun h=>by omega⟩
   ·have hY: ∀r∈recs,r.tag≠t:=fun r hr hh=>hT ⟨r,hr,hh⟩;rw [Cx.jm hY,Cx.dm hY];refine⟨Nat.le_refl _,fun _=>⟨rfl,fun b hb FI=>C5.block b FI fun hh=> ?_⟩⟩;obtain⟨r,hr,HI⟩:=FQ b hh;exact h.gw.c7 t r.tag (fun hh=>hT ⟨r,hr,hh.symm⟩) b (by simp [GI.own,hb]) (by simp [GI.own,HI])
 have A8:=A8 Bw;have H6: ∀r∈recs,∀e',(r.tag,e')∈(recs.map fun r=>(r.tag,Co gs r.bt))→e'=Co gs r.bt:=by
  intro r hr e' D0;obtain⟨q,hq,Hk⟩:=List.mem_map.1 D0;simp only [Prod.mk.injEq]at Hk;obtain⟨h1,rfl⟩:=Hk;have e1:=Cx.en (c:=c) (w':=w') hn hr;have:q=r:=by have f1:=OI hn hr (fun q=>q.tag==r.tag) (by simp) (fun q hq=>by simpa using hq);have f2:=OI hn hq (fun p=>p.tag==r.tag) (by simp [h1]) (fun p hp=>by rw [h1];simpa using hp);rw [f1]at f2;cases f2;rfl
  rw [this]
 refine⟨h.change (fun t=> ∃r∈recs,r.tag=t) Bw ⟨C5.os.trans h.base.os,C5.tape.trans h.base.tape,C5.output.trans h.base.output,Nat.le_trans h.base.size C5.size,fun t v M6=>⟨.inl (h.base.pins t v M6).1,fun hk=> ?_⟩,fun b hb GO=> ?_,h.base.pk,h.base.lo⟩
  (fun t ht=>⟨JV fun e he=> ?_,Cx.dm fun r hr hh=>ht ⟨r,hr,hh⟩,Cx.jm fun r hr hh=>ht ⟨r,hr,hh⟩,fun g hg=> ?_⟩) (fun t ht b hb=>C5.block b (h.gw.inb t b (by simp [GI.own,hb])) fun hh=> ?_) (fun t ht=> ?_) ⟨fun t=> ?_,fun t u KK b hb BJ=> ?_,fun t b hb=> ?_,fun t b hb=> ?_⟩ (fun t g hk=> ?_) (fun t e he=> ?_),Bw⟩
 ·have Bx:=aft.old t (h.base.pins t v M6).1 0 hk;rw [(aft.K t 0 Bx).2];exact(h.base.pins t v M6).2 Bx
 ·refine(C5.block b (Nat.lt_of_lt_of_le hb h.base.size) fun hh=> ?_).trans (h.base.block b hb GO);rcases Bk b hh with h1|h1
  ·exact absurd h1 (Nat.not_le.2 hb)
  ·exact GO h1
 ·obtain⟨q,hq,Hk⟩:=List.mem_map.1 he;simp only [Prod.mk.injEq]at Hk;exact ht ⟨q,hq,Hk.1⟩
 ·rcases hg with hg|⟨r,hr,H2,_⟩
  ·exact hg
  ·exact absurd ⟨r,hr,H2⟩ ht
 ·obtain⟨r,hr,FI⟩:=FQ b hh;exact h.gw.c7 t r.tag (fun hh=>ht ⟨r,hr,hh.symm⟩) b (by simp [GI.own,hb]) (by simp [GI.own,FI])
 ·obtain⟨r,hr,rfl⟩:=ht;have Db:=fB (hp:=hp) (l:=recs.map fun r=>(r.tag,Co gs r.bt)) (List.mem_map.2 ⟨r,hr,rfl⟩) (H6 r hr);rw [Db];refine⟨fun e' Qi=> ?_,fun DP=> ?_⟩
  ·rw [(OL k (BE r hr)).1 Qi];exact A8 r hr
  ·exact absurd ((OL k (BE r hr)).2 rfl) (DP r.bt)
 ·by_cases hT: ∃r∈recs,r.tag=t
  ·obtain⟨r,hr,rfl⟩:=hT;rw [Cx.en hn hr];simpa [GI.own]using(R3 DU).1 r hr
  ·rw [Cx.dm fun r hr hh=>hT ⟨r,hr,hh⟩];exact h.gw.nodup t
 ·by_cases hT: ∃r∈recs,r.tag=t
  ·obtain⟨r,hr,rfl⟩:=hT;rw [Cx.en hn hr]at hb;simp only [GI.own,List.append_nil]at hb;by_cases hV: ∃r∈recs,r.tag=u
   ·obtain⟨q,hq,rfl⟩:=hV;rw [Cx.en hn hq]at BJ;simp only [GI.own,List.append_nil]at BJ;obtain⟨i,hi⟩:=List.getElem?_of_mem hr;obtain⟨j,hj⟩:=List.getElem?_of_mem hq;have:=(R3 DU).2 i j r q b hi hj hb BJ;subst this;rw [hi]at hj;cases hj;exact KK rfl
   ·rw [Cx.dm fun r hr hh=>hV ⟨r,hr,hh⟩]at BJ;rcases(BP r hr b hb).1 with hh|hh
    ·obtain⟨q,hq,rQ⟩:=FQ b hh;exact h.gw.c7 q.tag u (fun hh=>hV ⟨q,hq,hh⟩) b (by simp [GI.own,rQ]) BJ
    ·have:=h.gw.inb u b BJ;omega
  ·rw [Cx.dm fun r hr hh=>hT ⟨r,hr,hh⟩]at hb;by_cases hV: ∃r∈recs,r.tag=u
   ·obtain⟨q,hq,rfl⟩:=hV;rw [Cx.en hn hq]at BJ;simp only [GI.own,List.append_nil]at BJ;rcases(BP q hq b BJ).1 with hh|hh
    ·obtain⟨r,hr,Tz⟩:=FQ b hh;exact h.gw.c7 r.tag t (fun hh=>hT ⟨r,hr,hh⟩) b (by simp [GI.own,Tz]) hb
    ·have:=h.gw.inb t b hb;omega
   ·rw [Cx.dm fun r hr hh=>hV ⟨r,hr,hh⟩]at BJ;exact h.gw.c7 t u KK b hb BJ
 ·by_cases hT: ∃r∈recs,r.tag=t
  ·obtain⟨r,hr,rfl⟩:=hT;rw [Cx.en hn hr]at hb;simp only [GI.own,List.append_nil]at hb;rcases(BP r hr b hb).1 with hh|hh
   ·exact Bk b hh
   ·exact .inl (Nat.le_trans h.base.size hh)
  ·rw [Cx.dm fun r hr hh=>hT ⟨r,hr,hh⟩]at hb;exact h.gw.allow t b hb
 ·by_cases hT: ∃r∈recs,r.tag=t
  ·obtain⟨r,hr,rfl⟩:=hT;rw [Cx.en hn hr]at hb;simp only [GI.own,List.append_nil]at hb;exact(BP r hr b hb).2
  ·rw [Cx.dm fun r hr hh=>hT ⟨r,hr,hh⟩]at hb;exact Nat.lt_of_lt_of_le (h.gw.inb t b hb) C5.size
 ·rcases hk with hk|⟨r,hr,H2,_⟩
  ·exact .inl (h.cg t g hk)
  ·exact .inr ⟨r,hr,H2⟩
 ·by_cases hT: ∃r∈recs,r.tag=t
  ·exact .inr hT
  ·rw [JV]at he
   ·exact .inl (h.c8 t e he)
   ·intro e' D0;obtain⟨q,hq,Hk⟩:=List.mem_map.1 D0;simp only [Prod.mk.injEq]at Hk;exact hT ⟨q,hq,Hk.1⟩
end
def ZQ (P:Program) (w:World) (t:TypeId):PM→Value→AV→List Nat→List Nat→Prop
 | .ro,v,x,rf,hs=>Rd w [v] [x] rf∧hs= []
 | .va own,v,x,rf,hs=>Pd P w t own v x rf hs
 | .mu own,v,x,rf,hs=>Pd P w t own v x rf hs
 | .bx own _,v,x,rf,hs=> ∃(ty:TypeId) (b:Nat) (C:Array Value) (ys:List AV) (h:List Nat),IG P t=some ty∧v= .pointer (some ⟨b,0,none⟩)∧w.heap[b]?=some (.cells C ty (0,0))∧(∀u∈C.toList,u.oneCell'=true)∧x= .ref (.agg ys)∧
   B5 P w (AZ P ty) own C.toList ys rf h∧hs=b::h
inductive CT (P:Program) (w:World):List TypeId→List PM→List Bool→List Value→List AV→List Nat→List Nat→List Nat→Prop where
 |nil {ms lo}:CT P w [] ms lo [] [] [] [] []
 |cons {t ts ms lo v vs x xs f h rf lf hs}:ZQ P w t (ms.headD .ro) v x f h→CT P w ts ms.tail lo.tail vs xs rf lf hs→CT P w (t::ts) ms lo (v::vs) (x::xs) (f++rf) lf (h++hs)
 |lent {t ts ms lo v vs x xs f rf lf hs}:lo.headD false=true→ms.headD .ro= .ro→Rd w [v] [x] f→CT P w ts ms.tail lo.tail vs xs rf lf hs→CT P w (t::ts) ms lo (v::vs) (x::xs) rf (f++lf) hs
 |free {ms lo v vs x xs f rf lf hs}:Rd w [v] [x] f→CT P w [] ms.tail lo.tail vs xs rf lf hs→CT P w [] ms lo (v::vs) (x::xs) (f++rf) lf hs
inductive FB (P:Program) (c:Cx):List TypeId→List Bool→List Value→List (Option RI)→Prop where
 |nil {fl}:FB P c [] fl [] []
 |row {t ts fl v vs u g el rs}:fl.headD false=true→Cv P t=some el→(BM P el=true∨Dm P t=none)→c.K u g→c.H u g=v→(∀g',c.K u g'→g'≤g)→FB P c ts fl.tail vs rs→FB P c (t::ts) fl (v::vs) (some (.fl u g el (P.cellsOf el) (BM P el))::rs)
 |deep {t ts fl v vs u g el e z l ep rs}:fl.headD false=true→Cv P t=some el→BM P el=false→Dm P t=some (.row e z (AJ.of l))→c.K u g→c.H u g=v→(∀g',c.K u g'→g'≤g)→c.E u=ep→FB P c ts fl.tail vs rs→FB P c (t::ts) fl (v::vs) (some (.dp u g e z l ep)::rs)
 |none {t ts fl v vs rs}:(fl.headD false=true→Cv P t=none∨ ∃a,v= .slice a 0 0)→FB P c ts fl.tail vs rs→FB P c (t::ts) fl (v::vs) (none::rs)
inductive Hs (P:Program) (c:Cx):List TypeId→List PM→List Value→List PA→Prop where
 |nil {ts ms}:Hs P c ts ms [] []
 |ro {ts ms v vs bs}:ms.headD .ro= .ro→Hs P c ts.tail ms.tail vs bs→Hs P c ts ms (v::vs) bs
 |va {ts ms own v vs bs us}:ms.headD .ro= .va own→(∀u∈us,c.U u)→Hs P c ts.tail ms.tail vs bs→Hs P c ts ms (v::vs) (.va us::bs)
 |mu {t ts ms own v vs bs us rs}:ms.headD .ro= .mu own→(if Ak P t then v= .agg us.toArray else us= [v])→FB P c (AZ P t) own us rs→Hs P c ts ms.tail vs bs→Hs P c (t::ts) ms (v::vs) (.mu rs (Ak P t)::bs)
 |bx {t ts ms own own' ty v vs bs T b g olds}:ms.headD .ro= .bx own own'→IG P t=some ty→v= .pointer (some ⟨b,0,none⟩)→c.K T 0→c.H T 0=v→(∀u∈olds,c.U u)→Hs P c ts ms.tail vs bs→Hs P c (t::ts) ms (v::vs) (.box T g own' ty olds::bs)
section
variable {P:Program} {c:Cx} {hp:Nat→Option Ad} {gs:Gd}
theorem Xq {t el:TypeId} {d:DT} (Bc:Cv P t=some el) (h:Dm P t=some d):P.cellsOf el≠0∧(AZ P el).length=P.cellsOf el∧ ∃l:List DT,d= .row el (P.cellsOf el) (AJ.of l)∧l.length=P.cellsOf el:=by
 have hu:=IU Bc;unfold Dm at h;split at h
 ·cases h
 simp only [X2,hu]at h;split at h
 ·cases h
 ·rename_i hh;simp only [not_or,Decidable.not_not,ne_eq]at hh;obtain⟨l,hl,rfl⟩:=An.1 h;exact⟨hh.1,hh.2,l,rfl,by rw [mapM_len _ _ hl];exact hh.2⟩
where
 mapM_len {α β:Type} {f:α→Option β}: ∀(l:List α) (l':List β),l.mapM f=some l'→l'.length=l.length
  | [],l',h=>by simp at h;subst h;rfl
  |a::l,l',h=>by simp only [List.mapM_cons,Option.bind_eq_bind,Ao,Option.pure_def,Ab]at h;obtain⟨b,_,bs,PC,rfl⟩:=h;simp [mapM_len l bs PC]
theorem B5.void {w:World} {t el:TypeId} {ts:List TypeId} {fl:List Bool} {a:Option Addr} {us:List Value} {ys:List AV} {rf hs:List Nat} (h1:fl.headD false=true) (h2:Cv P t=some el) (hz:P.cellsOf el≠0) (h:B5 P w ts fl.tail us ys rf hs):B5 P w (t::ts) fl (.slice a 0 0::us) (.sl []::ys) rf ([]++hs):=by
 have Bk:CK w el (P.cellsOf el) (.slice a 0 0) (.sl []) [] []:=⟨[],rfl,by simp,by omega, .inl ⟨rfl,⟨a,rfl⟩,rfl,rfl⟩⟩
 cases hf:BM P el with
 |true=>exact .own h1 h2 (.inl ⟨hf,rfl⟩) Bk h
 |false=>
  cases hd:Dm P t with
  |none=>exact .own h1 h2 (.inr ⟨hf,hd⟩) Bk h
  |some d=>obtain⟨_,_,l,rfl,hl⟩:=Xq h2 hd;exact .deep h1 h2 hf hd (.void (by omega) (by rw [AJ.az];exact hl) .nil) h
theorem mM {as_ bs:List Value} (h:Value.agg as_.toArray= .agg bs.toArray):as_=bs:=by
 have h1:as_.toArray=bs.toArray:=by injection h
 have:=congrArg Array.toList h1;simpa using this
theorem cS (eh:EH c hp) (k:A1 c.ρ gs) (hU: ∀t g,c.K t g→c.U t): ∀(ts:List TypeId) {cs:List SV} {fl:List Bool} {rs:List (Option RI)} {us:List Nat} {vs:List Value} {xs:EL} {m:Nat},FY P hp gs ts cs fl=some (rs,us)→SR c cs vs→BZ hp gs m cs=some xs→m≤AN→
  ∃rf hs,B5 P c.w ts fl vs (xs.den c.ρ) rf hs∧(∀b∈rf,c.fg us b)∧hs=(Ca rs).flatMap (fun t=>(c.G t).top)∧FB P c ts fl vs rs∧ ∀u∈Ca rs,c.U u
 | [], [],fl,rs,us,vs,xs,m,h,hs,hx,hm=>by
  simp [FY]at h;obtain⟨rfl,rfl⟩:=h;cases hs;cases m with
  |zero=>simp [BZ]at hx
  |succ m=>simp [BZ]at hx;subst hx;exact⟨[], [], .nil,by simp,by simp [Ca], .nil,by simp [Ca]⟩
 | [],s::cs,fl,rs,us,vs,xs,m,h,hs,hx,hm=>by simp [FY]at h
 |t::ts, [],fl,rs,us,vs,xs,m,h,hs,hx,hm=>by simp [FY]at h
 |t::ts,s::cs,fl,rs,us, [],xs,m,h,hs,hx,hm=>by have:=hs.len;simp at this
 |t::ts,s::cs,fl,rs,us,v::vs,xs,m,h,hs,hx,hm=>by
  obtain⟨j,y,ys,rfl,hy,CN,rfl⟩:=IV hx;obtain⟨r1,r2⟩:=hs.cv;unfold FY at h;split at h
  ·cases h
  rename_i rs' us' CB;obtain⟨rf,AY,q1,q2,q3,q4,q5⟩:=cS eh k hU ts CB r2 CN (by omega);split at h
  ·rename_i hf;split at h
   ·rename_i r hr;simp only [Ab,Prod.mk.injEq]at h;obtain⟨rfl,rfl⟩:=h;unfold fJ at hr;split at hr
    ·cases hr
    rename_i el Bc;split at hr
    ·cases hr
    rename_i hz;have empt: ∀a,v= .slice a 0 0→y.den c.ρ= .sl []→r=none→ ∃rf hs,B5 P c.w (t::ts) fl (v::vs) ((EL.cons y ys).den c.ρ) rf hs∧(∀b∈rf,c.fg us' b)∧hs=(Ca (r::rs')).flatMap (fun t=>(c.G t).top)∧FB P c (t::ts) fl (v::vs) (r::rs')∧ ∀u∈Ca (r::rs'),c.U u:=by rintro a rfl Hm rfl;refine⟨rf, []++AY, ?_,q2,by simpa [Ca]using q3, .none (fun _=> .inr ⟨a,rfl⟩) q4,by simpa [Ca]using q5⟩;rw [EL.den,Hm];exact B5.void hf Bc (by omega) q1
    split at hr
    ·simp only [Ab]at hr;subst hr;cases r1 with
     |cr _=>exact empt _ rfl (by rw [JS hy];rfl) rfl
    ·simp only [Ab]at hr;subst hr;cases r1 with
     |emp _=>
      refine empt _ rfl ?_ rfl;cases j with
      |zero=>simp [A5]at hy
      |succ j=>simp [A5]at hy;subst hy;rfl
    ·rename_i u g;split at hr
     ·rename_i e z g' x d hl;split at hr
      ·rename_i hh;obtain⟨rfl,rfl,rfl,FL⟩:=hh;simp only [Ab]at hr;subst hr;obtain⟨p1,p2,N,p3,p4,p5,_⟩:=eh u _ (Cu hl k);have LG:BM P e=true∨Dm P t=none:=FL.imp (·.1) (by rintro⟨_,h⟩;simpa using h);have FL:BM P e=true∧N= []∨BM P e=false∧Dm P t=none:=by
        rcases FL with⟨h1,h2⟩|⟨h1,h2⟩
        ·exact .inl ⟨h1,(p5 h2).1⟩
        ·exact .inr ⟨h1,by simpa using h2⟩
       have GU:y=x:=by
        cases j with
        |zero=>simp [A5]at hy
        |succ j=>simp [A5,GY,hl]at hy;exact hy.symm
       subst GU;have hv:c.H u g=v:=by
        cases r1 with
        |own _ k2 _=>exact k2
       rw [hv]at p3;refine⟨N++rf,(c.G u).top++AY,B5.own hf Bc FL p3 q1,fun b hb=> ?_,by simp [Ca,RI.tag,q3], .row hf Bc LG p1 hv p2 q4,fun w hw=> ?_⟩
       ·rcases Ag.1 hb with hb|hb
        ·exact .inl (p4 b hb)
        ·exact q2 b hb
       simp only [Ca,List.filterMap_cons,Option.map_some,RI.tag,Ae]at hw;rcases hw with rfl|hw
       ·exact hU _ _ p1
       ·exact q5 w hw
      ·cases hr
     ·rename_i e z l g' ep x hl;split at hr
      ·rename_i hh;obtain⟨rfl,E3,C2⟩:=hh;have C2:=WZ C2;simp only [Ab]at hr;subst hr;obtain⟨p1,p2,pE,p3,_⟩:=eh u _ (Cu hl k);have GU:y=x:=by
        cases j with
        |zero=>simp [A5]at hy
        |succ j=>simp [A5,GY,hl]at hy;exact hy.symm
       subst GU;have hv:c.H u g=v:=by
        cases r1 with
        |own _ k2 _=>exact k2
       rw [hv]at p3;refine⟨rf,(c.G u).top++AY,B5.deep hf Bc E3 C2 p3 q1,q2,by simp [Ca,RI.tag,q3], .deep hf Bc E3 C2 p1 hv p2 pE q4,fun w hw=> ?_⟩;simp only [Ca,List.filterMap_cons,Option.map_some,RI.tag,Ae]at hw;rcases hw with rfl|hw
       ·exact hU _ _ p1
       ·exact q5 w hw
      ·cases hr
     ·cases hr
    ·cases hr
   ·cases h
  ·rename_i hf;simp only [Ab,Prod.mk.injEq]at h;obtain⟨rfl,rfl⟩:=h;obtain⟨f,p1,p2⟩:=Gt eh k j hy r1 AN (by omega);refine⟨f++rf,AY,B5.rd (fun hh=>absurd hh hf) p1 q1,fun b hb=> ?_,by simpa [Ca]using q3, .none (fun hh=>absurd hh hf) q4,by simpa [Ca]using q5⟩;rcases Ag.1 hb with hb|hb
   ·exact(p2 b hb).mono fun t ht=>by simp [ht]
   ·exact(q2 b hb).mono fun t ht=>by simp [ht]
theorem mQ (eh:EH c hp) (k:A1 c.ρ gs) (hU: ∀t g,c.K t g→c.U t) {t:TypeId} {s:SV} {v:Value} {fl:List Bool} {rs:List (Option RI)} {us:List Nat} {x:E} (hs:SR c [s] [v]) (hx:A5 hp gs AN s=some x) (hg:(Gs s).2=Ak P t)
  (h:FY P hp gs (AZ P t) (Gs s).1 fl=some (rs,us)):
  ∃rf hs,Pd P c.w t fl v (x.den c.ρ) rf hs∧(∀b∈rf,c.fg us b)∧hs=(Ca rs).flatMap (fun t=>(c.G t).top)∧(∃vs',(if Ak P t then v= .agg vs'.toArray else vs'= [v])∧FB P c (AZ P t) fl vs' rs)∧ ∀u∈Ca rs,c.U u:=by
 have single: ∀(s:SV),SR c [s] [v]→A5 hp gs AN s=some x→Ak P t=false→FY P hp gs (AZ P t) [s] fl=some (rs,us)→ ∃rf hs,Pd P c.w t fl v (x.den c.ρ) rf hs∧(∀b∈rf,c.fg us b)∧hs=(Ca rs).flatMap (fun t=>(c.G t).top)∧(∃vs',(if Ak P t then v= .agg vs'.toArray else vs'= [v])∧FB P c (AZ P t) fl vs' rs)∧ ∀u∈Ca rs,c.U u:=by
  intro s hs hx Au h;obtain⟨t0,Zj⟩: ∃t0,AZ P t= [t0]:=by
   cases hh:AZ P t with
   |nil=>rw [hh]at h;simp [FY]at h
   |cons t0 l=>
    cases l with
    |nil=>exact⟨t0,rfl⟩
    |cons t1 l=>rw [hh]at h;simp [FY]at h
  rw [Zj]at h;have key: ∃rf hs,B5 P c.w [t0] fl [v] [x.den c.ρ] rf hs∧(∀b∈rf,c.fg us b)∧hs=(Ca rs).flatMap (fun t=>(c.G t).top)∧FB P c [t0] fl [v] rs∧ ∀u∈Ca rs,c.U u:=by
   unfold FY at h;simp only [FY]at h;split at h
   ·rename_i hf;split at h
    ·rename_i r hr;simp only [Ab,Prod.mk.injEq]at h;obtain⟨rfl,rfl⟩:=h;unfold fJ at hr;split at hr
     ·cases hr
     rename_i el Bc;split at hr
     ·cases hr
     rename_i hz;have empt: ∀a,v= .slice a 0 0→x.den c.ρ= .sl []→r=none→ ∃rf hs,B5 P c.w [t0] fl [v] [x.den c.ρ] rf hs∧(∀b∈rf,c.fg ([]:List Nat) b)∧hs=(Ca [r]).flatMap (fun t=>(c.G t).top)∧FB P c [t0] fl [v] [r]∧ ∀u∈Ca [r],c.U u:=by rintro a rfl Hm rfl;refine⟨[], []++ [], ?_,by simp,by simp [Ca], .none (fun _=> .inr ⟨a,rfl⟩) .nil,by simp [Ca]⟩;rw [Hm];exact B5.void hf Bc (by omega) .nil
     split at hr
     ·simp only [Ab]at hr;subst hr;cases hs with
      |cr _=>exact empt _ rfl (by rw [JS hx];rfl) rfl
     ·simp only [Ab]at hr;subst hr;cases hs with
      |emp _=>refine empt _ rfl ?_ rfl;simp [AN,A5]at hx;subst hx;rfl
     ·rename_i u g;split at hr
      ·rename_i e z g' x0 d hl;split at hr
       ·rename_i hh;obtain⟨rfl,rfl,rfl,FL⟩:=hh;simp only [Ab]at hr;subst hr;obtain⟨p1,p2,N,p3,p4,p5,_⟩:=eh u _ (Cu hl k);have LG:BM P e=true∨Dm P t0=none:=FL.imp (·.1) (by rintro⟨_,h⟩;simpa using h);have FL:BM P e=true∧N= []∨BM P e=false∧Dm P t0=none:=by
         rcases FL with⟨h1,h2⟩|⟨h1,h2⟩
         ·exact .inl ⟨h1,(p5 h2).1⟩
         ·exact .inr ⟨h1,by simpa using h2⟩
        have GU:x=x0:=by simp [AN,A5,GY,hl]at hx;exact hx.symm
        subst GU;have hv:c.H u g=v:=by
         cases hs with
         |own _ k2 _=>exact k2
        rw [hv]at p3;refine⟨N++ [],(c.G u).top++ [],B5.own hf Bc FL p3 .nil,fun b hb=> .inl (p4 b (by simpa using hb)),by simp [Ca,RI.tag], .row hf Bc LG p1 hv p2 .nil,fun w hw=> ?_⟩;simp only [Ca,List.filterMap_cons,Option.map_some,RI.tag,List.filterMap_nil,Ae,List.not_mem_nil,or_false]at hw;subst hw;exact hU _ _ p1
       ·cases hr
      ·rename_i e z l g' ep x0 hl;split at hr
       ·rename_i hh;obtain⟨rfl,E3,C2⟩:=hh;have C2:=WZ C2;simp only [Ab]at hr;subst hr;obtain⟨p1,p2,pE,p3,_⟩:=eh u _ (Cu hl k);have GU:x=x0:=by
         simp [AN,A5,GY,hl]at hx;exact hx.symm
        subst GU;have hv:c.H u g=v:=by
         cases hs with
         |own _ k2 _=>exact k2
        rw [hv]at p3;refine⟨[],(c.G u).top++ [],B5.deep hf Bc E3 C2 p3 .nil,by simp,by simp [Ca,RI.tag], .deep hf Bc E3 C2 p1 hv p2 pE .nil,fun w hw=> ?_⟩;simp only [Ca,List.filterMap_cons,Option.map_some,RI.tag,List.filterMap_nil,Ae,List.not_mem_nil,or_false]at hw;subst hw;exact hU _ _ p1
       ·cases hr
      ·cases hr
     ·cases hr
    ·cases h
   ·rename_i hf;simp only [Ab,Prod.mk.injEq]at h;obtain⟨rfl,rfl⟩:=h;obtain⟨f,p1,p2⟩:=Gt eh k AN hx hs AN (Nat.le_refl _);refine⟨f++ [], [],B5.rd (fun hh=>absurd hh hf) p1 .nil,fun b hb=> ?_,by simp [Ca], .none (fun hh=>absurd hh hf) .nil,by simp [Ca]⟩;rw [List.append_nil]at hb;exact(p2 b hb).mono fun t ht=>by simp [ht]
  obtain⟨rf,AY,q1,q2,q3,q4,q5⟩:=key;refine⟨rf,AY,⟨[v], [x.den c.ρ], ?_,by rw [Zj];exact q1⟩,q2,q3,⟨[v], ?_,by rw [Zj];exact q4⟩,q5⟩
  ·rw [if_neg (by rw [Au];simp)];exact⟨rfl,rfl⟩
  ·rw [if_neg (by rw [Au];simp)]
 cases s with
 |agg cs=>
  simp only [Gs]at hg h;obtain⟨m,l,hm,hl,rfl⟩:=Sr hx;cases hs with
  |agg h9 h1 h8=>
   rename_i as_;have EY:m≤AN:=by simp only [AN]at hm ⊢;omega
   obtain⟨rf,AY,q1,q2,q3,q4,q5⟩:=cS (P:=P) eh k hU (AZ P t) h h1 hl EY;refine⟨rf,AY,⟨as_,l.den c.ρ, ?_,q1⟩,q2,q3,⟨as_, ?_,q4⟩,q5⟩
   ·rw [if_pos hg.symm];exact⟨rfl,rfl,h9⟩
   ·rw [if_pos hg.symm]
 |_=>exact single _ hs hx hg.symm h
end
end Go.Proofs.YtmbknelgbjlhnaaGreat
end

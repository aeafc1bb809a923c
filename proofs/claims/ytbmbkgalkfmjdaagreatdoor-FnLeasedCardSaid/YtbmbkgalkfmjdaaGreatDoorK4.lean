/- Parts of a proof, joined: VX, WB, WC, WD, WE, WF, WG, WH, WI, WJ, WK, WL, WM, WN, WO. -/
import Derived.Test.YtbmbkgalkfmjdaaGreatDoorK3
import Derived.Orders
import Derived.Lib.SliceRun
import Derived.Laws.Slices
import Derived.Laws.MakeOwn
import Derived.Laws.StructEq
set_option linter.unusedVariables false
set_option linter.unusedSimpArgs false
section
namespace Go.Proofs.YtbmbkgalkfmjdaaGreatDoor
open Go.RowKit
section
variable {P:Program} {c:Cx} {n nx:Nat} {sl sl0:Nat→SV} {hp hp0:Nat→Option Ent} {a:Act} {o:Oper} {gs:Gd} {e:Eff} {sg:SgT} {nv:Nat}
def Cx.wrO (c:Cx) (w':World) (t:Nat) (O:List Nat):Cx:={c with w:=w',G:=fun u=>if u=t then⟨(c.G t).top,O⟩else c.G u,E:=fun u=>if u=t then c.E u+1 else c.E u}
theorem Rel.writeO (h:Rel c n sl hp a) {t:Nat} {e0:Ent} {b:Nat} {w':World} {O:List Nat} (hres:Res c.ρ (hp t) e0) (htop:b∈(c.G t).top) (hO:O= []∨O=(c.G t).O) (hm:Mod [b] c.w w') (hsz:w'.heap.size=c.w.heap.size) (e1:Ent) (hne: ∀hs f,e1≠ .gd hs f)
  (he:znF c (c.wrO w' t O)→zls (c.wrO w' t O) t e1):
  Rel (c.wrO w' t O) n sl (zd6 hp [(t,e1)]) a:=by
 have hown:b∈(c.G t).own:=by simp [GI.own,htop]
 have hG: ∀u,(c.wrO w' t O).G u=if u=t then⟨(c.G t).top,O⟩else c.G u:=fun u=>rfl
 have htops: ∀u,((c.wrO w' t O).G u).top=(c.G u).top:=by
  intro u;rw [hG];split
  ·rename_i hu;rw [hu]
  ·rfl
 have hsub: ∀u,∀q∈((c.wrO w' t O).G u).own,q∈(c.G u).own:=by
  intro u q hq
  rw [hG]at hq
  split at hq
  ·rename_i hu;subst hu
   simp only [GI.own,List.mem_append]at hq ⊢
   rcases hq with hq|hq
   ·exact .inl hq
   ·rcases hO with rfl|rfl
    ·simp at hq
    ·exact .inr hq
  ·exact hq
 have hkeep:znF c (c.wrO w' t O):=by
  refine⟨rfl,rfl,fun q _ hq=>⟨fun⟨u,hu⟩=>hq.1 ⟨u,by rw [htops]at hu;exact hu⟩,hq.2⟩,fun q hq hok=>hm.block q hq ?_,fun u g hu=>⟨hu,rfl⟩,fun u g hu=> ?_⟩
  ·simp only [List.mem_singleton]
   rintro rfl
   exact hok.1 ⟨t,htop⟩
  ·by_cases hut:u=t
   ·have e1:(c.wrO w' t O).E u=c.E u+1:=by simp only [Cx.wrO,if_pos hut]
    exact⟨by omega,fun h=>by omega⟩
   ·have e1:(c.wrO w' t O).E u=c.E u:=by simp only [Cx.wrO,if_neg hut]
    have e2:(c.wrO w' t O).G u=c.G u:=by simp only [Cx.wrO,if_neg hut]
    rw [e1]
    refine⟨Nat.le_refl _,fun _=>⟨e2,fun q hq hq2=>hm.block q hq2 ?_⟩⟩
    simp only [List.mem_singleton]
    rintro rfl
    exact h.gw.disj t u (Ne.symm hut) q hown (by simp [GI.own,hq])
 have hup: ∀u,zd6 hp [(t,e1)] u=if u=t then some e1 else hp u:=fun u=>rfl
 refine h.change (fun u=>u=t) hkeep ⟨hm.os.trans h.base.os,hm.tape.trans h.base.tape,hm.output.trans h.base.output,Nat.le_trans h.base.size hm.size,h.base.pins,fun q hq hmu=> ?_,h.base.pk,h.base.lo⟩
  (fun u hu=>⟨by rw [hup,if_neg hu],by rw [hG,if_neg hu],by simp [Cx.wrO,hu],fun g hg=>hg⟩) (fun u hu q hq=>hm.block q (h.gw.inb u q (by simp [GI.own,hq])) ?_) (fun u hu=> ?_) ⟨fun u=> ?_,fun u v huv q hq hq'=>h.gw.disj u v huv q (hsub u q hq) (hsub v q hq'),fun u q hq=>h.gw.allow u q (hsub u q hq),fun u q hq=> ?_⟩ h.usedK (fun u f hf=> ?_)
 ·refine(hm.block q (Nat.lt_of_lt_of_le hq h.base.size) ?_).trans (h.base.block q hq hmu)
  simp only [List.mem_singleton]
  rintro rfl
  rcases h.gw.allow t q hown with hh|hh
  ·exact absurd hh (Nat.not_le.2 hq)
  ·exact hmu hh
 ·simp only [List.mem_singleton]
  rintro rfl
  exact h.gw.disj t u (Ne.symm hu) q hown (by simp [GI.own,hq])
 ·subst hu
  rw [hup,if_pos rfl]
  refine⟨fun e' hr=> ?_,fun hn=> ?_⟩
  ·cases e1<;>first
    |(simp only [Res]at hr;subst hr;exact he hkeep)
    |exact absurd rfl (hne _ _)
  ·cases e1<;>first
    |exact absurd rfl (hne _ _)
    |exact absurd rfl (hn _)
 ·rw [hG]
  split
  ·rename_i hu;subst hu
   have h0:=h.gw.nodup u
   simp only [GI.own]at h0 ⊢
   rcases hO with rfl|rfl
   ·rw [List.append_nil];exact(List.nodup_append.1 h0).1
   ·exact h0
  ·exact h.gw.nodup u
 ·show q<w'.heap.size
  rw [hsz];exact h.gw.inb u q (hsub u q hq)
 ·rw [hup]at hf
  split at hf
  ·rename_i hu;subst hu
   cases hh:hp u with
   |none=>rw [hh]at hres;exact hres.elim
   |some e9=>exact h.usedH u e9 hh
  ·exact h.usedH u f hf
theorem zhJ {α:Type} (L vs:List α) (p m:Nat) (h:p+vs.length≤m) (hm:m≤L.length):(setVs L p vs).take m=setVs (L.take m) p vs:=by
 apply List.ext_getElem?
 intro j
 have hl:(L.take m).length=m:=by rw [List.length_take];omega
 rw [List.getElem?_take,ziU (L.take m) vs p (by omega) j,ziU L vs p (by omega) j,List.getElem?_take]
 by_cases h1:p≤j∧j<p+vs.length
 ·rw [if_pos (by omega),if_pos h1,if_pos h1]
 ·rw [if_neg h1,if_neg h1]
theorem Rd.setVs {w:World} {L V:List Value} {X Y:List AV} {N f:List Nat} {p:Nat} (h:Rd w L X N) (k:Rd w V Y f) (hp:p+V.length≤L.length):
  ∃n1 n2 n3,N=n1++n2++n3∧Rd w (Go.Proofs.YtbmbkgalkfmjdaaGreatDoor.setVs L p V) (Go.Proofs.YtbmbkgalkfmjdaaGreatDoor.setVs X p Y) (n1++f++n3)∧Rd w ((L.drop p).take V.length) ((X.drop p).take V.length) n2:=by
 have hl:=h.len
 have hk:=k.len
 have e1:L=L.take p++((L.drop p).take V.length++L.drop (p+V.length)):=by
  rw [←List.drop_drop,List.take_append_drop,List.take_append_drop]
 have e2:X=X.take p++((X.drop p).take V.length++X.drop (p+V.length)):=by
  rw [←List.drop_drop,List.take_append_drop,List.take_append_drop]
 have h':=h
 rw [e1,e2]at h'
 obtain⟨n1,m,rfl,g1,g2⟩:=Rd.unapp (by simp;omega) h'
 obtain⟨n2,n3,rfl,g3,g4⟩:=Rd.unapp (by simp;omega) g2
 refine⟨n1,n2,n3,by simp, ?_,g3⟩
 unfold Go.Proofs.YtbmbkgalkfmjdaaGreatDoor.setVs
 rw [←hk]
 exact(g1.app k).app g4
theorem znm {sz:Nat}: ∀(ys:List AV) (k:Nat) (z y:AV) (o:Nat) (vc:List AV),(∀y∈ys,y.cells.length=sz)→ys[k]?=some y→o+vc.length≤sz→z.cells=setVs y.cells o vc→zaC (ys.set k z)=setVs (zaC ys) (k*sz+o) vc
 | [],k,z,y,o,vc,_,h,_,_=>by simp at h
 |q::ys,0,z,y,o,vc,hs,h,ho,hz=>by
  simp at h;subst h
  have hq:=hs q (by simp)
  simp only [zaC,List.set_cons_zero,List.flatMap_cons,Nat.zero_mul,Nat.zero_add,hz]
  unfold setVs
  rw [List.take_append_of_le_length (by omega),List.drop_append_of_le_length (by omega)]
  simp
 |q::ys,k+1,z,y,o,vc,hs,h,ho,hz=>by
  have hq:=hs q (by simp)
  have ih:=znm ys k z y o vc (fun u hu=>hs u (by simp [hu])) (by simpa using h) ho hz
  simp only [zaC,List.set_cons_succ,List.flatMap_cons]at ih ⊢
  rw [ih]
  unfold setVs
  have e0:(k+1)*sz+o=q.cells.length+(k*sz+o):=by rw [hq,Nat.add_mul];omega
  rw [e0,List.take_length_add_append,Nat.add_assoc (q.cells.length),List.drop_length_add_append]
  simp
theorem znH {y x:AV} {k:Nat} {g:Bool} (hx:(∀cs,x≠ .agg cs)∨g=true) (hy:g=false→y.cells.length=1∧k=0∧x.cells= [x]):(y.putF k x g).cells=setVs y.cells k x.cells:=by
 cases g with
 |true=>simp [AV.putF,AV.cells,setVs]
 |false=>
  obtain⟨h1,h2,h3⟩:=hy rfl
  subst h2
  simp only [AV.putF,h3,setVs]
  rw [if_neg (by simp)]
  rw [h3]
  simp only [List.take_zero,List.nil_append,List.length_cons,List.length_nil,Nat.zero_add]
  rw [List.drop_eq_nil_of_le (by omega)]
  simp
theorem zsT (h:Pre P c n nx sl hp a sl0 hp0 o gs) {t:TypeId} {x y:Operand} (ho:o.op= .store t x y) {b g:Nat} {ix:E} {sz k:Nat} {s:SV} (hrow: ∃e z g c d,zlA hp0 gs b=some (.row e z g c d)) (hx:zak sl0 gs x=some (.rptr b g ix sz k)) (hy:zak sl0 gs y=some s)
  (he:zik P hp0 gs t (.rptr b g ix sz k) s=some e) (hc: ∀q∈e.chk,Cn.den c.ρ q):zbu P o c n nx sl hp gs a e:=by
 have r1:=h.opd hx (by simp [ho,Op.operands])
 have r2:=h.opd hy (by simp [ho,Op.operands])
 simp only [zik]at he
 split at he
 ·rename_i el sz' g' c0 d hl
  split at he
  ·rename_i hh
   obtain⟨rfl,rfl,rfl,hty,hle,hagE,hagT⟩:=hh
   split at he
   ·rename_i xe fz dx ck htk
    split at he
    ·cases he
    rename_i hnt
    simp only [Option.some.injEq]at he;subst he
    have hnt: ∀f,(b,f)∉fz:=fun f hf=>hnt (by simp only [List.contains_eq_mem,decide_eq_true_eq];exact List.mem_map.2 ⟨_,hf,rfl⟩)
    obtain⟨f,q1,q2,⟨ts,q3⟩,q5⟩:=zpQ h.rel h.hp h.gs r2 htk (fun q hq=>hc q (by simp [hq]))
    obtain⟨q3,q4⟩:=q3
    have hres:=zjC h.hp (zaR hl h.gs)
    have hrel1:=h.rel.freeze h.hp h.gs q3
    have hres1:Res (c.frz (fz.map (·.1))).ρ (zd6 hp fz b) (.row el sz g c0 d):=by rw [zhG hnt];exact hres
    obtain⟨e1,e2,N,e3,e4,e5,e6⟩:=hrel1.ents b _ hres1
    obtain⟨o1,o2,o3,o4⟩:=zpL (P:=P) q1 hagT q5
    generalize hv:a.eval x=v at r1
    cases r1 with
    |rptr k1 k2 k3 k4 k5 _=>
     rename_i m len cap kk kv k6
     obtain⟨xs,p1,p2,p3,pcase⟩:=e3
     have p1':c0.den c.ρ= .sl xs:=p1
     rcases pcase with⟨_,⟨_,pv⟩,_⟩|⟨g9,cap9,C,pv,p4,p5,p6,p7,p8,p9,p10⟩
     ·exfalso
      have:c.H b g=_:=pv
      rw [k2]at this;cases this;omega
     ·have pv':c.H b g= .slice (some ⟨g9,0,none⟩) xs.length cap9:=pv
      rw [k2]at pv'
      simp only [Value.slice.injEq,Option.some.injEq,Addr.mk.injEq,and_true]at pv'
      obtain⟨rfl,rfl,rfl⟩:=pv'
      have hkl:kv.toNat<xs.length:=by omega
      have hnth:=zoP hkl
      generalize hyk:(AV.sl xs).nth kv.toNat=yk at hnth
      have hykl:=p2 yk (List.mem_of_getElem? hnth)
      have hvl:(a.eval y).cells.toList.length=P.cellsOf t:=by simpa using o4
      have hmul:(kv.toNat+1)*sz≤xs.length*sz:=Nat.mul_le_mul_right _ (by omega)
      have hCl:C.toList.length=cap*sz:=by simpa using p7
      have hmul2:xs.length*sz≤cap*sz:=Nat.mul_le_mul_right _ p4
      rw [Nat.add_mul]at hmul
      have p6':c.w.heap[m]?=some (.cells C el (0,0)):=p6
      obtain⟨m1,m2,m3⟩:=zgU (vs:=(a.eval y).cells.toList) p6' (show(kv.toNat*sz+k)+_≤C.size by rw [hvl,p7];omega)
      have hlC:(C.toList.take (xs.length*sz)).length=xs.length*sz:=by rw [List.length_take,hCl];omega
      obtain⟨n1,n2,n3,hN,s1,s2⟩:=Rd.setVs (p:=kv.toNat*sz+k) p10 o1 (by rw [hlC,hvl];omega)
      have hkeepw: ∀z,z<c.w.heap.size→(c.frz (fz.map (·.1))).ok z→(zaS c.w m (kv.toNat*sz+k) (a.eval y).cells.toList).heap[z]?=c.w.heap[z]?:=by
       intro z hz hok
       refine m1.block z hz ?_
       simp only [List.mem_singleton]
       rintro rfl
       exact hok.1 ⟨b,by rw [p8];simp⟩
      have hflat:(d&&dx)=true→n2= []∧f= []:=by
       intro hdd
       have hcf:Cn.den c.ρ (.flat (.fld (.idx c0 ix) k (P.cellsOf t) (zaN P t)) (P.cellsOf t) (zaN P t)):=hc _ (by simp [hdd])
       obtain⟨f1,f2,f3,f4⟩:=hcf
       simp only [Bool.and_eq_true]at hdd
       refine⟨?_,q2 hdd.2⟩
       have hpiece:((zaC xs).drop (kv.toNat*sz+k)).take (a.eval y).cells.toList.length=(yk.cells.drop k).take (P.cellsOf t):=by
        rw [hvl];exact zkz xs p2 _ _ hnth k (P.cellsOf t) hle
       rw [hpiece]at s2
       have hden:(E.fld (.idx c0 ix) k (P.cellsOf t) (zaN P t)).den c.ρ=yk.fld k (P.cellsOf t) (zaN P t):=by
        simp only [E.den,p1',k3,AV.idx,hyk]
       rw [hden]at f2
       refine zfY s2 ?_
       cases hg:zaN P t with
       |true=>
        rw [hg]at f2
        simpa [AV.fld,AV.cells]using f2
       |false=>
        have h1:P.cellsOf t=1:=by rcases hagT with h'|h';rw [hg]at h';cases h';exact h'
        rw [hden]at f4
        have f4:=f4 hg
        rw [hg]at f4
        have hlt:k<yk.cells.length:=by omega
        rw [h1,List.drop_eq_getElem_cons hlt,List.take_succ_cons,List.take_zero]
        simp only [List.mem_singleton,forall_eq]
        simpa [AV.fld,hlt]using f4
      have hz:(yk.putF k (xe.den c.ρ) (zaN P el)).cells=setVs yk.cells k (xe.den c.ρ).cells:=by
       refine znH ?_ (fun hg=> ?_)
       ·cases hg:zaN P el with
        |true=>exact .inr rfl
        |false=>
         left
         rcases hagE with h'|⟨_,h'⟩
         ·rw [hg]at h';cases h'
         ·have h':zaN P t=false:=by simpa using h'
          rw [h']at q5
          exact fun cs=>(q5.1 cs)
       ·rcases hagE with h'|⟨h1,h'⟩
        ·rw [hg]at h';cases h'
        ·have h':zaN P t=false:=by simpa using h'
         rw [h']at q5
         have hct:P.cellsOf t=1:=by rcases hagT with h2|h2;rw [h']at h2;cases h2;exact h2
         refine⟨by omega,by omega, ?_⟩
         cases hxe:xe.den c.ρ<;>first|rfl|exact absurd hxe (q5.1 _)
      have hflatC:zaC (xs.set kv.toNat (yk.putF k (xe.den c.ρ) (zaN P el)))=setVs (zaC xs) (kv.toNat*sz+k) (xe.den c.ρ).cells:=
       znm xs _ _ yk k _ p2 hnth (by rw [o3];exact hle) hz
      have hfin:=hrel1.writeO (t:=b) (b:=m) (w':=zaS c.w m (kv.toNat*sz+k) (a.eval y).cells.toList) (O:=if(d&&dx)=true then((c.frz (fz.map (·.1))).G b).O else []) hres1 (by rw [p8];simp) (by split;exact .inr rfl;exact .inl rfl) m1 m3
       (.row el sz g (.set c0 ix (.put (.idx c0 ix) k xe (zaN P el))) (d&&dx)) (by intros;simp) (fun hkp=>by
        have hNok: ∀z∈n1++f++n3,(c.frz (fz.map (·.1))).ok z:=by
         intro z hz
         simp only [List.mem_append]at hz
         rcases hz with(hz|hz)|hz
         ·exact e4 z (by rw [hN];simp [hz])
         ·exact q4 z hz
         ·exact e4 z (by rw [hN];simp [hz])
        have hNin: ∀z∈n1++f++n3,z<c.w.heap.size:=s1.inb
        refine⟨e1,e2,n1++f++n3,⟨xs.set kv.toNat (yk.putF k (xe.den c.ρ) (zaN P el)), ?_,fun z hzm=> ?_,p3, .inr ⟨m,cap,_, ?_,by simpa using p4,p5,m2, ?_, ?_, ?_, ?_⟩⟩,fun z hz=>hkp.ok z (hNin z hz) (hNok z hz),fun hdd=> ?_,fun hdd=> ?_⟩
        ·show AV.setNth (c0.den c.ρ) (ix.den c.ρ) (((c0.den c.ρ).idx (ix.den c.ρ)).putF k (xe.den c.ρ) (zaN P el))=_
         rw [p1',k3];simp only [AV.idx,hyk,AV.setNth]
        ·rcases List.mem_or_eq_of_mem_set hzm with hzm|rfl
         ·exact p2 z hzm
         ·rw [hz,ziJ _ _ _ (by rw [o3,hykl];exact hle)];exact hykl
        ·rw [List.length_set];exact k2
        ·rw [List.size_toArray,ziJ _ _ _ (by rw [hvl,hCl];omega),Array.length_toList];exact p7
        ·simpa [Cx.wrO]using p8
        ·simp only [List.length_set,List.toList_toArray]
         rw [zhJ _ _ _ _ (by rw [hvl];omega) (by rw [hCl];omega)]
         intro u hu
         unfold setVs at hu
         simp only [List.mem_append]at hu
         rcases hu with(hu|hu)|hu
         ·exact p9 u (List.mem_of_mem_take hu)
         ·exact o2 u hu
         ·exact p9 u (List.mem_of_mem_drop hu)
        ·simp only [List.length_set,List.toList_toArray]
         rw [zhJ _ _ _ _ (by rw [hvl];omega) (by rw [hCl];omega),hflatC]
         exact s1.frame fun z hz=>hkeepw z (hNin z hz) (hNok z hz)
        ·obtain⟨z1,z2⟩:=hflat hdd
         have hd:d=true:=by simp only [Bool.and_eq_true]at hdd;exact hdd.1
         obtain⟨u1,u2⟩:=e5 hd
         have hNN:n1++f++n3=N:=by rw [hN,z1,z2]
         rw [hNN]
         refine⟨u1.frame fun z hz=>hkeepw z (p10.inb z hz) (e4 z hz), ?_⟩
         simp only [Cx.wrO,if_true,hdd];exact u2
        ·simp [Cx.wrO,hdd])
      intro next Q hk
      unfold Oper.wp
      have hr:(execOp a.eval o).run P c.w= .ok .skip (zaS c.w m (kv.toNat*sz+k) (a.eval y).cells.toList):=by
       have:=zl6 (P:=P) (t:=t) (v:=a.eval y) (off:=kv.toNat*sz+k) p6' hty o4 (by rw [o4,p7];omega) o2
       simp [execOp,ho,hv,this]
      rw [hr,Oper.upon_skip]
      refine hk _ ((c.frz (fz.map (·.1))).wrO (zaS c.w m (kv.toNat*sz+k) (a.eval y).cells.toList) b (if(d&&dx)=true then((c.frz (fz.map (·.1))).G b).O else [])) ⟨rfl,rfl,rfl,rfl,fun t ht=> .inl ht⟩ ?_
      have:=hfin.put (v:=Go.undef) ((SR.undef .nil).mkGd []) o.dst
      rw [zjv];exact this
   ·cases he
  ·cases he
 all_goals (rename_i hl;obtain⟨_,_,_,_,_,hl'⟩:=hrow;first|(rw [hl']at hl;cases hl;done)|exact absurd hl' (hl _ _ _ _ _)|cases he)
end
end Go.Proofs.YtbmbkgalkfmjdaaGreatDoor
end
section
namespace Go.Proofs.YtbmbkgalkfmjdaaGreatDoor
open Go.RowKit
def zlC (a:Act) (o:Oper):Bool:=match o.op with| .binOp _ _ x _ _=>(match a.eval x with| .slice none _ _=>true|_=>false)|_=>false
section
variable (P:Program) (sg:SgT) (Rt:Nat→List AV→AV→Prop)
def zCG:Prop:= ∀(c:Cx) (n nx:Nat) (sl:Nat→SV) (hp:Nat→Option Ent) (a:Act) (sl0:Nat→SV) (hp0:Nat→Option Ent) (o:Oper) (gs:Gd) (e:Eff) (nv:Nat),Pre P c n nx sl hp a sl0 hp0 o gs→ ¬c.U (nx+999)→zm7 P sg sl0 hp0 nv nx gs o=some e→
 (∀q∈e.chk,q.den c.ρ)→(∀cl,e.call=some cl→ ∃r,c.ρ[nv]?=some r∧ziT Rt cl.fn ((EL.of cl.args).den c.ρ) c.ρ r)→(∀x,e.nilq=some x→c.ρ[nv]?=some (.bool (zlC a o)))→zbu P o c n nx sl hp gs a e
def zyr:Prop:= ∀(c:Cx) (n nx:Nat) (sl:Nat→SV) (hp:Nat→Option Ent) (a:Act) (sl0:Nat→SV) (hp0:Nat→Option Ent) (o:Oper) (gs:Gd) (e:Eff) (nv:Nat) (x:E),Pre P c n nx sl hp a sl0 hp0 o gs→zm7 P sg sl0 hp0 nv nx gs o=some e→e.nilq=some x→zlC a o=true→x.den c.ρ= .sl []
end
theorem zsy {hp:Nat→Option Ent} (l:List (Nat × Ent)) (t:Nat):(zd6 hp l t=hp t∧ ∀e,(t,e)∉l)∨ ∃e,(t,e)∈l∧zd6 hp l t=some e:=by
 induction l generalizing hp with
 |nil=>exact .inl ⟨rfl,by simp⟩
 |cons p l ih=>
  obtain⟨u,f⟩:=p
  rcases ih (hp:=fun v=>if v=u then some f else hp v)with⟨h1,h2⟩|⟨e,h1,h2⟩
  ·by_cases ht:t=u
   ·subst ht
    refine .inr ⟨f,by simp, ?_⟩
    have:zd6 hp ((t,f)::l) t=zd6 (fun v=>if v=t then some f else hp v) l t:=rfl
    rw [this,h1];simp
   ·refine .inl ⟨?_,fun e he=> ?_⟩
    ·have:zd6 hp ((u,f)::l) t=zd6 (fun v=>if v=u then some f else hp v) l t:=rfl
     rw [this,h1,if_neg ht]
    ·rcases List.mem_cons.1 he with he|he
     ·cases he;exact ht rfl
     ·exact h2 e he
  ·exact .inr ⟨e,by simp [h1],h2⟩
section
variable {P:Program} {sg:SgT} {Rt:Nat→List AV→AV→Prop} {c:Cx} {n nx:Nat} {sl:Nat→SV} {hp:Nat→Option Ent} {a:Act} {ops:Array Oper} {o:Oper} {gs:Gd} {e:Eff}
theorem Rel.skip (h:Rel c n sl hp a) (hg: ¬zex c.ρ gs) {l:List (Nat × Ent)} (hl: ∀t x,(t,x)∈l→nx≤t∧t<nx+zan∧ ∃hs y,x= .gd hs y∧zsX gs hs=true) (hnew: ∀t,nx≤t→t<nx+zan→ ¬c.U t) (s:SV) (d:Option Nat):
  Rel {c with U:=fun t=>c.U t∨(nx≤t∧t<nx+zan)} n (zjL n sl d (mkGd gs s)) (zd6 hp l) (a.put d undef):=by
 have hs:SR {c with U:=fun t=>c.U t∨(nx≤t∧t<nx+zan)} [mkGd gs s] [undef]:=by
  cases gs with
  |nil=>exact absurd (zb5 _) hg
  |cons g gs=>exact .gd (fun hh=>absurd hh hg) (fun _=>rfl) .nil
 refine Rel.put ?_ hs d
 refine h.change (fun t=> ∃x,(t,x)∈l) ⟨rfl,rfl,fun _ _ hb=>hb,fun _ _ _=>rfl,fun _ _ hk=>⟨hk,rfl⟩,fun _ _ _=>⟨Nat.le_refl _,fun _=>⟨rfl,fun _ _ _=>rfl⟩⟩⟩ ⟨h.base.os,h.base.tape,h.base.output,h.base.size,fun t v hp=>⟨.inl (h.base.pins t v hp).1,(h.base.pins t v hp).2⟩,h.base.block,h.base.pk,h.base.lo⟩ (fun t ht=> ?_) (fun _ _ _ _=>rfl) (fun t ht=> ?_) ⟨h.gw.nodup,h.gw.disj,h.gw.allow,h.gw.inb⟩ (fun t g hk=> .inl (h.usedK t g hk)) (fun t x hx=> ?_)
 ·exact⟨zhG fun x hx=>ht ⟨x,hx⟩,rfl,rfl,fun g hk=>hk⟩
 ·obtain⟨x,hx⟩:=ht
  rcases zsy (hp:=hp) l t with⟨_,h2⟩|⟨x',h1,h2⟩
  ·exact absurd hx (h2 x)
  ·obtain⟨q1,q2,hs,y,rfl,hsub⟩:=hl t x' h1
   have hno: ∀e',¬Res c.ρ (zd6 hp l t) e':=by
    rw [h2]
    exact fun e' hr=>hg (zpx hsub hr.1)
   refine⟨fun e' hr=>absurd hr (hno e'),fun _=>h.off t fun e' hr=> ?_⟩
   cases hh:hp t with
   |none=>rw [hh]at hr;exact hr.elim
   |some e9=>exact hnew t q1 q2 (h.usedH t e9 hh)
 ·rcases zsy (hp:=hp) l t with⟨h1,_⟩|⟨x',h1,_⟩
  ·rw [h1]at hx;exact .inl (h.usedH t x hx)
  ·obtain⟨q1,q2,_⟩:=hl t x' h1
   exact .inr ⟨q1,q2⟩
def GOK (ρ:List AV) (ops:Array Oper) (o:Oper) (a:Act):Option Gd→Prop
 |none=>Region.wanted o (yielded ops a.tmps)=false
 |some gs=>(zex ρ gs→Region.wanted o (yielded ops a.tmps)=true)∧(¬zex ρ gs→Region.wanted o (yielded ops a.tmps)=false)
theorem zqR {σ:St} {r:Option Gd} (hg:zjr σ ops o=some r) (hs: ∀j want d,o.guard=some (j,want)→(ops[j]?).bind (·.dst)=some d→SR c [zaK σ d] [a.tmps.getD d undef]):GOK c.ρ ops o a r:=by
 unfold zjr at hg
 cases hgu:o.guard with
 |none=>
  rw [hgu]at hg
  simp only [Option.some.injEq]at hg;subst hg
  exact⟨fun _=>by simp [Region.wanted,hgu],fun hn=>absurd (zb5 _) hn⟩
 |some jw=>
  obtain⟨j,want⟩:=jw
  rw [hgu]at hg
  simp only at hg
  cases hd:(ops[j]?).bind (·.dst)with
  |none=>
   rw [hd]at hg
   simp only [Option.some.injEq]at hg;subst hg
   simp [GOK,Region.wanted,hgu,yielded,hd]
  |some d=>
   rw [hd]at hg
   simp only at hg
   have hr:=hs j want d hgu hd
   have hw: ∀v,a.tmps.getD d undef=v→Region.wanted o (yielded ops a.tmps)=(match v with| .bool b=>b==want|_=>false):=by
    intro v hv
    simp only [Region.wanted,hgu,yielded,hd,Option.bind_some]
    rw [Array.getD_eq_getD_getElem?]at hv
    cases hq:a.tmps[d]? with
    |none=>rw [hq]at hv;simp at hv;subst hv;simp [undef]
    |some u=>rw [hq]at hv;simp at hv;subst hv;cases u<;>simp
   generalize a.tmps.getD d undef=v at hr hw
   have hw:=hw v rfl
   have hund:v=undef→Region.wanted o (yielded ops a.tmps)=false:=by
    rintro rfl;rw [hw];simp [undef]
   have hread: ∀x f,Rd c.w [v] [x] f→(x= .bool want→Region.wanted o (yielded ops a.tmps)=true)∧(x≠ .bool want→Region.wanted o (yielded ops a.tmps)=false):=by
    intro x f hx
    refine⟨fun h=> ?_,fun h=> ?_⟩
    ·rw [hw,zgC hx h];simp
    ·rw [hw]
     cases v<;>simp only
     rename_i b
     cases hx with
     |bool _=>simpa using fun hh=>h (by rw [hh])
   split at hg
   ·rename_i b hsl
    rw [hsl]at hr
    cases hr with
    |e h1 _ _=>
     simp only [Option.some.injEq]at hg;subst hg
     obtain⟨q1,q2⟩:=hread _ _ h1
     simp only [E.den,AV.bool.injEq]at q1 q2
     split
     ·rename_i hb;simp only [beq_iff_eq]at hb
      exact⟨fun _=>q1 hb,fun hn=>absurd (zb5 _) hn⟩
     ·rename_i hb;simp only [beq_iff_eq]at hb
      exact q2 (by simpa using hb)
   ·rename_i x _ hsl
    rw [hsl]at hr
    cases hr with
    |e h1 _ _=>
     simp only [Option.some.injEq]at hg;subst hg
     obtain⟨q1,q2⟩:=hread _ _ h1
     exact⟨fun hh=>q1 (hh (x,want) (by simp)),fun hn=>q2 fun hh=>hn (by intro g hg;simp at hg;subst hg;exact hh)⟩
   ·rename_i hs' s hsl
    rw [hsl]at hr
    cases hr with
    |gd h1 h2 _=>
     split at hg
     ·rename_i hf
      simp only [Option.some.injEq]at hg;subst hg
      refine hund (h2 fun hk=> ?_)
      simp only [zyi,List.any_eq_true]at hf
      obtain⟨g,hg,hgf⟩:=hf
      have:=hk g hg
      split at hgf
      ·rename_i b hb
       rw [hb]at this
       simp only [E.den,AV.bool.injEq]at this
       simp [this]at hgf
      ·cases hgf
     ·split at hg
      ·rename_i b
       simp only [Option.some.injEq]at hg;subst hg
       by_cases hk:zex c.ρ hs'
       ·have h1:=h1 hk
        cases h1 with
        |e h1 _ _=>
         obtain⟨q1,q2⟩:=hread _ _ h1
         simp only [E.den,AV.bool.injEq]at q1 q2
         split
         ·rename_i hb;simp only [beq_iff_eq]at hb
          exact⟨fun _=>q1 hb,fun hn=>absurd hk hn⟩
         ·rename_i hb;simp only [beq_iff_eq]at hb
          exact q2 (by simpa using hb)
       ·split
        ·exact⟨fun hh=>absurd hh hk,fun _=>hund (h2 hk)⟩
        ·exact hund (h2 hk)
      ·rename_i x _
       simp only [Option.some.injEq]at hg;subst hg
       by_cases hk:zex c.ρ hs'
       ·have h1:=h1 hk
        cases h1 with
        |e h1 _ _=>
         obtain⟨q1,q2⟩:=hread _ _ h1
         exact⟨fun hh=>q1 (hh (x,want) (by simp)),fun hn=>q2 fun hh=>hn (by intro g hg;rcases List.mem_cons.1 hg with rfl|hg;exact hh;exact hk g hg)⟩
       ·exact⟨fun hh=>absurd (fun g hg=>hh g (by simp [hg])) hk,fun _=>hund (h2 hk)⟩
      ·cases hg
   ·cases hg
theorem zzB (hop:zCG P sg Rt) {Q:Exit→Act→World→Prop} {K:Act→World→Prop} {i nv:Nat} (hi:ops[i]?=some o) (hrel:Rel c n sl hp a) {sl0:Nat→SV} {hp0:Nat→Option Ent} (hgo:GOK c.ρ ops o a (some gs))
  (hsl: ∀t,Operand.tmp t∈o.op.operands→sl0 t=sl t) (hhp: ∀t e,hp0 t=some e→hp t=some e) (hnew: ∀t,nx≤t→t<nx+zan→ ¬c.U t)
  (he:zm7 P sg sl0 hp0 nv nx gs o=some e) (hent:gs≠ []→ ∀t x,(t,x)∈e.ent→nx≤t∧t<nx+zan∧ ∃hs y,x= .gd hs y∧zsX gs hs=true)
  (hc:zex c.ρ gs→ ∀q∈e.chk,q.den c.ρ) (hcall: ∀cl,e.call=some cl→ ∃r,c.ρ[nv]?=some r∧(zex c.ρ gs→ziT Rt cl.fn ((EL.of cl.args).den c.ρ) c.ρ r)) (hnq: ∀x,e.nilq=some x→zex c.ρ gs→c.ρ[nv]?=some (.bool (zlC a o)))
  (hK: ∀a' c',zBF c c' nx→Rel c' n (zjL n sl o.dst (mkGd gs e.val)) (zd6 hp e.ent) a'→K a' c'.w):wpOp P ops Q i K a c.w:=by
 unfold wpOp
 simp only [hi]
 by_cases hg:zex c.ρ gs
 ·rw [if_pos (hgo.1 hg)]
  exact .inl (hop c n nx sl hp a sl0 hp0 o gs e nv ⟨hrel,hg,hsl,hhp,fun t h1 h2=>hnew t h1 (by simp only [zan];omega)⟩ (hnew _ (by omega) (by simp [zan])) he (hc hg) (fun cl hcl=>by obtain⟨r,h1,h2⟩:=hcall cl hcl;exact⟨r,h1,h2 hg⟩) (fun x hx=>hnq x hx hg) _ _ hK)
 ·rw [if_neg (by rw [hgo.2 hg];simp)]
  have hne:gs≠ []:=by rintro rfl;exact hg (zb5 _)
  exact hK _ {c with U:=fun t=>c.U t∨(nx≤t∧t<nx+zan)} ⟨rfl,rfl,rfl,rfl,fun t ht=>ht⟩ (hrel.skip hg (hent hne) hnew e.val o.dst)
end
end Go.Proofs.YtbmbkgalkfmjdaaGreatDoor
end
section
namespace Go.Proofs.YtbmbkgalkfmjdaaGreatDoor
open Go.RowKit
def Cx.ext (c:Cx) (τ:List AV):Cx:={c with ρ:=c.ρ++τ}
theorem den_app {ρ τ:List AV} {x:E} (h:x.sc ρ.length=true):x.den (ρ++τ)=x.den ρ:=by
 have:=E.sc_den ρ τ [] x h
 rw [List.append_nil]at this;exact this
theorem zzN {ρ τ:List AV} {x:EL} (h:x.sc ρ.length=true):x.den (ρ++τ)=x.den ρ:=by
 have:=EL.sc_den ρ τ [] x h
 rw [List.append_nil]at this;exact this
theorem zhB {ρ τ:List AV} {gs:Gd} (h:zEt ρ.length gs=true):zex (ρ++τ) gs↔zex ρ gs:=by
 simp only [zEt,List.all_eq_true]at h
 exact⟨fun k g hg=>by rw [←den_app (τ:=τ) (h g hg)];exact k g hg,fun k g hg=>by rw [den_app (h g hg)];exact k g hg⟩
theorem SVL.sc_mem {n:Nat}: ∀{cs:SVL},cs.sc n=true→ ∀s∈cs.toList,s.sc n=true
 | .nil,_,s,h=>by simp [SVL.toList]at h
 | .cons s cs,h,u,hu=>by
  simp only [SVL.sc,Bool.and_eq_true]at h
  simp only [SVL.toList,List.mem_cons]at hu
  rcases hu with rfl|hu
  ·exact h.1
  ·exact SVL.sc_mem h.2 u hu
section
variable {c:Cx} {n:Nat} {sl:Nat→SV} {hp:Nat→Option Ent} {a:Act} {τ:List AV}
theorem zn8.ext {t g:Nat} {p:Pth} {v:Value} (hs:(match p with|some q=>q.1.sc c.ρ.length|none=>true)=true) (h:zn8 c t g p v):zn8 (c.ext τ) t g p v:=by
 cases p with
 |none=>exact trivial
 |some p=>
  obtain⟨i,z,o⟩:=p
  obtain⟨b,n,cap,C,ty,fz,kk,k,h1,h2,h3,h4,h5⟩:=h
  exact⟨b,n,cap,C,ty,fz,kk,k,h1,h2,h3,by show i.den (c.ρ++τ)=_;rw [den_app hs];exact h4,h5⟩
theorem SR.ext {ss:List SV} {vs:List Value} (h:SR c ss vs):(∀s∈ss,s.sc c.ρ.length=true)→SR (c.ext τ) ss vs:=by
 have tl: ∀{s:SV} {ss:List SV},(∀x∈s::ss,x.sc c.ρ.length=true)→ ∀x∈ss,x.sc c.ρ.length=true:=fun h x hx=>h x (by simp [hx])
 have hd: ∀{s:SV} {ss:List SV},(∀x∈s::ss,x.sc c.ρ.length=true)→s.sc c.ρ.length=true:=fun h=>h _ (by simp)
 have hρ:(c.ext τ).ρ=c.ρ++τ:=rfl
 induction h with
 |nil=>exact fun _=> .nil
 |undef _ ih=>exact fun hs=> .undef (ih (tl hs))
 |e h1 h2 _ ih=>exact fun hs=> .e (by rw [hρ,den_app (hd hs)];exact h1) h2 (ih (tl hs))
 |nils _ ih=>exact fun hs=> .nils (ih (tl hs))
 |emp _ ih=>exact fun hs=> .emp (ih (tl hs))
 |own h1 h2 _ ih=>exact fun hs=> .own h1 h2 (ih (tl hs))
 |bptr h1 h2 _ ih=>exact fun hs=> .bptr h1 h2 (ih (tl hs))
 |rptr h1 h2 h3 h4 h5 _ ih=>exact fun hs=> .rptr h1 h2 (by rw [hρ,den_app (hd hs)];exact h3) h4 h5 (ih (tl hs))
 |eptr h1 h2 h3 h4 h5 h6 _ ih=>
  intro hs
  have:=hd hs
  simp only [SV.sc,Bool.and_eq_true]at this
  exact .eptr (by rw [hρ,den_app this.1];exact h1) h2 (by rw [hρ,den_app this.2];exact h3) h4 h5 (by rw [hρ,den_app this.1];exact h6) (ih (tl hs))
 |pptr h1 h2 _ ih=>exact fun hs=> .pptr (by rw [hρ,den_app (hd hs)];exact h1) h2 (ih (tl hs))
 |agg h9 _ _ ih1 ih2=>exact fun hs=> .agg h9 (ih1 (SVL.sc_mem (hd hs))) (ih2 (tl hs))
 |tup _ _ ih1 ih2=>exact fun hs=> .tup (ih1 (SVL.sc_mem (hd hs))) (ih2 (tl hs))
 |fn _ _ ih1 ih2=>exact fun hs=> .fn (ih1 (SVL.sc_mem (hd hs))) (ih2 (tl hs))
 |gd _ h2 _ ih1 ih2=>
  intro hs
  have:=hd hs
  simp only [SV.sc,Bool.and_eq_true]at this
  exact .gd (fun hg=>ih1 ((zhB this.1).1 hg) (by simpa using this.2)) (fun hg=>h2 fun k=>hg ((zhB this.1).2 k)) (ih2 (tl hs))
 | @via t g n p x v ss vs h1 h2 h3 _ ih=>
  intro hs
  have:=hd hs
  simp only [SV.sc,Bool.and_eq_true]at this
  refine .via h1 h2 (fun he=> ?_) (ih (tl hs))
  obtain⟨q1,q2⟩:=h3 he
  exact⟨by rw [hρ,den_app this.2];exact q1,zn8.ext (τ:=τ) this.1 q2⟩
 | @vptr t g n p x i sz o v ss vs h1 h2 h3 _ ih=>
  intro hs
  have:=hd hs
  simp only [SV.sc,Bool.and_eq_true]at this
  refine .vptr h1 h2 (fun he=> ?_) (ih (tl hs))
  obtain⟨b,off,len,cap,kk,k,q1,q2,q3,q4,q5,q6,q7⟩:=h3 he
  exact⟨b,off,len,cap,kk,k,by rw [hρ,den_app this.1.2];exact q1,zn8.ext (τ:=τ) this.1.1 q2,by rw [hρ,den_app this.2];exact q3,q4,q5,by rw [hρ,den_app this.1.2];exact q6,q7⟩
 |wown h1 h2 h3 h4 h5 h6 _ ih=>exact fun hs=> .wown h1 h2 (by rw [hρ,den_app (hd hs)];exact h3) h4 h5 h6 (ih (tl hs))
 | @lent i _ _ _ h1 _ ih=>exact fun hs=> .lent (by rw [hρ,den_app (x:= .var i) (by simpa [SV.sc,E.sc]using hd hs)];exact h1) (ih (tl hs))
theorem zls.ext {t:Nat} {e:Ent} (h:zls c t e) (hs:e.sc c.ρ.length=true):zls (c.ext τ) t e:=by
 have hρ:(c.ext τ).ρ=c.ρ++τ:=rfl
 cases e with
 |box ty g cs=>
  obtain⟨b,C,h1,h2,h3,h4,h5,h6,h7⟩:=h
  exact⟨b,C,h1,h2,h3,h4,h5,h6,h7.ext (by simpa [Ent.sc]using hs)⟩
 |row ety sz g x d=>
  obtain⟨h1,h2,N,h3,h4,h5⟩:=h
  exact⟨h1,h2,N,by rw [hρ,den_app hs];exact h3,h4,h5⟩
 |frz g x=>
  obtain⟨h1,⟨f,h2,h3⟩,h4⟩:=h
  exact⟨h1,⟨f,by rw [hρ,den_app hs];exact h2,h3⟩,h4⟩
 |gd gs e=>exact h
 |dead=>exact h
 |deep e z l g ep x=>
  obtain⟨h1,h2,h3,h4,h5⟩:=h
  exact⟨h1,h2,h3,by rw [hρ,den_app hs];exact h4,h5⟩
 |hol e z l g ep x i o u=>
  simp only [Ent.sc,Bool.and_eq_true]at hs
  obtain⟨h1,h2,h3,h4,h5⟩:=h
  exact⟨h1,h2,h3,by rw [hρ,den_app hs.1,den_app hs.2];exact h4,h5⟩
theorem zCb {ρ:List AV} {e0 e:Ent} (hs:e0.sc ρ.length=true):Res (ρ++τ) (some e0) e↔Res ρ (some e0) e:=by
 cases e0 with
 |gd gs x=>
  simp only [Ent.sc,Bool.and_eq_true]at hs
  simp only [Res]
  rw [zhB hs.1]
 |_=>simp [Res]
theorem Rel.ext (h:Rel c n sl hp a) (h1: ∀i,(sl i).sc c.ρ.length=true) (h2: ∀t e,hp t=some e→e.sc c.ρ.length=true) (τ:List AV):Rel (c.ext τ) n sl hp a:=by
 have key: ∀t e,Res (c.ρ++τ) (hp t) e↔Res c.ρ (hp t) e:=by
  intro t e
  cases hh:hp t with
  |none=>exact Iff.rfl
  |some e0=>exact zCb (h2 t e0 hh)
 refine⟨h.defers,h.size,⟨h.base.os,h.base.tape,h.base.output,h.base.size,h.base.pins,h.base.block,h.base.pk,h.base.lo⟩,fun i=>(h.slots i).ext (by simpa using h1 i),fun t e hr=> ?_,fun t hn=>h.off t fun e hr=>hn e ((key t e).2 hr),⟨h.gw.nodup,h.gw.disj,h.gw.allow,h.gw.inb⟩,h.usedK,h.usedH⟩
 have hr':=(key t e).1 hr
 have he:=h.ents t e hr'
 cases hh:hp t with
 |none=>rw [hh]at hr';exact hr'.elim
 |some e0=>
  have hsc:=h2 t e0 hh
  rw [hh]at hr'
  cases e0 with
  |gd gs x=>
   obtain⟨_,rfl⟩:=hr'
   simp only [Ent.sc,Bool.and_eq_true]at hsc
   cases x with
   |gd=>exact he
   |dead=>exact he
   |box=>exact he.ext (by simpa [Ent.sc]using hsc.2)
   |row=>exact he.ext (by simpa [Ent.sc]using hsc.2)
   |frz=>exact he.ext (by simpa [Ent.sc]using hsc.2)
   |deep=>exact he.ext (by simpa [Ent.sc]using hsc.2)
   |hol=>exact he.ext (by simpa [Ent.sc]using hsc.2)
  |_=>
   simp only [Res]at hr'
   subst hr'
   exact he.ext hsc
theorem St.sc_sl {σ:St} (h:σ.sc=true) (i:Nat):(zaK σ i).sc σ.nv=true:=by
 simp only [St.sc,Bool.and_eq_true,List.all_eq_true]at h
 unfold zaK
 cases hi:σ.sl[i]? with
 |none=>simp [SV.sc]
 |some s=>exact h.1 s (List.mem_of_getElem? hi)
theorem St.sc_hp {σ:St} (h:σ.sc=true) (t:Nat) (e:Ent) (he:zas σ.hp t=some e):e.sc σ.nv=true:=by
 simp only [St.sc,Bool.and_eq_true,List.all_eq_true]at h
 exact h.2 _ (zec he)
theorem Cn.sc_app {ρ τ:List AV} {q:Cn} (h:q.sc ρ.length=true):q.den (ρ++τ)↔q.den ρ:=by
 cases q<;>simp only [Cn.sc,Bool.and_eq_true]at h<;>simp only [Cn.den]
 case dfd=>rw [den_app h]
 case agg=>rw [den_app h]
 case cells=>rw [den_app h]
 case inb=>rw [den_app h.1,den_app h.2]
 case inbS=>rw [den_app h.1,den_app h.2]
 case win=>rw [den_app h.1.1,den_app h.1.2,den_app h.2]
 case winS=>rw [den_app h.1.1,den_app h.1.2,den_app h.2]
 case room=>rw [den_app h.1,den_app h.2]
 case roomS=>rw [den_app h.1,den_app h.2]
 case mkroom=>rw [den_app h]
 case nz=>rw [den_app h]
 case nn=>rw [den_app h]
 case isref=>rw [den_app h]
 case issl=>rw [den_app h]
 case flat=>rw [den_app h]
 case flatS=>rw [den_app h]
 case kinds=>rw [den_app h]
theorem zvW:SR c [gone] [Go.undef]:= .gd (fun hg=>by have:=hg (.bool false,true) (by simp);simp [E.den]at this) (fun _=>rfl) .nil
theorem zuc {ρ:List AV} {x:E} {b:Bool} {hs:Gd} (hx:x.den ρ= .bool b) (h:zvI (x, !b) hs=true): ¬zex ρ hs:=by
 intro k
 have:=zwp h k
 simp only at this
 rw [hx]at this
 simp at this
theorem zmy {ρ:List AV} {x:E} {b:Bool} {hs:Gd} (hx:x.den ρ= .bool b):zex ρ (hs.filter fun h=> !(h.1.beq x&&h.2==b))↔zex ρ hs:=by
 refine⟨fun k g hg=> ?_,fun k g hg=>k g (List.mem_filter.1 hg).1⟩
 by_cases hh:(g.1.beq x&&g.2==b)=true
 ·simp only [Bool.and_eq_true,beq_iff_eq]at hh
  rw [E.beq_den ρ _ _ hh.1,hx,hh.2]
 ·exact k g (List.mem_filter.2 ⟨hg,by rw [Bool.not_eq_true]at hh;rw [hh];rfl⟩)
theorem SR.mkGd_iff {s:SV} {v:Value} {gs:Gd} (h1:zex c.ρ gs→SR c [s] [v]) (h2: ¬zex c.ρ gs→v=Go.undef):SR c [Go.Proofs.YtbmbkgalkfmjdaaGreatDoor.mkGd gs s] [v]:=by
 cases gs with
 |nil=>exact h1 (zb5 _)
 |cons g gs=>exact .gd h1 h2 .nil
theorem SR.assumed {x:E} {b:Bool} (hx:x.den c.ρ= .bool b) {s:SV} {v:Value} (h:SR c [s] [v]):SR c [assumeS x b s] [v]:=by
 cases s with
 |gd hs s=>
  simp only [Go.Proofs.YtbmbkgalkfmjdaaGreatDoor.assumeS]
  cases h with
  |gd h1 h2 _=>
   split
   ·rename_i hm
    rw [h2 (zuc hx hm)];exact zvW
   ·exact SR.mkGd_iff (fun k=>h1 ((zmy hx).1 k)) (fun k=>h2 fun k'=>k ((zmy hx).2 k'))
 |_=>exact h
theorem zzE (f:Ent→Ent) (l:List (Nat × Ent)) (t:Nat):zas (l.map fun(t,e)=>(t,f e)) t=(zas l t).map f:=by
 induction l with
 |nil=>rfl
 |cons p l ih=>
  obtain⟨u,e⟩:=p
  simp only [List.map_cons,zas]
  split
  ·rfl
  ·exact ih
theorem Rel.assumed {x:E} {b:Bool} (hx:x.den c.ρ= .bool b) (h:Rel c n sl hp a):Rel c n (fun i=>assumeS x b (sl i)) (fun t=>(hp t).map (assumeE x b)) a:=by
 have hnone: ∀t,(∀e,Res c.ρ (hp t) e→ ∃gs y,e= .gd gs y∨e= .dead)→(c.G t).top= []∧(c.G t).O= []:=by
  intro t ht
  by_cases hh: ∃e,Res c.ρ (hp t) e
  ·obtain⟨e,he⟩:=hh
   obtain⟨gs,y,rfl|rfl⟩:=ht e he
   ·exact h.ents t _ he
   ·exact h.ents t _ he
  ·exact h.off t fun e he=>hh ⟨e,he⟩
 have cases': ∀t,((∀e,Res c.ρ ((hp t).map (assumeE x b)) e↔Res c.ρ (hp t) e))∨((hp t).map (assumeE x b)=some .dead∧(c.G t).top= []∧(c.G t).O= []):=by
  intro t
  cases hh:hp t with
  |none=>exact .inl fun e=>Iff.rfl
  |some e0=>
   cases e0 with
   |gd hs y=>
    by_cases hm:zvI (x, !b) hs=true
    ·refine .inr ⟨by simp [Go.Proofs.YtbmbkgalkfmjdaaGreatDoor.assumeE,hm],hnone t fun e he=> ?_⟩
     rw [hh]at he
     exact absurd he.1 (zuc hx hm)
    ·by_cases hy: ∃gs z,y= .gd gs z
     ·obtain⟨gs,z,rfl⟩:=hy
      refine .inr ⟨by simp [Go.Proofs.YtbmbkgalkfmjdaaGreatDoor.assumeE,hm],hnone t fun e he=> ?_⟩
      rw [hh]at he
      exact⟨gs,z, .inl he.2.symm⟩
     ·refine .inl fun e=> ?_
      have he:assumeE x b (.gd hs y)=zew (hs.filter fun h=> !(h.1.beq x&&h.2==b)) y:=by
       simp only [Go.Proofs.YtbmbkgalkfmjdaaGreatDoor.assumeE,hm,Bool.false_eq_true,if_false]
       cases y<;>first|rfl|exact absurd ⟨_,_,rfl⟩ hy
      simp only [Option.map_some,he]
      show _↔zex c.ρ hs∧y=e
      rw [←zmy hx]
      generalize (hs.filter fun h=> !(h.1.beq x&&h.2==b))=fs
      cases fs with
      |nil=>
       simp only [zew,zb5,true_and]
       cases y<;>first|exact absurd ⟨_,_,rfl⟩ hy|exact Iff.rfl
      |cons g fs=>exact Iff.rfl
   |_=>exact .inl fun e=>Iff.rfl
 refine⟨h.defers,h.size,h.base,fun i=>(h.slots i).assumed hx,fun t e hr=> ?_,fun t hn=> ?_,h.gw,h.usedK,fun t e he=> ?_⟩
 ·rcases cases' t with hc|⟨hc,h1,h2⟩
  ·exact h.ents t e ((hc e).1 hr)
  ·rw [hc]at hr
   have:Ent.dead=e:=hr
   subst this
   exact⟨h1,h2⟩
 ·rcases cases' t with hc|⟨hc,h1,h2⟩
  ·exact h.off t fun e he=>hn e ((hc e).2 he)
  ·exact⟨h1,h2⟩
 ·cases hh:hp t with
  |none=>rw [hh]at he;cases he
  |some e0=>exact h.usedH t e0 hh
end
end Go.Proofs.YtbmbkgalkfmjdaaGreatDoor
end
section
namespace Go.Proofs.YtbmbkgalkfmjdaaGreatDoor
open Go.RowKit
theorem znI {σ:St} {d:Option Nat} {s:SV}:zaK (zf6 σ d s)=zjL σ.sl.length (zaK σ) d s:=by
 funext i
 cases d with
 |none=>simp [zf6,zjL]
 |some d=>
  simp only [zf6,zaK,zjL,Option.some.injEq,List.getElem?_set]
  by_cases h:d=i
  ·subst h
   by_cases h2:d<σ.sl.length
   ·simp [h2]
   ·simp [h2,List.getElem?_eq_none (Nat.le_of_not_lt h2)]
  ·simp [h]
theorem zma {σ:St} {d:Option Nat} {s:SV}:(zf6 σ d s).sl.length=σ.sl.length:=by cases d<;>simp [zf6]
theorem zop {σ:St} {d:Option Nat} {s:SV}:(zf6 σ d s).hp=σ.hp:=by cases d<;>rfl
theorem zn3 {σ:St} {d:Option Nat} {s:SV}:(zf6 σ d s).nv=σ.nv:=by cases d<;>rfl
theorem zyK (l:List (Nat × Ent)) (t:Nat) (e:Ent) (u:Nat):zas (ztw l t e) u=if u=t then some e else zas l u:=by
 induction l with
 |nil=>
  simp only [ztw,zas]
  by_cases h:t=u
  ·simp [h]
  ·rw [if_neg h,if_neg (Ne.symm h)]
 |cons p l ih=>
  obtain⟨v,f⟩:=p
  simp only [ztw]
  split
  ·rename_i hv;subst hv
   simp only [zas]
   by_cases h:v=u
   ·simp [h]
   ·rw [if_neg h,if_neg (Ne.symm h),if_neg h]
  ·rename_i hv
   simp only [zas]
   by_cases h:v=u
   ·subst h;rw [if_pos rfl,if_neg hv,if_pos rfl]
   ·rw [if_neg h,ih,if_neg h]
theorem zsv: ∀(ents:List (Nat × Ent)) (l:List (Nat × Ent)),zas (ents.foldl (fun l (p:Nat × Ent)=>ztw l p.1 p.2) l)=zd6 (zas l) ents
 | [],l=>rfl
 |(t,e)::ents,l=>by
  simp only [List.foldl_cons]
  rw [zsv ents]
  have:zas (ztw l t e)=fun u=>if u=t then some e else zas l u:=by funext u;exact zyK l t e u
  rw [this];rfl
section
variable {P:Program} {sg:SgT} {Rt:Nat→List AV→AV→Prop} {ops:Array Oper}
theorem zwv {σ:St} {gs:Gd} {o:Oper} {e:Eff}:zaK (zhF σ gs o e)=zjL σ.sl.length (zaK σ) o.dst (mkGd gs e.val):=by
 rw [←znI];rfl
theorem zwG {σ:St} {gs:Gd} {o:Oper} {e:Eff}:zas (zhF σ gs o e).hp=zd6 (zas σ.hp) e.ent:=by
 have:(zhF σ gs o e).hp=e.ent.foldl (fun l (p:Nat × Ent)=>ztw l p.1 p.2) σ.hp:=by
  show e.ent.foldl (fun l (p:Nat × Ent)=>ztw l p.1 p.2) (zf6 σ o.dst (mkGd gs e.val)).hp=_
  rw [zop]
 rw [this,zsv]
theorem zun {σ:St} {gs:Gd} {o:Oper} {e:Eff}:(zhF σ gs o e).sl.length=σ.sl.length:=by
 show(zf6 σ o.dst (mkGd gs e.val)).sl.length=_
 rw [zma]
theorem zsU {σ:St} {gs:Gd} {o:Oper} {e:Eff}:(zhF σ gs o e).nv=if e.call.isSome||e.nilq.isSome then σ.nv+1 else σ.nv:=by
 show(if e.call.isSome||e.nilq.isSome then(zf6 σ o.dst (mkGd gs e.val)).nv+1 else(zf6 σ o.dst (mkGd gs e.val)).nv)=_
 rw [zn3]
theorem zta {R:AV→Prop} {gs:Gd} {k:Tr} {L:LK} {js:List JK} {ρ:List AV}: ∀{cs:List Cn},(cs.foldr (fun c k=> .chk gs c k) k:Tr).den Rt R L js ρ→(zex ρ gs→ ∀q∈cs,q.den ρ)∧k.den Rt R L js ρ
 | [],h=>⟨by simp,h⟩
 |c::cs,h=>by
  obtain⟨h1,h2⟩:=h
  obtain⟨h3,h4⟩:=zta h2
  refine⟨fun hg q hq=> ?_,h4⟩
  rcases List.mem_cons.1 hq with rfl|hq
  ·exact h1 hg
  ·exact h3 hg q hq
theorem zwn {l:List (Nat × Ent)} {R:List Nat} {t:Nat} {e:Ent} (h:zDs l R t=some e):zas l t=some e:=by
 unfold zDs at h
 split at h
 ·exact h
 ·cases h
theorem zso {f:Nat ⊕ E} {as_:EL} {ρ τ:List AV} {r:AV} (h1:(match f with| .inl _=>true| .inr x=>x.sc ρ.length)=true) (h2:as_.sc ρ.length=true):ziT Rt f (as_.den (ρ++τ)) (ρ++τ) r↔ziT Rt f (as_.den ρ) ρ r:=by
 rw [zzN h2]
 cases f with
 |inl f=>exact Iff.rfl
 |inr x=>simp only [ziT];rw [den_app h1]
theorem EL.sc_of {n:Nat}: ∀{l:List E},l.all (E.sc n)=true→(EL.of l).sc n=true
 | [],_=>rfl
 |x::l,h=>by
  simp only [List.all_cons,Bool.and_eq_true]at h
  simp only [EL.of,EL.sc,Bool.and_eq_true]
  exact⟨h.1,EL.sc_of h.2⟩
structure Mid (F:Fix) (c:Cx) (σ:St) (a:Act) (n m:Nat):Prop where
 w0:c.w0=F.w0
 A:c.A=F.A
 Mu:c.Mu=F.Mu
 nv:c.ρ.length=σ.nv
 len:σ.sl.length=n
 U: ∀t,c.U t→t<m
 rel:Rel c n (zaK σ) (zas σ.hp) a
theorem Mid.ext {F:Fix} {c:Cx} {σ:St} {a:Act} {n m:Nat} (h:Mid F c σ a n m) (hs:σ.sc=true) (τ:List AV):Rel (c.ext τ) n (zaK σ) (zas σ.hp) a:=
 h.rel.ext (fun i=>by rw [h.nv];exact St.sc_sl hs i) (fun t e he=>by rw [h.nv];exact St.sc_hp hs t e he) τ
theorem zEx (hop:zCG P sg Rt) (hnil:zyr P sg) {F:Fix} {c:Cx} {σ:St} {a:Act} {n i base:Nat} {o:Oper} {gs:Gd} {e:Eff} {k:Tr} {R:AV→Prop} {L:LK} {js:List JK} {Q:Exit→Act→World→Prop} {K:Act→World→Prop}
  (hi:ops[i]?=some o) (hm:Mid F c σ a n (base+zan*i)) (hgo:GOK c.ρ ops o a (some gs)) {Rs:List Nat} (he:zm7 P sg (zaK σ) (zDs σ.hp Rs) σ.nv (base+zan*i) gs o=some e) (hsc:zxh σ.nv (base+zan*i) σ.hp gs e=true)
  (hsc2:(e.call.isSome||e.nilq.isSome)=true→σ.sc=true) (hd:(ztb gs e k).den Rt R L js c.ρ)
  (hK: ∀(c':Cx) (a':Act),c.ρ<+:c'.ρ→Mid F c' (zhF σ gs o e) a' n (base+zan*(i+1))→k.den Rt R L js c'.ρ→K a' c'.w):wpOp P ops Q i K a c.w:=by
 simp only [zxh,Bool.and_eq_true,List.all_eq_true]at hsc
 obtain⟨⟨⟨⟨hs1,hs2⟩,hs3⟩,hs4⟩,hs5⟩:=hsc
 have hent:gs≠ []→ ∀t x,(t,x)∈e.ent→base+zan*i≤t∧t<base+zan*i+zan∧ ∃hs y,x= .gd hs y∧zsX gs hs=true:=by
  intro hne t x hx
  have:=hs5 _ hx
  have hem:gs.isEmpty=false:=by cases gs;exact absurd rfl hne;rfl
  simp only [hem,Bool.false_or,Bool.false_and,Bool.or_false,Bool.and_eq_true,decide_eq_true_eq]at this
  refine⟨this.1.1,this.1.2, ?_⟩
  have h3:=this.2
  split at h3
  ·exact⟨_,_,rfl,h3⟩
  ·cases h3
 have hnew: ∀t,base+zan*i≤t→t<base+zan*i+zan→ ¬c.U t:=fun t h1 _ h3=>by have:=hm.U t h3;omega
 have hstep: ∀(τ:List AV),Rel (c.ext τ) n (zaK σ) (zas σ.hp) a→τ.length=(if e.call.isSome||e.nilq.isSome then 1 else 0)→k.den Rt R L js (c.ρ++τ)→(zex c.ρ gs→ ∀q∈e.chk,q.den c.ρ)→
   (∀cl,e.call=some cl→ ∃r,τ= [r]∧(zex c.ρ gs→ziT Rt cl.fn ((EL.of cl.args).den c.ρ) c.ρ r))→(∀x,e.nilq=some x→τ= [.bool (zlC a o)])→wpOp P ops Q i K a c.w:=by
  intro τ hrel hτ hk hc hcall hnq
  have hnv:σ.nv=c.ρ.length:=hm.nv.symm
  rw [hnv]at hs1 hs2 hs3
  have hget: ∀r,τ= [r]→(c.ρ++τ)[σ.nv]?=some r:=by
   rintro r rfl;rw [hnv];simp
  refine zzB (c:=c.ext τ) hop hi hrel ⟨fun hg=>hgo.1 ((zhB hs1).1 hg),fun hg=>hgo.2 fun k=>hg ((zhB hs1).2 k)⟩ (fun _ _=>rfl) (fun t e h=>zwn h) hnew he hent (fun hg q hq=> ?_) (fun cl hcl=> ?_) (fun x hx _=>hget _ (hnq x hx)) (fun a' c' hsame hr=> ?_)
  ·exact(Cn.sc_app (hs2 q hq)).2 (hc ((zhB hs1).1 hg) q hq)
  ·obtain⟨r,rfl,h2⟩:=hcall cl hcl
   rw [hcl]at hs3
   simp only [Bool.and_eq_true]at hs3
   exact⟨r,hget r rfl,fun hg=>(zso hs3.1 (EL.sc_of hs3.2)).2 (h2 ((zhB hs1).1 hg))⟩
  ·have hρ:c'.ρ=c.ρ++τ:=hsame.ρ
   refine hK c' a' ⟨τ,hρ.symm⟩ ⟨hsame.w0.trans hm.w0,hsame.A.trans hm.A,hsame.Mu.trans hm.Mu, ?_,by rw [zun];exact hm.len,fun t ht=> ?_, ?_⟩ (by rw [hρ];exact hk)
   ·rw [hρ,zsU,List.length_append,hτ,hnv];split<;>rfl
   ·have hmul:base+zan*(i+1)=base+zan*i+zan:=by rw [Nat.mul_add];omega
    rw [hmul]
    rcases hsame.U t ht with h|h
    ·have:=hm.U t h;omega
    ·exact h.2
   ·rw [zwv,zwG,hm.len];exact hr
 unfold ztb at hd
 obtain⟨hc,hd⟩:=zta hd
 cases hcl:e.call with
 |none=>
  simp only [hcl]at hd
  cases hnq:e.nilq with
  |none=>
   simp only [hnq]at hd
   refine hstep [] (by have:=hm.rel;simpa [Cx.ext]using this) (by simp [hcl,hnq]) (by simpa using hd) hc (fun cl h=>by rw [hcl]at h;cases h) (fun x h=>by rw [hnq]at h;cases h)
  |some x=>
   simp only [hnq]at hd
   have hss:=hsc2 (by simp [hnq])
   refine hstep [.bool (zlC a o)] (hm.ext hss _) (by simp [hnq]) (hd _ fun hg hb=> ?_) hc (fun cl h=>by rw [hcl]at h;cases h) (fun x h=>rfl)
   exact hnil c n _ _ _ a _ _ o gs e _ x ⟨hm.rel,hg,fun _ _=>rfl,fun t e h=>zwn h,fun t h1 h2=>hnew t h1 (Nat.lt_of_lt_of_le h2 (Nat.add_le_add_left (by decide) _))⟩ he hnq hb
 |some cl=>
  simp only [hcl]at hd
  cases hnq:e.nilq with
  |some x=>
   rw [hnq]at hs4
   simp [hcl]at hs4
  |none=>
   simp only [hnq]at hd
   obtain⟨r,h1,h2⟩:=hd
   have hss:=hsc2 (by simp [hcl])
   refine hstep [r] (hm.ext hss _) (by simp [hcl]) h2 hc (fun cl' h=>by rw [hcl]at h;cases h;exact⟨r,rfl,h1⟩) (fun x h=>by rw [hnq]at h;cases h)
theorem zyM {σ:St} {x:E} {b:Bool} {d:Nat}:zaK (assume x b d σ)=zjL σ.sl.length (fun i=>assumeS x b (zaK σ i)) (some d) (.e (.bool b)):=by
 funext i
 simp only [assume,zaK,zjL,Option.some.injEq,List.getElem?_set,List.length_map,List.getElem?_map]
 by_cases h:d=i
 ·subst h
  by_cases h2:d<σ.sl.length
  ·simp [h2]
  ·simp [h2,List.getElem?_eq_none (Nat.le_of_not_lt h2),assumeS]
 ·simp only [h,false_and,if_false]
  cases hh:σ.sl[i]?<;>simp [assumeS]
theorem zyA {σ:St} {x:E} {b:Bool} {d:Nat}:zas (assume x b d σ).hp=fun t=>(zas σ.hp t).map (assumeE x b):=by
 funext t;exact zzE _ _ _
theorem Mid.assume {F:Fix} {c:Cx} {σ:St} {a:Act} {n m:Nat} (h:Mid F c σ a n m) {x:E} {b:Bool} (hx:x.den c.ρ= .bool b) {d:Nat} (hd:zaK σ d= .e x):Mid F c (Go.Proofs.YtbmbkgalkfmjdaaGreatDoor.assume x b d σ) a n m:=by
 refine⟨h.w0,h.A,h.Mu,h.nv, ?_,h.U, ?_⟩
 ·simp only [Go.Proofs.YtbmbkgalkfmjdaaGreatDoor.assume,List.length_set,List.length_map];exact h.len
 ·rw [zyM,zyA]
  have hr:=h.rel.assumed hx
  refine{hr with slots:=fun i=> ?_}
  unfold zjL
  split
  ·rename_i hi
   obtain⟨hi,_⟩:=hi
   cases hi
   have:=h.rel.slots d
   rw [hd]at this
   generalize a.tmps.getD d Go.undef=v at this
   cases this with
   |e h1 h2 _=>exact .e (f:= []) (by rw [hx]at h1;rw [zgC h1 rfl];exact .bool .nil) (by simp) .nil
  ·exact hr.slots i
theorem zyI (hop:zCG P sg Rt) (hnil:zyr P sg) {F:Fix} {base:Nat} {R:AV→Prop} {L:LK} {js:List JK} {Q:Exit→Act→World→Prop} {n:Nat} {next:List Log→St→Option Tr} {i:Nat} {o:Oper} {lg:List Log} {rest:List Nat} (hi:ops[i]?=some o)
  (hnext: ∀(lg:List Log) (σ:St) (t:Tr),next lg σ=some t→ ∀(c:Cx) (a:Act),Mid F c σ a n (base+zan*(i+1))→t.den Rt R L js c.ρ→(∀(c':Cx) (a':Act) (σ':St),c.ρ<+:c'.ρ→L js .normal σ' c'.ρ→zvf F c'.ρ σ' a' c'.w→Q .normal a' c'.w)→wpOps P ops Q rest a c.w):
  ∀(m:Nat) (σ:St) (t:Tr),zzH P sg ops false base next i o lg m σ=some t→
  ∀(c:Cx) (a:Act),Mid F c σ a n (base+zan*i)→t.den Rt R L js c.ρ→(∀(c':Cx) (a':Act) (σ':St),c.ρ<+:c'.ρ→L js .normal σ' c'.ρ→zvf F c'.ρ σ' a' c'.w→Q .normal a' c'.w)→wpOps P ops Q (i::rest) a c.w:=by
 have hnext':base+zan*i≤base+zan*(i+1):=by rw [Nat.mul_add];omega
 have try_: ∀(fail:Unit→Option Tr) (σ:St) (t:Tr),zz9 P sg ops false base next i o lg fail σ=some t→ ∀(c:Cx) (a:Act),Mid F c σ a n (base+zan*i)→t.den Rt R L js c.ρ→(∀(c':Cx) (a':Act) (σ':St),c.ρ<+:c'.ρ→L js .normal σ' c'.ρ→zvf F c'.ρ σ' a' c'.w→Q .normal a' c'.w)→
   (fail ()=some t→wpOps P ops Q (i::rest) a c.w)→wpOps P ops Q (i::rest) a c.w:=by
  intro fail σ t ht c a hm hd hq hfail
  unfold zz9 at ht
  cases hgu:zjr σ ops o with
  |none=>rw [hgu]at ht;cases ht
  |some r=>
   have hgo:=zqR (c:=c) (a:=a) hgu (fun j want d _ _=>hm.rel.slots d)
   rw [hgu]at ht
   cases r with
   |none=>
    simp only at ht
    rw [wpOps_cons]
    unfold wpOp
    simp only [hi]
    rw [if_neg (by simp [show Region.wanted o (yielded ops a.tmps)=false from hgo])]
    refine hnext lg _ t ht c _ ⟨hm.w0,hm.A,hm.Mu,by rw [zn3];exact hm.nv,by rw [zma];exact hm.len,fun t ht=>Nat.lt_of_lt_of_le (hm.U t ht) hnext', ?_⟩ hd hq
    rw [znI,zop,hm.len]
    exact hm.rel.put zvW o.dst
   |some gs=>
    simp only at ht
    split at ht
    ·rename_i e he
     split at ht
     ·cases ht
     ·rename_i hcond
      split at ht
      ·cases ht
      ·rename_i k hk
       simp only [Option.some.injEq]at ht;subst ht
       simp only [Bool.false_and,Bool.false_or,Bool.not_false,Bool.true_and,Bool.or_eq_true,Bool.not_eq_true',Bool.and_eq_true,not_or,Bool.not_eq_false]at hcond
       rw [wpOps_cons]
       refine zEx hop hnil hi hm hgo he hcond.1 (fun hh=> ?_) hd fun c' a' hp hm' hk'=>hnext _ _ k hk c' a' hm' hk' fun c'' a'' σ' hp'=>hq c'' a'' σ' (hp.trans hp')
       have:=hcond.2
       simp only [Bool.or_eq_true]at hh
       simpa [hh]using this
    ·exact hfail ht
 intro m
 induction m with
 |zero=>exact fun σ t ht c a hm hd hq=>try_ _ σ t ht c a hm hd hq fun h=>by cases h
 |succ m ih=>
  intro σ t ht c a hm hd hq
  refine try_ _ σ t ht c a hm hd hq fun h=> ?_
  split at h
  ·rename_i d _ _
   split at h
   ·rename_i x hgd
    split at h
    ·rename_i k1 k0 hk1 hk0
     simp only [Option.some.injEq]at h;subst h
     obtain⟨tt,h1,h2,h3⟩:=hd
     cases tt with
     |true=>exact ih _ k1 hk1 c a (hm.assume h1 hgd) (h2 rfl) hq
     |false=>exact ih _ k0 hk0 c a (hm.assume h1 hgd) (h3 rfl) hq
    ·cases h
   ·cases h
  ·cases h
theorem zzY (hop:zCG P sg Rt) (hnil:zyr P sg) {F:Fix} {base:Nat} {R:AV→Prop} {L:LK} {js:List JK} {Q:Exit→Act→World→Prop} {n:Nat}: ∀(len i:Nat) (lg:List Log) (σ:St) (t:Tr),i+len=ops.size→zsD P sg ops false base (List.range' i len) lg σ=some t→
  ∀(c:Cx) (a:Act),Mid F c σ a n (base+zan*i)→t.den Rt R L js c.ρ→(∀(c':Cx) (a':Act) (σ':St),c.ρ<+:c'.ρ→L js .normal σ' c'.ρ→zvf F c'.ρ σ' a' c'.w→Q .normal a' c'.w)→wpOps P ops Q (List.range' i len) a c.w
 |0,i,lg,σ,t,hl,ht,c,a,hm,hd,hq=>by
  simp only [List.range'_zero,zsD,Bool.false_and,Bool.false_eq_true,if_false,Option.some.injEq]at ht ⊢
  subst ht
  refine hq c a _ (List.prefix_refl _) hd ⟨c,rfl,rfl,hm.w0,hm.A,hm.Mu,hm.nv,fun t ht=> ?_, ?_⟩
  ·have:=hm.U t ht
   have h9:i=ops.size:=by omega
   subst h9;exact this
  ·have:=hm.rel
   rw [←hm.len]at this;exact this
 |len+1,i,lg,σ,t,hl,ht,c,a,hm,hd,hq=>by
  rw [List.range'_succ]at ht ⊢
  unfold zsD at ht
  obtain⟨o,hi⟩: ∃o,ops[i]?=some o:=⟨ops[i]'(by omega),by simp [show i<ops.size by omega]⟩
  rw [hi]at ht
  simp only at ht
  exact zyI hop hnil hi (fun lg σ t ht c a=>zzY hop hnil (n:=n) len (i+1) lg σ t (by omega) ht c a) 4 σ t ht c a hm hd hq
end
end Go.Proofs.YtbmbkgalkfmjdaaGreatDoor
end
section
namespace Go.Proofs.YtbmbkgalkfmjdaaGreatDoor
open Go.RowKit
def zCx (l:List Oper) (bs:List Nat):Prop:=bs.length=l.length∧ ∀(j:Nat) (o:Oper),l[j]?=some o→ ∀i,((bs[j]?).getD 0).testBit i=true→ ∃e∈o.after.toList,Region.binds .any e=true∧(i=e.on∨(e.on<j∧((bs[e.on]?).getD 0).testBit i=true))
theorem zoG (acc:List Nat) (i:Nat): ∀(es:List Edge) (s:Nat),(es.foldl (fun s e=>if Region.binds .any e then s|||2^e.on|||(acc[e.on]?).getD 0 else s) s).testBit i=true→
  s.testBit i=true∨ ∃e∈es,Region.binds .any e=true∧(i=e.on∨((acc[e.on]?).getD 0).testBit i=true)
 | [],s,h=> .inl h
 |e::es,s,h=>by
  simp only [List.foldl_cons]at h
  rcases zoG acc i es _ h with h|⟨e',h1,h2⟩
  ·split at h
   ·rename_i hb
    simp only [Nat.testBit_or,Nat.testBit_two_pow,Bool.or_eq_true,decide_eq_true_eq]at h
    rcases h with(h|h)|h
    ·exact .inl h
    ·exact .inr ⟨e,by simp,hb, .inl h.symm⟩
    ·exact .inr ⟨e,by simp,hb, .inr h⟩
   ·exact .inl h
  ·exact .inr ⟨e',by simp [h1],h2⟩
theorem zux: ∀(os pre:List Oper) (acc:List Nat),zCx pre acc→zCx (pre++os) (zAd os acc)
 | [],pre,acc,h=>by simpa [zAd]using h
 |o::os,pre,acc,h=>by
  obtain⟨hl,hb⟩:=h
  have:=zux os (pre++ [o]) (acc++ [zvs acc o]) ⟨by simp [hl],fun j o' ho i hi=> ?_⟩
  ·simpa [zAd]using this
  ·have hlt: ∀k,k<acc.length→((acc++ [zvs acc o])[k]?).getD 0=(acc[k]?).getD 0:=fun k hk=>by rw [List.getElem?_append_left hk]
   by_cases hj:j<pre.length
   ·rw [List.getElem?_append_left hj]at ho
    rw [hlt j (by omega)]at hi
    obtain⟨e,h1,h2,h3⟩:=hb j o' ho i hi
    exact⟨e,h1,h2,h3.imp id fun h=>⟨h.1,by rw [hlt _ (by omega)];exact h.2⟩⟩
   ·rw [List.getElem?_append_right (by omega)]at ho
    have hj0:j-pre.length=0:=by
     cases hh:j-pre.length with
     |zero=>rfl
     |succ k=>rw [hh]at ho;simp at ho
    rw [hj0]at ho
    simp at ho;subst ho
    have hj':j=acc.length:=by omega
    rw [hj',List.getElem?_append_right (Nat.le_refl _)]at hi
    simp only [Nat.sub_self,List.getElem?_cons_zero,Option.getD_some]at hi
    rcases zoG acc i _ 0 hi with h|⟨e,h1,h2,h3⟩
    ·simp at h
    ·refine⟨e,h1,h2,h3.imp id fun h=> ?_⟩
     have he:e.on<acc.length:=by
      rcases Nat.lt_or_ge e.on acc.length with hh|hh
      ·exact hh
      ·rw [List.getElem?_eq_none hh]at h;simp at h
     exact⟨by omega,by rw [hlt _ he];exact h⟩
def zu4 (ops:Array Oper) (S:Nat→Bool):Prop:= ∀k o,S k=true→ops[k]?=some o→ ∀e∈o.after.toList,Region.binds .any e=true→S e.on=true
theorem zDM (ops:Array Oper):zCx ops.toList (zAd ops.toList []):=by
 have:=zux ops.toList [] [] ⟨rfl,by simp⟩
 simpa using this
theorem zsk {ops:Array Oper} {S:Nat→Bool} (hS:zu4 ops S): ∀(k:Nat) (i:Nat),S k=true→k<ops.size→(((zAd ops.toList [])[k]?).getD 0).testBit i=true→S i=true:=by
 intro k
 induction k using Nat.strongRecOn with
 |_ k ih=>
  intro i hk hlt hb
  have ho:ops.toList[k]?=some ops[k]:=by simp [hlt]
  obtain⟨e,h1,h2,h3⟩:=(zDM ops).2 k _ ho i hb
  have hon:=hS k ops[k] hk (by simp [hlt]) e h1 h2
  rcases h3 with rfl|⟨h3,h4⟩
  ·exact hon
  ·exact ih e.on h3 i hon (by omega) h4
theorem zzV {ops:Array Oper} {S:Nat→Bool} (hS:zu4 ops S) {j i:Nat} {o:Oper} (ho:ops[j]?=some o) (hr: ∀e∈o.after.toList,Region.binds .any e=true→S e.on=true) (hb:(((zAd ops.toList [])[j]?).getD 0).testBit i=true):S i=true:=by
 have hlt:j<ops.size:=(Array.getElem?_eq_some_iff.1 ho).1
 obtain⟨e,h1,h2,h3⟩:=(zDM ops).2 j o (by simpa using ho) i hb
 have hon:=hr e h1 h2
 rcases h3 with rfl|⟨h3,h4⟩
 ·exact hon
 ·exact zsk hS e.on i hon (by omega) h4
theorem zyR {ops:Array Oper} {S:Nat→Bool} (hS:zu4 ops S) {j i:Nat} {o:Oper} (ho:ops[j]?=some o) (hi:i<ops.size) (hj:S j=false) (hr: ∀e∈o.after.toList,Region.binds .any e=true→S e.on=true) (hne:i≠j) (hord:ordB (zAd ops.toList []) i j=true):S i=decide (i<j):=by
 unfold ordB at hord
 split at hord
 ·rename_i h
  rw [zzV hS ho hr hord];simp [h]
 ·rename_i h
  cases hs:S i with
  |false=>simp [h]
  |true=>
   have:=zsk hS i j hs hi hord
   rw [hj]at this;cases this
structure Rec where
 i:Nat
 o:Oper
 σ:St
 r:Option (Gd × Eff)
def Rec.next (x:Rec):St:=match x.r with|none=>zf6 x.σ x.o.dst gone|some (gs,e)=>zhF x.σ gs x.o e
def Rec.val (x:Rec):SV:=match x.r with|none=>gone|some (gs,e)=>mkGd gs e.val
def Rec.ent (x:Rec):List (Nat × Ent):=match x.r with|none=> []|some (_,e)=>e.ent
def zEE (P:Program) (sg:SgT) (Rt:Nat→List AV→AV→Prop) (ops:Array Oper) (base:Nat) (ρ:List AV) (x:Rec):Prop:=
 ops[x.i]?=some x.o∧match x.r with
  |none=>zjr x.σ ops x.o=some none
  |some (gs,e)=>zjr x.σ ops x.o=some (some gs)∧zm7 P sg (zaK x.σ) (zDs x.σ.hp (zqu x.σ gs x.o)) x.σ.nv (base+zan*x.i) gs x.o=some e∧e.nilq=none∧zxh x.σ.nv (base+zan*x.i) x.σ.hp gs e=true∧
   (zex ρ gs→ ∀q∈e.chk,q.den ρ)∧ ∀cl,e.call=some cl→ ∃r,ρ[x.σ.nv]?=some r∧(zex ρ gs→ziT Rt cl.fn ((EL.of cl.args).den ρ) ρ r)
def zg7:Nat→St→List Rec→St→Prop
 |_,σ, [],σ'=>σ=σ'
 |i,σ,x::xs,σ'=>x.i=i∧x.σ=σ∧zg7 (i+1) x.next xs σ'
def Rec.log (x:Rec):Option Log:=x.r.map fun(gs,e)=>⟨x.i,zqu x.σ gs x.o,e.ent.map (·.1)⟩
theorem zqo {P:Program} {sg:SgT} {Rt:Nat→List AV→AV→Prop} {ops:Array Oper} {base:Nat} {R:AV→Prop} {L:LK} {js:List JK}: ∀(len i:Nat) (lg:List Log) (σ:St) (t:Tr) (ρ:List AV),i+len=ops.size→
  zsD P sg ops true base (List.range' i len) lg σ=some t→t.den Rt R L js ρ→ρ.length=σ.nv→
  ∃(τ:List AV) (xs:List Rec) (σ':St) (lg':List Log),zg7 i σ xs σ'∧xs.length=len∧(∀x∈xs,zEE P sg Rt ops base (ρ++τ) x)∧(ρ++τ).length=σ'.nv∧L js .normal {σ' with nx:=base+zan*ops.size} (ρ++τ)∧zwl ops lg'=true∧(∀y∈lg,y∈lg')∧ ∀x∈xs,∀y,x.log=some y→y∈lg'
 |0,i,lg,σ,t,ρ,hl,ht,hd,hn=>by
  simp only [List.range'_zero,zsD,Bool.true_and]at ht
  split at ht
  ·cases ht
  ·rename_i hdr
   simp only [Option.some.injEq]at ht;subst ht
   exact⟨[], [],σ,lg,rfl,rfl,by simp,by simpa using hn,by simpa [Tr.den]using hd,by simpa using hdr,fun y hy=>hy,by simp⟩
 |len+1,i,lg,σ,t,ρ,hl,ht,hd,hn=>by
  rw [List.range'_succ]at ht
  unfold zsD at ht
  obtain⟨o,hi⟩: ∃o,ops[i]?=some o:=⟨ops[i]'(by omega),by simp [show i<ops.size by omega]⟩
  rw [hi]at ht
  simp only at ht
  unfold zzH zz9 at ht
  cases hgu:zjr σ ops o with
  |none=>rw [hgu]at ht;cases ht
  |some r=>
   rw [hgu]at ht
   cases r with
   |none=>
    simp only at ht
    obtain⟨τ,xs,σ',lg',h1,h2,h3,h4,h5,h6,h7,h8⟩:=zqo len (i+1) lg _ t ρ (by omega) ht hd (by rw [zn3];exact hn)
    refine⟨τ,⟨i,o,σ,none⟩::xs,σ',lg',⟨rfl,rfl,h1⟩,by simp [h2],fun x hx=> ?_,h4,h5,h6,h7,fun x hx y hy=> ?_⟩
    ·rcases List.mem_cons.1 hx with rfl|hx
     ·exact⟨hi,hgu⟩
     ·exact h3 x hx
    ·rcases List.mem_cons.1 hx with rfl|hx
     ·simp [Rec.log]at hy
     ·exact h8 x hx y hy
   |some gs=>
    simp only at ht
    split at ht
    ·rename_i e he
     split at ht
     ·cases ht
     ·rename_i hcond
      simp only [Bool.true_and,Bool.not_true,Bool.false_and,Bool.or_false,Bool.or_eq_true,Bool.not_eq_true',not_or,Bool.not_eq_false]at hcond
      have hnq:e.nilq=none:=by cases hh:e.nilq with|none=>rfl|some x=>rw [hh]at hcond;simp at hcond
      split at ht
      ·cases ht
      ·rename_i k hk
       simp only [Option.some.injEq]at ht;subst ht
       have hsc:=hcond.2
       simp only [zxh,Bool.and_eq_true,List.all_eq_true]at hsc
       obtain⟨⟨⟨⟨hs1,hs2⟩,hs3⟩,_⟩,_⟩:=hsc
       rw [←hn]at hs1 hs2 hs3
       unfold ztb at hd
       obtain⟨hc,hd⟩:=zta hd
       simp only [hnq]at hd
       obtain⟨τ0,hτ0,hcall,hk'⟩: ∃τ0:List AV,(ρ++τ0).length=(zhF σ gs o e).nv∧(∀cl,e.call=some cl→ ∃r,τ0= [r]∧(zex ρ gs→ziT Rt cl.fn ((EL.of cl.args).den ρ) ρ r))∧k.den Rt R L js (ρ++τ0):=by
        cases hcl:e.call with
        |none=>
         rw [hcl]at hd
         exact⟨[],by rw [zsU];simp [hcl,hnq,hn],by simp,by simpa using hd⟩
        |some cl=>
         rw [hcl]at hd
         obtain⟨r,h1,h2⟩:=hd
         exact⟨[r],by rw [zsU];simp [hcl,hn],fun cl' h=>by cases h;exact⟨r,rfl,h1⟩,h2⟩
       obtain⟨τ,xs,σ',lg',h1,h2,h3,h4,h5,h6,h7,h8⟩:=zqo len (i+1) _ _ k (ρ++τ0) (by omega) hk hk' hτ0
       have hass:ρ++τ0++τ=ρ++(τ0++τ):=List.append_assoc ..
       rw [hass]at h3 h4 h5
       refine⟨τ0++τ,⟨i,o,σ,some (gs,e)⟩::xs,σ',lg',⟨rfl,rfl,h1⟩,by simp [h2],fun x hx=> ?_,h4,h5,h6,fun y hy=>h7 y (by simp [hy]),fun x hx y hy=> ?_⟩
       ·rcases List.mem_cons.1 hx with rfl|hx
        ·refine⟨hi,hgu,he,hnq,hcond.2,fun hg q hq=>(Cn.sc_app (hs2 q hq)).2 (hc ((zhB hs1).1 hg) q hq),fun cl hcl=> ?_⟩
         obtain⟨r,hr,h2⟩:=hcall cl hcl
         rw [hcl]at hs3
         simp only [Bool.and_eq_true]at hs3
         subst hr
         exact⟨r,by simp only;rw [←hn];simp,fun hg=>(zso hs3.1 (EL.sc_of (by simpa using hs3.2))).2 (h2 ((zhB hs1).1 hg))⟩
        ·exact h3 x hx
       ·rcases List.mem_cons.1 hx with rfl|hx
        ·simp only [Rec.log,Option.map_some,Option.some.injEq]at hy
         subst hy
         exact h7 _ (by simp)
        ·exact h8 x hx y hy
    ·cases ht
end Go.Proofs.YtbmbkgalkfmjdaaGreatDoor
end
section
namespace Go.Proofs.YtbmbkgalkfmjdaaGreatDoor
open Go.RowKit
def slF (n:Nat) (sl0:Nat→SV) (xs:List Rec) (S:Nat→Bool):Nat→SV:=xs.foldl (fun sl x=>if S x.i then zjL n sl x.o.dst x.val else sl) sl0
def hpF (hp0:Nat→Option Ent) (xs:List Rec) (S:Nat→Bool):Nat→Option Ent:=xs.foldl (fun hp x=>if S x.i then zd6 hp x.ent else hp) hp0
section
variable {n:Nat} {S S':Nat→Bool} {d t:Nat}
theorem zk0: ∀(xs:List Rec) {sl sl':Nat→SV},sl d=sl' d→(∀x∈xs,x.o.dst=some d→S x.i=S' x.i)→slF n sl xs S d=slF n sl' xs S' d
 | [],_,_,h,_=>h
 |x::xs,sl,sl',h,hs=>by
  refine zk0 xs (sl:=if S x.i then zjL n sl x.o.dst x.val else sl) (sl':=if S' x.i then zjL n sl' x.o.dst x.val else sl') ?_ fun y hy=>hs y (by simp [hy])
  by_cases hd:x.o.dst=some d
  ·rw [←hs x (by simp) hd]
   split
   ·simp only [zjL,hd,true_and];rw [h]
   ·exact h
  ·have hu: ∀sl:Nat→SV,zjL n sl x.o.dst x.val d=sl d:=fun sl=>by simp [zjL,hd]
   have h1:(if S x.i then zjL n sl x.o.dst x.val else sl) d=sl d:=by split;exact hu sl;rfl
   have h2:(if S' x.i then zjL n sl' x.o.dst x.val else sl') d=sl' d:=by split;exact hu sl';rfl
   rw [h1,h2,h]
theorem zsG (xs:List Rec) {sl:Nat→SV} (hs: ∀x∈xs,x.o.dst=some d→S x.i=false):slF n sl xs S d=sl d:=by
 have h1:=zk0 (n:=n) (S:=S) (S':=fun _=>false) xs (sl:=sl) (sl':=sl) (d:=d) rfl hs
 rw [h1]
 clear h1 hs
 induction xs generalizing sl with
 |nil=>rfl
 |cons x xs ih=>exact ih
theorem zzx (hd:n≤d): ∀(xs:List Rec) {sl:Nat→SV},slF n sl xs S d=sl d
 | [],_=>rfl
 |x::xs,sl=>by
  have:=zzx hd xs (sl:=if S x.i then zjL n sl x.o.dst x.val else sl)
  refine Eq.trans this ?_
  split
  ·simp only [zjL];rw [if_neg (by omega)]
  ·rfl
theorem zBC {y:Rec} (hd:d<n) (hy:y.o.dst=some d) (hS:S y.i=true): ∀(xs:List Rec) {sl:Nat→SV},y∈xs→(∀x∈xs,x≠y→x.o.dst≠some d)→slF n sl xs S d=y.val
 | [],_,h,_=>by simp at h
 |x::xs,sl,h,hu=>by
  by_cases hm:y∈xs
  ·exact zBC hd hy hS xs (sl:=if S x.i then zjL n sl x.o.dst x.val else sl) hm fun z hz=>hu z (by simp [hz])
  ·have hx:y=x:=by rcases List.mem_cons.1 h with h|h;exact h;exact absurd h hm
   subst hx
   have:=zsG (n:=n) (S:=S) (d:=d) xs (sl:=zjL n sl y.o.dst y.val) (fun z hz hz'=>absurd hz' (hu z (by simp [hz]) (fun hh=>hm (hh▸hz))))
   show slF n (if S y.i then zjL n sl y.o.dst y.val else sl) xs S d=_
   rw [if_pos hS,this]
   simp [zjL,hy,hd]
theorem zsA {hp hp':Nat→Option Ent} {l:List (Nat × Ent)} (h:hp t=hp' t):zd6 hp l t=zd6 hp' l t:=by
 induction l generalizing hp hp' with
 |nil=>exact h
 |cons p l ih=>
  refine ih ?_
  show(if t=p.1 then some p.2 else hp t)=(if t=p.1 then some p.2 else hp' t)
  rw [h]
theorem zxf {hp hp':Nat→Option Ent} {l:List (Nat × Ent)} (h:t∈l.map (·.1)):zd6 hp l t=zd6 hp' l t:=by
 induction l generalizing hp hp' with
 |nil=>simp at h
 |cons p l ih=>
  by_cases hm:t∈l.map (·.1)
  ·exact ih hm
  ·have ht:t=p.1:=by simp only [List.map_cons,List.mem_cons]at h;exact h.resolve_right hm
   refine zsA (l:=l) ?_
   show(if t=p.1 then some p.2 else hp t)=(if t=p.1 then some p.2 else hp' t)
   rw [if_pos ht,if_pos ht]
theorem zsI {hp:Nat→Option Ent} {l:List (Nat × Ent)} (h:t∉l.map (·.1)):zd6 hp l t=hp t:=
 zhG fun e he=>h (List.mem_map.2 ⟨_,he,rfl⟩)
theorem zkK: ∀(xs:List Rec) {hp hp':Nat→Option Ent},hp t=hp' t→(∀x∈xs,t∈x.ent.map (·.1)→S x.i=S' x.i)→hpF hp xs S t=hpF hp' xs S' t
 | [],_,_,h,_=>h
 |x::xs,hp,hp',h,hs=>by
  refine zkK xs (hp:=if S x.i then zd6 hp x.ent else hp) (hp':=if S' x.i then zd6 hp' x.ent else hp') ?_ fun y hy=>hs y (by simp [hy])
  by_cases hd:t∈x.ent.map (·.1)
  ·rw [←hs x (by simp) hd]
   split
   ·exact zsA h
   ·exact h
  ·have h1:(if S x.i then zd6 hp x.ent else hp) t=hp t:=by split;exact zsI hd;rfl
   have h2:(if S' x.i then zd6 hp' x.ent else hp') t=hp' t:=by split;exact zsI hd;rfl
   rw [h1,h2,h]
theorem zti (xs:List Rec) {hp:Nat→Option Ent} (hs: ∀x∈xs,t∈x.ent.map (·.1)→S x.i=false):hpF hp xs S t=hp t:=by
 have h1:=zkK (S:=S) (S':=fun _=>false) xs (hp:=hp) (hp':=hp) (t:=t) rfl hs
 rw [h1]
 clear h1 hs
 induction xs generalizing hp with
 |nil=>rfl
 |cons x xs ih=>exact ih
end
section
variable {n:Nat} {S:Nat→Bool} {d t:Nat}
theorem Rec.next_sl (x:Rec):zaK x.next=zjL x.σ.sl.length (zaK x.σ) x.o.dst x.val:=by
 obtain⟨i,o,σ,r⟩:=x
 cases r with
 |none=>exact znI
 |some ge=>exact zwv
theorem Rec.next_hp (x:Rec):zas x.next.hp=zd6 (zas x.σ.hp) x.ent:=by
 obtain⟨i,o,σ,r⟩:=x
 cases r with
 |none=>simp only [Rec.next,Rec.ent,zop];rfl
 |some ge=>exact zwG
theorem Rec.next_len (x:Rec):x.next.sl.length=x.σ.sl.length:=by
 obtain⟨i,o,σ,r⟩:=x
 cases r with
 |none=>exact zma
 |some ge=>exact zun
theorem zg7.range: ∀{xs:List Rec} {i:Nat} {σ σ':St},zg7 i σ xs σ'→ ∀x∈xs,i≤x.i∧x.i<i+xs.length
 | [],_,_,_,_,x,hx=>by simp at hx
 |y::xs,i,σ,σ',h,x,hx=>by
  rcases List.mem_cons.1 hx with rfl|hx
  ·have:=h.1;simp only [List.length_cons];omega
  ·have:=zg7.range h.2.2 x hx;simp only [List.length_cons];omega
theorem zg7.ex: ∀{xs:List Rec} {i:Nat} {σ σ':St},zg7 i σ xs σ'→ ∀j,i≤j→j<i+xs.length→ ∃x∈xs,x.i=j
 | [],i,_,_,_,j,h1,h2=>by simp at h2;omega
 |y::xs,i,σ,σ',h,j,h1,h2=>by
  by_cases hj:j=i
  ·exact⟨y,by simp,by rw [hj];exact h.1⟩
  ·simp only [List.length_cons]at h2
   obtain⟨x,hx,he⟩:=zg7.ex h.2.2 j (by omega) (by omega)
   exact⟨x,by simp [hx],he⟩
theorem zg7.inj: ∀{xs:List Rec} {i:Nat} {σ σ':St},zg7 i σ xs σ'→ ∀x∈xs,∀y∈xs,x.i=y.i→x=y
 | [],_,_,_,_,x,hx,_,_,_=>by simp at hx
 |z::xs,i,σ,σ',h,x,hx,y,hy,he=>by
  have hz:=h.1
  rcases List.mem_cons.1 hx with h1|h1<;>rcases List.mem_cons.1 hy with h2|h2
  ·rw [h1,h2]
  ·subst h1;have:=(zg7.range h.2.2 y h2).1;omega
  ·subst h2;have:=(zg7.range h.2.2 x h1).1;omega
  ·exact zg7.inj h.2.2 x h1 y h2 he
theorem zg7.sl: ∀{xs:List Rec} {i:Nat} {σ σ':St},zg7 i σ xs σ'→σ.sl.length=n→(∀x∈xs,x.σ.sl.length=n∧ ∀d,zaK x.σ d=slF n (zaK σ) xs (fun k=>decide (k<x.i)) d)∧σ'.sl.length=n∧zaK σ'=slF n (zaK σ) xs fun _=>true
 | [],i,σ,σ',h,hn=>by
  have h:σ=σ':=h
  subst h
  exact⟨by simp,hn,rfl⟩
 |y::xs,i,σ,σ',h,hn=>by
  obtain⟨h1,h2,h3⟩:=h
  subst h2
  obtain⟨q1,q2,q3⟩:=zg7.sl h3 (by rw [y.next_len];exact hn)
  rw [y.next_sl,hn]at q1 q3
  refine⟨fun x hx=> ?_,q2,q3⟩
  rcases List.mem_cons.1 hx with rfl|hx
  ·refine⟨hn,fun d=>(zsG _ fun z hz _=> ?_).symm⟩
   rcases List.mem_cons.1 hz with rfl|hz
   ·simp
   ·have:=(zg7.range h3 z hz).1
    simp only [decide_eq_false_iff_not];omega
  ·refine⟨(q1 x hx).1,fun d=> ?_⟩
   rw [(q1 x hx).2 d]
   have:=(zg7.range h3 x hx).1
   show _=slF n (if decide (y.i<x.i)then zjL n (zaK y.σ) y.o.dst y.val else zaK y.σ) xs (fun k=>decide (k<x.i)) d
   rw [if_pos (by simp only [decide_eq_true_eq];omega)]
theorem zg7.hp: ∀{xs:List Rec} {i:Nat} {σ σ':St},zg7 i σ xs σ'→(∀x∈xs,∀t,zas x.σ.hp t=hpF (zas σ.hp) xs (fun k=>decide (k<x.i)) t)∧zas σ'.hp=hpF (zas σ.hp) xs fun _=>true
 | [],i,σ,σ',h=>by
  have h:σ=σ':=h
  subst h
  exact⟨by simp,rfl⟩
 |y::xs,i,σ,σ',h=>by
  obtain⟨h1,h2,h3⟩:=h
  subst h2
  obtain⟨q1,q3⟩:=zg7.hp h3
  rw [y.next_hp]at q1 q3
  refine⟨fun x hx=> ?_,q3⟩
  rcases List.mem_cons.1 hx with rfl|hx
  ·refine fun d=>(zti _ fun z hz _=> ?_).symm
   rcases List.mem_cons.1 hz with rfl|hz
   ·simp
   ·have:=(zg7.range h3 z hz).1
    simp only [decide_eq_false_iff_not];omega
  ·intro t
   rw [q1 x hx t]
   have:=(zg7.range h3 x hx).1
   show _=hpF (if decide (y.i<x.i)then zd6 (zas y.σ.hp) y.ent else zas y.σ.hp) xs (fun k=>decide (k<x.i)) t
   rw [if_pos (by simp only [decide_eq_true_eq];omega)]
theorem zB5 {y:Rec} {hp1:Nat→Option Ent} (hS:S y.i=true) (ht:t∈y.ent.map (·.1)): ∀{xs:List Rec} {i:Nat} {σ σ':St} {hp0:Nat→Option Ent},zg7 i σ xs σ'→y∈xs→(∀x∈xs,x.i≠y.i→t∈x.ent.map (·.1)→S x.i=decide (x.i<y.i))→hpF hp0 xs S t=zd6 hp1 y.ent t
 | [],_,_,_,_,_,h,_=>by simp at h
 |x::xs,i,σ,σ',hp0,hc,hm,hs=>by
  by_cases hx:y=x
  ·subst hx
   have:=zti (S:=S) (t:=t) xs (hp:=zd6 hp0 y.ent) (fun z hz hz'=>by
    have hlt:=(zg7.range hc.2.2 z hz).1
    have h1:=hc.1
    rw [hs z (by simp [hz]) (by omega) hz']
    simp only [decide_eq_false_iff_not];omega)
   show hpF (if S y.i then zd6 hp0 y.ent else hp0) xs S t=_
   rw [if_pos hS,this]
   exact zxf ht
  ·have hm':y∈xs:=by rcases List.mem_cons.1 hm with h|h;exact absurd h hx;exact h
   exact zB5 hS ht (hp0:=if S x.i then zd6 hp0 x.ent else hp0) hc.2.2 hm' fun z hz=>hs z (by simp [hz])
end
end Go.Proofs.YtbmbkgalkfmjdaaGreatDoor
end
section
namespace Go.Proofs.YtbmbkgalkfmjdaaGreatDoor
open Go.RowKit
theorem zuC {α:Type} {p p':α→Bool}: ∀(l:List α),(∀k∈l,p' k=true→p k=true)→(∃j∈l,p j=true∧p' j=false)→(l.filter p').length<(l.filter p).length
 | [],_,h=>by obtain⟨j,hj,_⟩:=h;simp at hj
 |x::l,hs,h=>by
  have hle:(l.filter p').length≤(l.filter p).length:=by
   have: ∀(l:List α),(∀k∈l,p' k=true→p k=true)→(l.filter p').length≤(l.filter p).length:=by
    intro l
    induction l with
    |nil=>intro _;simp
    |cons y l ih=>
     intro h
     have:=ih fun k hk=>h k (by simp [hk])
     have hy:=h y (by simp)
     cases h1:p' y with
     |false=>
      cases h2:p y with
      |false=>simpa [h1,h2]using this
      |true=>simp only [List.filter_cons,h1,h2,Bool.false_eq_true,if_false,if_true,List.length_cons];omega
     |true=>simpa [h1,hy h1]using this
   exact this l fun k hk=>hs k (by simp [hk])
  obtain⟨j,hj,h1,h2⟩:=h
  rcases List.mem_cons.1 hj with rfl|hj
  ·simp only [List.filter_cons,h1,h2,Bool.false_eq_true,if_false,if_true,List.length_cons];omega
  ·have:=zuC l (fun k hk=>hs k (by simp [hk])) ⟨j,hj,h1,h2⟩
   have hx:=hs x (by simp)
   cases h3:p' x with
   |false=>
    cases h4:p x with
    |false=>simpa [h3,h4]using this
    |true=>simp only [List.filter_cons,h3,h4,Bool.false_eq_true,if_false,if_true,List.length_cons];omega
   |true=>simpa [h3,hx h3]using this
section
variable {ops:Array Oper} {listed:Array Bool}
theorem zzm (hb: ∀j o,ops[j]?=some o→ ∀e∈o.after.toList,Region.binds .any e=true→e.on<j) (hsz:listed.size=ops.size) (hr:Region.ready .any ops listed= []): ∀k,k<ops.size→listed.getD k true=true:=by
 intro k
 induction k using Nat.strongRecOn with
 |_ k ih=>
  intro hk
  cases hs:listed.getD k true with
  |true=>rfl
  |false=>
   have:k∈Region.ready .any ops listed:=mem_ready.2 ⟨hs,ops[k],by simp [hk],fun e he hbi=>by
    have hlt:=hb k ops[k] (by simp [hk]) e (by simpa using he) hbi
    have:=ih e.on hlt (by omega)
    have h2:e.on<listed.size:=by omega
    simp only [Array.getD_eq_getD_getElem?,Array.getElem?_eq_getElem h2,Option.getD_some]at this ⊢
    exact this⟩
   rw [hr]at this;cases this
theorem zBm (hsz:listed.size=ops.size) {j:Nat} (hj:j<ops.size) (k:Nat):(listed.setIfInBounds j true).getD k true=(decide (k=j)||listed.getD k true):=by
 by_cases h:j=k
 ·subst h
  simp [Array.getD_eq_getD_getElem?,show j<listed.size by omega]
 ·rw [getD_set_ne true h];simp [Ne.symm h]
variable {P:Program} {sg:SgT} {Rt:Nat→List AV→AV→Prop}
theorem zxZ (hop:zCG P sg Rt) {F:Fix} {σ σ':St} {xs:List Rec} {ρ:List AV} {lg:List Log} {n:Nat} {Q:Exit→Act→World→Prop} (hc:zg7 0 σ xs σ') (hlen:xs.length=ops.size) (hok: ∀x∈xs,zEE P sg Rt ops σ.nx ρ x) (hdr:zwl ops lg=true) (hlog: ∀x∈xs,∀y,x.log=some y→y∈lg) (hn:σ.sl.length=n)
  (hQ: ∀(c:Cx) (a:Act),c.ρ=ρ→c.w0=F.w0→c.A=F.A→c.Mu=F.Mu→(∀t,c.U t→t<σ.nx+zan*ops.size)→Rel c n (zaK σ') (zas σ'.hp) a→Q .normal a c.w):
  ∀(fuel:Nat) (listed:Array Bool) (a:Act) (c:Cx),listed.size=ops.size→zu4 ops (fun k=>listed.getD k true)→c.ρ=ρ→c.w0=F.w0→c.A=F.A→c.Mu=F.Mu→
   (∀t,c.U t→t<σ.nx∨ ∃k,k<ops.size∧listed.getD k true=true∧σ.nx+zan*k≤t∧t<σ.nx+zan*k+zan)→Rel c n (slF n (zaK σ) xs fun k=>listed.getD k true) (hpF (zas σ.hp) xs fun k=>listed.getD k true) a→
   ((List.range ops.size).filter fun k=> !listed.getD k true).length≤fuel→wpAny P .any ops Q fuel listed a c.w:=by
 simp only [zwl,Bool.and_eq_true,List.all_eq_true,Bool.or_eq_true,beq_iff_eq,Bool.not_eq_true',decide_eq_true_eq]at hdr
 obtain⟨⟨d1,d2⟩,d3⟩:=hdr
 have hmz: ∀j o,ops[j]?=some o→(o,j)∈ops.toList.zipIdx:=fun j o h=>List.mk_mem_zipIdx_iff_getElem?.2 (by simpa using h)
 have hb: ∀j o,ops[j]?=some o→ ∀e∈o.after.toList,Region.binds .any e=true→e.on<j:=fun j o h e he hbi=>by
  rcases d2 (o,j) (hmz j o h) e he with h|h
  ·rw [hbi]at h;cases h
  ·exact h
 obtain⟨c1,c2,c3⟩:=hc.sl hn
 obtain⟨c4,c5⟩:=hc.hp
 have hend: ∀(listed:Array Bool) (a:Act) (c:Cx),listed.size=ops.size→c.ρ=ρ→c.w0=F.w0→c.A=F.A→c.Mu=F.Mu→
   (∀t,c.U t→t<σ.nx∨ ∃k,k<ops.size∧listed.getD k true=true∧σ.nx+zan*k≤t∧t<σ.nx+zan*k+zan)→Rel c n (slF n (zaK σ) xs fun k=>listed.getD k true) (hpF (zas σ.hp) xs fun k=>listed.getD k true) a→
   (∀k,k<ops.size→listed.getD k true=true)→Q .normal a c.w:=by
  intro listed a c hsz h1 h2 h3 h4 h5 h6 hall
  refine hQ c a h1 h2 h3 h4 (fun t ht=> ?_) ?_
  ·rcases h5 t ht with h|⟨k,hk,_,_,h⟩
   ·simp only [zan]at*;omega
   ·simp only [zan]at*;omega
  ·have e1:(slF n (zaK σ) xs fun k=>listed.getD k true)=zaK σ':=by
    rw [c3];funext d
    exact zk0 xs rfl fun x hx _=>by have:=(hc.range x hx).2;exact hall x.i (by omega)
   have e2:(hpF (zas σ.hp) xs fun k=>listed.getD k true)=zas σ'.hp:=by
    rw [c5];funext d
    exact zkK xs rfl fun x hx _=>by have:=(hc.range x hx).2;exact hall x.i (by omega)
   rw [e1,e2]at h6;exact h6
 intro fuel
 induction fuel with
 |zero=>
  intro listed a c hsz hcl h1 h2 h3 h4 h5 h6 hcnt
  have hall: ∀k,k<ops.size→listed.getD k true=true:=by
   intro k hk
   have:=List.length_eq_zero_iff.1 (Nat.le_zero.1 hcnt)
   have:=List.filter_eq_nil_iff.1 this k (by simpa using hk)
   simpa using this
  refine⟨?_,hend listed a c hsz h1 h2 h3 h4 h5 h6 hall⟩
  refine List.eq_nil_iff_forall_not_mem.2 fun j hj=> ?_
  obtain⟨q1,o,q2,_⟩:=mem_ready.1 hj
  rw [hall j (Array.getElem?_eq_some_iff.1 q2).1]at q1;cases q1
 |succ fuel ih=>
  intro listed a c hsz hcl h1 h2 h3 h4 h5 h6 hcnt
  refine⟨fun hr=>hend listed a c hsz h1 h2 h3 h4 h5 h6 (zzm hb hsz hr),fun j hj=> ?_⟩
  obtain⟨q1,o,q2,q3⟩:=mem_ready.1 hj
  have hjs:j<ops.size:=(Array.getElem?_eq_some_iff.1 q2).1
  have hedge: ∀e∈o.after.toList,Region.binds .any e=true→listed.getD e.on true=true:=fun e he hbi=>by
   have h9:=q3 e (by simpa using he) hbi
   have hlt:=hb j o q2 e he hbi
   have h8:e.on<listed.size:=by omega
   simp only [Array.getD_eq_getD_getElem?,Array.getElem?_eq_getElem h8,Option.getD_some]at h9 ⊢
   exact h9
  obtain⟨y,hy,hyj⟩:=hc.ex j (by omega) (by omega)
  have hyo:y.o=o:=by have:=(hok y hy).1;rw [hyj,q2]at this;exact(Option.some.inj this).symm
  have hxi: ∀x∈xs,x.i<ops.size:=fun x hx=>by have:=(hc.range x hx).2;omega
  have hxo: ∀x∈xs,ops[x.i]?=some x.o:=fun x hx=>(hok x hx).1
  have agree: ∀x∈xs,x.i≠j→ordB (zAd ops.toList []) x.i j=true→listed.getD x.i true=decide (x.i<j):=fun x hx hne ho=>zyR (S:=fun k=>listed.getD k true) hcl q2 (hxi x hx) q1 hedge hne ho
  have hself: ∀x∈xs,x.i=j→listed.getD x.i true=decide (x.i<j):=fun x hx he=>by rw [he,q1];simp
  have hlook: ∀d,d∈zwD ops o→zaK y.σ d=slF n (zaK σ) xs (fun k=>listed.getD k true) d:=by
   intro d hd
   rw [(c1 y hy).2 d,hyj]
   refine zk0 xs rfl fun x hx hxd=> ?_
   by_cases he:x.i=j
   ·exact(hself x hx he).symm
   ·rcases d3 (o,j) (hmz j o q2) (x.o,x.i) (hmz _ _ (hxo x hx))with h|h
    ·exact absurd h he
    ·simp only [hxd,Bool.and_eq_true,Bool.or_eq_true,Bool.not_eq_true']at h
     rcases h.2 with h|h
     ·rw [List.contains_iff_mem.2 hd]at h;cases h
     ·exact(agree x hx he h).symm
  have hW: ∀x∈xs,∀t,t∈x.ent.map (·.1)→ ∀ly,y.log=some ly→(t∈ly.R∨t∈ly.W)→listed.getD x.i true=decide (x.i<j):=by
   intro x hx t ht ly hly hm
   by_cases he:x.i=j
   ·exact hself x hx he
   ·cases hxr:x.r with
    |none=>simp [Rec.ent,hxr]at ht
    |some ge=>
     obtain⟨gs,e⟩:=ge
     have hlx:x.log=some ⟨x.i,zqu x.σ gs x.o,e.ent.map (·.1)⟩:=by simp [Rec.log,hxr]
     have hly':ly.i=j:=by
      unfold Rec.log at hly
      obtain⟨ge',_,rfl⟩:=Option.map_eq_some_iff.1 hly
      exact hyj
     have h9:=d1 _ (hlog x hx _ hlx) _ (hlog y hy _ hly)
     simp only [hly']at h9
     rcases h9 with(h|h)|h
     ·exact absurd h he
     ·exfalso
      have:zCW (e.ent.map (·.1)) (ly.R++ly.W)=true:=by
       simp only [zCW,List.any_eq_true]
       exact⟨t,by simpa [Rec.ent,hxr]using ht,List.contains_iff_mem.2 (by simpa using hm)⟩
      rw [this]at h;cases h
     ·exact agree x hx he h
  have hnext: ∀k,(listed.setIfInBounds j true).getD k true=(decide (k=j)||listed.getD k true):=zBm hsz hjs
  have hsl':slF n (zaK σ) xs (fun k=>(listed.setIfInBounds j true).getD k true)=zjL n (slF n (zaK σ) xs fun k=>listed.getD k true) o.dst y.val:=by
   funext d
   unfold zjL
   split
   ·rename_i hd
    refine zBC hd.2 (by rw [hyo];exact hd.1) (by rw [hnext,hyj];simp) xs hy fun x hx hne hxd=> ?_
    have he:x.i≠j:=fun h=>hne (hc.inj x hx y hy (by rw [h,hyj]))
    rcases d3 (o,j) (hmz j o q2) (x.o,x.i) (hmz _ _ (hxo x hx))with h|h
    ·exact he h
    ·simp only [hxd,Bool.and_eq_true,bne_iff_ne,ne_eq]at h
     exact h.1 hd.1
   ·rename_i hd
    by_cases hdn:d<n
    ·refine zk0 xs rfl fun x hx hxd=> ?_
     have he:x.i≠j:=fun h=>by
      have:x=y:=hc.inj x hx y hy (by rw [h,hyj])
      subst this
      exact hd ⟨by rw [←hyo];exact hxd,hdn⟩
     rw [hnext];simp [he]
    ·rw [zzx (by omega),zzx (by omega)]
  have hhp':hpF (zas σ.hp) xs (fun k=>(listed.setIfInBounds j true).getD k true)=zd6 (hpF (zas σ.hp) xs fun k=>listed.getD k true) y.ent:=by
   funext t
   by_cases ht:t∈y.ent.map (·.1)
   ·refine zB5 (by rw [hnext,hyj];simp) ht hc hy fun x hx hne hxt=> ?_
    rw [hyj]at hne ⊢
    rw [hnext]
    simp only [hne,decide_false,Bool.false_or]
    cases hyr:y.r with
    |none=>simp [Rec.ent,hyr]at ht
    |some ge=>exact hW x hx t hxt _ (by simp only [Rec.log,hyr,Option.map_some];rfl) (.inr (by simpa [Rec.ent,hyr]using ht))
   ·rw [zsI ht]
    refine zkK xs rfl fun x hx hxt=> ?_
    have he:x.i≠j:=fun h=>by
     have:x=y:=hc.inj x hx y hy (by rw [h,hyj])
     subst this;exact ht hxt
    rw [hnext];simp [he]
  have hcnt':((List.range ops.size).filter fun k=> !(listed.setIfInBounds j true).getD k true).length≤fuel:=by
   have:=zuC (p:=fun k=> !listed.getD k true) (p':=fun k=> !(listed.setIfInBounds j true).getD k true) (List.range ops.size) (fun k _ hk=>by rw [hnext]at hk;simp at hk ⊢;exact hk.2) ⟨j,by simpa using hjs,by simp [q1],by rw [hnext];simp⟩
   omega
  have hcl':zu4 ops (fun k=>(listed.setIfInBounds j true).getD k true):=by
   intro k ok hk hko e he hbi
   simp only [hnext,Bool.or_eq_true,decide_eq_true_eq]at hk ⊢
   rcases hk with rfl|hk
   ·rw [q2]at hko;cases hko;exact .inr (hedge e he hbi)
   ·exact .inr (hcl k ok hk hko e he hbi)
  have hgoon: ∀(a':Act) (c':Cx),c'.ρ=ρ→c'.w0=F.w0→c'.A=F.A→c'.Mu=F.Mu→(∀t,c'.U t→c.U t∨(σ.nx+zan*j≤t∧t<σ.nx+zan*j+zan))→Rel c' n (zjL n (slF n (zaK σ) xs fun k=>listed.getD k true) o.dst y.val) (zd6 (hpF (zas σ.hp) xs fun k=>listed.getD k true) y.ent) a'→
    wpAny P .any ops Q fuel (listed.setIfInBounds j true) a' c'.w:=by
   intro a' c' g1 g2 g3 g4 g5 g6
   refine ih _ a' c' (by simpa using hsz) hcl' g1 g2 g3 g4 (fun t ht=> ?_) (by rw [hsl',hhp'];exact g6) hcnt'
   rcases g5 t ht with h|h
   ·rcases h5 t h with h|⟨k,k1,k2,k3,k4⟩
    ·exact .inl h
    ·exact .inr ⟨k,k1,by rw [hnext,k2];simp,k3,k4⟩
   ·exact .inr ⟨j,hjs,by rw [hnext];simp,h.1,h.2⟩
  have hgt: ∀j' want d,o.guard=some (j',want)→(ops[j']?).bind (·.dst)=some d→SR c [zaK y.σ d] [a.tmps.getD d Go.undef]:=by
   intro j' want d hg hd
   rw [hlook d (by simp only [zwD,hg,List.mem_append];exact .inr (by simp [hd]))]
   exact h6.slots d
  obtain⟨_,hrec⟩:=hok y hy
  cases hyr:y.r with
  |none=>
   rw [hyr]at hrec
   have hgo:=zqR (c:=c) (a:=a) hrec (fun j' want d hg hd=>hgt j' want d (by rw [←hyo];exact hg) hd)
   unfold wpOp
   simp only [q2]
   rw [hyo]at hgo
   rw [if_neg (by simp [show Region.wanted o (yielded ops a.tmps)=false from hgo])]
   have hv:y.val=gone:=by simp [Rec.val,hyr]
   have he:y.ent= []:=by simp [Rec.ent,hyr]
   refine hgoon _ c h1 h2 h3 h4 (fun t ht=> .inl ht) ?_
   rw [hv,he]
   exact h6.put zvW o.dst
  |some ge=>
   obtain⟨gs,e⟩:=ge
   rw [hyr]at hrec
   simp only at hrec
   obtain⟨r1,r2,r3,r4,r5,r6⟩:=hrec
   rw [hyo,hyj]at r2
   rw [hyj]at r4
   rw [hyo]at r1
   have hgo:=zqR (c:=c) (a:=a) r1 hgt
   have hv:y.val=mkGd gs e.val:=by simp [Rec.val,hyr]
   have he:y.ent=e.ent:=by simp [Rec.ent,hyr]
   simp only [zxh,Bool.and_eq_true,List.all_eq_true]at r4
   obtain⟨_,hs5⟩:=r4
   have hly:y.log=some ⟨y.i,zqu y.σ gs y.o,e.ent.map (·.1)⟩:=by simp [Rec.log,hyr]
   refine zzB (c:=c) hop q2 h6 hgo (fun t ht=>hlook t (by simp only [zwD,List.mem_append,List.mem_filterMap];exact .inl ⟨.tmp t,by simpa using ht,rfl⟩)) (fun t x hx=> ?_) (fun t t1 t2 hU=> ?_) r2 (fun hne t x hx=> ?_) (by rw [h1];exact r5) (by rw [h1];exact r6) (fun x hx=>by rw [r3]at hx;cases hx) (fun a' c' hs hr=> ?_)
   ·unfold zDs at hx
    split at hx
    ·rename_i hR
     rw [(c4 y hy) t]at hx
     rw [←hx]
     refine zkK xs rfl fun z hz hzt=> ?_
     rw [hyj]
     exact hW z hz t hzt _ hly (.inl (by rw [hyo];simpa using hR))
    ·cases hx
   ·rcases h5 t hU with h|⟨k,k1,k2,k3,k4⟩
    ·simp only [zan]at*;omega
    ·have:k≠j:=by rintro rfl;rw [q1]at k2;cases k2
     simp only [zan]at*;omega
   ·have:=hs5 _ hx
    have hem:gs.isEmpty=false:=by cases gs;exact absurd rfl hne;rfl
    simp only [hem,Bool.false_or,Bool.false_and,Bool.or_false,Bool.and_eq_true,decide_eq_true_eq]at this
    refine⟨this.1.1,this.1.2, ?_⟩
    have h3:=this.2
    split at h3
    ·exact⟨_,_,rfl,h3⟩
    ·cases h3
   ·exact hgoon a' c' (hs.ρ.trans h1) (hs.w0.trans h2) (hs.A.trans h3) (hs.Mu.trans h4) hs.U (by rw [hv,he];exact hr)
end
end Go.Proofs.YtbmbkgalkfmjdaaGreatDoor
end
section
namespace Go.Proofs.YtbmbkgalkfmjdaaGreatDoor
open Go.RowKit
theorem Rel.world {c:Cx} {n:Nat} {sl:Nat→SV} {hp:Nat→Option Ent} {a:Act} (h:Rel c n sl hp a) (w:World) (h1:w.heap=c.w.heap) (h2:w.os=c.w.os) (h3:w.tape=c.w.tape) (h4:w.output=c.w.output):Rel {c with w:=w} n sl hp a:=by
 refine h.change (fun _=>False) ⟨rfl,rfl,fun _ _ hb=>hb,fun b _ _=>by show w.heap[b]?=_;rw [h1],fun _ _ hk=>⟨hk,rfl⟩,fun _ _ _=>⟨Nat.le_refl _,fun _=>⟨rfl,fun b _ _=>by show w.heap[b]?=_;rw [h1]⟩⟩⟩ ⟨h2.trans h.base.os,h3.trans h.base.tape,h4.trans h.base.output,by show _≤w.heap.size;rw [h1];exact h.base.size,h.base.pins,fun b hb hm=>by show w.heap[b]?=_;rw [h1];exact h.base.block b hb hm,h.base.pk,h.base.lo⟩ (fun t _=>⟨rfl,rfl,rfl,fun g hk=>hk⟩) (fun t _ b _=>by show w.heap[b]?=_;rw [h1]) (fun t ht=>ht.elim)
  ⟨h.gw.nodup,h.gw.disj,h.gw.allow,fun t b hb=>by show b<w.heap.size;rw [h1];exact h.gw.inb t b hb⟩ h.usedK h.usedH
theorem zz6 {P:Program} {sg:SgT} {Rt:Nat→List AV→AV→Prop} (hmx:P.follows .mixedOrders=true) (hop:zCG P sg Rt) (hnil:zyr P sg):zwZ P sg Rt:=by
 intro id ops draw σ t _ hsc hnx ht F R L js ρ a w hL hd hr Q hq
 obtain⟨c,rfl,rfl,h1,h2,h3,h4,h5,h6⟩:=hr
 rw [List.range_eq_range']at ht
 cases draw with
 |false=>
  refine wp_region ?_
  rw [List.range_eq_range']
  exact zzY hop hnil (n:=σ.sl.length) ops.size 0 [] σ t (by omega) ht c a ⟨h1,h2,h3,h4,rfl,by simpa using h5,h6⟩ hd (fun c' a' σ' hp hl hrel=>hq [] .normal σ' c'.ρ a' c'.w hp hl hrel)
 |true=>
  refine wp_region_any hmx ?_
  obtain⟨τ,xs,σ',lg',g1,g2,g3,g4,g5,g6,_,g8⟩:=zqo ops.size 0 [] σ t c.ρ (by omega) ht hd h4
  have hext:=h6.ext (fun i=>by rw [h4];exact St.sc_sl hsc i) (fun t e he=>by rw [h4];exact St.sc_hp hsc t e he) τ
  have hw:=hext.world {c.w with drawn:=c.w.drawn+1} rfl rfl rfl rfl
  have hfalse: ∀k,k<ops.size→(Array.replicate ops.size false).getD k true=false:=fun k hk=>by simp [Array.getD_eq_getD_getElem?,hk]
  have hxi: ∀x∈xs,x.i<ops.size:=fun x hx=>by have:=(g1.range x hx).2;omega
  have e1:(slF σ.sl.length (zaK σ) xs fun k=>(Array.replicate ops.size false).getD k true)=zaK σ:=by
   funext d;exact zsG _ fun x hx _=>hfalse x.i (hxi x hx)
  have e2:(hpF (zas σ.hp) xs fun k=>(Array.replicate ops.size false).getD k true)=zas σ.hp:=by
   funext d;exact zti _ fun x hx _=>hfalse x.i (hxi x hx)
  refine zxZ (F:=F) (n:=σ.sl.length) (c:={c.ext τ with w:={c.w with drawn:=c.w.drawn+1}}) hop g1 g2 g3 g6 g8 rfl (fun c' a' k1 k2 k3 k4 k5 k6=> ?_) ops.size (Array.replicate ops.size false) a (by simp) (fun k o hk ho=> ?_) rfl h1 h2 h3 (fun t ht=> .inl (h5 t ht)) (by rw [e1,e2];exact hw) (Nat.le_trans (List.length_filter_le _ _) (by simp))
  ·have hlen:=(g1.sl rfl).2.1
   refine hq [] .normal _ c'.ρ a' c'.w (by rw [k1];exact List.prefix_append _ _) (by rw [k1];exact g5) ⟨c',rfl,rfl,k2,k3,k4,by rw [k1];exact g4,k5, ?_⟩
   show Rel c' σ'.sl.length _ _ a'
   rw [hlen];exact k6
  ·have:=hfalse k (Array.getElem?_eq_some_iff.1 ho).1
   have hk':(Array.replicate ops.size false).getD k true=true:=hk
   rw [this]at hk';cases hk'
end Go.Proofs.YtbmbkgalkfmjdaaGreatDoor
end
section
namespace Go.Proofs.YtbmbkgalkfmjdaaGreatDoor
open Go.RowKit
section
variable {P:Program} {c:Cx} {n nx:Nat} {sl sl0:Nat→SV} {hp hp0:Nat→Option Ent} {a:Act} {o:Oper} {gs:Gd} {e:Eff} {sg:SgT} {nv:Nat}
theorem zu0 (h:Pre P c n nx sl hp a sl0 hp0 o gs) {op:BinOp} {t el:TypeId} {x y:Operand} {ty:TypeId} (ho:o.op= .binOp op t x y ty) (hu:P.underlying t=some (.slice el)) {p:Option Addr} {q r:Nat} (hv:a.eval x= .slice p q r) (r2:SR c [.nils] [a.eval y])
  (hop:op= .eql∨op= .neq) (hnv:c.ρ[nv]?=some (.bool (zlC a o))) (x':Option E) {ck:List Cn}:zbu P o c n nx sl hp gs a {chk:=ck,nilq:=x',val:= .e (if op= .eql then .var nv else .not (.var nv))}:=by
 have hb:zlC a o=p.isNone:=by
  simp only [zlC,ho,hv]
  cases p<;>rfl
 rw [hb]at hnv
 have ex:=fun(v u:Value) (hv:a.eval x=v) (hu:a.eval y=u)=>zqQ (P:=P) (o:=o) ho c.w hv hu
 generalize hv2:a.eval y=v2 at r2
 cases r2 with
 |nils _=>
  refine zbu.pure h (v:= .bool (if op= .eql then p.isNone else !p.isNone)) ?_ ?_ rfl
  ·rw [ex _ _ hv hv2,eqGuard_at_slice]
   rcases hop with rfl|rfl
   ·simp [Go.Lib.run_eql_slice_nil c.w t el p q r 0 0 hu]
   ·simp [binOp,Op.equal,Op.maxDepth,Go.Lib.run_equalIn_slice_nil c.w 9999 t el p q r 0 0 hu]
  ·rcases hop with rfl|rfl
   ·refine .e (f:= []) ?_ (by simp) .nil
    simp only [if_true,E.den,hnv,Option.getD_some];exact .bool .nil
   ·refine .e (f:= []) ?_ (by simp) .nil
    simp only [reduceCtorEq,if_false,E.den,hnv,Option.getD_some,AV.notB];exact .bool .nil
end
end Go.Proofs.YtbmbkgalkfmjdaaGreatDoor
end
section
namespace Go.Proofs.YtbmbkgalkfmjdaaGreatDoor
open Go.RowKit
section
variable {P:Program} {c:Cx} {n nx:Nat} {sl sl0:Nat→SV} {hp hp0:Nat→Option Ent} {a:Act} {o:Oper} {gs:Gd} {e:Eff} {sg:SgT} {nv:Nat}
theorem zm9 {hp:Nat→Option Ent} {gs:Gd} {m:Nat} {cs:SVL} {x:E} (h:ze0 hp gs m (.agg cs)=some x): ∃k l,m=k+1∧zdq hp gs k cs.toList=some l∧x= .mk l:=by
 cases m with
 |zero=>simp [ze0]at h
 |succ m=>
  simp only [ze0,Option.map_eq_some_iff]at h
  obtain⟨l,h1,h2⟩:=h
  exact⟨m,l,rfl,h1,h2.symm⟩
theorem zlS {hp:Nat→Option Ent} {gs:Gd} {m:Nat} {y x:E} (h:ze0 hp gs m (.e y)=some x):x=y:=by
 cases m with
 |zero=>simp [ze0]at h
 |succ m=>simp [ze0]at h;exact h.symm
theorem zgc {hp:Nat→Option Ent} {gs:Gd} {m:Nat} {x:E} (h:ze0 hp gs m .nils=some x):x= .lst .nil:=by
 cases m with
 |zero=>simp [ze0]at h
 |succ m=>simp [ze0]at h;exact h.symm
theorem zel {hp:Nat→Option Ent} {gs:Gd} {m:Nat} {s:SV} {ss:List SV} {x:EL} (h:zdq hp gs m (s::ss)=some x): ∃k y l,m=k+1∧ze0 hp gs k s=some y∧zdq hp gs k ss=some l∧x= .cons y l:=by
 cases m with
 |zero=>simp [zdq]at h
 |succ m=>
  simp only [zdq]at h
  split at h
  ·rename_i y l h1 h2
   simp at h
   exact⟨m,y,l,rfl,h1,h2,h.symm⟩
  ·cases h
theorem zgD {hp:Nat→Option Ent} {gs:Gd} {ρ:List AV} {w:World}: ∀(vs:List Value) (ss:List SV) (m:Nat) (x:EL),zc7.go vs=some ss→zdq hp gs m ss=some x→Rd w vs (x.den ρ) []
 | [],ss,m,x,h,hx=>by
  simp [zc7.go]at h;subst h
  cases m with
  |zero=>simp [zdq]at hx
  |succ m=>simp [zdq]at hx;subst hx;exact .nil
 |v::vs,ss,m,x,h,hx=>by
  unfold zc7.go at h
  split at h
  ·rename_i hh;cases hh
  ·rename_i k q l hh
   cases hh
   split at h
   ·rename_i hk
    obtain⟨l',h1,rfl⟩:=Option.map_eq_some_iff.1 h
    obtain⟨j,y,l2,rfl,h2,h3,rfl⟩:=zel hx
    rw [zlS h2]
    exact .int hk (zgD _ _ _ _ h1 h3)
   ·cases h
  ·rename_i q l hh
   cases hh
   obtain⟨l',h1,rfl⟩:=Option.map_eq_some_iff.1 h
   obtain⟨j,y,l2,rfl,h2,h3,rfl⟩:=zel hx
   rw [zlS h2]
   exact .bool (zgD _ _ _ _ h1 h3)
  ·rename_i q l hh
   cases hh
   split at h
   ·rename_i hk
    obtain⟨l',h1,rfl⟩:=Option.map_eq_some_iff.1 h
    obtain⟨j,y,l2,rfl,h2,h3,rfl⟩:=zel hx
    rw [zlS h2]
    exact .str hk (zgD _ _ _ _ h1 h3)
   ·cases h
  ·rename_i l hh
   cases hh
   obtain⟨l',h1,rfl⟩:=Option.map_eq_some_iff.1 h
   obtain⟨j,y,l2,rfl,h2,h3,rfl⟩:=zel hx
   rw [zgc h2]
   exact .snil (zgD _ _ _ _ h1 h3)
  ·rename_i l hh
   cases hh
   obtain⟨l',h1,rfl⟩:=Option.map_eq_some_iff.1 h
   obtain⟨j,y,l2,rfl,h2,h3,rfl⟩:=zel hx
   rw [zlS h2]
   exact .nilp (zgD _ _ _ _ h1 h3)
  ·cases h
theorem zmp {hp:Nat→Option Ent} {gs:Gd} {ρ:List AV} {w:World} {v:Value} {s:SV} {m:Nat} {x:E} (h:zc7 v=some s) (hx:ze0 hp gs m s=some x):
  Rd w v.cells.toList (x.den ρ).cells []∧(∀u∈v.cells.toList,u.oneCell'=true):=by
 have one: ∀{v:Value} {y:AV},Rd w [v] [y] []→(∀cs,y≠ .agg cs)→(∀cs,y≠ .tup cs)→Rd w v.cells.toList y.cells []∧(∀u∈v.cells.toList,u.oneCell'=true):=by
  intro v y hr h1 h2
  have h3:=zl8 hr h1 h2
  have h4:y.cells= [y]:=by cases y<;>first|rfl|exact absurd rfl (h1 _)
  rw [one_cells h3,h4]
  exact⟨by simpa using hr,by simpa using h3⟩
 unfold zc7 at h
 split at h
 ·split at h
  ·rename_i hk
   simp at h;subst h
   rw [zlS hx]
   exact one (.int hk .nil) (by simp [E.den]) (by simp [E.den])
  ·cases h
 ·simp at h;subst h
  rw [zlS hx]
  exact one (.bool .nil) (by simp [E.den]) (by simp [E.den])
 ·split at h
  ·rename_i hk
   simp at h;subst h
   rw [zlS hx]
   exact one (.str hk .nil) (by simp [E.den]) (by simp [E.den])
  ·cases h
 ·simp at h;subst h
  rw [zgc hx]
  exact one (.snil .nil) (by simp [E.den]) (by simp [E.den])
 ·simp at h;subst h
  rw [zlS hx]
  exact one (.nilp .nil) (by simp [E.den]) (by simp [E.den])
 ·rename_i cs
  simp only [Option.bind_eq_bind,Option.bind_eq_some_iff,Option.some.injEq]at h
  obtain⟨l,hl,rfl⟩:=h
  obtain⟨k,l',rfl,h1,rfl⟩:=zm9 hx
  rw [SVL.toList_of]at h1
  exact⟨zgD _ _ _ _ hl h1,zmd _ _ hl⟩
 ·cases h
theorem zyj {w:World} {vs:List Value} {x:AV} (h:Rd w vs x.cells []): ∀k,Rd w (List.replicate k vs).flatten (zaC (List.replicate k x)) []
 |0=> .nil
 |k+1=>by
  simp only [List.replicate_succ,List.flatten_cons,zaC,List.flatMap_cons]
  have:=h.app (zyj h k)
  simpa [zaC]using this
theorem zgW (z:Array Value) (hz:0<z.size): ∀k,(madeCells z (k*z.size)).toList=(List.replicate k z.toList).flatten
 |0=>by simp [madeCells]
 |k+1=>by
  have ih:=zgW z hz k
  simp only [madeCells,Array.toList_map,Array.toList_range]at ih ⊢
  rw [Nat.add_mul,Nat.one_mul,List.range_add,List.map_append,ih,List.replicate_succ',List.flatten_append]
  congr 1
  simp only [List.map_map,List.flatten_cons,List.flatten_nil,List.append_nil]
  apply List.ext_getElem?
  intro i
  simp only [List.getElem?_map,List.getElem?_range']
  by_cases hi:i<z.size
  ·simp only [List.getElem?_range hi,Option.map_some,Function.comp_apply]
   have:(k*z.size+i) % z.size=i:=by rw [Nat.add_comm,Nat.add_mul_mod_self_right,Nat.mod_eq_of_lt hi]
   simp [this,hi]
  ·rw [List.getElem?_eq_none (by simpa using hi),List.getElem?_eq_none (by simpa using hi)];rfl
theorem zxL (h:Pre P c n nx sl hp a sl0 hp0 o gs) {t:TypeId} {l m:Operand} (ho:o.op= .makeSlice t l m) {s1 s2:SV} (hs1:zak sl0 gs l=some s1) (hs2:zak sl0 gs m=some s2) (he:zvS P hp0 gs nx t s1 s2=some e) (hc: ∀q∈e.chk,Cn.den c.ρ q):zbu P o c n nx sl hp gs a e:=by
 have hm1:l∈o.op.operands:=by simp [ho,Op.operands]
 have hm2:m∈o.op.operands:=by simp [ho,Op.operands]
 unfold zvS at he
 split at he
 ·rename_i el x y hel
  have hel:=zek hel
  split at he
  ·cases he
  rename_i hz
  have hz:zi2 P el=true:=by simpa using hz
  obtain⟨i,z,hi,hiz,hzs,hsz,hco,hby⟩:=zdQ hz
  have r1:=h.opd hs1 hm1
  have r2:=h.opd hs2 hm2
  have ival: ∀{x:E} {kk:IntKind} {k:Int} {v:Value},SR c [.e x] [v]→x.den c.ρ= .int kk k→v= .int kk k:=by
   intro x kk k v hr hx
   cases hr with
   |e h1 _ _=>exact(zhs h1 hx).1
  split at he
  ·rename_i hxy
   split at he
   ·rename_i s hs
    have hs:zc7 z=some s:=by simpa [hi,hiz]using hs
    obtain⟨w,hw,rfl⟩:=Option.map_eq_some_iff.1 he
    obtain⟨kk,k,hk,h0,hb,hle⟩:Cn.den c.ρ (.mkroom x (P.bytesOf el)):=hc1 hc
    have hv1:=ival r1 hk
    have hv2:=ival r2 (by rw [←E.beq_den c.ρ _ _ hxy];exact hk)
    obtain⟨c1,c2⟩:=zmp (w:=c.w) (ρ:=c.ρ) hs hw
    obtain⟨kn,rfl⟩:=Int.eq_ofNat_of_zero_le h0
    have hbytes:(i.bytes:Int)*(kn:Int)≤281474976710656:=by
     rw [hby]at hb
     rw [Int.mul_comm];omega
    have hlen:=c1.len
    have hml:=zgW z.cells (by omega) kn
    have hrun:=run_make (P:=P) c.w t el i z hel hi hiz kk kk kn kn (by omega) (Int.le_refl _) hbytes (by omega)
    have hsize:(madeCells z.cells (kn*z.cells.size)).size=kn*P.cellsOf el:=by rw [size_madeCells,hzs,hco]
    have htake:(madeCells z.cells (kn*z.cells.size)).toList.take ((List.replicate kn (w.den c.ρ)).length*P.cellsOf el)=(List.replicate kn z.cells.toList).flatten:=by
     rw [List.length_replicate,List.take_of_length_le (by rw [Array.length_toList,hsize];exact Nat.le_refl _),hml]
    refine zbu.newRow (xs:=List.replicate kn (w.den c.ρ)) (N:= []) (C:=madeCells z.cells (kn*z.cells.size)) (cap:=kn) (wd:=c.w) (fz:= []) (ts:= []) h rfl ⟨rfl,rfl,rfl,rfl⟩ ?_ ?_ (by omega) (fun u hu=> ?_) (by simp) (by simp only [maxLen];omega) hsize ?_ ?_ (by simp) (fun _=>rfl)
    ·simp only [execOp,ho,hv1,hv2,Sem.run_bind,Int.ofNat_eq_natCast,List.length_replicate]
     rw [hrun,hzs];rfl
    ·simp [E.den,hk,AV.rep]
    ·rw [List.eq_of_mem_replicate hu,←hlen,Array.length_toList,hzs,hco]
    ·rw [htake]
     intro u hu
     obtain⟨q,hq,hu⟩:=List.mem_flatten.1 hu
     rw [List.eq_of_mem_replicate hq]at hu
     exact c2 u hu
    ·rw [htake];exact zyj c1 kn
   ·cases he
  ·split at he
   ·rename_i k0 _
    simp only [Option.some.injEq]at he;subst he
    obtain⟨kk,k,hk,h0,hb,hle⟩:Cn.den c.ρ (.mkroom y (P.bytesOf el)):=hc1 hc
    have hv1:=ival r1 (show(E.int k0 0).den c.ρ= .int k0 0 from rfl)
    have hv2:=ival r2 hk
    obtain⟨kn,rfl⟩:=Int.eq_ofNat_of_zero_le h0
    have hbytes:(i.bytes:Int)*(kn:Int)≤281474976710656:=by
     rw [hby]at hb
     rw [Int.mul_comm];omega
    have hrun:=run_make (P:=P) c.w t el i z hel hi hiz k0 kk 0 kn (by omega) (by omega) hbytes (by omega)
    refine zbu.newRow (xs:= []) (N:= []) (C:=madeCells z.cells (kn*i.size)) (cap:=kn) (wd:=c.w) (fz:= []) (ts:= []) h rfl ⟨rfl,rfl,rfl,rfl⟩ ?_ rfl (by omega) (by simp) (by simp) (by simp only [maxLen];omega) (by rw [size_madeCells,hco]) (by simp) (by simpa [zaC]using Rd.nil) (by simp) (fun _=>rfl)
    simp only [execOp,ho,hv1,hv2,Sem.run_bind,Int.ofNat_eq_natCast]
    rw [hrun];rfl
   ·cases he
 ·cases he
end
end Go.Proofs.YtbmbkgalkfmjdaaGreatDoor
end
section
namespace Go.Proofs.YtbmbkgalkfmjdaaGreatDoor
open Go.RowKit
section
variable {P:Program} {c:Cx} {n nx:Nat} {sl sl0:Nat→SV} {hp hp0:Nat→Option Ent} {a:Act} {o:Oper} {gs:Gd} {e:Eff} {sg:SgT} {nv:Nat}
def znN (v:Option Value) (k d:Nat):Prop:=(v=none∧k=d)∨ ∃kk,v=some (.int kk (k:Int))
theorem zh1 {w:World} {t el:TypeId} (hu:P.underlying t=some (.slice el)) (hty:zl9 P el=true) (p:Option Addr) (m r l h:Nat) {lo hi:Option Value} (hlo:znN lo l 0) (hhi:znN hi h m) (h1:l≤h) (h2:h≤m) (h3:m≤r):
  (Instr.sliceAt t (.slice p m r) lo hi none).run P w= .ok (sliced p l h r (P.cellsOf el)) w:=by
 have hu':P.underlying t=some (.slice (P.elem t)):=by simp [Program.elem,hu]
 have he:P.elem t=el:=by simp [Program.elem,hu]
 have hs:(sizeOf (P.elem t)).run P w= .ok (P.cellsOf el) w:=by rw [he];exact zfE hty w
 rw [run_sliceAt_slice w t _ _ _ _ hu']
 rcases hlo with⟨rfl,rfl⟩|⟨kl,rfl⟩<;>rcases hhi with⟨rfl,rfl⟩|⟨kh,rfl⟩
 ·rw [run_slice_all w t p h r hu',hs];rfl
 ·rw [run_slice_h w t p m r hu' kh _ (by omega) (by omega),hs];rfl
 ·rw [run_slice_l w t p h r hu' kl _ (by omega) (by omega),hs];rfl
 ·rw [run_slice_lh w t p m r hu' kl kh _ _ (by omega) (by omega) (by omega),hs];rfl
theorem zvp (s:ByteArray) (a b:Nat):(s.extract a b).data.toList=(s.data.toList.drop a).take (b-a):=by
 rw [ByteArray.data_extract,Array.toList_extract,List.extract_eq_take_drop]
theorem zpH {w:World} {t:TypeId} (hu:P.underlying t=some .string) (s:ByteArray) (l h:Nat) {lo hi:Option Value} (hlo:znN lo l 0) (hhi:znN hi h s.size) (h1:l≤h) (h2:h≤s.size):
  (Instr.sliceAt t (.string s) lo hi none).run P w= .ok (.string (s.extract l h)) w:=by
 rw [run_sliceAt_string w t _ _ _ _ hu]
 rcases hlo with⟨rfl,rfl⟩|⟨kl,rfl⟩<;>rcases hhi with⟨rfl,rfl⟩|⟨kh,rfl⟩
 ·rw [run_slice_string_all w t s hu]
 ·rw [run_slice_string_h w t s hu kh _ (by omega) (by omega)];rfl
 ·rw [run_slice_string_l w t s hu kl _ (by omega) (by omega)];rfl
 ·rw [run_slice_string w t s kl kh _ _ hu (by omega) (by omega) (by omega)];rfl
theorem zpD {sz:Nat} (ys:List AV) (hs: ∀y∈ys,y.cells.length=sz) (l h:Nat) (hl:l≤h) (hh:h≤ys.length):((zaC ys).drop (l*sz)).take ((h-l)*sz)=zaC ((ys.take h).drop l):=by
 have e:ys=ys.take l++((ys.take h).drop l++ys.drop h):=by
  rw [←List.append_assoc]
  have:ys.take l++(ys.take h).drop l=ys.take h:=by
   have h2:ys.take l=(ys.take h).take l:=by rw [List.take_take,Nat.min_eq_left hl]
   rw [h2,List.take_append_drop]
  rw [this,List.take_append_drop]
 have f1:zaC ys=zaC (ys.take l)++(zaC ((ys.take h).drop l)++zaC (ys.drop h)):=by
  conv=>lhs;rw [e]
  simp [zaC]
 have l1:(zaC (ys.take l)).length=l*sz:=by
  rw [zhe _ (fun y hy=>hs y (List.mem_of_mem_take hy)),List.length_take,Nat.min_eq_left (by omega)]
 have l2:(zaC ((ys.take h).drop l)).length=(h-l)*sz:=by
  rw [zhe _ (fun y hy=>hs y (List.mem_of_mem_take (List.mem_of_mem_drop hy))),List.length_drop,List.length_take,Nat.min_eq_left (by omega)]
 rw [f1,←l1,List.drop_left,←l2,List.take_left]
theorem zD7 {w:World} {v:Value} {ys:List AV} {f:List Nat} {sz:Nat} (hr:Rd w [v] [.sl ys] f) (hs: ∀y∈ys,y.cells.length=sz) (l h:Nat) (hl:l≤h) (hh:h≤ys.length):
  ∃p r g,v= .slice p ys.length r∧ys.length≤r∧Rd w [sliced p l h r sz] [.sl ((ys.take h).drop l)] g∧ ∀b∈g,b∈f:=by
 cases hr with
 |snil _=>
  rename_i p r
  have hh:h=0:=by simpa using hh
  subst hh
  have hl:l=0:=by omega
  subst hl
  exact⟨_,_, [],rfl,Nat.zero_le _,by simpa [sliced]using Rd.snil .nil,by simp⟩
 |scons hb h1 h2 h3 h4 h5 h6 h6' h7 h8=>
  rename_i b o m r cs C t fz sz' f1 f2
  have hy: ∃y,y∈ys:=by cases ys with|nil=>simp at h3;omega|cons y _=>exact⟨y,by simp⟩
  obtain⟨y0,hy0⟩:=hy
  have hss:sz'=sz:=(h4 y0 hy0).symm.trans (hs y0 hy0)
  subst hss
  subst h3
  refine⟨some ⟨b,o,none⟩,r, ?_⟩
  rcases Nat.eq_or_lt_of_le hl with he|hlt
  ·subst he
   refine⟨[],rfl,h2.2, ?_,by simp⟩
   have:(ys.take l).drop l= []:=List.drop_eq_nil_of_le (by simp;omega)
   rw [this]
   simp only [sliced,Nat.sub_self]
   exact .snil .nil
  ·have hfl:=h7.len
   obtain⟨g,hg,hrd⟩:=h7.piece (l*sz') ((h-l)*sz')
   rw [zpD ys h4 l h hl hh]at hrd
   refine⟨b::(g++ []),rfl,h2.2, ?_,fun x hx=> ?_⟩
   ·have hsl:sliced (some (⟨b,o,none⟩:Addr)) l h r sz'= .slice (some ⟨b,o+l*sz',none⟩) (h-l) (r-l):=by
     unfold sliced
     split
     ·exfalso;omega
     ·simp [Addr.add_lit]
    rw [hsl]
    refine Rd.scons (cs:=(cs.drop (l*sz')).take ((h-l)*sz')) hb (by omega) ⟨by omega,by omega⟩ (by simp;omega) (fun y hy=>h4 y (List.mem_of_mem_take (List.mem_of_mem_drop hy))) h5 (fun j u hu=> ?_) (fun u hu=>h6' u (List.mem_of_mem_drop (List.mem_of_mem_take hu))) hrd .nil
    rw [List.getElem?_take]at hu
    split at hu
    ·rw [List.getElem?_drop]at hu
     have:=h6 _ _ hu
     rw [←this];congr 1;omega
    ·cases hu
   ·simp only [List.append_nil,List.mem_cons]at hx
    rcases hx with rfl|hx
    ·simp
    ·have:=hg x hx
     simp [this]
theorem zf4 {f:Operand→Option SV} {x:Option Operand} {r:Option SV} (h:zq4 f x=some r):(x=none∧r=none)∨ ∃y z,x=some y∧f y=some z∧r=some z:=by
 cases x with
 |none=>simp [zq4]at h;exact .inl ⟨rfl,h.symm⟩
 |some y=>
  obtain⟨z,hz,rfl⟩:=Option.map_eq_some_iff.1 h
  exact .inr ⟨y,z,rfl,hz,rfl⟩
theorem zlc {s:Option SV} {d l:E} (h:zBW s d=some l):(s=none∧l=d)∨s=some (.e l):=by
 unfold zBW at h
 split at h
 ·simp at h;exact .inl ⟨rfl,h.symm⟩
 ·simp at h;subst h;exact .inr rfl
 ·cases h
theorem zv5 (h:Pre P c n nx sl hp a sl0 hp0 o gs) {t:TypeId} {x:Operand} {lo hi mx:Option Operand} (ho:o.op= .slice t x lo hi mx) {s:SV} (hs:zak sl0 gs x=some s) {l' h' m':Option SV} (hl':zq4 (zak sl0 gs) lo=some l') (hh':zq4 (zak sl0 gs) hi=some h') (hm':zq4 (zak sl0 gs) mx=some m') (he:ztl P hp0 gs t s l' h' m'=some e) (hc: ∀q∈e.chk,Cn.den c.ρ q):zbu P o c n nx sl hp gs a e:=by
 have hm:x∈o.op.operands:=by simp [ho,Op.operands]
 have hmlo: ∀y,lo=some y→y∈o.op.operands:=fun y hy=>by simp [ho,Op.operands,hy]
 have hmhi: ∀y,hi=some y→y∈o.op.operands:=fun y hy=>by simp [ho,Op.operands,hy]
 have hmmx: ∀y,mx=some y→y∈o.op.operands:=fun y hy=>by simp [ho,Op.operands,hy]
 have hx:=h.opd hs hm
 have ival: ∀{x:E} {kk:IntKind} {k:Int} {v:Value},SR c [.e x] [v]→x.den c.ρ= .int kk k→v= .int kk k:=by
  intro x kk k v hr hx
  cases hr with
  |e h1 _ _=>exact(zhs h1 hx).1
 unfold ztl at he
 split at he
 ·cases he
 rename_i y hy
 obtain⟨f,q1,q2⟩:=h.toE hs hm hy
 have ex:(execOp a.eval o).run P c.w=((Instr.sliceAt t (a.eval x) (lo.map a.eval) (hi.map a.eval) (mx.map a.eval)).run P c.w).andThen fun v w=> .ok (.value v) w:=by
  simp [execOp,ho]
 split at he
 ·split at he
  ·rename_i el _ _ hu
   split at he
   ·rename_i hty
    simp only [Option.some.injEq]at he;subst he
    have hd:(y.den c.ρ).len≠ .undef:=hc1 hc
    cases hy':y.den c.ρ<;>simp only [hy',AV.len,ne_eq,not_true_eq_false]at hd
    rename_i xs
    have hl:(y.den c.ρ).len= .int .i64 (xs.length:Int):=by rw [hy'];rfl
    obtain⟨p,q,r,hv⟩: ∃p q r,a.eval x= .slice p q r:=by
     rcases zk5 q1 hl with⟨p,q,hv,hm0⟩|⟨b,o',k,q,hv,hm0⟩
     ·exact⟨_,_,_,hv⟩
     ·exact⟨_,_,_,hv⟩
    rcases zf4 hl' with⟨rfl,_⟩|⟨_,_,_,_,hh⟩
    ·rcases zf4 hh' with⟨_,hh⟩|⟨oh,sh,rfl,hsh,hh⟩
     ·cases hh
     ·cases hh
      rcases zf4 hm' with⟨_,hh⟩|⟨om,sm,rfl,hsm,hh⟩
      ·cases hh
      ·cases hh
       have v1:=(fun{kk:IntKind} (hr:SR c [.e (.int kk 0)] [a.eval oh])=>ival hr (show(E.int kk 0).den c.ρ= .int kk 0 from by simp only [E.den])) (h.opd hsh (hmhi _ rfl))
       have v2:=(fun{kk:IntKind} (hr:SR c [.e (.int kk 0)] [a.eval om])=>ival hr (show(E.int kk 0).den c.ρ= .int kk 0 from by simp only [E.den])) (h.opd hsm (hmmx _ rfl))
       have hu':P.underlying t=some (.slice (P.elem t)):=by simp [Program.elem,hu]
       have hel:P.elem t=el:=by simp [Program.elem,hu]
       refine zbu.pure h (v:= .slice p 0 0) ?_ (.emp .nil) rfl
       rw [ex,hv]
       simp only [Option.map_none,Option.map_some,v1,v2]
       rw [run_sliceAt_slice c.w t _ _ _ _ hu',run_slice_hm c.w t p q r hu' _ _ 0 0 (by omega) (by omega) (by omega),hel,zfE hty]
       simp [sliced]
    ·cases hh
   ·cases he
  ·cases he
 ·have hmxn:mx=none:=by
   rcases zf4 hm' with⟨hh,_⟩|⟨_,_,_,_,hh⟩
   ·exact hh
   ·cases hh
  subst hmxn
  have blo: ∀(l:E) (kk:IntKind) (k:Nat),zBW l' (.int .i64 0)=some l→l.den c.ρ= .int kk k→znN (lo.map a.eval) k 0:=by
   intro l kk k hl hk
   rcases zf4 hl' with⟨rfl,rfl⟩|⟨ol,sl',rfl,hsl,rfl⟩
   ·rcases zlc hl with⟨_,rfl⟩|hh
    ·simp only [E.den,AV.int.injEq]at hk
     exact .inl ⟨rfl,by omega⟩
    ·cases hh
   ·rcases zlc hl with⟨hh,_⟩|hh
    ·cases hh
    ·cases hh
     exact .inr ⟨kk,by rw [Option.map_some,ival (h.opd hsl (hmlo _ rfl)) hk]⟩
  have bhi: ∀(d l:E) (kk:IntKind) (k m:Nat),zBW h' d=some l→l.den c.ρ= .int kk k→d.den c.ρ= .int .i64 (m:Int)→znN (hi.map a.eval) k m:=by
   intro d l kk k m hl hk hd
   rcases zf4 hh' with⟨rfl,rfl⟩|⟨ol,sl',rfl,hsl,rfl⟩
   ·rcases zlc hl with⟨_,rfl⟩|hh
    ·rw [hd]at hk
     simp only [AV.int.injEq]at hk
     exact .inl ⟨rfl,by omega⟩
    ·cases hh
   ·rcases zlc hl with⟨hh,_⟩|hh
    ·cases hh
    ·cases hh
     exact .inr ⟨kk,by rw [Option.map_some,ival (h.opd hsl (hmhi _ rfl)) hk]⟩
  split at he
  ·rename_i hu
   split at he
   ·rename_i l hb q hl1 hh1
    simp only [Option.some.injEq]at he;subst he
    obtain⟨ka,ai,kb,bi,bs,d1,d2,d3,d4,d5,d6⟩:Cn.den c.ρ (.winS y l hb):=hc1 hc
    obtain⟨an,rfl⟩:=Int.eq_ofNat_of_zero_le d4
    obtain⟨bn,rfl⟩:=Int.eq_ofNat_of_zero_le (Int.le_trans d4 d5)
    obtain⟨ss,hv,rfl,hle⟩:=zsn q1 d3
    have hsz:ss.data.toList.length=ss.size:=by simp
    have hrun:=zpH (P:=P) (w:=c.w) hu ss an bn (blo l ka an hl1 d1) (bhi (.slen y) hb kb bn ss.size hh1 d2 (by simp only [E.den,d3,AV.slen];simp)) (by omega) (by omega)
    refine zbu.pure h (v:= .string (ss.extract an bn)) ?_ (.ofRd0 ?_) rfl
    ·rw [ex,hv,Option.map_none,hrun];rfl
    ·simp only [E.den,d1,d2,d3,AV.swin]
     have:(List.take (bn:Int).toNat ss.data.toList).drop (an:Int).toNat=(ss.extract an bn).data.toList:=by
      simp [zvp,List.drop_take]
     rw [this]
     exact .str (by simp only [ByteArray.size_extract];omega) .nil
   ·cases he
  ·rename_i el hu
   split at he
   ·cases he
   rename_i hty
   have hty:zl9 P el=true:=by simpa using hty
   split at he
   ·rename_i l hb fz hl1 hh1 hfz
    simp only [Option.some.injEq]at he;subst he
    have hcs:Cn.den c.ρ (.issl y (P.cellsOf el)):=hc1 hc
    obtain⟨ys,hys,hyc⟩:=hcs
    obtain⟨ka,ai,kb,bi,m,d1,d2,d3,d4,d5,d6⟩:Cn.den c.ρ (.win y l hb):=hc _ (by simp)
    obtain⟨an,rfl⟩:=Int.eq_ofNat_of_zero_le d4
    obtain⟨bn,rfl⟩:=Int.eq_ofNat_of_zero_le (Int.le_trans d4 d5)
    rw [hys]at q1
    have hm9:(m:Int)=ys.length:=by rw [hys]at d3;simpa [AV.len]using d3.symm
    split at hfz
    ·rename_i hnb
     obtain⟨p,r,g,hv,hr,hrd,hg⟩:=zD7 q1 hyc an bn (by omega) (by omega)
     have hrun:=zh1 (P:=P) (w:=c.w) hu hty p ys.length r an bn (blo l ka an hl1 d1) (bhi (.len y) hb kb bn ys.length hh1 d2 (by simp only [E.den,hys,AV.len])) (by omega) (by omega) hr
     intro next Q hk
     unfold Oper.wp
     rw [ex,hv,Option.map_none,hrun]
     show Oper.upon P o a next Q (.ok (.value _) c.w)
     rw [Oper.upon_value]
     have hrel:=h.rel.freeze h.hp h.gs hfz
     have hok: ∀b∈g,(c.frz (fz.map (·.1))).ok b:=fun b hb=>ziG h.rel h.eh h.gs hfz hnb (q2 b (hg b hb))
     refine hk _ (c.frz (fz.map (·.1))) ⟨rfl,rfl,rfl,rfl,fun t ht=> .inl ht⟩ (hrel.put (SR.mkGd (.e (f:=g) ?_ hok .nil) gs h.gs) o.dst)
     show Rd c.w _ [(E.win y l hb).den c.ρ] g
     simp only [E.den,d1,d2,hys,AV.win,Int.ofNat_eq_natCast,Int.toNat_natCast]
     exact hrd
    ·cases hfz
   ·cases he
  ·cases he
end
end Go.Proofs.YtbmbkgalkfmjdaaGreatDoor
end
section
namespace Go.Proofs.YtbmbkgalkfmjdaaGreatDoor
open Go.RowKit
section
variable {P:Program} {c:Cx} {n nx:Nat} {sl sl0:Nat→SV} {hp hp0:Nat→Option Ent} {a:Act} {o:Oper} {gs:Gd} {e:Eff} {sg:SgT} {nv:Nat}
theorem zxH {w:World} {v:Value} {x:AV} {f:List Nat} {k:SK} (h:Rd w [v] [x] f) (hk:x.sk=some k):(∃kk n,k= .int kk∧v= .int kk n∧x= .int kk n)∨(∃b,k= .bool∧v= .bool b∧x= .bool b)∨ ∃s:ByteArray,k= .str∧v= .string s∧x= .str s.data.toList:=by
 cases h<;>simp [AV.sk]at hk
 ·exact .inl ⟨_,_,hk.symm,rfl,rfl⟩
 ·exact .inr (.inl ⟨_,hk.symm,rfl,rfl⟩)
 ·exact .inr (.inr ⟨_,hk.symm,rfl,rfl⟩)
theorem zmz {t:TypeId} (h:(∃k,P.underlying t=some (.int k))∨P.underlying t=some .bool∨P.underlying t=some .string):zaN P t=false:=by
 rcases h with⟨k,h⟩|h|h<;>simp [zaN,h]
theorem zoK {w:World} (d:Nat): ∀(fs:List Field) (j:Nat) (ks:List SK) {as_ bs:List Value} {cs ds:List AV} {f g:List Nat},zsa P j fs=some ks→Rd w as_ cs f→Rd w bs ds g→(cs.drop j).map AV.sk=ks.map some→(ds.drop j).map AV.sk=ks.map some→
  (Op.eqFields (d+1) as_.toArray bs.toArray fs).run P w= .ok (AV.leq (cs.drop j) (ds.drop j)) w
 | [],j,ks,as_,bs,cs,ds,f,g,hk,h1,h2,k1,k2=>by
  simp [zsa]at hk;subst hk
  have e1:cs.drop j= []:=by simpa using k1
  have e2:ds.drop j= []:=by simpa using k2
  rw [e1,e2];simp [Op.eqFields,AV.leq]
 |fd::fs,j,ks,as_,bs,cs,ds,f,g,hk,h1,h2,k1,k2=>by
  unfold zsa at hk
  split at hk
  ·cases hk
  rename_i hcond
  simp only [not_or,Bool.not_eq_true',Decidable.not_not,ne_eq,Bool.not_eq_false]at hcond
  obtain⟨hn,ho,hty,hc1⟩:=hcond
  have main: ∀(k:SK) (l:List SK),ks=k::l→zsa P (j+1) fs=some l→(∀a b (x y:AV) f g,Rd w [a] [x] f→Rd w [b] [y] g→x.sk=some k→y.sk=some k→(Op.equalIn (d+1) fd.type a b).run P w= .ok (x.seq y) w)→zaN P fd.type=false→
    (Op.eqFields (d+1) as_.toArray bs.toArray (fd::fs)).run P w= .ok (AV.leq (cs.drop j) (ds.drop j)) w:=by
   rintro k l rfl hl heq hagg
   have hj1:j<cs.length:=by
    rcases Nat.lt_or_ge j cs.length with hh|hh
    ·exact hh
    ·rw [List.drop_eq_nil_of_le hh]at k1;simp at k1
   have hj2:j<ds.length:=by
    rcases Nat.lt_or_ge j ds.length with hh|hh
    ·exact hh
    ·rw [List.drop_eq_nil_of_le hh]at k2;simp at k2
   rw [List.drop_eq_getElem_cons hj1]at k1
   rw [List.drop_eq_getElem_cons hj2]at k2
   simp only [List.map_cons,List.cons.injEq]at k1 k2
   have l1:=h1.len
   have l2:=h2.len
   obtain⟨v,f1,hv,_,r1⟩:=h1.at (show cs[j]?=some cs[j] by simp [hj1])
   obtain⟨u,g1,hu,_,r2⟩:=h2.at (show ds[j]?=some ds[j] by simp [hj2])
   have p1:=znB hty as_ fd.offset (by omega) (.inr hc1) w
   have p2:=znB hty bs fd.offset (by omega) (.inr hc1) w
   have e1:((as_.drop fd.offset).take (P.cellsOf fd.type)).headD Go.undef=v:=by
    rw [hc1,ho,List.drop_eq_getElem_cons (by omega),List.take_succ_cons]
    simpa [show j<as_.length by omega]using hv
   have e2:((bs.drop fd.offset).take (P.cellsOf fd.type)).headD Go.undef=u:=by
    rw [hc1,ho,List.drop_eq_getElem_cons (by omega),List.take_succ_cons]
    simpa [show j<bs.length by omega]using hu
   rw [hagg,e1]at p1
   rw [hagg,e2]at p2
   have ih:=zoK (w:=w) d fs (j+1) l hl h1 h2 k1.2 k2.2
   rw [List.drop_eq_getElem_cons hj1,List.drop_eq_getElem_cons hj2]
   simp only [Op.eqFields,ne_eq,hn,not_false_eq_true,if_true,Sem.run_bind,p1,p2,Bool.false_eq_true,if_false,Result.andThen_ok,heq v u _ _ _ _ r1 r2 k1.1 k2.1]
   cases hb:(cs[j]).seq ds[j]with
   |true=>simpa [AV.leq,hb]using ih
   |false=>simp [AV.leq,hb]
  split at hk
  ·rename_i k l hu hl
   simp at hk
   refine main _ _ hk.symm hl (fun a b x y f g ra rb hx hy=> ?_) (zmz (.inl ⟨_,hu⟩))
   rcases zxH ra hx with⟨kk,m,h5,rfl,rfl⟩|⟨_,h5,_⟩|⟨_,h5,_⟩<;>cases h5
   rcases zxH rb hy with⟨kk,m2,h5,rfl,rfl⟩|⟨_,h5,_⟩|⟨_,h5,_⟩<;>cases h5
   exact run_equalIn_int w d fd.type _ _ _ _ hu
  ·rename_i l hu hl
   simp at hk
   refine main _ _ hk.symm hl (fun a b x y f g ra rb hx hy=> ?_) (zmz (.inr (.inl hu)))
   rcases zxH ra hx with⟨kk,m,h5,_⟩|⟨_,_,rfl,rfl⟩|⟨_,h5,_⟩<;>try cases h5
   rcases zxH rb hy with⟨kk,m,h5,_⟩|⟨_,_,rfl,rfl⟩|⟨_,h5,_⟩<;>try cases h5
   exact zoa d _ _ hu w
  ·rename_i l hu hl
   simp at hk
   refine main _ _ hk.symm hl (fun a b x y f g ra rb hx hy=> ?_) (zmz (.inr (.inr hu)))
   rcases zxH ra hx with⟨kk,m,h5,_⟩|⟨_,h5,_⟩|⟨_,_,rfl,rfl⟩<;>try cases h5
   rcases zxH rb hy with⟨kk,m,h5,_⟩|⟨_,h5,_⟩|⟨_,_,rfl,rfl⟩<;>try cases h5
   rw [run_equalIn_string w d _ _ _ hu,zmQ];rfl
  ·cases hk
theorem zBa (h:Pre P c n nx sl hp a sl0 hp0 o gs) {op:BinOp} {t:TypeId} {x y:Operand} {ty:TypeId} (ho:o.op= .binOp op t x y ty) {fs:Array Field} (hu:P.underlying t=some (.struct fs)) (he:zbP P sg sl0 hp0 nv nx gs o=some e) (hc: ∀q∈e.chk,Cn.den c.ρ q):zbu P o c n nx sl hp gs a e:=by
 have hm1:x∈o.op.operands:=by simp [ho,Op.operands]
 have hm2:y∈o.op.operands:=by simp [ho,Op.operands]
 simp only [zbP,ho,Option.bind_eq_some_iff]at he
 obtain⟨s1,hs1,s2,hs2,he⟩:=he
 unfold zr8 at he
 simp only [hu]at he
 split at he
 ·cases he
 rename_i hg
 simp only [Bool.or_eq_true,not_or,Bool.not_eq_true]at hg
 split at he
 ·rename_i ks x' y' hks hx' hy'
  obtain⟨f1,q1,_⟩:=h.toE hs1 hm1 hx'
  obtain⟨f2,q2,_⟩:=h.toE hs2 hm2 hy'
  have hft:P.underlying t=some (.struct (P.fieldsOf t)):=by simp [Program.fieldsOf,hu]
  have hfs:P.fieldsOf t=fs:=by simp [Program.fieldsOf,hu]
  have key: ∀(k1:Cn.den c.ρ (.kinds x' ks)) (k2:Cn.den c.ρ (.kinds y' ks)),∃as_ bs:List Value,∃b,a.eval x= .agg as_.toArray∧a.eval y= .agg bs.toArray∧(E.aeq x' y').den c.ρ= .bool b∧(Op.equalIn 10000 t (.agg as_.toArray) (.agg bs.toArray)).run P c.w= .ok b c.w:=by
   rintro⟨cs,hcs,k1⟩ ⟨ds,hds,k2⟩
   obtain⟨as_,hv1,_,r1⟩:=zkt q1 hcs
   obtain⟨bs,hv2,_,r2⟩:=zkt q2 hds
   refine⟨as_,bs,AV.leq cs ds,hv1,hv2,by simp only [E.den,hcs,hds,AV.aeq], ?_⟩
   rw [run_equalIn_struct c.w 9999 t _ _ hft hg.1,hfs]
   exact zoK (w:=c.w) 9998 fs.toList 0 ks hks r1 r2 (by simpa using k1) (by simpa using k2)
  split at he
  ·simp only [Option.some.injEq]at he;subst he
   obtain⟨as_,bs,b,hv1,hv2,hd,hr⟩:=key (hc _ (by simp)) (hc _ (by simp))
   refine zbu.pure h (v:= .bool b) ?_ (.ofRd0 (by rw [hd];exact .bool .nil)) rfl
   rw [zqQ ho c.w hv1 hv2]
   simp [run_eqGuard_agg c.w _ t x y _ _ hg.2,run_eql_struct,hr]
  ·simp only [Option.some.injEq]at he;subst he
   obtain⟨as_,bs,b,hv1,hv2,hd,hr⟩:=key (hc _ (by simp)) (hc _ (by simp))
   refine zbu.pure h (v:= .bool (!b)) ?_ (.ofRd0 (by simp only [E.den]at hd ⊢;rw [hd];exact .bool .nil)) rfl
   rw [zqQ ho c.w hv1 hv2]
   simp [run_eqGuard_agg c.w _ t x y _ _ hg.2,run_neq_struct,hr]
  ·cases he
 ·cases he
theorem zpT (h:Pre P c n nx sl hp a sl0 hp0 o gs) {x y:Operand} {cl:Call} (ho:o.op= .call cl) {op:BinOp} (hop:(op= .gtr∧cl.callee= .builtin .max)∨(op= .lss∧cl.callee= .builtin .min)) (ha1:cl.args.toList= [x,y]) {s1 s2:SV} (hs1:zak sl0 gs x=some s1) (hs2:zak sl0 gs y=some s2)
  (he:zmJ op s1 s2=some e) (hc: ∀q∈e.chk,Cn.den c.ρ q):zbu P o c n nx sl hp gs a e:=by
 have hargs:cl.args= #[x,y]:=by apply Array.ext';simp [ha1]
 have hm1:x∈o.op.operands:=by rcases hop with⟨_,hh⟩|⟨_,hh⟩<;>simp [ho,Op.operands,Call.operands,hh,hargs]
 have hm2:y∈o.op.operands:=by rcases hop with⟨_,hh⟩|⟨_,hh⟩<;>simp [ho,Op.operands,Call.operands,hh,hargs]
 unfold zmJ at he
 split at he
 ·rename_i x' y'
  simp only [Option.some.injEq]at he;subst he
  obtain⟨f1,q1,_⟩:=zdh (h.opd hs1 hm1) rfl
  obtain⟨f2,q2,_⟩:=zdh (h.opd hs2 hm2) rfl
  have hd:AV.bin op (y'.den c.ρ) (x'.den c.ρ)≠ .undef:=hc1 hc
  cases hx:x'.den c.ρ<;>cases hy:y'.den c.ρ<;>simp only [hx,hy,AV.bin,ne_eq,not_true_eq_false]at hd
  rename_i k m k' m'
  split at hd
  ·rename_i hk
   have hk:k'=k:=by rcases hk with hk|hk|hk;exact hk;all_goals (rcases hop with⟨h1,_⟩|⟨h1,_⟩<;>rw [h1]at hk<;>cases hk)
   subst hk
   obtain⟨v1,i1⟩:=zhs q1 hx
   obtain⟨v2,i2⟩:=zhs q2 hy
   rcases hop with⟨rfl,hcl⟩|⟨rfl,hcl⟩
   ·refine zbu.pure h (v:= .int k' (if m'>m then m' else m)) ?_ (.ofRd0 ?_) rfl
    ·simp [execOp,ho,resolve,hcl,hargs,invoke,builtin,Builtin.max_,Builtin.max2,v1,v2]
    ·simp only [E.den,hx,hy,AV.bin,true_or,if_true,zbx]
     by_cases hh:m'>m
     ·simp only [hh,decide_true,AV.cond,if_true];exact .int i2 .nil
     ·simp only [hh,decide_false,AV.cond,if_false];exact .int i1 .nil
   ·refine zbu.pure h (v:= .int k' (if m'<m then m' else m)) ?_ (.ofRd0 ?_) rfl
    ·simp [execOp,ho,resolve,hcl,hargs,invoke,builtin,Builtin.min_,Builtin.min2,v1,v2]
    ·simp only [E.den,hx,hy,AV.bin,true_or,if_true,zbx]
     by_cases hh:m'<m
     ·simp only [hh,decide_true,AV.cond,if_true];exact .int i2 .nil
     ·simp only [hh,decide_false,AV.cond,if_false];exact .int i1 .nil
  ·exact absurd rfl hd
 ·cases he
end
end Go.Proofs.YtbmbkgalkfmjdaaGreatDoor
end
section
namespace Go.Proofs.YtbmbkgalkfmjdaaGreatDoor
open Go.RowKit
inductive zbD (P:Program) (w:World):List TypeId→List Bool→List Value→List AV→List Nat→List Nat→Prop where
 |nil {fl}:zbD P w [] fl [] [] [] []
 |own {t ts fl el u us y ys top N rf hs}:fl.headD false=true→zem P t=some el→(zcW P el=true∧N= []∨zcW P el=false∧zoQ P t=none)→zcp w el (P.cellsOf el) u y top N→zbD P w ts fl.tail us ys rf hs→zbD P w (t::ts) fl (u::us) (y::ys) (N++rf) (top++hs)
 |deep {t ts fl el e z l u us y ys top rf hs}:fl.headD false=true→zem P t=some el→zcW P el=false→zoQ P t=some (.row e z l)→DC w [.row e z l] [u] [y] top→zbD P w ts fl.tail us ys rf hs→zbD P w (t::ts) fl (u::us) (y::ys) rf (top++hs)
 |rd {t ts fl u us y ys f rf hs}:(fl.headD false=true→zem P t=none)→Rd w [u] [y] f→zbD P w ts fl.tail us ys rf hs→zbD P w (t::ts) fl (u::us) (y::ys) (f++rf) hs
def zvx (P:Program) (w:World) (t:TypeId) (fl:List Bool) (v:Value) (x:AV) (rf hs:List Nat):Prop:=
 ∃us ys,(if zaN P t then v= .agg us.toArray∧x= .agg ys∧ ∀u∈us,u.oneCell'=true else us= [v]∧ys= [x])∧zbD P w (zav P t) fl us ys rf hs
def zq2 (P:Program) (w:World) (t:TypeId) (fl:List Bool) (v:Value) (x:AV) (rf hs:List Nat):Prop:=
 if zlt P t fl then zvx P w t fl v x rf hs else Rd w [v] [x] rf∧hs= []
inductive zoT (P:Program) (w:World):List TypeId→List Bool→List Value→List AV→List Nat→List Nat→Prop where
 |nil {fl}:zoT P w [] fl [] [] [] []
 |cons {t ts fl v vs x xs f h rf hs}:zq2 P w t fl v x f h→zoT P w ts (fl.drop (zav P t).length) vs xs rf hs→zoT P w (t::ts) fl (v::vs) (x::xs) (f++rf) (h++hs)
theorem zbD.len {P:Program} {w:World} {ts:List TypeId} {fl:List Bool} {us:List Value} {ys:List AV} {rf hs:List Nat} (h:zbD P w ts fl us ys rf hs):us.length=ts.length∧ys.length=ts.length:=by
 induction h<;>simp_all
theorem zbD.inb {P:Program} {w:World} {ts:List TypeId} {fl:List Bool} {us:List Value} {ys:List AV} {rf hs:List Nat} (h:zbD P w ts fl us ys rf hs):(∀b∈rf,b<w.heap.size)∧ ∀b∈hs,b<w.heap.size:=by
 induction h with
 |nil=>simp
 |deep _ _ _ _ h _ ih=>
  refine⟨ih.1,fun b hb=> ?_⟩
  rcases List.mem_append.1 hb with hb|hb
  ·exact h.inb b hb
  ·exact ih.2 b hb
 |own _ _ _ h _ ih=>
  refine⟨fun b hb=> ?_,fun b hb=> ?_⟩
  ·rcases List.mem_append.1 hb with hb|hb
   ·obtain⟨xs,_,_,_,⟨_,_,_,rfl⟩|⟨g,cap,C,_,_,_,_,_,_,_,hr⟩⟩:=h
    ·simp at hb
    ·exact hr.inb b hb
   ·exact ih.1 b hb
  ·rcases List.mem_append.1 hb with hb|hb
   ·obtain⟨xs,_,_,_,⟨_,_,rfl,_⟩|⟨g,cap,C,_,_,_,hh,_,rfl,_⟩⟩:=h
    ·simp at hb
    ·simp at hb;subst hb;exact zbq hh
   ·exact ih.2 b hb
 |rd _ h _ ih=>
  refine⟨fun b hb=> ?_,ih.2⟩
  rcases List.mem_append.1 hb with hb|hb
  ·exact h.inb b hb
  ·exact ih.1 b hb
structure Chg where
 tag:Nat
 new:Option Value
 top:List Nat
 ent:Ent
def Chg.pair (r:Chg):Nat × Ent:=(r.tag,r.ent)
structure Aft (c c':Cx) (w':World) (recs:List Chg):Prop where
 ρ:c'.ρ=c.ρ
 w:c'.w=w'
 G: ∀r∈recs,c'.G r.tag=⟨r.top, []⟩
 new: ∀r∈recs,∀hv,r.new=some hv→c'.K r.tag 0∧(∀g,c'.K r.tag g→g≤0)∧c'.H r.tag 0=hv
 K: ∀t g,c.K t g→c'.K t g∧c'.H t g=c.H t g
 old: ∀t,c.U t→ ∀g,c'.K t g→c.K t g
 newE: ∀r∈recs,r.new.isSome=true→c'.E r.tag=0
 oldE: ∀r∈recs,r.new=none→c'.E r.tag=c.E r.tag+1
theorem Aft.mono {c c':Cx} {w':World} {recs recs':List Chg} (h:Aft c c' w' recs) (hs: ∀r∈recs',r∈recs):Aft c c' w' recs':=
 ⟨h.ρ,h.w,fun r hr=>h.G r (hs r hr),fun r hr=>h.new r (hs r hr),h.K,h.old,fun r hr=>h.newE r (hs r hr),fun r hr=>h.oldE r (hs r hr)⟩
section
variable {P:Program} {c:Cx} {w':World}
theorem zCp {c':Cx} {t:Nat} {u:Value} {el sz:Nat} {y:AV} {top N:List Nat} (h:zcp w' el sz u y top N) (hk:c'.K t 0) (hh:c'.H t 0=u):SR c' [.own t 0] [u]:=by
 obtain⟨xs,_,_,_,⟨_,⟨a,rfl⟩,_⟩|⟨g,cap,C,rfl,_⟩⟩:=h
 ·exact .own hk hh .nil
 ·exact .own hk hh .nil
theorem zdz {nx:Nat} {mk:Nat→E} {ts:List TypeId} {fl:List Bool} {us:List Value} {ys:List AV} {rf hs:List Nat} (h:zbD P w' ts fl us ys rf hs): ∀(j:Nat),(∀i y,ys[i]?=some y→(mk (j+i)).den c.ρ=y)→
  ∃recs:List Chg,(zar P nx mk j ts fl).2=recs.map Chg.pair∧recs.flatMap Chg.top=hs∧(∀r∈recs,nx+j≤r.tag∧r.tag<nx+j+ts.length∧r.new.isSome)∧(recs.map Chg.tag).Nodup∧(∀r∈recs,r.new=us[r.tag-(nx+j)]?)∧
   ∀c',Aft c c' w' recs→(∀b∈rf,c'.ok b)→SR c' (zar P nx mk j ts fl).1 us∧ ∀r∈recs,zls c' r.tag r.ent:=by
 induction h with
 |nil=>exact fun j _=>⟨[],rfl,rfl,by simp,by simp,by simp,fun c' _ _=>⟨.nil,by simp⟩⟩
 | @own t ts fl el u us y ys top N rf hs h1 h2 h23 h3 _ ih=>
  intro j hmk
  obtain⟨recs,e1,e2,e3,e4,e4',e5⟩:=ih (j+1) (fun i y hy=>by rw [show j+1+i=j+(i+1)from by omega];exact hmk (i+1) y (by simpa using hy))
  have hy:=hmk 0 y rfl
  have hoe:zsB P t el 0 0 (mk j)= .row el (P.cellsOf el) 0 (mk j) (zcW P el):=by
   unfold zsB
   rcases h23 with⟨h,_⟩|⟨h,h'⟩
   ·rw [if_pos h,h]
   ·rw [if_neg (by rw [h];simp),h',h]
  simp only [zar,h1,h2,hoe]
  refine⟨⟨nx+j,some u,top, .row el (P.cellsOf el) 0 (mk j) (zcW P el)⟩::recs,by simp [e1,Chg.pair],by simp [e2],fun r hr=> ?_, ?_,fun r hr=> ?_,fun c' ha hok=> ?_⟩
  ·rcases List.mem_cons.1 hr with rfl|hr
   ·simp
   ·have:=e3 r hr
    simp only [List.length_cons]
    exact⟨by omega,by omega,this.2.2⟩
  ·simp only [List.map_cons,List.nodup_cons]
   refine⟨fun hm=> ?_,e4⟩
   obtain⟨r,hr,hrt⟩:=List.mem_map.1 hm
   have:=e3 r hr
   omega
  ·rcases List.mem_cons.1 hr with rfl|hr
   ·simp
   ·rw [e4' r hr]
    have:=e3 r hr
    rw [show r.tag-(nx+j)=(r.tag-(nx+(j+1)))+1 from by omega,List.getElem?_cons_succ]
  ·obtain⟨q1,q2⟩:=e5 c' (ha.mono fun r hr=>by simp [hr]) fun b hb=>hok b (by simp [hb])
   obtain⟨k1,k2,k3⟩:=ha.new _ (List.mem_cons_self ..) u rfl
   have kg:=ha.G _ (List.mem_cons_self ..)
   simp only at k1 k2 k3 kg
   refine⟨(zCp h3 k1 k3).cons q1,fun r hr=> ?_⟩
   rcases List.mem_cons.1 hr with rfl|hr
   ·refine⟨k1,k2,N, ?_,fun b hb=>hok b (by simp [hb]),fun hd=> ?_,fun _=>by rw [kg]⟩
    rotate_left
    ·rcases h23 with⟨_,h⟩|⟨h,_⟩
     ·subst h;exact⟨rfl,by rw [kg]⟩
     ·rw [h]at hd;cases hd
    rw [k3,kg,ha.w,ha.ρ]
    have hy':(mk j).den c.ρ=y:=by simpa using hy
    rw [hy'];exact h3
   ·exact q2 r hr
 | @deep t ts fl el e z l u us y ys top rf hs h1 h2 h21 h22 h3 _ ih=>
  intro j hmk
  obtain⟨recs,e1,e2,e3,e4,e4',e5⟩:=ih (j+1) (fun i y hy=>by rw [show j+1+i=j+(i+1)from by omega];exact hmk (i+1) y (by simpa using hy))
  have hy:=hmk 0 y rfl
  have hoe:zsB P t el 0 0 (mk j)= .deep e z l.toList 0 0 (mk j):=by
   unfold zsB;rw [if_neg (by rw [h21];simp),h22]
  simp only [zar,h1,h2,hoe]
  refine⟨⟨nx+j,some u,top, .deep e z l.toList 0 0 (mk j)⟩::recs,by simp [e1,Chg.pair],by simp [e2],fun r hr=> ?_, ?_,fun r hr=> ?_,fun c' ha hok=> ?_⟩
  ·rcases List.mem_cons.1 hr with rfl|hr
   ·simp
   ·have:=e3 r hr
    simp only [List.length_cons]
    exact⟨by omega,by omega,this.2.2⟩
  ·simp only [List.map_cons,List.nodup_cons]
   refine⟨fun hm=> ?_,e4⟩
   obtain⟨r,hr,hrt⟩:=List.mem_map.1 hm
   have:=e3 r hr
   omega
  ·rcases List.mem_cons.1 hr with rfl|hr
   ·simp
   ·rw [e4' r hr]
    have:=e3 r hr
    rw [show r.tag-(nx+j)=(r.tag-(nx+(j+1)))+1 from by omega,List.getElem?_cons_succ]
  ·obtain⟨q1,q2⟩:=e5 c' (ha.mono fun r hr=>by simp [hr]) hok
   obtain⟨k1,k2,k3⟩:=ha.new _ (List.mem_cons_self ..) u rfl
   have kg:=ha.G _ (List.mem_cons_self ..)
   have ke:=ha.newE _ (List.mem_cons_self ..) rfl
   simp only at k1 k2 k3 kg ke
   obtain⟨p1,p2,p3,rfl⟩:=h3.head
   refine⟨(SR.own k1 k3 .nil).cons q1,fun r hr=> ?_⟩
   rcases List.mem_cons.1 hr with rfl|hr
   ·refine⟨k1,k2,ke, ?_,by rw [kg]⟩
    have hy':(mk j).den c.ρ=y:=by simpa using hy
    rw [k3,kg,ha.w,ha.ρ,hy',DTL.of_toList];exact h3
   ·exact q2 r hr
 | @rd t ts fl u us y ys f rf hs h1 h3 _ ih=>
  intro j hmk
  obtain⟨recs,e1,e2,e3,e4,e4',e5⟩:=ih (j+1) (fun i y hy=>by rw [show j+1+i=j+(i+1)from by omega];exact hmk (i+1) y (by simpa using hy))
  have hy:=hmk 0 y rfl
  have hfc:zar P nx mk j (t::ts) fl=(.e (mk j)::(zar P nx mk (j+1) ts fl.tail).1,(zar P nx mk (j+1) ts fl.tail).2):=by
   simp only [zar]
   split
   ·rename_i h8 h9;rw [h1 h8]at h9;cases h9
   ·rfl
  rw [hfc]
  refine⟨recs,e1,e2,fun r hr=> ?_,e4,fun r hr=> ?_,fun c' ha hok=> ?_⟩
  ·have:=e3 r hr
   simp only [List.length_cons]
   exact⟨by omega,by omega,this.2.2⟩
  ·rw [e4' r hr]
   have:=e3 r hr
   rw [show r.tag-(nx+j)=(r.tag-(nx+(j+1)))+1 from by omega,List.getElem?_cons_succ]
  ·obtain⟨q1,q2⟩:=e5 c' ha fun b hb=>hok b (by simp [hb])
   have hy':(mk j).den c.ρ=y:=by simpa using hy
   exact⟨(SR.e (f:=f) (by rw [ha.w,ha.ρ,hy'];exact h3) (fun b hb=>hok b (by simp [hb])) .nil).cons q1,q2⟩
theorem zdX {nx:Nat} {mk:Nat→E}: ∀(j:Nat) (ts:List TypeId) (fl:List Bool) (t:Nat) (e:Ent) {gs:Gd} {f:Ent},(t,e)∈(zar P nx mk j ts fl).2→e≠ .gd gs f
 |_, [],_,_,_,_,_,h=>by simp [zar]at h
 |j,u::ts,fl,t,e,gs,f,h=>by
  unfold zar at h
  split at h
  ·rcases List.mem_cons.1 h with h|h
   ·cases h;unfold zsB;split
    ·simp
    ·split<;>simp
   ·exact zdX _ _ _ _ _ h
  ·exact zdX _ _ _ _ _ h
theorem zko {ρ:List AV} {x:E} {ys:List AV} (hx:x.den ρ= .agg ys): ∀i y,ys[i]?=some y→(zgi x true (0+i)).den ρ=y:=by
 intro i y hy
 simp [zgi,E.den,hx,AV.fld,AV.cells,hy]
theorem zns {nx:Nat} {t:TypeId} {fl:List Bool} {x:E} {v:Value} {y:AV} {rf hs:List Nat} (h:zq2 P w' t fl v y rf hs) (hx:x.den c.ρ=y):
  ∃recs:List Chg,(zjh P nx t fl x).2=recs.map Chg.pair∧recs.flatMap Chg.top=hs∧(∀r∈recs,nx≤r.tag∧r.tag<nx+(zav P t).length∧r.new.isSome)∧(recs.map Chg.tag).Nodup∧
   ∀c',Aft c c' w' recs→(∀b∈rf,c'.ok b)→SR c' [(zjh P nx t fl x).1] [v]∧ ∀r∈recs,zls c' r.tag r.ent:=by
 unfold zq2 at h
 unfold zjh
 split at h
 ·rename_i hf
  simp only [hf,if_true]
  obtain⟨us,ys,hg,hc⟩:=h
  split at hg
  ·rename_i hag
   obtain⟨rfl,rfl,hone⟩:=hg
   obtain⟨recs,e1,e2,e3,e4,_,e5⟩:=zdz (c:=c) (nx:=nx) (mk:=zgi x (zaN P t)) hc 0 (by rw [hag];exact zko hx)
   refine⟨recs,e1,e2,fun r hr=>by have:=e3 r hr;exact⟨by omega,by omega,this.2.2⟩,e4,fun c' ha hok=> ?_⟩
   obtain⟨q1,q2⟩:=e5 c' ha hok
   rw [if_pos hag]
   exact⟨.agg hone (by rw [SVL.toList_of];exact q1) .nil,q2⟩
  ·rename_i hag
   obtain⟨rfl,rfl⟩:=hg
   have hag':zaN P t=false:=by simpa using hag
   obtain⟨recs,e1,e2,e3,e4,_,e5⟩:=zdz (c:=c) (nx:=nx) (mk:=zgi x (zaN P t)) hc 0 (by
    intro i z hz
    cases i with
    |zero=>simp at hz;subst hz;simp [zgi,hag',hx]
    |succ i=>simp at hz)
   refine⟨recs,e1,e2,fun r hr=>by have:=e3 r hr;exact⟨by omega,by omega,this.2.2⟩,e4,fun c' ha hok=> ?_⟩
   obtain⟨q1,q2⟩:=e5 c' ha hok
   refine⟨?_,q2⟩
   rw [if_neg hag]
   have hl:=q1.len
   generalize (zar P nx (zgi x (zaN P t)) 0 (zav P t) fl).1=l at q1 hl
   match l,hl with
   | [s],_=>exact q1
 ·rename_i hf
  simp only [hf,if_false,Bool.false_eq_true]
  obtain⟨h1,rfl⟩:=h
  exact⟨[],rfl,rfl,by simp,by simp,fun c' ha hok=>⟨.e (f:=rf) (by rw [ha.w,ha.ρ,hx];exact h1) hok .nil,by simp⟩⟩
theorem zrK {ts:List TypeId} {fl:List Bool} {x:E} {vs:List Value} {ys:List AV} {rf hs:List Nat} (h:zoT P w' ts fl vs ys rf hs): ∀(nx i:Nat),(∀k y,ys[k]?=some y→(E.proj x (i+k)).den c.ρ=y)→
  ∃recs:List Chg,(zg9 P nx ts fl x i).2=recs.map Chg.pair∧recs.flatMap Chg.top=hs∧(∀r∈recs,nx≤r.tag∧r.tag<nx+(ts.flatMap (zav P)).length∧r.new.isSome)∧(recs.map Chg.tag).Nodup∧
   ∀c',Aft c c' w' recs→(∀b∈rf,c'.ok b)→SR c' (zg9 P nx ts fl x i).1 vs∧ ∀r∈recs,zls c' r.tag r.ent:=by
 induction h with
 |nil=>exact fun nx i _=>⟨[],rfl,rfl,by simp,by simp,fun c' _ _=>⟨.nil,by simp⟩⟩
 | @cons t ts fl v vs y ys f h rf hs h1 _ ih=>
  intro nx i hx
  obtain⟨r1,a1,a2,a3,a4,a5⟩:=zns (c:=c) (nx:=nx) (x:= .proj x i) h1 (hx 0 y rfl)
  obtain⟨r2,b1,b2,b3,b4,b5⟩:=ih (nx+(zav P t).length) (i+1) (fun k z hz=>by rw [show i+1+k=i+(k+1)from by omega];exact hx (k+1) z (by simpa using hz))
  simp only [zg9]
  refine⟨r1++r2,by simp [a1,b1],by simp [a2,b2],fun r hr=> ?_, ?_,fun c' ha hok=> ?_⟩
  ·simp only [List.flatMap_cons,List.length_append]
   rcases List.mem_append.1 hr with hr|hr
   ·have:=a3 r hr;exact⟨this.1,by omega,this.2.2⟩
   ·have:=b3 r hr;exact⟨by omega,by omega,this.2.2⟩
  ·rw [List.map_append,List.nodup_append]
   refine⟨a4,b4,fun t1 ht1 t2 ht2 he=> ?_⟩
   obtain⟨q1,hq1,rfl⟩:=List.mem_map.1 ht1
   obtain⟨q2,hq2,rfl⟩:=List.mem_map.1 ht2
   have:=a3 q1 hq1
   have:=b3 q2 hq2
   omega
  ·obtain⟨p1,p2⟩:=a5 c' (ha.mono fun r hr=>by simp [hr]) fun b hb=>hok b (by simp [hb])
   obtain⟨q1,q2⟩:=b5 c' (ha.mono fun r hr=>by simp [hr]) fun b hb=>hok b (by simp [hb])
   refine⟨p1.cons q1,fun r hr=> ?_⟩
   rcases List.mem_append.1 hr with hr|hr
   ·exact p2 r hr
   ·exact q2 r hr
end
end Go.Proofs.YtbmbkgalkfmjdaaGreatDoor
end
section
namespace Go.Proofs.YtbmbkgalkfmjdaaGreatDoor
open Go.RowKit
theorem zi9 {α:Type} {f:α→List Nat}: ∀{l:List α},(l.flatMap f).Nodup→(∀a∈l,(f a).Nodup)∧ ∀(i j:Nat) (a b:α) (x:Nat),l[i]?=some a→l[j]?=some b→x∈f a→x∈f b→i=j
 | [],_=>⟨by simp,by simp⟩
 |a::l,h=>by
  rw [List.flatMap_cons,List.nodup_append]at h
  obtain⟨h1,h2,h3⟩:=h
  obtain⟨k1,k2⟩:=zi9 h2
  refine⟨fun b hb=> ?_,fun i j p q x hi hj hp hq=> ?_⟩
  ·rcases List.mem_cons.1 hb with rfl|hb
   ·exact h1
   ·exact k1 b hb
  ·cases i with
   |zero=>
    cases j with
    |zero=>rfl
    |succ j=>
     simp at hi hj;subst hi
     exact absurd rfl (h3 x hp x (List.mem_flatMap.2 ⟨q,List.mem_of_getElem? hj,hq⟩))
   |succ i=>
    cases j with
    |zero=>
     simp at hi hj;subst hj
     exact absurd rfl (h3 x hq x (List.mem_flatMap.2 ⟨p,List.mem_of_getElem? hi,hp⟩))
    |succ j=>rw [k2 i j p q x (by simpa using hi) (by simpa using hj) hp hq]
theorem zi0 {recs:List Chg} (hn:(recs.map Chg.tag).Nodup) {r:Chg} (hr:r∈recs) (p:Chg→Bool) (hp:p r=true) (hpt: ∀q,p q=true→q.tag=r.tag):recs.find? p=some r:=by
 induction recs with
 |nil=>simp at hr
 |cons q recs ih=>
  simp only [List.map_cons,List.nodup_cons]at hn
  rw [List.find?_cons]
  rcases List.mem_cons.1 hr with rfl|hr
  ·simp [hp]
  ·have:p q=false:=by
    cases hq:p q with
    |false=>rfl
    |true=>exact absurd (List.mem_map.2 ⟨r,hr,(hpt q hq).symm⟩) hn.1
   rw [this];exact ih hn.2 hr
def Cx.chg (c:Cx) (w':World) (recs:List Chg):Cx:=
 {c with w:=w',G:=fun t=>(match recs.find? (fun r=>r.tag==t)with|some r=>⟨r.top, []⟩|none=>c.G t),K:=fun t g=>c.K t g∨ ∃r∈recs,r.tag=t∧r.new.isSome=true∧g=0,H:=fun t g=>(match recs.find? (fun r=>r.tag==t&&r.new.isSome)with|some r=>r.new.getD undef|none=>c.H t g),U:=fun t=>c.U t∨ ∃r∈recs,r.tag=t,E:=fun t=>match recs.find? (fun r=>r.tag==t)with|some r=>if r.new.isSome then 0 else c.E t+1|none=>c.E t}
section
variable {P:Program} {c:Cx} {n:Nat} {sl:Nat→SV} {hp:Nat→Option Ent} {a:Act} {w':World} {recs:List Chg}
theorem Cx.chg_G (hn:(recs.map Chg.tag).Nodup) {r:Chg} (hr:r∈recs):(c.chg w' recs).G r.tag=⟨r.top, []⟩:=by
 simp only [Cx.chg]
 rw [zi0 hn hr (fun q=>q.tag==r.tag) (by simp) (fun q hq=>by simpa using hq)]
theorem Cx.chg_G' {t:Nat} (ht: ∀r∈recs,r.tag≠t):(c.chg w' recs).G t=c.G t:=by
 simp only [Cx.chg]
 have:recs.find? (fun r=>r.tag==t)=none:=by
  rw [List.find?_eq_none]
  intro r hr
  simpa using ht r hr
 rw [this]
theorem Cx.chg_aft (hU: ∀t g,c.K t g→c.U t) (hn:(recs.map Chg.tag).Nodup) (hnew: ∀r∈recs,r.new.isSome=true→ ¬c.U r.tag):Aft c (c.chg w' recs) w' recs:=by
 refine⟨rfl,rfl,fun r hr=>Cx.chg_G hn hr,fun r hr hv hrv=>⟨.inr ⟨r,hr,rfl,by simp [hrv],rfl⟩,fun g hg=> ?_, ?_⟩,fun t g hk=>⟨.inl hk, ?_⟩,fun t ht g hk=> ?_,fun r hr hs=> ?_,fun r hr hs=> ?_⟩
 ·rcases hg with hg|⟨_,_,_,_,rfl⟩
  ·exact absurd (hU _ _ hg) (hnew r hr (by simp [hrv]))
  ·exact Nat.le_refl _
 ·simp only [Cx.chg]
  rw [zi0 hn hr (fun q=>q.tag==r.tag&&q.new.isSome) (by simp [hrv]) (fun q hq=>by simp only [Bool.and_eq_true,beq_iff_eq]at hq;exact hq.1)]
  simp [hrv]
 ·simp only [Cx.chg]
  have:recs.find? (fun r=>r.tag==t&&r.new.isSome)=none:=by
   rw [List.find?_eq_none]
   rintro r hr hh
   simp only [Bool.and_eq_true,beq_iff_eq]at hh
   exact hnew r hr hh.2 (hh.1▸hU t g hk)
  rw [this]
 ·rcases hk with hk|⟨r,hr,rfl,hh,_⟩
  ·exact hk
  ·exact absurd ht (hnew r hr hh)
 ·simp only [Cx.chg]
  rw [zi0 hn hr (fun q=>q.tag==r.tag) (by simp) (fun q hq=>by simpa using hq)]
  simp [hs]
 ·simp only [Cx.chg]
  rw [zi0 hn hr (fun q=>q.tag==r.tag) (by simp) (fun q hq=>by simpa using hq)]
  simp [hs]
theorem Cx.chg_E' {t:Nat} (ht: ∀r∈recs,r.tag≠t):(c.chg w' recs).E t=c.E t:=by
 simp only [Cx.chg]
 have:recs.find? (fun r=>r.tag==t)=none:=by
  rw [List.find?_eq_none]
  intro r hr
  simpa using ht r hr
 rw [this]
theorem Rel.changes (h:Rel c n sl hp a) {hs:List Nat} {gs:Gd} (k:zex c.ρ gs) (hmod:Mod hs c.w w') (hn:(recs.map Chg.tag).Nodup) (hnew: ∀r∈recs,r.new.isSome=true→ ¬c.U r.tag)
  (hhs: ∀b∈hs,∃r∈recs,b∈(c.G r.tag).top) (htops:(recs.flatMap Chg.top).Nodup) (hin: ∀r∈recs,∀b∈r.top,(b∈hs∨c.w.heap.size≤b)∧b<w'.heap.size)
  (hne: ∀r∈recs,∀hs f,r.ent≠ .gd hs f) (hent:znF c (c.chg w' recs)→ ∀r∈recs,zls (c.chg w' recs) r.tag r.ent):
  Rel (c.chg w' recs) n sl (zd6 hp (recs.map fun r=>(r.tag,zew gs r.ent))) a∧znF c (c.chg w' recs):=by
 have aft:=Cx.chg_aft (w':=w') h.usedK hn hnew
 have hsM: ∀b∈hs,c.M b:=fun b hb=>by obtain⟨r,_,hr⟩:=hhs b hb;exact⟨_,hr⟩
 have hown: ∀b∈hs,c.B≤b∨c.Mu b:=fun b hb=>by obtain⟨r,_,hr⟩:=hhs b hb;exact h.gw.allow r.tag b (by simp [GI.own,hr])
 have hkeep:znF c (c.chg w' recs):=by
  refine⟨rfl,rfl,fun b hb hok=>⟨fun⟨t,ht⟩=> ?_,hok.2⟩,fun b hb hok=>hmod.block b hb fun hh=>hok.1 (hsM b hh),aft.K,fun t g hk=> ?_⟩
  by_cases hT: ∃r∈recs,r.tag=t
  ·obtain⟨r,hr,rfl⟩:=hT
   rw [Cx.chg_G hn hr]at ht
   rcases(hin r hr b ht).1 with hh|hh
   ·exact hok.1 (hsM b hh)
   ·omega
  ·rw [Cx.chg_G' fun r hr hh=>hT ⟨r,hr,hh⟩]at ht
   exact hok.1 ⟨t,ht⟩
  ·by_cases hT: ∃r∈recs,r.tag=t
   ·obtain⟨r,hr,rfl⟩:=hT
    have hno:r.new=none:=by
     cases hh:r.new with
     |none=>rfl
     |some v=>exact absurd (h.usedK _ _ hk) (hnew r hr (by simp [hh]))
    rw [aft.oldE r hr hno]
    exact⟨by omega,fun h=>by omega⟩
   ·have hT': ∀r∈recs,r.tag≠t:=fun r hr hh=>hT ⟨r,hr,hh⟩
    rw [Cx.chg_E' hT',Cx.chg_G' hT']
    refine⟨Nat.le_refl _,fun _=>⟨rfl,fun b hb hb2=>hmod.block b hb2 fun hh=> ?_⟩⟩
    obtain⟨r,hr,hb3⟩:=hhs b hh
    exact h.gw.disj t r.tag (fun hh=>hT ⟨r,hr,hh.symm⟩) b (by simp [GI.own,hb]) (by simp [GI.own,hb3])
 have hent:=hent hkeep
 have huniq: ∀r∈recs,∀e',(r.tag,e')∈(recs.map fun r=>(r.tag,zew gs r.ent))→e'=zew gs r.ent:=by
  intro r hr e' he'
  obtain⟨q,hq,hqe⟩:=List.mem_map.1 he'
  simp only [Prod.mk.injEq]at hqe
  obtain⟨h1,rfl⟩:=hqe
  have e1:=Cx.chg_G (c:=c) (w':=w') hn hr
  have:q=r:=by
   have f1:=zi0 hn hr (fun q=>q.tag==r.tag) (by simp) (fun q hq=>by simpa using hq)
   have f2:=zi0 hn hq (fun p=>p.tag==r.tag) (by simp [h1]) (fun p hp=>by rw [h1];simpa using hp)
   rw [f1]at f2;cases f2;rfl
  rw [this]
 refine⟨h.change (fun t=> ∃r∈recs,r.tag=t) hkeep ⟨hmod.os.trans h.base.os,hmod.tape.trans h.base.tape,hmod.output.trans h.base.output,Nat.le_trans h.base.size hmod.size,fun t v hpv=>⟨.inl (h.base.pins t v hpv).1,fun hk=> ?_⟩,fun b hb hmu=> ?_,h.base.pk,h.base.lo⟩
  (fun t ht=>⟨zhG fun e he=> ?_,Cx.chg_G' fun r hr hh=>ht ⟨r,hr,hh⟩,Cx.chg_E' fun r hr hh=>ht ⟨r,hr,hh⟩,fun g hg=> ?_⟩) (fun t ht b hb=>hmod.block b (h.gw.inb t b (by simp [GI.own,hb])) fun hh=> ?_) (fun t ht=> ?_) ⟨fun t=> ?_,fun t u htu b hb hb'=> ?_,fun t b hb=> ?_,fun t b hb=> ?_⟩ (fun t g hk=> ?_) (fun t e he=> ?_),hkeep⟩
 ·have hk':=aft.old t (h.base.pins t v hpv).1 0 hk
  rw [(aft.K t 0 hk').2];exact(h.base.pins t v hpv).2 hk'
 ·refine(hmod.block b (Nat.lt_of_lt_of_le hb h.base.size) fun hh=> ?_).trans (h.base.block b hb hmu)
  rcases hown b hh with h1|h1
  ·exact absurd h1 (Nat.not_le.2 hb)
  ·exact hmu h1
 ·obtain⟨q,hq,hqe⟩:=List.mem_map.1 he
  simp only [Prod.mk.injEq]at hqe
  exact ht ⟨q,hq,hqe.1⟩
 ·rcases hg with hg|⟨r,hr,hrt,_⟩
  ·exact hg
  ·exact absurd ⟨r,hr,hrt⟩ ht
 ·obtain⟨r,hr,hb2⟩:=hhs b hh
  exact h.gw.disj t r.tag (fun hh=>ht ⟨r,hr,hh.symm⟩) b (by simp [GI.own,hb]) (by simp [GI.own,hb2])
 ·obtain⟨r,hr,rfl⟩:=ht
  have hup:=ztv (hp:=hp) (l:=recs.map fun r=>(r.tag,zew gs r.ent)) (List.mem_map.2 ⟨r,hr,rfl⟩) (huniq r hr)
  rw [hup]
  refine⟨fun e' hre=> ?_,fun hno=> ?_⟩
  ·rw [(zi3 k (hne r hr)).1 hre];exact hent r hr
  ·exact absurd ((zi3 k (hne r hr)).2 rfl) (hno r.ent)
 ·by_cases hT: ∃r∈recs,r.tag=t
  ·obtain⟨r,hr,rfl⟩:=hT
   rw [Cx.chg_G hn hr]
   simpa [GI.own]using(zi9 htops).1 r hr
  ·rw [Cx.chg_G' fun r hr hh=>hT ⟨r,hr,hh⟩];exact h.gw.nodup t
 ·by_cases hT: ∃r∈recs,r.tag=t
  ·obtain⟨r,hr,rfl⟩:=hT
   rw [Cx.chg_G hn hr]at hb
   simp only [GI.own,List.append_nil]at hb
   by_cases hV: ∃r∈recs,r.tag=u
   ·obtain⟨q,hq,rfl⟩:=hV
    rw [Cx.chg_G hn hq]at hb'
    simp only [GI.own,List.append_nil]at hb'
    obtain⟨i,hi⟩:=List.getElem?_of_mem hr
    obtain⟨j,hj⟩:=List.getElem?_of_mem hq
    have:=(zi9 htops).2 i j r q b hi hj hb hb'
    subst this
    rw [hi]at hj;cases hj;exact htu rfl
   ·rw [Cx.chg_G' fun r hr hh=>hV ⟨r,hr,hh⟩]at hb'
    rcases(hin r hr b hb).1 with hh|hh
    ·obtain⟨q,hq,hbq⟩:=hhs b hh
     exact h.gw.disj q.tag u (fun hh=>hV ⟨q,hq,hh⟩) b (by simp [GI.own,hbq]) hb'
    ·have:=h.gw.inb u b hb';omega
  ·rw [Cx.chg_G' fun r hr hh=>hT ⟨r,hr,hh⟩]at hb
   by_cases hV: ∃r∈recs,r.tag=u
   ·obtain⟨q,hq,rfl⟩:=hV
    rw [Cx.chg_G hn hq]at hb'
    simp only [GI.own,List.append_nil]at hb'
    rcases(hin q hq b hb').1 with hh|hh
    ·obtain⟨r,hr,hbr⟩:=hhs b hh
     exact h.gw.disj r.tag t (fun hh=>hT ⟨r,hr,hh⟩) b (by simp [GI.own,hbr]) hb
    ·have:=h.gw.inb t b hb;omega
   ·rw [Cx.chg_G' fun r hr hh=>hV ⟨r,hr,hh⟩]at hb'
    exact h.gw.disj t u htu b hb hb'
 ·by_cases hT: ∃r∈recs,r.tag=t
  ·obtain⟨r,hr,rfl⟩:=hT
   rw [Cx.chg_G hn hr]at hb
   simp only [GI.own,List.append_nil]at hb
   rcases(hin r hr b hb).1 with hh|hh
   ·exact hown b hh
   ·exact .inl (Nat.le_trans h.base.size hh)
  ·rw [Cx.chg_G' fun r hr hh=>hT ⟨r,hr,hh⟩]at hb
   exact h.gw.allow t b hb
 ·by_cases hT: ∃r∈recs,r.tag=t
  ·obtain⟨r,hr,rfl⟩:=hT
   rw [Cx.chg_G hn hr]at hb
   simp only [GI.own,List.append_nil]at hb
   exact(hin r hr b hb).2
  ·rw [Cx.chg_G' fun r hr hh=>hT ⟨r,hr,hh⟩]at hb
   exact Nat.lt_of_lt_of_le (h.gw.inb t b hb) hmod.size
 ·rcases hk with hk|⟨r,hr,hrt,_⟩
  ·exact .inl (h.usedK t g hk)
  ·exact .inr ⟨r,hr,hrt⟩
 ·by_cases hT: ∃r∈recs,r.tag=t
  ·exact .inr hT
  ·rw [zhG]at he
   ·exact .inl (h.usedH t e he)
   ·intro e' he'
    obtain⟨q,hq,hqe⟩:=List.mem_map.1 he'
    simp only [Prod.mk.injEq]at hqe
    exact hT ⟨q,hq,hqe.1⟩
end
end Go.Proofs.YtbmbkgalkfmjdaaGreatDoor
end
section
namespace Go.Proofs.YtbmbkgalkfmjdaaGreatDoor
open Go.RowKit
def zFg (P:Program) (w:World) (t:TypeId):PM→Value→AV→List Nat→List Nat→Prop
 | .ro,v,x,rf,hs=>Rd w [v] [x] rf∧hs= []
 | .va own,v,x,rf,hs=>zvx P w t own v x rf hs
 | .mu own,v,x,rf,hs=>zvx P w t own v x rf hs
 | .bx own _,v,x,rf,hs=> ∃(ty:TypeId) (b:Nat) (C:Array Value) (ys:List AV) (h:List Nat),zAb P t=some ty∧v= .pointer (some ⟨b,0,none⟩)∧w.heap[b]?=some (.cells C ty (0,0))∧(∀u∈C.toList,u.oneCell'=true)∧x= .ref (.agg ys)∧
   zbD P w (zav P ty) own C.toList ys rf h∧hs=b::h
inductive zf0 (P:Program) (w:World):List TypeId→List PM→List Bool→List Value→List AV→List Nat→List Nat→List Nat→Prop where
 |nil {ms lo}:zf0 P w [] ms lo [] [] [] [] []
 |cons {t ts ms lo v vs x xs f h rf lf hs}:zFg P w t (ms.headD .ro) v x f h→zf0 P w ts ms.tail lo.tail vs xs rf lf hs→zf0 P w (t::ts) ms lo (v::vs) (x::xs) (f++rf) lf (h++hs)
 |lent {t ts ms lo v vs x xs f rf lf hs}:lo.headD false=true→ms.headD .ro= .ro→Rd w [v] [x] f→zf0 P w ts ms.tail lo.tail vs xs rf lf hs→zf0 P w (t::ts) ms lo (v::vs) (x::xs) rf (f++lf) hs
 |free {ms lo v vs x xs f rf lf hs}:Rd w [v] [x] f→zf0 P w [] ms.tail lo.tail vs xs rf lf hs→zf0 P w [] ms lo (v::vs) (x::xs) (f++rf) lf hs
inductive zlv (P:Program) (c:Cx):List TypeId→List Bool→List Value→List (Option RI)→Prop where
 |nil {fl}:zlv P c [] fl [] []
 |row {t ts fl v vs u g el rs}:fl.headD false=true→zem P t=some el→(zcW P el=true∨zoQ P t=none)→c.K u g→c.H u g=v→(∀g',c.K u g'→g'≤g)→zlv P c ts fl.tail vs rs→zlv P c (t::ts) fl (v::vs) (some (.fl u g el (P.cellsOf el) (zcW P el))::rs)
 |deep {t ts fl v vs u g el e z l ep rs}:fl.headD false=true→zem P t=some el→zcW P el=false→zoQ P t=some (.row e z (DTL.of l))→c.K u g→c.H u g=v→(∀g',c.K u g'→g'≤g)→c.E u=ep→zlv P c ts fl.tail vs rs→zlv P c (t::ts) fl (v::vs) (some (.dp u g e z l ep)::rs)
 |none {t ts fl v vs rs}:(fl.headD false=true→zem P t=none∨ ∃a,v= .slice a 0 0)→zlv P c ts fl.tail vs rs→zlv P c (t::ts) fl (v::vs) (none::rs)
inductive zfj (P:Program) (c:Cx):List TypeId→List PM→List Value→List PA→Prop where
 |nil {ts ms}:zfj P c ts ms [] []
 |ro {ts ms v vs bs}:ms.headD .ro= .ro→zfj P c ts.tail ms.tail vs bs→zfj P c ts ms (v::vs) bs
 |va {ts ms own v vs bs us}:ms.headD .ro= .va own→(∀u∈us,c.U u)→zfj P c ts.tail ms.tail vs bs→zfj P c ts ms (v::vs) (.va us::bs)
 |mu {t ts ms own v vs bs us rs}:ms.headD .ro= .mu own→(if zaN P t then v= .agg us.toArray else us= [v])→zlv P c (zav P t) own us rs→zfj P c ts ms.tail vs bs→zfj P c (t::ts) ms (v::vs) (.mu rs (zaN P t)::bs)
 |bx {t ts ms own own' ty v vs bs T b g olds}:ms.headD .ro= .bx own own'→zAb P t=some ty→v= .pointer (some ⟨b,0,none⟩)→c.K T 0→c.H T 0=v→(∀u∈olds,c.U u)→zfj P c ts ms.tail vs bs→zfj P c (t::ts) ms (v::vs) (.box T g own' ty olds::bs)
section
variable {P:Program} {c:Cx} {hp:Nat→Option Ent} {gs:Gd}
theorem zpv {t el:TypeId} {d:DT} (hel:zem P t=some el) (h:zoQ P t=some d):P.cellsOf el≠0∧(zav P el).length=P.cellsOf el∧ ∃l:List DT,d= .row el (P.cellsOf el) (DTL.of l)∧l.length=P.cellsOf el:=by
 have hu:=zek hel
 unfold zoQ at h
 split at h
 ·cases h
 simp only [dtN,hu]at h
 split at h
 ·cases h
 ·rename_i hh
  simp only [not_or,Decidable.not_not,ne_eq]at hh
  obtain⟨l,hl,rfl⟩:=Option.map_eq_some_iff.1 h
  exact⟨hh.1,hh.2,l,rfl,by rw [mapM_len _ _ hl];exact hh.2⟩
where
 mapM_len {α β:Type} {f:α→Option β}: ∀(l:List α) (l':List β),l.mapM f=some l'→l'.length=l.length
  | [],l',h=>by simp at h;subst h;rfl
  |a::l,l',h=>by
   simp only [List.mapM_cons,Option.bind_eq_bind,Option.bind_eq_some_iff,Option.pure_def,Option.some.injEq]at h
   obtain⟨b,_,bs,hbs,rfl⟩:=h
   simp [mapM_len l bs hbs]
theorem zbD.void {w:World} {t el:TypeId} {ts:List TypeId} {fl:List Bool} {a:Option Addr} {us:List Value} {ys:List AV} {rf hs:List Nat} (h1:fl.headD false=true) (h2:zem P t=some el) (hz:P.cellsOf el≠0) (h:zbD P w ts fl.tail us ys rf hs):zbD P w (t::ts) fl (.slice a 0 0::us) (.sl []::ys) rf ([]++hs):=by
 have hown:zcp w el (P.cellsOf el) (.slice a 0 0) (.sl []) [] []:=⟨[],rfl,by simp,by omega, .inl ⟨rfl,⟨a,rfl⟩,rfl,rfl⟩⟩
 cases hf:zcW P el with
 |true=>exact .own h1 h2 (.inl ⟨hf,rfl⟩) hown h
 |false=>
  cases hd:zoQ P t with
  |none=>exact .own h1 h2 (.inr ⟨hf,hd⟩) hown h
  |some d=>
   obtain⟨_,_,l,rfl,hl⟩:=zpv h2 hd
   exact .deep h1 h2 hf hd (.void (by omega) (by rw [DTL.toList_of];exact hl) .nil) h
theorem zqb {as_ bs:List Value} (h:Value.agg as_.toArray= .agg bs.toArray):as_=bs:=by
 have h1:as_.toArray=bs.toArray:=by injection h
 have:=congrArg Array.toList h1
 simpa using this
theorem zkl (eh:EH c hp) (k:zex c.ρ gs) (hU: ∀t g,c.K t g→c.U t): ∀(ts:List TypeId) {cs:List SV} {fl:List Bool} {rs:List (Option RI)} {us:List Nat} {vs:List Value} {xs:EL} {m:Nat},zcS P hp gs ts cs fl=some (rs,us)→SR c cs vs→zdq hp gs m cs=some xs→m≤zae→
  ∃rf hs,zbD P c.w ts fl vs (xs.den c.ρ) rf hs∧(∀b∈rf,c.see us b)∧hs=(zbY rs).flatMap (fun t=>(c.G t).top)∧zlv P c ts fl vs rs∧ ∀u∈zbY rs,c.U u
 | [], [],fl,rs,us,vs,xs,m,h,hs,hx,hm=>by
  simp [zcS]at h;obtain⟨rfl,rfl⟩:=h
  cases hs
  cases m with
  |zero=>simp [zdq]at hx
  |succ m=>simp [zdq]at hx;subst hx;exact⟨[], [], .nil,by simp,by simp [zbY], .nil,by simp [zbY]⟩
 | [],s::cs,fl,rs,us,vs,xs,m,h,hs,hx,hm=>by simp [zcS]at h
 |t::ts, [],fl,rs,us,vs,xs,m,h,hs,hx,hm=>by simp [zcS]at h
 |t::ts,s::cs,fl,rs,us, [],xs,m,h,hs,hx,hm=>by have:=hs.len;simp at this
 |t::ts,s::cs,fl,rs,us,v::vs,xs,m,h,hs,hx,hm=>by
  obtain⟨j,y,ys,rfl,hy,hys,rfl⟩:=zel hx
  obtain⟨r1,r2⟩:=hs.uncons
  unfold zcS at h
  split at h
  ·cases h
  rename_i rs' us' hrec
  obtain⟨rf,hs',q1,q2,q3,q4,q5⟩:=zkl eh k hU ts hrec r2 hys (by omega)
  split at h
  ·rename_i hf
   split at h
   ·rename_i r hr
    simp only [Option.some.injEq,Prod.mk.injEq]at h
    obtain⟨rfl,rfl⟩:=h
    unfold zto at hr
    split at hr
    ·cases hr
    rename_i el hel
    split at hr
    ·cases hr
    rename_i hz
    have empt: ∀a,v= .slice a 0 0→y.den c.ρ= .sl []→r=none→ ∃rf hs,zbD P c.w (t::ts) fl (v::vs) ((EL.cons y ys).den c.ρ) rf hs∧(∀b∈rf,c.see us' b)∧hs=(zbY (r::rs')).flatMap (fun t=>(c.G t).top)∧zlv P c (t::ts) fl (v::vs) (r::rs')∧ ∀u∈zbY (r::rs'),c.U u:=by
     rintro a rfl hy0 rfl
     refine⟨rf, []++hs', ?_,q2,by simpa [zbY]using q3, .none (fun _=> .inr ⟨a,rfl⟩) q4,by simpa [zbY]using q5⟩
     rw [EL.den,hy0]
     exact zbD.void hf hel (by omega) q1
    split at hr
    ·simp only [Option.some.injEq]at hr;subst hr
     cases r1 with
     |nils _=>exact empt _ rfl (by rw [zgc hy];rfl) rfl
    ·simp only [Option.some.injEq]at hr;subst hr
     cases r1 with
     |emp _=>
      refine empt _ rfl ?_ rfl
      cases j with
      |zero=>simp [ze0]at hy
      |succ j=>simp [ze0]at hy;subst hy;rfl
    ·rename_i u g
     split at hr
     ·rename_i e z g' x d hl
      split at hr
      ·rename_i hh
       obtain⟨rfl,rfl,rfl,hfd⟩:=hh
       simp only [Option.some.injEq]at hr;subst hr
       obtain⟨p1,p2,N,p3,p4,p5,_⟩:=eh u _ (zaR hl k)
       have hfd1:zcW P e=true∨zoQ P t=none:=hfd.imp (·.1) (by rintro⟨_,h⟩;simpa using h)
       have hfd:zcW P e=true∧N= []∨zcW P e=false∧zoQ P t=none:=by
        rcases hfd with⟨h1,h2⟩|⟨h1,h2⟩
        ·exact .inl ⟨h1,(p5 h2).1⟩
        ·exact .inr ⟨h1,by simpa using h2⟩
       have hyx:y=x:=by
        cases j with
        |zero=>simp [ze0]at hy
        |succ j=>simp [ze0,zdF,hl]at hy;exact hy.symm
       subst hyx
       have hv:c.H u g=v:=by
        cases r1 with
        |own _ k2 _=>exact k2
       rw [hv]at p3
       refine⟨N++rf,(c.G u).top++hs',zbD.own hf hel hfd p3 q1,fun b hb=> ?_,by simp [zbY,RI.tag,q3], .row hf hel hfd1 p1 hv p2 q4,fun w hw=> ?_⟩
       ·rcases List.mem_append.1 hb with hb|hb
        ·exact .inl (p4 b hb)
        ·exact q2 b hb
       simp only [zbY,List.filterMap_cons,Option.map_some,RI.tag,List.mem_cons]at hw
       rcases hw with rfl|hw
       ·exact hU _ _ p1
       ·exact q5 w hw
      ·cases hr
     ·rename_i e z l g' ep x hl
      split at hr
      ·rename_i hh
       obtain⟨rfl,hnf,hdt⟩:=hh
       have hdt:=zln hdt
       simp only [Option.some.injEq]at hr;subst hr
       obtain⟨p1,p2,pE,p3,_⟩:=eh u _ (zaR hl k)
       have hyx:y=x:=by
        cases j with
        |zero=>simp [ze0]at hy
        |succ j=>simp [ze0,zdF,hl]at hy;exact hy.symm
       subst hyx
       have hv:c.H u g=v:=by
        cases r1 with
        |own _ k2 _=>exact k2
       rw [hv]at p3
       refine⟨rf,(c.G u).top++hs',zbD.deep hf hel hnf hdt p3 q1,q2,by simp [zbY,RI.tag,q3], .deep hf hel hnf hdt p1 hv p2 pE q4,fun w hw=> ?_⟩
       simp only [zbY,List.filterMap_cons,Option.map_some,RI.tag,List.mem_cons]at hw
       rcases hw with rfl|hw
       ·exact hU _ _ p1
       ·exact q5 w hw
      ·cases hr
     ·cases hr
    ·cases hr
   ·cases h
  ·rename_i hf
   simp only [Option.some.injEq,Prod.mk.injEq]at h
   obtain⟨rfl,rfl⟩:=h
   obtain⟨f,p1,p2⟩:=zgd eh k j hy r1 zae (by omega)
   refine⟨f++rf,hs',zbD.rd (fun hh=>absurd hh hf) p1 q1,fun b hb=> ?_,by simpa [zbY]using q3, .none (fun hh=>absurd hh hf) q4,by simpa [zbY]using q5⟩
   rcases List.mem_append.1 hb with hb|hb
   ·exact(p2 b hb).mono fun t ht=>by simp [ht]
   ·exact(q2 b hb).mono fun t ht=>by simp [ht]
theorem zp6 (eh:EH c hp) (k:zex c.ρ gs) (hU: ∀t g,c.K t g→c.U t) {t:TypeId} {s:SV} {v:Value} {fl:List Bool} {rs:List (Option RI)} {us:List Nat} {x:E} (hs:SR c [s] [v]) (hx:ze0 hp gs zae s=some x) (hg:(zev s).2=zaN P t)
  (h:zcS P hp gs (zav P t) (zev s).1 fl=some (rs,us)):
  ∃rf hs,zvx P c.w t fl v (x.den c.ρ) rf hs∧(∀b∈rf,c.see us b)∧hs=(zbY rs).flatMap (fun t=>(c.G t).top)∧(∃vs',(if zaN P t then v= .agg vs'.toArray else vs'= [v])∧zlv P c (zav P t) fl vs' rs)∧ ∀u∈zbY rs,c.U u:=by
 have single: ∀(s:SV),SR c [s] [v]→ze0 hp gs zae s=some x→zaN P t=false→zcS P hp gs (zav P t) [s] fl=some (rs,us)→ ∃rf hs,zvx P c.w t fl v (x.den c.ρ) rf hs∧(∀b∈rf,c.see us b)∧hs=(zbY rs).flatMap (fun t=>(c.G t).top)∧(∃vs',(if zaN P t then v= .agg vs'.toArray else vs'= [v])∧zlv P c (zav P t) fl vs' rs)∧ ∀u∈zbY rs,c.U u:=by
  intro s hs hx hag h
  obtain⟨t0,ht0⟩: ∃t0,zav P t= [t0]:=by
   cases hh:zav P t with
   |nil=>rw [hh]at h;simp [zcS]at h
   |cons t0 l=>
    cases l with
    |nil=>exact⟨t0,rfl⟩
    |cons t1 l=>rw [hh]at h;simp [zcS]at h
  rw [ht0]at h
  have key: ∃rf hs,zbD P c.w [t0] fl [v] [x.den c.ρ] rf hs∧(∀b∈rf,c.see us b)∧hs=(zbY rs).flatMap (fun t=>(c.G t).top)∧zlv P c [t0] fl [v] rs∧ ∀u∈zbY rs,c.U u:=by
   unfold zcS at h
   simp only [zcS]at h
   split at h
   ·rename_i hf
    split at h
    ·rename_i r hr
     simp only [Option.some.injEq,Prod.mk.injEq]at h
     obtain⟨rfl,rfl⟩:=h
     unfold zto at hr
     split at hr
     ·cases hr
     rename_i el hel
     split at hr
     ·cases hr
     rename_i hz
     have empt: ∀a,v= .slice a 0 0→x.den c.ρ= .sl []→r=none→ ∃rf hs,zbD P c.w [t0] fl [v] [x.den c.ρ] rf hs∧(∀b∈rf,c.see ([]:List Nat) b)∧hs=(zbY [r]).flatMap (fun t=>(c.G t).top)∧zlv P c [t0] fl [v] [r]∧ ∀u∈zbY [r],c.U u:=by
      rintro a rfl hy0 rfl
      refine⟨[], []++ [], ?_,by simp,by simp [zbY], .none (fun _=> .inr ⟨a,rfl⟩) .nil,by simp [zbY]⟩
      rw [hy0]
      exact zbD.void hf hel (by omega) .nil
     split at hr
     ·simp only [Option.some.injEq]at hr;subst hr
      cases hs with
      |nils _=>exact empt _ rfl (by rw [zgc hx];rfl) rfl
     ·simp only [Option.some.injEq]at hr;subst hr
      cases hs with
      |emp _=>
       refine empt _ rfl ?_ rfl
       simp [zae,ze0]at hx;subst hx;rfl
     ·rename_i u g
      split at hr
      ·rename_i e z g' x0 d hl
       split at hr
       ·rename_i hh
        obtain⟨rfl,rfl,rfl,hfd⟩:=hh
        simp only [Option.some.injEq]at hr;subst hr
        obtain⟨p1,p2,N,p3,p4,p5,_⟩:=eh u _ (zaR hl k)
        have hfd1:zcW P e=true∨zoQ P t0=none:=hfd.imp (·.1) (by rintro⟨_,h⟩;simpa using h)
        have hfd:zcW P e=true∧N= []∨zcW P e=false∧zoQ P t0=none:=by
         rcases hfd with⟨h1,h2⟩|⟨h1,h2⟩
         ·exact .inl ⟨h1,(p5 h2).1⟩
         ·exact .inr ⟨h1,by simpa using h2⟩
        have hyx:x=x0:=by
         simp [zae,ze0,zdF,hl]at hx;exact hx.symm
        subst hyx
        have hv:c.H u g=v:=by
         cases hs with
         |own _ k2 _=>exact k2
        rw [hv]at p3
        refine⟨N++ [],(c.G u).top++ [],zbD.own hf hel hfd p3 .nil,fun b hb=> .inl (p4 b (by simpa using hb)),by simp [zbY,RI.tag], .row hf hel hfd1 p1 hv p2 .nil,fun w hw=> ?_⟩
        simp only [zbY,List.filterMap_cons,Option.map_some,RI.tag,List.filterMap_nil,List.mem_cons,List.not_mem_nil,or_false]at hw
        subst hw
        exact hU _ _ p1
       ·cases hr
      ·rename_i e z l g' ep x0 hl
       split at hr
       ·rename_i hh
        obtain⟨rfl,hnf,hdt⟩:=hh
        have hdt:=zln hdt
        simp only [Option.some.injEq]at hr;subst hr
        obtain⟨p1,p2,pE,p3,_⟩:=eh u _ (zaR hl k)
        have hyx:x=x0:=by
         simp [zae,ze0,zdF,hl]at hx;exact hx.symm
        subst hyx
        have hv:c.H u g=v:=by
         cases hs with
         |own _ k2 _=>exact k2
        rw [hv]at p3
        refine⟨[],(c.G u).top++ [],zbD.deep hf hel hnf hdt p3 .nil,by simp,by simp [zbY,RI.tag], .deep hf hel hnf hdt p1 hv p2 pE .nil,fun w hw=> ?_⟩
        simp only [zbY,List.filterMap_cons,Option.map_some,RI.tag,List.filterMap_nil,List.mem_cons,List.not_mem_nil,or_false]at hw
        subst hw
        exact hU _ _ p1
       ·cases hr
      ·cases hr
     ·cases hr
    ·cases h
   ·rename_i hf
    simp only [Option.some.injEq,Prod.mk.injEq]at h
    obtain⟨rfl,rfl⟩:=h
    obtain⟨f,p1,p2⟩:=zgd eh k zae hx hs zae (Nat.le_refl _)
    refine⟨f++ [], [],zbD.rd (fun hh=>absurd hh hf) p1 .nil,fun b hb=> ?_,by simp [zbY], .none (fun hh=>absurd hh hf) .nil,by simp [zbY]⟩
    rw [List.append_nil]at hb
    exact(p2 b hb).mono fun t ht=>by simp [ht]
  obtain⟨rf,hs',q1,q2,q3,q4,q5⟩:=key
  refine⟨rf,hs',⟨[v], [x.den c.ρ], ?_,by rw [ht0];exact q1⟩,q2,q3,⟨[v], ?_,by rw [ht0];exact q4⟩,q5⟩
  ·rw [if_neg (by rw [hag];simp)];exact⟨rfl,rfl⟩
  ·rw [if_neg (by rw [hag];simp)]
 cases s with
 |agg cs=>
  simp only [zev]at hg h
  obtain⟨m,l,hm,hl,rfl⟩:=zm9 hx
  cases hs with
  |agg h9 h1 h8=>
   rename_i as_
   have hm':m≤zae:=by simp only [zae]at hm ⊢;omega
   obtain⟨rf,hs',q1,q2,q3,q4,q5⟩:=zkl (P:=P) eh k hU (zav P t) h h1 hl hm'
   refine⟨rf,hs',⟨as_,l.den c.ρ, ?_,q1⟩,q2,q3,⟨as_, ?_,q4⟩,q5⟩
   ·rw [if_pos hg.symm];exact⟨rfl,rfl,h9⟩
   ·rw [if_pos hg.symm]
 |_=>exact single _ hs hx hg.symm h
end
end Go.Proofs.YtbmbkgalkfmjdaaGreatDoor
end

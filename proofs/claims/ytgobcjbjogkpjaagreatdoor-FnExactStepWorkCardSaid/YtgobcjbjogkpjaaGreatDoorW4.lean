/- Parts of a proof, joined: VX, WB, WC, WD, WE, WF, WG, WH, WI, WJ, WK, WL, WM, WN, WO. -/
import Derived.Test.YtgobcjbjogkpjaaGreatDoorW3
import Derived.Orders
import Derived.Lib.SliceRun
import Derived.Laws.Slices
import Derived.Laws.MakeOwn
import Derived.Laws.StructEq
set_option linter.unusedVariables false
set_option linter.unusedSimpArgs false
section
namespace Go.Proofs.YtgobcjbjogkpjaaGreatDoor
open Go.RowKit
section
variable {P:Program} {c:Cx} {n nx:Nat} {sl sl0:Nat→SV} {hp hp0:Nat→Option Ent} {a:Act} {o:Oper} {gs:Gd} {e:Eff} {sg:SgT} {nv:Nat}
def Cx.gh (c:Cx) (w':World) (t:Nat) (O:List Nat):Cx:={c with w:=w',G:=fun u=>if u=t then⟨(c.G t).top,O⟩else c.G u,E:=fun u=>if u=t then c.E u+1 else c.E u}
theorem Rel.j9 (h:Rel c n sl hp a) {t:Nat} {e0:Ent} {b:Nat} {w':World} {O:List Nat} (hres:Res c.ρ (hp t) e0) (htop:b∈(c.G t).top) (hO:O= []∨O=(c.G t).O) (hm:Mod [b] c.w w') (hsz:w'.heap.size=c.w.heap.size) (e1:Ent) (hne: ∀hs f,e1≠ .gd hs f)
  (he:zpB c (c.gh w' t O)→znH (c.gh w' t O) t e1):
  Rel (c.gh w' t O) n sl (zfe hp [(t,e1)]) a:=by
 have hown:b∈(c.G t).own:=by simp [GI.own,htop]
 have hG: ∀u,(c.gh w' t O).G u=if u=t then⟨(c.G t).top,O⟩else c.G u:=fun u=>rfl
 have htops: ∀u,((c.gh w' t O).G u).top=(c.G u).top:=by
  intro u;rw [hG];split
  ·rename_i hu;rw [hu]
  ·rfl
 have hsub: ∀u,∀q∈((c.gh w' t O).G u).own,q∈(c.G u).own:=by
  intro u q hq
  rw [hG]at hq
  split at hq
  ·rename_i hu;subst hu
   simp only [GI.own,yqma]at hq ⊢
   rcases hq with hq|hq
   ·exact .inl hq
   ·rcases hO with rfl|rfl
    ·simp at hq
    ·exact .inr hq
  ·exact hq
 have hkeep:zpB c (c.gh w' t O):=by
  refine⟨rfl,rfl,fun q _ hq=>⟨fun⟨u,hu⟩=>hq.1 ⟨u,by rw [htops]at hu;exact hu⟩,hq.2⟩,fun q hq hok=>hm.block q hq ?_,fun u g hu=>⟨hu,rfl⟩,fun u g hu=> ?_⟩
  ·simp only [List.mem_singleton]
   rintro rfl
   exact hok.1 ⟨t,htop⟩
  ·by_cases hut:u=t
   ·have e1:(c.gh w' t O).E u=c.E u+1:=by simp only [Cx.gh,if_pos hut]
    exact⟨by omega,fun h=>by omega⟩
   ·have e1:(c.gh w' t O).E u=c.E u:=by simp only [Cx.gh,if_neg hut]
    have e2:(c.gh w' t O).G u=c.G u:=by simp only [Cx.gh,if_neg hut]
    rw [e1]
    refine⟨Nat.le_refl _,fun _=>⟨e2,fun q hq hq2=>hm.block q hq2 ?_⟩⟩
    simp only [List.mem_singleton]
    rintro rfl
    exact h.gw.cr t u (Ne.symm hut) q hown (by simp [GI.own,hq])
 have hup: ∀u,zfe hp [(t,e1)] u=if u=t then some e1 else hp u:=fun u=>rfl
 refine h.change (fun u=>u=t) hkeep ⟨hm.os.trans h.base.os,hm.tape.trans h.base.tape,hm.output.trans h.base.output,Nat.le_trans h.base.size hm.size,h.base.pins,fun q hq hmu=> ?_,h.base.pk,h.base.lo⟩
  (fun u hu=>⟨by rw [hup,if_neg hu],by rw [hG,if_neg hu],by simp [Cx.gh,hu],fun g hg=>hg⟩) (fun u hu q hq=>hm.block q (h.gw.inb u q (by simp [GI.own,hq])) ?_) (fun u hu=> ?_) ⟨fun u=> ?_,fun u v huv q hq hq'=>h.gw.cr u v huv q (hsub u q hq) (hsub v q hq'),fun u q hq=>h.gw.allow u q (hsub u q hq),fun u q hq=> ?_⟩ h.ca (fun u f hf=> ?_)
 ·refine(hm.block q (Nat.lt_of_lt_of_le hq h.base.size) ?_).trans (h.base.block q hq hmu)
  simp only [List.mem_singleton]
  rintro rfl
  rcases h.gw.allow t q hown with hh|hh
  ·exact absurd hh (Nat.not_le.2 hq)
  ·exact hmu hh
 ·simp only [List.mem_singleton]
  rintro rfl
  exact h.gw.cr t u (Ne.symm hu) q hown (by simp [GI.own,hq])
 ·subst hu
  rw [hup,if_pos rfl]
  refine⟨fun e' hr=> ?_,fun hn=> ?_⟩
  ·cases e1<;>first
    |(simp only [Res]at hr;subst hr;exact he hkeep)
    |exact absurd rfl (hne _ _)
  ·cases e1<;>first
    |exact absurd rfl (hne _ _)
    |exact absurd rfl (hn _)
 ·rw [hG]
  split
  ·rename_i hu;subst hu
   have h0:=h.gw.nodup u
   simp only [GI.own]at h0 ⊢
   rcases hO with rfl|rfl
   ·rw [List.append_nil];exact(List.nodup_append.1 h0).1
   ·exact h0
  ·exact h.gw.nodup u
 ·show q<w'.heap.size
  rw [hsz];exact h.gw.inb u q (hsub u q hq)
 ·rw [hup]at hf
  split at hf
  ·rename_i hu;subst hu
   cases hh:hp u with
   |none=>rw [hh]at hres;exact hres.elim
   |some e9=>exact h.ct u e9 hh
  ·exact h.ct u f hf
theorem zke {α:Type} (L vs:List α) (p m:Nat) (h:p+vs.length≤m) (hm:m≤L.length):(setVs L p vs).take m=setVs (L.take m) p vs:=by
 apply List.ext_getElem?
 intro j
 have hl:(L.take m).length=m:=by rw [List.length_take];omega
 rw [List.getElem?_take,zlz (L.take m) vs p (by omega) j,zlz L vs p (by omega) j,List.getElem?_take]
 by_cases h1:p≤j∧j<p+vs.length
 ·rw [if_pos (by omega),if_pos h1,if_pos h1]
 ·rw [if_neg h1,if_neg h1]
theorem Rd.setVs {w:World} {L V:List Value} {X Y:List AV} {N f:List Nat} {p:Nat} (h:Rd w L X N) (k:Rd w V Y f) (hp:p+V.length≤L.length):
  ∃n1 n2 n3,N=n1++n2++n3∧Rd w (Go.Proofs.YtgobcjbjogkpjaaGreatDoor.setVs L p V) (Go.Proofs.YtgobcjbjogkpjaaGreatDoor.setVs X p Y) (n1++f++n3)∧Rd w ((L.drop p).take V.length) ((X.drop p).take V.length) n2:=by
 have hl:=h.len
 have hk:=k.len
 have e1:L=L.take p++((L.drop p).take V.length++L.drop (p+V.length)):=by
  rw [←List.drop_drop,List.take_append_drop,List.take_append_drop]
 have e2:X=X.take p++((X.drop p).take V.length++X.drop (p+V.length)):=by
  rw [←List.drop_drop,List.take_append_drop,List.take_append_drop]
 have h':=h
 rw [e1,e2]at h'
 obtain⟨n1,m,rfl,g1,g2⟩:=Rd.fb (by simp;omega) h'
 obtain⟨n2,n3,rfl,g3,g4⟩:=Rd.fb (by simp;omega) g2
 refine⟨n1,n2,n3,by simp, ?_,g3⟩
 unfold Go.Proofs.YtgobcjbjogkpjaaGreatDoor.setVs
 rw [←hk]
 exact(g1.app k).app g4
theorem zpn {sz:Nat}: ∀(ys:List AV) (k:Nat) (z y:AV) (o:Nat) (vc:List AV),(∀y∈ys,y.cells.length=sz)→ys[k]?=some y→o+vc.length≤sz→z.cells=setVs y.cells o vc→zaB (ys.set k z)=setVs (zaB ys) (k*sz+o) vc
 | [],k,z,y,o,vc,_,h,_,_=>by simp at h
 |q::ys,0,z,y,o,vc,hs,h,ho,hz=>by
  simp at h;subst h
  have hq:=hs q (by simp)
  simp only [zaB,List.set_cons_zero,List.flatMap_cons,Nat.zero_mul,Nat.zero_add,hz]
  unfold setVs
  rw [List.take_append_of_le_length (by omega),List.drop_append_of_le_length (by omega)]
  simp
 |q::ys,k+1,z,y,o,vc,hs,h,ho,hz=>by
  have hq:=hs q (by simp)
  have ih:=zpn ys k z y o vc (fun u hu=>hs u (by simp [hu])) (by simpa using h) ho hz
  simp only [zaB,List.set_cons_succ,List.flatMap_cons]at ih ⊢
  rw [ih]
  unfold setVs
  have e0:(k+1)*sz+o=q.cells.length+(k*sz+o):=by rw [hq,Nat.add_mul];omega
  rw [e0,List.take_length_add_append,Nat.add_assoc (q.cells.length),List.drop_length_add_append]
  simp
theorem zpD {y x:AV} {k:Nat} {g:Bool} (hx:(∀cs,x≠ .agg cs)∨g=true) (hy:g=false→y.cells.length=1∧k=0∧x.cells= [x]):(y.db k x g).cells=setVs y.cells k x.cells:=by
 cases g with
 |true=>simp [AV.db,AV.cells,setVs]
 |false=>
  obtain⟨h1,h2,h3⟩:=hy rfl
  subst h2
  simp only [AV.db,h3,setVs]
  rw [if_neg (by simp)]
  rw [h3]
  simp only [List.take_zero,List.nil_append,yqlc,List.length_nil,Nat.zero_add]
  rw [List.drop_eq_nil_of_le (by omega)]
  simp
theorem zvF (h:Pre P c n nx sl hp a sl0 hp0 o gs) {t:TypeId} {x y:Operand} (ho:o.op= .store t x y) {b g:Nat} {ix:E} {sz k:Nat} {s:SV} (hrow: ∃e z g c d,znP hp0 gs b=some (.row e z g c d)) (hx:zaj sl0 gs x=some (.cw b g ix sz k)) (hy:zaj sl0 gs y=some s)
  (he:zkZ P hp0 gs t (.cw b g ix sz k) s=some e) (hc: ∀q∈e.bu,Cn.den c.ρ q):zbP P o c n nx sl hp gs a e:=by
 have r1:=h.cz hx (by simp [ho,Op.operands])
 have r2:=h.cz hy (by simp [ho,Op.operands])
 simp only [zkZ]at he
 split at he
 ·rename_i el sz' g' c0 d hl
  split at he
  ·rename_i hh
   obtain⟨rfl,rfl,rfl,hty,hle,hagE,hagT⟩:=hh
   split at he
   ·rename_i xe fz dx ck htk
    split at he
    ·cases he
    rename_i hnt
    simp only [yqsi]at he;subst he
    have hnt: ∀f,(b,f)∉fz:=fun f hf=>hnt (by simp only [List.contains_eq_mem,decide_eq_true_eq];exact List.mem_map.2 ⟨_,hf,rfl⟩)
    obtain⟨f,q1,q2,⟨ts,q3⟩,q5⟩:=zrU h.rel h.hp h.gs r2 htk (fun q hq=>hc q (by simp [hq]))
    obtain⟨q3,q4⟩:=q3
    have hres:=zl9 h.hp (za2 hl h.gs)
    have hrel1:=h.rel.freeze h.hp h.gs q3
    have hres1:Res (c.bw (fz.map (·.1))).ρ (zfe hp fz b) (.row el sz g c0 d):=by rw [zkb hnt];exact hres
    obtain⟨e1,e2,N,e3,e4,e5,e6⟩:=hrel1.ents b _ hres1
    obtain⟨o1,o2,o3,o4⟩:=zrQ (P:=P) q1 hagT q5
    generalize hv:a.eval x=v at r1
    cases r1 with
    |cw k1 k2 k3 k4 k5 _=>
     rename_i m len cap kk kv k6
     obtain⟨xs,p1,p2,p3,pcase⟩:=e3
     have p1':c0.den c.ρ= .sl xs:=p1
     rcases pcase with⟨_,⟨_,pv⟩,_⟩|⟨g9,cap9,C,pv,p4,p5,p6,p7,p8,p9,p10⟩
     ·exfalso
      have:c.H b g=_:=pv
      rw [k2]at this;cases this;omega
     ·have pv':c.H b g= .slice (some ⟨g9,0,none⟩) xs.length cap9:=pv
      rw [k2]at pv'
      simp only [Value.slice.injEq,yqsi,Addr.mk.injEq,and_true]at pv'
      obtain⟨rfl,rfl,rfl⟩:=pv'
      have hkl:kv.toNat<xs.length:=by omega
      have hnth:=zqY hkl
      generalize hyk:(AV.sl xs).nth kv.toNat=yk at hnth
      have hykl:=p2 yk (List.mem_of_getElem? hnth)
      have hvl:(a.eval y).cells.toList.length=P.cellsOf t:=by simpa using o4
      have hmul:(kv.toNat+1)*sz≤xs.length*sz:=Nat.mul_le_mul_right _ (by omega)
      have hCl:C.toList.length=cap*sz:=by simpa using p7
      have hmul2:xs.length*sz≤cap*sz:=Nat.mul_le_mul_right _ p4
      rw [Nat.add_mul]at hmul
      have p6':c.w.heap[m]?=some (.cells C el (0,0)):=p6
      obtain⟨m1,m2,m3⟩:=ziO (vs:=(a.eval y).cells.toList) p6' (show(kv.toNat*sz+k)+_≤C.size by rw [hvl,p7];omega)
      have hlC:(C.toList.take (xs.length*sz)).length=xs.length*sz:=by rw [List.length_take,hCl];omega
      obtain⟨n1,n2,n3,hN,s1,s2⟩:=Rd.setVs (p:=kv.toNat*sz+k) p10 o1 (by rw [hlC,hvl];omega)
      have hkeepw: ∀z,z<c.w.heap.size→(c.bw (fz.map (·.1))).ok z→(za5 c.w m (kv.toNat*sz+k) (a.eval y).cells.toList).heap[z]?=c.w.heap[z]?:=by
       intro z hz hok
       refine m1.block z hz ?_
       simp only [List.mem_singleton]
       rintro rfl
       exact hok.1 ⟨b,by rw [p8];simp⟩
      have hflat:(d&&dx)=true→n2= []∧f= []:=by
       intro hdd
       have hcf:Cn.den c.ρ (.flat (.fld (.idx c0 ix) k (P.cellsOf t) (zaX P t)) (P.cellsOf t) (zaX P t)):=hc _ (by simp [hdd])
       obtain⟨f1,f2,f3,f4⟩:=hcf
       simp only [yqba]at hdd
       refine⟨?_,q2 hdd.2⟩
       have hpiece:((zaB xs).drop (kv.toNat*sz+k)).take (a.eval y).cells.toList.length=(yk.cells.drop k).take (P.cellsOf t):=by
        rw [hvl];exact zmZ xs p2 _ _ hnth k (P.cellsOf t) hle
       rw [hpiece]at s2
       have hden:(E.fld (.idx c0 ix) k (P.cellsOf t) (zaX P t)).den c.ρ=yk.fld k (P.cellsOf t) (zaX P t):=by
        simp only [E.den,p1',k3,AV.idx,hyk]
       rw [hden]at f2
       refine zhs s2 ?_
       cases hg:zaX P t with
       |true=>
        rw [hg]at f2
        simpa [AV.fld,AV.cells]using f2
       |false=>
        have h1:P.cellsOf t=1:=by rcases hagT with h'|h';rw [hg]at h';cases h';exact h'
        rw [hden]at f4
        have f4:=f4 hg
        rw [hg]at f4
        have hlt:k<yk.cells.length:=by omega
        rw [h1,List.drop_eq_getElem_cons hlt,List.take_succ_cons,List.take_zero]
        simp only [List.mem_singleton,forall_eq]
        simpa [AV.fld,hlt]using f4
      have hz:(yk.db k (xe.den c.ρ) (zaX P el)).cells=setVs yk.cells k (xe.den c.ρ).cells:=by
       refine zpD ?_ (fun hg=> ?_)
       ·cases hg:zaX P el with
        |true=>exact .inr rfl
        |false=>
         left
         rcases hagE with h'|⟨_,h'⟩
         ·rw [hg]at h';cases h'
         ·have h':zaX P t=false:=by simpa using h'
          rw [h']at q5
          exact fun cs=>(q5.1 cs)
       ·rcases hagE with h'|⟨h1,h'⟩
        ·rw [hg]at h';cases h'
        ·have h':zaX P t=false:=by simpa using h'
         rw [h']at q5
         have hct:P.cellsOf t=1:=by rcases hagT with h2|h2;rw [h']at h2;cases h2;exact h2
         refine⟨by omega,by omega, ?_⟩
         cases hxe:xe.den c.ρ<;>first|rfl|exact absurd hxe (q5.1 _)
      have hflatC:zaB (xs.set kv.toNat (yk.db k (xe.den c.ρ) (zaX P el)))=setVs (zaB xs) (kv.toNat*sz+k) (xe.den c.ρ).cells:=
       zpn xs _ _ yk k _ p2 hnth (by rw [o3];exact hle) hz
      have hfin:=hrel1.j9 (t:=b) (b:=m) (w':=za5 c.w m (kv.toNat*sz+k) (a.eval y).cells.toList) (O:=if(d&&dx)=true then((c.bw (fz.map (·.1))).G b).O else []) hres1 (by rw [p8];simp) (by split;exact .inr rfl;exact .inl rfl) m1 m3
       (.row el sz g (.set c0 ix (.put (.idx c0 ix) k xe (zaX P el))) (d&&dx)) (by intros;simp) (fun hkp=>by
        have hNok: ∀z∈n1++f++n3,(c.bw (fz.map (·.1))).ok z:=by
         intro z hz
         simp only [yqma]at hz
         rcases hz with(hz|hz)|hz
         ·exact e4 z (by rw [hN];simp [hz])
         ·exact q4 z hz
         ·exact e4 z (by rw [hN];simp [hz])
        have hNin: ∀z∈n1++f++n3,z<c.w.heap.size:=s1.inb
        refine⟨e1,e2,n1++f++n3,⟨xs.set kv.toNat (yk.db k (xe.den c.ρ) (zaX P el)), ?_,fun z hzm=> ?_,p3, .inr ⟨m,cap,_, ?_,by simpa using p4,p5,m2, ?_, ?_, ?_, ?_⟩⟩,fun z hz=>hkp.ok z (hNin z hz) (hNok z hz),fun hdd=> ?_,fun hdd=> ?_⟩
        ·show AV.cy (c0.den c.ρ) (ix.den c.ρ) (((c0.den c.ρ).idx (ix.den c.ρ)).db k (xe.den c.ρ) (zaX P el))=_
         rw [p1',k3];simp only [AV.idx,hyk,AV.cy]
        ·rcases List.mem_or_eq_of_mem_set hzm with hzm|rfl
         ·exact p2 z hzm
         ·rw [hz,zlo _ _ _ (by rw [o3,hykl];exact hle)];exact hykl
        ·rw [List.length_set];exact k2
        ·rw [List.size_toArray,zlo _ _ _ (by rw [hvl,hCl];omega),Array.length_toList];exact p7
        ·simpa [Cx.gh]using p8
        ·simp only [List.length_set,List.toList_toArray]
         rw [zke _ _ _ _ (by rw [hvl];omega) (by rw [hCl];omega)]
         intro u hu
         unfold setVs at hu
         simp only [yqma]at hu
         rcases hu with(hu|hu)|hu
         ·exact p9 u (List.mem_of_mem_take hu)
         ·exact o2 u hu
         ·exact p9 u (List.mem_of_mem_drop hu)
        ·simp only [List.length_set,List.toList_toArray]
         rw [zke _ _ _ _ (by rw [hvl];omega) (by rw [hCl];omega),hflatC]
         exact s1.frame fun z hz=>hkeepw z (hNin z hz) (hNok z hz)
        ·obtain⟨z1,z2⟩:=hflat hdd
         have hd:d=true:=by simp only [yqba]at hdd;exact hdd.1
         obtain⟨u1,u2⟩:=e5 hd
         have hNN:n1++f++n3=N:=by rw [hN,z1,z2]
         rw [hNN]
         refine⟨u1.frame fun z hz=>hkeepw z (p10.inb z hz) (e4 z hz), ?_⟩
         simp only [Cx.gh,if_true,hdd];exact u2
        ·simp [Cx.gh,hdd])
      intro next Q hk
      unfold Oper.wp
      have hr:(execOp a.eval o).run P c.w= .ok .skip (za5 c.w m (kv.toNat*sz+k) (a.eval y).cells.toList):=by
       have:=zoe (P:=P) (t:=t) (v:=a.eval y) (off:=kv.toNat*sz+k) p6' hty o4 (by rw [o4,p7];omega) o2
       simp [execOp,ho,hv,this]
      rw [hr,Oper.upon_skip]
      refine hk _ ((c.bw (fz.map (·.1))).gh (za5 c.w m (kv.toNat*sz+k) (a.eval y).cells.toList) b (if(d&&dx)=true then((c.bw (fz.map (·.1))).G b).O else [])) ⟨rfl,rfl,rfl,rfl,fun t ht=> .inl ht⟩ ?_
      have:=hfin.put (v:=Go.undef) ((SR.undef .nil).mkGd []) o.dst
      rw [zl3];exact this
   ·cases he
  ·cases he
 all_goals (rename_i hl;obtain⟨_,_,_,_,_,hl'⟩:=hrow;first|(rw [hl']at hl;cases hl;done)|exact absurd hl' (hl _ _ _ _ _)|cases he)
end
def znQ (a:Act) (o:Oper):Bool:=match o.op with| .binOp _ _ x _ _=>(match a.eval x with| .slice none _ _=>true|_=>false)|_=>false
section
variable (P:Program) (sg:SgT) (Rt:Nat→List AV→AV→Prop)
def zGH:Prop:= ∀(c:Cx) (n nx:Nat) (sl:Nat→SV) (hp:Nat→Option Ent) (a:Act) (sl0:Nat→SV) (hp0:Nat→Option Ent) (o:Oper) (gs:Gd) (e:Eff) (nv:Nat),Pre P c n nx sl hp a sl0 hp0 o gs→ ¬c.U (nx+999)→zo7 P sg sl0 hp0 nv nx gs o=some e→
 (∀q∈e.bu,q.den c.ρ)→(∀cl,e.call=some cl→ ∃r,c.ρ[nv]?=some r∧zly Rt cl.fn ((EL.of cl.args).den c.ρ) c.ρ r)→(∀x,e.cc=some x→c.ρ[nv]?=some (.bool (znQ a o)))→zbP P o c n nx sl hp gs a e
def zBJ:Prop:= ∀(c:Cx) (n nx:Nat) (sl:Nat→SV) (hp:Nat→Option Ent) (a:Act) (sl0:Nat→SV) (hp0:Nat→Option Ent) (o:Oper) (gs:Gd) (e:Eff) (nv:Nat) (x:E),Pre P c n nx sl hp a sl0 hp0 o gs→zo7 P sg sl0 hp0 nv nx gs o=some e→e.cc=some x→znQ a o=true→x.den c.ρ= .sl []
end
theorem zva {hp:Nat→Option Ent} (l:List (Nat × Ent)) (t:Nat):(zfe hp l t=hp t∧ ∀e,(t,e)∉l)∨ ∃e,(t,e)∈l∧zfe hp l t=some e:=by
 induction l generalizing hp with
 |nil=>exact .inl ⟨rfl,by simp⟩
 |cons p l ih=>
  obtain⟨u,f⟩:=p
  rcases ih (hp:=fun v=>if v=u then some f else hp v)with⟨h1,h2⟩|⟨e,h1,h2⟩
  ·by_cases ht:t=u
   ·subst ht
    refine .inr ⟨f,by simp, ?_⟩
    have:zfe hp ((t,f)::l) t=zfe (fun v=>if v=t then some f else hp v) l t:=rfl
    rw [this,h1];simp
   ·refine .inl ⟨?_,fun e he=> ?_⟩
    ·have:zfe hp ((u,f)::l) t=zfe (fun v=>if v=u then some f else hp v) l t:=rfl
     rw [this,h1,if_neg ht]
    ·rcases yqmc.1 he with he|he
     ·cases he;exact ht rfl
     ·exact h2 e he
  ·exact .inr ⟨e,by simp [h1],h2⟩
section
variable {P:Program} {sg:SgT} {Rt:Nat→List AV→AV→Prop} {c:Cx} {n nx:Nat} {sl:Nat→SV} {hp:Nat→Option Ent} {a:Act} {ops:Array Oper} {o:Oper} {gs:Gd} {e:Eff}
theorem Rel.skip (h:Rel c n sl hp a) (hg: ¬zfS c.ρ gs) {l:List (Nat × Ent)} (hl: ∀t x,(t,x)∈l→nx≤t∧t<nx+zan∧ ∃hs y,x= .gd hs y∧zvM gs hs=true) (hnew: ∀t,nx≤t→t<nx+zan→ ¬c.U t) (s:SV) (d:Option Nat):
  Rel {c with U:=fun t=>c.U t∨(nx≤t∧t<nx+zan)} n (zmg n sl d (mkGd gs s)) (zfe hp l) (a.put d undef):=by
 have hs:SR {c with U:=fun t=>c.U t∨(nx≤t∧t<nx+zan)} [mkGd gs s] [undef]:=by
  cases gs with
  |nil=>exact absurd (zcA _) hg
  |cons g gs=>exact .gd (fun hh=>absurd hh hg) (fun _=>rfl) .nil
 refine Rel.put ?_ hs d
 refine h.change (fun t=> ∃x,(t,x)∈l) ⟨rfl,rfl,fun _ _ hb=>hb,fun _ _ _=>rfl,fun _ _ hk=>⟨hk,rfl⟩,fun _ _ _=>⟨Nat.le_refl _,fun _=>⟨rfl,fun _ _ _=>rfl⟩⟩⟩ ⟨h.base.os,h.base.tape,h.base.output,h.base.size,fun t v hp=>⟨.inl (h.base.pins t v hp).1,(h.base.pins t v hp).2⟩,h.base.block,h.base.pk,h.base.lo⟩ (fun t ht=> ?_) (fun _ _ _ _=>rfl) (fun t ht=> ?_) ⟨h.gw.nodup,h.gw.cr,h.gw.allow,h.gw.inb⟩ (fun t g hk=> .inl (h.ca t g hk)) (fun t x hx=> ?_)
 ·exact⟨zkb fun x hx=>ht ⟨x,hx⟩,rfl,rfl,fun g hk=>hk⟩
 ·obtain⟨x,hx⟩:=ht
  rcases zva (hp:=hp) l t with⟨_,h2⟩|⟨x',h1,h2⟩
  ·exact absurd hx (h2 x)
  ·obtain⟨q1,q2,hs,y,rfl,hsub⟩:=hl t x' h1
   have hno: ∀e',¬Res c.ρ (zfe hp l t) e':=by
    rw [h2]
    exact fun e' hr=>hg (zrG hsub hr.1)
   refine⟨fun e' hr=>absurd hr (hno e'),fun _=>h.off t fun e' hr=> ?_⟩
   cases hh:hp t with
   |none=>rw [hh]at hr;exact hr.elim
   |some e9=>exact hnew t q1 q2 (h.ct t e9 hh)
 ·rcases zva (hp:=hp) l t with⟨h1,_⟩|⟨x',h1,_⟩
  ·rw [h1]at hx;exact .inl (h.ct t x hx)
  ·obtain⟨q1,q2,_⟩:=hl t x' h1
   exact .inr ⟨q1,q2⟩
def GOK (ρ:List AV) (ops:Array Oper) (o:Oper) (a:Act):Option Gd→Prop
 |none=>Region.wanted o (yielded ops a.tmps)=false
 |some gs=>(zfS ρ gs→Region.wanted o (yielded ops a.tmps)=true)∧(¬zfS ρ gs→Region.wanted o (yielded ops a.tmps)=false)
theorem zs7 {σ:St} {r:Option Gd} (hg:zlY σ ops o=some r) (hs: ∀j want d,o.guard=some (j,want)→(ops[j]?).bind (·.dst)=some d→SR c [zaR σ d] [a.tmps.getD d undef]):GOK c.ρ ops o a r:=by
 unfold zlY at hg
 cases hgu:o.guard with
 |none=>
  rw [hgu]at hg
  simp only [yqsi]at hg;subst hg
  exact⟨fun _=>by simp [Region.wanted,hgu],fun hn=>absurd (zcA _) hn⟩
 |some jw=>
  obtain⟨j,want⟩:=jw
  rw [hgu]at hg
  simp only at hg
  cases hd:(ops[j]?).bind (·.dst)with
  |none=>
   rw [hd]at hg
   simp only [yqsi]at hg;subst hg
   simp [GOK,Region.wanted,hgu,yielded,hd]
  |some d=>
   rw [hd]at hg
   simp only at hg
   have hr:=hs j want d hgu hd
   have hw: ∀v,a.tmps.getD d undef=v→Region.wanted o (yielded ops a.tmps)=(match v with| .bool b=>b==want|_=>false):=by
    intro v hv
    simp only [Region.wanted,hgu,yielded,hd,yqob]
    rw [Array.getD_eq_getD_getElem?]at hv
    cases hq:a.tmps[d]? with
    |none=>rw [hq]at hv;simp at hv;subst hv;simp [undef]
    |some u=>rw [hq]at hv;simp at hv;subst hv;cases u<;>simp
   generalize a.tmps.getD d undef=v at hr hw
   have hw:=hw v rfl
   have hund:v=undef→Region.wanted o (yielded ops a.tmps)=false:=by
    rintro rfl;rw [hw];simp [undef]
   have hread: ∀x f,Rd c.w [v] [x] f→(x= .bool want→Region.wanted o (yielded ops a.tmps)=true)∧(x≠ .bool want→Region.wanted o (yielded ops a.tmps)=false):=by
    intro x f hx
    refine⟨fun h=> ?_,fun h=> ?_⟩
    ·rw [hw,zim hx h];simp
    ·rw [hw]
     cases v<;>simp only
     rename_i b
     cases hx with
     |bool _=>simpa using fun hh=>h (by rw [hh])
   split at hg
   ·rename_i b hsl
    rw [hsl]at hr
    cases hr with
    |e h1 _ _=>
     simp only [yqsi]at hg;subst hg
     obtain⟨q1,q2⟩:=hread _ _ h1
     simp only [E.den,AV.bool.injEq]at q1 q2
     split
     ·rename_i hb;simp only [beq_iff_eq]at hb
      exact⟨fun _=>q1 hb,fun hn=>absurd (zcA _) hn⟩
     ·rename_i hb;simp only [beq_iff_eq]at hb
      exact q2 (by simpa using hb)
   ·rename_i x _ hsl
    rw [hsl]at hr
    cases hr with
    |e h1 _ _=>
     simp only [yqsi]at hg;subst hg
     obtain⟨q1,q2⟩:=hread _ _ h1
     exact⟨fun hh=>q1 (hh (x,want) (by simp)),fun hn=>q2 fun hh=>hn (by intro g hg;simp at hg;subst hg;exact hh)⟩
   ·rename_i hs' s hsl
    rw [hsl]at hr
    cases hr with
    |gd h1 h2 _=>
     split at hg
     ·rename_i hf
      simp only [yqsi]at hg;subst hg
      refine hund (h2 fun hk=> ?_)
      simp only [zBw,List.any_eq_true]at hf
      obtain⟨g,hg,hgf⟩:=hf
      have:=hk g hg
      split at hgf
      ·rename_i b hb
       rw [hb]at this
       simp only [E.den,AV.bool.injEq]at this
       simp [this]at hgf
      ·cases hgf
     ·split at hg
      ·rename_i b
       simp only [yqsi]at hg;subst hg
       by_cases hk:zfS c.ρ hs'
       ·have h1:=h1 hk
        cases h1 with
        |e h1 _ _=>
         obtain⟨q1,q2⟩:=hread _ _ h1
         simp only [E.den,AV.bool.injEq]at q1 q2
         split
         ·rename_i hb;simp only [beq_iff_eq]at hb
          exact⟨fun _=>q1 hb,fun hn=>absurd hk hn⟩
         ·rename_i hb;simp only [beq_iff_eq]at hb
          exact q2 (by simpa using hb)
       ·split
        ·exact⟨fun hh=>absurd hh hk,fun _=>hund (h2 hk)⟩
        ·exact hund (h2 hk)
      ·rename_i x _
       simp only [yqsi]at hg;subst hg
       by_cases hk:zfS c.ρ hs'
       ·have h1:=h1 hk
        cases h1 with
        |e h1 _ _=>
         obtain⟨q1,q2⟩:=hread _ _ h1
         exact⟨fun hh=>q1 (hh (x,want) (by simp)),fun hn=>q2 fun hh=>hn (by intro g hg;rcases yqmc.1 hg with rfl|hg;exact hh;exact hk g hg)⟩
       ·exact⟨fun hh=>absurd (fun g hg=>hh g (by simp [hg])) hk,fun _=>hund (h2 hk)⟩
      ·cases hg
   ·cases hg
theorem zC9 (hop:zGH P sg Rt) {Q:Exit→Act→World→Prop} {K:Act→World→Prop} {i nv:Nat} (hi:ops[i]?=some o) (hrel:Rel c n sl hp a) {sl0:Nat→SV} {hp0:Nat→Option Ent} (hgo:GOK c.ρ ops o a (some gs))
  (hsl: ∀t,Operand.tmp t∈o.op.operands→sl0 t=sl t) (hhp: ∀t e,hp0 t=some e→hp t=some e) (hnew: ∀t,nx≤t→t<nx+zan→ ¬c.U t)
  (he:zo7 P sg sl0 hp0 nv nx gs o=some e) (hent:gs≠ []→ ∀t x,(t,x)∈e.bq→nx≤t∧t<nx+zan∧ ∃hs y,x= .gd hs y∧zvM gs hs=true)
  (hc:zfS c.ρ gs→ ∀q∈e.bu,q.den c.ρ) (hcall: ∀cl,e.call=some cl→ ∃r,c.ρ[nv]?=some r∧(zfS c.ρ gs→zly Rt cl.fn ((EL.of cl.args).den c.ρ) c.ρ r)) (hnq: ∀x,e.cc=some x→zfS c.ρ gs→c.ρ[nv]?=some (.bool (znQ a o)))
  (hK: ∀a' c',zFC c c' nx→Rel c' n (zmg n sl o.dst (mkGd gs e.val)) (zfe hp e.bq) a'→K a' c'.w):wpOp P ops Q i K a c.w:=by
 unfold wpOp
 simp only [hi]
 by_cases hg:zfS c.ρ gs
 ·rw [if_pos (hgo.1 hg)]
  exact .inl (hop c n nx sl hp a sl0 hp0 o gs e nv ⟨hrel,hg,hsl,hhp,fun t h1 h2=>hnew t h1 (by simp only [zan];omega)⟩ (hnew _ (by omega) (by simp [zan])) he (hc hg) (fun cl hcl=>by obtain⟨r,h1,h2⟩:=hcall cl hcl;exact⟨r,h1,h2 hg⟩) (fun x hx=>hnq x hx hg) _ _ hK)
 ·rw [if_neg (by rw [hgo.2 hg];simp)]
  have hne:gs≠ []:=by rintro rfl;exact hg (zcA _)
  exact hK _ {c with U:=fun t=>c.U t∨(nx≤t∧t<nx+zan)} ⟨rfl,rfl,rfl,rfl,fun t ht=>ht⟩ (hrel.skip hg (hent hne) hnew e.val o.dst)
end
def Cx.ext (c:Cx) (τ:List AV):Cx:={c with ρ:=c.ρ++τ}
theorem den_app {ρ τ:List AV} {x:E} (h:x.sc ρ.length=true):x.den (ρ++τ)=x.den ρ:=by
 have:=E.a6 ρ τ [] x h
 rw [List.append_nil]at this;exact this
theorem zDu {ρ τ:List AV} {x:EL} (h:x.sc ρ.length=true):x.den (ρ++τ)=x.den ρ:=by
 have:=EL.a6 ρ τ [] x h
 rw [List.append_nil]at this;exact this
theorem zjS {ρ τ:List AV} {gs:Gd} (h:zIp ρ.length gs=true):zfS (ρ++τ) gs↔zfS ρ gs:=by
 simp only [zIp,yqal]at h
 exact⟨fun k g hg=>by rw [←den_app (τ:=τ) (h g hg)];exact k g hg,fun k g hg=>by rw [den_app (h g hg)];exact k g hg⟩
theorem SVL.gu {n:Nat}: ∀{cs:SVL},cs.sc n=true→ ∀s∈cs.toList,s.sc n=true
 | .nil,_,s,h=>by simp [SVL.toList]at h
 | .cons s cs,h,u,hu=>by
  simp only [SVL.sc,yqba]at h
  simp only [SVL.toList,yqmc]at hu
  rcases hu with rfl|hu
  ·exact h.1
  ·exact SVL.gu h.2 u hu
section
variable {c:Cx} {n:Nat} {sl:Nat→SV} {hp:Nat→Option Ent} {a:Act} {τ:List AV}
theorem zp8.ext {t g:Nat} {p:Pth} {v:Value} (hs:(match p with|some q=>q.1.sc c.ρ.length|none=>true)=true) (h:zp8 c t g p v):zp8 (c.ext τ) t g p v:=by
 cases p with
 |none=>exact trivial
 |some p=>
  obtain⟨i,z,o⟩:=p
  obtain⟨b,n,cap,C,ty,fz,kk,k,h1,h2,h3,h4,h5⟩:=h
  exact⟨b,n,cap,C,ty,fz,kk,k,h1,h2,h3,by show i.den (c.ρ++τ)=_;rw [den_app hs];exact h4,h5⟩
theorem SR.ext {ss:List SV} {vs:List Value} (h:SR c ss vs):(∀s∈ss,s.sc c.ρ.length=true)→SR (c.ext τ) ss vs:=by
 have tl: ∀{s:SV} {ss:List SV},(∀x∈s::ss,x.sc c.ρ.length=true)→ ∀x∈ss,x.sc c.ρ.length=true:=fun h x hx=>h x (by simp [hx])
 have hd: ∀{s:SV} {ss:List SV},(∀x∈s::ss,x.sc c.ρ.length=true)→s.sc c.ρ.length=true:=fun h=>h _ (by simp)
 have hρ:(c.ext τ).ρ=c.ρ++τ:=rfl
 induction h with
 |nil=>exact fun _=> .nil
 |undef _ ih=>exact fun hs=> .undef (ih (tl hs))
 |e h1 h2 _ ih=>exact fun hs=> .e (by rw [hρ,den_app (hd hs)];exact h1) h2 (ih (tl hs))
 |cd _ ih=>exact fun hs=> .cd (ih (tl hs))
 |emp _ ih=>exact fun hs=> .emp (ih (tl hs))
 |own h1 h2 _ ih=>exact fun hs=> .own h1 h2 (ih (tl hs))
 |cj h1 h2 _ ih=>exact fun hs=> .cj h1 h2 (ih (tl hs))
 |cw h1 h2 h3 h4 h5 _ ih=>exact fun hs=> .cw h1 h2 (by rw [hρ,den_app (hd hs)];exact h3) h4 h5 (ih (tl hs))
 |dk h1 h2 h3 h4 h5 h6 _ ih=>
  intro hs
  have:=hd hs
  simp only [SV.sc,yqba]at this
  exact .dk (by rw [hρ,den_app this.1];exact h1) h2 (by rw [hρ,den_app this.2];exact h3) h4 h5 (by rw [hρ,den_app this.1];exact h6) (ih (tl hs))
 |di h1 h2 _ ih=>exact fun hs=> .di (by rw [hρ,den_app (hd hs)];exact h1) h2 (ih (tl hs))
 |agg h9 _ _ ih1 ih2=>exact fun hs=> .agg h9 (ih1 (SVL.gu (hd hs))) (ih2 (tl hs))
 |tup _ _ ih1 ih2=>exact fun hs=> .tup (ih1 (SVL.gu (hd hs))) (ih2 (tl hs))
 |fn _ _ ih1 ih2=>exact fun hs=> .fn (ih1 (SVL.gu (hd hs))) (ih2 (tl hs))
 |gd _ h2 _ ih1 ih2=>
  intro hs
  have:=hd hs
  simp only [SV.sc,yqba]at this
  exact .gd (fun hg=>ih1 ((zjS this.1).1 hg) (by simpa using this.2)) (fun hg=>h2 fun k=>hg ((zjS this.1).2 k)) (ih2 (tl hs))
 | @via t g n p x v ss vs h1 h2 h3 _ ih=>
  intro hs
  have:=hd hs
  simp only [SV.sc,yqba]at this
  refine .via h1 h2 (fun he=> ?_) (ih (tl hs))
  obtain⟨q1,q2⟩:=h3 he
  exact⟨by rw [hρ,den_app this.2];exact q1,zp8.ext (τ:=τ) this.1 q2⟩
 | @vptr t g n p x i sz o v ss vs h1 h2 h3 _ ih=>
  intro hs
  have:=hd hs
  simp only [SV.sc,yqba]at this
  refine .vptr h1 h2 (fun he=> ?_) (ih (tl hs))
  obtain⟨b,off,len,cap,kk,k,q1,q2,q3,q4,q5,q6,q7⟩:=h3 he
  exact⟨b,off,len,cap,kk,k,by rw [hρ,den_app this.1.2];exact q1,zp8.ext (τ:=τ) this.1.1 q2,by rw [hρ,den_app this.2];exact q3,q4,q5,by rw [hρ,den_app this.1.2];exact q6,q7⟩
 |wown h1 h2 h3 h4 h5 h6 _ ih=>exact fun hs=> .wown h1 h2 (by rw [hρ,den_app (hd hs)];exact h3) h4 h5 h6 (ih (tl hs))
 | @lent i _ _ _ h1 _ ih=>exact fun hs=> .lent (by rw [hρ,den_app (x:= .var i) (by simpa [SV.sc,E.sc]using hd hs)];exact h1) (ih (tl hs))
theorem znH.ext {t:Nat} {e:Ent} (h:znH c t e) (hs:e.sc c.ρ.length=true):znH (c.ext τ) t e:=by
 have hρ:(c.ext τ).ρ=c.ρ++τ:=rfl
 cases e with
 |box ty g cs=>
  obtain⟨b,C,h1,h2,h3,h4,h5,h6,h7⟩:=h
  exact⟨b,C,h1,h2,h3,h4,h5,h6,h7.ext (by simpa [Ent.sc]using hs)⟩
 |row ety sz g x d=>
  obtain⟨h1,h2,N,h3,h4,h5⟩:=h
  exact⟨h1,h2,N,by rw [hρ,den_app hs];exact h3,h4,h5⟩
 |bw g x=>
  obtain⟨h1,⟨f,h2,h3⟩,h4⟩:=h
  exact⟨h1,⟨f,by rw [hρ,den_app hs];exact h2,h3⟩,h4⟩
 |gd gs e=>exact h
 |dead=>exact h
 |deep e z l g ep x=>
  obtain⟨h1,h2,h3,h4,h5⟩:=h
  exact⟨h1,h2,h3,by rw [hρ,den_app hs];exact h4,h5⟩
 |hol e z l g ep x i o u=>
  simp only [Ent.sc,yqba]at hs
  obtain⟨h1,h2,h3,h4,h5⟩:=h
  exact⟨h1,h2,h3,by rw [hρ,den_app hs.1,den_app hs.2];exact h4,h5⟩
theorem zF9 {ρ:List AV} {e0 e:Ent} (hs:e0.sc ρ.length=true):Res (ρ++τ) (some e0) e↔Res ρ (some e0) e:=by
 cases e0 with
 |gd gs x=>
  simp only [Ent.sc,yqba]at hs
  simp only [Res]
  rw [zjS hs.1]
 |_=>simp [Res]
theorem Rel.ext (h:Rel c n sl hp a) (h1: ∀i,(sl i).sc c.ρ.length=true) (h2: ∀t e,hp t=some e→e.sc c.ρ.length=true) (τ:List AV):Rel (c.ext τ) n sl hp a:=by
 have key: ∀t e,Res (c.ρ++τ) (hp t) e↔Res c.ρ (hp t) e:=by
  intro t e
  cases hh:hp t with
  |none=>exact Iff.rfl
  |some e0=>exact zF9 (h2 t e0 hh)
 refine⟨h.defers,h.size,⟨h.base.os,h.base.tape,h.base.output,h.base.size,h.base.pins,h.base.block,h.base.pk,h.base.lo⟩,fun i=>(h.c7 i).ext (by simpa using h1 i),fun t e hr=> ?_,fun t hn=>h.off t fun e hr=>hn e ((key t e).2 hr),⟨h.gw.nodup,h.gw.cr,h.gw.allow,h.gw.inb⟩,h.ca,h.ct⟩
 have hr':=(key t e).1 hr
 have he:=h.ents t e hr'
 cases hh:hp t with
 |none=>rw [hh]at hr';exact hr'.elim
 |some e0=>
  have hsc:=h2 t e0 hh
  rw [hh]at hr'
  cases e0 with
  |gd gs x=>
   obtain⟨_,rfl⟩:=hr'
   simp only [Ent.sc,yqba]at hsc
   cases x with
   |gd=>exact he
   |dead=>exact he
   |box=>exact he.ext (by simpa [Ent.sc]using hsc.2)
   |row=>exact he.ext (by simpa [Ent.sc]using hsc.2)
   |bw=>exact he.ext (by simpa [Ent.sc]using hsc.2)
   |deep=>exact he.ext (by simpa [Ent.sc]using hsc.2)
   |hol=>exact he.ext (by simpa [Ent.sc]using hsc.2)
  |_=>
   simp only [Res]at hr'
   subst hr'
   exact he.ext hsc
theorem St.l6 {σ:St} (h:σ.sc=true) (i:Nat):(zaR σ i).sc σ.nv=true:=by
 simp only [St.sc,yqba,yqal]at h
 unfold zaR
 cases hi:σ.sl[i]? with
 |none=>simp [SV.sc]
 |some s=>exact h.1 s (List.mem_of_getElem? hi)
theorem St.lp {σ:St} (h:σ.sc=true) (t:Nat) (e:Ent) (he:zas σ.hp t=some e):e.sc σ.nv=true:=by
 simp only [St.sc,yqba,yqal]at h
 exact h.2 _ (zfj he)
theorem Cn.j7 {ρ τ:List AV} {q:Cn} (h:q.sc ρ.length=true):q.den (ρ++τ)↔q.den ρ:=by
 cases q<;>simp only [Cn.sc,yqba]at h<;>simp only [Cn.den]
 case dfd=>rw [den_app h]
 case agg=>rw [den_app h]
 case cells=>rw [den_app h]
 case inb=>rw [den_app h.1,den_app h.2]
 case inbS=>rw [den_app h.1,den_app h.2]
 case win=>rw [den_app h.1.1,den_app h.1.2,den_app h.2]
 case winS=>rw [den_app h.1.1,den_app h.1.2,den_app h.2]
 case room=>rw [den_app h.1,den_app h.2]
 case roomS=>rw [den_app h.1,den_app h.2]
 case mkroom=>rw [den_app h]
 case nz=>rw [den_app h]
 case nn=>rw [den_app h]
 case isref=>rw [den_app h]
 case issl=>rw [den_app h]
 case flat=>rw [den_app h]
 case flatS=>rw [den_app h]
 case kinds=>rw [den_app h]
theorem zy2:SR c [zyI] [Go.undef]:= .gd (fun hg=>by have:=hg (.bool false,true) (by simp);simp [E.den]at this) (fun _=>rfl) .nil
theorem zxd {ρ:List AV} {x:E} {b:Bool} {hs:Gd} (hx:x.den ρ= .bool b) (h:zyN (x, !b) hs=true): ¬zfS ρ hs:=by
 intro k
 have:=zzr h k
 simp only at this
 rw [hx]at this
 simp at this
theorem zoD {ρ:List AV} {x:E} {b:Bool} {hs:Gd} (hx:x.den ρ= .bool b):zfS ρ (hs.filter fun h=> !(h.1.beq x&&h.2==b))↔zfS ρ hs:=by
 refine⟨fun k g hg=> ?_,fun k g hg=>k g (List.mem_filter.1 hg).1⟩
 by_cases hh:(g.1.beq x&&g.2==b)=true
 ·simp only [yqba,beq_iff_eq]at hh
  rw [E.ar ρ _ _ hh.1,hx,hh.2]
 ·exact k g (List.mem_filter.2 ⟨hg,by rw [Bool.not_eq_true]at hh;rw [hh];rfl⟩)
theorem SR.ki {s:SV} {v:Value} {gs:Gd} (h1:zfS c.ρ gs→SR c [s] [v]) (h2: ¬zfS c.ρ gs→v=Go.undef):SR c [Go.Proofs.YtgobcjbjogkpjaaGreatDoor.mkGd gs s] [v]:=by
 cases gs with
 |nil=>exact h1 (zcA _)
 |cons g gs=>exact .gd h1 h2 .nil
theorem SR.gm {x:E} {b:Bool} (hx:x.den c.ρ= .bool b) {s:SV} {v:Value} (h:SR c [s] [v]):SR c [assumeS x b s] [v]:=by
 cases s with
 |gd hs s=>
  simp only [Go.Proofs.YtgobcjbjogkpjaaGreatDoor.assumeS]
  cases h with
  |gd h1 h2 _=>
   split
   ·rename_i hm
    rw [h2 (zxd hx hm)];exact zy2
   ·exact SR.ki (fun k=>h1 ((zoD hx).1 k)) (fun k=>h2 fun k'=>k ((zoD hx).2 k'))
 |_=>exact h
theorem zDg (f:Ent→Ent) (l:List (Nat × Ent)) (t:Nat):zas (l.map fun(t,e)=>(t,f e)) t=(zas l t).map f:=by
 induction l with
 |nil=>rfl
 |cons p l ih=>
  obtain⟨u,e⟩:=p
  simp only [List.map_cons,zas]
  split
  ·rfl
  ·exact ih
theorem Rel.gm {x:E} {b:Bool} (hx:x.den c.ρ= .bool b) (h:Rel c n sl hp a):Rel c n (fun i=>assumeS x b (sl i)) (fun t=>(hp t).map (assumeE x b)) a:=by
 have hnone: ∀t,(∀e,Res c.ρ (hp t) e→ ∃gs y,e= .gd gs y∨e= .dead)→(c.G t).top= []∧(c.G t).O= []:=by
  intro t ht
  by_cases hh: ∃e,Res c.ρ (hp t) e
  ·obtain⟨e,he⟩:=hh
   obtain⟨gs,y,rfl|rfl⟩:=ht e he
   ·exact h.ents t _ he
   ·exact h.ents t _ he
  ·exact h.off t fun e he=>hh ⟨e,he⟩
 have cases': ∀t,((∀e,Res c.ρ ((hp t).map (assumeE x b)) e↔Res c.ρ (hp t) e))∨((hp t).map (assumeE x b)=some .dead∧(c.G t).top= []∧(c.G t).O= []):=by
  intro t
  cases hh:hp t with
  |none=>exact .inl fun e=>Iff.rfl
  |some e0=>
   cases e0 with
   |gd hs y=>
    by_cases hm:zyN (x, !b) hs=true
    ·refine .inr ⟨by simp [Go.Proofs.YtgobcjbjogkpjaaGreatDoor.assumeE,hm],hnone t fun e he=> ?_⟩
     rw [hh]at he
     exact absurd he.1 (zxd hx hm)
    ·by_cases hy: ∃gs z,y= .gd gs z
     ·obtain⟨gs,z,rfl⟩:=hy
      refine .inr ⟨by simp [Go.Proofs.YtgobcjbjogkpjaaGreatDoor.assumeE,hm],hnone t fun e he=> ?_⟩
      rw [hh]at he
      exact⟨gs,z, .inl he.2.symm⟩
     ·refine .inl fun e=> ?_
      have he:assumeE x b (.gd hs y)=zfR (hs.filter fun h=> !(h.1.beq x&&h.2==b)) y:=by
       simp only [Go.Proofs.YtgobcjbjogkpjaaGreatDoor.assumeE,hm,yqft,if_false]
       cases y<;>first|rfl|exact absurd ⟨_,_,rfl⟩ hy
      simp only [Option.map_some,he]
      show _↔zfS c.ρ hs∧y=e
      rw [←zoD hx]
      generalize (hs.filter fun h=> !(h.1.beq x&&h.2==b))=fs
      cases fs with
      |nil=>
       simp only [zfR,zcA,true_and]
       cases y<;>first|exact absurd ⟨_,_,rfl⟩ hy|exact Iff.rfl
      |cons g fs=>exact Iff.rfl
   |_=>exact .inl fun e=>Iff.rfl
 refine⟨h.defers,h.size,h.base,fun i=>(h.c7 i).gm hx,fun t e hr=> ?_,fun t hn=> ?_,h.gw,h.ca,fun t e he=> ?_⟩
 ·rcases cases' t with hc|⟨hc,h1,h2⟩
  ·exact h.ents t e ((hc e).1 hr)
  ·rw [hc]at hr
   have:Ent.dead=e:=hr
   subst this
   exact⟨h1,h2⟩
 ·rcases cases' t with hc|⟨hc,h1,h2⟩
  ·exact h.off t fun e he=>hn e ((hc e).2 he)
  ·exact⟨h1,h2⟩
 ·cases hh:hp t with
  |none=>rw [hh]at he;cases he
  |some e0=>exact h.ct t e0 hh
end
theorem zpE {σ:St} {d:Option Nat} {s:SV}:zaR (zhD σ d s)=zmg σ.sl.length (zaR σ) d s:=by
 funext i
 cases d with
 |none=>simp [zhD,zmg]
 |some d=>
  simp only [zhD,zaR,zmg,yqsi,List.getElem?_set]
  by_cases h:d=i
  ·subst h
   by_cases h2:d<σ.sl.length
   ·simp [h2]
   ·simp [h2,List.getElem?_eq_none (Nat.le_of_not_lt h2)]
  ·simp [h]
theorem zoi {σ:St} {d:Option Nat} {s:SV}:(zhD σ d s).sl.length=σ.sl.length:=by cases d<;>simp [zhD]
theorem zqt {σ:St} {d:Option Nat} {s:SV}:(zhD σ d s).hp=σ.hp:=by cases d<;>rfl
theorem zp4 {σ:St} {d:Option Nat} {s:SV}:(zhD σ d s).nv=σ.nv:=by cases d<;>rfl
theorem zB6 (l:List (Nat × Ent)) (t:Nat) (e:Ent) (u:Nat):zas (zwo l t e) u=if u=t then some e else zas l u:=by
 induction l with
 |nil=>
  simp only [zwo,zas]
  by_cases h:t=u
  ·simp [h]
  ·rw [if_neg h,if_neg (Ne.symm h)]
 |cons p l ih=>
  obtain⟨v,f⟩:=p
  simp only [zwo]
  split
  ·rename_i hv;subst hv
   simp only [zas]
   by_cases h:v=u
   ·simp [h]
   ·rw [if_neg h,if_neg (Ne.symm h),if_neg h]
  ·rename_i hv
   simp only [zas]
   by_cases h:v=u
   ·subst h;rw [if_pos rfl,if_neg hv,if_pos rfl]
   ·rw [if_neg h,ih,if_neg h]
theorem zu6: ∀(ents:List (Nat × Ent)) (l:List (Nat × Ent)),zas (ents.foldl (fun l (p:Nat × Ent)=>zwo l p.1 p.2) l)=zfe (zas l) ents
 | [],l=>rfl
 |(t,e)::ents,l=>by
  simp only [List.foldl_cons]
  rw [zu6 ents]
  have:zas (zwo l t e)=fun u=>if u=t then some e else zas l u:=by funext u;exact zB6 l t e u
  rw [this];rfl
section
variable {P:Program} {sg:SgT} {Rt:Nat→List AV→AV→Prop} {ops:Array Oper}
theorem zzv {σ:St} {gs:Gd} {o:Oper} {e:Eff}:zaR (zka σ gs o e)=zmg σ.sl.length (zaR σ) o.dst (mkGd gs e.val):=by
 rw [←zpE];rfl
theorem zzH {σ:St} {gs:Gd} {o:Oper} {e:Eff}:zas (zka σ gs o e).hp=zfe (zas σ.hp) e.bq:=by
 have:(zka σ gs o e).hp=e.bq.foldl (fun l (p:Nat × Ent)=>zwo l p.1 p.2) σ.hp:=by
  show e.bq.foldl (fun l (p:Nat × Ent)=>zwo l p.1 p.2) (zhD σ o.dst (mkGd gs e.val)).hp=_
  rw [zqt]
 rw [this,zu6]
theorem zxq {σ:St} {gs:Gd} {o:Oper} {e:Eff}:(zka σ gs o e).sl.length=σ.sl.length:=by
 show(zhD σ o.dst (mkGd gs e.val)).sl.length=_
 rw [zoi]
theorem zvH {σ:St} {gs:Gd} {o:Oper} {e:Eff}:(zka σ gs o e).nv=if e.call.isSome||e.cc.isSome then σ.nv+1 else σ.nv:=by
 show(if e.call.isSome||e.cc.isSome then(zhD σ o.dst (mkGd gs e.val)).nv+1 else(zhD σ o.dst (mkGd gs e.val)).nv)=_
 rw [zp4]
theorem zv0 {R:AV→Prop} {gs:Gd} {k:Tr} {L:LK} {js:List JK} {ρ:List AV}: ∀{cs:List Cn},(cs.foldr (fun c k=> .bu gs c k) k:Tr).den Rt R L js ρ→(zfS ρ gs→ ∀q∈cs,q.den ρ)∧k.den Rt R L js ρ
 | [],h=>⟨by simp,h⟩
 |c::cs,h=>by
  obtain⟨h1,h2⟩:=h
  obtain⟨h3,h4⟩:=zv0 h2
  refine⟨fun hg q hq=> ?_,h4⟩
  rcases yqmc.1 hq with rfl|hq
  ·exact h1 hg
  ·exact h3 hg q hq
theorem zzp {l:List (Nat × Ent)} {R:List Nat} {t:Nat} {e:Ent} (h:zHw l R t=some e):zas l t=some e:=by
 unfold zHw at h
 split at h
 ·exact h
 ·cases h
theorem zu1 {f:Nat ⊕ E} {as_:EL} {ρ τ:List AV} {r:AV} (h1:(match f with| .inl _=>true| .inr x=>x.sc ρ.length)=true) (h2:as_.sc ρ.length=true):zly Rt f (as_.den (ρ++τ)) (ρ++τ) r↔zly Rt f (as_.den ρ) ρ r:=by
 rw [zDu h2]
 cases f with
 |inl f=>exact Iff.rfl
 |inr x=>simp only [zly];rw [den_app h1]
theorem EL.ko {n:Nat}: ∀{l:List E},l.all (E.sc n)=true→(EL.of l).sc n=true
 | [],_=>rfl
 |x::l,h=>by
  simp only [List.all_cons,yqba]at h
  simp only [EL.of,EL.sc,yqba]
  exact⟨h.1,EL.ko h.2⟩
structure Mid (F:Fix) (c:Cx) (σ:St) (a:Act) (n m:Nat):Prop where
 w0:c.w0=F.w0
 A:c.A=F.A
 Mu:c.Mu=F.Mu
 nv:c.ρ.length=σ.nv
 len:σ.sl.length=n
 U: ∀t,c.U t→t<m
 rel:Rel c n (zaR σ) (zas σ.hp) a
theorem Mid.ext {F:Fix} {c:Cx} {σ:St} {a:Act} {n m:Nat} (h:Mid F c σ a n m) (hs:σ.sc=true) (τ:List AV):Rel (c.ext τ) n (zaR σ) (zas σ.hp) a:=
 h.rel.ext (fun i=>by rw [h.nv];exact St.l6 hs i) (fun t e he=>by rw [h.nv];exact St.lp hs t e he) τ
theorem zIu (hop:zGH P sg Rt) (hnil:zBJ P sg) {F:Fix} {c:Cx} {σ:St} {a:Act} {n i base:Nat} {o:Oper} {gs:Gd} {e:Eff} {k:Tr} {R:AV→Prop} {L:LK} {js:List JK} {Q:Exit→Act→World→Prop} {K:Act→World→Prop}
  (hi:ops[i]?=some o) (hm:Mid F c σ a n (base+zan*i)) (hgo:GOK c.ρ ops o a (some gs)) {Rs:List Nat} (he:zo7 P sg (zaR σ) (zHw σ.hp Rs) σ.nv (base+zan*i) gs o=some e) (hsc:zAw σ.nv (base+zan*i) σ.hp gs e=true)
  (hsc2:(e.call.isSome||e.cc.isSome)=true→σ.sc=true) (hd:(zv2 gs e k).den Rt R L js c.ρ)
  (hK: ∀(c':Cx) (a':Act),c.ρ<+:c'.ρ→Mid F c' (zka σ gs o e) a' n (base+zan*(i+1))→k.den Rt R L js c'.ρ→K a' c'.w):wpOp P ops Q i K a c.w:=by
 simp only [zAw,yqba,yqal]at hsc
 obtain⟨⟨⟨⟨hs1,hs2⟩,hs3⟩,hs4⟩,hs5⟩:=hsc
 have hent:gs≠ []→ ∀t x,(t,x)∈e.bq→base+zan*i≤t∧t<base+zan*i+zan∧ ∃hs y,x= .gd hs y∧zvM gs hs=true:=by
  intro hne t x hx
  have:=hs5 _ hx
  have hem:gs.isEmpty=false:=by cases gs;exact absurd rfl hne;rfl
  simp only [hem,Bool.false_or,Bool.false_and,Bool.or_false,yqba,decide_eq_true_eq]at this
  refine⟨this.1.1,this.1.2, ?_⟩
  have h3:=this.2
  split at h3
  ·exact⟨_,_,rfl,h3⟩
  ·cases h3
 have hnew: ∀t,base+zan*i≤t→t<base+zan*i+zan→ ¬c.U t:=fun t h1 _ h3=>by have:=hm.U t h3;omega
 have hstep: ∀(τ:List AV),Rel (c.ext τ) n (zaR σ) (zas σ.hp) a→τ.length=(if e.call.isSome||e.cc.isSome then 1 else 0)→k.den Rt R L js (c.ρ++τ)→(zfS c.ρ gs→ ∀q∈e.bu,q.den c.ρ)→
   (∀cl,e.call=some cl→ ∃r,τ= [r]∧(zfS c.ρ gs→zly Rt cl.fn ((EL.of cl.args).den c.ρ) c.ρ r))→(∀x,e.cc=some x→τ= [.bool (znQ a o)])→wpOp P ops Q i K a c.w:=by
  intro τ hrel hτ hk hc hcall hnq
  have hnv:σ.nv=c.ρ.length:=hm.nv.symm
  rw [hnv]at hs1 hs2 hs3
  have hget: ∀r,τ= [r]→(c.ρ++τ)[σ.nv]?=some r:=by
   rintro r rfl;rw [hnv];simp
  refine zC9 (c:=c.ext τ) hop hi hrel ⟨fun hg=>hgo.1 ((zjS hs1).1 hg),fun hg=>hgo.2 fun k=>hg ((zjS hs1).2 k)⟩ (fun _ _=>rfl) (fun t e h=>zzp h) hnew he hent (fun hg q hq=> ?_) (fun cl hcl=> ?_) (fun x hx _=>hget _ (hnq x hx)) (fun a' c' hsame hr=> ?_)
  ·exact(Cn.j7 (hs2 q hq)).2 (hc ((zjS hs1).1 hg) q hq)
  ·obtain⟨r,rfl,h2⟩:=hcall cl hcl
   rw [hcl]at hs3
   simp only [yqba]at hs3
   exact⟨r,hget r rfl,fun hg=>(zu1 hs3.1 (EL.ko hs3.2)).2 (h2 ((zjS hs1).1 hg))⟩
  ·have hρ:c'.ρ=c.ρ++τ:=hsame.ρ
   refine hK c' a' ⟨τ,hρ.symm⟩ ⟨hsame.w0.trans hm.w0,hsame.A.trans hm.A,hsame.Mu.trans hm.Mu, ?_,by rw [zxq];exact hm.len,fun t ht=> ?_, ?_⟩ (by rw [hρ];exact hk)
   ·rw [hρ,zvH,yqla,hτ,hnv];split<;>rfl
   ·have hmul:base+zan*(i+1)=base+zan*i+zan:=by rw [Nat.mul_add];omega
    rw [hmul]
    rcases hsame.U t ht with h|h
    ·have:=hm.U t h;omega
    ·exact h.2
   ·rw [zzv,zzH,hm.len];exact hr
 unfold zv2 at hd
 obtain⟨hc,hd⟩:=zv0 hd
 cases hcl:e.call with
 |none=>
  simp only [hcl]at hd
  cases hnq:e.cc with
  |none=>
   simp only [hnq]at hd
   refine hstep [] (by have:=hm.rel;simpa [Cx.ext]using this) (by simp [hcl,hnq]) (by simpa using hd) hc (fun cl h=>by rw [hcl]at h;cases h) (fun x h=>by rw [hnq]at h;cases h)
  |some x=>
   simp only [hnq]at hd
   have hss:=hsc2 (by simp [hnq])
   refine hstep [.bool (znQ a o)] (hm.ext hss _) (by simp [hnq]) (hd _ fun hg hb=> ?_) hc (fun cl h=>by rw [hcl]at h;cases h) (fun x h=>rfl)
   exact hnil c n _ _ _ a _ _ o gs e _ x ⟨hm.rel,hg,fun _ _=>rfl,fun t e h=>zzp h,fun t h1 h2=>hnew t h1 (Nat.lt_of_lt_of_le h2 (Nat.add_le_add_left (by decide) _))⟩ he hnq hb
 |some cl=>
  simp only [hcl]at hd
  cases hnq:e.cc with
  |some x=>
   rw [hnq]at hs4
   simp [hcl]at hs4
  |none=>
   simp only [hnq]at hd
   obtain⟨r,h1,h2⟩:=hd
   have hss:=hsc2 (by simp [hcl])
   refine hstep [r] (hm.ext hss _) (by simp [hcl]) h2 hc (fun cl' h=>by rw [hcl]at h;cases h;exact⟨r,rfl,h1⟩) (fun x h=>by rw [hnq]at h;cases h)
theorem zB8 {σ:St} {x:E} {b:Bool} {d:Nat}:zaR (assume x b d σ)=zmg σ.sl.length (fun i=>assumeS x b (zaR σ i)) (some d) (.e (.bool b)):=by
 funext i
 simp only [assume,zaR,zmg,yqsi,List.getElem?_set,List.length_map,List.getElem?_map]
 by_cases h:d=i
 ·subst h
  by_cases h2:d<σ.sl.length
  ·simp [h2]
  ·simp [h2,List.getElem?_eq_none (Nat.le_of_not_lt h2),assumeS]
 ·simp only [h,false_and,if_false]
  cases hh:σ.sl[i]?<;>simp [assumeS]
theorem zBT {σ:St} {x:E} {b:Bool} {d:Nat}:zas (assume x b d σ).hp=fun t=>(zas σ.hp t).map (assumeE x b):=by
 funext t;exact zDg _ _ _
theorem Mid.assume {F:Fix} {c:Cx} {σ:St} {a:Act} {n m:Nat} (h:Mid F c σ a n m) {x:E} {b:Bool} (hx:x.den c.ρ= .bool b) {d:Nat} (hd:zaR σ d= .e x):Mid F c (Go.Proofs.YtgobcjbjogkpjaaGreatDoor.assume x b d σ) a n m:=by
 refine⟨h.w0,h.A,h.Mu,h.nv, ?_,h.U, ?_⟩
 ·simp only [Go.Proofs.YtgobcjbjogkpjaaGreatDoor.assume,List.length_set,List.length_map];exact h.len
 ·rw [zB8,zBT]
  have hr:=h.rel.gm hx
  refine{hr with c7:=fun i=> ?_}
  unfold zmg
  split
  ·rename_i hi
   obtain⟨hi,_⟩:=hi
   cases hi
   have:=h.rel.c7 d
   rw [hd]at this
   generalize a.tmps.getD d Go.undef=v at this
   cases this with
   |e h1 h2 _=>exact .e (f:= []) (by rw [hx]at h1;rw [zim h1 rfl];exact .bool .nil) (by simp) .nil
  ·exact hr.c7 i
theorem zB3 (hop:zGH P sg Rt) (hnil:zBJ P sg) {F:Fix} {base:Nat} {R:AV→Prop} {L:LK} {js:List JK} {Q:Exit→Act→World→Prop} {n:Nat} {next:List Log→St→Option Tr} {i:Nat} {o:Oper} {lg:List Log} {rest:List Nat} (hi:ops[i]?=some o)
  (hnext: ∀(lg:List Log) (σ:St) (t:Tr),next lg σ=some t→ ∀(c:Cx) (a:Act),Mid F c σ a n (base+zan*(i+1))→t.den Rt R L js c.ρ→(∀(c':Cx) (a':Act) (σ':St),c.ρ<+:c'.ρ→L js .normal σ' c'.ρ→zyl F c'.ρ σ' a' c'.w→Q .normal a' c'.w)→wpOps P ops Q rest a c.w):
  ∀(m:Nat) (σ:St) (t:Tr),zDm P sg ops false base next i o lg m σ=some t→
  ∀(c:Cx) (a:Act),Mid F c σ a n (base+zan*i)→t.den Rt R L js c.ρ→(∀(c':Cx) (a':Act) (σ':St),c.ρ<+:c'.ρ→L js .normal σ' c'.ρ→zyl F c'.ρ σ' a' c'.w→Q .normal a' c'.w)→wpOps P ops Q (i::rest) a c.w:=by
 have hnext':base+zan*i≤base+zan*(i+1):=by rw [Nat.mul_add];omega
 have try_: ∀(fail:Unit→Option Tr) (σ:St) (t:Tr),zDR P sg ops false base next i o lg fail σ=some t→ ∀(c:Cx) (a:Act),Mid F c σ a n (base+zan*i)→t.den Rt R L js c.ρ→(∀(c':Cx) (a':Act) (σ':St),c.ρ<+:c'.ρ→L js .normal σ' c'.ρ→zyl F c'.ρ σ' a' c'.w→Q .normal a' c'.w)→
   (fail ()=some t→wpOps P ops Q (i::rest) a c.w)→wpOps P ops Q (i::rest) a c.w:=by
  intro fail σ t ht c a hm hd hq hfail
  unfold zDR at ht
  cases hgu:zlY σ ops o with
  |none=>rw [hgu]at ht;cases ht
  |some r=>
   have hgo:=zs7 (c:=c) (a:=a) hgu (fun j want d _ _=>hm.rel.c7 d)
   rw [hgu]at ht
   cases r with
   |none=>
    simp only at ht
    rw [wpOps_cons]
    unfold wpOp
    simp only [hi]
    rw [if_neg (by simp [show Region.wanted o (yielded ops a.tmps)=false from hgo])]
    refine hnext lg _ t ht c _ ⟨hm.w0,hm.A,hm.Mu,by rw [zp4];exact hm.nv,by rw [zoi];exact hm.len,fun t ht=>Nat.lt_of_lt_of_le (hm.U t ht) hnext', ?_⟩ hd hq
    rw [zpE,zqt,hm.len]
    exact hm.rel.put zy2 o.dst
   |some gs=>
    simp only at ht
    split at ht
    ·rename_i e he
     split at ht
     ·cases ht
     ·rename_i hcond
      split at ht
      ·cases ht
      ·rename_i k hk
       simp only [yqsi]at ht;subst ht
       simp only [Bool.false_and,Bool.false_or,Bool.not_false,Bool.true_and,Bool.or_eq_true,Bool.not_eq_true',yqba,not_or,Bool.not_eq_false]at hcond
       rw [wpOps_cons]
       refine zIu hop hnil hi hm hgo he hcond.1 (fun hh=> ?_) hd fun c' a' hp hm' hk'=>hnext _ _ k hk c' a' hm' hk' fun c'' a'' σ' hp'=>hq c'' a'' σ' (hp.trans hp')
       have:=hcond.2
       simp only [Bool.or_eq_true]at hh
       simpa [hh]using this
    ·exact hfail ht
 intro m
 induction m with
 |zero=>exact fun σ t ht c a hm hd hq=>try_ _ σ t ht c a hm hd hq fun h=>by cases h
 |succ m ih=>
  intro σ t ht c a hm hd hq
  refine try_ _ σ t ht c a hm hd hq fun h=> ?_
  split at h
  ·rename_i d _ _
   split at h
   ·rename_i x hgd
    split at h
    ·rename_i k1 k0 hk1 hk0
     simp only [yqsi]at h;subst h
     obtain⟨tt,h1,h2,h3⟩:=hd
     cases tt with
     |true=>exact ih _ k1 hk1 c a (hm.assume h1 hgd) (h2 rfl) hq
     |false=>exact ih _ k0 hk0 c a (hm.assume h1 hgd) (h3 rfl) hq
    ·cases h
   ·cases h
  ·cases h
theorem zDG (hop:zGH P sg Rt) (hnil:zBJ P sg) {F:Fix} {base:Nat} {R:AV→Prop} {L:LK} {js:List JK} {Q:Exit→Act→World→Prop} {n:Nat}: ∀(len i:Nat) (lg:List Log) (σ:St) (t:Tr),i+len=ops.size→zve P sg ops false base (List.range' i len) lg σ=some t→
  ∀(c:Cx) (a:Act),Mid F c σ a n (base+zan*i)→t.den Rt R L js c.ρ→(∀(c':Cx) (a':Act) (σ':St),c.ρ<+:c'.ρ→L js .normal σ' c'.ρ→zyl F c'.ρ σ' a' c'.w→Q .normal a' c'.w)→wpOps P ops Q (List.range' i len) a c.w
 |0,i,lg,σ,t,hl,ht,c,a,hm,hd,hq=>by
  simp only [List.range'_zero,zve,Bool.false_and,yqft,if_false,yqsi]at ht ⊢
  subst ht
  refine hq c a _ (List.prefix_refl _) hd ⟨c,rfl,rfl,hm.w0,hm.A,hm.Mu,hm.nv,fun t ht=> ?_, ?_⟩
  ·have:=hm.U t ht
   have h9:i=ops.size:=by omega
   subst h9;exact this
  ·have:=hm.rel
   rw [←hm.len]at this;exact this
 |len+1,i,lg,σ,t,hl,ht,c,a,hm,hd,hq=>by
  rw [List.range'_succ]at ht ⊢
  unfold zve at ht
  obtain⟨o,hi⟩: ∃o,ops[i]?=some o:=⟨ops[i]'(by omega),by simp [show i<ops.size by omega]⟩
  rw [hi]at ht
  simp only at ht
  exact zB3 hop hnil hi (fun lg σ t ht c a=>zDG hop hnil (n:=n) len (i+1) lg σ t (by omega) ht c a) 4 σ t ht c a hm hd hq
end
def zGx (l:List Oper) (bs:List Nat):Prop:=bs.length=l.length∧ ∀(j:Nat) (o:Oper),l[j]?=some o→ ∀i,((bs[j]?).getD 0).testBit i=true→ ∃e∈o.after.toList,Region.binds .any e=true∧(i=e.on∨(e.on<j∧((bs[e.on]?).getD 0).testBit i=true))
theorem zqM (acc:List Nat) (i:Nat): ∀(es:List Edge) (s:Nat),(es.foldl (fun s e=>if Region.binds .any e then s|||2^e.on|||(acc[e.on]?).getD 0 else s) s).testBit i=true→
  s.testBit i=true∨ ∃e∈es,Region.binds .any e=true∧(i=e.on∨((acc[e.on]?).getD 0).testBit i=true)
 | [],s,h=> .inl h
 |e::es,s,h=>by
  simp only [List.foldl_cons]at h
  rcases zqM acc i es _ h with h|⟨e',h1,h2⟩
  ·split at h
   ·rename_i hb
    simp only [Nat.testBit_or,Nat.testBit_two_pow,Bool.or_eq_true,decide_eq_true_eq]at h
    rcases h with(h|h)|h
    ·exact .inl h
    ·exact .inr ⟨e,by simp,hb, .inl h.symm⟩
    ·exact .inr ⟨e,by simp,hb, .inr h⟩
   ·exact .inl h
  ·exact .inr ⟨e',by simp [h1],h2⟩
theorem zxB: ∀(os pre:List Oper) (acc:List Nat),zGx pre acc→zGx (pre++os) (zDX os acc)
 | [],pre,acc,h=>by simpa [zDX]using h
 |o::os,pre,acc,h=>by
  obtain⟨hl,hb⟩:=h
  have:=zxB os (pre++ [o]) (acc++ [zyB acc o]) ⟨by simp [hl],fun j o' ho i hi=> ?_⟩
  ·simpa [zDX]using this
  ·have hlt: ∀k,k<acc.length→((acc++ [zyB acc o])[k]?).getD 0=(acc[k]?).getD 0:=fun k hk=>by rw [List.getElem?_append_left hk]
   by_cases hj:j<pre.length
   ·rw [List.getElem?_append_left hj]at ho
    rw [hlt j (by omega)]at hi
    obtain⟨e,h1,h2,h3⟩:=hb j o' ho i hi
    exact⟨e,h1,h2,h3.imp id fun h=>⟨h.1,by rw [hlt _ (by omega)];exact h.2⟩⟩
   ·rw [List.getElem?_append_right (by omega)]at ho
    have hj0:j-pre.length=0:=by
     cases hh:j-pre.length with
     |zero=>rfl
     |succ k=>rw [hh]at ho;simp at ho
    rw [hj0]at ho
    simp at ho;subst ho
    have hj':j=acc.length:=by omega
    rw [hj',List.getElem?_append_right (Nat.le_refl _)]at hi
    simp only [Nat.sub_self,List.getElem?_cons_zero,Option.getD_some]at hi
    rcases zqM acc i _ 0 hi with h|⟨e,h1,h2,h3⟩
    ·simp at h
    ·refine⟨e,h1,h2,h3.imp id fun h=> ?_⟩
     have he:e.on<acc.length:=by
      rcases Nat.lt_or_ge e.on acc.length with hh|hh
      ·exact hh
      ·rw [List.getElem?_eq_none hh]at h;simp at h
     exact⟨by omega,by rw [hlt _ he];exact h⟩
def zya (ops:Array Oper) (S:Nat→Bool):Prop:= ∀k o,S k=true→ops[k]?=some o→ ∀e∈o.after.toList,Region.binds .any e=true→S e.on=true
theorem zHK (ops:Array Oper):zGx ops.toList (zDX ops.toList []):=by
 have:=zxB ops.toList [] [] ⟨rfl,by simp⟩
 simpa using this
theorem zuW {ops:Array Oper} {S:Nat→Bool} (hS:zya ops S): ∀(k i:Nat),S k=true→k<ops.size→(((zDX ops.toList [])[k]?).getD 0).testBit i=true→S i=true:=by
 intro k
 induction k using Nat.strongRecOn with
 |_ k ih=>
  intro i hk hlt hb
  have ho:ops.toList[k]?=some ops[k]:=by simp [hlt]
  obtain⟨e,h1,h2,h3⟩:=(zHK ops).2 k _ ho i hb
  have hon:=hS k ops[k] hk (by simp [hlt]) e h1 h2
  rcases h3 with rfl|⟨h3,h4⟩
  ·exact hon
  ·exact ih e.on h3 i hon (by omega) h4
theorem zDB {ops:Array Oper} {S:Nat→Bool} (hS:zya ops S) {j i:Nat} {o:Oper} (ho:ops[j]?=some o) (hr: ∀e∈o.after.toList,Region.binds .any e=true→S e.on=true) (hb:(((zDX ops.toList [])[j]?).getD 0).testBit i=true):S i=true:=by
 have hlt:j<ops.size:=(Array.getElem?_eq_some_iff.1 ho).1
 obtain⟨e,h1,h2,h3⟩:=(zHK ops).2 j o (by simpa using ho) i hb
 have hon:=hr e h1 h2
 rcases h3 with rfl|⟨h3,h4⟩
 ·exact hon
 ·exact zuW hS e.on i hon (by omega) h4
theorem zCe {ops:Array Oper} {S:Nat→Bool} (hS:zya ops S) {j i:Nat} {o:Oper} (ho:ops[j]?=some o) (hi:i<ops.size) (hj:S j=false) (hr: ∀e∈o.after.toList,Region.binds .any e=true→S e.on=true) (hne:i≠j) (hord:ordB (zDX ops.toList []) i j=true):S i=decide (i<j):=by
 unfold ordB at hord
 split at hord
 ·rename_i h
  rw [zDB hS ho hr hord];simp [h]
 ·rename_i h
  cases hs:S i with
  |false=>simp [h]
  |true=>
   have:=zuW hS i j hs hi hord
   rw [hj]at this;cases this
structure Rec where
 i:Nat
 o:Oper
 σ:St
 r:Option (Gd × Eff)
def Rec.next (x:Rec):St:=match x.r with|none=>zhD x.σ x.o.dst zyI|some (gs,e)=>zka x.σ gs x.o e
def Rec.val (x:Rec):SV:=match x.r with|none=>zyI|some (gs,e)=>mkGd gs e.val
def Rec.bq (x:Rec):List (Nat × Ent):=match x.r with|none=> []|some (_,e)=>e.bq
def zIC (P:Program) (sg:SgT) (Rt:Nat→List AV→AV→Prop) (ops:Array Oper) (base:Nat) (ρ:List AV) (x:Rec):Prop:=
 ops[x.i]?=some x.o∧match x.r with
  |none=>zlY x.σ ops x.o=some none
  |some (gs,e)=>zlY x.σ ops x.o=some (some gs)∧zo7 P sg (zaR x.σ) (zHw x.σ.hp (zsM x.σ gs x.o)) x.σ.nv (base+zan*x.i) gs x.o=some e∧e.cc=none∧zAw x.σ.nv (base+zan*x.i) x.σ.hp gs e=true∧
   (zfS ρ gs→ ∀q∈e.bu,q.den ρ)∧ ∀cl,e.call=some cl→ ∃r,ρ[x.σ.nv]?=some r∧(zfS ρ gs→zly Rt cl.fn ((EL.of cl.args).den ρ) ρ r)
def zi9:Nat→St→List Rec→St→Prop
 |_,σ, [],σ'=>σ=σ'
 |i,σ,x::xs,σ'=>x.i=i∧x.σ=σ∧zi9 (i+1) x.next xs σ'
def Rec.log (x:Rec):Option Log:=x.r.map fun(gs,e)=>⟨x.i,zsM x.σ gs x.o,e.bq.map (·.1)⟩
theorem zsI {P:Program} {sg:SgT} {Rt:Nat→List AV→AV→Prop} {ops:Array Oper} {base:Nat} {R:AV→Prop} {L:LK} {js:List JK}: ∀(len i:Nat) (lg:List Log) (σ:St) (t:Tr) (ρ:List AV),i+len=ops.size→
  zve P sg ops true base (List.range' i len) lg σ=some t→t.den Rt R L js ρ→ρ.length=σ.nv→
  ∃(τ:List AV) (xs:List Rec) (σ':St) (lg':List Log),zi9 i σ xs σ'∧xs.length=len∧(∀x∈xs,zIC P sg Rt ops base (ρ++τ) x)∧(ρ++τ).length=σ'.nv∧L js .normal {σ' with nx:=base+zan*ops.size} (ρ++τ)∧zzn ops lg'=true∧(∀y∈lg,y∈lg')∧ ∀x∈xs,∀y,x.log=some y→y∈lg'
 |0,i,lg,σ,t,ρ,hl,ht,hd,hn=>by
  simp only [List.range'_zero,zve,Bool.true_and]at ht
  split at ht
  ·cases ht
  ·rename_i hdr
   simp only [yqsi]at ht;subst ht
   exact⟨[], [],σ,lg,rfl,rfl,by simp,by simpa using hn,by simpa [Tr.den]using hd,by simpa using hdr,fun y hy=>hy,by simp⟩
 |len+1,i,lg,σ,t,ρ,hl,ht,hd,hn=>by
  rw [List.range'_succ]at ht
  unfold zve at ht
  obtain⟨o,hi⟩: ∃o,ops[i]?=some o:=⟨ops[i]'(by omega),by simp [show i<ops.size by omega]⟩
  rw [hi]at ht
  simp only at ht
  unfold zDm zDR at ht
  cases hgu:zlY σ ops o with
  |none=>rw [hgu]at ht;cases ht
  |some r=>
   rw [hgu]at ht
   cases r with
   |none=>
    simp only at ht
    obtain⟨τ,xs,σ',lg',h1,h2,h3,h4,h5,h6,h7,h8⟩:=zsI len (i+1) lg _ t ρ (by omega) ht hd (by rw [zp4];exact hn)
    refine⟨τ,⟨i,o,σ,none⟩::xs,σ',lg',⟨rfl,rfl,h1⟩,by simp [h2],fun x hx=> ?_,h4,h5,h6,h7,fun x hx y hy=> ?_⟩
    ·rcases yqmc.1 hx with rfl|hx
     ·exact⟨hi,hgu⟩
     ·exact h3 x hx
    ·rcases yqmc.1 hx with rfl|hx
     ·simp [Rec.log]at hy
     ·exact h8 x hx y hy
   |some gs=>
    simp only at ht
    split at ht
    ·rename_i e he
     split at ht
     ·cases ht
     ·rename_i hcond
      simp only [Bool.true_and,Bool.not_true,Bool.false_and,Bool.or_false,Bool.or_eq_true,Bool.not_eq_true',not_or,Bool.not_eq_false]at hcond
      have hnq:e.cc=none:=by cases hh:e.cc with|none=>rfl|some x=>rw [hh]at hcond;simp at hcond
      split at ht
      ·cases ht
      ·rename_i k hk
       simp only [yqsi]at ht;subst ht
       have hsc:=hcond.2
       simp only [zAw,yqba,yqal]at hsc
       obtain⟨⟨⟨⟨hs1,hs2⟩,hs3⟩,_⟩,_⟩:=hsc
       rw [←hn]at hs1 hs2 hs3
       unfold zv2 at hd
       obtain⟨hc,hd⟩:=zv0 hd
       simp only [hnq]at hd
       obtain⟨τ0,hτ0,hcall,hk'⟩: ∃τ0:List AV,(ρ++τ0).length=(zka σ gs o e).nv∧(∀cl,e.call=some cl→ ∃r,τ0= [r]∧(zfS ρ gs→zly Rt cl.fn ((EL.of cl.args).den ρ) ρ r))∧k.den Rt R L js (ρ++τ0):=by
        cases hcl:e.call with
        |none=>
         rw [hcl]at hd
         exact⟨[],by rw [zvH];simp [hcl,hnq,hn],by simp,by simpa using hd⟩
        |some cl=>
         rw [hcl]at hd
         obtain⟨r,h1,h2⟩:=hd
         exact⟨[r],by rw [zvH];simp [hcl,hn],fun cl' h=>by cases h;exact⟨r,rfl,h1⟩,h2⟩
       obtain⟨τ,xs,σ',lg',h1,h2,h3,h4,h5,h6,h7,h8⟩:=zsI len (i+1) _ _ k (ρ++τ0) (by omega) hk hk' hτ0
       have hass:ρ++τ0++τ=ρ++(τ0++τ):=List.append_assoc ..
       rw [hass]at h3 h4 h5
       refine⟨τ0++τ,⟨i,o,σ,some (gs,e)⟩::xs,σ',lg',⟨rfl,rfl,h1⟩,by simp [h2],fun x hx=> ?_,h4,h5,h6,fun y hy=>h7 y (by simp [hy]),fun x hx y hy=> ?_⟩
       ·rcases yqmc.1 hx with rfl|hx
        ·refine⟨hi,hgu,he,hnq,hcond.2,fun hg q hq=>(Cn.j7 (hs2 q hq)).2 (hc ((zjS hs1).1 hg) q hq),fun cl hcl=> ?_⟩
         obtain⟨r,hr,h2⟩:=hcall cl hcl
         rw [hcl]at hs3
         simp only [yqba]at hs3
         subst hr
         exact⟨r,by simp only;rw [←hn];simp,fun hg=>(zu1 hs3.1 (EL.ko (by simpa using hs3.2))).2 (h2 ((zjS hs1).1 hg))⟩
        ·exact h3 x hx
       ·rcases yqmc.1 hx with rfl|hx
        ·simp only [Rec.log,Option.map_some,yqsi]at hy
         subst hy
         exact h7 _ (by simp)
        ·exact h8 x hx y hy
    ·cases ht
def slF (n:Nat) (sl0:Nat→SV) (xs:List Rec) (S:Nat→Bool):Nat→SV:=xs.foldl (fun sl x=>if S x.i then zmg n sl x.o.dst x.val else sl) sl0
def hpF (hp0:Nat→Option Ent) (xs:List Rec) (S:Nat→Bool):Nat→Option Ent:=xs.foldl (fun hp x=>if S x.i then zfe hp x.bq else hp) hp0
section
variable {n:Nat} {S S':Nat→Bool} {d t:Nat}
theorem zne: ∀(xs:List Rec) {sl sl':Nat→SV},sl d=sl' d→(∀x∈xs,x.o.dst=some d→S x.i=S' x.i)→slF n sl xs S d=slF n sl' xs S' d
 | [],_,_,h,_=>h
 |x::xs,sl,sl',h,hs=>by
  refine zne xs (sl:=if S x.i then zmg n sl x.o.dst x.val else sl) (sl':=if S' x.i then zmg n sl' x.o.dst x.val else sl') ?_ fun y hy=>hs y (by simp [hy])
  by_cases hd:x.o.dst=some d
  ·rw [←hs x (by simp) hd]
   split
   ·simp only [zmg,hd,true_and];rw [h]
   ·exact h
  ·have hu: ∀sl:Nat→SV,zmg n sl x.o.dst x.val d=sl d:=fun sl=>by simp [zmg,hd]
   have h1:(if S x.i then zmg n sl x.o.dst x.val else sl) d=sl d:=by split;exact hu sl;rfl
   have h2:(if S' x.i then zmg n sl' x.o.dst x.val else sl') d=sl' d:=by split;exact hu sl';rfl
   rw [h1,h2,h]
theorem zvi (xs:List Rec) {sl:Nat→SV} (hs: ∀x∈xs,x.o.dst=some d→S x.i=false):slF n sl xs S d=sl d:=by
 have h1:=zne (n:=n) (S:=S) (S':=fun _=>false) xs (sl:=sl) (sl':=sl) (d:=d) rfl hs
 rw [h1]
 clear h1 hs
 induction xs generalizing sl with
 |nil=>rfl
 |cons x xs ih=>exact ih
theorem zC5 (hd:n≤d): ∀(xs:List Rec) {sl:Nat→SV},slF n sl xs S d=sl d
 | [],_=>rfl
 |x::xs,sl=>by
  have:=zC5 hd xs (sl:=if S x.i then zmg n sl x.o.dst x.val else sl)
  refine Eq.trans this ?_
  split
  ·simp only [zmg];rw [if_neg (by omega)]
  ·rfl
theorem zFz {y:Rec} (hd:d<n) (hy:y.o.dst=some d) (hS:S y.i=true): ∀(xs:List Rec) {sl:Nat→SV},y∈xs→(∀x∈xs,x≠y→x.o.dst≠some d)→slF n sl xs S d=y.val
 | [],_,h,_=>by simp at h
 |x::xs,sl,h,hu=>by
  by_cases hm:y∈xs
  ·exact zFz hd hy hS xs (sl:=if S x.i then zmg n sl x.o.dst x.val else sl) hm fun z hz=>hu z (by simp [hz])
  ·have hx:y=x:=by rcases yqmc.1 h with h|h;exact h;exact absurd h hm
   subst hx
   have:=zvi (n:=n) (S:=S) (d:=d) xs (sl:=zmg n sl y.o.dst y.val) (fun z hz hz'=>absurd hz' (hu z (by simp [hz]) (fun hh=>hm (hh▸hz))))
   show slF n (if S y.i then zmg n sl y.o.dst y.val else sl) xs S d=_
   rw [if_pos hS,this]
   simp [zmg,hy,hd]
theorem zvb {hp hp':Nat→Option Ent} {l:List (Nat × Ent)} (h:hp t=hp' t):zfe hp l t=zfe hp' l t:=by
 induction l generalizing hp hp' with
 |nil=>exact h
 |cons p l ih=>
  refine ih ?_
  show(if t=p.1 then some p.2 else hp t)=(if t=p.1 then some p.2 else hp' t)
  rw [h]
theorem zAt {hp hp':Nat→Option Ent} {l:List (Nat × Ent)} (h:t∈l.map (·.1)):zfe hp l t=zfe hp' l t:=by
 induction l generalizing hp hp' with
 |nil=>simp at h
 |cons p l ih=>
  by_cases hm:t∈l.map (·.1)
  ·exact ih hm
  ·have ht:t=p.1:=by simp only [List.map_cons,yqmc]at h;exact h.resolve_right hm
   refine zvb (l:=l) ?_
   show(if t=p.1 then some p.2 else hp t)=(if t=p.1 then some p.2 else hp' t)
   rw [if_pos ht,if_pos ht]
theorem zvm {hp:Nat→Option Ent} {l:List (Nat × Ent)} (h:t∉l.map (·.1)):zfe hp l t=hp t:=
 zkb fun e he=>h (List.mem_map.2 ⟨_,he,rfl⟩)
theorem zm8: ∀(xs:List Rec) {hp hp':Nat→Option Ent},hp t=hp' t→(∀x∈xs,t∈x.bq.map (·.1)→S x.i=S' x.i)→hpF hp xs S t=hpF hp' xs S' t
 | [],_,_,h,_=>h
 |x::xs,hp,hp',h,hs=>by
  refine zm8 xs (hp:=if S x.i then zfe hp x.bq else hp) (hp':=if S' x.i then zfe hp' x.bq else hp') ?_ fun y hy=>hs y (by simp [hy])
  by_cases hd:t∈x.bq.map (·.1)
  ·rw [←hs x (by simp) hd]
   split
   ·exact zvb h
   ·exact h
  ·have h1:(if S x.i then zfe hp x.bq else hp) t=hp t:=by split;exact zvm hd;rfl
   have h2:(if S' x.i then zfe hp' x.bq else hp') t=hp' t:=by split;exact zvm hd;rfl
   rw [h1,h2,h]
theorem zv9 (xs:List Rec) {hp:Nat→Option Ent} (hs: ∀x∈xs,t∈x.bq.map (·.1)→S x.i=false):hpF hp xs S t=hp t:=by
 have h1:=zm8 (S:=S) (S':=fun _=>false) xs (hp:=hp) (hp':=hp) (t:=t) rfl hs
 rw [h1]
 clear h1 hs
 induction xs generalizing hp with
 |nil=>rfl
 |cons x xs ih=>exact ih
end
section
variable {n:Nat} {S:Nat→Bool} {d t:Nat}
theorem Rec.lj (x:Rec):zaR x.next=zmg x.σ.sl.length (zaR x.σ) x.o.dst x.val:=by
 obtain⟨i,o,σ,r⟩:=x
 cases r with
 |none=>exact zpE
 |some ge=>exact zzv
theorem Rec.ky (x:Rec):zas x.next.hp=zfe (zas x.σ.hp) x.bq:=by
 obtain⟨i,o,σ,r⟩:=x
 cases r with
 |none=>simp only [Rec.next,Rec.bq,zqt];rfl
 |some ge=>exact zzH
theorem Rec.kf (x:Rec):x.next.sl.length=x.σ.sl.length:=by
 obtain⟨i,o,σ,r⟩:=x
 cases r with
 |none=>exact zoi
 |some ge=>exact zxq
theorem zi9.range: ∀{xs:List Rec} {i:Nat} {σ σ':St},zi9 i σ xs σ'→ ∀x∈xs,i≤x.i∧x.i<i+xs.length
 | [],_,_,_,_,x,hx=>by simp at hx
 |y::xs,i,σ,σ',h,x,hx=>by
  rcases yqmc.1 hx with rfl|hx
  ·have:=h.1;simp only [yqlc];omega
  ·have:=zi9.range h.2.2 x hx;simp only [yqlc];omega
theorem zi9.ex: ∀{xs:List Rec} {i:Nat} {σ σ':St},zi9 i σ xs σ'→ ∀j,i≤j→j<i+xs.length→ ∃x∈xs,x.i=j
 | [],i,_,_,_,j,h1,h2=>by simp at h2;omega
 |y::xs,i,σ,σ',h,j,h1,h2=>by
  by_cases hj:j=i
  ·exact⟨y,by simp,by rw [hj];exact h.1⟩
  ·simp only [yqlc]at h2
   obtain⟨x,hx,he⟩:=zi9.ex h.2.2 j (by omega) (by omega)
   exact⟨x,by simp [hx],he⟩
theorem zi9.inj: ∀{xs:List Rec} {i:Nat} {σ σ':St},zi9 i σ xs σ'→ ∀x∈xs,∀y∈xs,x.i=y.i→x=y
 | [],_,_,_,_,x,hx,_,_,_=>by simp at hx
 |z::xs,i,σ,σ',h,x,hx,y,hy,he=>by
  have hz:=h.1
  rcases yqmc.1 hx with h1|h1<;>rcases yqmc.1 hy with h2|h2
  ·rw [h1,h2]
  ·subst h1;have:=(zi9.range h.2.2 y h2).1;omega
  ·subst h2;have:=(zi9.range h.2.2 x h1).1;omega
  ·exact zi9.inj h.2.2 x h1 y h2 he
theorem zi9.sl: ∀{xs:List Rec} {i:Nat} {σ σ':St},zi9 i σ xs σ'→σ.sl.length=n→(∀x∈xs,x.σ.sl.length=n∧ ∀d,zaR x.σ d=slF n (zaR σ) xs (fun k=>decide (k<x.i)) d)∧σ'.sl.length=n∧zaR σ'=slF n (zaR σ) xs fun _=>true
 | [],i,σ,σ',h,hn=>by
  have h:σ=σ':=h
  subst h
  exact⟨by simp,hn,rfl⟩
 |y::xs,i,σ,σ',h,hn=>by
  obtain⟨h1,h2,h3⟩:=h
  subst h2
  obtain⟨q1,q2,q3⟩:=zi9.sl h3 (by rw [y.kf];exact hn)
  rw [y.lj,hn]at q1 q3
  refine⟨fun x hx=> ?_,q2,q3⟩
  rcases yqmc.1 hx with rfl|hx
  ·refine⟨hn,fun d=>(zvi _ fun z hz _=> ?_).symm⟩
   rcases yqmc.1 hz with rfl|hz
   ·simp
   ·have:=(zi9.range h3 z hz).1
    simp only [decide_eq_false_iff_not];omega
  ·refine⟨(q1 x hx).1,fun d=> ?_⟩
   rw [(q1 x hx).2 d]
   have:=(zi9.range h3 x hx).1
   show _=slF n (if decide (y.i<x.i)then zmg n (zaR y.σ) y.o.dst y.val else zaR y.σ) xs (fun k=>decide (k<x.i)) d
   rw [if_pos (by simp only [decide_eq_true_eq];omega)]
theorem zi9.hp: ∀{xs:List Rec} {i:Nat} {σ σ':St},zi9 i σ xs σ'→(∀x∈xs,∀t,zas x.σ.hp t=hpF (zas σ.hp) xs (fun k=>decide (k<x.i)) t)∧zas σ'.hp=hpF (zas σ.hp) xs fun _=>true
 | [],i,σ,σ',h=>by
  have h:σ=σ':=h
  subst h
  exact⟨by simp,rfl⟩
 |y::xs,i,σ,σ',h=>by
  obtain⟨h1,h2,h3⟩:=h
  subst h2
  obtain⟨q1,q3⟩:=zi9.hp h3
  rw [y.ky]at q1 q3
  refine⟨fun x hx=> ?_,q3⟩
  rcases yqmc.1 hx with rfl|hx
  ·refine fun d=>(zv9 _ fun z hz _=> ?_).symm
   rcases yqmc.1 hz with rfl|hz
   ·simp
   ·have:=(zi9.range h3 z hz).1
    simp only [decide_eq_false_iff_not];omega
  ·intro t
   rw [q1 x hx t]
   have:=(zi9.range h3 x hx).1
   show _=hpF (if decide (y.i<x.i)then zfe (zas y.σ.hp) y.bq else zas y.σ.hp) xs (fun k=>decide (k<x.i)) t
   rw [if_pos (by simp only [decide_eq_true_eq];omega)]
theorem zF2 {y:Rec} {hp1:Nat→Option Ent} (hS:S y.i=true) (ht:t∈y.bq.map (·.1)): ∀{xs:List Rec} {i:Nat} {σ σ':St} {hp0:Nat→Option Ent},zi9 i σ xs σ'→y∈xs→(∀x∈xs,x.i≠y.i→t∈x.bq.map (·.1)→S x.i=decide (x.i<y.i))→hpF hp0 xs S t=zfe hp1 y.bq t
 | [],_,_,_,_,_,h,_=>by simp at h
 |x::xs,i,σ,σ',hp0,hc,hm,hs=>by
  by_cases hx:y=x
  ·subst hx
   have:=zv9 (S:=S) (t:=t) xs (hp:=zfe hp0 y.bq) (fun z hz hz'=>by
    have hlt:=(zi9.range hc.2.2 z hz).1
    have h1:=hc.1
    rw [hs z (by simp [hz]) (by omega) hz']
    simp only [decide_eq_false_iff_not];omega)
   show hpF (if S y.i then zfe hp0 y.bq else hp0) xs S t=_
   rw [if_pos hS,this]
   exact zAt ht
  ·have hm':y∈xs:=by rcases yqmc.1 hm with h|h;exact absurd h hx;exact h
   exact zF2 hS ht (hp0:=if S x.i then zfe hp0 x.bq else hp0) hc.2.2 hm' fun z hz=>hs z (by simp [hz])
end
theorem zxF {α:Type} {p p':α→Bool}: ∀(l:List α),(∀k∈l,p' k=true→p k=true)→(∃j∈l,p j=true∧p' j=false)→(l.filter p').length<(l.filter p).length
 | [],_,h=>by obtain⟨j,hj,_⟩:=h;simp at hj
 |x::l,hs,h=>by
  have hle:(l.filter p').length≤(l.filter p).length:=by
   have: ∀(l:List α),(∀k∈l,p' k=true→p k=true)→(l.filter p').length≤(l.filter p).length:=by
    intro l
    induction l with
    |nil=>intro _;simp
    |cons y l ih=>
     intro h
     have:=ih fun k hk=>h k (by simp [hk])
     have hy:=h y (by simp)
     cases h1:p' y with
     |false=>
      cases h2:p y with
      |false=>simpa [h1,h2]using this
      |true=>simp only [List.filter_cons,h1,h2,yqft,if_false,if_true,yqlc];omega
     |true=>simpa [h1,hy h1]using this
   exact this l fun k hk=>hs k (by simp [hk])
  obtain⟨j,hj,h1,h2⟩:=h
  rcases yqmc.1 hj with rfl|hj
  ·simp only [List.filter_cons,h1,h2,yqft,if_false,if_true,yqlc];omega
  ·have:=zxF l (fun k hk=>hs k (by simp [hk])) ⟨j,hj,h1,h2⟩
   have hx:=hs x (by simp)
   cases h3:p' x with
   |false=>
    cases h4:p x with
    |false=>simpa [h3,h4]using this
    |true=>simp only [List.filter_cons,h3,h4,yqft,if_false,if_true,yqlc];omega
   |true=>simpa [h3,hx h3]using this
section
variable {ops:Array Oper} {listed:Array Bool}
theorem zCS (hb: ∀j o,ops[j]?=some o→ ∀e∈o.after.toList,Region.binds .any e=true→e.on<j) (hsz:listed.size=ops.size) (hr:Region.ready .any ops listed= []): ∀k,k<ops.size→listed.getD k true=true:=by
 intro k
 induction k using Nat.strongRecOn with
 |_ k ih=>
  intro hk
  cases hs:listed.getD k true with
  |true=>rfl
  |false=>
   have:k∈Region.ready .any ops listed:=mem_ready.2 ⟨hs,ops[k],by simp [hk],fun e he hbi=>by
    have hlt:=hb k ops[k] (by simp [hk]) e (by simpa using he) hbi
    have:=ih e.on hlt (by omega)
    have h2:e.on<listed.size:=by omega
    simp only [Array.getD_eq_getD_getElem?,Array.getElem?_eq_getElem h2,Option.getD_some]at this ⊢
    exact this⟩
   rw [hr]at this;cases this
theorem zFh (hsz:listed.size=ops.size) {j:Nat} (hj:j<ops.size) (k:Nat):(listed.setIfInBounds j true).getD k true=(decide (k=j)||listed.getD k true):=by
 by_cases h:j=k
 ·subst h
  simp [Array.getD_eq_getD_getElem?,show j<listed.size by omega]
 ·rw [getD_set_ne true h];simp [Ne.symm h]
variable {P:Program} {sg:SgT} {Rt:Nat→List AV→AV→Prop}
theorem zBf (hop:zGH P sg Rt) {F:Fix} {σ σ':St} {xs:List Rec} {ρ:List AV} {lg:List Log} {n:Nat} {Q:Exit→Act→World→Prop} (hc:zi9 0 σ xs σ') (hlen:xs.length=ops.size) (hok: ∀x∈xs,zIC P sg Rt ops σ.nx ρ x) (hdr:zzn ops lg=true) (hlog: ∀x∈xs,∀y,x.log=some y→y∈lg) (hn:σ.sl.length=n)
  (hQ: ∀(c:Cx) (a:Act),c.ρ=ρ→c.w0=F.w0→c.A=F.A→c.Mu=F.Mu→(∀t,c.U t→t<σ.nx+zan*ops.size)→Rel c n (zaR σ') (zas σ'.hp) a→Q .normal a c.w):
  ∀(fuel:Nat) (listed:Array Bool) (a:Act) (c:Cx),listed.size=ops.size→zya ops (fun k=>listed.getD k true)→c.ρ=ρ→c.w0=F.w0→c.A=F.A→c.Mu=F.Mu→
   (∀t,c.U t→t<σ.nx∨ ∃k,k<ops.size∧listed.getD k true=true∧σ.nx+zan*k≤t∧t<σ.nx+zan*k+zan)→Rel c n (slF n (zaR σ) xs fun k=>listed.getD k true) (hpF (zas σ.hp) xs fun k=>listed.getD k true) a→
   ((List.range ops.size).filter fun k=> !listed.getD k true).length≤fuel→wpAny P .any ops Q fuel listed a c.w:=by
 simp only [zzn,yqba,yqal,Bool.or_eq_true,beq_iff_eq,Bool.not_eq_true',decide_eq_true_eq]at hdr
 obtain⟨⟨d1,d2⟩,d3⟩:=hdr
 have hmz: ∀j o,ops[j]?=some o→(o,j)∈ops.toList.zipIdx:=fun j o h=>List.mk_mem_zipIdx_iff_getElem?.2 (by simpa using h)
 have hb: ∀j o,ops[j]?=some o→ ∀e∈o.after.toList,Region.binds .any e=true→e.on<j:=fun j o h e he hbi=>by
  rcases d2 (o,j) (hmz j o h) e he with h|h
  ·rw [hbi]at h;cases h
  ·exact h
 obtain⟨c1,c2,c3⟩:=hc.sl hn
 obtain⟨c4,c5⟩:=hc.hp
 have hend: ∀(listed:Array Bool) (a:Act) (c:Cx),listed.size=ops.size→c.ρ=ρ→c.w0=F.w0→c.A=F.A→c.Mu=F.Mu→
   (∀t,c.U t→t<σ.nx∨ ∃k,k<ops.size∧listed.getD k true=true∧σ.nx+zan*k≤t∧t<σ.nx+zan*k+zan)→Rel c n (slF n (zaR σ) xs fun k=>listed.getD k true) (hpF (zas σ.hp) xs fun k=>listed.getD k true) a→
   (∀k,k<ops.size→listed.getD k true=true)→Q .normal a c.w:=by
  intro listed a c hsz h1 h2 h3 h4 h5 h6 hall
  refine hQ c a h1 h2 h3 h4 (fun t ht=> ?_) ?_
  ·rcases h5 t ht with h|⟨k,hk,_,_,h⟩
   ·simp only [zan]at*;omega
   ·simp only [zan]at*;omega
  ·have e1:(slF n (zaR σ) xs fun k=>listed.getD k true)=zaR σ':=by
    rw [c3];funext d
    exact zne xs rfl fun x hx _=>by have:=(hc.range x hx).2;exact hall x.i (by omega)
   have e2:(hpF (zas σ.hp) xs fun k=>listed.getD k true)=zas σ'.hp:=by
    rw [c5];funext d
    exact zm8 xs rfl fun x hx _=>by have:=(hc.range x hx).2;exact hall x.i (by omega)
   rw [e1,e2]at h6;exact h6
 intro fuel
 induction fuel with
 |zero=>
  intro listed a c hsz hcl h1 h2 h3 h4 h5 h6 hcnt
  have hall: ∀k,k<ops.size→listed.getD k true=true:=by
   intro k hk
   have:=List.length_eq_zero_iff.1 (Nat.le_zero.1 hcnt)
   have:=List.filter_eq_nil_iff.1 this k (by simpa using hk)
   simpa using this
  refine⟨?_,hend listed a c hsz h1 h2 h3 h4 h5 h6 hall⟩
  refine List.eq_nil_iff_forall_not_mem.2 fun j hj=> ?_
  obtain⟨q1,o,q2,_⟩:=mem_ready.1 hj
  rw [hall j (Array.getElem?_eq_some_iff.1 q2).1]at q1;cases q1
 |succ fuel ih=>
  intro listed a c hsz hcl h1 h2 h3 h4 h5 h6 hcnt
  refine⟨fun hr=>hend listed a c hsz h1 h2 h3 h4 h5 h6 (zCS hb hsz hr),fun j hj=> ?_⟩
  obtain⟨q1,o,q2,q3⟩:=mem_ready.1 hj
  have hjs:j<ops.size:=(Array.getElem?_eq_some_iff.1 q2).1
  have hedge: ∀e∈o.after.toList,Region.binds .any e=true→listed.getD e.on true=true:=fun e he hbi=>by
   have h9:=q3 e (by simpa using he) hbi
   have hlt:=hb j o q2 e he hbi
   have h8:e.on<listed.size:=by omega
   simp only [Array.getD_eq_getD_getElem?,Array.getElem?_eq_getElem h8,Option.getD_some]at h9 ⊢
   exact h9
  obtain⟨y,hy,hyj⟩:=hc.ex j (by omega) (by omega)
  have hyo:y.o=o:=by have:=(hok y hy).1;rw [hyj,q2]at this;exact(Option.some.inj this).symm
  have hxi: ∀x∈xs,x.i<ops.size:=fun x hx=>by have:=(hc.range x hx).2;omega
  have hxo: ∀x∈xs,ops[x.i]?=some x.o:=fun x hx=>(hok x hx).1
  have agree: ∀x∈xs,x.i≠j→ordB (zDX ops.toList []) x.i j=true→listed.getD x.i true=decide (x.i<j):=fun x hx hne ho=>zCe (S:=fun k=>listed.getD k true) hcl q2 (hxi x hx) q1 hedge hne ho
  have hself: ∀x∈xs,x.i=j→listed.getD x.i true=decide (x.i<j):=fun x hx he=>by rw [he,q1];simp
  have hlook: ∀d,d∈zzD ops o→zaR y.σ d=slF n (zaR σ) xs (fun k=>listed.getD k true) d:=by
   intro d hd
   rw [(c1 y hy).2 d,hyj]
   refine zne xs rfl fun x hx hxd=> ?_
   by_cases he:x.i=j
   ·exact(hself x hx he).symm
   ·rcases d3 (o,j) (hmz j o q2) (x.o,x.i) (hmz _ _ (hxo x hx))with h|h
    ·exact absurd h he
    ·simp only [hxd,yqba,Bool.or_eq_true,Bool.not_eq_true']at h
     rcases h.2 with h|h
     ·rw [List.contains_iff_mem.2 hd]at h;cases h
     ·exact(agree x hx he h).symm
  have hW: ∀x∈xs,∀t,t∈x.bq.map (·.1)→ ∀ly,y.log=some ly→(t∈ly.R∨t∈ly.W)→listed.getD x.i true=decide (x.i<j):=by
   intro x hx t ht ly hly hm
   by_cases he:x.i=j
   ·exact hself x hx he
   ·cases hxr:x.r with
    |none=>simp [Rec.bq,hxr]at ht
    |some ge=>
     obtain⟨gs,e⟩:=ge
     have hlx:x.log=some ⟨x.i,zsM x.σ gs x.o,e.bq.map (·.1)⟩:=by simp [Rec.log,hxr]
     have hly':ly.i=j:=by
      unfold Rec.log at hly
      obtain⟨ge',_,rfl⟩:=yqme.1 hly
      exact hyj
     have h9:=d1 _ (hlog x hx _ hlx) _ (hlog y hy _ hly)
     simp only [hly']at h9
     rcases h9 with(h|h)|h
     ·exact absurd h he
     ·exfalso
      have:zG1 (e.bq.map (·.1)) (ly.R++ly.W)=true:=by
       simp only [zG1,List.any_eq_true]
       exact⟨t,by simpa [Rec.bq,hxr]using ht,List.contains_iff_mem.2 (by simpa using hm)⟩
      rw [this]at h;cases h
     ·exact agree x hx he h
  have hnext: ∀k,(listed.setIfInBounds j true).getD k true=(decide (k=j)||listed.getD k true):=zFh hsz hjs
  have hsl':slF n (zaR σ) xs (fun k=>(listed.setIfInBounds j true).getD k true)=zmg n (slF n (zaR σ) xs fun k=>listed.getD k true) o.dst y.val:=by
   funext d
   unfold zmg
   split
   ·rename_i hd
    refine zFz hd.2 (by rw [hyo];exact hd.1) (by rw [hnext,hyj];simp) xs hy fun x hx hne hxd=> ?_
    have he:x.i≠j:=fun h=>hne (hc.inj x hx y hy (by rw [h,hyj]))
    rcases d3 (o,j) (hmz j o q2) (x.o,x.i) (hmz _ _ (hxo x hx))with h|h
    ·exact he h
    ·simp only [hxd,yqba,bne_iff_ne,ne_eq]at h
     exact h.1 hd.1
   ·rename_i hd
    by_cases hdn:d<n
    ·refine zne xs rfl fun x hx hxd=> ?_
     have he:x.i≠j:=fun h=>by
      have:x=y:=hc.inj x hx y hy (by rw [h,hyj])
      subst this
      exact hd ⟨by rw [←hyo];exact hxd,hdn⟩
     rw [hnext];simp [he]
    ·rw [zC5 (by omega),zC5 (by omega)]
  have hhp':hpF (zas σ.hp) xs (fun k=>(listed.setIfInBounds j true).getD k true)=zfe (hpF (zas σ.hp) xs fun k=>listed.getD k true) y.bq:=by
   funext t
   by_cases ht:t∈y.bq.map (·.1)
   ·refine zF2 (by rw [hnext,hyj];simp) ht hc hy fun x hx hne hxt=> ?_
    rw [hyj]at hne ⊢
    rw [hnext]
    simp only [hne,decide_false,Bool.false_or]
    cases hyr:y.r with
    |none=>simp [Rec.bq,hyr]at ht
    |some ge=>exact hW x hx t hxt _ (by simp only [Rec.log,hyr,Option.map_some];rfl) (.inr (by simpa [Rec.bq,hyr]using ht))
   ·rw [zvm ht]
    refine zm8 xs rfl fun x hx hxt=> ?_
    have he:x.i≠j:=fun h=>by
     have:x=y:=hc.inj x hx y hy (by rw [h,hyj])
     subst this;exact ht hxt
    rw [hnext];simp [he]
  have hcnt':((List.range ops.size).filter fun k=> !(listed.setIfInBounds j true).getD k true).length≤fuel:=by
   have:=zxF (p:=fun k=> !listed.getD k true) (p':=fun k=> !(listed.setIfInBounds j true).getD k true) (List.range ops.size) (fun k _ hk=>by rw [hnext]at hk;simp at hk ⊢;exact hk.2) ⟨j,by simpa using hjs,by simp [q1],by rw [hnext];simp⟩
   omega
  have hcl':zya ops (fun k=>(listed.setIfInBounds j true).getD k true):=by
   intro k ok hk hko e he hbi
   simp only [hnext,Bool.or_eq_true,decide_eq_true_eq]at hk ⊢
   rcases hk with rfl|hk
   ·rw [q2]at hko;cases hko;exact .inr (hedge e he hbi)
   ·exact .inr (hcl k ok hk hko e he hbi)
  have hgoon: ∀(a':Act) (c':Cx),c'.ρ=ρ→c'.w0=F.w0→c'.A=F.A→c'.Mu=F.Mu→(∀t,c'.U t→c.U t∨(σ.nx+zan*j≤t∧t<σ.nx+zan*j+zan))→Rel c' n (zmg n (slF n (zaR σ) xs fun k=>listed.getD k true) o.dst y.val) (zfe (hpF (zas σ.hp) xs fun k=>listed.getD k true) y.bq) a'→
    wpAny P .any ops Q fuel (listed.setIfInBounds j true) a' c'.w:=by
   intro a' c' g1 g2 g3 g4 g5 g6
   refine ih _ a' c' (by simpa using hsz) hcl' g1 g2 g3 g4 (fun t ht=> ?_) (by rw [hsl',hhp'];exact g6) hcnt'
   rcases g5 t ht with h|h
   ·rcases h5 t h with h|⟨k,k1,k2,k3,k4⟩
    ·exact .inl h
    ·exact .inr ⟨k,k1,by rw [hnext,k2];simp,k3,k4⟩
   ·exact .inr ⟨j,hjs,by rw [hnext];simp,h.1,h.2⟩
  have hgt: ∀j' want d,o.guard=some (j',want)→(ops[j']?).bind (·.dst)=some d→SR c [zaR y.σ d] [a.tmps.getD d Go.undef]:=by
   intro j' want d hg hd
   rw [hlook d (by simp only [zzD,hg,yqma];exact .inr (by simp [hd]))]
   exact h6.c7 d
  obtain⟨_,hrec⟩:=hok y hy
  cases hyr:y.r with
  |none=>
   rw [hyr]at hrec
   have hgo:=zs7 (c:=c) (a:=a) hrec (fun j' want d hg hd=>hgt j' want d (by rw [←hyo];exact hg) hd)
   unfold wpOp
   simp only [q2]
   rw [hyo]at hgo
   rw [if_neg (by simp [show Region.wanted o (yielded ops a.tmps)=false from hgo])]
   have hv:y.val=zyI:=by simp [Rec.val,hyr]
   have he:y.bq= []:=by simp [Rec.bq,hyr]
   refine hgoon _ c h1 h2 h3 h4 (fun t ht=> .inl ht) ?_
   rw [hv,he]
   exact h6.put zy2 o.dst
  |some ge=>
   obtain⟨gs,e⟩:=ge
   rw [hyr]at hrec
   simp only at hrec
   obtain⟨r1,r2,r3,r4,r5,r6⟩:=hrec
   rw [hyo,hyj]at r2
   rw [hyj]at r4
   rw [hyo]at r1
   have hgo:=zs7 (c:=c) (a:=a) r1 hgt
   have hv:y.val=mkGd gs e.val:=by simp [Rec.val,hyr]
   have he:y.bq=e.bq:=by simp [Rec.bq,hyr]
   simp only [zAw,yqba,yqal]at r4
   obtain⟨_,hs5⟩:=r4
   have hly:y.log=some ⟨y.i,zsM y.σ gs y.o,e.bq.map (·.1)⟩:=by simp [Rec.log,hyr]
   refine zC9 (c:=c) hop q2 h6 hgo (fun t ht=>hlook t (by simp only [zzD,yqma,List.mem_filterMap];exact .inl ⟨.tmp t,by simpa using ht,rfl⟩)) (fun t x hx=> ?_) (fun t t1 t2 hU=> ?_) r2 (fun hne t x hx=> ?_) (by rw [h1];exact r5) (by rw [h1];exact r6) (fun x hx=>by rw [r3]at hx;cases hx) (fun a' c' hs hr=> ?_)
   ·unfold zHw at hx
    split at hx
    ·rename_i hR
     rw [(c4 y hy) t]at hx
     rw [←hx]
     refine zm8 xs rfl fun z hz hzt=> ?_
     rw [hyj]
     exact hW z hz t hzt _ hly (.inl (by rw [hyo];simpa using hR))
    ·cases hx
   ·rcases h5 t hU with h|⟨k,k1,k2,k3,k4⟩
    ·simp only [zan]at*;omega
    ·have:k≠j:=by rintro rfl;rw [q1]at k2;cases k2
     simp only [zan]at*;omega
   ·have:=hs5 _ hx
    have hem:gs.isEmpty=false:=by cases gs;exact absurd rfl hne;rfl
    simp only [hem,Bool.false_or,Bool.false_and,Bool.or_false,yqba,decide_eq_true_eq]at this
    refine⟨this.1.1,this.1.2, ?_⟩
    have h3:=this.2
    split at h3
    ·exact⟨_,_,rfl,h3⟩
    ·cases h3
   ·exact hgoon a' c' (hs.ρ.trans h1) (hs.w0.trans h2) (hs.A.trans h3) (hs.Mu.trans h4) hs.U (by rw [hv,he];exact hr)
end
theorem Rel.world {c:Cx} {n:Nat} {sl:Nat→SV} {hp:Nat→Option Ent} {a:Act} (h:Rel c n sl hp a) (w:World) (h1:w.heap=c.w.heap) (h2:w.os=c.w.os) (h3:w.tape=c.w.tape) (h4:w.output=c.w.output):Rel {c with w:=w} n sl hp a:=by
 refine h.change (fun _=>False) ⟨rfl,rfl,fun _ _ hb=>hb,fun b _ _=>by show w.heap[b]?=_;rw [h1],fun _ _ hk=>⟨hk,rfl⟩,fun _ _ _=>⟨Nat.le_refl _,fun _=>⟨rfl,fun b _ _=>by show w.heap[b]?=_;rw [h1]⟩⟩⟩ ⟨h2.trans h.base.os,h3.trans h.base.tape,h4.trans h.base.output,by show _≤w.heap.size;rw [h1];exact h.base.size,h.base.pins,fun b hb hm=>by show w.heap[b]?=_;rw [h1];exact h.base.block b hb hm,h.base.pk,h.base.lo⟩ (fun t _=>⟨rfl,rfl,rfl,fun g hk=>hk⟩) (fun t _ b _=>by show w.heap[b]?=_;rw [h1]) (fun t ht=>ht.elim)
  ⟨h.gw.nodup,h.gw.cr,h.gw.allow,fun t b hb=>by show b<w.heap.size;rw [h1];exact h.gw.inb t b hb⟩ h.ca h.ct
theorem zDN {P:Program} {sg:SgT} {Rt:Nat→List AV→AV→Prop} (hmx:P.follows .mixedOrders=true) (hop:zGH P sg Rt) (hnil:zBJ P sg):zz4 P sg Rt:=by
 intro id ops draw σ t _ hsc hnx ht F R L js ρ a w hL hd hr Q hq
 obtain⟨c,rfl,rfl,h1,h2,h3,h4,h5,h6⟩:=hr
 rw [List.range_eq_range']at ht
 cases draw with
 |false=>
  refine wp_region ?_
  rw [List.range_eq_range']
  exact zDG hop hnil (n:=σ.sl.length) ops.size 0 [] σ t (by omega) ht c a ⟨h1,h2,h3,h4,rfl,by simpa using h5,h6⟩ hd (fun c' a' σ' hp hl hrel=>hq [] .normal σ' c'.ρ a' c'.w hp hl hrel)
 |true=>
  refine wp_region_any hmx ?_
  obtain⟨τ,xs,σ',lg',g1,g2,g3,g4,g5,g6,_,g8⟩:=zsI ops.size 0 [] σ t c.ρ (by omega) ht hd h4
  have hext:=h6.ext (fun i=>by rw [h4];exact St.l6 hsc i) (fun t e he=>by rw [h4];exact St.lp hsc t e he) τ
  have hw:=hext.world {c.w with drawn:=c.w.drawn+1} rfl rfl rfl rfl
  have hfalse: ∀k,k<ops.size→(Array.replicate ops.size false).getD k true=false:=fun k hk=>by simp [Array.getD_eq_getD_getElem?,hk]
  have hxi: ∀x∈xs,x.i<ops.size:=fun x hx=>by have:=(g1.range x hx).2;omega
  have e1:(slF σ.sl.length (zaR σ) xs fun k=>(Array.replicate ops.size false).getD k true)=zaR σ:=by
   funext d;exact zvi _ fun x hx _=>hfalse x.i (hxi x hx)
  have e2:(hpF (zas σ.hp) xs fun k=>(Array.replicate ops.size false).getD k true)=zas σ.hp:=by
   funext d;exact zv9 _ fun x hx _=>hfalse x.i (hxi x hx)
  refine zBf (F:=F) (n:=σ.sl.length) (c:={c.ext τ with w:={c.w with drawn:=c.w.drawn+1}}) hop g1 g2 g3 g6 g8 rfl (fun c' a' k1 k2 k3 k4 k5 k6=> ?_) ops.size (Array.replicate ops.size false) a (by simp) (fun k o hk ho=> ?_) rfl h1 h2 h3 (fun t ht=> .inl (h5 t ht)) (by rw [e1,e2];exact hw) (Nat.le_trans (List.length_filter_le _ _) (by simp))
  ·have hlen:=(g1.sl rfl).2.1
   refine hq [] .normal _ c'.ρ a' c'.w (by rw [k1];exact List.prefix_append _ _) (by rw [k1];exact g5) ⟨c',rfl,rfl,k2,k3,k4,by rw [k1];exact g4,k5, ?_⟩
   show Rel c' σ'.sl.length _ _ a'
   rw [hlen];exact k6
  ·have:=hfalse k (Array.getElem?_eq_some_iff.1 ho).1
   have hk':(Array.replicate ops.size false).getD k true=true:=hk
   rw [this]at hk';cases hk'
section
variable {P:Program} {c:Cx} {n nx:Nat} {sl sl0:Nat→SV} {hp hp0:Nat→Option Ent} {a:Act} {o:Oper} {gs:Gd} {e:Eff} {sg:SgT} {nv:Nat}
theorem zx4 (h:Pre P c n nx sl hp a sl0 hp0 o gs) {op:BinOp} {t el:TypeId} {x y:Operand} {ty:TypeId} (ho:o.op= .binOp op t x y ty) (hu:P.underlying t=some (.slice el)) {p:Option Addr} {q r:Nat} (hv:a.eval x= .slice p q r) (r2:SR c [.cd] [a.eval y])
  (hop:op= .eql∨op= .neq) (hnv:c.ρ[nv]?=some (.bool (znQ a o))) (x':Option E) {ck:List Cn}:zbP P o c n nx sl hp gs a {bu:=ck,cc:=x',val:= .e (if op= .eql then .var nv else .not (.var nv))}:=by
 have hb:znQ a o=p.isNone:=by
  simp only [znQ,ho,hv]
  cases p<;>rfl
 rw [hb]at hnv
 have ex:=fun(v u:Value) (hv:a.eval x=v) (hu:a.eval y=u)=>zs5 (P:=P) (o:=o) ho c.w hv hu
 generalize hv2:a.eval y=v2 at r2
 cases r2 with
 |cd _=>
  refine zbP.pure h (v:= .bool (if op= .eql then p.isNone else !p.isNone)) ?_ ?_ rfl
  ·rw [ex _ _ hv hv2,eqGuard_at_slice]
   rcases hop with rfl|rfl
   ·simp [Go.Lib.run_eql_slice_nil c.w t el p q r 0 0 hu]
   ·simp [binOp,Op.equal,Op.maxDepth,Go.Lib.run_equalIn_slice_nil c.w 9999 t el p q r 0 0 hu]
  ·rcases hop with rfl|rfl
   ·refine .e (f:= []) ?_ (by simp) .nil
    simp only [if_true,E.den,hnv,Option.getD_some];exact .bool .nil
   ·refine .e (f:= []) ?_ (by simp) .nil
    simp only [reduceCtorEq,if_false,E.den,hnv,Option.getD_some,AV.fj];exact .bool .nil
end
section
variable {P:Program} {c:Cx} {n nx:Nat} {sl sl0:Nat→SV} {hp hp0:Nat→Option Ent} {a:Act} {o:Oper} {gs:Gd} {e:Eff} {sg:SgT} {nv:Nat}
theorem zo9 {hp:Nat→Option Ent} {gs:Gd} {m:Nat} {cs:SVL} {x:E} (h:zgt hp gs m (.agg cs)=some x): ∃k l,m=k+1∧zeA hp gs k cs.toList=some l∧x= .mk l:=by
 cases m with
 |zero=>simp [zgt]at h
 |succ m=>
  simp only [zgt,yqme]at h
  obtain⟨l,h1,h2⟩:=h
  exact⟨m,l,rfl,h1,h2.symm⟩
theorem zn3 {hp:Nat→Option Ent} {gs:Gd} {m:Nat} {y x:E} (h:zgt hp gs m (.e y)=some x):x=y:=by
 cases m with
 |zero=>simp [zgt]at h
 |succ m=>simp [zgt]at h;exact h.symm
theorem zhT {hp:Nat→Option Ent} {gs:Gd} {m:Nat} {x:E} (h:zgt hp gs m .cd=some x):x= .lst .nil:=by
 cases m with
 |zero=>simp [zgt]at h
 |succ m=>simp [zgt]at h;exact h.symm
theorem zfB {hp:Nat→Option Ent} {gs:Gd} {m:Nat} {s:SV} {ss:List SV} {x:EL} (h:zeA hp gs m (s::ss)=some x): ∃k y l,m=k+1∧zgt hp gs k s=some y∧zeA hp gs k ss=some l∧x= .cons y l:=by
 cases m with
 |zero=>simp [zeA]at h
 |succ m=>
  simp only [zeA]at h
  split at h
  ·rename_i y l h1 h2
   simp at h
   exact⟨m,y,l,rfl,h1,h2,h.symm⟩
  ·cases h
theorem zin {hp:Nat→Option Ent} {gs:Gd} {ρ:List AV} {w:World}: ∀(vs:List Value) (ss:List SV) (m:Nat) (x:EL),zd4.go vs=some ss→zeA hp gs m ss=some x→Rd w vs (x.den ρ) []
 | [],ss,m,x,h,hx=>by
  simp [zd4.go]at h;subst h
  cases m with
  |zero=>simp [zeA]at hx
  |succ m=>simp [zeA]at hx;subst hx;exact .nil
 |v::vs,ss,m,x,h,hx=>by
  unfold zd4.go at h
  split at h
  ·rename_i hh;cases hh
  ·rename_i k q l hh
   cases hh
   split at h
   ·rename_i hk
    obtain⟨l',h1,rfl⟩:=yqme.1 h
    obtain⟨j,y,l2,rfl,h2,h3,rfl⟩:=zfB hx
    rw [zn3 h2]
    exact .int hk (zin _ _ _ _ h1 h3)
   ·cases h
  ·rename_i q l hh
   cases hh
   obtain⟨l',h1,rfl⟩:=yqme.1 h
   obtain⟨j,y,l2,rfl,h2,h3,rfl⟩:=zfB hx
   rw [zn3 h2]
   exact .bool (zin _ _ _ _ h1 h3)
  ·rename_i q l hh
   cases hh
   split at h
   ·rename_i hk
    obtain⟨l',h1,rfl⟩:=yqme.1 h
    obtain⟨j,y,l2,rfl,h2,h3,rfl⟩:=zfB hx
    rw [zn3 h2]
    exact .str hk (zin _ _ _ _ h1 h3)
   ·cases h
  ·rename_i l hh
   cases hh
   obtain⟨l',h1,rfl⟩:=yqme.1 h
   obtain⟨j,y,l2,rfl,h2,h3,rfl⟩:=zfB hx
   rw [zhT h2]
   exact .eg (zin _ _ _ _ h1 h3)
  ·rename_i l hh
   cases hh
   obtain⟨l',h1,rfl⟩:=yqme.1 h
   obtain⟨j,y,l2,rfl,h2,h3,rfl⟩:=zfB hx
   rw [zn3 h2]
   exact .du (zin _ _ _ _ h1 h3)
  ·cases h
theorem zov {hp:Nat→Option Ent} {gs:Gd} {ρ:List AV} {w:World} {v:Value} {s:SV} {m:Nat} {x:E} (h:zd4 v=some s) (hx:zgt hp gs m s=some x):
  Rd w v.cells.toList (x.den ρ).cells []∧(∀u∈v.cells.toList,u.oneCell'=true):=by
 have one: ∀{v:Value} {y:AV},Rd w [v] [y] []→(∀cs,y≠ .agg cs)→(∀cs,y≠ .tup cs)→Rd w v.cells.toList y.cells []∧(∀u∈v.cells.toList,u.oneCell'=true):=by
  intro v y hr h1 h2
  have h3:=zof hr h1 h2
  have h4:y.cells= [y]:=by cases y<;>first|rfl|exact absurd rfl (h1 _)
  rw [one_cells h3,h4]
  exact⟨by simpa using hr,by simpa using h3⟩
 unfold zd4 at h
 split at h
 ·split at h
  ·rename_i hk
   simp at h;subst h
   rw [zn3 hx]
   exact one (.int hk .nil) (by simp [E.den]) (by simp [E.den])
  ·cases h
 ·simp at h;subst h
  rw [zn3 hx]
  exact one (.bool .nil) (by simp [E.den]) (by simp [E.den])
 ·split at h
  ·rename_i hk
   simp at h;subst h
   rw [zn3 hx]
   exact one (.str hk .nil) (by simp [E.den]) (by simp [E.den])
  ·cases h
 ·simp at h;subst h
  rw [zhT hx]
  exact one (.eg .nil) (by simp [E.den]) (by simp [E.den])
 ·simp at h;subst h
  rw [zn3 hx]
  exact one (.du .nil) (by simp [E.den]) (by simp [E.den])
 ·rename_i cs
  simp only [Option.bind_eq_bind,yqbe,yqsi]at h
  obtain⟨l,hl,rfl⟩:=h
  obtain⟨k,l',rfl,h1,rfl⟩:=zo9 hx
  rw [SVL.a7]at h1
  exact⟨zin _ _ _ _ hl h1,zok _ _ hl⟩
 ·cases h
theorem zBx {w:World} {vs:List Value} {x:AV} (h:Rd w vs x.cells []): ∀k,Rd w (List.replicate k vs).flatten (zaB (List.replicate k x)) []
 |0=> .nil
 |k+1=>by
  simp only [List.replicate_succ,List.flatten_cons,zaB,List.flatMap_cons]
  have:=h.app (zBx h k)
  simpa [zaB]using this
theorem ziT (z:Array Value) (hz:0<z.size): ∀k,(madeCells z (k*z.size)).toList=(List.replicate k z.toList).flatten
 |0=>by simp [madeCells]
 |k+1=>by
  have ih:=ziT z hz k
  simp only [madeCells,Array.toList_map,Array.toList_range]at ih ⊢
  rw [Nat.add_mul,Nat.one_mul,List.range_add,List.map_append,ih,List.replicate_succ',List.flatten_append]
  congr 1
  simp only [List.map_map,List.flatten_cons,List.flatten_nil,List.append_nil]
  apply List.ext_getElem?
  intro i
  simp only [List.getElem?_map,List.getElem?_range']
  by_cases hi:i<z.size
  ·simp only [List.getElem?_range hi,Option.map_some,Function.comp_apply]
   have:(k*z.size+i) % z.size=i:=by rw [Nat.add_comm,Nat.add_mul_mod_self_right,Nat.mod_eq_of_lt hi]
   simp [this,hi]
  ·rw [List.getElem?_eq_none (by simpa using hi),List.getElem?_eq_none (by simpa using hi)];rfl
theorem zA0 (h:Pre P c n nx sl hp a sl0 hp0 o gs) {t:TypeId} {l m:Operand} (ho:o.op= .makeSlice t l m) {s1 s2:SV} (hs1:zaj sl0 gs l=some s1) (hs2:zaj sl0 gs m=some s2) (he:zyZ P hp0 gs nx t s1 s2=some e) (hc: ∀q∈e.bu,Cn.den c.ρ q):zbP P o c n nx sl hp gs a e:=by
 have hm1:l∈o.op.operands:=by simp [ho,Op.operands]
 have hm2:m∈o.op.operands:=by simp [ho,Op.operands]
 unfold zyZ at he
 split at he
 ·rename_i el x y hel
  have hel:=zfA hel
  split at he
  ·cases he
  rename_i hz
  have hz:zlD P el=true:=by simpa using hz
  obtain⟨i,z,hi,hiz,hzs,hsz,hco,hby⟩:=ze2 hz
  have r1:=h.cz hs1 hm1
  have r2:=h.cz hs2 hm2
  have ival: ∀{x:E} {kk:IntKind} {k:Int} {v:Value},SR c [.e x] [v]→x.den c.ρ= .int kk k→v= .int kk k:=by
   intro x kk k v hr hx
   cases hr with
   |e h1 _ _=>exact(zjH h1 hx).1
  split at he
  ·rename_i hxy
   split at he
   ·rename_i s hs
    have hs:zd4 z=some s:=by simpa [hi,hiz]using hs
    obtain⟨w,hw,rfl⟩:=yqme.1 he
    obtain⟨kk,k,hk,h0,hb,hle⟩:Cn.den c.ρ (.mkroom x (P.bytesOf el)):=hc1 hc
    have hv1:=ival r1 hk
    have hv2:=ival r2 (by rw [←E.ar c.ρ _ _ hxy];exact hk)
    obtain⟨c1,c2⟩:=zov (w:=c.w) (ρ:=c.ρ) hs hw
    obtain⟨kn,rfl⟩:=Int.eq_ofNat_of_zero_le h0
    have hbytes:(i.bytes:Int)*(kn:Int)≤281474976710656:=by
     rw [hby]at hb
     rw [Int.mul_comm];omega
    have hlen:=c1.len
    have hml:=ziT z.cells (by omega) kn
    have hrun:=run_make (P:=P) c.w t el i z hel hi hiz kk kk kn kn (by omega) (Int.le_refl _) hbytes (by omega)
    have hsize:(madeCells z.cells (kn*z.cells.size)).size=kn*P.cellsOf el:=by rw [size_madeCells,hzs,hco]
    have htake:(madeCells z.cells (kn*z.cells.size)).toList.take ((List.replicate kn (w.den c.ρ)).length*P.cellsOf el)=(List.replicate kn z.cells.toList).flatten:=by
     rw [List.length_replicate,List.take_of_length_le (by rw [Array.length_toList,hsize];exact Nat.le_refl _),hml]
    refine zbP.newRow (xs:=List.replicate kn (w.den c.ρ)) (N:= []) (C:=madeCells z.cells (kn*z.cells.size)) (cap:=kn) (wd:=c.w) (fz:= []) (ts:= []) h rfl ⟨rfl,rfl,rfl,rfl⟩ ?_ ?_ (by omega) (fun u hu=> ?_) (by simp) (by simp only [maxLen];omega) hsize ?_ ?_ (by simp) (fun _=>rfl)
    ·simp only [execOp,ho,hv1,hv2,Sem.run_bind,Int.ofNat_eq_natCast,List.length_replicate]
     rw [hrun,hzs];rfl
    ·simp [E.den,hk,AV.rep]
    ·rw [List.eq_of_mem_replicate hu,←hlen,Array.length_toList,hzs,hco]
    ·rw [htake]
     intro u hu
     obtain⟨q,hq,hu⟩:=List.mem_flatten.1 hu
     rw [List.eq_of_mem_replicate hq]at hu
     exact c2 u hu
    ·rw [htake];exact zBx c1 kn
   ·cases he
  ·split at he
   ·rename_i k0 _
    simp only [yqsi]at he;subst he
    obtain⟨kk,k,hk,h0,hb,hle⟩:Cn.den c.ρ (.mkroom y (P.bytesOf el)):=hc1 hc
    have hv1:=ival r1 (show(E.int k0 0).den c.ρ= .int k0 0 from rfl)
    have hv2:=ival r2 hk
    obtain⟨kn,rfl⟩:=Int.eq_ofNat_of_zero_le h0
    have hbytes:(i.bytes:Int)*(kn:Int)≤281474976710656:=by
     rw [hby]at hb
     rw [Int.mul_comm];omega
    have hrun:=run_make (P:=P) c.w t el i z hel hi hiz k0 kk 0 kn (by omega) (by omega) hbytes (by omega)
    refine zbP.newRow (xs:= []) (N:= []) (C:=madeCells z.cells (kn*i.size)) (cap:=kn) (wd:=c.w) (fz:= []) (ts:= []) h rfl ⟨rfl,rfl,rfl,rfl⟩ ?_ rfl (by omega) (by simp) (by simp) (by simp only [maxLen];omega) (by rw [size_madeCells,hco]) (by simp) (by simpa [zaB]using Rd.nil) (by simp) (fun _=>rfl)
    simp only [execOp,ho,hv1,hv2,Sem.run_bind,Int.ofNat_eq_natCast]
    rw [hrun];rfl
   ·cases he
 ·cases he
end
section
variable {P:Program} {c:Cx} {n nx:Nat} {sl sl0:Nat→SV} {hp hp0:Nat→Option Ent} {a:Act} {o:Oper} {gs:Gd} {e:Eff} {sg:SgT} {nv:Nat}
def zpJ (v:Option Value) (k d:Nat):Prop:=(v=none∧k=d)∨ ∃kk,v=some (.int kk (k:Int))
theorem zkE {w:World} {t el:TypeId} (hu:P.underlying t=some (.slice el)) (hty:zog P el=true) (p:Option Addr) (m r l h:Nat) {lo hi:Option Value} (hlo:zpJ lo l 0) (hhi:zpJ hi h m) (h1:l≤h) (h2:h≤m) (h3:m≤r):
  (Instr.sliceAt t (.slice p m r) lo hi none).run P w= .ok (sliced p l h r (P.cellsOf el)) w:=by
 have hu':P.underlying t=some (.slice (P.elem t)):=by simp [Program.elem,hu]
 have he:P.elem t=el:=by simp [Program.elem,hu]
 have hs:(sizeOf (P.elem t)).run P w= .ok (P.cellsOf el) w:=by rw [he];exact zg5 hty w
 rw [run_sliceAt_slice w t _ _ _ _ hu']
 rcases hlo with⟨rfl,rfl⟩|⟨kl,rfl⟩<;>rcases hhi with⟨rfl,rfl⟩|⟨kh,rfl⟩
 ·rw [run_slice_all w t p h r hu',hs];rfl
 ·rw [run_slice_h w t p m r hu' kh _ (by omega) (by omega),hs];rfl
 ·rw [run_slice_l w t p h r hu' kl _ (by omega) (by omega),hs];rfl
 ·rw [run_slice_lh w t p m r hu' kl kh _ _ (by omega) (by omega) (by omega),hs];rfl
theorem zyw (s:ByteArray) (a b:Nat):(s.extract a b).data.toList=(s.data.toList.drop a).take (b-a):=by
 rw [ByteArray.data_extract,Array.toList_extract,List.extract_eq_take_drop]
theorem zrO {w:World} {t:TypeId} (hu:P.underlying t=some .string) (s:ByteArray) (l h:Nat) {lo hi:Option Value} (hlo:zpJ lo l 0) (hhi:zpJ hi h s.size) (h1:l≤h) (h2:h≤s.size):
  (Instr.sliceAt t (.string s) lo hi none).run P w= .ok (.string (s.extract l h)) w:=by
 rw [run_sliceAt_string w t _ _ _ _ hu]
 rcases hlo with⟨rfl,rfl⟩|⟨kl,rfl⟩<;>rcases hhi with⟨rfl,rfl⟩|⟨kh,rfl⟩
 ·rw [run_slice_string_all w t s hu]
 ·rw [run_slice_string_h w t s hu kh _ (by omega) (by omega)];rfl
 ·rw [run_slice_string_l w t s hu kl _ (by omega) (by omega)];rfl
 ·rw [run_slice_string w t s kl kh _ _ hu (by omega) (by omega) (by omega)];rfl
theorem zrL {sz:Nat} (ys:List AV) (hs: ∀y∈ys,y.cells.length=sz) (l h:Nat) (hl:l≤h) (hh:h≤ys.length):((zaB ys).drop (l*sz)).take ((h-l)*sz)=zaB ((ys.take h).drop l):=by
 have e:ys=ys.take l++((ys.take h).drop l++ys.drop h):=by
  rw [←List.append_assoc]
  have:ys.take l++(ys.take h).drop l=ys.take h:=by
   have h2:ys.take l=(ys.take h).take l:=by rw [List.take_take,Nat.min_eq_left hl]
   rw [h2,List.take_append_drop]
  rw [this,List.take_append_drop]
 have f1:zaB ys=zaB (ys.take l)++(zaB ((ys.take h).drop l)++zaB (ys.drop h)):=by
  conv=>lhs;rw [e]
  simp [zaB]
 have l1:(zaB (ys.take l)).length=l*sz:=by
  rw [zjk _ (fun y hy=>hs y (List.mem_of_mem_take hy)),List.length_take,Nat.min_eq_left (by omega)]
 have l2:(zaB ((ys.take h).drop l)).length=(h-l)*sz:=by
  rw [zjk _ (fun y hy=>hs y (List.mem_of_mem_take (List.mem_of_mem_drop hy))),List.length_drop,List.length_take,Nat.min_eq_left (by omega)]
 rw [f1,←l1,List.drop_left,←l2,List.take_left]
theorem zHY {w:World} {v:Value} {ys:List AV} {f:List Nat} {sz:Nat} (hr:Rd w [v] [.sl ys] f) (hs: ∀y∈ys,y.cells.length=sz) (l h:Nat) (hl:l≤h) (hh:h≤ys.length):
  ∃p r g,v= .slice p ys.length r∧ys.length≤r∧Rd w [sliced p l h r sz] [.sl ((ys.take h).drop l)] g∧ ∀b∈g,b∈f:=by
 cases hr with
 |eg _=>
  rename_i p r
  have hh:h=0:=by simpa using hh
  subst hh
  have hl:l=0:=by omega
  subst hl
  exact⟨_,_, [],rfl,Nat.zero_le _,by simpa [sliced]using Rd.eg .nil,by simp⟩
 |fq hb h1 h2 h3 h4 h5 h6 h6' h7 h8=>
  rename_i b o m r cs C t fz sz' f1 f2
  have hy: ∃y,y∈ys:=by cases ys with|nil=>simp at h3;omega|cons y _=>exact⟨y,by simp⟩
  obtain⟨y0,hy0⟩:=hy
  have hss:sz'=sz:=(h4 y0 hy0).symm.trans (hs y0 hy0)
  subst hss
  subst h3
  refine⟨some ⟨b,o,none⟩,r, ?_⟩
  rcases Nat.eq_or_lt_of_le hl with he|hlt
  ·subst he
   refine⟨[],rfl,h2.2, ?_,by simp⟩
   have:(ys.take l).drop l= []:=List.drop_eq_nil_of_le (by simp;omega)
   rw [this]
   simp only [sliced,Nat.sub_self]
   exact .eg .nil
  ·have hfl:=h7.len
   obtain⟨g,hg,hrd⟩:=h7.piece (l*sz') ((h-l)*sz')
   rw [zrL ys h4 l h hl hh]at hrd
   refine⟨b::(g++ []),rfl,h2.2, ?_,fun x hx=> ?_⟩
   ·have hsl:sliced (some (⟨b,o,none⟩:Addr)) l h r sz'= .slice (some ⟨b,o+l*sz',none⟩) (h-l) (r-l):=by
     unfold sliced
     split
     ·exfalso;omega
     ·simp [Addr.add_lit]
    rw [hsl]
    refine Rd.fq (cs:=(cs.drop (l*sz')).take ((h-l)*sz')) hb (by omega) ⟨by omega,by omega⟩ (by simp;omega) (fun y hy=>h4 y (List.mem_of_mem_take (List.mem_of_mem_drop hy))) h5 (fun j u hu=> ?_) (fun u hu=>h6' u (List.mem_of_mem_drop (List.mem_of_mem_take hu))) hrd .nil
    rw [List.getElem?_take]at hu
    split at hu
    ·rw [List.getElem?_drop]at hu
     have:=h6 _ _ hu
     rw [←this];congr 1;omega
    ·cases hu
   ·simp only [List.append_nil,yqmc]at hx
    rcases hx with rfl|hx
    ·simp
    ·have:=hg x hx
     simp [this]
theorem zhB {f:Operand→Option SV} {x:Option Operand} {r:Option SV} (h:ztp f x=some r):(x=none∧r=none)∨ ∃y z,x=some y∧f y=some z∧r=some z:=by
 cases x with
 |none=>simp [ztp]at h;exact .inl ⟨rfl,h.symm⟩
 |some y=>
  obtain⟨z,hz,rfl⟩:=yqme.1 h
  exact .inr ⟨y,z,rfl,hz,rfl⟩
theorem znt {s:Option SV} {d l:E} (h:zFS s d=some l):(s=none∧l=d)∨s=some (.e l):=by
 unfold zFS at h
 split at h
 ·simp at h;exact .inl ⟨rfl,h.symm⟩
 ·simp at h;subst h;exact .inr rfl
 ·cases h
theorem zza (h:Pre P c n nx sl hp a sl0 hp0 o gs) {t:TypeId} {x:Operand} {lo hi mx:Option Operand} (ho:o.op= .slice t x lo hi mx) {s:SV} (hs:zaj sl0 gs x=some s) {l' h' m':Option SV} (hl':ztp (zaj sl0 gs) lo=some l') (hh':ztp (zaj sl0 gs) hi=some h') (hm':ztp (zaj sl0 gs) mx=some m') (he:zwc P hp0 gs t s l' h' m'=some e) (hc: ∀q∈e.bu,Cn.den c.ρ q):zbP P o c n nx sl hp gs a e:=by
 have hm:x∈o.op.operands:=by simp [ho,Op.operands]
 have hmlo: ∀y,lo=some y→y∈o.op.operands:=fun y hy=>by simp [ho,Op.operands,hy]
 have hmhi: ∀y,hi=some y→y∈o.op.operands:=fun y hy=>by simp [ho,Op.operands,hy]
 have hmmx: ∀y,mx=some y→y∈o.op.operands:=fun y hy=>by simp [ho,Op.operands,hy]
 have hx:=h.cz hs hm
 have ival: ∀{x:E} {kk:IntKind} {k:Int} {v:Value},SR c [.e x] [v]→x.den c.ρ= .int kk k→v= .int kk k:=by
  intro x kk k v hr hx
  cases hr with
  |e h1 _ _=>exact(zjH h1 hx).1
 unfold zwc at he
 split at he
 ·cases he
 rename_i y hy
 obtain⟨f,q1,q2⟩:=h.kq hs hm hy
 have ex:(execOp a.eval o).run P c.w=((Instr.sliceAt t (a.eval x) (lo.map a.eval) (hi.map a.eval) (mx.map a.eval)).run P c.w).andThen fun v w=> .ok (.value v) w:=by
  simp [execOp,ho]
 split at he
 ·split at he
  ·rename_i el _ _ hu
   split at he
   ·rename_i hty
    simp only [yqsi]at he;subst he
    have hd:(y.den c.ρ).len≠ .undef:=hc1 hc
    cases hy':y.den c.ρ<;>simp only [hy',AV.len,ne_eq,not_true_eq_false]at hd
    rename_i xs
    have hl:(y.den c.ρ).len= .int .i64 (xs.length:Int):=by rw [hy'];rfl
    obtain⟨p,q,r,hv⟩: ∃p q r,a.eval x= .slice p q r:=by
     rcases znj q1 hl with⟨p,q,hv,hm0⟩|⟨b,o',k,q,hv,hm0⟩
     ·exact⟨_,_,_,hv⟩
     ·exact⟨_,_,_,hv⟩
    rcases zhB hl' with⟨rfl,_⟩|⟨_,_,_,_,hh⟩
    ·rcases zhB hh' with⟨_,hh⟩|⟨oh,sh,rfl,hsh,hh⟩
     ·cases hh
     ·cases hh
      rcases zhB hm' with⟨_,hh⟩|⟨om,sm,rfl,hsm,hh⟩
      ·cases hh
      ·cases hh
       have v1:=(fun{kk:IntKind} (hr:SR c [.e (.int kk 0)] [a.eval oh])=>ival hr (show(E.int kk 0).den c.ρ= .int kk 0 from by simp only [E.den])) (h.cz hsh (hmhi _ rfl))
       have v2:=(fun{kk:IntKind} (hr:SR c [.e (.int kk 0)] [a.eval om])=>ival hr (show(E.int kk 0).den c.ρ= .int kk 0 from by simp only [E.den])) (h.cz hsm (hmmx _ rfl))
       have hu':P.underlying t=some (.slice (P.elem t)):=by simp [Program.elem,hu]
       have hel:P.elem t=el:=by simp [Program.elem,hu]
       refine zbP.pure h (v:= .slice p 0 0) ?_ (.emp .nil) rfl
       rw [ex,hv]
       simp only [Option.map_none,Option.map_some,v1,v2]
       rw [run_sliceAt_slice c.w t _ _ _ _ hu',run_slice_hm c.w t p q r hu' _ _ 0 0 (by omega) (by omega) (by omega),hel,zg5 hty]
       simp [sliced]
    ·cases hh
   ·cases he
  ·cases he
 ·have hmxn:mx=none:=by
   rcases zhB hm' with⟨hh,_⟩|⟨_,_,_,_,hh⟩
   ·exact hh
   ·cases hh
  subst hmxn
  have blo: ∀(l:E) (kk:IntKind) (k:Nat),zFS l' (.int .i64 0)=some l→l.den c.ρ= .int kk k→zpJ (lo.map a.eval) k 0:=by
   intro l kk k hl hk
   rcases zhB hl' with⟨rfl,rfl⟩|⟨ol,sl',rfl,hsl,rfl⟩
   ·rcases znt hl with⟨_,rfl⟩|hh
    ·simp only [E.den,AV.int.injEq]at hk
     exact .inl ⟨rfl,by omega⟩
    ·cases hh
   ·rcases znt hl with⟨hh,_⟩|hh
    ·cases hh
    ·cases hh
     exact .inr ⟨kk,by rw [Option.map_some,ival (h.cz hsl (hmlo _ rfl)) hk]⟩
  have bhi: ∀(d l:E) (kk:IntKind) (k m:Nat),zFS h' d=some l→l.den c.ρ= .int kk k→d.den c.ρ= .int .i64 (m:Int)→zpJ (hi.map a.eval) k m:=by
   intro d l kk k m hl hk hd
   rcases zhB hh' with⟨rfl,rfl⟩|⟨ol,sl',rfl,hsl,rfl⟩
   ·rcases znt hl with⟨_,rfl⟩|hh
    ·rw [hd]at hk
     simp only [AV.int.injEq]at hk
     exact .inl ⟨rfl,by omega⟩
    ·cases hh
   ·rcases znt hl with⟨hh,_⟩|hh
    ·cases hh
    ·cases hh
     exact .inr ⟨kk,by rw [Option.map_some,ival (h.cz hsl (hmhi _ rfl)) hk]⟩
  split at he
  ·rename_i hu
   split at he
   ·rename_i l hb q hl1 hh1
    simp only [yqsi]at he;subst he
    obtain⟨ka,ai,kb,bi,bs,d1,d2,d3,d4,d5,d6⟩:Cn.den c.ρ (.winS y l hb):=hc1 hc
    obtain⟨an,rfl⟩:=Int.eq_ofNat_of_zero_le d4
    obtain⟨bn,rfl⟩:=Int.eq_ofNat_of_zero_le (Int.le_trans d4 d5)
    obtain⟨ss,hv,rfl,hle⟩:=zu0 q1 d3
    have hsz:ss.data.toList.length=ss.size:=by simp
    have hrun:=zrO (P:=P) (w:=c.w) hu ss an bn (blo l ka an hl1 d1) (bhi (.slen y) hb kb bn ss.size hh1 d2 (by simp only [E.den,d3,AV.slen];simp)) (by omega) (by omega)
    refine zbP.pure h (v:= .string (ss.extract an bn)) ?_ (.c6 ?_) rfl
    ·rw [ex,hv,Option.map_none,hrun];rfl
    ·simp only [E.den,d1,d2,d3,AV.swin]
     have:(List.take (bn:Int).toNat ss.data.toList).drop (an:Int).toNat=(ss.extract an bn).data.toList:=by
      simp [zyw,List.drop_take]
     rw [this]
     exact .str (by simp only [ByteArray.size_extract];omega) .nil
   ·cases he
  ·rename_i el hu
   split at he
   ·cases he
   rename_i hty
   have hty:zog P el=true:=by simpa using hty
   split at he
   ·rename_i l hb fz hl1 hh1 hfz
    simp only [yqsi]at he;subst he
    have hcs:Cn.den c.ρ (.issl y (P.cellsOf el)):=hc1 hc
    obtain⟨ys,hys,hyc⟩:=hcs
    obtain⟨ka,ai,kb,bi,m,d1,d2,d3,d4,d5,d6⟩:Cn.den c.ρ (.win y l hb):=hc _ (by simp)
    obtain⟨an,rfl⟩:=Int.eq_ofNat_of_zero_le d4
    obtain⟨bn,rfl⟩:=Int.eq_ofNat_of_zero_le (Int.le_trans d4 d5)
    rw [hys]at q1
    have hm9:(m:Int)=ys.length:=by rw [hys]at d3;simpa [AV.len]using d3.symm
    split at hfz
    ·rename_i hnb
     obtain⟨p,r,g,hv,hr,hrd,hg⟩:=zHY q1 hyc an bn (by omega) (by omega)
     have hrun:=zkE (P:=P) (w:=c.w) hu hty p ys.length r an bn (blo l ka an hl1 d1) (bhi (.len y) hb kb bn ys.length hh1 d2 (by simp only [E.den,hys,AV.len])) (by omega) (by omega) hr
     intro next Q hk
     unfold Oper.wp
     rw [ex,hv,Option.map_none,hrun]
     show Oper.upon P o a next Q (.ok (.value _) c.w)
     rw [Oper.upon_value]
     have hrel:=h.rel.freeze h.hp h.gs hfz
     have hok: ∀b∈g,(c.bw (fz.map (·.1))).ok b:=fun b hb=>zll h.rel h.eh h.gs hfz hnb (q2 b (hg b hb))
     refine hk _ (c.bw (fz.map (·.1))) ⟨rfl,rfl,rfl,rfl,fun t ht=> .inl ht⟩ (hrel.put (SR.mkGd (.e (f:=g) ?_ hok .nil) gs h.gs) o.dst)
     show Rd c.w _ [(E.win y l hb).den c.ρ] g
     simp only [E.den,d1,d2,hys,AV.win,Int.ofNat_eq_natCast,Int.toNat_natCast]
     exact hrd
    ·cases hfz
   ·cases he
  ·cases he
end
section
variable {P:Program} {c:Cx} {n nx:Nat} {sl sl0:Nat→SV} {hp hp0:Nat→Option Ent} {a:Act} {o:Oper} {gs:Gd} {e:Eff} {sg:SgT} {nv:Nat}
theorem zAU {w:World} {v:Value} {x:AV} {f:List Nat} {k:SK} (h:Rd w [v] [x] f) (hk:x.sk=some k):(∃kk n,k= .int kk∧v= .int kk n∧x= .int kk n)∨(∃b,k= .bool∧v= .bool b∧x= .bool b)∨ ∃s:ByteArray,k= .str∧v= .string s∧x= .str s.data.toList:=by
 cases h<;>simp [AV.sk]at hk
 ·exact .inl ⟨_,_,hk.symm,rfl,rfl⟩
 ·exact .inr (.inl ⟨_,hk.symm,rfl,rfl⟩)
 ·exact .inr (.inr ⟨_,hk.symm,rfl,rfl⟩)
theorem zoE {t:TypeId} (h:(∃k,P.underlying t=some (.int k))∨P.underlying t=some .bool∨P.underlying t=some .string):zaX P t=false:=by
 rcases h with⟨k,h⟩|h|h<;>simp [zaX,h]
theorem zqS {w:World} (d:Nat): ∀(fs:List Field) (j:Nat) (ks:List SK) {as_ bs:List Value} {cs ds:List AV} {f g:List Nat},zuG P j fs=some ks→Rd w as_ cs f→Rd w bs ds g→(cs.drop j).map AV.sk=ks.map some→(ds.drop j).map AV.sk=ks.map some→
  (Op.eqFields (d+1) as_.toArray bs.toArray fs).run P w= .ok (AV.leq (cs.drop j) (ds.drop j)) w
 | [],j,ks,as_,bs,cs,ds,f,g,hk,h1,h2,k1,k2=>by
  simp [zuG]at hk;subst hk
  have e1:cs.drop j= []:=by simpa using k1
  have e2:ds.drop j= []:=by simpa using k2
  rw [e1,e2];simp [Op.eqFields,AV.leq]
 |fd::fs,j,ks,as_,bs,cs,ds,f,g,hk,h1,h2,k1,k2=>by
  unfold zuG at hk
  split at hk
  ·cases hk
  rename_i hcond
  simp only [not_or,Bool.not_eq_true',Decidable.not_not,ne_eq,Bool.not_eq_false]at hcond
  obtain⟨hn,ho,hty,hc1⟩:=hcond
  have main: ∀(k:SK) (l:List SK),ks=k::l→zuG P (j+1) fs=some l→(∀a b (x y:AV) f g,Rd w [a] [x] f→Rd w [b] [y] g→x.sk=some k→y.sk=some k→(Op.equalIn (d+1) fd.type a b).run P w= .ok (x.seq y) w)→zaX P fd.type=false→
    (Op.eqFields (d+1) as_.toArray bs.toArray (fd::fs)).run P w= .ok (AV.leq (cs.drop j) (ds.drop j)) w:=by
   rintro k l rfl hl heq hagg
   have hj1:j<cs.length:=by
    rcases Nat.lt_or_ge j cs.length with hh|hh
    ·exact hh
    ·rw [List.drop_eq_nil_of_le hh]at k1;simp at k1
   have hj2:j<ds.length:=by
    rcases Nat.lt_or_ge j ds.length with hh|hh
    ·exact hh
    ·rw [List.drop_eq_nil_of_le hh]at k2;simp at k2
   rw [List.drop_eq_getElem_cons hj1]at k1
   rw [List.drop_eq_getElem_cons hj2]at k2
   simp only [List.map_cons,List.cons.injEq]at k1 k2
   have l1:=h1.len
   have l2:=h2.len
   obtain⟨v,f1,hv,_,r1⟩:=h1.at (show cs[j]?=some cs[j] by simp [hj1])
   obtain⟨u,g1,hu,_,r2⟩:=h2.at (show ds[j]?=some ds[j] by simp [hj2])
   have p1:=zpy hty as_ fd.offset (by omega) (.inr hc1) w
   have p2:=zpy hty bs fd.offset (by omega) (.inr hc1) w
   have e1:((as_.drop fd.offset).take (P.cellsOf fd.type)).headD Go.undef=v:=by
    rw [hc1,ho,List.drop_eq_getElem_cons (by omega),List.take_succ_cons]
    simpa [show j<as_.length by omega]using hv
   have e2:((bs.drop fd.offset).take (P.cellsOf fd.type)).headD Go.undef=u:=by
    rw [hc1,ho,List.drop_eq_getElem_cons (by omega),List.take_succ_cons]
    simpa [show j<bs.length by omega]using hu
   rw [hagg,e1]at p1
   rw [hagg,e2]at p2
   have ih:=zqS (w:=w) d fs (j+1) l hl h1 h2 k1.2 k2.2
   rw [List.drop_eq_getElem_cons hj1,List.drop_eq_getElem_cons hj2]
   simp only [Op.eqFields,ne_eq,hn,not_false_eq_true,if_true,Sem.run_bind,p1,p2,yqft,if_false,Result.andThen_ok,heq v u _ _ _ _ r1 r2 k1.1 k2.1]
   cases hb:(cs[j]).seq ds[j]with
   |true=>simpa [AV.leq,hb]using ih
   |false=>simp [AV.leq,hb]
  split at hk
  ·rename_i k l hu hl
   simp at hk
   refine main _ _ hk.symm hl (fun a b x y f g ra rb hx hy=> ?_) (zoE (.inl ⟨_,hu⟩))
   rcases zAU ra hx with⟨kk,m,h5,rfl,rfl⟩|⟨_,h5,_⟩|⟨_,h5,_⟩<;>cases h5
   rcases zAU rb hy with⟨kk,m2,h5,rfl,rfl⟩|⟨_,h5,_⟩|⟨_,h5,_⟩<;>cases h5
   exact run_equalIn_int w d fd.type _ _ _ _ hu
  ·rename_i l hu hl
   simp at hk
   refine main _ _ hk.symm hl (fun a b x y f g ra rb hx hy=> ?_) (zoE (.inr (.inl hu)))
   rcases zAU ra hx with⟨kk,m,h5,_⟩|⟨_,_,rfl,rfl⟩|⟨_,h5,_⟩<;>try cases h5
   rcases zAU rb hy with⟨kk,m,h5,_⟩|⟨_,_,rfl,rfl⟩|⟨_,h5,_⟩<;>try cases h5
   exact zp9 d _ _ hu w
  ·rename_i l hu hl
   simp at hk
   refine main _ _ hk.symm hl (fun a b x y f g ra rb hx hy=> ?_) (zoE (.inr (.inr hu)))
   rcases zAU ra hx with⟨kk,m,h5,_⟩|⟨_,h5,_⟩|⟨_,_,rfl,rfl⟩<;>try cases h5
   rcases zAU rb hy with⟨kk,m,h5,_⟩|⟨_,h5,_⟩|⟨_,_,rfl,rfl⟩<;>try cases h5
   rw [run_equalIn_string w d _ _ _ hu,zoT];rfl
  ·cases hk
theorem zE2 (h:Pre P c n nx sl hp a sl0 hp0 o gs) {op:BinOp} {t:TypeId} {x y:Operand} {ty:TypeId} (ho:o.op= .binOp op t x y ty) {fs:Array Field} (hu:P.underlying t=some (.struct fs)) (he:zcg P sg sl0 hp0 nv nx gs o=some e) (hc: ∀q∈e.bu,Cn.den c.ρ q):zbP P o c n nx sl hp gs a e:=by
 have hm1:x∈o.op.operands:=by simp [ho,Op.operands]
 have hm2:y∈o.op.operands:=by simp [ho,Op.operands]
 simp only [zcg,ho,yqbe]at he
 obtain⟨s1,hs1,s2,hs2,he⟩:=he
 unfold zuE at he
 simp only [hu]at he
 split at he
 ·cases he
 rename_i hg
 simp only [Bool.or_eq_true,not_or,Bool.not_eq_true]at hg
 split at he
 ·rename_i ks x' y' hks hx' hy'
  obtain⟨f1,q1,_⟩:=h.kq hs1 hm1 hx'
  obtain⟨f2,q2,_⟩:=h.kq hs2 hm2 hy'
  have hft:P.underlying t=some (.struct (P.fieldsOf t)):=by simp [Program.fieldsOf,hu]
  have hfs:P.fieldsOf t=fs:=by simp [Program.fieldsOf,hu]
  have key: ∀(k1:Cn.den c.ρ (.kinds x' ks)) (k2:Cn.den c.ρ (.kinds y' ks)),∃as_ bs:List Value,∃b,a.eval x= .agg as_.toArray∧a.eval y= .agg bs.toArray∧(E.aeq x' y').den c.ρ= .bool b∧(Op.equalIn 10000 t (.agg as_.toArray) (.agg bs.toArray)).run P c.w= .ok b c.w:=by
   rintro⟨cs,hcs,k1⟩ ⟨ds,hds,k2⟩
   obtain⟨as_,hv1,_,r1⟩:=zmU q1 hcs
   obtain⟨bs,hv2,_,r2⟩:=zmU q2 hds
   refine⟨as_,bs,AV.leq cs ds,hv1,hv2,by simp only [E.den,hcs,hds,AV.aeq], ?_⟩
   rw [run_equalIn_struct c.w 9999 t _ _ hft hg.1,hfs]
   exact zqS (w:=c.w) 9998 fs.toList 0 ks hks r1 r2 (by simpa using k1) (by simpa using k2)
  split at he
  ·simp only [yqsi]at he;subst he
   obtain⟨as_,bs,b,hv1,hv2,hd,hr⟩:=key (hc _ (by simp)) (hc _ (by simp))
   refine zbP.pure h (v:= .bool b) ?_ (.c6 (by rw [hd];exact .bool .nil)) rfl
   rw [zs5 ho c.w hv1 hv2]
   simp [run_eqGuard_agg c.w _ t x y _ _ hg.2,run_eql_struct,hr]
  ·simp only [yqsi]at he;subst he
   obtain⟨as_,bs,b,hv1,hv2,hd,hr⟩:=key (hc _ (by simp)) (hc _ (by simp))
   refine zbP.pure h (v:= .bool (!b)) ?_ (.c6 (by simp only [E.den]at hd ⊢;rw [hd];exact .bool .nil)) rfl
   rw [zs5 ho c.w hv1 hv2]
   simp [run_eqGuard_agg c.w _ t x y _ _ hg.2,run_neq_struct,hr]
  ·cases he
 ·cases he
theorem zrZ (h:Pre P c n nx sl hp a sl0 hp0 o gs) {x y:Operand} {cl:Call} (ho:o.op= .call cl) {op:BinOp} (hop:(op= .gtr∧cl.callee= .builtin .max)∨(op= .lss∧cl.callee= .builtin .min)) (ha1:cl.args.toList= [x,y]) {s1 s2:SV} (hs1:zaj sl0 gs x=some s1) (hs2:zaj sl0 gs y=some s2)
  (he:zoM op s1 s2=some e) (hc: ∀q∈e.bu,Cn.den c.ρ q):zbP P o c n nx sl hp gs a e:=by
 have hargs:cl.args= #[x,y]:=by apply Array.ext';simp [ha1]
 have hm1:x∈o.op.operands:=by rcases hop with⟨_,hh⟩|⟨_,hh⟩<;>simp [ho,Op.operands,Call.operands,hh,hargs]
 have hm2:y∈o.op.operands:=by rcases hop with⟨_,hh⟩|⟨_,hh⟩<;>simp [ho,Op.operands,Call.operands,hh,hargs]
 unfold zoM at he
 split at he
 ·rename_i x' y'
  simp only [yqsi]at he;subst he
  obtain⟨f1,q1,_⟩:=zes (h.cz hs1 hm1) rfl
  obtain⟨f2,q2,_⟩:=zes (h.cz hs2 hm2) rfl
  have hd:AV.bin op (y'.den c.ρ) (x'.den c.ρ)≠ .undef:=hc1 hc
  cases hx:x'.den c.ρ<;>cases hy:y'.den c.ρ<;>simp only [hx,hy,AV.bin,ne_eq,not_true_eq_false]at hd
  rename_i k m k' m'
  split at hd
  ·rename_i hk
   have hk:k'=k:=by rcases hk with hk|hk|hk;exact hk;all_goals (rcases hop with⟨h1,_⟩|⟨h1,_⟩<;>rw [h1]at hk<;>cases hk)
   subst hk
   obtain⟨v1,i1⟩:=zjH q1 hx
   obtain⟨v2,i2⟩:=zjH q2 hy
   rcases hop with⟨rfl,hcl⟩|⟨rfl,hcl⟩
   ·refine zbP.pure h (v:= .int k' (if m'>m then m' else m)) ?_ (.c6 ?_) rfl
    ·simp [execOp,ho,resolve,hcl,hargs,invoke,builtin,Builtin.max_,Builtin.max2,v1,v2]
    ·simp only [E.den,hx,hy,AV.bin,true_or,if_true,za7]
     by_cases hh:m'>m
     ·simp only [hh,decide_true,AV.cond,if_true];exact .int i2 .nil
     ·simp only [hh,decide_false,AV.cond,if_false];exact .int i1 .nil
   ·refine zbP.pure h (v:= .int k' (if m'<m then m' else m)) ?_ (.c6 ?_) rfl
    ·simp [execOp,ho,resolve,hcl,hargs,invoke,builtin,Builtin.min_,Builtin.min2,v1,v2]
    ·simp only [E.den,hx,hy,AV.bin,true_or,if_true,za7]
     by_cases hh:m'<m
     ·simp only [hh,decide_true,AV.cond,if_true];exact .int i2 .nil
     ·simp only [hh,decide_false,AV.cond,if_false];exact .int i1 .nil
  ·exact absurd rfl hd
 ·cases he
end
inductive zb0 (P:Program) (w:World):List TypeId→List Bool→List Value→List AV→List Nat→List Nat→Prop where
 |nil {fl}:zb0 P w [] fl [] [] [] []
 |own {t ts fl el u us y ys top N rf hs}:fl.headD false=true→zfF P t=some el→(zdR P el=true∧N= []∨zdR P el=false∧zqZ P t=none)→zc2 w el (P.cellsOf el) u y top N→zb0 P w ts fl.tail us ys rf hs→zb0 P w (t::ts) fl (u::us) (y::ys) (N++rf) (top++hs)
 |deep {t ts fl el e z l u us y ys top rf hs}:fl.headD false=true→zfF P t=some el→zdR P el=false→zqZ P t=some (.row e z l)→DC w [.row e z l] [u] [y] top→zb0 P w ts fl.tail us ys rf hs→zb0 P w (t::ts) fl (u::us) (y::ys) rf (top++hs)
 |rd {t ts fl u us y ys f rf hs}:(fl.headD false=true→zfF P t=none)→Rd w [u] [y] f→zb0 P w ts fl.tail us ys rf hs→zb0 P w (t::ts) fl (u::us) (y::ys) (f++rf) hs
def zyE (P:Program) (w:World) (t:TypeId) (fl:List Bool) (v:Value) (x:AV) (rf hs:List Nat):Prop:=
 ∃us ys,(if zaX P t then v= .agg us.toArray∧x= .agg ys∧ ∀u∈us,u.oneCell'=true else us= [v]∧ys= [x])∧zb0 P w (zau P t) fl us ys rf hs
def ztn (P:Program) (w:World) (t:TypeId) (fl:List Bool) (v:Value) (x:AV) (rf hs:List Nat):Prop:=
 if znI P t fl then zyE P w t fl v x rf hs else Rd w [v] [x] rf∧hs= []
inductive zq3 (P:Program) (w:World):List TypeId→List Bool→List Value→List AV→List Nat→List Nat→Prop where
 |nil {fl}:zq3 P w [] fl [] [] [] []
 |cons {t ts fl v vs x xs f h rf hs}:ztn P w t fl v x f h→zq3 P w ts (fl.drop (zau P t).length) vs xs rf hs→zq3 P w (t::ts) fl (v::vs) (x::xs) (f++rf) (h++hs)
theorem zb0.len {P:Program} {w:World} {ts:List TypeId} {fl:List Bool} {us:List Value} {ys:List AV} {rf hs:List Nat} (h:zb0 P w ts fl us ys rf hs):us.length=ts.length∧ys.length=ts.length:=by
 induction h<;>simp_all
theorem zb0.inb {P:Program} {w:World} {ts:List TypeId} {fl:List Bool} {us:List Value} {ys:List AV} {rf hs:List Nat} (h:zb0 P w ts fl us ys rf hs):(∀b∈rf,b<w.heap.size)∧ ∀b∈hs,b<w.heap.size:=by
 induction h with
 |nil=>simp
 |deep _ _ _ _ h _ ih=>
  refine⟨ih.1,fun b hb=> ?_⟩
  rcases yqma.1 hb with hb|hb
  ·exact h.inb b hb
  ·exact ih.2 b hb
 |own _ _ _ h _ ih=>
  refine⟨fun b hb=> ?_,fun b hb=> ?_⟩
  ·rcases yqma.1 hb with hb|hb
   ·obtain⟨xs,_,_,_,⟨_,_,_,rfl⟩|⟨g,cap,C,_,_,_,_,_,_,_,hr⟩⟩:=h
    ·simp at hb
    ·exact hr.inb b hb
   ·exact ih.1 b hb
  ·rcases yqma.1 hb with hb|hb
   ·obtain⟨xs,_,_,_,⟨_,_,rfl,_⟩|⟨g,cap,C,_,_,_,hh,_,rfl,_⟩⟩:=h
    ·simp at hb
    ·simp at hb;subst hb;exact zbH hh
   ·exact ih.2 b hb
 |rd _ h _ ih=>
  refine⟨fun b hb=> ?_,ih.2⟩
  rcases yqma.1 hb with hb|hb
  ·exact h.inb b hb
  ·exact ih.1 b hb
structure Chg where
 tag:Nat
 new:Option Value
 top:List Nat
 bq:Ent
def Chg.pair (r:Chg):Nat × Ent:=(r.tag,r.bq)
structure Aft (c c':Cx) (w':World) (recs:List Chg):Prop where
 ρ:c'.ρ=c.ρ
 w:c'.w=w'
 G: ∀r∈recs,c'.G r.tag=⟨r.top, []⟩
 new: ∀r∈recs,∀hv,r.new=some hv→c'.K r.tag 0∧(∀g,c'.K r.tag g→g≤0)∧c'.H r.tag 0=hv
 K: ∀t g,c.K t g→c'.K t g∧c'.H t g=c.H t g
 old: ∀t,c.U t→ ∀g,c'.K t g→c.K t g
 kp: ∀r∈recs,r.new.isSome=true→c'.E r.tag=0
 ir: ∀r∈recs,r.new=none→c'.E r.tag=c.E r.tag+1
theorem Aft.mono {c c':Cx} {w':World} {recs recs':List Chg} (h:Aft c c' w' recs) (hs: ∀r∈recs',r∈recs):Aft c c' w' recs':=
 ⟨h.ρ,h.w,fun r hr=>h.G r (hs r hr),fun r hr=>h.new r (hs r hr),h.K,h.old,fun r hr=>h.kp r (hs r hr),fun r hr=>h.ir r (hs r hr)⟩
section
variable {P:Program} {c:Cx} {w':World}
theorem zGk {c':Cx} {t:Nat} {u:Value} {el sz:Nat} {y:AV} {top N:List Nat} (h:zc2 w' el sz u y top N) (hk:c'.K t 0) (hh:c'.H t 0=u):SR c' [.own t 0] [u]:=by
 obtain⟨xs,_,_,_,⟨_,⟨a,rfl⟩,_⟩|⟨g,cap,C,rfl,_⟩⟩:=h
 ·exact .own hk hh .nil
 ·exact .own hk hh .nil
theorem zeH {nx:Nat} {mk:Nat→E} {ts:List TypeId} {fl:List Bool} {us:List Value} {ys:List AV} {rf hs:List Nat} (h:zb0 P w' ts fl us ys rf hs): ∀(j:Nat),(∀i y,ys[i]?=some y→(mk (j+i)).den c.ρ=y)→
  ∃recs:List Chg,(zar P nx mk j ts fl).2=recs.map Chg.pair∧recs.flatMap Chg.top=hs∧(∀r∈recs,nx+j≤r.tag∧r.tag<nx+j+ts.length∧r.new.isSome)∧(recs.map Chg.tag).Nodup∧(∀r∈recs,r.new=us[r.tag-(nx+j)]?)∧
   ∀c',Aft c c' w' recs→(∀b∈rf,c'.ok b)→SR c' (zar P nx mk j ts fl).1 us∧ ∀r∈recs,znH c' r.tag r.bq:=by
 induction h with
 |nil=>exact fun j _=>⟨[],rfl,rfl,by simp,by simp,by simp,fun c' _ _=>⟨.nil,by simp⟩⟩
 | @own t ts fl el u us y ys top N rf hs h1 h2 h23 h3 _ ih=>
  intro j hmk
  obtain⟨recs,e1,e2,e3,e4,e4',e5⟩:=ih (j+1) (fun i y hy=>by rw [show j+1+i=j+(i+1)from by omega];exact hmk (i+1) y (by simpa using hy))
  have hy:=hmk 0 y rfl
  have hoe:zvc P t el 0 0 (mk j)= .row el (P.cellsOf el) 0 (mk j) (zdR P el):=by
   unfold zvc
   rcases h23 with⟨h,_⟩|⟨h,h'⟩
   ·rw [if_pos h,h]
   ·rw [if_neg (by rw [h];simp),h',h]
  simp only [zar,h1,h2,hoe]
  refine⟨⟨nx+j,some u,top, .row el (P.cellsOf el) 0 (mk j) (zdR P el)⟩::recs,by simp [e1,Chg.pair],by simp [e2],fun r hr=> ?_, ?_,fun r hr=> ?_,fun c' ha hok=> ?_⟩
  ·rcases yqmc.1 hr with rfl|hr
   ·simp
   ·have:=e3 r hr
    simp only [yqlc]
    exact⟨by omega,by omega,this.2.2⟩
  ·simp only [List.map_cons,List.nodup_cons]
   refine⟨fun hm=> ?_,e4⟩
   obtain⟨r,hr,hrt⟩:=List.mem_map.1 hm
   have:=e3 r hr
   omega
  ·rcases yqmc.1 hr with rfl|hr
   ·simp
   ·rw [e4' r hr]
    have:=e3 r hr
    rw [show r.tag-(nx+j)=(r.tag-(nx+(j+1)))+1 from by omega,List.getElem?_cons_succ]
  ·obtain⟨q1,q2⟩:=e5 c' (ha.mono fun r hr=>by simp [hr]) fun b hb=>hok b (by simp [hb])
   obtain⟨k1,k2,k3⟩:=ha.new _ (List.mem_cons_self ..) u rfl
   have kg:=ha.G _ (List.mem_cons_self ..)
   simp only at k1 k2 k3 kg
   refine⟨(zGk h3 k1 k3).cons q1,fun r hr=> ?_⟩
   rcases yqmc.1 hr with rfl|hr
   ·refine⟨k1,k2,N, ?_,fun b hb=>hok b (by simp [hb]),fun hd=> ?_,fun _=>by rw [kg]⟩
    rotate_left
    ·rcases h23 with⟨_,h⟩|⟨h,_⟩
     ·subst h;exact⟨rfl,by rw [kg]⟩
     ·rw [h]at hd;cases hd
    rw [k3,kg,ha.w,ha.ρ]
    have hy':(mk j).den c.ρ=y:=by simpa using hy
    rw [hy'];exact h3
   ·exact q2 r hr
 | @deep t ts fl el e z l u us y ys top rf hs h1 h2 h21 h22 h3 _ ih=>
  intro j hmk
  obtain⟨recs,e1,e2,e3,e4,e4',e5⟩:=ih (j+1) (fun i y hy=>by rw [show j+1+i=j+(i+1)from by omega];exact hmk (i+1) y (by simpa using hy))
  have hy:=hmk 0 y rfl
  have hoe:zvc P t el 0 0 (mk j)= .deep e z l.toList 0 0 (mk j):=by
   unfold zvc;rw [if_neg (by rw [h21];simp),h22]
  simp only [zar,h1,h2,hoe]
  refine⟨⟨nx+j,some u,top, .deep e z l.toList 0 0 (mk j)⟩::recs,by simp [e1,Chg.pair],by simp [e2],fun r hr=> ?_, ?_,fun r hr=> ?_,fun c' ha hok=> ?_⟩
  ·rcases yqmc.1 hr with rfl|hr
   ·simp
   ·have:=e3 r hr
    simp only [yqlc]
    exact⟨by omega,by omega,this.2.2⟩
  ·simp only [List.map_cons,List.nodup_cons]
   refine⟨fun hm=> ?_,e4⟩
   obtain⟨r,hr,hrt⟩:=List.mem_map.1 hm
   have:=e3 r hr
   omega
  ·rcases yqmc.1 hr with rfl|hr
   ·simp
   ·rw [e4' r hr]
    have:=e3 r hr
    rw [show r.tag-(nx+j)=(r.tag-(nx+(j+1)))+1 from by omega,List.getElem?_cons_succ]
  ·obtain⟨q1,q2⟩:=e5 c' (ha.mono fun r hr=>by simp [hr]) hok
   obtain⟨k1,k2,k3⟩:=ha.new _ (List.mem_cons_self ..) u rfl
   have kg:=ha.G _ (List.mem_cons_self ..)
   have ke:=ha.kp _ (List.mem_cons_self ..) rfl
   simp only at k1 k2 k3 kg ke
   obtain⟨p1,p2,p3,rfl⟩:=h3.head
   refine⟨(SR.own k1 k3 .nil).cons q1,fun r hr=> ?_⟩
   rcases yqmc.1 hr with rfl|hr
   ·refine⟨k1,k2,ke, ?_,by rw [kg]⟩
    have hy':(mk j).den c.ρ=y:=by simpa using hy
    rw [k3,kg,ha.w,ha.ρ,hy',DTL.cx];exact h3
   ·exact q2 r hr
 | @rd t ts fl u us y ys f rf hs h1 h3 _ ih=>
  intro j hmk
  obtain⟨recs,e1,e2,e3,e4,e4',e5⟩:=ih (j+1) (fun i y hy=>by rw [show j+1+i=j+(i+1)from by omega];exact hmk (i+1) y (by simpa using hy))
  have hy:=hmk 0 y rfl
  have hfc:zar P nx mk j (t::ts) fl=(.e (mk j)::(zar P nx mk (j+1) ts fl.tail).1,(zar P nx mk (j+1) ts fl.tail).2):=by
   simp only [zar]
   split
   ·rename_i h8 h9;rw [h1 h8]at h9;cases h9
   ·rfl
  rw [hfc]
  refine⟨recs,e1,e2,fun r hr=> ?_,e4,fun r hr=> ?_,fun c' ha hok=> ?_⟩
  ·have:=e3 r hr
   simp only [yqlc]
   exact⟨by omega,by omega,this.2.2⟩
  ·rw [e4' r hr]
   have:=e3 r hr
   rw [show r.tag-(nx+j)=(r.tag-(nx+(j+1)))+1 from by omega,List.getElem?_cons_succ]
  ·obtain⟨q1,q2⟩:=e5 c' ha fun b hb=>hok b (by simp [hb])
   have hy':(mk j).den c.ρ=y:=by simpa using hy
   exact⟨(SR.e (f:=f) (by rw [ha.w,ha.ρ,hy'];exact h3) (fun b hb=>hok b (by simp [hb])) .nil).cons q1,q2⟩
theorem zfb {nx:Nat} {mk:Nat→E}: ∀(j:Nat) (ts:List TypeId) (fl:List Bool) (t:Nat) (e:Ent) {gs:Gd} {f:Ent},(t,e)∈(zar P nx mk j ts fl).2→e≠ .gd gs f
 |_, [],_,_,_,_,_,h=>by simp [zar]at h
 |j,u::ts,fl,t,e,gs,f,h=>by
  unfold zar at h
  split at h
  ·rcases yqmc.1 h with h|h
   ·cases h;unfold zvc;split
    ·simp
    ·split<;>simp
   ·exact zfb _ _ _ _ _ h
  ·exact zfb _ _ _ _ _ h
theorem zmR {ρ:List AV} {x:E} {ys:List AV} (hx:x.den ρ= .agg ys): ∀i y,ys[i]?=some y→(zhZ x true (0+i)).den ρ=y:=by
 intro i y hy
 simp [zhZ,E.den,hx,AV.fld,AV.cells,hy]
theorem zpq {nx:Nat} {t:TypeId} {fl:List Bool} {x:E} {v:Value} {y:AV} {rf hs:List Nat} (h:ztn P w' t fl v y rf hs) (hx:x.den c.ρ=y):
  ∃recs:List Chg,(zlQ P nx t fl x).2=recs.map Chg.pair∧recs.flatMap Chg.top=hs∧(∀r∈recs,nx≤r.tag∧r.tag<nx+(zau P t).length∧r.new.isSome)∧(recs.map Chg.tag).Nodup∧
   ∀c',Aft c c' w' recs→(∀b∈rf,c'.ok b)→SR c' [(zlQ P nx t fl x).1] [v]∧ ∀r∈recs,znH c' r.tag r.bq:=by
 unfold ztn at h
 unfold zlQ
 split at h
 ·rename_i hf
  simp only [hf,if_true]
  obtain⟨us,ys,hg,hc⟩:=h
  split at hg
  ·rename_i hag
   obtain⟨rfl,rfl,hone⟩:=hg
   obtain⟨recs,e1,e2,e3,e4,_,e5⟩:=zeH (c:=c) (nx:=nx) (mk:=zhZ x (zaX P t)) hc 0 (by rw [hag];exact zmR hx)
   refine⟨recs,e1,e2,fun r hr=>by have:=e3 r hr;exact⟨by omega,by omega,this.2.2⟩,e4,fun c' ha hok=> ?_⟩
   obtain⟨q1,q2⟩:=e5 c' ha hok
   rw [if_pos hag]
   exact⟨.agg hone (by rw [SVL.a7];exact q1) .nil,q2⟩
  ·rename_i hag
   obtain⟨rfl,rfl⟩:=hg
   have hag':zaX P t=false:=by simpa using hag
   obtain⟨recs,e1,e2,e3,e4,_,e5⟩:=zeH (c:=c) (nx:=nx) (mk:=zhZ x (zaX P t)) hc 0 (by
    intro i z hz
    cases i with
    |zero=>simp at hz;subst hz;simp [zhZ,hag',hx]
    |succ i=>simp at hz)
   refine⟨recs,e1,e2,fun r hr=>by have:=e3 r hr;exact⟨by omega,by omega,this.2.2⟩,e4,fun c' ha hok=> ?_⟩
   obtain⟨q1,q2⟩:=e5 c' ha hok
   refine⟨?_,q2⟩
   rw [if_neg hag]
   have hl:=q1.len
   generalize (zar P nx (zhZ x (zaX P t)) 0 (zau P t) fl).1=l at q1 hl
   match l,hl with
   | [s],_=>exact q1
 ·rename_i hf
  simp only [hf,if_false,yqft]
  obtain⟨h1,rfl⟩:=h
  exact⟨[],rfl,rfl,by simp,by simp,fun c' ha hok=>⟨.e (f:=rf) (by rw [ha.w,ha.ρ,hx];exact h1) hok .nil,by simp⟩⟩
theorem zuh {ts:List TypeId} {fl:List Bool} {x:E} {vs:List Value} {ys:List AV} {rf hs:List Nat} (h:zq3 P w' ts fl vs ys rf hs): ∀(nx i:Nat),(∀k y,ys[k]?=some y→(E.proj x (i+k)).den c.ρ=y)→
  ∃recs:List Chg,(zjd P nx ts fl x i).2=recs.map Chg.pair∧recs.flatMap Chg.top=hs∧(∀r∈recs,nx≤r.tag∧r.tag<nx+(ts.flatMap (zau P)).length∧r.new.isSome)∧(recs.map Chg.tag).Nodup∧
   ∀c',Aft c c' w' recs→(∀b∈rf,c'.ok b)→SR c' (zjd P nx ts fl x i).1 vs∧ ∀r∈recs,znH c' r.tag r.bq:=by
 induction h with
 |nil=>exact fun nx i _=>⟨[],rfl,rfl,by simp,by simp,fun c' _ _=>⟨.nil,by simp⟩⟩
 | @cons t ts fl v vs y ys f h rf hs h1 _ ih=>
  intro nx i hx
  obtain⟨r1,a1,a2,a3,a4,a5⟩:=zpq (c:=c) (nx:=nx) (x:= .proj x i) h1 (hx 0 y rfl)
  obtain⟨r2,b1,b2,b3,b4,b5⟩:=ih (nx+(zau P t).length) (i+1) (fun k z hz=>by rw [show i+1+k=i+(k+1)from by omega];exact hx (k+1) z (by simpa using hz))
  simp only [zjd]
  refine⟨r1++r2,by simp [a1,b1],by simp [a2,b2],fun r hr=> ?_, ?_,fun c' ha hok=> ?_⟩
  ·simp only [List.flatMap_cons,yqla]
   rcases yqma.1 hr with hr|hr
   ·have:=a3 r hr;exact⟨this.1,by omega,this.2.2⟩
   ·have:=b3 r hr;exact⟨by omega,by omega,this.2.2⟩
  ·rw [List.map_append,List.nodup_append]
   refine⟨a4,b4,fun t1 ht1 t2 ht2 he=> ?_⟩
   obtain⟨q1,hq1,rfl⟩:=List.mem_map.1 ht1
   obtain⟨q2,hq2,rfl⟩:=List.mem_map.1 ht2
   have:=a3 q1 hq1
   have:=b3 q2 hq2
   omega
  ·obtain⟨p1,p2⟩:=a5 c' (ha.mono fun r hr=>by simp [hr]) fun b hb=>hok b (by simp [hb])
   obtain⟨q1,q2⟩:=b5 c' (ha.mono fun r hr=>by simp [hr]) fun b hb=>hok b (by simp [hb])
   refine⟨p1.cons q1,fun r hr=> ?_⟩
   rcases yqma.1 hr with hr|hr
   ·exact p2 r hr
   ·exact q2 r hr
end
theorem zlI {α:Type} {f:α→List Nat}: ∀{l:List α},(l.flatMap f).Nodup→(∀a∈l,(f a).Nodup)∧ ∀(i j:Nat) (a b:α) (x:Nat),l[i]?=some a→l[j]?=some b→x∈f a→x∈f b→i=j
 | [],_=>⟨by simp,by simp⟩
 |a::l,h=>by
  rw [List.flatMap_cons,List.nodup_append]at h
  obtain⟨h1,h2,h3⟩:=h
  obtain⟨k1,k2⟩:=zlI h2
  refine⟨fun b hb=> ?_,fun i j p q x hi hj hp hq=> ?_⟩
  ·rcases yqmc.1 hb with rfl|hb
   ·exact h1
   ·exact k1 b hb
  ·cases i with
   |zero=>
    cases j with
    |zero=>rfl
    |succ j=>
     simp at hi hj;subst hi
     exact absurd rfl (h3 x hp x (List.mem_flatMap.2 ⟨q,List.mem_of_getElem? hj,hq⟩))
   |succ i=>
    cases j with
    |zero=>
     simp at hi hj;subst hj
     exact absurd rfl (h3 x hq x (List.mem_flatMap.2 ⟨p,List.mem_of_getElem? hi,hp⟩))
    |succ j=>rw [k2 i j p q x (by simpa using hi) (by simpa using hj) hp hq]
theorem zlB {recs:List Chg} (hn:(recs.map Chg.tag).Nodup) {r:Chg} (hr:r∈recs) (p:Chg→Bool) (hp:p r=true) (hpt: ∀q,p q=true→q.tag=r.tag):recs.find? p=some r:=by
 induction recs with
 |nil=>simp at hr
 |cons q recs ih=>
  simp only [List.map_cons,List.nodup_cons]at hn
  rw [List.find?_cons]
  rcases yqmc.1 hr with rfl|hr
  ·simp [hp]
  ·have:p q=false:=by
    cases hq:p q with
    |false=>rfl
    |true=>exact absurd (List.mem_map.2 ⟨r,hr,(hpt q hq).symm⟩) hn.1
   rw [this];exact ih hn.2 hr
def Cx.dr (c:Cx) (w':World) (recs:List Chg):Cx:=
 {c with w:=w',G:=fun t=>(match recs.find? (fun r=>r.tag==t)with|some r=>⟨r.top, []⟩|none=>c.G t),K:=fun t g=>c.K t g∨ ∃r∈recs,r.tag=t∧r.new.isSome=true∧g=0,H:=fun t g=>(match recs.find? (fun r=>r.tag==t&&r.new.isSome)with|some r=>r.new.getD undef|none=>c.H t g),U:=fun t=>c.U t∨ ∃r∈recs,r.tag=t,E:=fun t=>match recs.find? (fun r=>r.tag==t)with|some r=>if r.new.isSome then 0 else c.E t+1|none=>c.E t}
section
variable {P:Program} {c:Cx} {n:Nat} {sl:Nat→SV} {hp:Nat→Option Ent} {a:Act} {w':World} {recs:List Chg}
theorem Cx.dv (hn:(recs.map Chg.tag).Nodup) {r:Chg} (hr:r∈recs):(c.dr w' recs).G r.tag=⟨r.top, []⟩:=by
 simp only [Cx.dr]
 rw [zlB hn hr (fun q=>q.tag==r.tag) (by simp) (fun q hq=>by simpa using hq)]
theorem Cx.de {t:Nat} (ht: ∀r∈recs,r.tag≠t):(c.dr w' recs).G t=c.G t:=by
 simp only [Cx.dr]
 have:recs.find? (fun r=>r.tag==t)=none:=by
  rw [List.find?_eq_none]
  intro r hr
  simpa using ht r hr
 rw [this]
theorem Cx.dt (hU: ∀t g,c.K t g→c.U t) (hn:(recs.map Chg.tag).Nodup) (hnew: ∀r∈recs,r.new.isSome=true→ ¬c.U r.tag):Aft c (c.dr w' recs) w' recs:=by
 refine⟨rfl,rfl,fun r hr=>Cx.dv hn hr,fun r hr hv hrv=>⟨.inr ⟨r,hr,rfl,by simp [hrv],rfl⟩,fun g hg=> ?_, ?_⟩,fun t g hk=>⟨.inl hk, ?_⟩,fun t ht g hk=> ?_,fun r hr hs=> ?_,fun r hr hs=> ?_⟩
 ·rcases hg with hg|⟨_,_,_,_,rfl⟩
  ·exact absurd (hU _ _ hg) (hnew r hr (by simp [hrv]))
  ·exact Nat.le_refl _
 ·simp only [Cx.dr]
  rw [zlB hn hr (fun q=>q.tag==r.tag&&q.new.isSome) (by simp [hrv]) (fun q hq=>by simp only [yqba,beq_iff_eq]at hq;exact hq.1)]
  simp [hrv]
 ·simp only [Cx.dr]
  have:recs.find? (fun r=>r.tag==t&&r.new.isSome)=none:=by
   rw [List.find?_eq_none]
   rintro r hr hh
   simp only [yqba,beq_iff_eq]at hh
   exact hnew r hr hh.2 (hh.1▸hU t g hk)
  rw [this]
 ·rcases hk with hk|⟨r,hr,rfl,hh,_⟩
  ·exact hk
  ·exact absurd ht (hnew r hr hh)
 ·simp only [Cx.dr]
  rw [zlB hn hr (fun q=>q.tag==r.tag) (by simp) (fun q hq=>by simpa using hq)]
  simp [hs]
 ·simp only [Cx.dr]
  rw [zlB hn hr (fun q=>q.tag==r.tag) (by simp) (fun q hq=>by simpa using hq)]
  simp [hs]
theorem Cx.j0 {t:Nat} (ht: ∀r∈recs,r.tag≠t):(c.dr w' recs).E t=c.E t:=by
 simp only [Cx.dr]
 have:recs.find? (fun r=>r.tag==t)=none:=by
  rw [List.find?_eq_none]
  intro r hr
  simpa using ht r hr
 rw [this]
theorem Rel.changes (h:Rel c n sl hp a) {hs:List Nat} {gs:Gd} (k:zfS c.ρ gs) (hmod:Mod hs c.w w') (hn:(recs.map Chg.tag).Nodup) (hnew: ∀r∈recs,r.new.isSome=true→ ¬c.U r.tag)
  (hhs: ∀b∈hs,∃r∈recs,b∈(c.G r.tag).top) (htops:(recs.flatMap Chg.top).Nodup) (hin: ∀r∈recs,∀b∈r.top,(b∈hs∨c.w.heap.size≤b)∧b<w'.heap.size)
  (hne: ∀r∈recs,∀hs f,r.bq≠ .gd hs f) (hent:zpB c (c.dr w' recs)→ ∀r∈recs,znH (c.dr w' recs) r.tag r.bq):
  Rel (c.dr w' recs) n sl (zfe hp (recs.map fun r=>(r.tag,zfR gs r.bq))) a∧zpB c (c.dr w' recs):=by
 have aft:=Cx.dt (w':=w') h.ca hn hnew
 have hsM: ∀b∈hs,c.M b:=fun b hb=>by obtain⟨r,_,hr⟩:=hhs b hb;exact⟨_,hr⟩
 have hown: ∀b∈hs,c.B≤b∨c.Mu b:=fun b hb=>by obtain⟨r,_,hr⟩:=hhs b hb;exact h.gw.allow r.tag b (by simp [GI.own,hr])
 have hkeep:zpB c (c.dr w' recs):=by
  refine⟨rfl,rfl,fun b hb hok=>⟨fun⟨t,ht⟩=> ?_,hok.2⟩,fun b hb hok=>hmod.block b hb fun hh=>hok.1 (hsM b hh),aft.K,fun t g hk=> ?_⟩
  by_cases hT: ∃r∈recs,r.tag=t
  ·obtain⟨r,hr,rfl⟩:=hT
   rw [Cx.dv hn hr]at ht
   rcases(hin r hr b ht).1 with hh|hh
   ·exact hok.1 (hsM b hh)
   ·omega
  ·rw [Cx.de fun r hr hh=>hT ⟨r,hr,hh⟩]at ht
   exact hok.1 ⟨t,ht⟩
  ·by_cases hT: ∃r∈recs,r.tag=t
   ·obtain⟨r,hr,rfl⟩:=hT
    have hno:r.new=none:=by
     cases hh:r.new with
     |none=>rfl
     |some v=>exact absurd (h.ca _ _ hk) (hnew r hr (by simp [hh]))
    rw [aft.ir r hr hno]
    exact⟨by omega,fun h=>by omega⟩
   ·have hT': ∀r∈recs,r.tag≠t:=fun r hr hh=>hT ⟨r,hr,hh⟩
    rw [Cx.j0 hT',Cx.de hT']
    refine⟨Nat.le_refl _,fun _=>⟨rfl,fun b hb hb2=>hmod.block b hb2 fun hh=> ?_⟩⟩
    obtain⟨r,hr,hb3⟩:=hhs b hh
    exact h.gw.cr t r.tag (fun hh=>hT ⟨r,hr,hh.symm⟩) b (by simp [GI.own,hb]) (by simp [GI.own,hb3])
 have hent:=hent hkeep
 have huniq: ∀r∈recs,∀e',(r.tag,e')∈(recs.map fun r=>(r.tag,zfR gs r.bq))→e'=zfR gs r.bq:=by
  intro r hr e' he'
  obtain⟨q,hq,hqe⟩:=List.mem_map.1 he'
  simp only [Prod.mk.injEq]at hqe
  obtain⟨h1,rfl⟩:=hqe
  have e1:=Cx.dv (c:=c) (w':=w') hn hr
  have:q=r:=by
   have f1:=zlB hn hr (fun q=>q.tag==r.tag) (by simp) (fun q hq=>by simpa using hq)
   have f2:=zlB hn hq (fun p=>p.tag==r.tag) (by simp [h1]) (fun p hp=>by rw [h1];simpa using hp)
   rw [f1]at f2;cases f2;rfl
  rw [this]
 refine⟨h.change (fun t=> ∃r∈recs,r.tag=t) hkeep ⟨hmod.os.trans h.base.os,hmod.tape.trans h.base.tape,hmod.output.trans h.base.output,Nat.le_trans h.base.size hmod.size,fun t v hpv=>⟨.inl (h.base.pins t v hpv).1,fun hk=> ?_⟩,fun b hb hmu=> ?_,h.base.pk,h.base.lo⟩
  (fun t ht=>⟨zkb fun e he=> ?_,Cx.de fun r hr hh=>ht ⟨r,hr,hh⟩,Cx.j0 fun r hr hh=>ht ⟨r,hr,hh⟩,fun g hg=> ?_⟩) (fun t ht b hb=>hmod.block b (h.gw.inb t b (by simp [GI.own,hb])) fun hh=> ?_) (fun t ht=> ?_) ⟨fun t=> ?_,fun t u htu b hb hb'=> ?_,fun t b hb=> ?_,fun t b hb=> ?_⟩ (fun t g hk=> ?_) (fun t e he=> ?_),hkeep⟩
 ·have hk':=aft.old t (h.base.pins t v hpv).1 0 hk
  rw [(aft.K t 0 hk').2];exact(h.base.pins t v hpv).2 hk'
 ·refine(hmod.block b (Nat.lt_of_lt_of_le hb h.base.size) fun hh=> ?_).trans (h.base.block b hb hmu)
  rcases hown b hh with h1|h1
  ·exact absurd h1 (Nat.not_le.2 hb)
  ·exact hmu h1
 ·obtain⟨q,hq,hqe⟩:=List.mem_map.1 he
  simp only [Prod.mk.injEq]at hqe
  exact ht ⟨q,hq,hqe.1⟩
 ·rcases hg with hg|⟨r,hr,hrt,_⟩
  ·exact hg
  ·exact absurd ⟨r,hr,hrt⟩ ht
 ·obtain⟨r,hr,hb2⟩:=hhs b hh
  exact h.gw.cr t r.tag (fun hh=>ht ⟨r,hr,hh.symm⟩) b (by simp [GI.own,hb]) (by simp [GI.own,hb2])
 ·obtain⟨r,hr,rfl⟩:=ht
  have hup:=zwl (hp:=hp) (l:=recs.map fun r=>(r.tag,zfR gs r.bq)) (List.mem_map.2 ⟨r,hr,rfl⟩) (huniq r hr)
  rw [hup]
  refine⟨fun e' hre=> ?_,fun hno=> ?_⟩
  ·rw [(zlE k (hne r hr)).1 hre];exact hent r hr
  ·exact absurd ((zlE k (hne r hr)).2 rfl) (hno r.bq)
 ·by_cases hT: ∃r∈recs,r.tag=t
  ·obtain⟨r,hr,rfl⟩:=hT
   rw [Cx.dv hn hr]
   simpa [GI.own]using(zlI htops).1 r hr
  ·rw [Cx.de fun r hr hh=>hT ⟨r,hr,hh⟩];exact h.gw.nodup t
 ·by_cases hT: ∃r∈recs,r.tag=t
  ·obtain⟨r,hr,rfl⟩:=hT
   rw [Cx.dv hn hr]at hb
   simp only [GI.own,List.append_nil]at hb
   by_cases hV: ∃r∈recs,r.tag=u
   ·obtain⟨q,hq,rfl⟩:=hV
    rw [Cx.dv hn hq]at hb'
    simp only [GI.own,List.append_nil]at hb'
    obtain⟨i,hi⟩:=List.getElem?_of_mem hr
    obtain⟨j,hj⟩:=List.getElem?_of_mem hq
    have:=(zlI htops).2 i j r q b hi hj hb hb'
    subst this
    rw [hi]at hj;cases hj;exact htu rfl
   ·rw [Cx.de fun r hr hh=>hV ⟨r,hr,hh⟩]at hb'
    rcases(hin r hr b hb).1 with hh|hh
    ·obtain⟨q,hq,hbq⟩:=hhs b hh
     exact h.gw.cr q.tag u (fun hh=>hV ⟨q,hq,hh⟩) b (by simp [GI.own,hbq]) hb'
    ·have:=h.gw.inb u b hb';omega
  ·rw [Cx.de fun r hr hh=>hT ⟨r,hr,hh⟩]at hb
   by_cases hV: ∃r∈recs,r.tag=u
   ·obtain⟨q,hq,rfl⟩:=hV
    rw [Cx.dv hn hq]at hb'
    simp only [GI.own,List.append_nil]at hb'
    rcases(hin q hq b hb').1 with hh|hh
    ·obtain⟨r,hr,hbr⟩:=hhs b hh
     exact h.gw.cr r.tag t (fun hh=>hT ⟨r,hr,hh⟩) b (by simp [GI.own,hbr]) hb
    ·have:=h.gw.inb t b hb;omega
   ·rw [Cx.de fun r hr hh=>hV ⟨r,hr,hh⟩]at hb'
    exact h.gw.cr t u htu b hb hb'
 ·by_cases hT: ∃r∈recs,r.tag=t
  ·obtain⟨r,hr,rfl⟩:=hT
   rw [Cx.dv hn hr]at hb
   simp only [GI.own,List.append_nil]at hb
   rcases(hin r hr b hb).1 with hh|hh
   ·exact hown b hh
   ·exact .inl (Nat.le_trans h.base.size hh)
  ·rw [Cx.de fun r hr hh=>hT ⟨r,hr,hh⟩]at hb
   exact h.gw.allow t b hb
 ·by_cases hT: ∃r∈recs,r.tag=t
  ·obtain⟨r,hr,rfl⟩:=hT
   rw [Cx.dv hn hr]at hb
   simp only [GI.own,List.append_nil]at hb
   exact(hin r hr b hb).2
  ·rw [Cx.de fun r hr hh=>hT ⟨r,hr,hh⟩]at hb
   exact Nat.lt_of_lt_of_le (h.gw.inb t b hb) hmod.size
 ·rcases hk with hk|⟨r,hr,hrt,_⟩
  ·exact .inl (h.ca t g hk)
  ·exact .inr ⟨r,hr,hrt⟩
 ·by_cases hT: ∃r∈recs,r.tag=t
  ·exact .inr hT
  ·rw [zkb]at he
   ·exact .inl (h.ct t e he)
   ·intro e' he'
    obtain⟨q,hq,hqe⟩:=List.mem_map.1 he'
    simp only [Prod.mk.injEq]at hqe
    exact hT ⟨q,hq,hqe.1⟩
end
def zI7 (P:Program) (w:World) (t:TypeId):PM→Value→AV→List Nat→List Nat→Prop
 | .ro,v,x,rf,hs=>Rd w [v] [x] rf∧hs= []
 | .va own,v,x,rf,hs=>zyE P w t own v x rf hs
 | .mu own,v,x,rf,hs=>zyE P w t own v x rf hs
 | .bx own _,v,x,rf,hs=> ∃(ty:TypeId) (b:Nat) (C:Array Value) (ys:List AV) (h:List Nat),zDV P t=some ty∧v= .pointer (some ⟨b,0,none⟩)∧w.heap[b]?=some (.cells C ty (0,0))∧(∀u∈C.toList,u.oneCell'=true)∧x= .ref (.agg ys)∧
   zb0 P w (zau P ty) own C.toList ys rf h∧hs=b::h
inductive zhy (P:Program) (w:World):List TypeId→List PM→List Bool→List Value→List AV→List Nat→List Nat→List Nat→Prop where
 |nil {ms lo}:zhy P w [] ms lo [] [] [] [] []
 |cons {t ts ms lo v vs x xs f h rf lf hs}:zI7 P w t (ms.headD .ro) v x f h→zhy P w ts ms.tail lo.tail vs xs rf lf hs→zhy P w (t::ts) ms lo (v::vs) (x::xs) (f++rf) lf (h++hs)
 |lent {t ts ms lo v vs x xs f rf lf hs}:lo.headD false=true→ms.headD .ro= .ro→Rd w [v] [x] f→zhy P w ts ms.tail lo.tail vs xs rf lf hs→zhy P w (t::ts) ms lo (v::vs) (x::xs) rf (f++lf) hs
 |free {ms lo v vs x xs f rf lf hs}:Rd w [v] [x] f→zhy P w [] ms.tail lo.tail vs xs rf lf hs→zhy P w [] ms lo (v::vs) (x::xs) (f++rf) lf hs
inductive znK (P:Program) (c:Cx):List TypeId→List Bool→List Value→List (Option RI)→Prop where
 |nil {fl}:znK P c [] fl [] []
 |row {t ts fl v vs u g el rs}:fl.headD false=true→zfF P t=some el→(zdR P el=true∨zqZ P t=none)→c.K u g→c.H u g=v→(∀g',c.K u g'→g'≤g)→znK P c ts fl.tail vs rs→znK P c (t::ts) fl (v::vs) (some (.fl u g el (P.cellsOf el) (zdR P el))::rs)
 |deep {t ts fl v vs u g el e z l ep rs}:fl.headD false=true→zfF P t=some el→zdR P el=false→zqZ P t=some (.row e z (DTL.of l))→c.K u g→c.H u g=v→(∀g',c.K u g'→g'≤g)→c.E u=ep→znK P c ts fl.tail vs rs→znK P c (t::ts) fl (v::vs) (some (.dp u g e z l ep)::rs)
 |none {t ts fl v vs rs}:(fl.headD false=true→zfF P t=none∨ ∃a,v= .slice a 0 0)→znK P c ts fl.tail vs rs→znK P c (t::ts) fl (v::vs) (none::rs)
inductive zgJ (P:Program) (c:Cx):List TypeId→List PM→List Value→List PA→Prop where
 |nil {ts ms}:zgJ P c ts ms [] []
 |ro {ts ms v vs bs}:ms.headD .ro= .ro→zgJ P c ts.tail ms.tail vs bs→zgJ P c ts ms (v::vs) bs
 |va {ts ms own v vs bs us}:ms.headD .ro= .va own→(∀u∈us,c.U u)→zgJ P c ts.tail ms.tail vs bs→zgJ P c ts ms (v::vs) (.va us::bs)
 |mu {t ts ms own v vs bs us rs}:ms.headD .ro= .mu own→(if zaX P t then v= .agg us.toArray else us= [v])→znK P c (zau P t) own us rs→zgJ P c ts ms.tail vs bs→zgJ P c (t::ts) ms (v::vs) (.mu rs (zaX P t)::bs)
 |bx {t ts ms own own' ty v vs bs T b g olds}:ms.headD .ro= .bx own own'→zDV P t=some ty→v= .pointer (some ⟨b,0,none⟩)→c.K T 0→c.H T 0=v→(∀u∈olds,c.U u)→zgJ P c ts ms.tail vs bs→zgJ P c (t::ts) ms (v::vs) (.box T g own' ty olds::bs)
section
variable {P:Program} {c:Cx} {hp:Nat→Option Ent} {gs:Gd}
theorem zrE {t el:TypeId} {d:DT} (hel:zfF P t=some el) (h:zqZ P t=some d):P.cellsOf el≠0∧(zau P el).length=P.cellsOf el∧ ∃l:List DT,d= .row el (P.cellsOf el) (DTL.of l)∧l.length=P.cellsOf el:=by
 have hu:=zfA hel
 unfold zqZ at h
 split at h
 ·cases h
 simp only [dtN,hu]at h
 split at h
 ·cases h
 ·rename_i hh
  simp only [not_or,Decidable.not_not,ne_eq]at hh
  obtain⟨l,hl,rfl⟩:=yqme.1 h
  exact⟨hh.1,hh.2,l,rfl,by rw [mapM_len _ _ hl];exact hh.2⟩
where
 mapM_len {α β:Type} {f:α→Option β}: ∀(l:List α) (l':List β),l.mapM f=some l'→l'.length=l.length
  | [],l',h=>by simp at h;subst h;rfl
  |a::l,l',h=>by
   simp only [List.mapM_cons,Option.bind_eq_bind,yqbe,Option.pure_def,yqsi]at h
   obtain⟨b,_,bs,hbs,rfl⟩:=h
   simp [mapM_len l bs hbs]
theorem zb0.void {w:World} {t el:TypeId} {ts:List TypeId} {fl:List Bool} {a:Option Addr} {us:List Value} {ys:List AV} {rf hs:List Nat} (h1:fl.headD false=true) (h2:zfF P t=some el) (hz:P.cellsOf el≠0) (h:zb0 P w ts fl.tail us ys rf hs):zb0 P w (t::ts) fl (.slice a 0 0::us) (.sl []::ys) rf ([]++hs):=by
 have hown:zc2 w el (P.cellsOf el) (.slice a 0 0) (.sl []) [] []:=⟨[],rfl,by simp,by omega, .inl ⟨rfl,⟨a,rfl⟩,rfl,rfl⟩⟩
 cases hf:zdR P el with
 |true=>exact .own h1 h2 (.inl ⟨hf,rfl⟩) hown h
 |false=>
  cases hd:zqZ P t with
  |none=>exact .own h1 h2 (.inr ⟨hf,hd⟩) hown h
  |some d=>
   obtain⟨_,_,l,rfl,hl⟩:=zrE h2 hd
   exact .deep h1 h2 hf hd (.void (by omega) (by rw [DTL.a7];exact hl) .nil) h
theorem zsn {as_ bs:List Value} (h:Value.agg as_.toArray= .agg bs.toArray):as_=bs:=by
 have h1:as_.toArray=bs.toArray:=by injection h
 have:=congrArg Array.toList h1
 simpa using this
theorem zmP (eh:EH c hp) (k:zfS c.ρ gs) (hU: ∀t g,c.K t g→c.U t): ∀(ts:List TypeId) {cs:List SV} {fl:List Bool} {rs:List (Option RI)} {us:List Nat} {vs:List Value} {xs:EL} {m:Nat},zdL P hp gs ts cs fl=some (rs,us)→SR c cs vs→zeA hp gs m cs=some xs→m≤zad→
  ∃rf hs,zb0 P c.w ts fl vs (xs.den c.ρ) rf hs∧(∀b∈rf,c.en us b)∧hs=(zcm rs).flatMap (fun t=>(c.G t).top)∧znK P c ts fl vs rs∧ ∀u∈zcm rs,c.U u
 | [], [],fl,rs,us,vs,xs,m,h,hs,hx,hm=>by
  simp [zdL]at h;obtain⟨rfl,rfl⟩:=h
  cases hs
  cases m with
  |zero=>simp [zeA]at hx
  |succ m=>simp [zeA]at hx;subst hx;exact⟨[], [], .nil,by simp,by simp [zcm], .nil,by simp [zcm]⟩
 | [],s::cs,fl,rs,us,vs,xs,m,h,hs,hx,hm=>by simp [zdL]at h
 |t::ts, [],fl,rs,us,vs,xs,m,h,hs,hx,hm=>by simp [zdL]at h
 |t::ts,s::cs,fl,rs,us, [],xs,m,h,hs,hx,hm=>by have:=hs.len;simp at this
 |t::ts,s::cs,fl,rs,us,v::vs,xs,m,h,hs,hx,hm=>by
  obtain⟨j,y,ys,rfl,hy,hys,rfl⟩:=zfB hx
  obtain⟨r1,r2⟩:=hs.cf
  unfold zdL at h
  split at h
  ·cases h
  rename_i rs' us' hrec
  obtain⟨rf,hs',q1,q2,q3,q4,q5⟩:=zmP eh k hU ts hrec r2 hys (by omega)
  split at h
  ·rename_i hf
   split at h
   ·rename_i r hr
    simp only [yqsi,Prod.mk.injEq]at h
    obtain⟨rfl,rfl⟩:=h
    unfold zwg at hr
    split at hr
    ·cases hr
    rename_i el hel
    split at hr
    ·cases hr
    rename_i hz
    have empt: ∀a,v= .slice a 0 0→y.den c.ρ= .sl []→r=none→ ∃rf hs,zb0 P c.w (t::ts) fl (v::vs) ((EL.cons y ys).den c.ρ) rf hs∧(∀b∈rf,c.en us' b)∧hs=(zcm (r::rs')).flatMap (fun t=>(c.G t).top)∧znK P c (t::ts) fl (v::vs) (r::rs')∧ ∀u∈zcm (r::rs'),c.U u:=by
     rintro a rfl hy0 rfl
     refine⟨rf, []++hs', ?_,q2,by simpa [zcm]using q3, .none (fun _=> .inr ⟨a,rfl⟩) q4,by simpa [zcm]using q5⟩
     rw [EL.den,hy0]
     exact zb0.void hf hel (by omega) q1
    split at hr
    ·simp only [yqsi]at hr;subst hr
     cases r1 with
     |cd _=>exact empt _ rfl (by rw [zhT hy];rfl) rfl
    ·simp only [yqsi]at hr;subst hr
     cases r1 with
     |emp _=>
      refine empt _ rfl ?_ rfl
      cases j with
      |zero=>simp [zgt]at hy
      |succ j=>simp [zgt]at hy;subst hy;rfl
    ·rename_i u g
     split at hr
     ·rename_i e z g' x d hl
      split at hr
      ·rename_i hh
       obtain⟨rfl,rfl,rfl,hfd⟩:=hh
       simp only [yqsi]at hr;subst hr
       obtain⟨p1,p2,N,p3,p4,p5,_⟩:=eh u _ (za2 hl k)
       have hfd1:zdR P e=true∨zqZ P t=none:=hfd.imp (·.1) (by rintro⟨_,h⟩;simpa using h)
       have hfd:zdR P e=true∧N= []∨zdR P e=false∧zqZ P t=none:=by
        rcases hfd with⟨h1,h2⟩|⟨h1,h2⟩
        ·exact .inl ⟨h1,(p5 h2).1⟩
        ·exact .inr ⟨h1,by simpa using h2⟩
       have hyx:y=x:=by
        cases j with
        |zero=>simp [zgt]at hy
        |succ j=>simp [zgt,zeS,hl]at hy;exact hy.symm
       subst hyx
       have hv:c.H u g=v:=by
        cases r1 with
        |own _ k2 _=>exact k2
       rw [hv]at p3
       refine⟨N++rf,(c.G u).top++hs',zb0.own hf hel hfd p3 q1,fun b hb=> ?_,by simp [zcm,RI.tag,q3], .row hf hel hfd1 p1 hv p2 q4,fun w hw=> ?_⟩
       ·rcases yqma.1 hb with hb|hb
        ·exact .inl (p4 b hb)
        ·exact q2 b hb
       simp only [zcm,List.filterMap_cons,Option.map_some,RI.tag,yqmc]at hw
       rcases hw with rfl|hw
       ·exact hU _ _ p1
       ·exact q5 w hw
      ·cases hr
     ·rename_i e z l g' ep x hl
      split at hr
      ·rename_i hh
       obtain⟨rfl,hnf,hdt⟩:=hh
       have hdt:=znF hdt
       simp only [yqsi]at hr;subst hr
       obtain⟨p1,p2,pE,p3,_⟩:=eh u _ (za2 hl k)
       have hyx:y=x:=by
        cases j with
        |zero=>simp [zgt]at hy
        |succ j=>simp [zgt,zeS,hl]at hy;exact hy.symm
       subst hyx
       have hv:c.H u g=v:=by
        cases r1 with
        |own _ k2 _=>exact k2
       rw [hv]at p3
       refine⟨rf,(c.G u).top++hs',zb0.deep hf hel hnf hdt p3 q1,q2,by simp [zcm,RI.tag,q3], .deep hf hel hnf hdt p1 hv p2 pE q4,fun w hw=> ?_⟩
       simp only [zcm,List.filterMap_cons,Option.map_some,RI.tag,yqmc]at hw
       rcases hw with rfl|hw
       ·exact hU _ _ p1
       ·exact q5 w hw
      ·cases hr
     ·cases hr
    ·cases hr
   ·cases h
  ·rename_i hf
   simp only [yqsi,Prod.mk.injEq]at h
   obtain⟨rfl,rfl⟩:=h
   obtain⟨f,p1,p2⟩:=zhU eh k j hy r1 zad (by omega)
   refine⟨f++rf,hs',zb0.rd (fun hh=>absurd hh hf) p1 q1,fun b hb=> ?_,by simpa [zcm]using q3, .none (fun hh=>absurd hh hf) q4,by simpa [zcm]using q5⟩
   rcases yqma.1 hb with hb|hb
   ·exact(p2 b hb).mono fun t ht=>by simp [ht]
   ·exact(q2 b hb).mono fun t ht=>by simp [ht]
theorem zsd (eh:EH c hp) (k:zfS c.ρ gs) (hU: ∀t g,c.K t g→c.U t) {t:TypeId} {s:SV} {v:Value} {fl:List Bool} {rs:List (Option RI)} {us:List Nat} {x:E} (hs:SR c [s] [v]) (hx:zgt hp gs zad s=some x) (hg:(zfQ s).2=zaX P t)
  (h:zdL P hp gs (zau P t) (zfQ s).1 fl=some (rs,us)):
  ∃rf hs,zyE P c.w t fl v (x.den c.ρ) rf hs∧(∀b∈rf,c.en us b)∧hs=(zcm rs).flatMap (fun t=>(c.G t).top)∧(∃vs',(if zaX P t then v= .agg vs'.toArray else vs'= [v])∧znK P c (zau P t) fl vs' rs)∧ ∀u∈zcm rs,c.U u:=by
 have single: ∀(s:SV),SR c [s] [v]→zgt hp gs zad s=some x→zaX P t=false→zdL P hp gs (zau P t) [s] fl=some (rs,us)→ ∃rf hs,zyE P c.w t fl v (x.den c.ρ) rf hs∧(∀b∈rf,c.en us b)∧hs=(zcm rs).flatMap (fun t=>(c.G t).top)∧(∃vs',(if zaX P t then v= .agg vs'.toArray else vs'= [v])∧znK P c (zau P t) fl vs' rs)∧ ∀u∈zcm rs,c.U u:=by
  intro s hs hx hag h
  obtain⟨t0,ht0⟩: ∃t0,zau P t= [t0]:=by
   cases hh:zau P t with
   |nil=>rw [hh]at h;simp [zdL]at h
   |cons t0 l=>
    cases l with
    |nil=>exact⟨t0,rfl⟩
    |cons t1 l=>rw [hh]at h;simp [zdL]at h
  rw [ht0]at h
  have key: ∃rf hs,zb0 P c.w [t0] fl [v] [x.den c.ρ] rf hs∧(∀b∈rf,c.en us b)∧hs=(zcm rs).flatMap (fun t=>(c.G t).top)∧znK P c [t0] fl [v] rs∧ ∀u∈zcm rs,c.U u:=by
   unfold zdL at h
   simp only [zdL]at h
   split at h
   ·rename_i hf
    split at h
    ·rename_i r hr
     simp only [yqsi,Prod.mk.injEq]at h
     obtain⟨rfl,rfl⟩:=h
     unfold zwg at hr
     split at hr
     ·cases hr
     rename_i el hel
     split at hr
     ·cases hr
     rename_i hz
     have empt: ∀a,v= .slice a 0 0→x.den c.ρ= .sl []→r=none→ ∃rf hs,zb0 P c.w [t0] fl [v] [x.den c.ρ] rf hs∧(∀b∈rf,c.en ([]:List Nat) b)∧hs=(zcm [r]).flatMap (fun t=>(c.G t).top)∧znK P c [t0] fl [v] [r]∧ ∀u∈zcm [r],c.U u:=by
      rintro a rfl hy0 rfl
      refine⟨[], []++ [], ?_,by simp,by simp [zcm], .none (fun _=> .inr ⟨a,rfl⟩) .nil,by simp [zcm]⟩
      rw [hy0]
      exact zb0.void hf hel (by omega) .nil
     split at hr
     ·simp only [yqsi]at hr;subst hr
      cases hs with
      |cd _=>exact empt _ rfl (by rw [zhT hx];rfl) rfl
     ·simp only [yqsi]at hr;subst hr
      cases hs with
      |emp _=>
       refine empt _ rfl ?_ rfl
       simp [zad,zgt]at hx;subst hx;rfl
     ·rename_i u g
      split at hr
      ·rename_i e z g' x0 d hl
       split at hr
       ·rename_i hh
        obtain⟨rfl,rfl,rfl,hfd⟩:=hh
        simp only [yqsi]at hr;subst hr
        obtain⟨p1,p2,N,p3,p4,p5,_⟩:=eh u _ (za2 hl k)
        have hfd1:zdR P e=true∨zqZ P t0=none:=hfd.imp (·.1) (by rintro⟨_,h⟩;simpa using h)
        have hfd:zdR P e=true∧N= []∨zdR P e=false∧zqZ P t0=none:=by
         rcases hfd with⟨h1,h2⟩|⟨h1,h2⟩
         ·exact .inl ⟨h1,(p5 h2).1⟩
         ·exact .inr ⟨h1,by simpa using h2⟩
        have hyx:x=x0:=by
         simp [zad,zgt,zeS,hl]at hx;exact hx.symm
        subst hyx
        have hv:c.H u g=v:=by
         cases hs with
         |own _ k2 _=>exact k2
        rw [hv]at p3
        refine⟨N++ [],(c.G u).top++ [],zb0.own hf hel hfd p3 .nil,fun b hb=> .inl (p4 b (by simpa using hb)),by simp [zcm,RI.tag], .row hf hel hfd1 p1 hv p2 .nil,fun w hw=> ?_⟩
        simp only [zcm,List.filterMap_cons,Option.map_some,RI.tag,List.filterMap_nil,yqmc,List.not_mem_nil,or_false]at hw
        subst hw
        exact hU _ _ p1
       ·cases hr
      ·rename_i e z l g' ep x0 hl
       split at hr
       ·rename_i hh
        obtain⟨rfl,hnf,hdt⟩:=hh
        have hdt:=znF hdt
        simp only [yqsi]at hr;subst hr
        obtain⟨p1,p2,pE,p3,_⟩:=eh u _ (za2 hl k)
        have hyx:x=x0:=by
         simp [zad,zgt,zeS,hl]at hx;exact hx.symm
        subst hyx
        have hv:c.H u g=v:=by
         cases hs with
         |own _ k2 _=>exact k2
        rw [hv]at p3
        refine⟨[],(c.G u).top++ [],zb0.deep hf hel hnf hdt p3 .nil,by simp,by simp [zcm,RI.tag], .deep hf hel hnf hdt p1 hv p2 pE .nil,fun w hw=> ?_⟩
        simp only [zcm,List.filterMap_cons,Option.map_some,RI.tag,List.filterMap_nil,yqmc,List.not_mem_nil,or_false]at hw
        subst hw
        exact hU _ _ p1
       ·cases hr
      ·cases hr
     ·cases hr
    ·cases h
   ·rename_i hf
    simp only [yqsi,Prod.mk.injEq]at h
    obtain⟨rfl,rfl⟩:=h
    obtain⟨f,p1,p2⟩:=zhU eh k zad hx hs zad (Nat.le_refl _)
    refine⟨f++ [], [],zb0.rd (fun hh=>absurd hh hf) p1 .nil,fun b hb=> ?_,by simp [zcm], .none (fun hh=>absurd hh hf) .nil,by simp [zcm]⟩
    rw [List.append_nil]at hb
    exact(p2 b hb).mono fun t ht=>by simp [ht]
  obtain⟨rf,hs',q1,q2,q3,q4,q5⟩:=key
  refine⟨rf,hs',⟨[v], [x.den c.ρ], ?_,by rw [ht0];exact q1⟩,q2,q3,⟨[v], ?_,by rw [ht0];exact q4⟩,q5⟩
  ·rw [if_neg (by rw [hag];simp)];exact⟨rfl,rfl⟩
  ·rw [if_neg (by rw [hag];simp)]
 cases s with
 |agg cs=>
  simp only [zfQ]at hg h
  obtain⟨m,l,hm,hl,rfl⟩:=zo9 hx
  cases hs with
  |agg h9 h1 h8=>
   rename_i as_
   have hm':m≤zad:=by simp only [zad]at hm ⊢;omega
   obtain⟨rf,hs',q1,q2,q3,q4,q5⟩:=zmP (P:=P) eh k hU (zau P t) h h1 hl hm'
   refine⟨rf,hs',⟨as_,l.den c.ρ, ?_,q1⟩,q2,q3,⟨as_, ?_,q4⟩,q5⟩
   ·rw [if_pos hg.symm];exact⟨rfl,rfl,h9⟩
   ·rw [if_pos hg.symm]
 |_=>exact single _ hs hx hg.symm h
end
end Go.Proofs.YtgobcjbjogkpjaaGreatDoor
end

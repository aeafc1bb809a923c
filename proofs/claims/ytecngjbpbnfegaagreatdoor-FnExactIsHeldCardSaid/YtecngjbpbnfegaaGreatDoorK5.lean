/- Parts of a proof, joined: WRc, WRd, WRe, WS, WSa, WSb, WT, WU, WV, WW. -/
import Derived.Test.YtecngjbpbnfegaaGreatDoorK4
section
namespace Go.Proofs.YtecngjbpbnfegaaGreatDoor
open Go.RowKit
section
variable {P:Program} {c:Cx} {n nx:Nat} {sl sl0:Nat→SV} {hp hp0:Nat→Option Ent} {a:Act} {o:Oper} {gs:Gd} {e:Eff} {sg:SgT} {nv:Nat}
theorem zvQ {l:List Nat} (h:zmf l=true):l.Nodup:=zik h
theorem zpE (h:Pre P c n nx sl hp a sl0 hp0 o gs) {x y:Operand} {tx ty:TypeId} {cl:Call} (ho:o.op= .call cl) (hcl:cl.callee= .builtin .append) (ha1:cl.args.toList= [x,y]) (ha2:cl.argTypes.toList= [tx,ty])
  {s1 s2:SV} (hs1:zan sl0 gs x=some s1) (hs2:zan sl0 gs y=some s2) (he:zki P hp0 gs nx tx ty s1 s2=some e) (hc: ∀q∈e.chk,Cn.den c.ρ q):zbJ P o c n nx sl hp gs a e:=by
 have hargs:cl.args= #[x,y]:=by apply Array.ext';simp [ha1]
 have hm1:x∈o.op.operands:=by simp [ho,Op.operands,Call.operands,hcl,hargs]
 have hm2:y∈o.op.operands:=by simp [ho,Op.operands,Call.operands,hcl,hargs]
 unfold zki at he
 split at he
 ·cases he
 rename_i htt
 have htt:tx=ty:=by simpa using htt
 subst htt
 split at he
 ·rename_i el e' z dl hel hdt
  have hel':=ze3 hel
  split at he
  ·cases he
  rename_i hcond
  simp only [not_or,Bool.not_eq_true',Bool.not_eq_false,Bool.not_eq_true,ne_eq,Decidable.not_not]at hcond
  obtain⟨hz,hnf,rfl,rfl⟩:=hcond
  obtain⟨_,_,l,hld,hll⟩:=zoL hel hdt
  simp only [DT.row.injEq,true_and]at hld
  subst hld
  rw [DTL.toList_of]at he
  have r1:=h.opd hs1 hm1
  split at he
  ·rename_i ye us hy htk
   have hU: ∀u∈us,∃g,c.K u g:=(zqg h.eh h.gs htk (h.opd hs2 hm2) hy).choose_spec.choose_spec.choose_spec.choose_spec.choose_spec.2.2.2.2.2.2.2
   have husd:us.Nodup:=by
    unfold ztG at htk
    split at htk
    ·simp only [Option.some.injEq]at htk;subst htk;simp
    ·simp only [Option.some.injEq]at htk;subst htk;simp
    ·split at htk
     ·split at htk
      ·simp only [Option.some.injEq]at htk;subst htk;simp
      ·cases htk
     ·cases htk
    ·cases htk
   have hz0:0<P.cellsOf e':=by
    obtain⟨i,_,_,_,_,h1,h2,_⟩:=zec hz
    omega
   split at he
   ·rename_i t g
    split at he
    ·rename_i e2 z2 l2 g2 ep c0 hl
     split at he
     ·rename_i hh
      obtain⟨rfl,rfl,hb,rfl,hnt⟩:=hh
      have hb:=DTL.of_inj hb
      subst hb
      simp only [Option.some.injEq]at he;subst he
      obtain⟨q1,q2,q3,q4,q5⟩:=h.eh t _ (zaV hl h.gs)
      generalize hv:a.eval x=v at r1
      cases r1 with
      |own k1 k2 _=>
       rw [k2]at q4
       simp only [Bool.not_eq_true',List.contains_eq_mem,decide_eq_false_iff_not]at hnt
       exact zj5 h ho hcl ha1 ha2 hel' hz hll (T:= [t]) (by simpa using List.nodup_cons.2 ⟨hnt,husd⟩) (fun u hu=>by simp at hu;subst hu;exact⟨_,k1⟩) hs2 hy htk hv q4 (by simp [zbA]) (hc _ (by simp))
     ·cases he
    ·cases he
   ·simp only [Option.some.injEq]at he;subst he
    generalize hv:a.eval x=v at r1
    cases r1 with
    |emp _=>exact zj5 h ho hcl ha1 ha2 hel' hz hll (T:= []) (by simpa using husd) (by simp) hs2 hy htk hv (c0:= .lst .nil) (.void hz0 (by rw [DTL.toList_of];exact hll) .nil) rfl (hc _ (by simp))
   ·simp only [Option.some.injEq]at he;subst he
    generalize hv:a.eval x=v at r1
    cases r1 with
    |nils _=>exact zj5 h ho hcl ha1 ha2 hel' hz hll (T:= []) (by simpa using husd) (by simp) hs2 hy htk hv (c0:= .lst .nil) (.void hz0 (by rw [DTL.toList_of];exact hll) .nil) rfl (hc _ (by simp))
   ·cases he
  ·cases he
 ·cases he
theorem zbJ.deepAlloc (h:Pre P c n nx sl hp a sl0 hp0 o []) {T:List Nat} (hT:T.Nodup) (hTU: ∀u∈T,∃g,c.K u g) {ck:List Cn} {el z:Nat} {l:List DT} (hz:0<z) (hl:l.length=z) {x:E} {xs:List AV} {C:Array Value} {cap:Nat} (hx:x.den c.ρ= .sl xs) (hcl: ∀y∈xs,y.cells.length=z) (hle:xs.length≤cap) (hcap:cap≤maxLen) (hC:C.size=cap*z)
  (h1: ∀u∈C.toList.take (xs.length*z),u.oneCell'=true) (hD:DC c.w (zjt xs.length l) (C.toList.take (xs.length*z)) (zaQ xs) (zbA c T))
  (hr:(execOp a.eval o).run P c.w= .ok (.value (.slice (some ⟨c.w.heap.size,0,none⟩) xs.length cap)) (c.w.alloc (.cells C el))):
  zbJ P o c n nx sl hp [] a {chk:=ck,val:= .own nx 0,ent:=(nx, .deep el z l 0 0 x)::zie T}:=by
 have hinb: ∀b∈zbA c T,b<c.w.heap.size:=fun b hb=>by
  obtain⟨t,_,hbt⟩:=zhx.1 hb
  exact h.rel.gw.inb t b (by simp [GI.own,hbt])
 have hnew:(c.w.alloc (.cells C el)).heap[c.w.heap.size]?=some (.cells C el (0,0)):=heap_alloc_new c.w _
 have hgr:c.w.grownBy (c.w.alloc (.cells C el)) (some c.w.heap.size):=⟨rfl,rfl,rfl,by simp,fun j hj _=>Below.heap_alloc c.w _ _ hj⟩
 refine zbJ.deepNew h hT hTU hr (ztX hgr fun g hg=> .inr (by cases hg;exact Nat.le_refl _)) (top:=c.w.heap.size::zbA c T) ?_ (fun b hb=> ?_) ?_
 ·exact List.nodup_cons.2 ⟨fun hh=>by have:=hinb _ hh;omega,zh1 h.rel.gw hT⟩
 ·rcases List.mem_cons.1 hb with rfl|hb
  ·exact⟨.inr (Nat.le_refl _),by simp⟩
  ·exact⟨.inl hb,Nat.lt_of_lt_of_le (hinb b hb) (by simp)⟩
 ·rw [hx]
  have:=DC.row (w:=c.w.alloc (.cells C el)) (e:=el) (z:=z) (l:=DTL.of l) (g:=c.w.heap.size) (cap:=cap) (C:=C) (ys:=xs) (N1:=zbA c T) (ts:= []) (vs:= []) (xs:= []) (N:= []) hz (by rw [DTL.toList_of];exact hl) hnew hle hcap hC hcl h1 (by
   rw [DTL.toList_of];exact hD.frame fun b hb=>Below.heap_alloc c.w _ _ (hinb b hb)) .nil
  simpa using this
theorem zq5 (h:Pre P c n nx sl hp a sl0 hp0 o gs) {t:TypeId} {m:Nat} {parts:Array (Nat × Operand)} (ho:o.op= .buildSlice t m parts) {ps:List (Nat × SV)} (hps:parts.toList.mapM (fun(p:Nat × Operand)=>(zan sl0 gs p.2).map fun s=>(p.1,s))=some ps) (he:zmJ P hp0 gs nx t m ps=some e) (hc: ∀q∈e.chk,Cn.den c.ρ q):zbJ P o c n nx sl hp gs a e:=by
 obtain⟨e1,e2⟩:=zkm (c:=c) (a:=a) (parts.toList.map (·.2)) (fun x s hx hm=>h.opd hx (by simpa [ho,Op.operands]using hm)) (fun x hx=>List.mem_map.2 ⟨x,hx,rfl⟩) hps
 unfold zmJ at he
 split at he
 ·rename_i el e' zz dl hel0 hdt
  have hel:=ze3 hel0
  split at he
  ·cases he
  rename_i hcond
  simp only [not_or,Bool.not_eq_true',Bool.not_eq_false',ne_eq,Bool.not_eq_false,Bool.not_eq_true,Nat.not_lt,Decidable.not_not]at hcond
  obtain⟨hz,hnf,rfl,rfl,hty,hag,hle,hdense⟩:=hcond
  obtain⟨_,_,l,hld,hll⟩:=zoL hel0 hdt
  simp only [DT.row.injEq,true_and]at hld
  subst hld
  rw [DTL.toList_of]at he
  have hag:zaY P e'=true∨P.cellsOf e'=1:=by simpa using hag
  obtain⟨i,z,hi,hiz,hzs,hsz,hco,hby⟩:=zec hz
  split at he
  ·rename_i xs us ck hta
   split at he
   ·rename_i hnd
    simp only [Option.some.injEq]at he;subst he
    obtain⟨p1,p5,p6,p7,p8⟩:=zmy h.eh h.gs hll hag (ps.map (·.2)) (parts.toList.map fun p=>a.eval p.2) e2 hta hc
    have hlen:(parts.toList.map fun p=>a.eval p.2).length=m:=by
     have:ps.length=m:=by
      have:=congrArg List.length hdense;simpa using this
     have h9:=congrArg List.length e1
     simp at h9 ⊢;omega
    have hparts:(parts.map fun(x:Nat × Operand)=>(x.1,a.eval x.2)).toList=((parts.toList.map fun p=>a.eval p.2).zipIdx 0).map fun p=>(p.2,p.1):=by
     have hidx:parts.toList.map (·.1)=List.range m:=by rw [←e1,hdense]
     apply List.ext_getElem?
     intro j
     have hj:(parts.toList.map (·.1))[j]?=(List.range m)[j]?:=by rw [hidx]
     simp only [Array.toList_map,List.getElem?_map,List.getElem?_zipIdx]at hj ⊢
     cases hp:parts.toList[j]? with
     |none=>simp
     |some p=>
      rw [hp]at hj
      simp only [Option.map_some,Option.some.injEq]at hj ⊢
      have hjm:j<m:=by
       rcases Nat.lt_or_ge j m with hh|hh
       ·exact hh
       ·rw [List.getElem?_eq_none (by simpa using hh)]at hj;cases hj
      rw [List.getElem?_range hjm]at hj
      simp at hj
      simp [hj]
    obtain⟨C',f1,f2⟩:=znr (sz:=i.size) (fun j=>some (j*i.size,i.size)) (fun j=>rfl) (parts.toList.map fun p=>a.eval p.2) 0 ((Array.range (m*i.size)).map (fun j=>(if m*i.size=0 then #[]else z.cells)[j % (if m*i.size=0 then #[]else z.cells).size]!)) [] _ (by simp;rfl) (by simp) (by simp [hlen]) (fun v hv=>by rw [←hco];exact(p5 v hv).1)
    have hCl:C'.toList.length=m*P.cellsOf e':=by
     rw [f2,hco]
     simp only [List.nil_append]
     have: ∀(L:List Value),(∀v∈L,v.cells.size=i.size)→(L.flatMap fun v=>v.cells.toList).length=L.length*i.size:=by
      intro L
      induction L with
      |nil=>intro _;simp
      |cons v L ih=>
       intro hL
       simp only [List.flatMap_cons,List.length_append,List.length_cons,Array.length_toList]
       rw [ih (fun u hu=>hL u (by simp [hu])),hL v (by simp),Nat.add_mul];omega
     rw [this _ (fun v hv=>by rw [←hco];exact(p5 v hv).1),hlen]
    have hxl:(xs.map (E.den c.ρ)).length=m:=by rw [List.length_map,p7,hlen]
    have htake:C'.toList.take ((xs.map (E.den c.ρ)).length*P.cellsOf e')=(parts.toList.map fun p=>a.eval p.2).flatMap fun v=>v.cells.toList:=by
     rw [hxl,←hCl,List.take_length,f2];simp
    refine zbJ.deepAlloc h (zvQ hnd) p8 (by omega) hll (xs:=xs.map (E.den c.ρ)) (C:=C') (cap:=m) (by simp [E.den,EL.den_of]) (fun y hy=> ?_) (by omega) (by simp only [maxLen];have:m*1≤m*P.cellsOf e':=Nat.mul_le_mul_left _ (by omega);omega) (by rw [←Array.length_toList,hCl]) ?_ ?_ ?_
    ·obtain⟨q,hq,rfl⟩:=List.mem_map.1 hy
     exact p6 q hq
    ·rw [htake]
     intro u hu
     obtain⟨v,hv,hu⟩:=List.mem_flatMap.1 hu
     exact(p5 v hv).2 u hu
    ·rw [htake,hxl,←hlen];exact p1
    ·rw [hxl]
     have hrun:=zk3 (P:=P) hel hty hi hiz hco m (by rw [←hco];omega) (parts.map fun(x:Nat × Operand)=>(x.1,a.eval x.2)) C' (by rw [hparts];exact f1) c.w
     simp only [execOp,ho,Sem.run_bind]
     rw [hrun];rfl
   ·cases he
  ·cases he
 ·cases he
theorem zly {w:World}: ∀{ds:List DT} {ss:List SV} {vs:List Value},zpX ds ss=true→SR c ss vs→ ∀{xs:EL} {m:Nat},zdI hp0 gs m ss=some xs→DC w ds vs (xs.den c.ρ) []
 | [], [],vs,_,hs,xs,m,hx=>by
  cases hs
  cases m with
  |zero=>simp [zdI]at hx
  |succ m=>simp [zdI]at hx;subst hx;exact .nil
 | [],_::_,_,h,_,_,_,_=>by simp [zpX]at h
 |_::_, [],_,h,_,_,_,_=>by simp [zpX]at h
 |d::ds,s::ss, [],h,hs,_,_,_=>by have:=hs.len;simp at this
 |d::ds,s::ss,v::vs,h,hs,xs,m,hx=>by
  obtain⟨j,y,ys,rfl,hy,hys,rfl⟩:=zey hx
  obtain⟨r1,r2⟩:=hs.uncons
  simp only [zpX,Bool.and_eq_true]at h
  have ih:=zly (w:=w) h.2 r2 hys
  unfold zAg at h
  obtain⟨h1,_⟩:=h
  split at h1
  ·rename_i y'
   rw [EL.den,zlb hy]
   cases r1 with
   |e g1 g2 _=>
    cases y'<;>simp [zAV]at h1
    ·cases g1 with
     |int hk _=>exact .flat (.int hk .nil) ih
    ·cases g1 with
     |bool _=>exact .flat (.bool .nil) ih
    ·rename_i s0
     generalize hq:(E.str s0).den c.ρ=q at g1
     cases g1 with
     |str hk _=>exact .flat (.str hk .nil) ih
     |_=>simp [E.den]at hq
  ·simp only [Bool.and_eq_true,decide_eq_true_eq,beq_iff_eq]at h1
   rw [EL.den,zfX hy]
   cases r1 with
   |nils _=>exact .void h1.1 h1.2 ih
  ·cases h1
theorem DC.rep {w:World} {ds:List DT} {vs:List Value} {xs:List AV} (h:DC w ds vs xs []): ∀k,DC w (zjt k ds) (List.replicate k vs).flatten (List.replicate k xs).flatten []
 |0=>by simpa [zjt]using DC.nil
 |k+1=>by
  rw [zg2,List.replicate_succ,List.flatten_cons,List.replicate_succ,List.flatten_cons]
  simpa using h.app (DC.rep h k)
theorem zsB (h:Pre P c n nx sl hp a sl0 hp0 o gs) {t:TypeId} {l m:Operand} (ho:o.op= .makeSlice t l m) {s1 s2:SV} (hs1:zan sl0 gs l=some s1) (hs2:zan sl0 gs m=some s2) (he:zoH P hp0 gs nx t s1 s2=some e) (hc: ∀q∈e.chk,Cn.den c.ρ q):zbJ P o c n nx sl hp gs a e:=by
 have hm1:l∈o.op.operands:=by simp [ho,Op.operands]
 have hm2:m∈o.op.operands:=by simp [ho,Op.operands]
 unfold zoH at he
 split at he
 ·rename_i el e' zz dl x y hel0 hdt
  have hel:=ze3 hel0
  split at he
  ·cases he
  rename_i hcond
  simp only [not_or,Bool.not_eq_true',Bool.not_eq_false',ne_eq,Bool.not_eq_false,Bool.not_eq_true,Decidable.not_not]at hcond
  obtain⟨hz,hnf,rfl,rfl,hxy,hgs⟩:=hcond
  have hgs:gs= []:=by simpa using hgs
  subst hgs
  obtain⟨_,_,dl',hld,hll⟩:=zoL hel0 hdt
  simp only [DT.row.injEq,true_and]at hld
  subst hld
  rw [DTL.toList_of]at he
  obtain⟨i,z,hi,hiz,hzs,hsz,hco,hby⟩:=zec hz
  have r1:=h.opd hs1 hm1
  have r2:=h.opd hs2 hm2
  have ival: ∀{x:E} {kk:IntKind} {k:Int} {v:Value},SR c [.e x] [v]→x.den c.ρ= .int kk k→v= .int kk k:=by
   intro x kk k v hr hx
   cases hr with
   |e h1 _ _=>exact(zhn h1 hx).1
  split at he
  ·rename_i s hs
   have hs:zdf z=some s:=by simpa [hi,hiz]using hs
   split at he
   ·rename_i hzd
    obtain⟨w,hw,rfl⟩:=Option.map_eq_some_iff.1 he
    obtain⟨kk,k,hk,h0,hb,hle⟩:Cn.den c.ρ (.mkroom x (P.bytesOf e')):=hc1 hc
    have hv1:=ival r1 hk
    have hv2:=ival r2 (by rw [←E.beq_den c.ρ _ _ hxy];exact hk)
    have hzc:DC c.w dl' z.cells.toList (w.den c.ρ).cells []:=by
     have hsr:=zkD (c:=c) hs
     unfold zyY at hzd
     cases s with
     |agg cs=>
      obtain⟨k9,l9,hm,hl9,rfl⟩:=zmI hw
      cases hsr with
      |agg h9 h1 h8=>
       have:=zly (w:=c.w) hzd h1 hl9
       simpa [Value.cells,AV.cells,E.den]using this
     |nils=>
      have hel:zdI hp0 [] (zaj+1) [.nils]=some (.cons w .nil):=by
       unfold zdI
       rw [hw];rfl
      have:=zly (w:=c.w) hzd hsr hel
      rw [zfX hw]at this ⊢
      cases hsr with
      |nils _=>simpa [Value.cells,AV.cells,E.den,EL.den]using this
     |_=>cases hzd
    obtain⟨c1,c2⟩:=zlX (w:=c.w) (ρ:=c.ρ) hs hw
    obtain⟨kn,rfl⟩:=Int.eq_ofNat_of_zero_le h0
    have hbytes:(i.bytes:Int)*(kn:Int)≤281474976710656:=by
     rw [hby]at hb
     rw [Int.mul_comm];omega
    have hlen:=c1.len
    have hml:=zgM z.cells (by omega) kn
    have hrun:=run_make (P:=P) c.w t e' i z hel hi hiz kk kk kn kn (by omega) (Int.le_refl _) hbytes (by omega)
    have hsize:(madeCells z.cells (kn*z.cells.size)).size=kn*P.cellsOf e':=by rw [size_madeCells,hzs,hco]
    have htake:(madeCells z.cells (kn*z.cells.size)).toList.take ((List.replicate kn (w.den c.ρ)).length*P.cellsOf e')=(List.replicate kn z.cells.toList).flatten:=by
     rw [List.length_replicate,List.take_of_length_le (by rw [Array.length_toList,hsize];exact Nat.le_refl _),hml]
    have hfl:zaQ (List.replicate kn (w.den c.ρ))=(List.replicate kn (w.den c.ρ).cells).flatten:=by
     clear hrun hsize htake hml hb hle hbytes hk hv1 hv2 h0 hc
     induction kn with
     |zero=>rfl
     |succ k ih=>simp only [List.replicate_succ,zaQ,List.flatMap_cons,List.flatten_cons]at ih ⊢;rw [ih]
    refine zbJ.deepAlloc (T:= []) h (by simp) (by simp) (by omega) hll (xs:=List.replicate kn (w.den c.ρ)) (C:=madeCells z.cells (kn*z.cells.size)) (cap:=kn) (by simp [E.den,hk,AV.rep]) (fun u hu=> ?_) (by simp) (by simp only [maxLen];omega) hsize ?_ ?_ ?_
    ·rw [List.eq_of_mem_replicate hu,←hlen,Array.length_toList,hzs,hco]
    ·rw [htake]
     intro u hu
     obtain⟨q,hq,hu⟩:=List.mem_flatten.1 hu
     rw [List.eq_of_mem_replicate hq]at hu
     exact c2 u hu
    ·rw [htake,List.length_replicate,hfl];exact hzc.rep kn
    ·simp only [execOp,ho,hv1,hv2,Sem.run_bind,Int.ofNat_eq_natCast,List.length_replicate]
     rw [hrun,hzs];rfl
   ·cases he
  ·cases he
 ·cases he
end
end Go.Proofs.YtecngjbpbnfegaaGreatDoor
end
section
namespace Go.Proofs.YtecngjbpbnfegaaGreatDoor
open Go.RowKit
section
variable {P:Program} {c:Cx} {n nx:Nat} {sl sl0:Nat→SV} {hp hp0:Nat→Option Ent} {a:Act} {o:Oper} {gs:Gd} {e:Eff} {sg:SgT} {nv:Nat}
theorem zo5 {α:Type} (cs vs:List α) (o:Nat):setVs cs o vs=cs.take o++(vs++cs.drop (o+vs.length)):=by simp [setVs]
theorem DC.setVs {w:World} {ts:List DT} {L V:List Value} {X Y:List AV} {N1 N2 M:List Nat} {p:Nat} (h1:DC w (ts.take p) (L.take p) (X.take p) N1) (h2:DC w (ts.drop (p+V.length)) (L.drop (p+V.length)) (X.drop (p+V.length)) N2) (k:DC w ((ts.drop p).take V.length) V Y M):
  DC w ts (Go.Proofs.YtecngjbpbnfegaaGreatDoor.setVs L p V) (Go.Proofs.YtecngjbpbnfegaaGreatDoor.setVs X p Y) (N1++(M++N2)):=by
 have hk:=k.len
 have ht:ts=ts.take p++((ts.drop p).take V.length++ts.drop (p+V.length)):=by
  rw [←List.drop_drop,List.take_append_drop,List.take_append_drop]
 rw [zo5,zo5]
 have hl:Y.length=V.length:=by omega
 rw [hl]
 have:=h1.app (k.app h2)
 rw [←ht]at this
 exact this
theorem zrr (h:Pre P c n nx sl hp a sl0 hp0 o []) {t:TypeId} {x y:Operand} (ho:o.op= .store t x y) {b g:Nat} {ix:E} {sz k:Nat} {s:SV} (r1:SR c [.rptr b g ix sz k] [a.eval x]) (r2:SR c [s] [a.eval y]) {el:Nat} {l:List DT} {ep:Nat} {c0:E} (hK:c.K b g) (hmax: ∀g',c.K b g'→g'≤g) (hE:c.E b=ep)
  (hty:zlS P t=true) (hle:k+P.cellsOf t≤sz) (hagE:zaY P el=true∨(sz=1∧zaY P t=false)) (hagT:zaY P t=true∨P.cellsOf t=1)
  {xe:E} {us:List Nat} {ck:List Cn} (htk:zrg P hp0 [] t ((l.drop k).take (P.cellsOf t)) s=some (xe,us,ck)) (hck: ∀q∈ck,q.den c.ρ) (hnd:us.Nodup) (hb:b∉us)
  (hin: ∀(kk:IntKind) (kv:Int),ix.den c.ρ= .int kk kv→ ∃(m cap:Nat) (C:Array Value) (ys:List AV) (N1 N2:List Nat),c.H b g= .slice (some ⟨m,0,none⟩) ys.length cap∧c0.den c.ρ= .sl ys∧0<sz∧l.length=sz∧c.w.heap[m]?=some (.cells C el (0,0))∧ys.length≤cap∧cap≤maxLen∧C.size=cap*sz∧(∀y∈ys,y.cells.length=sz)∧(∀w∈C.toList.take (ys.length*sz),w.oneCell'=true)∧
   (m::(N1++N2)).Nodup∧(∀q∈m::(N1++N2),q∈(c.G b).top)∧DC c.w ((zjt ys.length l).take (kv.toNat*sz+k)) ((C.toList.take (ys.length*sz)).take (kv.toNat*sz+k)) ((zaQ ys).take (kv.toNat*sz+k)) N1∧
   DC c.w ((zjt ys.length l).drop (kv.toNat*sz+k+P.cellsOf t)) ((C.toList.take (ys.length*sz)).drop (kv.toNat*sz+k+P.cellsOf t)) ((zaQ ys).drop (kv.toNat*sz+k+P.cellsOf t)) N2):
  zbJ P o c n nx sl hp [] a {chk:=ck,ent:=(b, .deep el sz l g (ep+1) (.set c0 ix (.put (.idx c0 ix) k xe (zaY P el))))::zie us}:=by
 generalize hv:a.eval x=v at r1
 cases r1 with
 |rptr k1 k2 k3 k4 k5 k6=>
  rename_i m0 len cap0 kk kv
  obtain⟨m,cap,C,ys,N1,N2,p1,p2,p3,p4,p5,p6,p7,p8,p9,p10,p11,p12,p13,p14⟩:=hin kk kv k3
  rw [k2]at p1;cases p1
  have hkl:kv.toNat<ys.length:=by omega
  have hmul:(kv.toNat+1)*sz≤ys.length*sz:=Nat.mul_le_mul_right _ (by omega)
  have hmul2:ys.length*sz≤cap0*sz:=Nat.mul_le_mul_right _ p6
  rw [Nat.add_mul]at hmul
  have hCl:C.toList.length=cap0*sz:=by simpa using p8
  obtain⟨q1,q2,q3,q4,q5,q6⟩:=zpQ h.eh h.gs (by rw [List.length_take,List.length_drop,p4];omega) hagT htk r2 hck
  have hnth:=znW hkl
  generalize hyk:(AV.sl ys).nth kv.toNat=yk at hnth
  have hykl:=p9 yk (List.mem_of_getElem? hnth)
  have hvl:(a.eval y).cells.toList.length=P.cellsOf t:=by simpa using q4
  obtain⟨m1,m2,m3⟩:=zgK (vs:=(a.eval y).cells.toList) p5 (show(kv.toNat*sz+k)+_≤C.size by rw [hvl,p8];omega)
  have hlC:(C.toList.take (ys.length*sz)).length=ys.length*sz:=by rw [List.length_take,hCl];omega
  have hmtop:m0∈(c.G b).top:=p12 _ (by simp)
  have husb: ∀q∈zbA c us,q∉(c.G b).top:=fun q hq hh=>by
   obtain⟨u,hu,hqu⟩:=zhx.1 hq
   exact h.rel.gw.disj u b (fun hh=>hb (hh▸hu)) q (by simp [GI.own,hqu]) (by simp [GI.own,hh])
  have hinbT: ∀q∈zbA c us,q<c.w.heap.size:=fun q hq=>by
   obtain⟨u,_,hqu⟩:=zhx.1 hq
   exact h.rel.gw.inb u q (by simp [GI.own,hqu])
  have hinbB: ∀q∈(c.G b).top,q<c.w.heap.size:=fun q hq=>h.rel.gw.inb b q (by simp [GI.own,hq])
  have hsame: ∀q,q∈zbA c us∨(q∈N1++N2)→(za1 c.w m0 (kv.toNat*sz+k) (a.eval y).cells.toList).heap[q]?=c.w.heap[q]?:=fun q hq=>by
   refine m1.block q ?_ ?_
   ·rcases hq with hq|hq
    ·exact hinbT q hq
    ·exact hinbB q (p12 q (by simp [List.mem_append.1 hq]))
   ·simp only [List.mem_singleton]
    rintro rfl
    rcases hq with hq|hq
    ·exact husb _ hq hmtop
    ·exact(List.nodup_cons.1 p11).1 hq
  have hz:(yk.putF k (xe.den c.ρ) (zaY P el)).cells=setVs yk.cells k (xe.den c.ρ).cells:=by
   refine znd ?_ (fun hg=> ?_)
   ·cases hg:zaY P el with
    |true=>exact .inr rfl
    |false=>
     left
     rcases hagE with h'|⟨_,h'⟩
     ·rw [hg]at h';cases h'
     ·rw [h']at q5
      exact fun cs=>(q5.1 cs)
   ·rcases hagE with h'|⟨h1,h'⟩
    ·rw [hg]at h';cases h'
    ·rw [h']at q5
     have hct:P.cellsOf t=1:=by rcases hagT with h2|h2;rw [h']at h2;cases h2;exact h2
     refine⟨by omega,by omega, ?_⟩
     cases hxe:xe.den c.ρ<;>first|rfl|exact absurd hxe (q5.1 _)
  have hflatC:zaQ (ys.set kv.toNat (yk.putF k (xe.den c.ρ) (zaY P el)))=setVs (zaQ ys) (kv.toNat*sz+k) (xe.den c.ρ).cells:=
   zmX ys _ _ yk k _ p9 hnth (by rw [q3];exact hle) hz
  have hds:((zjt ys.length l).drop (kv.toNat*sz+k)).take (P.cellsOf t)=(l.drop k).take (P.cellsOf t):=by
   rw [←p4];exact zip l _ _ _ _ hkl (by omega)
  have hrun:(execOp a.eval o).run P c.w= .ok .skip (za1 c.w m0 (kv.toNat*sz+k) (a.eval y).cells.toList):=by
   have:=zl0 (P:=P) (t:=t) (v:=a.eval y) (off:=kv.toNat*sz+k) p5 hty q4 (by rw [q4,p8];omega) q2
   simp [execOp,ho,hv,this]
  refine zbJ.deepOld h hnd q6 hb hK hmax hE hrun (hs:=(c.G b).top++zbA c us) (fun q hq=>List.mem_append.1 hq) ⟨m1.os,m1.tape,m1.output,m1.size,fun q hq hn=>m1.block q hq fun hh=>hn (by simp only [List.mem_singleton]at hh;subst hh;exact List.mem_append.2 (.inl hmtop))⟩
   (top:=m0::(N1++(zbA c us++N2))) ?_ (fun q hq=> ?_) ?_
  ·have hnT:=zh1 h.rel.gw hnd
   rw [List.nodup_cons,List.nodup_append]at p11
   obtain⟨n1,n2,n3,n4⟩:=p11
   have a1: ∀q∈zbA c us,q∉N1∧q∉N2∧q≠m0:=fun q hq=>⟨fun hh=>husb q hq (p12 q (by simp [hh])),fun hh=>husb q hq (p12 q (by simp [hh])),fun hh=>husb q hq (hh▸hmtop)⟩
   rw [List.nodup_cons,List.nodup_append,List.nodup_append]
   refine⟨fun hh=> ?_,n2,⟨hnT,n3,fun p hp q hq hpq=>(a1 p hp).2.1 (hpq▸hq)⟩,fun p hp q hq hpq=> ?_⟩
   ·simp only [List.mem_append]at hh n1
    rcases hh with hh|hh|hh
    ·exact n1 (.inl hh)
    ·exact(a1 _ hh).2.2 rfl
    ·exact n1 (.inr hh)
   ·rcases List.mem_append.1 hq with hq|hq
    ·exact(a1 q hq).1 (hpq▸hp)
    ·exact n4 p hp q hq hpq
  ·have:q∈(c.G b).top∨q∈zbA c us:=by
    simp only [List.mem_cons,List.mem_append]at hq
    rcases hq with rfl|hq|hq|hq
    ·exact .inl hmtop
    ·exact .inl (p12 q (by simp [hq]))
    ·exact .inr hq
    ·exact .inl (p12 q (by simp [hq]))
   refine⟨.inl (List.mem_append.2 this),Nat.lt_of_lt_of_le ?_ m1.size⟩
   rcases this with hh|hh
   ·exact hinbB q hh
   ·exact hinbT q hh
  ·have hden:(E.set c0 ix (.put (.idx c0 ix) k xe (zaY P el))).den c.ρ= .sl (ys.set kv.toNat (yk.putF k (xe.den c.ρ) (zaY P el))):=by
    simp only [E.den,p2,k3,AV.idx,hyk,AV.setNth]
   rw [hden,k2]
   have hll:(ys.set kv.toNat (yk.putF k (xe.den c.ρ) (zaY P el))).length=ys.length:=List.length_set
   have:=DC.row (w:=za1 c.w m0 (kv.toNat*sz+k) (a.eval y).cells.toList) (e:=el) (z:=sz) (l:=DTL.of l) (g:=m0) (cap:=cap0) (ys:=ys.set kv.toNat (yk.putF k (xe.den c.ρ) (zaY P el))) (N1:=N1++(zbA c us++N2)) (ts:= []) (vs:= []) (xs:= []) (N:= []) p3 (by rw [DTL.toList_of];exact p4) m2 (by rw [hll];exact p6) p7 (by rw [List.size_toArray,zix _ _ _ (by rw [hvl,hCl];omega),Array.length_toList];exact p8) (fun w hw=> ?_) ?_ ?_ .nil
   ·rw [hll]at this
    simpa using this
   ·rcases List.mem_or_eq_of_mem_set hw with hw|rfl
    ·exact p9 w hw
    ·rw [hz,zix _ _ _ (by rw [q3,hykl];exact hle)];exact hykl
   ·simp only [hll,List.toList_toArray]
    rw [zhz _ _ _ _ (by rw [hvl];omega) (by rw [hCl];omega)]
    intro u hu
    unfold setVs at hu
    simp only [List.mem_append]at hu
    rcases hu with(hu|hu)|hu
    ·exact p10 u (List.mem_of_mem_take hu)
    ·exact q2 u hu
    ·exact p10 u (List.mem_of_mem_drop hu)
   ·simp only [hll,List.toList_toArray]
    rw [zhz _ _ _ _ (by rw [hvl];omega) (by rw [hCl];omega),hflatC,DTL.toList_of]
    refine DC.setVs (p13.frame fun q hq=>hsame q (.inr (by simp [hq]))) ?_ ?_
    ·rw [hvl];exact p14.frame fun q hq=>hsame q (.inr (by simp [hq]))
    ·rw [hvl,hds];exact q1.frame fun q hq=>hsame q (.inl hq)
theorem zqA (h:Pre P c n nx sl hp a sl0 hp0 o gs) {t:TypeId} {x y:Operand} (ho:o.op= .store t x y) {b g:Nat} {ix:E} {sz k:Nat} {s:SV} (hrow: ¬ ∃e z g c d,zlm hp0 gs b=some (.row e z g c d)) (hx:zan sl0 gs x=some (.rptr b g ix sz k)) (hy:zan sl0 gs y=some s)
  (he:zhU P hp0 gs t (.rptr b g ix sz k) s=some e) (hc: ∀q∈e.chk,Cn.den c.ρ q):zbJ P o c n nx sl hp gs a e:=by
 have r1:=h.opd hx (by simp [ho,Op.operands])
 have r2:=h.opd hy (by simp [ho,Op.operands])
 simp only [zhU]at he
 split at he
 ·rename_i hl;exact absurd ⟨_,_,_,_,_,hl⟩ hrow
 ·rename_i el sz' l g' ep c0 hl
  split at he
  ·rename_i hh
   obtain⟨rfl,rfl,rfl,hty,hle,hagE,hagT⟩:=hh
   split at he
   ·rename_i xe us ck htk
    split at he
    ·cases he
    rename_i hnt
    simp only [Bool.or_eq_true,Bool.not_eq_true',not_or,Bool.not_eq_false,Bool.not_eq_true,List.contains_eq_mem,decide_eq_false_iff_not]at hnt
    simp only [Option.some.injEq]at he;subst he
    obtain⟨e1,e2,e3,e4,e5⟩:=h.eh b _ (zaV hl h.gs)
    refine zrr h ho r1 r2 e1 e2 e3 hty hle (by simpa using hagE) hagT htk hc (zik hnt.1) hnt.2 fun kk kv hkv=> ?_
    generalize a.eval x=v at r1
    cases r1 with
    |rptr k1 k2 k3 k4 k5 _=>
     rw [k3]at hkv;cases hkv
     obtain⟨d1,d2,⟨a9,d3,_⟩|⟨g9,cap9,C,ys,N,d3,d4,d5,d6,d7,d8,d9,d10,d11,d12⟩⟩:=e4.inv
     ·rw [k2]at d3;cases d3;omega
     ·rw [DTL.toList_of]at d2 d12
      obtain⟨N1,N2,N3,rfl,s1,s2,s3⟩:=d12.split (kv.toNat*sz+k) (P.cellsOf t)
      have hnd:=h.rel.gw.nodup b
      simp only [GI.own,e5,List.append_nil,d5]at hnd
      refine⟨g9,cap9,C,ys,N1,N3,d3,d4,d1,d2,d6,d7,d8,d9,d10,d11, ?_,fun q hq=> ?_,s1,s3⟩
      ·refine List.Sublist.nodup (List.Sublist.cons_cons _ ?_) hnd
       rw [List.append_assoc]
       exact List.Sublist.append (List.Sublist.refl _) (List.sublist_append_right _ _)
      ·rw [d5]
       simp only [List.mem_cons,List.mem_append]at hq ⊢
       rcases hq with hq|hq|hq
       ·exact .inl hq
       ·exact .inr (.inl (.inl hq))
       ·exact .inr (.inr hq)
   ·cases he
  ·cases he
 ·rename_i el sz' l g' ep c0 i' o' u' hl
  split at he
  ·rename_i hh
   obtain⟨rfl,rfl,rfl,hty,rfl,hib,hle,hct,hagT,hagE⟩:=hh
   have hagT:zaY P t=false:=by simpa using hagT
   split at he
   ·rename_i xe us ck htk
    split at he
    ·cases he
    rename_i hnt
    simp only [Bool.or_eq_true,Bool.not_eq_true',not_or,Bool.not_eq_false,Bool.not_eq_true,List.contains_eq_mem,decide_eq_false_iff_not]at hnt
    simp only [Option.some.injEq]at he;subst he
    obtain⟨e1,e2,e3,⟨m,cap,C,ys,kk,kv,N1,N2,p1,p2,p3,p4,p5,p6,p7,p7',p8,p9,p10,p11,p12,p13,p14,p15,p16,p17,p18⟩,e5⟩:=h.eh b _ (zaV hl h.gs)
    refine zrr h ho r1 r2 e1 e2 e3 hty (by omega) (hagE.imp id fun hh=>⟨hh,hagT⟩) (.inr hct) (by rw [hct];exact htk) hc (zik hnt.1) hnt.2 fun kk' kv' hkv=> ?_
    rw [E.beq_den c.ρ _ _ hib,p3]at hkv
    cases hkv
    have hnd:=h.rel.gw.nodup b
    simp only [GI.own,e5,List.append_nil,p14]at hnd
    exact⟨m,cap,C,ys,N1,N2,p1,p2,p7,p7',p8,p9,p10,p11,p12,p13,hnd,fun q hq=>by rw [p14];exact hq,p17,by rw [hct];exact p18⟩
   ·cases he
  ·cases he
 ·cases he
end
end Go.Proofs.YtecngjbpbnfegaaGreatDoor
end
section
namespace Go.Proofs.YtecngjbpbnfegaaGreatDoor
open Go.RowKit
section
variable {P:Program} {c:Cx} {n nx:Nat} {sl sl0:Nat→SV} {hp hp0:Nat→Option Ent} {a:Act} {o:Oper} {gs:Gd} {e:Eff} {sg:SgT} {nv:Nat}
theorem ztV {w:World} {ety sz:Nat} {p:Option Addr} {m r:Nat} {x:AV} {top N:List Nat} (h:zdF w ety sz (.slice p m r) x top N): ∃xs,x= .sl xs∧xs.length=m∧m≤r∧0<sz∧(∀y∈xs,y.cells.length=sz)∧
  ((xs= []∧m=0∧r=0∧top= []∧N= [])∨ ∃g C,p=some ⟨g,0,none⟩∧r≤maxLen∧w.heap[g]?=some (.cells C ety (0,0))∧C.size=r*sz∧top= [g]∧(∀u∈C.toList.take (m*sz),u.oneCell'=true)∧Rd w (C.toList.take (m*sz)) (zaQ xs) N):=by
 obtain⟨xs,rfl,h2,h3,⟨rfl,⟨a,hv⟩,rfl,rfl⟩|⟨g,cap',C,hv,h6,h7,h8,h9,rfl,h10,h11⟩⟩:=h
 ·cases hv;exact⟨[],rfl,rfl,Nat.le_refl _,h3,by simp, .inl ⟨rfl,rfl,rfl,rfl,rfl⟩⟩
 ·cases hv;exact⟨xs,rfl,rfl,h6,h3,h2, .inr ⟨g,C,rfl,h7,h8,h9,rfl,h10,h11⟩⟩
theorem zsO (h:Pre P c n nx sl hp a sl0 hp0 o gs) {t:TypeId} {x:Operand} {lo hi mx:Option Operand} (ho:o.op= .slice t x lo hi mx) {s:SV} (hs:zan sl0 gs x=some s) {l' h' m':Option SV} (hl':zpP (zan sl0 gs) lo=some l') (hh':zpP (zan sl0 gs) hi=some h') (hm':zpP (zan sl0 gs) mx=some m') (he:zoQ P hp0 gs t s l' h' m'=some e) (hc: ∀q∈e.chk,Cn.den c.ρ q):zbJ P o c n nx sl hp gs a e:=by
 have hm:x∈o.op.operands:=by simp [ho,Op.operands]
 have hmlo: ∀y,lo=some y→y∈o.op.operands:=fun y hy=>by simp [ho,Op.operands,hy]
 have hmhi: ∀y,hi=some y→y∈o.op.operands:=fun y hy=>by simp [ho,Op.operands,hy]
 have hx:=h.opd hs hm
 have ival: ∀{x:E} {kk:IntKind} {k:Int} {v:Value},SR c [.e x] [v]→x.den c.ρ= .int kk k→v= .int kk k:=by
  intro x kk k v hr hx
  cases hr with
  |e h1 _ _=>exact(zhn h1 hx).1
 have ex:(execOp a.eval o).run P c.w=((Instr.sliceAt t (a.eval x) (lo.map a.eval) (hi.map a.eval) (mx.map a.eval)).run P c.w).andThen fun v w=> .ok (.value v) w:=by
  simp [execOp,ho]
 unfold zoQ at he
 split at he
 ·rename_i el0 b g hel
  have hu:=ze3 hel
  split at he
  ·cases he
  rename_i hty
  have hty:zlS P el0=true:=by simpa using hty
  have hmxn:mx=none:=by
   rcases zfW hm' with⟨hh,_⟩|⟨_,_,_,_,hh⟩
   ·exact hh
   ·cases hh
  subst hmxn
  split at he
  ·rename_i el z g' c0 d hl
   split at he
   ·cases he
   rename_i hcond
   simp only [not_or,Decidable.not_not,ne_eq]at hcond
   obtain⟨rfl,rfl,rfl⟩:=hcond
   obtain⟨q1,q2,N,q3,q4,q5,q6⟩:=h.eh b _ (zaV hl h.gs)
   generalize hv:a.eval x=v at hx ex
   cases hx with
   |own k1 k2 k3=>
    rename_i p m r
    rw [k2]at q3
    obtain⟨xs,hxs,hxl,hmr,hsz,hcl,hcase⟩:=ztV q3
    split at he
    ·rename_i l
     simp only [Option.some.injEq]at he;subst he
     obtain⟨ka,ai,kb,bi,mm,d1,d2,d3,d4,d5,d6⟩:Cn.den c.ρ (.win c0 l (.len c0)):=hc1 hc
     have hmm:mm=(m:Int):=by rw [hxs]at d3;simp only [AV.len,AV.int.injEq,true_and]at d3;omega
     obtain⟨an,rfl⟩:=Int.eq_ofNat_of_zero_le d4
     obtain⟨ol,hlo,hol⟩: ∃ol,lo=some ol∧zan sl0 [] ol=some (.e l):=by
      rcases zfW hl' with⟨_,hh⟩|⟨ol,sl',hh1,hh2,hh3⟩
      ·cases hh
      ·cases hh3;exact⟨ol,hh1,hh2⟩
     have hhi:hi=none:=by
      rcases zfW hh' with⟨hh,_⟩|⟨_,_,_,_,hh⟩
      ·exact hh
      ·cases hh
     subst hlo;subst hhi
     have hlv:=ival (h.opd hol (hmlo _ rfl)) d1
     have hle:an≤m:=by omega
     have hrun:=zhB (P:=P) (w:=c.w) (lo:=(some ol).map a.eval) (hi:=(none:Option Operand).map a.eval) hu hty p m r an m (.inr ⟨ka,by rw [Option.map_some,hlv]⟩) (.inl ⟨rfl,rfl⟩) hle (Nat.le_refl _) hmr
     have:=SR.wown (c:=c) (lo:=l) (sz:=P.cellsOf el) (q':=if r=an then p else p.map (·.add (an*P.cellsOf el))) (r:=r-an) k1 k2 d1 d4 (by omega) (fun hlt=>by
      rcases hcase with⟨_,hm0,_⟩|⟨g9,C,rfl,_⟩
      ·omega
      ·exact⟨g9,rfl,by rw [if_neg (by omega)];simp [Addr.add_lit],by simp⟩) .nil
     refine zbJ.pure h (v:=sliced p an m r (P.cellsOf el)) ?_ (by simpa [sliced]using this) rfl
     rw [ex];show Result.andThen (Sem.run P (Instr.sliceAt t (.slice p m r) ((some ol).map a.eval) ((none:Option Operand).map a.eval) none) c.w) _=_;rw [hrun];rfl
    ·rename_i hb
     simp only [Option.some.injEq]at he;subst he
     obtain⟨ka,ai,kb,bi,mm,d1,d2,d3,d4,d5,d6⟩:Cn.den c.ρ (.win c0 (.int .i64 0) hb):=hc1 hc
     have hmm:mm=(m:Int):=by rw [hxs]at d3;simp only [AV.len,AV.int.injEq,true_and]at d3;omega
     simp only [E.den,AV.int.injEq]at d1
     obtain⟨_,rfl⟩:=d1
     obtain⟨bn,rfl⟩:=Int.eq_ofNat_of_zero_le d5
     obtain⟨oh,hhi,hoh⟩: ∃oh,hi=some oh∧zan sl0 [] oh=some (.e hb):=by
      rcases zfW hh' with⟨_,hh⟩|⟨ol,sl',hh1,hh2,hh3⟩
      ·cases hh
      ·cases hh3;exact⟨ol,hh1,hh2⟩
     have hlo:lo=none:=by
      rcases zfW hl' with⟨hh,_⟩|⟨_,_,_,_,hh⟩
      ·exact hh
      ·cases hh
     subst hlo;subst hhi
     have hlv:=ival (h.opd hoh (hmhi _ rfl)) d2
     have hle:bn≤m:=by omega
     have hrun:=zhB (P:=P) (w:=c.w) (lo:=(none:Option Operand).map a.eval) (hi:=(some oh).map a.eval) hu hty p m r 0 bn (.inl ⟨rfl,rfl⟩) (.inr ⟨kb,by rw [Option.map_some,hlv]⟩) (Nat.zero_le _) hle hmr
     have hsl:sliced p 0 bn r (P.cellsOf el)= .slice p bn r:=by
      unfold sliced
      rcases hcase with⟨_,_,rfl,_⟩|⟨g9,C,rfl,_⟩
      ·simp
      ·split<;>simp [Addr.add_lit]
     rw [hsl]at hrun
     have hrun':(execOp a.eval o).run P c.w= .ok (.value (.slice p bn r)) c.w:=by
      rw [ex];show Result.andThen (Sem.run P (Instr.sliceAt t (.slice p m r) ((none:Option Operand).map a.eval) ((some oh).map a.eval) none) c.w) _=_;rw [hrun];rfl
     have hnew: ¬c.K b (g+1):=fun hk=>by have:=q2 _ hk;omega
     have hrel:=h.rel
     have hfin:=hrel.regrow (gs:= []) (t:=b) (g:=g+1) (w':=c.w) (row:=(c.G b).top.head?) (top:=(c.G b).top) (O:=if d=true then(c.G b).O else []) (v:= .slice p bn r) (.inr (by omega)) hnew ⟨rfl,rfl,rfl,Nat.le_refl _,fun _ _ _=>rfl⟩ (fun g0 hg0=> .inl (List.mem_of_mem_head? hg0)) (by
       rcases hcase with⟨_,_,_,ht,_⟩|⟨g9,C,_,_,_,_,ht,_⟩
       ·exact .inl ht
       ·exact .inr ⟨g9,by rw [ht];rfl,ht⟩) (by split;exact .inr rfl;exact .inl rfl)
      (.row el (P.cellsOf el) (g+1) (.win c0 (.int .i64 0) hb) d) (by intros;simp) (zcQ _) (fun hkp=>by
       have hwin:(E.win c0 (.int .i64 0) hb).den c.ρ= .sl (xs.take bn):=by
        simp only [E.den,hxs,d2,AV.win];simp
       obtain⟨N',hown,hNN⟩: ∃N',zdF c.w el (P.cellsOf el) (.slice p bn r) (.sl (xs.take bn)) (c.G b).top N'∧ ∀q∈N',q∈N:=by
        rcases hcase with⟨rfl,hm0,rfl,ht,rfl⟩|⟨g9,C,rfl,hmax,hb9,hC,ht,h1,hrd⟩
        ·have:bn=0:=by omega
         subst this
         exact⟨[],⟨[],by simp,by simp,hsz, .inl ⟨rfl,⟨p,rfl⟩,ht,rfl⟩⟩,by simp⟩
        ·obtain⟨N',hN',hr'⟩:=hrd.piece 0 (bn*P.cellsOf el)
         have hl0:(xs.take bn).length=bn:=by rw [List.length_take];omega
         have hmul:bn*P.cellsOf el≤m*P.cellsOf el:=Nat.mul_le_mul_right _ hle
         have ef:=zqf xs hcl 0 bn (Nat.zero_le _) (by omega)
         simp only [Nat.zero_mul,Nat.sub_zero,List.drop_zero]at ef hr'
         rw [ef,List.take_take,Nat.min_eq_left hmul]at hr'
         refine⟨N',⟨xs.take bn,rfl,fun y hy=>hcl y (List.mem_of_mem_take hy),hsz, .inr ⟨g9,r,C,by rw [hl0],by rw [hl0];omega,hmax,hb9,hC,ht, ?_, ?_⟩⟩,hN'⟩
         ·rw [hl0]
          intro u hu
          refine h1 u ?_
          have:C.toList.take (bn*P.cellsOf el)=(C.toList.take (m*P.cellsOf el)).take (bn*P.cellsOf el):=by rw [List.take_take,Nat.min_eq_left hmul]
          rw [this]at hu
          exact List.mem_of_mem_take hu
         ·rw [hl0];exact hr'
       refine⟨.inr ⟨rfl,rfl⟩,fun g'' hg''=> ?_,N', ?_,fun q hq=>hkp.ok q (hown.inbN q hq) (q4 q (hNN q hq)),fun hd=> ?_,fun hd=>by simp [Cx.regrow,hd]⟩
       ·rcases hg'' with hg''|⟨_,rfl⟩
        ·have:=q2 _ hg'';omega
        ·exact Nat.le_refl _
       ·have e1:(c.regrow b (g+1) c.w (.slice p bn r) (c.G b).top (if d=true then(c.G b).O else [])).H b (g+1)= .slice p bn r:=by simp [Cx.regrow]
        have e2:((c.regrow b (g+1) c.w (.slice p bn r) (c.G b).top (if d=true then(c.G b).O else [])).G b).top=(c.G b).top:=by simp [Cx.regrow]
        rw [e1,e2]
        show zdF c.w el (P.cellsOf el) _ ((E.win c0 (.int .i64 0) hb).den c.ρ) _ N'
        rw [hwin];exact hown
       ·obtain⟨u1,u2⟩:=q5 hd
        have u1:N= []:=u1
        subst u1
        have hN0:N'= []:=List.eq_nil_iff_forall_not_mem.2 fun q hq=>by simpa using hNN q hq
        subst hN0
        exact⟨rfl,by simp only [Cx.regrow,if_true,hd];exact u2⟩)
     intro next Q hk
     unfold Oper.wp
     rw [hrun',Oper.upon_value]
     refine hk _ (c.regrow b (g+1) c.w (.slice p bn r) (c.G b).top (if d=true then(c.G b).O else [])) ⟨rfl,rfl,rfl,rfl,fun u hu=> ?_⟩ (hfin.put (SR.mkGd (c:=c.regrow b (g+1) c.w (.slice p bn r) (c.G b).top (if d=true then(c.G b).O else [])) (s:= .own b (g+1)) (v:= .slice p bn r) (.own (show _∨_ from .inr ⟨rfl,rfl⟩) (by simp [Cx.regrow]) .nil) []) o.dst)
     rcases hu with hu|rfl
     ·exact .inl hu
     ·exact .inl (h.rel.usedK _ _ k1)
    ·cases he
  ·cases he
 ·cases he
theorem zqT (z:Array Value) (hz:0<z.size) (k:Nat):(Builtin.zeroCells z k).toList=(List.replicate k z.toList).flatten:=by
 have:=zgM z hz k
 rw [←this];rfl
theorem zvC (h:Pre P c n nx sl hp a sl0 hp0 o gs) {x:Operand} {tx:TypeId} {cl:Call} (ho:o.op= .call cl) (hcl:cl.callee= .builtin .clear) (ha1:cl.args.toList= [x]) (ha2:cl.argTypes.toList= [tx]) {s:SV} (hs:zan sl0 gs x=some s) (he:zse P hp0 gs tx s=some e) (hc: ∀q∈e.chk,Cn.den c.ρ q):zbJ P o c n nx sl hp gs a e:=by
 have hargs:cl.args= #[x]:=by apply Array.ext';simp [ha1]
 have htys:cl.argTypes= #[tx]:=by apply Array.ext';simp [ha2]
 have hm:x∈o.op.operands:=by simp [ho,Op.operands,Call.operands,hcl,hargs]
 have hx:=h.opd hs hm
 unfold zse at he
 split at he
 ·rename_i el0 b g l z hel
  have hu:=ze3 hel
  split at he
  ·rename_i el z' g' c0 d hl
   split at he
   ·cases he
   rename_i hcond
   simp only [not_or,Bool.not_eq_true',Bool.not_eq_false,Decidable.not_not,ne_eq]at hcond
   obtain⟨rfl,rfl,rfl,rfl,hz,hag⟩:=hcond
   have hag:zaY P el=true∨P.cellsOf el=1:=by simpa using hag
   obtain⟨i,zv,hi,hiz,hzs,hsz,hco,hby⟩:=zec hz
   split at he
   ·rename_i q hq
    split at he
    ·rename_i w hw
     have hq:zdf zv=some q:=by simpa [hi,hiz]using hq
     simp only [Option.some.injEq]at he;subst he
     obtain⟨c1,c2⟩:=zlX (w:=c.w) (ρ:=c.ρ) hq hw
     have hres:=zjV h.hp (zaV hl h.gs)
     obtain⟨q1,q2,N,q3,q4,q5,q6⟩:=h.rel.ents b _ hres
     generalize hv:a.eval x=v at hx
     cases hx with
     |wown k1 k2 k3 k4 k5 k6 k7=>
      rename_i p m r q' r' kk kv
      rw [k2]at q3
      obtain⟨xs,hxs,hxl,hmr,hsz0,hcl9,hcase⟩:=ztV q3
      have hdef:(E.bin .sub (.len c0) l).den c.ρ≠ .undef:=hc (.dfd (.bin .sub (.len c0) l)) (by simp)
      have hkk:kk= .i64:=by
       simp only [E.den,hxs,AV.len,k3,AV.bin]at hdef
       split at hdef
       ·rename_i hh
        rcases hh with hh|hh|hh
        ·exact hh.symm
        ·cases hh
        ·cases hh
       ·exact absurd rfl hdef
      subst hkk
      have hden:(E.bin .sub (.len c0) l).den c.ρ= .int .i64 ((m:Int)-kv):=by
       simp only [E.den,hxs,AV.len,k3,AV.bin,true_or,if_true,zbb,hxl]
       congr 1
       have hm63:(m:Int)≤9223372036854775807:=by
        rcases hcase with⟨_,h0,_⟩|⟨_,_,_,hmax,_⟩
        ·omega
        ·have:maxLen=9223372036854775807:=rfl;omega
       exact(zlU .i64 _).2 ⟨by simp [IntKind.min,IntKind.signed,IntKind.bits];omega,by simp [IntKind.max,IntKind.signed,IntKind.bits];omega⟩
      have hnew:(E.app (.win c0 (.int .i64 0) l) (.rep (.bin .sub (.len c0) l) w)).den c.ρ= .sl (xs.take kv.toNat++List.replicate (m-kv.toNat) (w.den c.ρ)):=by
       have e1:(E.win c0 (.int .i64 0) l).den c.ρ= .sl (xs.take kv.toNat):=by simp only [E.den,hxs,k3,AV.win];simp
       have e2:(E.rep (.bin .sub (.len c0) l) w).den c.ρ= .sl (List.replicate (m-kv.toNat) (w.den c.ρ)):=by
        show AV.rep ((E.bin .sub (.len c0) l).den c.ρ) (w.den c.ρ)=_
        rw [hden];simp only [AV.rep]
        congr 2;omega
       show AV.app _ _=_
       rw [e1,e2];rfl
      have ex:(execOp a.eval o).run P c.w=((Builtin.clear_ #[tx] o.type #[.slice q' (m-kv.toNat) r']).run P c.w).andThen fun v w=> .ok (.value v) w:=by
       simp [execOp,ho,resolve,hcl,hargs,htys,invoke,builtin,hv]
      rcases Nat.eq_or_lt_of_le (show kv.toNat≤m by omega)with heq|hlt
      ·
       have hsub:m-kv.toNat=0:=by omega
       have hrun:(execOp a.eval o).run P c.w= .ok (.value (.tuple #[])) c.w:=by
        rw [ex,hsub]
        cases q'<;>simp [Builtin.clear_,run_underlying hu]
       have hsame:(E.app (.win c0 (.int .i64 0) l) (.rep (.bin .sub (.len c0) l) w)).den c.ρ=c0.den c.ρ:=by
        rw [hnew,hxs,hsub];simp [List.take_of_length_le (show xs.length≤kv.toNat by omega)]
       intro next Q hk
       unfold Oper.wp
       rw [hrun,Oper.upon_value]
       have hfin:Rel c n sl (zeH hp [(b, .row el (P.cellsOf el) g (.app (.win c0 (.int .i64 0) l) (.rep (.bin .sub (.len c0) l) w)) d)]) a:=by
        have hup: ∀u,zeH hp [(b, .row el (P.cellsOf el) g (.app (.win c0 (.int .i64 0) l) (.rep (.bin .sub (.len c0) l) w)) d)] u=if u=b then some (.row el (P.cellsOf el) g (.app (.win c0 (.int .i64 0) l) (.rep (.bin .sub (.len c0) l) w)) d)else hp u:=fun u=>rfl
        refine h.rel.change (fun u=>u=b) (zm4.refl c) h.rel.base (fun u hu=>⟨by rw [hup,if_neg hu],rfl,rfl,fun _ hk=>hk⟩) (fun _ _ _ _=>rfl) (fun u hu=> ?_) h.rel.gw h.rel.usedK (fun u f hf=> ?_)
        ·subst hu
         rw [hup,if_pos rfl]
         refine⟨fun e' hr=> ?_,fun hn=>absurd rfl (hn _)⟩
         simp only [Res]at hr
         subst hr
         exact⟨q1,q2,N,by rw [hsame,k2];exact q3,q4,q5,q6⟩
        ·rw [hup]at hf
         split at hf
         ·rename_i hu;subst hu;exact h.rel.usedK _ _ k1
         ·exact h.rel.usedH u f hf
       exact hk _ c (zza.refl _ _) (hfin.put ((SR.undef .nil).mkGd []) o.dst)
      ·obtain⟨b9,hp9,rfl,rfl⟩:=k6 (by omega)
       rcases hcase with⟨_,h0,_⟩|⟨g9,C,hp',hmax,hb9,hC,ht,h1,hrd⟩
       ·omega
       rw [hp9]at hp';cases hp'
       have hCl:C.toList.length=r*P.cellsOf el:=by simpa using hC
       have hmulr:m*P.cellsOf el≤r*P.cellsOf el:=Nat.mul_le_mul_right _ hmr
       have hmulk:(m-kv.toNat)*P.cellsOf el+kv.toNat*P.cellsOf el=m*P.cellsOf el:=by
        rw [←Nat.add_mul];congr 1;omega
       have hzl:=zqT zv.cells (by omega) (m-kv.toNat)
       generalize hZ:(List.replicate (m-kv.toNat) zv.cells.toList).flatten=Z at hzl
       have hZl:Z.length=(m-kv.toNat)*P.cellsOf el:=by
        rw [←hZ,List.length_flatten]
        simp only [List.map_replicate,List.sum_replicate_nat,Array.length_toList,hzs,hco]
       have hZ1: ∀u∈Z,u.oneCell'=true:=fun u hu=>by
        rw [←hZ]at hu
        obtain⟨L,hL,hu⟩:=List.mem_flatten.1 hu
        rw [List.eq_of_mem_replicate hL]at hu
        exact c2 u hu
       have hput:=zj6 (P:=P) (off:=kv.toNat*P.cellsOf el) Z 0 c.w C hb9 (by rw [hZl,hC];omega) hZ1
       have hrun:(execOp a.eval o).run P c.w= .ok (.value (.tuple #[])) (za1 c.w b9 (kv.toNat*P.cellsOf el) Z):=by
        rw [ex]
        obtain⟨mm,hmm⟩: ∃mm,m-kv.toNat=mm+1:=⟨m-kv.toNat-1,by omega⟩
        have hzv:(zeroValue el).run P c.w= .ok zv c.w:=by simp [zeroValue,typeInfo,hi,hiz]
        simp only [Nat.add_zero]at hput
        rw [hmm]at hzl ⊢
        simp [Builtin.clear_,run_underlying hu,hzv,hzl,hput]
       obtain⟨m1,m2,m3⟩:=zgK (off:=kv.toNat*P.cellsOf el) (vs:=Z) hb9 (by rw [hZl,hC];omega)
       have hlC:(C.toList.take (m*P.cellsOf el)).length=m*P.cellsOf el:=by rw [List.length_take,hCl];omega
       have hztop:b9∈(c.G b).top:=by rw [ht];simp
       have hZrd:Rd c.w Z (zaQ (List.replicate (m-kv.toNat) (w.den c.ρ))) []:=by rw [←hZ];exact zwq c1 _
       obtain⟨n1,n2,n3,hN,s1,s2⟩:=Rd.setVs (p:=kv.toNat*P.cellsOf el) hrd hZrd (by rw [hlC,hZl];omega)
       have hwl:(w.den c.ρ).cells.length=P.cellsOf el:=by have:=c1.len;rw [←this];simp [hzs,hco]
       have hYl:(zaQ (List.replicate (m-kv.toNat) (w.den c.ρ))).length=Z.length:=by rw [←hZrd.len]
       have hfl:setVs (zaQ xs) (kv.toNat*P.cellsOf el) (zaQ (List.replicate (m-kv.toNat) (w.den c.ρ)))=zaQ (xs.take kv.toNat++List.replicate (m-kv.toNat) (w.den c.ρ)):=by
        have ef:=zqf xs hcl9 0 kv.toNat (Nat.zero_le _) (by omega)
        simp only [Nat.zero_mul,Nat.sub_zero,List.drop_zero]at ef
        unfold setVs
        rw [ef,zj3,hYl,hZl,List.drop_eq_nil_of_le (by rw [ziD _ hcl9,hxl];omega),List.append_nil]
       rw [hfl]at s1
       have hin: ∀q∈n1++ []++n3,q∈N:=fun q hq=>by rw [hN];simp at hq ⊢;rcases hq with hq|hq<;>simp [hq]
       have hkeepw: ∀q,q<c.w.heap.size→c.ok q→(za1 c.w b9 (kv.toNat*P.cellsOf el) Z).heap[q]?=c.w.heap[q]?:=by
        intro q hq hok
        refine m1.block q hq ?_
        simp only [List.mem_singleton]
        rintro rfl
        exact hok.1 ⟨b,hztop⟩
       have hll:(xs.take kv.toNat++List.replicate (m-kv.toNat) (w.den c.ρ)).length=m:=by
        rw [List.length_append,List.length_take,List.length_replicate];omega
       have hfin:=h.rel.writeO (t:=b) (b:=b9) (w':=za1 c.w b9 (kv.toNat*P.cellsOf el) Z) (O:=if d=true then(c.G b).O else []) hres hztop (by split;exact .inr rfl;exact .inl rfl) m1 m3
        (.row el (P.cellsOf el) g (.app (.win c0 (.int .i64 0) l) (.rep (.bin .sub (.len c0) l) w)) d) (by intros;simp) (fun hkp=>by
         refine⟨q1,q2,n1++ []++n3, ?_,fun q hq=>hkp.ok q (hrd.inb q (hin q hq)) (q4 q (hin q hq)),fun hd=> ?_,fun hd=>by simp [Cx.wrO,hd]⟩
         ·show zdF (za1 c.w b9 (kv.toNat*P.cellsOf el) Z) el (P.cellsOf el) (c.H b g) ((E.app (.win c0 (.int .i64 0) l) (.rep (.bin .sub (.len c0) l) w)).den c.ρ) _ _
          rw [hnew,k2,hp9]
          refine⟨_,rfl,fun y hy=> ?_,hsz0, .inr ⟨b9,r,_,by rw [hll],by rw [hll];exact hmr,hmax,m2, ?_,by simpa [Cx.wrO]using ht, ?_, ?_⟩⟩
          ·rcases List.mem_append.1 hy with hy|hy
           ·exact hcl9 y (List.mem_of_mem_take hy)
           ·rw [List.eq_of_mem_replicate hy];exact hwl
          ·rw [List.size_toArray,zix _ _ _ (by rw [hZl,hCl];omega),Array.length_toList];exact hC
          ·simp only [hll,List.toList_toArray]
           rw [zhz _ _ _ _ (by rw [hZl];omega) (by rw [hCl];omega)]
           intro u hu
           unfold setVs at hu
           simp only [List.mem_append]at hu
           rcases hu with(hu|hu)|hu
           ·exact h1 u (List.mem_of_mem_take hu)
           ·exact hZ1 u hu
           ·exact h1 u (List.mem_of_mem_drop hu)
          ·simp only [hll,List.toList_toArray]
           rw [zhz _ _ _ _ (by rw [hZl];omega) (by rw [hCl];omega)]
           exact s1.frame fun q hq=>hkeepw q (hrd.inb q (hin q hq)) (q4 q (hin q hq))
         ·obtain⟨u1,u2⟩:=q5 hd
          have u1:N= []:=u1
          subst u1
          have hN0:n1++ []++n3= []:=List.eq_nil_iff_forall_not_mem.2 fun q hq=>by simpa using hin q hq
          rw [hN0]
          exact⟨rfl,by simp only [Cx.wrO,if_true,hd];exact u2⟩)
       intro next Q hk
       unfold Oper.wp
       rw [hrun,Oper.upon_value]
       exact hk _ (c.wrO _ b _) ⟨rfl,rfl,rfl,rfl,fun t ht=> .inl ht⟩ (hfin.put ((SR.undef .nil).mkGd []) o.dst)
    ·cases he
   ·cases he
  ·cases he
 ·cases he
end
end Go.Proofs.YtecngjbpbnfegaaGreatDoor
end
section
namespace Go.Proofs.YtecngjbpbnfegaaGreatDoor
open Go.RowKit
section
variable {P:Program} {c:Cx} {n nx:Nat} {sl sl0:Nat→SV} {hp hp0:Nat→Option Ent} {a:Act} {o:Oper} {gs:Gd} {e:Eff} {sg:SgT} {nv:Nat}
theorem zup {w:World}: ∀(vs:List Value) {xs:List AV} {f:List Nat} (ts:List TypeId),Rd w vs xs f→ts.length≤vs.length→zhp P w ts [] vs xs f []
 | [],xs,f,ts,h,hl=>by
  have:ts= []:=List.eq_nil_of_length_eq_zero (by simpa using hl)
  subst this
  cases h;exact .nil
 |v::vs, [],f,ts,h,hl=>by have:=h.len;simp at this
 |v::vs,x::xs,f,ts,h,hl=>by
  obtain⟨f1,f2,rfl,h1,h2⟩:=h.uncons
  cases ts with
  |nil=>exact .free h1 (zup vs [] h2 (by simp))
  |cons t ts=>exact zhp.cons (h:= []) ⟨h1,rfl⟩ (zup vs ts h2 (by simpa using hl))
theorem zzm (l:EL):EL.of (zpI.go l)=l:=by
 induction l using EL.rec (motive_1:=fun _=>True)with
 |nil=>rfl
 |cons e es _ ih=>simp [zpI.go,EL.of,ih]
 |_=>trivial
theorem zyw {w:World} {ts:List TypeId} {vs:List Value} {Bs:List AV} {f o:List Nat} (h:zd5 P w ts [] vs Bs f o):Bs= []:=by
 have key: ∀(ts:List TypeId),hasBack ts []=false:=by
  intro ts
  induction ts with
  |nil=>rfl
  |cons t ts ih=>simp only [hasBack,List.headD_nil,Bool.false_or,List.tail_nil];exact ih
 exact(zlF h).2 (key ts)
theorem zv5 (t:TypeId):znu P t []=false:=by simp [znu]
theorem ztq (h:Pre P c n nx sl hp a sl0 hp0 o gs) {cl:Call} {fo:Operand} (ho:o.op= .call cl) (hcl:cl.callee= .value fo) {y:E} (hf:zan sl0 gs fo=some (.e y)) {as:List SV} (has:cl.args.toList.mapM (zan sl0 gs)=some as) {t:TypeId}
  (he:zpI P hp0 gs nv t y as=some e) (hcall: ∀c',e.call=some c'→ ∃r,c.ρ[nv]?=some r∧zii (Rts P sg) c'.fn ((EL.of c'.args).den c.ρ) c.ρ r):zbJ P o c n nx sl hp gs a e:=by
 have hmf:fo∈o.op.operands:=by simp [ho,Op.operands,Call.operands,hcl]
 have hma: ∀x∈cl.args.toList,x∈o.op.operands:=fun x hx=>by
  have:x∈cl.args:=by simpa using hx
  simp [ho,Op.operands,Call.operands,hcl,this]
 have hrf:=h.opd hf hmf
 have hargs:=zth (a:=a) (fun x hx s hs=>h.opd hs (hma x hx)) has
 unfold zpI at he
 split at he
 ·cases he
 split at he
 ·cases he
 rename_i es hes
 simp only [Option.some.injEq]at he;subst he
 obtain⟨r,hr,g,caps,hy,hrt,hsc⟩:=hcall _ rfl
 rw [zzm]at hrt
 obtain⟨f1,p1,p2⟩:=zkA h.eh h.gs zaj hes hargs zaj (Nat.le_refl _)
 generalize hfv:a.eval fo=fv at hrf
 cases hrf with
 |e k1 k2 _=>
 obtain⟨capv,f2,rfl,hcv⟩: ∃capv f2,fv= .func (.func g) #[] capv.toArray∧Rd c.w capv caps f2:=by
  rw [hy]at k1
  cases k1 with
  |fn q1 _=>exact⟨_,_,rfl,q1⟩
 have hret:Ret P {modes:= [],res:= []} g (es.den c.ρ++caps) r:=by
  unfold Rts at hrt
  rw [if_neg (by omega)]at hrt
  simpa using hrt
 obtain⟨fn,hfn,hbody,hname,_,hlen,hcalls⟩:=hret
 have hrd:=p1.app hcv
 have hvl:=hrd.len
 have hcall:=hcalls c.w _ _ [] (zup _ fn.params.toList hrd (by rw [hvl,hlen,Array.length_toList];omega)) (by simp) (by simp)
 have ex:(execOp a.eval o).run P c.w= .ok (.enter g (cl.args.map a.eval++capv.toArray)) c.w:=by
  have hb:fn.body.isNone=false:=by simpa using hbody
  simp only [execOp,ho,resolve,hcl,hfv,Deferred.ofValue,Sem.run_bind,Sem.run_pure,Result.andThen_ok,invoke,callFunc,run_program,hfn]
  simp [hname,hb]
 intro next Q hk
 unfold Oper.wp
 rw [ex,Oper.upon_enter]
 have harr:cl.args.map a.eval++capv.toArray=((cl.args.toList.map a.eval)++capv).toArray:=by
  apply Array.ext';simp
 rw [harr]
 refine hcall.mono ?_
 rintro e' w' ⟨v,rfl,⟨R,Bs,f1',o1,f2',o2,hrR,hres,hback,hnod,ho12,hf12⟩,hmod⟩
 show next (a.put o.dst v) w'
 have hBs:=zyw hback
 subst hBs
 simp only at hrR
 subst hrR
 have hv:Rd w' [v] [r] []:=by
  unfold zxL at hres
  split at hres
  ·rename_i t' ht
   unfold ztM at hres
   rw [if_neg (by rw [zv5];simp)]at hres
   have:=zmu hres.1 hsc
   subst this;exact hres.1
  ·obtain⟨vs,ys,_,rfl,_⟩:=hres
   have:=hsc (.tup ys) (by simp [AV.cells])
   simp [AV.scalar]at this
 obtain⟨hrel2,_⟩:=h.rel.changes (w':=w') (recs:= []) (hs:= []) (gs:=gs) h.gs hmod (by simp) (by simp) (by simp) (by simp) (by simp) (by simp) (by simp)
 refine hk _ (c.chg w' []) ⟨rfl,rfl,rfl,rfl,fun t ht=> ?_⟩ (hrel2.put (SR.mkGd (.e (f:= []) ?_ (by simp) .nil) gs h.gs) o.dst)
 ·rcases ht with ht|⟨r,hr,_⟩
  ·exact .inl ht
  ·simp at hr
 ·show Rd w' [v] [(E.var nv).den c.ρ] []
  simp only [E.den,hr,Option.getD_some];exact hv
theorem zw5 (hsg: ∀f s,sg f=some s→f<1000000) (h:Pre P c n nx sl hp a sl0 hp0 o gs) (he:zb2 P sg sl0 hp0 nv nx gs o=some e)
  (hc: ∀q∈e.chk,q.den c.ρ) (hcall: ∀cl,e.call=some cl→ ∃r,c.ρ[nv]?=some r∧zii (Rts P sg) cl.fn ((EL.of cl.args).den c.ρ) c.ρ r) (hnq: ∀x,e.nilq=some x→c.ρ[nv]?=some (.bool (zln a o))):zbJ P o c n nx sl hp gs a e:=by
 have he0:=he
 cases hop:o.op with
 |move x=>simp only [zb2,hop,Option.map_eq_some_iff]at he;obtain⟨s,hs,rfl⟩:=he;exact ztd h (.inl hop) hs
 |assign x=>simp only [zb2,hop,Option.map_eq_some_iff]at he;obtain⟨s,hs,rfl⟩:=he;exact ztd h (.inr hop) hs
 |pick x y z=>exact zw1 h hop he hc
 |alloc t=>exact zvX h hop he hc
 |box t x=>exact zx6 h hop he hc
 |build t parts=>exact zvP h hop he hc
 |buildSlice t m parts=>
  simp only [zb2,hop,Option.bind_eq_some_iff]at he
  obtain⟨ps,hps,he⟩:=he
  split at he
  ·exact zq5 h hop hps he hc
  ·exact zol h hop hps he hc
 |load t x=>exact zxm h hop he hc
 |nilCheck x=>exact zsD h hop he hc
 |makeSlice t l m=>
  simp only [zb2,hop,Option.bind_eq_some_iff]at he
  obtain⟨s1,hs1,s2,hs2,he⟩:=he
  split at he
  ·exact zsB h hop hs1 hs2 he hc
  ·exact zvE h hop hs1 hs2 he hc
 |slice t x lo hi mx=>
  simp only [zb2,hop,Option.bind_eq_some_iff]at he
  obtain⟨s,hs,l',hl',h',hh',m',hm',he⟩:=he
  split at he
  ·exact zsO h hop hs hl' hh' hm' he hc
  ·exact zuc h hop hs hl' hh' hm' he hc
 |fieldAddr t x f=>exact zq0 h hop he hc
 |field t x f=>exact zvG h hop he hc
 |extract x i=>exact ztu h hop he hc
 |store t x y=>
  simp only [zb2,hop,Option.bind_eq_some_iff]at he
  obtain⟨p,hp',v,hv,he⟩:=he
  cases p with
  |bptr b k=>exact zrZ h hop hp' hv he hc
  |rptr b g i sz k=>
   by_cases hrow: ∃e z g c d,zlm hp0 gs b=some (.row e z g c d)
   ·exact zsJ h hop hrow hp' hv he hc
   ·exact zqA h hop hrow hp' hv he hc
  |_=>simp [zhU]at he
 |binOp op t x y ty=>
  cases hu:P.underlying t with
  |none=>simp only [zb2,hop,Option.bind_eq_some_iff]at he;obtain⟨_,_,_,_,he⟩:=he;simp [zrt,hu]at he
  |some d=>
   by_cases hstr: ∃fs,d= .struct fs
   ·obtain⟨fs,rfl⟩:=hstr
    exact zx0 h hop hu he hc
   ·have hns: ∀fs,P.underlying t≠some (.struct fs):=fun fs hh=>hstr ⟨fs,by rw [hu]at hh;cases hh;rfl⟩
    cases hq:e.nilq with
    |none=>exact zyE h hop hns he hq hc
    |some x'=>
     have hnv:=hnq x' hq
     simp only [zb2,hop,Option.bind_eq_some_iff]at he
     obtain⟨s1,hs1,s2,hs2,he⟩:=he
     have r1:=h.opd hs1 (by simp [hop,Op.operands])
     have r2:=h.opd hs2 (by simp [hop,Op.operands])
     unfold zrt at he
     split at he
     ·rename_i el hu'
      have hsl: ∀xq,zfb hp0 gs zaj s1=some xq→Cn.den c.ρ (.dfd (.len xq))→ ∃p q r,a.eval x= .slice p q r:=by
       intro xq hxq hd
       obtain⟨f,q1,_⟩:=h.toE hs1 (by simp [hop,Op.operands]) hxq
       have hd:(xq.den c.ρ).len≠ .undef:=hd
       cases hy':xq.den c.ρ<;>simp only [hy',AV.len,ne_eq,not_true_eq_false]at hd
       rename_i xs
       have hl:(xq.den c.ρ).len= .int .i64 (xs.length:Int):=by rw [hy'];rfl
       rcases zkx q1 hl with⟨p,q,hv,hm0⟩|⟨b,o',k,q,hv,hm0⟩
       ·exact⟨_,_,_,hv⟩
       ·exact⟨_,_,_,hv⟩
      split at he
      ·simp at he;subst he;cases hq
      ·simp at he;subst he;cases hq
      ·obtain⟨xq,hxq,rfl⟩:=Option.map_eq_some_iff.1 he
       obtain⟨p,q,r,hv⟩:=hsl xq hxq (hc _ (by simp))
       exact ztL h hop hu' hv r2 (.inl rfl) hnv _
      ·obtain⟨xq,hxq,rfl⟩:=Option.map_eq_some_iff.1 he
       obtain⟨p,q,r,hv⟩:=hsl xq hxq (hc _ (by simp))
       exact ztL h hop hu' hv r2 (.inr rfl) hnv _
      ·cases he
     ·split at he
      ·simp at he;subst he;cases hq
      ·cases he
     ·split at he
      ·simp at he;subst he;cases hq
      ·cases he
     ·split at he
      ·simp at he;subst he;cases hq
      ·cases he
     ·rename_i fs hu';exact absurd hu' (hns fs)
     ·cases he
 |unOp u t x=>
  cases u with
  |not=>exact zyN h hop he hc
  |neg=>exact zyI h hop he hc
  |_=>simp [zb2,hop]at he
 |convert src dst x=>
  have he1:=he
  simp only [zb2,hop,Option.bind_eq_some_iff]at he1
  obtain⟨s,_,he1⟩:=he1
  unfold zpq at he1
  split at he1
  ·rename_i k0 k h1 h2;exact ztC h hop h1 h2 he hc
  ·rename_i h1 h2;exact ztv h hop h1 h2 he hc
  ·rename_i el h1 h2;exact zsu h hop h1 h2 he hc
  ·cases he1
 |makeFunc fr fst caps=>
  cases fr with
  |func f=>exact zrW h hop he
  |_=>simp [zb2,hop]at he
 |indexAddr t x i=>
  refine zqt h hop (fun hu=> ?_) he hc
  simp only [zb2,hop,Option.bind_eq_some_iff]at he
  obtain⟨_,_,_,_,he⟩:=he
  simp [zA9,hu]at he
 |index t x i=>
  refine ztc h hop ?_ he hc
  simp only [zb2,hop,Option.bind_eq_some_iff]at he
  obtain⟨_,_,_,_,he⟩:=he
  split at he
  ·rename_i hst
   unfold zA9 at hst
   split at hst
   ·assumption
   ·cases hst
  ·cases he
 |call cl=>
  simp only [zb2,hop]at he
  cases hcl:cl.callee with
  |invoke r m=>rw [hcl]at he;simp at he
  |value f=>
   rw [hcl]at he
   simp only [Option.bind_eq_some_iff]at he
   obtain⟨s,hs,as,has,he⟩:=he
   cases s with
   |fn g caps=>
    have he:zpx P sg hp0 gs nv nx g (as++caps.toList)=some e:=he
    refine zxv h hop hcl hs has ?_ he hcall
    unfold zpx at he
    split at he
    ·rename_i fn sg' hfn hh;exact hsg g sg' hh
    ·cases he
   |e y=>exact ztq h hop hcl hs has he hcall
   |_=>simp at he
  |builtin b=>
   rw [hcl]at he
   cases b with
   |len=>
    simp only at he
    split at he
    ·rename_i x tx ha1 ha2;exact zxW h hop hcl ha1 ha2 he0 hc
    ·cases he
   |append=>
    simp only at he
    split at he
    ·rename_i x y tx ty ha1 ha2
     simp only [Option.bind_eq_some_iff]at he
     obtain⟨s1,hs1,s2,hs2,he⟩:=he
     split at he
     ·exact zpE h hop hcl ha1 ha2 hs1 hs2 he hc
     ·exact zts h hop hcl ha1 ha2 hs1 hs2 he hc
    ·cases he
   |clear=>
    simp only at he
    split at he
    ·rename_i x tx ha1 ha2
     simp only [Option.bind_eq_some_iff]at he
     obtain⟨s,hs,he⟩:=he
     exact zvC h hop hcl ha1 ha2 hs he hc
    ·cases he
   |max=>
    simp only at he
    split at he
    ·rename_i x y ha1
     simp only [Option.bind_eq_some_iff]at he
     obtain⟨s1,hs1,s2,hs2,he⟩:=he
     exact zpv h hop (.inl ⟨rfl,hcl⟩) ha1 hs1 hs2 he hc
    ·cases he
   |min=>
    simp only at he
    split at he
    ·rename_i x y ha1
     simp only [Option.bind_eq_some_iff]at he
     obtain⟨s1,hs1,s2,hs2,he⟩:=he
     exact zpv h hop (.inr ⟨rfl,hcl⟩) ha1 hs1 hs2 he hc
    ·cases he
   |_=>simp at he
 |_=>simp [zb2,hop]at he
end
end Go.Proofs.YtecngjbpbnfegaaGreatDoor
end
section
namespace Go.Proofs.YtecngjbpbnfegaaGreatDoor
open Go.RowKit
section
variable {P:Program} {c:Cx} {n nx:Nat} {sl sl0:Nat→SV} {hp hp0:Nat→Option Ent} {a:Act} {o:Oper} {gs:Gd} {e:Eff} {sg:SgT} {nv:Nat}
theorem Rel.reslot (h:Rel c n sl hp a) {sl':Nat→SV} (hs: ∀i,sl' i=sl i∨SR c [sl' i] [a.tmps.getD i undef]):Rel c n sl' hp a:=
 ⟨h.defers,h.size,h.base,fun i=>by
  rcases hs i with hh|hh
  ·rw [hh];exact h.slots i
  ·exact hh,h.ents,h.off,h.gw,h.usedK,h.usedH⟩
theorem zg7 {u:Nat}: ∀{l:List Operand} {t T v m:Nat} {p:E × Nat × Nat} {s:SV},ziR sl0 u l=some (t,T,v,m,p,s)→Operand.tmp t∈l∧((∃y,sl0 t= .via T v m (some p) y∧s= .own u 0)∨ ∃y k z q,sl0 t= .vptr T v m (some p) y k z q∧s= .rptr u 0 k z q)
 | [],_,_,_,_,_,_,h=>by simp [ziR]at h
 |x::l,t,T,v,m,p,s,h=>by
  cases x with
  |tmp i=>
   simp only [ziR]at h
   split at h
   ·rename_i hs
    simp only [Option.some.injEq,Prod.mk.injEq]at h
    obtain⟨rfl,rfl,rfl,rfl,rfl,rfl⟩:=h
    exact⟨by simp, .inl ⟨_,hs,rfl⟩⟩
   ·rename_i hs
    simp only [Option.some.injEq,Prod.mk.injEq]at h
    obtain⟨rfl,rfl,rfl,rfl,rfl,rfl⟩:=h
    exact⟨by simp, .inr ⟨_,_,_,_,hs,rfl⟩⟩
   ·obtain⟨h1,h2⟩:=zg7 h
    exact⟨by simp [h1],h2⟩
  |const v9=>simp only [ziR]at h;obtain⟨h1,h2⟩:=zg7 h;exact⟨by simp [h1],h2⟩
  |func f=>simp only [ziR]at h;obtain⟨h1,h2⟩:=zg7 h;exact⟨by simp [h1],h2⟩
  |global g=>simp only [ziR]at h;obtain⟨h1,h2⟩:=zg7 h;exact⟨by simp [h1],h2⟩
theorem Rel.split (h:Rel c n sl hp a) {T v m u:Nat} {p:E × Nat × Nat} {hl inn:Ent} (hs:zph hp0 T v m u p=some (hl,inn)) (hsub: ∀t e,hp0 t=some e→hp t=some e) (hu: ¬c.U u) {vv:Value} (hpath:c.E T=m→znf c T v (some p) vv):
  ∃recs c1,c1=c.chg c.w recs∧Rel c1 n sl (zeH hp [(T,hl),(u,inn)]) a∧zm4 c c1∧c1.K u 0∧c1.H u 0=vv∧(∃q n r,vv= .slice q n r∧(q=none∨n=0∨ ∃g,q=some ⟨g,0,none⟩))∧(∀t,c1.U t→c.U t∨t=u)∧c.K T v∧c.E T=m∧c1.E T=m+1∧T≠u:=by
 have eh:EH c hp0:=fun t e hr=>h.ents t e (zjV hsub hr)
 obtain⟨pi,z,po⟩:=p
 unfold zph at hs
 split at hs
 ·rename_i e z0 l g ep c0 hlk
  split at hs
  ·rename_i hcond
   obtain⟨rfl,rfl,hpz⟩:=hcond
   simp only at hpz
   subst hpz
   split at hs
   ·rename_i e2 z2 l2 hlo
    simp only [Option.some.injEq,Prod.mk.injEq]at hs
    obtain⟨rfl,rfl⟩:=hs
    simp only at hlo
    obtain⟨q1,q2,q3,q4,q5⟩:=eh T _ (zaV hlk (zcQ _))
    obtain⟨b,n9,cap,C,ty,fz,kk,k,p1,p2,p3,p4,p5,p6,p7⟩:=hpath q3
    obtain⟨d1,d2,⟨a9,d3,_⟩|⟨g9,cap9,C9,ys,N,d3,d4,d5,d6,d7,d8,d9,d10,d11,d12⟩⟩:=q4.inv
    ·rw [p1]at d3;cases d3;omega
    ·rw [p1]at d3;cases d3
     rw [d6]at p3;cases p3
     rw [DTL.toList_of]at d2 d12
     have hoz:po<z:=by
      rcases Nat.lt_or_ge po l.length with hh|hh
      ·omega
      ·rw [List.getElem?_eq_none hh]at hlo;cases hlo
     have hkl:k.toNat<ys.length:=by omega
     have hmul:(k.toNat+1)*z≤ys.length*z:=Nat.mul_le_mul_right _ (by omega)
     have hmul2:ys.length*z≤cap*z:=Nat.mul_le_mul_right _ d7
     rw [Nat.add_mul]at hmul
     have hCl:C.toList.length=cap*z:=by simpa using d9
     have hlt:k.toNat*z+po<C.size:=by omega
     obtain⟨N1,N2,N3,rfl,s1,s2,s3⟩:=d12.split (k.toNat*z+po) 1
     have hcell:((C.toList.take (ys.length*z)).drop (k.toNat*z+po)).take 1= [vv]:=by
      have hv:C[k.toNat*z+po]?=some vv:=p7
      rw [List.drop_take,List.take_take,Nat.min_eq_left (by omega),List.drop_eq_getElem_cons (by simpa using hlt),List.take_succ_cons,List.take_zero]
      rw [Array.getElem?_eq_getElem hlt]at hv
      simpa using hv
     have hyk:=znW hkl
     generalize hykd:(AV.sl ys).nth k.toNat=yk at hyk
     have hykl:=d10 yk (List.mem_of_getElem? hyk)
     have hfl:((zaQ ys).drop (k.toNat*z+po)).take 1= [(E.fld (.idx c0 pi) po 1 false).den c.ρ]:=by
      rw [zjH ys d10 _ _ hyk po 1 (by omega),List.drop_eq_getElem_cons (by omega),List.take_succ_cons,List.take_zero]
      simp only [E.den,d4,p4,AV.idx,hykd,AV.fld]
      simp [show po<yk.cells.length by omega]
     have hty:((zjt ys.length l).drop (k.toNat*z+po)).take 1= [.row e2 z2 l2]:=by
      rw [←d2,zip l _ _ _ _ hkl (by omega)]
      have hlt2:po<l.length:=by omega
      rw [List.drop_eq_getElem_cons hlt2,List.take_succ_cons,List.take_zero]
      rw [List.getElem?_eq_getElem hlt2]at hlo
      simpa using hlo
     rw [hcell,hfl,hty]at s2
     have hTU:=h.usedK _ _ q1
     have hTu:T≠u:=fun hh=>hu (hh▸hTU)
     have hnd:=h.gw.nodup T
     simp only [GI.own,q5,List.append_nil,d5]at hnd
     have hres: ∀r∈([⟨T,none,b::(N1++N3), .hol e z l g (ep+1) c0 pi po u⟩,⟨u,some vv,N2,if l2.toList.all DT.isFlat then .row e2 z2 0 (.fld (.idx c0 pi) po 1 false) true else .deep e2 z2 l2.toList 0 0 (.fld (.idx c0 pi) po 1 false)⟩]:List Chg),r.new.isSome=true→ ¬c.U r.tag:=fun r hr hs=>by
      simp only [List.mem_cons,List.not_mem_nil,or_false]at hr
      rcases hr with rfl|rfl
      ·cases hs
      ·exact hu
     refine⟨[⟨T,none,b::(N1++N3), .hol e z l g (ep+1) c0 pi po u⟩,⟨u,some vv,N2,if l2.toList.all DT.isFlat then .row e2 z2 0 (.fld (.idx c0 pi) po 1 false) true else .deep e2 z2 l2.toList 0 0 (.fld (.idx c0 pi) po 1 false)⟩],_,rfl, ?_⟩
     generalize hrecs:([⟨T,none,b::(N1++N3), .hol e z l g (ep+1) c0 pi po u⟩,⟨u,some vv,N2,if l2.toList.all DT.isFlat then .row e2 z2 0 (.fld (.idx c0 pi) po 1 false) true else .deep e2 z2 l2.toList 0 0 (.fld (.idx c0 pi) po 1 false)⟩]:List Chg)=recs at hres
     have hn:(recs.map Chg.tag).Nodup:=by rw [←hrecs];simp [hTu]
     have aft:=Cx.chg_aft (w':=c.w) h.usedK hn hres
     have hm1:(⟨T,none,b::(N1++N3), .hol e z l g (ep+1) c0 pi po u⟩:Chg)∈recs:=by rw [←hrecs];simp
     have hm2:(⟨u,some vv,N2,if l2.toList.all DT.isFlat then .row e2 z2 0 (.fld (.idx c0 pi) po 1 false) true else .deep e2 z2 l2.toList 0 0 (.fld (.idx c0 pi) po 1 false)⟩:Chg)∈recs:=by rw [←hrecs];simp
     obtain⟨k1,k2,k3⟩:=aft.new _ hm2 vv rfl
     have kgT:=aft.G _ hm1
     have keT:=aft.oldE _ hm1 rfl
     have kgu:=aft.G _ hm2
     have keu:=aft.newE _ hm2 rfl
     obtain⟨kT1,kT2⟩:=aft.K T g q1
     simp only at k1 k2 k3 kgT keT kgu keu
     have hperm: ∀q,q∈b::(N1++N3)∨q∈N2→q∈(c.G T).top:=fun q hq=>by
      rw [d5]
      simp only [List.mem_cons,List.mem_append]at hq ⊢
      rcases hq with(hq|hq|hq)|hq<;>simp [hq]
     obtain⟨hrel,hkeep⟩:=h.changes (recs:=recs) (gs:= []) (hs:=(c.G T).top) (zcQ _) (Mod.refl _ c.w) hn hres (fun q hq=>⟨_,hm1,hq⟩) (by
       rw [←hrecs]
       simp only [List.flatMap_cons,List.flatMap_nil,List.append_nil]
       rw [List.nodup_cons]at hnd
       obtain⟨n1,n2⟩:=hnd
       rw [List.append_assoc,List.nodup_append,List.nodup_append]at n2
       obtain⟨a1,⟨a2,a3,a4⟩,a5⟩:=n2
       rw [List.cons_append,List.nodup_cons,List.nodup_append,List.nodup_append]
       refine⟨fun hh=>n1 ?_,⟨a1,a3,fun x hx y hy=>a5 x hx y (List.mem_append.2 (.inr hy))⟩,a2,fun x hx y hy hxy=> ?_⟩
       ·simp only [List.mem_append]at hh ⊢
        rcases hh with(hh|hh)|hh<;>simp [hh]
       ·rcases List.mem_append.1 hx with hx|hx
        ·exact a5 x hx y (List.mem_append.2 (.inl hy)) hxy
        ·exact a4 y hy x hx hxy.symm)
      (fun r hr q hq=>by
       have:q∈(c.G T).top:=by
        rw [←hrecs]at hr
        simp only [List.mem_cons,List.not_mem_nil,or_false]at hr
        rcases hr with rfl|rfl
        ·exact hperm q (.inl hq)
        ·exact hperm q (.inr hq)
       exact⟨.inl this,h.gw.inb T q (by simp [GI.own,this])⟩)
      (fun r hr=>by
       rw [←hrecs]at hr
       simp only [List.mem_cons,List.not_mem_nil,or_false]at hr
       rcases hr with rfl|rfl
       ·intros;simp
       ·intros;simp only;split<;>simp)
      (fun hk r hr=>by
       rw [←hrecs]at hr
       simp only [List.mem_cons,List.not_mem_nil,or_false]at hr
       rcases hr with rfl|rfl
       ·refine⟨kT1,fun g' hg'=>q2 g' (aft.old T hTU g' hg'),by rw [keT,q3], ?_,by rw [kgT]⟩
        rw [kT2,p1,kgT]
        exact⟨b,cap,C,ys,kk,k,N1,N3,rfl,d4,p4,p5,p6,hoz,d1,d2,d6,d7,d8,d9,d10,d11,rfl,k1,by rw [k3];exact p7,s1,s3⟩
       ·simp only
        split
        ·rename_i hf
         have hown:=s2.toOwn hf
         refine⟨k1,k2, [], ?_,by simp,fun _=>⟨rfl,by rw [kgu]⟩,fun _=>by rw [kgu]⟩
         rw [k3,kgu];exact hown
        ·refine⟨k1,k2,keu, ?_,by rw [kgu]⟩
         rw [k3,kgu,DTL.of_toList];exact s2)
     refine⟨?_,hkeep,k1,k3, ?_,fun t ht=> ?_,q1,q3,by rw [keT,q3],hTu⟩
     ·have:(recs.map fun r=>(r.tag,zeG [] r.ent))= [(T, .hol e z l g (ep+1) c0 pi po u),(u,if l2.toList.all DT.isFlat then .row e2 z2 0 (.fld (.idx c0 pi) po 1 false) true else .deep e2 z2 l2.toList 0 0 (.fld (.idx c0 pi) po 1 false))]:=by
       rw [←hrecs];simp [zeG]
      rw [this]at hrel;exact hrel
     ·obtain⟨_,_,⟨a9,h1,_⟩|⟨g9,cap9,C9,ys9,N9,h1,_⟩⟩:=s2.inv
      ·exact⟨a9,0,0,h1, .inr (.inl rfl)⟩
      ·exact⟨_,_,_,h1, .inr (.inr ⟨g9,rfl⟩)⟩
     ·rcases ht with ht|⟨r,hr,rfl⟩
      ·exact .inl ht
      ·rw [←hrecs]at hr
       simp only [List.mem_cons,List.not_mem_nil,or_false]at hr
       rcases hr with rfl|rfl
       ·exact .inl hTU
       ·exact .inr rfl
   ·cases hs
  ·cases hs
 ·cases hs
theorem Rel.close (h:Rel c n sl hp a) {T u:Nat} {hl r d:Ent} (hT:hp T=some hl) (hu:hp u=some r) (hr:zpg P hl r=some d) (huu: ∃q1 q2 q3 q4 q5 q6 q7 q8,hl= .hol q1 q2 q3 q4 q5 q6 q7 q8 u) (hTu:T≠u):
  ∃recs c1,c1=c.chg c.w recs∧Rel c1 n sl (zeH hp [(T,d),(u, .dead)]) a∧(∀t,c1.U t→c.U t)∧c.E T<c1.E T:=by
 obtain⟨e,z,l,g,ep,c0,i,o',rfl⟩:=huu
 have key: ∀(e2 z2:Nat) (l2:DTL) (x:E),l[o']?=some (.row e2 z2 l2)→DC c.w [.row e2 z2 l2] [c.H u 0] [x.den c.ρ] (c.G u).top→c.U u→d= .deep e z l g (ep+1) (.set c0 i (.put (.idx c0 i) o' x (zaY P e)))→(zaY P e=false→z=1)→
   ∃recs c1,c1=c.chg c.w recs∧Rel c1 n sl (zeH hp [(T,d),(u, .dead)]) a∧(∀t,c1.U t→c.U t)∧c.E T<c1.E T:=by
  rintro e2 z2 l2 x hlo hdc hUu rfl hagg
  obtain⟨q1,q2,q3,⟨b,cap,C,ys,kk,k,N1,N2,p1,p2,p3,p4,p5,p6,p7,p7',p8,p9,p10,p11,p12,p13,p14,p15,p16,p17,p18⟩,q5⟩:=h.ents T _ (by rw [hT];rfl)
  have hTU:=h.usedK _ _ q1
  have hkl:k.toNat<ys.length:=by omega
  have hmul:(k.toNat+1)*z≤ys.length*z:=Nat.mul_le_mul_right _ (by omega)
  have hmul2:ys.length*z≤cap*z:=Nat.mul_le_mul_right _ p9
  rw [Nat.add_mul]at hmul
  have hCl:C.toList.length=cap*z:=by simpa using p11
  have hlt:k.toNat*z+o'<C.size:=by omega
  have hyk:=znW hkl
  generalize hykd:(AV.sl ys).nth k.toNat=yk at hyk
  have hykl:=p12 yk (List.mem_of_getElem? hyk)
  obtain⟨zs,hzs⟩: ∃zs,x.den c.ρ= .sl zs:=by
   obtain⟨_,_,⟨_,_,hx,_⟩|⟨_,_,_,_,_,_,hx,_⟩⟩:=hdc.inv
   ·exact⟨_,hx⟩
   ·exact⟨_,hx⟩
  have hxc:(x.den c.ρ).cells= [x.den c.ρ]:=by rw [hzs];rfl
  have hz:(yk.putF o' (x.den c.ρ) (zaY P e)).cells=setVs yk.cells o' (x.den c.ρ).cells:=by
   refine znd ?_ (fun hg=> ?_)
   ·cases hg:zaY P e with
    |true=>exact .inr rfl
    |false=>left;rw [hzs];intro cs hh;cases hh
   ·have:=hagg hg
    exact⟨by omega,by omega,hxc⟩
  have hflatC:zaQ (ys.set k.toNat (yk.putF o' (x.den c.ρ) (zaY P e)))=setVs (zaQ ys) (k.toNat*z+o') (x.den c.ρ).cells:=
   zmX ys _ _ yk o' _ p12 hyk (by rw [hxc];simp;omega) hz
  have hds:((zjt ys.length l).drop (k.toNat*z+o')).take 1= [.row e2 z2 l2]:=by
   rw [←p7',zip l _ _ _ _ hkl (by omega)]
   have hlt2:o'<l.length:=by omega
   rw [List.drop_eq_getElem_cons hlt2,List.take_succ_cons,List.take_zero]
   rw [List.getElem?_eq_getElem hlt2]at hlo
   simpa using hlo
  have hsetC:setVs (C.toList.take (ys.length*z)) (k.toNat*z+o') [c.H u 0]=C.toList.take (ys.length*z):=by
   apply List.ext_getElem?
   intro j
   have hl3:(C.toList.take (ys.length*z)).length=ys.length*z:=by rw [List.length_take,hCl];exact Nat.min_eq_left hmul2
   rw [zih _ _ _ (by rw [hl3];show k.toNat*z+o'+1≤_;omega)]
   split
   ·rename_i hj
    simp only [List.length_cons,List.length_nil]at hj
    have:j=k.toNat*z+o':=by omega
    subst this
    rw [Nat.sub_self,List.getElem?_take,if_pos (by omega)]
    have:=p16
    simpa using this.symm
   ·rfl
  have hnew:DC c.w [.row e z (DTL.of l)] [c.H T g] [(E.set c0 i (.put (.idx c0 i) o' x (zaY P e))).den c.ρ] (b::(N1++((c.G u).top++N2))):=by
   have hden:(E.set c0 i (.put (.idx c0 i) o' x (zaY P e))).den c.ρ= .sl (ys.set k.toNat (yk.putF o' (x.den c.ρ) (zaY P e))):=by
    simp only [E.den,p2,p3,AV.idx,hykd,AV.setNth]
   rw [hden,p1]
   have hll:(ys.set k.toNat (yk.putF o' (x.den c.ρ) (zaY P e))).length=ys.length:=List.length_set
   have:=DC.row (w:=c.w) (e:=e) (z:=z) (l:=DTL.of l) (g:=b) (cap:=cap) (C:=C) (ys:=ys.set k.toNat (yk.putF o' (x.den c.ρ) (zaY P e))) (N1:=N1++((c.G u).top++N2)) (ts:= []) (vs:= []) (xs:= []) (N:= []) p7 (by rw [DTL.toList_of];exact p7') p8 (by rw [hll];exact p9) p10 p11 (fun w hw=>by
     rcases List.mem_or_eq_of_mem_set hw with hw|rfl
     ·exact p12 w hw
     ·rw [hz,zix _ _ _ (by rw [hxc,hykl];simp;omega)];exact hykl) (by rw [hll];exact p13) (by
     rw [hll,DTL.toList_of,hflatC,←hsetC]
     refine DC.setVs p17 ?_ ?_
     ·exact p18
     ·rw [List.length_singleton,hds,hxc];exact hdc) .nil
   rw [hll]at this
   simpa using this
  have hTK:=q1
  have hres: ∀r∈([⟨T,none,b::(N1++((c.G u).top++N2)), .deep e z l g (ep+1) (.set c0 i (.put (.idx c0 i) o' x (zaY P e)))⟩,⟨u,none, [], .dead⟩]:List Chg),r.new.isSome=true→ ¬c.U r.tag:=fun r hr hs=>by
   simp only [List.mem_cons,List.not_mem_nil,or_false]at hr
   rcases hr with rfl|rfl<;>cases hs
  refine⟨[⟨T,none,b::(N1++((c.G u).top++N2)), .deep e z l g (ep+1) (.set c0 i (.put (.idx c0 i) o' x (zaY P e)))⟩,⟨u,none, [], .dead⟩],_,rfl, ?_⟩
  generalize hrecs:([⟨T,none,b::(N1++((c.G u).top++N2)), .deep e z l g (ep+1) (.set c0 i (.put (.idx c0 i) o' x (zaY P e)))⟩,⟨u,none, [], .dead⟩]:List Chg)=recs at hres
  have hn:(recs.map Chg.tag).Nodup:=by rw [←hrecs];simp [hTu]
  have aft:=Cx.chg_aft (w':=c.w) h.usedK hn hres
  have hm1:(⟨T,none,b::(N1++((c.G u).top++N2)), .deep e z l g (ep+1) (.set c0 i (.put (.idx c0 i) o' x (zaY P e)))⟩:Chg)∈recs:=by rw [←hrecs];simp
  have hm2:(⟨u,none, [], .dead⟩:Chg)∈recs:=by rw [←hrecs];simp
  have kgT:=aft.G _ hm1
  have keT:=aft.oldE _ hm1 rfl
  have kgu:=aft.G _ hm2
  obtain⟨kT1,kT2⟩:=aft.K T g q1
  simp only at kgT keT kgu
  have hin: ∀q,q∈b::(N1++((c.G u).top++N2))→q∈(c.G T).top∨q∈(c.G u).top:=fun q hq=>by
   rw [p14]
   simp only [List.mem_cons,List.mem_append]at hq ⊢
   rcases hq with hq|hq|hq|hq<;>simp [hq]
  have hndT:=h.gw.nodup T
  simp only [GI.own,q5,List.append_nil,p14]at hndT
  have hndu:(c.G u).top.Nodup:=by have:=h.gw.nodup u;simp only [GI.own]at this;exact(List.nodup_append.1 this).1
  have hdis: ∀q∈(c.G u).top,q∉b::(N1++N2):=fun q hq hh=>h.gw.disj u T (Ne.symm hTu) q (by simp [GI.own,hq]) (by rw [←p14]at hh;simp [GI.own,hh])
  obtain⟨hrel,hkeep⟩:=h.changes (recs:=recs) (gs:= []) (hs:=(c.G T).top++(c.G u).top) (zcQ _) (Mod.refl _ c.w) hn hres (fun q hq=>by
    rcases List.mem_append.1 hq with hq|hq
    ·exact⟨_,hm1,hq⟩
    ·exact⟨_,hm2,hq⟩) (by
    rw [←hrecs]
    simp only [List.flatMap_cons,List.flatMap_nil,List.append_nil]
    rw [List.nodup_cons,List.nodup_append]at hndT
    obtain⟨n1,a1,a2,a3⟩:=hndT
    rw [List.nodup_cons,List.nodup_append,List.nodup_append]
    refine⟨fun hh=> ?_,a1,⟨hndu,a2,fun x hx y hy hxy=>hdis x hx (by rw [hxy];simp [hy])⟩,fun x hx y hy hxy=> ?_⟩
    ·simp only [List.mem_append]at hh n1
     rcases hh with hh|hh|hh
     ·exact n1 (.inl hh)
     ·exact hdis b hh (by simp)
     ·exact n1 (.inr hh)
    ·rcases List.mem_append.1 hy with hy|hy
     ·exact hdis y hy (by rw [←hxy];simp [hx])
     ·exact a3 x hx y hy hxy)
   (fun r hr q hq=>by
    have:q∈(c.G T).top∨q∈(c.G u).top:=by
     rw [←hrecs]at hr
     simp only [List.mem_cons,List.not_mem_nil,or_false]at hr
     rcases hr with rfl|rfl
     ·exact hin q hq
     ·simp at hq
    refine⟨.inl (List.mem_append.2 this), ?_⟩
    rcases this with hh|hh
    ·exact h.gw.inb T q (by simp [GI.own,hh])
    ·exact h.gw.inb u q (by simp [GI.own,hh]))
   (fun r hr=>by
    rw [←hrecs]at hr
    simp only [List.mem_cons,List.not_mem_nil,or_false]at hr
    rcases hr with rfl|rfl<;>(intros;simp))
   (fun hk r hr=>by
    rw [←hrecs]at hr
    simp only [List.mem_cons,List.not_mem_nil,or_false]at hr
    rcases hr with rfl|rfl
    ·exact⟨kT1,fun g' hg'=>q2 g' (aft.old T hTU g' hg'),by rw [keT,q3],by rw [kT2,kgT];exact hnew,by rw [kgT]⟩
    ·exact⟨by rw [kgu],by rw [kgu]⟩)
  refine⟨?_,fun t ht=> ?_,by rw [keT];omega⟩
  ·have:(recs.map fun r=>(r.tag,zeG [] r.ent))= [(T, .deep e z l g (ep+1) (.set c0 i (.put (.idx c0 i) o' x (zaY P e)))),(u, .dead)]:=by
    rw [←hrecs];simp [zeG]
   rw [this]at hrel;exact hrel
  ·rcases ht with ht|⟨r,hr,rfl⟩
   ·exact ht
   ·rw [←hrecs]at hr
    simp only [List.mem_cons,List.not_mem_nil,or_false]at hr
    rcases hr with rfl|rfl
    ·exact hTU
    ·exact hUu
 have hUu:c.U u:=h.usedH u r hu
 unfold zpg at hr
 simp only at hr
 split at hr
 ·rename_i e2 z2 l2 e3 z3 x hlo
  split at hr
  ·rename_i hh
   obtain⟨hf,rfl,rfl,hlen,hag⟩:=hh
   simp only [Option.some.injEq]at hr
   obtain⟨q1,q2,N,q4,q5,q6,q7⟩:=h.ents u _ (by rw [hu];rfl)
   obtain⟨hN,_⟩:=q6 rfl
   have hN:N= []:=hN
   subst hN
   exact key _ _ _ _ hlo (DC.ofOwn q4 hf hlen) hUu hr.symm (by rcases hag with hh|hh;(rw [hh];simp);exact fun _=>hh)
  ·cases hr
 ·rename_i e2 z2 l2 e3 z3 l3 x hlo
  split at hr
  ·rename_i hh
   obtain⟨rfl,rfl,hb,hag⟩:=hh
   simp only [Option.some.injEq]at hr
   have hb:=DTL.of_eq hb
   subst hb
   obtain⟨q1,q2,q3,q4,q5⟩:=h.ents u _ (by rw [hu];rfl)
   rw [DTL.of_toList]at q4
   exact key _ _ _ _ hlo q4 hUu hr.symm (by rcases hag with hh|hh;(rw [hh];simp);exact fun _=>hh)
  ·cases hr
 ·cases hr
end
end Go.Proofs.YtecngjbpbnfegaaGreatDoor
end
section
namespace Go.Proofs.YtecngjbpbnfegaaGreatDoor
open Go.RowKit
section
variable {P:Program} {c:Cx} {n nx:Nat} {sl sl0:Nat→SV} {hp hp0:Nat→Option Ent} {a:Act} {o:Oper} {gs:Gd} {e:Eff} {sg:SgT} {nv:Nat}
theorem zmF (hp:Nat→Option Ent): ∀(l:List (Nat × Ent)) (t:Nat),zeH hp l t=match zlN l t with|some f=>some f|none=>hp t
 | [],t=>rfl
 |(u,e)::l,t=>by
  have:=zmF (fun v=>if v=u then some e else hp v) l t
  simp only [zeH,List.foldl_cons,zlN]at this ⊢
  rw [this]
  cases zlN l t with
  |some f=>rfl
  |none=>
   simp only
   by_cases h:u=t
   ·rw [if_pos h.symm,if_pos h]
   ·rw [if_neg (Ne.symm h),if_neg h]
theorem ztH {hp:Nat→Option Ent} {T v m u:Nat} {p:E × Nat × Nat} {h r:Ent} (hs:zph hp T v m u p=some (h,r)): ∃e z l ep c0 i o',h= .hol e z l v (m+1) c0 i o' u∧zlm hp [] T=some (.deep e z l v ep c0)∧ep=m:=by
 unfold zph at hs
 split at hs
 ·rename_i hl
  split at hs
  ·rename_i hh
   obtain⟨rfl,rfl,_⟩:=hh
   split at hs
   ·simp only [Option.some.injEq,Prod.mk.injEq]at hs
    obtain⟨rfl,_⟩:=hs
    exact⟨_,_,_,_,_,_,_,rfl,hl,rfl⟩
   ·cases hs
  ·cases hs
 ·cases hs
theorem zs0 {h r d:Ent} {e z:Nat} {l:List DT} {g ep:Nat} {c0 i:E} {o' u:Nat} (hh:h= .hol e z l g ep c0 i o' u) (hc:zpg P h r=some d): ∃x,d= .deep e z l g (ep+1) x:=by
 subst hh
 unfold zpg at hc
 simp only at hc
 split at hc
 ·split at hc
  ·simp only [Option.some.injEq]at hc;exact⟨_,hc.symm⟩
  ·cases hc
 ·split at hc
  ·simp only [Option.some.injEq]at hc;exact⟨_,hc.symm⟩
  ·cases hc
 ·cases hc
theorem zAC (hsg: ∀f s,sg f=some s→f<1000000) (h:Pre P c n nx sl hp a sl0 hp0 o []) (hu: ¬c.U (nx+999)) (he:ztx P sg sl0 hp0 nv nx o=some e)
  (hc: ∀q∈e.chk,q.den c.ρ) (hcall: ∀cl,e.call=some cl→ ∃r,c.ρ[nv]?=some r∧zii (Rts P sg) cl.fn ((EL.of cl.args).den c.ρ) c.ρ r):zbJ P o c n nx sl hp [] a e:=by
 unfold ztx at he
 simp only at he
 split at he
 ·cases he
 rename_i t T v m p s hfs
 split at he
 ·cases he
 rename_i hl inn hsp
 split at he
 ·cases he
 rename_i e0 he0
 split at he
 ·cases he
 rename_i hnq
 have hnq:e0.nilq=none:=by cases hh:e0.nilq with|none=>rfl|some x=>rw [hh]at hnq;simp at hnq
 obtain⟨hmem,hcase⟩:=zg7 hfs
 have hmem:Operand.tmp t∈o.op.operands:=by simpa using hmem
 obtain⟨fe,fz,fl,fep,fc0,fi,fo,rfl,hlook,rfl⟩:=ztH hsp
 have hE:c.E T=fep:=(h.eh T _ (zaV hlook (zcQ _))).2.2.1
 have hslot:=h.rel.slots t
 rw [←h.sl t hmem]at hslot
 obtain⟨vv,hpath,hs2⟩: ∃vv,znf c T v (some p) vv∧ ∀c1:Cx,c1.ρ=c.ρ→c1.K (nx+999) 0→c1.H (nx+999) 0=vv→(∃q n r,vv= .slice q n r∧(q=none∨n=0∨ ∃g,q=some ⟨g,0,none⟩))→SR c1 [s] [a.tmps.getD t undef]:=by
  rcases hcase with⟨y,hsl,rfl⟩|⟨y,k,z,q,hsl,rfl⟩
  ·rw [hsl]at hslot
   generalize a.tmps.getD t undef=av at hslot ⊢
   cases hslot with
   |via h1 h2 h3 _=>
    obtain⟨_,hp⟩:=h3 hE
    refine⟨_,hp,fun c1 e1 k1 k2 k3=> ?_⟩
    obtain⟨q,n,r,rfl,_⟩:=k3
    exact .own k1 k2 .nil
  ·rw [hsl]at hslot
   generalize a.tmps.getD t undef=av at hslot ⊢
   cases hslot with
   |vptr h1 h2 h3 _=>
    obtain⟨b,off,len,cap,kk,kv,g1,g2,g3,g4,g5,g6,rfl⟩:=h3 hE
    refine⟨_,g2,fun c1 e1 k1 k2 k3=> ?_⟩
    obtain⟨q9,n9,r9,hv,hq⟩:=k3
    cases hv
    have hoff:off=0:=by
     rcases hq with hq|hq|⟨g,hq⟩
     ·cases hq
     ·omega
     ·cases hq;rfl
    subst hoff
    have:=SR.rptr (c:=c1) (i:=k) (sz:=z) (o:=q) k1 k2 (by rw [e1];exact g3) g4 g5 .nil
    simpa using this
 obtain⟨recs,c1,rfl,hrel1,hkeep1,hK1,hH1,hvv,hU1,hKT,_,hE1,hTu⟩:=h.rel.split hsp h.hp hu (fun _=>hpath)
 have hsr:=hs2 _ hkeep1.ρ hK1 hH1 hvv
 have hrel2:=hrel1.reslot (sl':=fun i=>if i=t then s else sl i) (fun i=>by
  by_cases hi:i=t
  ·subst hi;right;simpa using hsr
  ·left;simp [hi])
 have hup: ∀x,zeH hp [(T, .hol fe fz fl v (fep+1) fc0 fi fo (nx+999)),(nx+999,inn)] x=if x=nx+999 then some inn else if x=T then some (.hol fe fz fl v (fep+1) fc0 fi fo (nx+999))else hp x:=fun x=>rfl
 have pre1:Pre P (c.chg c.w recs) n nx (fun i=>if i=t then s else sl i) (zeH hp [(T, .hol fe fz fl v (fep+1) fc0 fi fo (nx+999)),(nx+999,inn)]) a (fun i=>if i=t then s else sl0 i) (fun w=>if w=T then some (.hol fe fz fl v (fep+1) fc0 fi fo (nx+999))else if w=nx+999 then some inn else hp0 w) o []:=by
  refine⟨hrel2,zcQ _,fun i hi=> ?_,fun x f hf=> ?_,fun x h1 h2 hx=> ?_⟩
  ·by_cases hit:i=t
   ·simp [hit]
   ·simp only [if_neg hit];exact h.sl i hi
  ·rw [hup]
   by_cases h1:x=T
   ·rw [if_pos h1]at hf
    rw [if_neg (by rw [h1];exact hTu),if_pos h1];exact hf
   ·rw [if_neg h1]at hf
    by_cases h2:x=nx+999
    ·rw [if_pos h2]at hf ⊢;exact hf
    ·rw [if_neg h2]at hf
     rw [if_neg h2,if_neg h1];exact h.hp x f hf
  ·rcases hU1 x hx with hx|hx
   ·exact h.new x h1 h2 hx
   ·omega
 have hdst: ∀(c':Cx) (a':Act) (w9:SV),Rel c' n (zjh n (fun i=>if i=t then s else sl i) o.dst w9) (fun _=>none) a'→True:=fun _ _ _ _=>trivial
 have stale: ∀(c':Cx) (v':Value),c'.K T v→fep<c'.E T→SR c' [sl t] [v']:=by
  intro c' v' hk hlt
  rw [←h.sl t hmem]
  rcases hcase with⟨y,hsl,_⟩|⟨y,k,z,q,hsl,_⟩
  ·rw [hsl];exact .via hk (by omega) (fun hh=>by omega) .nil
  ·rw [hsl];exact .vptr hk (by omega) (fun hh=>by omega) .nil
 have back: ∀{c':Cx} {hp':Nat→Option Ent} {a':Act} {w9:SV},Rel c' n (zjh n (fun i=>if i=t then s else sl i) o.dst w9) hp' a'→c'.K T v→fep<c'.E T→Rel c' n (zjh n sl o.dst w9) hp' a':=by
  intro c' hp' a' w9 hr hk hlt
  refine hr.reslot fun i=> ?_
  unfold zjh
  by_cases h1:o.dst=some i∧i<n
  ·left;rw [if_pos h1,if_pos h1]
  ·rw [if_neg h1,if_neg h1]
   by_cases h2:i=t
   ·subst h2;right;exact stale _ _ hk hlt
   ·left;show sl i=if i=t then s else sl i;rw [if_neg h2]
 split at he
 ·
  split at he
  ·rename_i hlast
   simp only [Option.some.injEq]at he;subst he
   have hdoes:=zw5 hsg pre1 he0 hc hcall (fun x hx=>by rw [hnq]at hx;cases hx)
   intro next Q hk
   refine hdoes next Q fun a' c' hsame hr=> ?_
   have hTe:zeH (zeH hp [(T, .hol fe fz fl v (fep+1) fc0 fi fo (nx+999)),(nx+999,inn)]) e0.ent T=some (.hol fe fz fl v (fep+1) fc0 fi fo (nx+999)):=by
    rw [zmF,hlast,hup,if_neg hTu,if_pos rfl]
   obtain⟨g1,_,g3,_⟩:=hr.ents T _ (by rw [hTe];rfl)
   refine hk a' c' ⟨hsame.ρ,hsame.A,hsame.w0,hsame.Mu,fun x hx=> ?_⟩ (back hr g1 (by omega))
   rcases hsame.U x hx with hx|hx
   ·rcases hU1 x hx with hx|hx
    ·exact .inl hx
    ·exact .inr ⟨by omega,by simp only [zao];omega⟩
   ·exact .inr hx
  ·cases he
 ·split at he
  ·rename_i r' hlu hlT
   obtain⟨d,hd,rfl⟩:=Option.map_eq_some_iff.1 he
   have hdoes:=zw5 hsg pre1 he0 hc hcall (fun x hx=>by rw [hnq]at hx;cases hx)
   intro next Q hk
   refine hdoes next Q fun a' c' hsame hr=> ?_
   have hTe:zeH (zeH hp [(T, .hol fe fz fl v (fep+1) fc0 fi fo (nx+999)),(nx+999,inn)]) e0.ent T=some (.hol fe fz fl v (fep+1) fc0 fi fo (nx+999)):=by
    rw [zmF,hlT,hup,if_neg hTu,if_pos rfl]
   have hue:zeH (zeH hp [(T, .hol fe fz fl v (fep+1) fc0 fi fo (nx+999)),(nx+999,inn)]) e0.ent (nx+999)=some r':=by
    rw [zmF,hlu]
   obtain⟨recs2,c2,rfl,hr2,hU2,hE2⟩:=hr.close hTe hue hd ⟨_,_,_,_,_,_,_,_,rfl⟩ hTu
   obtain⟨x9,rfl⟩:=zs0 rfl hd
   have hTe2:zeH (zeH (zeH hp [(T, .hol fe fz fl v (fep+1) fc0 fi fo (nx+999)),(nx+999,inn)]) e0.ent) [(T, .deep fe fz fl v (fep+1+1) x9),(nx+999, .dead)] T=some (.deep fe fz fl v (fep+1+1) x9):=by
    show(if T=nx+999 then _ else if T=T then _ else _)=_
    rw [if_neg hTu,if_pos rfl]
   obtain⟨g1,_,g3,_⟩:=hr2.ents T _ (by rw [hTe2];rfl)
   have hfin:=back hr2 g1 (by omega)
   have hent:zeH hp ((T, .hol fe fz fl v (fep+1) fc0 fi fo (nx+999))::(nx+999,inn)::e0.ent++ [(T, .deep fe fz fl v (fep+1+1) x9),(nx+999, .dead)])=zeH (zeH (zeH hp [(T, .hol fe fz fl v (fep+1) fc0 fi fo (nx+999)),(nx+999,inn)]) e0.ent) [(T, .deep fe fz fl v (fep+1+1) x9),(nx+999, .dead)]:=by
    rw [←zkt,←zkt];rfl
   refine hk a' (c'.chg c'.w recs2) ⟨hsame.ρ,hsame.A,hsame.w0,hsame.Mu,fun x hx=> ?_⟩ ?_
   ·rcases hsame.U x (hU2 x hx)with hx|hx
    ·rcases hU1 x hx with hx|hx
     ·exact .inl hx
     ·exact .inr ⟨by omega,by simp only [zao];omega⟩
    ·exact .inr hx
   ·have:=hfin
    rw [←hent]at this;exact this
  ·cases he
theorem zBG (hsg: ∀f s,sg f=some s→f<1000000):zAf P sg (Rts P sg):=by
 intro c n nx sl hp a sl0 hp0 o gs e nv h hu he hc hcall hnq
 unfold zkQ at he
 split at he
 ·rename_i e' he'
  simp only [Option.some.injEq]at he;subst he
  exact zw5 hsg h he' hc hcall hnq
 ·split at he
  ·exact zAC hsg h hu he hc hcall
  ·cases he
theorem zt9 {x:E} (he:ztx P sg sl0 hp0 nv nx o=some e) (hq:e.nilq=some x):False:=by
 unfold ztx at he
 simp only at he
 split at he
 ·cases he
 split at he
 ·cases he
 split at he
 ·cases he
 rename_i e0 he0
 split at he
 ·cases he
 rename_i hnq
 have hnq:e0.nilq=none:=by cases hh:e0.nilq with|none=>rfl|some x=>rw [hh]at hnq;simp at hnq
 split at he
 ·split at he
  ·simp only [Option.some.injEq]at he;subst he;rw [hnq]at hq;cases hq
  ·cases he
 ·split at he
  ·obtain⟨d,hd,rfl⟩:=Option.map_eq_some_iff.1 he
   rw [hnq]at hq;cases hq
  ·cases he
theorem zuq {x:E} (he:zkQ P sg sl0 hp0 nv nx gs o=some e) (hq:e.nilq=some x):zb2 P sg sl0 hp0 nv nx gs o=some e:=by
 unfold zkQ at he
 split at he
 ·rename_i e' he'
  simp only [Option.some.injEq]at he;subst he;exact he'
 ·split at he
  ·exact(zt9 he hq).elim
  ·cases he
theorem zAu:zyf P sg:=by
 intro c n nx sl hp a sl0 hp0 o gs e nv x h he hq hb
 unfold zln at hb
 cases hop:o.op with
 |binOp op t y z ty=>
  rw [hop]at hb
  simp only at hb
  have he:=zuq he hq
  simp only [zb2,hop,Option.bind_eq_some_iff]at he
  obtain⟨s1,hs1,s2,hs2,he⟩:=he
  have key: ∀xq,zfb hp0 gs zaj s1=some xq→xq.den c.ρ= .sl []:=by
   intro xq hxq
   obtain⟨f,q1,_⟩:=h.toE hs1 (by simp [hop,Op.operands]) hxq
   generalize a.eval y=v at q1 hb
   split at hb
   ·generalize xq.den c.ρ=d at q1
    cases q1 with
    |snil _=>rfl
   ·cases hb
  unfold zrt at he
  split at he
  ·split at he
   ·simp at he;subst he;cases hq
   ·simp at he;subst he;cases hq
   ·obtain⟨xq,hxq,rfl⟩:=Option.map_eq_some_iff.1 he
    cases hq;exact key _ hxq
   ·obtain⟨xq,hxq,rfl⟩:=Option.map_eq_some_iff.1 he
    cases hq;exact key _ hxq
   ·cases he
  ·split at he
   ·simp at he;subst he;cases hq
   ·cases he
  ·split at he
   ·simp at he;subst he;cases hq
   ·cases he
  ·split at he
   ·simp at he;subst he;cases hq
   ·cases he
  ·split at he
   ·cases he
   ·split at he
    ·split at he
     ·simp at he;subst he;cases hq
     ·simp at he;subst he;cases hq
     ·cases he
    ·cases he
  ·cases he
 |_=>rw [hop]at hb;simp at hb
end
end Go.Proofs.YtecngjbpbnfegaaGreatDoor
end
section
namespace Go.Proofs.YtecngjbpbnfegaaGreatDoor
open Go.RowKit
def zl1 (ms:List PM) (vs:List Value) (t:Nat):Option Value:=
 if ztQ t then(match vs[t/1000]?,(ms[t/1000]?).getD .ro with
  |some v, .bx .. =>if t % 1000=0 then some v else none
  |some v, .mu _=>if 500≤t % 1000 then v.cells[t % 1000-500]? else none
  |_,_=>none)
 else none
section
variable {P:Program} {c:Cx} {w:World}
theorem zb0.own_one {ts:List TypeId} {fl:List Bool} {us:List Value} {ys:List AV} {rf hs:List Nat} (h:zb0 P w ts fl us ys rf hs) {nx:Nat} {mk:Nat→E} {j:Nat}: ∀(k:Nat) (u:Value),us[k]?=some u→(∃e,(nx+j+k,e)∈(zas P nx mk j ts fl).2)→u.cells= #[u]:=by
 induction h generalizing j with
 |nil=>intro k u hu _;simp at hu
 | @deep t ts fl el e9 z9 l9 u us y ys top rf hs h1 h2 h21 h22 h3 _ ih=>
  intro k u' hu he
  cases k with
  |zero=>
   simp at hu;subst hu
   obtain⟨p,q,r,rfl⟩:=h3.head
   rfl
  |succ k=>
   refine ih (j:=j+1) k u' (by simpa using hu) ?_
   obtain⟨e,he⟩:=he
   simp only [zas,h1,h2,List.mem_cons,Prod.mk.injEq]at he
   rcases he with⟨he,_⟩|he
   ·omega
   ·exact⟨e,by rw [show nx+(j+1)+k=nx+j+(k+1)from by omega];exact he⟩
 | @own t ts fl el u us y ys top rf hs h1 h2 h23 h3 _ ih=>
  intro k u' hu he
  cases k with
  |zero=>
   simp at hu;subst hu
   obtain⟨xs,_,_,_,⟨_,⟨a,rfl⟩,_⟩|⟨g,cap,C,rfl,_⟩⟩:=h3<;>rfl
  |succ k=>
   refine ih (j:=j+1) k u' (by simpa using hu) ?_
   obtain⟨e,he⟩:=he
   simp only [zas,h1,h2,List.mem_cons,Prod.mk.injEq]at he
   rcases he with⟨he,_⟩|he
   ·omega
   ·exact⟨e,by rw [show nx+(j+1)+k=nx+j+(k+1)from by omega];exact he⟩
 | @rd t ts fl u us y ys f rf hs h1 h3 _ ih=>
  intro k u' hu he
  obtain⟨e,he⟩:=he
  have hfc:(zas P nx mk j (t::ts) fl).2=(zas P nx mk (j+1) ts fl.tail).2:=by
   simp only [zas]
   split
   ·rename_i h8 h9;rw [h1 h8]at h9;cases h9
   ·rfl
  rw [hfc]at he
  cases k with
  |zero=>
   exfalso
   have key: ∀(ts:List TypeId) (fl:List Bool) (j':Nat) (t':Nat) (e':Ent),(t',e')∈(zas P nx mk j' ts fl).2→nx+j'≤t':=by
    intro ts
    induction ts with
    |nil=>intro fl j' t' e' h;simp [zas]at h
    |cons a ts ih2=>
     intro fl j' t' e' h
     simp only [zas]at h
     split at h
     ·simp only [List.mem_cons,Prod.mk.injEq]at h
      rcases h with⟨h,_⟩|h
      ·omega
      ·have:=ih2 _ _ _ _ h;omega
     ·have:=ih2 _ _ _ _ h;omega
   have:=key _ _ _ _ _ he
   omega
  |succ k=>
   exact ih (j:=j+1) k u' (by simpa using hu) ⟨e,by rw [show nx+(j+1)+k=nx+j+(k+1)from by omega];exact he⟩
theorem zpT {i b:Nat} (hb:b+400≤1000) {t:TypeId} {own:List Bool} {s:SV} {l:List (Nat × Ent)} {v:Value} {x:AV} {rf hs:List Nat} (h:zrz P i b t own=some (s,l)) (hv:zvJ P w t own v x rf hs) (hx:(E.var i).den c.ρ=x):
  ∃recs:List Chg,l=recs.map Chg.pair∧recs.flatMap Chg.top=hs∧(∀r∈recs,1000*i+b≤r.tag∧r.tag<1000*i+1000∧r.new.isSome)∧(recs.map Chg.tag).Nodup∧(∀r∈recs,r.new=v.cells[r.tag-(1000*i+b)]?)∧
   ∀c',Aft c c' w recs→(∀b∈rf,c'.ok b)→SR c' [s] [v]∧ ∀r∈recs,zkI c' r.tag r.ent:=by
 obtain⟨us,ys,hg,hc⟩:=hv
 unfold zrz at h
 simp only at h
 split at h
 ·cases h
 rename_i hle
 split at hg
 ·rename_i hag
  obtain⟨rfl,rfl,hone⟩:=hg
  obtain⟨recs,e1,e2,e3,e4,e4',e5⟩:=zdU (c:=c) (nx:=1000*i+b) (mk:=zfS (.var i) (zaY P t)) hc 0 (by rw [hag];exact zjF hx)
  rw [if_pos hag]at h
  simp only [Option.some.injEq,Prod.mk.injEq]at h
  obtain⟨rfl,rfl⟩:=h
  refine⟨recs,e1,e2,fun r hr=>by have:=e3 r hr;exact⟨by omega,by omega,this.2.2⟩,e4,fun r hr=>by rw [e4' r hr];simp [Value.cells],fun c' ha hok=> ?_⟩
  obtain⟨q1,q2⟩:=e5 c' ha hok
  exact⟨.agg hone (by rw [SVL.toList_of];exact q1) .nil,q2⟩
 ·rename_i hag
  obtain⟨rfl,rfl⟩:=hg
  have hag':zaY P t=false:=by simpa using hag
  obtain⟨recs,e1,e2,e3,e4,e4',e5⟩:=zdU (c:=c) (nx:=1000*i+b) (mk:=zfS (.var i) (zaY P t)) hc 0 (by
   intro k z hz
   cases k with
   |zero=>simp at hz;subst hz;rw [hag'];simpa [zfS]using hx
   |succ k=>simp at hz)
  rw [if_neg hag]at h
  split at h
  ·rename_i s' hs'
   simp only [Option.some.injEq,Prod.mk.injEq]at h
   obtain⟨rfl,rfl⟩:=h
   refine⟨recs,e1,e2,fun r hr=>by have:=e3 r hr;exact⟨by omega,by omega,this.2.2⟩,e4,fun r hr=> ?_,fun c' ha hok=> ?_⟩
   ·have hr':=e4' r hr
    have h3:=e3 r hr
    rw [hr',Nat.add_zero]
    have hlen:=hc.len
    have hk0:r.tag-(1000*i+b)=0:=by
     have:=hlen.1
     simp at this
     omega
    rw [hk0]
    have:=hc.own_one (nx:=1000*i+b) (mk:=zfS (.var i) (zaY P t)) (j:=0) 0 v rfl ⟨r.ent,by rw [e1];exact List.mem_map.2 ⟨r,hr,by simp [Chg.pair];omega⟩⟩
    rw [this];rfl
   ·obtain⟨q1,q2⟩:=e5 c' ha hok
    rw [hs']at q1
    exact⟨q1,q2⟩
  ·cases h
theorem zrx {ms0:List PM} {vs0:List Value}: ∀(ts:List TypeId) (i:Nat) {ms:List PM} {ss:List SV} {l:List (Nat × Ent)} {vs:List Value} {xs:List AV} {rf hs:List Nat},zh5 P i ts ms=some (ss,l)→zhp P w ts ms vs xs rf hs→(∀k x,xs[k]?=some x→(E.var (i+k)).den c.ρ=x)→(∀k,ms[k]?=ms0[i+k]?)→(∀k,vs[k]?=vs0[i+k]?)→
  ∃recs:List Chg,l=recs.map Chg.pair∧recs.flatMap Chg.top=hs∧(∀r∈recs,1000*i≤r.tag∧r.tag<1000*(i+ts.length)∧r.new.isSome)∧(recs.map Chg.tag).Nodup∧(∀r∈recs,∀v,zl1 ms0 vs0 r.tag=some v→r.new=some v)∧ss.length=ts.length∧ts.length≤vs.length∧
   ∀c',Aft c c' w recs→(∀b∈rf,c'.ok b)→SR c' (ss++(List.range (vs.length-ts.length)).map fun j=>SV.e (.var (i+ts.length+j))) vs∧ ∀r∈recs,zkI c' r.tag r.ent
 | [],i,ms,ss,l,vs,xs,rf,hs,h,ha,hx,_,_=>by
  simp [zh5]at h;obtain⟨rfl,rfl⟩:=h
  have key: ∀{ms:List PM} {vs:List Value} {xs:List AV} {rf hs:List Nat},zhp P w [] ms vs xs rf hs→hs= []∧Rd w vs xs rf:=by
   intro ms vs
   induction vs generalizing ms with
   |nil=>intro xs rf hs h;cases h;exact⟨rfl, .nil⟩
   |cons v vs ih=>
    intro xs rf hs h
    cases h with
    |free h1 h2=>obtain⟨rfl,h3⟩:=ih h2;exact⟨rfl,h1.app h3⟩
  obtain⟨rfl,hrd⟩:=key ha
  refine⟨[],rfl,rfl,by simp,by simp,by simp,rfl,by simp,fun c' haf hok=>⟨?_,by simp⟩⟩
  have frees: ∀(vs:List Value) {xs:List AV} {rf:List Nat} (j:Nat),Rd w vs xs rf→(∀k x,xs[k]?=some x→(E.var (i+j+k)).den c.ρ=x)→(∀b∈rf,c'.ok b)→SR c' ((List.range vs.length).map fun q=>SV.e (.var (i+j+q))) vs:=by
   intro vs
   induction vs with
   |nil=>intro xs rf j h _ _;simpa using SR.nil
   |cons v vs ih=>
    intro xs rf j h hx hok
    cases xs with
    |nil=>have:=h.len;simp at this
    |cons x xs=>
     obtain⟨f1,f2,rfl,h1,h2⟩:=h.uncons
     have h3:=ih (j+1) h2 (fun k y hy=>by rw [show i+(j+1)+k=i+j+(k+1)from by omega];exact hx (k+1) y (by simpa using hy)) fun b hb=>hok b (by simp [hb])
     rw [List.length_cons,List.range_succ_eq_map,List.map_cons,List.map_map]
     refine SR.cons (.e (f:=f1) (by rw [haf.w,haf.ρ];have:=hx 0 x rfl;simp only [Nat.add_zero]at this ⊢;rw [this];exact h1) (fun b hb=>hok b (by simp [hb])) .nil) ?_
     have e:((fun q=>SV.e (.var (i+j+q)))∘Nat.succ)=fun q=>SV.e (.var (i+(j+1)+q)):=by
      funext q;simp only [Function.comp_apply];rw [show i+j+q.succ=i+(j+1)+q from by omega]
     rw [e];exact h3
  simpa using frees vs 0 hrd (by simpa using hx) hok
 |t::ts,i,ms,ss,l,vs,xs,rf,hs,h,ha,hx,hms,hvs=>by
  unfold zh5 at h
  split at h
  ·rename_i s l1 ss' l2 h1 h2
   simp only [Option.some.injEq,Prod.mk.injEq]at h
   obtain⟨rfl,rfl⟩:=h
   cases ha with
   | @cons _ _ _ v vs x xs f hh rf hs harg hrest=>
   have hm0:ms.headD .ro=(ms0[i]?).getD .ro:=by
    have:=hms 0
    rw [Nat.add_zero]at this
    rw [←this]
    cases ms<;>rfl
   have hv0:vs0[i]?=some v:=by have:=hvs 0;simpa using this.symm
   have hx0:(E.var i).den c.ρ=x:=by simpa using hx 0 x rfl
   obtain⟨r2,b1,b2,b3,b4,b4',b6,b7,b5⟩:=zrx ts (i+1) h2 hrest (fun k y hy=>by rw [show i+1+k=i+(k+1)from by omega];exact hx (k+1) y (by simpa using hy)) (fun k=>by rw [show i+1+k=i+(k+1)from by omega,←hms (k+1)];cases ms<;>simp) (fun k=>by rw [show i+1+k=i+(k+1)from by omega,←hvs (k+1)];simp)
   have fin: ∀(r1:List Chg),l1=r1.map Chg.pair→r1.flatMap Chg.top=hh→(∀r∈r1,1000*i≤r.tag∧r.tag<1000*i+1000∧r.new.isSome)→(r1.map Chg.tag).Nodup→(∀r∈r1,∀v,zl1 ms0 vs0 r.tag=some v→r.new=some v)→
     (∀c',Aft c c' w r1→(∀b∈f,c'.ok b)→SR c' [s] [v]∧ ∀r∈r1,zkI c' r.tag r.ent)→
     ∃recs:List Chg,l1++l2=recs.map Chg.pair∧recs.flatMap Chg.top=hh++hs∧(∀r∈recs,1000*i≤r.tag∧r.tag<1000*(i+(t::ts).length)∧r.new.isSome)∧(recs.map Chg.tag).Nodup∧(∀r∈recs,∀v,zl1 ms0 vs0 r.tag=some v→r.new=some v)∧(s::ss').length=(t::ts).length∧(t::ts).length≤(v::vs).length∧
      ∀c',Aft c c' w recs→(∀b∈f++rf,c'.ok b)→SR c' ((s::ss')++(List.range ((v::vs).length-(t::ts).length)).map fun j=>SV.e (.var (i+(t::ts).length+j))) (v::vs)∧ ∀r∈recs,zkI c' r.tag r.ent:=by
    intro r1 a1 a2 a3 a4 a4' a5
    refine⟨r1++r2,by simp [a1,b1],by simp [a2,b2],fun r hr=> ?_, ?_,fun r hr=> ?_,by simp [b6],by simp [b7],fun c' haf hok=> ?_⟩
    ·simp only [List.length_cons]
     rcases List.mem_append.1 hr with hr|hr
     ·have:=a3 r hr;exact⟨this.1,by omega,this.2.2⟩
     ·have:=b3 r hr;exact⟨by omega,by omega,this.2.2⟩
    ·rw [List.map_append,List.nodup_append]
     refine⟨a4,b4,fun t1 ht1 t2 ht2 he=> ?_⟩
     obtain⟨q1,hq1,rfl⟩:=List.mem_map.1 ht1
     obtain⟨q2,hq2,rfl⟩:=List.mem_map.1 ht2
     have:=a3 q1 hq1
     have:=b3 q2 hq2
     omega
    ·rcases List.mem_append.1 hr with hr|hr
     ·exact a4' r hr
     ·exact b4' r hr
    ·obtain⟨p1,p2⟩:=a5 c' (haf.mono fun r hr=>by simp [hr]) fun b hb=>hok b (by simp [hb])
     obtain⟨q1,q2⟩:=b5 c' (haf.mono fun r hr=>by simp [hr]) fun b hb=>hok b (by simp [hb])
     refine⟨?_,fun r hr=> ?_⟩
     ·have:=p1.cons q1
      have e:(fun j=>SV.e (.var (i+1+ts.length+j)))=fun j=>SV.e (.var (i+(t::ts).length+j)):=by
       funext j;simp only [List.length_cons];rw [show i+1+ts.length+j=i+(ts.length+1)+j from by omega]
      rw [e]at this
      simpa using this
     ·rcases List.mem_append.1 hr with hr|hr
      ·exact p2 r hr
      ·exact q2 r hr
   have pinMu: ∀{own:List Bool} {r:Chg},ms.headD .ro= .mu own→1000*i+500≤r.tag→r.tag<1000*i+1000→r.new=v.cells[r.tag-(1000*i+500)]?→ ∀v',zl1 ms0 vs0 r.tag=some v'→r.new=some v':=by
    intro own r hm t1 t2 hn v' hp
    unfold zl1 at hp
    split at hp
    ·rw [show r.tag/1000=i from by omega,hv0,←hm0,hm]at hp
     simp only at hp
     split at hp
     ·rw [hn,show r.tag-(1000*i+500)=r.tag % 1000-500 from by omega];exact hp
     ·cases hp
    ·cases hp
   have pinVa: ∀{own:List Bool} {r:Chg},ms.headD .ro= .va own→1000*i≤r.tag→r.tag<1000*i+1000→ ∀v',zl1 ms0 vs0 r.tag=some v'→r.new=some v':=by
    intro own r hm t1 t2 v' hp
    unfold zl1 at hp
    split at hp
    ·rw [show r.tag/1000=i from by omega,hv0,←hm0,hm]at hp
     simp at hp
    ·cases hp
   cases hm:ms.headD .ro with
   |ro=>
    rw [hm]at h1 harg
    simp only [zvf,Option.some.injEq,Prod.mk.injEq]at h1
    obtain⟨rfl,rfl⟩:=h1
    obtain⟨g1,rfl⟩:=harg
    exact fin [] rfl rfl (by simp) (by simp) (by simp) fun c' haf hok=>⟨.e (f:=f) (by rw [haf.w,haf.ρ,hx0];exact g1) hok .nil,by simp⟩
   |va own=>
    rw [hm]at h1 harg
    obtain⟨r1,a1,a2,a3,a4,a4',a5⟩:=zpT (c:=c) (by omega) h1 harg hx0
    exact fin r1 a1 a2 (fun r hr=>by have:=a3 r hr;exact⟨by omega,this.2⟩) a4 (fun r hr=>by have:=a3 r hr;exact pinVa hm (by omega) this.2.1) a5
   |mu own=>
    rw [hm]at h1 harg
    obtain⟨r1,a1,a2,a3,a4,a4',a5⟩:=zpT (c:=c) (by omega) h1 harg hx0
    exact fin r1 a1 a2 (fun r hr=>by have:=a3 r hr;exact⟨by omega,this.2⟩) a4 (fun r hr=>by have:=a3 r hr;exact pinMu hm this.1 this.2.1 (a4' r hr)) a5
   |bx own own'=>
    rw [hm]at h1 harg
    obtain⟨ty,b,C,ys,h9,g1,rfl,g3,g4,rfl,g6,rfl⟩:=harg
    simp only [zvf,g1]at h1
    split at h1
    ·cases h1
    rename_i hle
    simp only [Option.some.injEq,Prod.mk.injEq]at h1
    obtain⟨rfl,rfl⟩:=h1
    obtain⟨recs,e1,e2,e3,e4,e4',e5⟩:=zdU (c:=c) (nx:=1000*i+1) (mk:=zfS (.deref (.var i)) true) g6 0 (zjF (by simp only [E.den]at hx0 ⊢;rw [hx0];rfl))
    refine fin (⟨1000*i,some (.pointer (some ⟨b,0,none⟩)), [b], .box ty (zaY P ty) (zas P (1000*i+1) (zfS (.deref (.var i)) true) 0 (zaz P ty) own).1⟩::recs) (by simp [e1,Chg.pair]) (by simp [e2]) (fun r hr=> ?_) ?_ (fun r hr v' hp=> ?_) fun c' haf hok=> ?_
    ·rcases List.mem_cons.1 hr with rfl|hr
     ·simp
     ·have:=e3 r hr;exact⟨by omega,by omega,this.2.2⟩
    ·simp only [List.map_cons,List.nodup_cons]
     refine⟨fun hm=> ?_,e4⟩
     obtain⟨r,hr,hrt⟩:=List.mem_map.1 hm
     have:=e3 r hr
     omega
    ·rcases List.mem_cons.1 hr with rfl|hr
     ·unfold zl1 at hp
      simp only at hp
      split at hp
      ·rw [show 1000*i/1000=i from by omega,hv0,←hm0,hm]at hp
       simp at hp
       simpa using hp
      ·cases hp
     ·have h3:=e3 r hr
      unfold zl1 at hp
      split at hp
      ·rw [show r.tag/1000=i from by omega,hv0,←hm0,hm]at hp
       simp only at hp
       split at hp
       ·omega
       ·cases hp
      ·cases hp
    ·obtain⟨q1,q2⟩:=e5 c' (haf.mono fun r hr=>by simp [hr]) hok
     obtain⟨k1,k2,k3⟩:=haf.new _ (List.mem_cons_self ..) _ rfl
     have kg:=haf.G _ (List.mem_cons_self ..)
     simp only at k1 k3 kg
     refine⟨.bptr k1 k3 .nil,fun r hr=> ?_⟩
     rcases List.mem_cons.1 hr with rfl|hr
     ·exact⟨b,C,k1,k3,by rw [kg],by rw [kg],by rw [haf.w];exact g3,g4,q1⟩
     ·exact q2 r hr
  ·cases h
end
end Go.Proofs.YtecngjbpbnfegaaGreatDoor
end
section
namespace Go.Proofs.YtecngjbpbnfegaaGreatDoor
open Go.RowKit
section
variable {P:Program} {c:Cx} {n:Nat} {a:Act} {τ:St}
theorem zB7 (h:Rel c n (zaK τ) (zat τ.hp) a):EH c (zat τ.hp):=fun t e hr=>h.ents t e hr
theorem zuZ {hp:Nat→Option Ent} {t:Nat} {e:Ent} (h:hp t=some e) (hn: ∀hs f,e≠ .gd hs f):zlm hp [] t=some e:=by
 simp only [zlm,h,Option.bind_some,zst]
 all_goals (cases e<;>first|rfl|exact absurd rfl (hn _ _))
theorem zoS (h:Rel c n (zaK τ) (zat τ.hp) a) {u g:Nat} {e z:Nat} {x:E} (hu:zat τ.hp u=some (.row e z g x true)):c.K u g∧zdF c.w e z (c.H u g) (x.den c.ρ) (c.G u).top []:=by
 obtain⟨p1,p2,N,p3,p4,p5,_⟩:=h.ents u _ (by rw [hu];rfl)
 obtain⟨hN,_⟩:=p5 rfl
 have hN:N= []:=hN
 subst hN
 exact⟨p1,p3⟩
theorem ziW (h:Rel c n (zaK τ) (zat τ.hp) a): ∀(ts:List TypeId) {fl:List Bool} {cs:List SV} {l:List Nat} {us:List Value} {xs:EL} {m:Nat},zmw P τ ts fl cs=some l→SR c cs us→zdI (zat τ.hp) [] m cs=some xs→m≤zaj→
  ∃f,zb0 P c.w ts fl us (xs.den c.ρ) f (l.flatMap fun t=>(c.G t).top)∧ ∀b∈f,c.see (zpn P τ ts fl cs) b
 | [],fl, [],l,us,xs,m,ho,hs,hx,hm=>by
  simp [zmw]at ho;subst ho
  cases hs
  cases m with
  |zero=>simp [zdI]at hx
  |succ m=>simp [zdI]at hx;subst hx;exact⟨[], .nil,by simp⟩
 | [],fl,s::cs,l,us,xs,m,ho,hs,hx,hm=>by simp [zmw]at ho
 |t::ts,fl, [],l,us,xs,m,ho,hs,hx,hm=>by simp [zmw]at ho
 |t::ts,fl,s::cs,l, [],xs,m,ho,hs,hx,hm=>by have:=hs.len;simp at this
 |t::ts,fl,s::cs,l,v::us,xs,m,ho,hs,hx,hm=>by
  obtain⟨j,y,ys,rfl,hy,hys,rfl⟩:=zey hx
  obtain⟨r1,r2⟩:=hs.uncons
  unfold zmw at ho
  split at ho
  ·cases ho
  rename_i l' hrec
  obtain⟨f,q1,q2⟩:=ziW h ts hrec r2 hys (by omega)
  split at ho
  ·rename_i e hf hel
   have hlent:zpn P τ (t::ts) fl (s::cs)=zpn P τ ts fl.tail cs:=by
    simp only [zpn,hf,hel,Option.isSome_some,Bool.and_self,if_true,List.nil_append]
   split at ho
   ·cases ho
   rename_i hz
   split at ho
   ·simp only [Option.some.injEq]at ho;subst ho
    cases r1 with
    |nils _=>
     refine⟨f, ?_,by rw [hlent];exact q2⟩
     rw [EL.den,zfX hy]
     exact zb0.void hf hel (by omega) q1
   ·rename_i u g
    split at ho
    ·rename_i e' z g' x hu
     split at ho
     ·rename_i hh
      obtain⟨rfl,rfl,rfl,hfd⟩:=hh
      have hfd:zgC P e'=true∨zp3 P t=none:=hfd.imp id (by simp)
      simp only [Option.some.injEq]at ho;subst ho
      obtain⟨p1,p2⟩:=zoS h hu
      have hl:=zuZ hu (by simp)
      have hyx:y=x:=by
       cases j with
       |zero=>simp [zfb]at hy
       |succ j=>simp [zfb,zd2,hl]at hy;exact hy.symm
      subst hyx
      have hv:c.H u g=v:=by
       cases r1 with
       |own _ k2 _=>exact k2
      rw [hv]at p2
      exact⟨f,zb0.own hf hel hfd p2 q1,by rw [hlent];exact q2⟩
     ·cases ho
    ·rename_i e' z dl g' ep x hu
     split at ho
     ·rename_i hh
      obtain⟨rfl,hnf,hdt⟩:=hh
      have hdt:=zks hdt
      simp only [Option.some.injEq]at ho;subst ho
      obtain⟨p1,_,_,p2,_⟩:=h.ents u _ (by rw [hu];rfl)
      have hl:=zuZ hu (by simp)
      have hyx:y=x:=by
       cases j with
       |zero=>simp [zfb]at hy
       |succ j=>simp [zfb,zd2,hl]at hy;exact hy.symm
      subst hyx
      have hv:c.H u g=v:=by
       cases r1 with
       |own _ k2 _=>exact k2
      rw [hv]at p2
      exact⟨f,zb0.deep hf hel hnf hdt p2 q1,by rw [hlent];exact q2⟩
     ·cases ho
    ·cases ho
   ·cases ho
  ·rename_i hno
   simp only [Option.some.injEq]at ho;subst ho
   have hn:fl.headD false=true→ze9 P t=none:=fun hf=>by
    cases hel:ze9 P t with
    |none=>rfl
    |some e=>exact absurd hel (hno e hf)
   obtain⟨f1,p1,p2⟩:=zhe (zB7 h) (zcQ _) j hy r1 zaj (by omega)
   refine⟨f1++f,zb0.rd hn p1 q1,fun b hb=> ?_⟩
   have hlent:zpn P τ (t::ts) fl (s::cs)=zcz (zat τ.hp) [] (zaj+1) [s]++zpn P τ ts fl.tail cs:=by
    have:(fl.headD false&&(ze9 P t).isSome)=false:=by
     cases hf:fl.headD false with
     |false=>rfl
     |true=>rw [hn hf];rfl
    simp only [zpn,this,Bool.false_eq_true,if_false]
   rw [hlent]
   rcases List.mem_append.1 hb with hb|hb
   ·exact(p2 b hb).mono fun t ht=>by simp [ht]
   ·exact(q2 b hb).mono fun t ht=>by simp [ht]
theorem zul (h:Rel c n (zaK τ) (zat τ.hp) a) {t:TypeId} {fl:List Bool} {s:SV} {l:List Nat} {v:Value} {x:E} {m:Nat} (ho:zxb P τ t fl s=some l) (hs:SR c [s] [v]) (hx:zfb (zat τ.hp) [] m s=some x) (hm:m<zaj):
  ∃f,ztM P c.w t fl v (x.den c.ρ) f (l.flatMap fun t=>(c.G t).top)∧ ∀b∈f,c.see (zzW P τ t fl s) b:=by
 unfold zxb at ho
 unfold ztM zzW
 split at ho
 ·rename_i hf
  simp only [hf,if_true]
  split at ho
  ·rename_i hag
   split at ho
   ·rename_i cs
    obtain⟨k,lx,rfl,hl,rfl⟩:=zmI hx
    cases hs with
    |agg h9 h1 h8=>
     rename_i as
     obtain⟨f,q1,q2⟩:=ziW (P:=P) h (zaz P t) ho h1 hl (by omega)
     exact⟨f,⟨as,lx.den c.ρ,by rw [if_pos hag];exact⟨rfl,rfl,h9⟩,q1⟩,by rw [if_pos hag];exact q2⟩
   ·cases ho
  ·rename_i hag
   have hl1:zdI (zat τ.hp) [] (m+1) [s]=some (.cons x .nil):=by
    cases m with
    |zero=>simp [zfb]at hx
    |succ m=>simp only [zdI,hx]
   obtain⟨f,q1,q2⟩:=ziW (P:=P) h (zaz P t) ho hs hl1 (by omega)
   exact⟨f,⟨[v], [x.den c.ρ],by rw [if_neg hag];exact⟨rfl,rfl⟩,q1⟩,by rw [if_neg hag];exact q2⟩
 ·rename_i hf
  simp only [hf,if_false,Bool.false_eq_true]
  simp only [Option.some.injEq]at ho;subst ho
  obtain⟨f,p1,p2⟩:=zhe (zB7 h) (zcQ _) m hx hs zaj (by omega)
  exact⟨f,⟨p1,rfl⟩,p2⟩
theorem znH (h:Rel c n (zaK τ) (zat τ.hp) a): ∀(ts:List TypeId) {fl:List Bool} {ss:List SV} {l:List Nat} {vs:List Value} {xs:EL} {m:Nat},zlH P τ ts fl ss=some l→SR c ss vs→zdI (zat τ.hp) [] m ss=some xs→m≤zaj→
  ∃f,zrU P c.w ts fl vs (xs.den c.ρ) f (l.flatMap fun t=>(c.G t).top)∧ ∀b∈f,c.see (ztn P τ ts fl ss) b
 | [],fl, [],l,vs,xs,m,ho,hs,hx,hm=>by
  simp [zlH]at ho;subst ho
  cases hs
  cases m with
  |zero=>simp [zdI]at hx
  |succ m=>simp [zdI]at hx;subst hx;exact⟨[], .nil,by simp⟩
 | [],fl,s::cs,l,us,xs,m,ho,hs,hx,hm=>by simp [zlH]at ho
 |t::ts,fl, [],l,us,xs,m,ho,hs,hx,hm=>by simp [zlH]at ho
 |t::ts,fl,s::cs,l, [],xs,m,ho,hs,hx,hm=>by have:=hs.len;simp at this
 |t::ts,fl,s::cs,l,v::us,xs,m,ho,hs,hx,hm=>by
  obtain⟨j,y,ys,rfl,hy,hys,rfl⟩:=zey hx
  obtain⟨r1,r2⟩:=hs.uncons
  unfold zlH at ho
  split at ho
  ·rename_i a1 b1 h1 h2
   simp only [Option.some.injEq]at ho;subst ho
   obtain⟨f1,p1,p2⟩:=zul (P:=P) h h1 r1 hy (by omega)
   obtain⟨f2,q1,q2⟩:=znH h ts h2 r2 hys (by omega)
   refine⟨f1++f2,by rw [List.flatMap_append];exact .cons p1 q1,fun b hb=> ?_⟩
   simp only [ztn]
   rcases List.mem_append.1 hb with hb|hb
   ·exact(p2 b hb).mono fun t ht=>by simp [ht]
   ·exact(q2 b hb).mono fun t ht=>by simp [ht]
  ·cases ho
end
end Go.Proofs.YtecngjbpbnfegaaGreatDoor
end
section
namespace Go.Proofs.YtecngjbpbnfegaaGreatDoor
open Go.RowKit
section
variable {P:Program} {c:Cx} {n:Nat} {a:Act} {τ:St}
theorem zyg (h:Rel c n (zaK τ) (zat τ.hp) a) {t:TypeId} {b o:Nat} {ty:TypeId} {g:Bool} {cs:List SV} {s:SV} {v:Value} (hty:zlS P t=true) (hl:zat τ.hp b=some (.box ty g cs)) (hs2:zuB P t cs o=some s) (hr:SR c [.bptr b o] [v]):
  ∃q u,v= .pointer (some ⟨q,o,none⟩)∧(loadVar t ⟨q,o,none⟩).run P c.w= .ok u c.w∧SR c [s] [u]:=by
 cases hr with
 |bptr h1 h2 h8=>
  rename_i q
  obtain⟨q',C,_,e2,e3,e4,e5,e5',e6⟩:=h.ents b _ (by rw [hl];rfl)
  rw [h2]at e2;cases e2
  have key: ∀vs:List Value,(zaY P t=true→vs.length=P.cellsOf t)→(zaY P t=false→vs.length=1)→(∀j u,vs[j]?=some u→c.w.cell? ⟨q,o+j,none⟩=some u)→(loadVar t ⟨q,o,none⟩).run P c.w= .ok (if zaY P t then .agg vs.toArray else vs.headD undef) c.w:=fun vs k1 k2 k3=>by
   have:=zgE (P:=P) (w:=c.w) (b:=q) (off:=o) hty vs k1 k2 k3
   simpa [Instr.loadAt,Instr.sureAddr]using this
  unfold zuB at hs2
  have hlen:=e6.len
  split at hs2
  ·rename_i hag
   split at hs2
   ·rename_i hle
    simp at hs2;subst hs2
    obtain⟨r1,r2⟩:=e6.split o
    obtain⟨r3,r4⟩:=r2.split (P.cellsOf t)
    have:=SR.agg (cs:=SVL.of ((cs.drop o).take (P.cellsOf t))) (fun u hu=>e5' u (List.mem_of_mem_drop (List.mem_of_mem_take hu))) (by rw [SVL.toList_of];exact r3) .nil
    refine⟨q, .agg ((C.toList.drop o).take (P.cellsOf t)).toArray,rfl, ?_,this⟩
    rw [key ((C.toList.drop o).take (P.cellsOf t)) (fun _=>by simp at hlen ⊢;omega) (fun h=>by rw [hag]at h;cases h) (fun j u hu=>by
     rw [zax e5]
     rw [List.getElem?_take]at hu
     split at hu
     ·simpa using hu
     ·cases hu)]
    simp [hag]
   ·cases hs2
  ·rename_i hag
   have hag:zaY P t=false:=by simpa using hag
   obtain⟨u,hu,r⟩:=e6.get hs2
   refine⟨q,u,rfl, ?_,r⟩
   rw [key [u] (fun h=>by rw [hag]at h;cases h) (fun _=>rfl) (fun j z hz=>by
    cases j with
    |zero=>simp at hz;subst hz;rw [zax e5];simpa using hu
    |succ j=>simp at hz)]
   simp [hag]
theorem zlj {α:Type} {g:α→Sem Value} {w:World}: ∀(l:List α) (us:List Value),l.length=us.length→(∀(i:Nat) (x:α) (u:Value),l[i]?=some x→us[i]?=some u→(g x).run P w= .ok u w)→(l.mapM g).run P w= .ok us w
 | [], [],_,_=>by simp
 | [],_::_,h,_=>by simp at h
 |_::_, [],h,_=>by simp at h
 |x::l,u::us,h,hg=>by
  have h0:=hg 0 x u rfl rfl
  have ih:=zlj l us (by simpa using h) fun i y z hy hz=>hg (i+1) y z (by simpa using hy) (by simpa using hz)
  simp [List.mapM_cons,h0,ih]
theorem ztF (h:Rel c n (zaK τ) (zat τ.hp) a) (fn:Func) {rs:List SV} (hrs:fn.results.toList.mapM (zkw P τ)=some rs):
  ∃us,SR c rs us∧rs.length=us.length∧(results fn a.tmps).run P c.w= .ok (match us with| [u]=>u|us=> .tuple us.toArray) c.w:=by
 have one: ∀(r:ResultVar) (s:SV),zkw P τ r=some s→ ∃u,SR c [s] [u]∧(match r with| .tmp t=>(pure (a.tmps.getD t undef):Sem Value)| .cell b t=>do loadVar t (←asAddr (a.tmps.getD b undef))).run P c.w= .ok u c.w:=by
  intro r s hr
  cases r with
  |tmp t=>
   simp only [zkw,Option.some.injEq]at hr;subst hr
   exact⟨_,h.slots t,by simp⟩
  |cell b ty=>
   simp only [zkw]at hr
   split at hr
   ·rename_i b' o hsl
    split at hr
    ·rename_i ty' g cs hl
     split at hr
     ·rename_i hty
      have hs:=h.slots b
      rw [hsl]at hs
      obtain⟨q,u,hv,hrun,hsr⟩:=zyg h hty hl hr hs
      exact⟨u,hsr,by simp only [hv];simp [asAddr,hrun]⟩
     ·cases hr
    ·cases hr
   ·cases hr
 have list: ∀(l:List ResultVar) (rs:List SV),l.mapM (zkw P τ)=some rs→ ∃us,SR c rs us∧l.length=us.length∧ ∀(i:Nat) (x:ResultVar) (u:Value),l[i]?=some x→us[i]?=some u→(match x with| .tmp t=>(pure (a.tmps.getD t undef):Sem Value)| .cell b t=>do loadVar t (←asAddr (a.tmps.getD b undef))).run P c.w= .ok u c.w:=by
  intro l
  induction l with
  |nil=>intro rs hrs;simp at hrs;subst hrs;exact⟨[], .nil,rfl,by simp⟩
  |cons r l ih=>
   intro rs hrs
   rw [List.mapM_cons]at hrs
   simp only [Option.bind_eq_bind,Option.bind_eq_some_iff,Option.pure_def,Option.some.injEq]at hrs
   obtain⟨s,hs,rs',hrs',rfl⟩:=hrs
   obtain⟨u,h1,h2⟩:=one r s hs
   obtain⟨us,h3,h4,h5⟩:=ih rs' hrs'
   refine⟨u::us,h1.cons h3,by simp [h4],fun i x v hx hv=> ?_⟩
   cases i with
   |zero=>simp at hx hv;subst hx;subst hv;exact h2
   |succ i=>exact h5 i x v (by simpa using hx) (by simpa using hv)
 obtain⟨us,h1,h2,h3⟩:=list _ _ hrs
 refine⟨us,h1,h1.len, ?_⟩
 have hm:=zlj (P:=P) (w:=c.w) fn.results.toList us h2 h3
 simp only [results,Array.mapM_eq_mapM_toList,map_eq_pure_bind,Sem.run_bind]
 erw [hm]
 simp only [Result.andThen_ok,Sem.run_pure]
 match us with
 | []=>simp
 | [u]=>simp
 |u::v::us=>simp
theorem znk (h:Rel c n (zaK τ) (zat τ.hp) a) {w0:World} {v:Value} {ms:List PM} {vs:List Value} (hpin: ∀t,c.A.pin t=zl1 ms vs t) {i:Nat} (hi:i≤99) {own0:List Bool} (hv:vs[i]?=some v) (hm:(ms[i]?).getD .ro= .mu own0) {mk:Nat→E}: ∀(ts:List TypeId) (j:Nat) {fl:List Bool} {us:List Value} {ys:List AV} {rf hs:List Nat} {es:List E} {l:List Nat},
  zb0 P w0 ts fl us ys rf hs→j+ts.length≤400→(∀k u,us[k]?=some u→(∃e,(0+j+k,e)∈(zas P 0 (zfS (.var 0) true) j ts fl).2)→v.cells[j+k]?=some u)→zwm P τ i mk j ts fl=some (es,l)→ ∃o,MuC P c.w ts fl us (es.map (E.den c.ρ)) o∧o=l.flatMap fun t=>(c.G t).top
 | [],j,fl,us,ys,rf,hs,es,l,hc,hle,hcell,he=>by
  simp [zwm]at he;obtain⟨rfl,rfl⟩:=he
  cases hc
  exact⟨[], .nil,rfl⟩
 |t::ts,j,fl,us,ys,rf,hs,es,l,hc,hle,hcell,he=>by
  unfold zwm at he
  split at he
  ·cases he
  rename_i xs us' hrec
  simp only [List.length_cons]at hle
  have sub: ∀{u:Value} {us1:List Value},us=u::us1→ ∀k z,us1[k]?=some z→(∃e,(0+(j+1)+k,e)∈(zas P 0 (zfS (.var 0) true) (j+1) ts fl.tail).2)→v.cells[j+1+k]?=some z:=by
   rintro u us1 rfl k z hz ⟨e,he⟩
   have:=hcell (k+1) z (by simpa using hz) ⟨e,by
    simp only [zas]
    split
    ·rw [show 0+j+(k+1)=0+(j+1)+k from by omega];exact List.mem_cons_of_mem _ he
    ·rw [show 0+j+(k+1)=0+(j+1)+k from by omega];exact he⟩
   rw [show j+1+k=j+(k+1)from by omega];exact this
  have fin: ∀{u:Value} {us1:List Value} {ys1:List AV} {rf1 hs1:List Nat} {el:TypeId},us=u::us1→fl.headD false=true→ze9 P t=some el→zb0 P w0 ts fl.tail us1 ys1 rf1 hs1→ ∃o,MuC P c.w (t::ts) fl us (es.map (E.den c.ρ)) o∧o=l.flatMap fun t=>(c.G t).top:=by
   rintro u us1 ys1 rf1 hs1 el rfl h1 h2 h4
   obtain⟨o,q1,q2⟩:=znk h hpin hi hv hm ts (j+1) h4 (by omega) (sub rfl) hrec
   rw [h1,h2]at he
   simp only at he
   have hcv:v.cells[j]?=some u:=by
    have:=hcell 0 u rfl ⟨_,by simp only [zas,h1,h2,Nat.zero_add,Nat.add_zero];exact List.mem_cons_self ..⟩
    simpa using this
   have hpu:c.A.pin (1000*i+500+j)=some u:=by
    rw [hpin]
    unfold zl1
    have e1:(1000*i+500+j)/1000=i:=by omega
    have e2:(1000*i+500+j) % 1000=500+j:=by omega
    rw [if_pos (by unfold ztQ;simp only [e2,Bool.and_eq_true,decide_eq_true_eq,Bool.or_eq_true];omega),e1,e2,hv,hm]
    simp only
    rw [if_pos (by omega),show 500+j-500=j from by omega];exact hcv
   split at he
   ·rename_i e' z y' hu
    split at he
    ·rename_i hh
     obtain⟨rfl,rfl,hfd⟩:=hh
     have hfd:zgC P e'=true∨zp3 P t=none:=hfd.imp id (by simp)
     simp only [Option.some.injEq,Prod.mk.injEq]at he
     obtain⟨rfl,rfl⟩:=he
     obtain⟨p1,p2⟩:=zoS h hu
     have hH:=(h.base.pins _ u hpu).2 p1
     rw [hH]at p2
     refine⟨_, .own h1 h2 hfd p2 q1,by simp [q2]⟩
    ·cases he
   ·rename_i e' z dl ep y' hu
    split at he
    ·rename_i hh
     obtain⟨hnf,hdt⟩:=hh
     have hdt:=zks hdt
     simp only [Option.some.injEq,Prod.mk.injEq]at he
     obtain⟨rfl,rfl⟩:=he
     obtain⟨p1,_,_,p2,_⟩:=h.ents _ _ (by rw [hu];rfl)
     have hH:=(h.base.pins _ u hpu).2 p1
     rw [hH]at p2
     refine⟨_, .deep h1 h2 hnf hdt p2 q1,by simp [q2]⟩
    ·cases he
   ·cases he
  cases hc with
  |own h1 h2 _ _ h4=>exact fin rfl h1 h2 h4
  |deep h1 h2 _ _ _ h4=>exact fin rfl h1 h2 h4
  | @rd _ _ _ u us1 y ys1 f rf1 hs1 h1 h3 h4=>
   obtain⟨o,q1,q2⟩:=znk h hpin hi hv hm ts (j+1) h4 (by omega) (sub rfl) hrec
   split at he
   ·rename_i e hf hel;rw [h1 hf]at hel;cases hel
   ·simp only [Option.some.injEq,Prod.mk.injEq]at he
    obtain⟨rfl,rfl⟩:=he
    exact⟨o, .skip h1 q1,q2⟩
end
end Go.Proofs.YtecngjbpbnfegaaGreatDoor
end
section
namespace Go.Proofs.YtecngjbpbnfegaaGreatDoor
open Go.RowKit
section
variable {P:Program} {c:Cx} {n:Nat} {a:Act} {τ:St}
theorem zn1 (h:Rel c n (zaK τ) (zat τ.hp) a) {w0:World} {ms0:List PM} {vs0:List Value} (hpin: ∀t,c.A.pin t=zl1 ms0 vs0 t): ∀(ts:List TypeId) (i:Nat) {ms:List PM} {vs:List Value} {xs:List AV} {rf hs:List Nat} {bx:List E} {us:List Nat},zp8 P τ i ts ms=some (bx,us)→zhp P w0 ts ms vs xs rf hs→
  (∀k,ms[k]?=ms0[i+k]?)→(∀k,vs[k]?=vs0[i+k]?)→ ∃f o,zd5 P c.w ts ms vs (bx.map (E.den c.ρ)) f o∧o=us.flatMap (fun t=>(c.G t).top)∧ ∀b∈f,c.see (zud P τ i ts ms) b
 | [],i,ms,vs,xs,rf,hs,bx,us,he,ha,_,_=>by
  simp [zp8]at he;obtain⟨rfl,rfl⟩:=he
  exact⟨[], [], .nil,rfl,by simp⟩
 |t::ts,i,ms,vs,xs,rf,hs,bx,us,he,ha,hms,hvs=>by
  cases ha with
  | @cons _ _ _ v vs x xs f hh rf hs harg hrest=>
  have hm0:ms.headD .ro=(ms0[i]?).getD .ro:=by
   have:=hms 0
   rw [Nat.add_zero]at this
   rw [←this]
   cases ms<;>rfl
  have hv0:vs0[i]?=some v:=by have:=hvs 0;simpa using this.symm
  unfold zp8 at he
  split at he
  ·cases he
  rename_i bx' us' hrec
  obtain⟨f2,o2,b1,b2,b3⟩:=zn1 h hpin ts (i+1) hrec hrest (fun k=>by rw [show i+1+k=i+(k+1)from by omega,←hms (k+1)];cases ms<;>simp) (fun k=>by rw [show i+1+k=i+(k+1)from by omega,←hvs (k+1)];simp)
  have see2: ∀b∈f2,c.see (zud P τ i (t::ts) ms) b:=fun b hb=>(b3 b hb).mono fun t ht=>by simp only [zud,List.mem_append];exact .inr ht
  split at he
  ·cases he
  rename_i hi
  split at he
  ·rename_i hm
   simp only [Option.some.injEq,Prod.mk.injEq]at he
   obtain⟨rfl,rfl⟩:=he
   exact⟨f2,o2, .ro hm b1,b2,see2⟩
  ·rename_i own hm
   simp only [Option.some.injEq,Prod.mk.injEq]at he
   obtain⟨rfl,rfl⟩:=he
   exact⟨f2,o2, .va hm b1,b2,see2⟩
  ·rename_i own hm
   split at he
   ·cases he
   rename_i hle
   split at he
   ·rename_i es l hmu
    simp only [Option.some.injEq,Prod.mk.injEq]at he
    obtain⟨rfl,rfl⟩:=he
    rw [hm]at harg
    obtain⟨us0,ys0,hg,hc⟩:=harg
    obtain⟨o1,q1,q2⟩:=znk h hpin (i:=i) (by omega) hv0 (by rw [←hm0];exact hm) (zaz P t) 0 hc (by omega) (fun k u hu he=>by
     rw [Nat.zero_add]
     split at hg
     ·obtain⟨rfl,_,_⟩:=hg
      simpa [Value.cells]using hu
     ·obtain⟨rfl,_⟩:=hg
      cases k with
      |zero=>
       simp at hu;subst hu
       rw [hc.own_one (nx:=0) (mk:=zfS (.var 0) true) (j:=0) 0 v rfl he];rfl
      |succ k=>simp at hu) hmu
    refine⟨[]++f2,o1++o2,zd5.mu (us:=us0) (ys:=es.map (E.den c.ρ)) hm ?_ q1 b1,by rw [q2,b2,List.flatMap_append],see2⟩
    split at hg
    ·rename_i hag
     rw [if_pos hag,if_pos hag]
     exact⟨hg.1,by simp only [E.den,EL.den_of]⟩
    ·rename_i hag
     rw [if_neg hag,if_neg hag]
     obtain⟨rfl,_⟩:=hg
     refine⟨rfl, ?_⟩
     have mlen: ∀{ts:List TypeId} {fl:List Bool} {us:List Value} {ys:List AV} {o:List Nat},MuC P c.w ts fl us ys o→us.length=ys.length:=by
      intro ts fl us ys o hmc
      induction hmc<;>simp_all
     have:=mlen q1
     match es,this with
     | [e],_=>rfl
   ·cases he
  ·rename_i own own' hm
   rw [hm]at harg
   obtain⟨ty,b,C0,ys0,h9,g1,rfl,g3,g4,rfl,g6,rfl⟩:=harg
   split at he
   ·rename_i ty1 ty2 g cs hpt hbox
    rw [g1]at hpt;cases hpt
    split at he
    ·cases he
    rename_i hne
    have hne:ty2=ty:=by simpa using hne
    subst hne
    split at he
    ·rename_i es vs' hes hvs'
     simp only [Option.some.injEq,Prod.mk.injEq]at he
     obtain⟨rfl,rfl⟩:=he
     obtain⟨b',C,p1,p2,p3,p4,p5,p6,p7⟩:=h.ents _ _ (by rw [hbox];rfl)
     have hpu:c.A.pin (1000*i)=some (.pointer (some ⟨b,0,none⟩)):=by
      rw [hpin]
      unfold zl1
      have e1:(1000*i)/1000=i:=by omega
      have e2:(1000*i) % 1000=0:=by omega
      rw [if_pos (by unfold ztQ;simp only [e2,Bool.and_eq_true,decide_eq_true_eq,Bool.or_eq_true];simp;omega),e1,e2,hv0,←hm0,hm]
      rfl
     have hH:=(h.base.pins _ _ hpu).2 p1
     rw [p2]at hH
     cases hH
     obtain⟨f1,q1,q2⟩:=ziW (P:=P) h (zaz P ty2) hvs' p7 hes (Nat.le_refl _)
     refine⟨f1++f2,_,zd5.bx hm g1 rfl p5 p6 (by simp only [E.den]) q1 b1,by rw [b2];simp [p3],fun x hx=> ?_⟩
     rcases List.mem_append.1 hx with hx|hx
     ·refine(q2 x hx).mono fun t ht=> ?_
      simp only [zud,hm,g1,hbox,List.mem_append]
      exact .inl ht
     ·exact see2 x hx
    ·cases he
   ·cases he
end
theorem zlG {P:Program}: ∀(ts:List TypeId) (i:Nat) (ms:List PM) (ss:List SV) (l:List (Nat × Ent)),zh5 P i ts ms=some (ss,l)→ ∀t x,(t,x)∈l→ ∀gs f,x≠ .gd gs f
 | [],i,ms,ss,l,h,t,x,hx=>by simp [zh5]at h;obtain⟨_,rfl⟩:=h;simp at hx
 |t0::ts,i,ms,ss,l,h,t,x,hx=>by
  unfold zh5 at h
  split at h
  ·rename_i s1 l1 ss1 l2 q1 q2
   simp only [Option.some.injEq,Prod.mk.injEq]at h
   obtain⟨_,rfl⟩:=h
   rcases List.mem_append.1 hx with hx|hx
   ·have hV: ∀(b:Nat) (own:List Bool),zrz P i b t0 own=some (s1,l1)→ ∀gs f,x≠ .gd gs f:=by
     intro b own hh
     unfold zrz at hh
     simp only at hh
     split at hh
     ·cases hh
     ·split at hh
      ·simp only [Option.some.injEq,Prod.mk.injEq]at hh
       obtain⟨_,rfl⟩:=hh
       intro gs f;exact zei _ _ _ _ _ hx
      ·split at hh
       ·simp only [Option.some.injEq,Prod.mk.injEq]at hh
        obtain⟨_,rfl⟩:=hh
        intro gs f;exact zei _ _ _ _ _ hx
       ·cases hh
    unfold zvf at q1
    split at q1
    ·simp only [Option.some.injEq,Prod.mk.injEq]at q1;rw [←q1.2]at hx;simp at hx
    ·exact hV _ _ q1
    ·exact hV _ _ q1
    ·split at q1
     ·simp only at q1
      split at q1
      ·cases q1
      ·simp only [Option.some.injEq,Prod.mk.injEq]at q1
       obtain⟨_,rfl⟩:=q1
       rcases List.mem_cons.1 hx with hx|hx
       ·cases hx;simp
       ·intro gs f;exact zei _ _ _ _ _ hx
     ·cases q1
   ·exact zlG _ _ _ _ _ q2 t x hx
  ·cases h
theorem zxX {P:Program} {sg:SgT} (hmx:P.follows .mixedOrders=true) (hsg: ∀f s,sg f=some s→f<1000000) {f:Nat} {s:Sig} {fn:Func} {t:Tr} {xs:List AV} {r:AV} (hfn:P.funcs[f]?=some fn) (hs:sg f=some s) (hname:(fn.name== "runtime.NumGoroutine")=false)
  (hcomp:zbj P sg f=some t) (hflat:znw P fn s r=true) (hlen:xs.length=fn.params.size+fn.nfree) (hd:t.den (Rts P sg) (fun r'=>r'=r) (fun _ _ _ _=>False) [] xs):Ret P s f xs r:=by
 unfold zbj at hcomp
 simp only [hfn,hs]at hcomp
 split at hcomp
 ·rename_i code σ hbody hent
  split at hcomp
  ·rename_i t0 hex
   refine⟨fn,hfn,by rw [hbody];rfl,hname,hflat,hlen,fun w vs rf hs' hargs hdis hnod=> ?_⟩
   unfold zwJ at hent
   split at hent
   ·cases hent
   rename_i ss l hall
   simp only at hent
   split at hent
   ·cases hent
   rename_i hcond
   simp only [Bool.or_eq_true,decide_eq_true_eq,not_or,Nat.not_lt]at hcond
   simp only [Option.some.injEq]at hent;subst hent
   let pin:Nat→Option Value:=zl1 s.modes vs
   let c0:Cx:={ρ:=xs,w:=w,G:=fun _=>⟨[], []⟩,K:=fun _ _=>False,H:=fun _ _=>undef,A:=⟨fun b=>b∈rf,pin⟩,w0:=w,Mu:=fun b=>b∈hs',U:=fun _=>False,E:=fun _=>0}
   have hvl:vs.length=xs.length:=by
    have: ∀{ts:List TypeId} {ms:List PM} {vs:List Value} {xs:List AV} {rf hs:List Nat},zhp P w ts ms vs xs rf hs→vs.length=xs.length:=by
     intro ts ms vs xs rf hs h
     induction h<;>simp_all
    exact this hargs
   obtain⟨recs,e1,e2,e3,e4,e5,e6,e7,e8⟩:=zrx (c:=c0) (ms0:=s.modes) (vs0:=vs) fn.params.toList 0 hall hargs (fun k x hx=>by simp only [E.den,Nat.zero_add];show(xs[k]?).getD .undef=x;rw [hx];rfl) (fun k=>by simp) (fun k=>by simp)
   have aft:=Cx.chg_aft (c:=c0) (w':=w) (recs:=recs) (fun t g hk=>hk.elim) e4 (fun r _ _ h=>h)
   have hU5: ∀r∈recs,r.tag<100000:=fun r hr=>by
    have:=e3 r hr
    simp only [Nat.zero_add,Array.length_toList]at this
    omega
   let c:Cx:={c0.chg w recs with U:=fun t=>t<100000}
   have hc_ok: ∀b∈rf,(c0.chg w recs).ok b:=by
    intro b hb
    refine⟨fun⟨t,ht⟩=> ?_, .inl hb⟩
    by_cases hT: ∃r∈recs,r.tag=t
    ·obtain⟨r,hr,rfl⟩:=hT
     rw [Cx.chg_G e4 hr]at ht
     exact hdis b (by rw [←e2];exact List.mem_flatMap.2 ⟨r,hr,ht⟩) hb
    ·rw [Cx.chg_G' fun r hr hh=>hT ⟨r,hr,hh⟩]at ht
     simp [c0]at ht
   obtain⟨g1,g2⟩:=e8 _ aft hc_ok
   have kc:zm4 (c0.chg w recs) c:=⟨rfl,fun _ _ hb=>hb,fun _ _ _=>rfl,fun _ _ hk=>⟨hk,rfl⟩,fun _ _ _=>⟨Nat.le_refl _,fun _=>⟨rfl,fun _ _ _=>rfl⟩⟩⟩
   have hfr:fn.params.size+fn.nfree=vs.length:=by rw [hvl,hlen]
   have hss:(ss++(List.range fn.nfree).map fun j=>SV.e (.var (fn.params.size+j))).length=vs.length:=by
    rw [List.length_append,e6,List.length_map,List.length_range,Array.length_toList];exact hfr
   have g1':SR c (ss++(List.range fn.nfree).map fun j=>SV.e (.var (fn.params.size+j))) vs:=by
    have:=g1.keep kc
    have hpl:fn.params.toList.length=fn.params.size:=Array.length_toList
    rw [show vs.length-fn.params.toList.length=fn.nfree from by omega]at this
    simpa using this
   have hG: ∀t,(∃r∈recs,r.tag=t∧c.G t=⟨r.top, []⟩)∨c.G t=⟨[], []⟩:=fun t=>by
    by_cases hT: ∃r∈recs,r.tag=t
    ·obtain⟨r,hr,rfl⟩:=hT
     exact .inl ⟨r,hr,rfl,Cx.chg_G (w':=w) e4 hr⟩
    ·exact .inr (Cx.chg_G' (w':=w) fun r hr hh=>hT ⟨r,hr,hh⟩)
   have hhs: ∀r∈recs,∀b∈r.top,b∈hs':=fun r hr b hb=>by rw [←e2];exact List.mem_flatMap.2 ⟨r,hr,hb⟩
   have hinb: ∀b∈hs',b<w.heap.size:=by
    have: ∀{ts:List TypeId} {ms:List PM} {vs:List Value} {xs:List AV} {rf hs:List Nat},zhp P w ts ms vs xs rf hs→ ∀b∈hs,b<w.heap.size:=by
     intro ts ms vs xs rf hs h
     induction h with
     |nil=>simp
     | @cons t ts ms v vs x xs f h rf hs harg _ ih=>
      intro b hb
      rcases List.mem_append.1 hb with hb|hb
      ·cases hm:ms.headD .ro with
       |ro=>rw [hm]at harg;rw [harg.2]at hb;simp at hb
       |va own=>rw [hm]at harg;obtain⟨_,_,_,hc⟩:=harg;exact hc.inb.2 b hb
       |mu own=>rw [hm]at harg;obtain⟨_,_,_,hc⟩:=harg;exact hc.inb.2 b hb
       |bx own own'=>
        rw [hm]at harg
        obtain⟨_,b0,_,_,_,_,_,hh,_,_,hc,rfl⟩:=harg
        rcases List.mem_cons.1 hb with rfl|hb
        ·exact zcn hh
        ·exact hc.inb.2 b hb
      ·exact ih b hb
     |free _ _ ih=>exact ih
    exact this hargs
   have hrecs: ∀t e,zat l t=some e→ ∃r∈recs,r.tag=t∧r.ent=e:=fun t e he=>by
    have:=zen he
    rw [e1]at this
    obtain⟨r,hr,hre⟩:=List.mem_map.1 this
    simp only [Chg.pair,Prod.mk.injEq]at hre
    exact⟨r,hr,hre.1,hre.2⟩
   let F:Fix:=⟨w,⟨fun b=>b∈rf,pin⟩,fun b=>b∈hs',fun t v h=>by
    simp only [pin,zl1]at h
    split at h
    ·assumption
    ·cases h⟩
   have hrel:Rel c fn.ntmps (zaK {sl:=ss++(List.range fn.nfree).map (fun j=>SV.e (.var (fn.params.size+j)))++List.replicate (fn.ntmps-(fn.params.size+fn.nfree)) .undef,hp:=l,nx:=100000,nv:=fn.params.size+fn.nfree}) (zat l) {tmps:=vs.toArray++Array.replicate (fn.ntmps-vs.toArray.size) undef,defers:= []}:=by
    refine⟨rfl,by simp;omega,⟨rfl,rfl,rfl,Nat.le_refl _,fun t v hp=>⟨?_,fun hk=> ?_⟩,fun b _ _=>rfl⟩,fun i=> ?_,fun t e hr=> ?_,fun t hn=> ?_,⟨fun t=> ?_,fun t u htu b hb hb'=> ?_,fun t b hb=> ?_,fun t b hb=> ?_⟩,fun t g hk=> ?_,fun t e he=> ?_⟩
    ·have:=F.pinOK t v hp
     unfold ztQ at this
     simp only [Bool.and_eq_true,decide_eq_true_eq]at this
     exact this.1
    ·rcases hk with hk|⟨r,hr,rfl,hnew,_⟩
     ·exact hk.elim
     ·exact(aft.new r hr v (e5 r hr v hp)).2.2
    ·have hcat:SR c (ss++(List.range fn.nfree).map (fun j=>SV.e (.var (fn.params.size+j)))++List.replicate (fn.ntmps-(fn.params.size+fn.nfree)) .undef) (vs++List.replicate (fn.ntmps-(fn.params.size+fn.nfree)) undef):=by
      refine g1'.app ?_
      have: ∀k,SR c (List.replicate k SV.undef) (List.replicate k undef):=by
       intro k
       induction k with
       |zero=>exact .nil
       |succ k ih=>exact .undef ih
      exact this _
     unfold zaK
     simp only
     cases hq:(ss++(List.range fn.nfree).map (fun j=>SV.e (.var (fn.params.size+j)))++List.replicate (fn.ntmps-(fn.params.size+fn.nfree)) SV.undef)[i]? with
     |none=>exact .undef .nil
     |some s'=>
      obtain⟨v',hv',hsr⟩:=hcat.get hq
      have:(vs.toArray++Array.replicate (fn.ntmps-vs.toArray.size) undef).getD i undef=v':=by
       rw [Array.getD_eq_getD_getElem?]
       have e:(vs.toArray++Array.replicate (fn.ntmps-vs.toArray.size) undef)[i]?=(vs++List.replicate (fn.ntmps-(fn.params.size+fn.nfree)) undef)[i]?:=by
        rw [←Array.getElem?_toList]
        simp [hfr]
       rw [e,hv'];rfl
      rw [this];exact hsr
    ·cases hh:zat l t with
     |none=>rw [hh]at hr;exact hr.elim
     |some e0=>
      obtain⟨r,hr',rfl,rfl⟩:=hrecs t e0 hh
      have hent:=(g2 r hr').keep kc rfl rfl (fun g hg=>hg) (fun b _=>rfl)
      rw [hh]at hr
      cases he:r.ent with
      |gd gs e'=>
       rw [he]at hent hr
       obtain⟨_,rfl⟩:=hr
       have hnew:=(e3 r hr').2.2
       exfalso
       exact zlG _ _ _ _ _ hall r.tag r.ent (by rw [e1];exact List.mem_map.2 ⟨r,hr',rfl⟩) _ _ he
      |_=>rw [he]at hent hr;simp only [Res]at hr;subst hr;exact hent
    ·rcases hG t with⟨r,hr,rfl,hg⟩|hg
     ·exfalso
      have hmem:(r.tag,r.ent)∈l:=by rw [e1];exact List.mem_map.2 ⟨r,hr,rfl⟩
      have: ∃e,zat l r.tag=some e:=by
       have: ∀(l:List (Nat × Ent)),(r.tag,r.ent)∈l→ ∃e,zat l r.tag=some e:=by
        intro l
        induction l with
        |nil=>intro h;simp at h
        |cons p l ih=>
         obtain⟨u,f'⟩:=p
         intro h
         simp only [zat]
         split
         ·exact⟨_,rfl⟩
         ·rename_i hu
          rcases List.mem_cons.1 h with h|h
          ·cases h;exact absurd rfl hu
          ·exact ih h
       exact this l hmem
      obtain⟨e,he⟩:=this
      obtain⟨r',hr',ht',rfl⟩:=hrecs _ _ he
      have hgd: ∀gs f',r'.ent≠ .gd gs f':=by
       intro gs f' hg'
       exact zlG _ _ _ _ _ hall r'.tag r'.ent (by rw [e1];exact List.mem_map.2 ⟨r',hr',rfl⟩) _ _ hg'
      apply hn r'.ent
      rw [he]
      cases hr'':r'.ent with
      |gd gs f'=>exact absurd hr'' (hgd gs f')
      |_=>simp [Res]
     ·rw [hg];simp
    ·rcases hG t with⟨r,hr,rfl,hg⟩|hg
     ·rw [hg]
      rw [←e2]at hnod
      simpa [GI.own]using(zis hnod).1 r hr
     ·rw [hg];simp [GI.own]
    ·rcases hG t with⟨r,hr,rfl,hg⟩|hg
     ·rcases hG u with⟨q,hq,rfl,hg'⟩|hg'
      ·rw [hg]at hb
       rw [hg']at hb'
       simp only [GI.own,List.append_nil]at hb hb'
       rw [←e2]at hnod
       obtain⟨i,hi⟩:=List.getElem?_of_mem hr
       obtain⟨j,hj⟩:=List.getElem?_of_mem hq
       have:=(zis hnod).2 i j r q b hi hj hb hb'
       subst this
       rw [hi]at hj;cases hj;exact htu rfl
      ·rw [hg']at hb';simp [GI.own]at hb'
     ·rw [hg]at hb;simp [GI.own]at hb
    ·rcases hG t with⟨r,hr,rfl,hg⟩|hg
     ·rw [hg]at hb
      simp only [GI.own,List.append_nil]at hb
      exact .inr (hhs r hr b hb)
     ·rw [hg]at hb;simp [GI.own]at hb
    ·rcases hG t with⟨r,hr,rfl,hg⟩|hg
     ·rw [hg]at hb
      simp only [GI.own,List.append_nil]at hb
      exact hinb b (hhs r hr b hb)
     ·rw [hg]at hb;simp [GI.own]at hb
    ·rcases hk with hk|⟨r,hr,rfl,_⟩
     ·exact hk.elim
     ·exact hU5 r hr
    ·obtain⟨r,hr,rfl,_⟩:=hrecs t e he
     exact hU5 r hr
   have hRelS:zvt F xs {sl:=ss++(List.range fn.nfree).map (fun j=>SV.e (.var (fn.params.size+j)))++List.replicate (fn.ntmps-(fn.params.size+fn.nfree)) .undef,hp:=l,nx:=100000,nv:=fn.params.size+fn.nfree} {tmps:=vs.toArray++Array.replicate (fn.ntmps-vs.toArray.size) undef,defers:= []} w:=by
    refine⟨c,rfl,rfl,rfl,rfl,rfl,hlen,fun t ht=>ht, ?_⟩
    have hl:(ss++(List.range fn.nfree).map (fun j=>SV.e (.var (fn.params.size+j)))++List.replicate (fn.ntmps-(fn.params.size+fn.nfree)) SV.undef).length=fn.ntmps:=by
     rw [List.length_append,hss,List.length_replicate];omega
    show Rel c (ss++(List.range fn.nfree).map (fun j=>SV.e (.var (fn.params.size+j)))++List.replicate (fn.ntmps-(fn.params.size+fn.nfree)) SV.undef).length _ _ _
    rw [hl];exact hrel
   refine calls_of_wp hfn hbody ?_
   have hL0:zoq (fun _ _ _ _=>False):=fun _ _ _ _ _ _ h=>h
   have hd0:=Tr.sub_den _ hL0 t0 hcomp hd
   refine zvI (zwA hmx (zBG (sg:={sg with dp:=s.dp,wn:=s.wn}) hsg) zAu) zxN code [] _ _ t0 hex F (fun r'=>r'=r) _ [] xs _ w (zj1 hL0 _ _) hd0 hRelS _ fun i x τ ρ' a' w' hp hl hrel'=> ?_
   obtain⟨tr,d',q1,q2,q3⟩:=hl
   have main:zyl P fn s τ=some tr→a'.defers= []∧ ∃v,(results fn a'.tmps).run P w'= .ok v w'∧ ∃v',Ending.returned v= .returned v'∧zB5 P fn s w vs rf hs' r v' w':=by
    intro hend
    obtain⟨c2,rfl,rfl,k1,k2,k3,k4,k5,k6⟩:=hrel'
    unfold zyl at hend
    split at hend
    ·rename_i rs bx us hrs hbk
     split at hend
     ·rename_i es vs' hes hov
      split at hend
      ·cases hend
      rename_i hchk
      simp only [Bool.or_eq_true,Bool.not_eq_true',not_or,Bool.not_eq_false,Bool.not_eq_true]at hchk
      obtain⟨hnd,hap⟩:=hchk
      have hnd:=zik hnd
      simp only [Option.some.injEq]at hend;subst hend
      have hr:_=r:=q3
      obtain⟨rvs,z1,z2,z3⟩:=ztF k6 fn hrs
      obtain⟨f1,y1,y2⟩:=znH (P:=P) k6 fn.resultTypes.toList hov z1 hes (Nat.le_refl _)
      obtain⟨f2,o2,x1,x2,x3⟩:=zn1 (P:=P) k6 (w0:=w) (ms0:=s.modes) (vs0:=vs) (fun t=>by rw [k2]) fn.params.toList 0 hbk hargs (fun k=>by simp) (fun k=>by simp)
      refine⟨k6.defers,_,z3,_,rfl,⟨?_, ?_⟩⟩
      ·
       have hR: ∃R,R=(match es with| .cons x .nil=>x|es=>E.tup es).den c2.ρ∧zxL P c2.w fn.resultTypes.toList s.res (match rvs with| [u]=>u|us=> .tuple us.toArray) R f1 (vs'.flatMap fun t=>(c2.G t).top):=by
        refine⟨_,rfl, ?_⟩
        have yl:es.den c2.ρ=es.den c2.ρ:=rfl
        generalize hts:fn.resultTypes.toList=ts at y1 ⊢
        generalize hxs:es.den c2.ρ=ys at y1
        generalize (vs'.flatMap fun t=>(c2.G t).top)=o1 at y1 ⊢
        cases y1 with
        |nil=>
         cases es with
         |nil=>exact⟨[], [],rfl,by simp [E.den,EL.den], .nil⟩
         |cons e es=>simp [EL.den]at hxs
        | @cons t ts fl v vs2 x xs2 f h rf2 hs2 w1 w2=>
         cases w2 with
         |nil=>
          cases es with
          |nil=>simp [EL.den]at hxs
          |cons e es=>
           cases es with
           |nil=>
            simp only [EL.den,List.cons.injEq,and_true]at hxs
            subst hxs
            simpa [zxL]using w1
           |cons e2 es=>simp [EL.den]at hxs
         | @cons t2 ts2 fl2 v2 vs3 x2 xs3 f2' h2 rf3 hs3 w3 w4=>
          cases es with
          |nil=>simp [EL.den]at hxs
          |cons e es=>
           cases es with
           |nil=>simp [EL.den]at hxs
           |cons e2 es=>
            refine⟨v::v2::vs3,x::x2::xs3,rfl, ?_, .cons w1 (.cons w3 w4)⟩
            simp only [E.den,hxs]
       obtain⟨R,hR1,hR2⟩:=hR
       have hown: ∀b∈(vs'.flatMap fun t=>(c2.G t).top)++o2,∃t∈vs'++us,b∈(c2.G t).top:=fun b hb=>by
        rcases List.mem_append.1 hb with hb|hb
        ·obtain⟨t,ht,hbt⟩:=List.mem_flatMap.1 hb;exact⟨t,by simp [ht],hbt⟩
        ·rw [x2]at hb
         obtain⟨t,ht,hbt⟩:=List.mem_flatMap.1 hb;exact⟨t,by simp [ht],hbt⟩
       have hallow: ∀b t,b∈(c2.G t).top→b∈hs'∨w.heap.size≤b:=fun b t hb=>by
        rcases k6.gw.allow t b (by simp [GI.own,hb])with h|h
        ·simp only [Cx.B,k1]at h;exact .inr h
        ·rw [k3]at h;exact .inl h
       refine⟨R,bx.map (E.den c2.ρ),f1,_,f2,o2, ?_,hR2,x1, ?_,fun b hb=> ?_,fun b hb=> ?_⟩
       ·rw [←hr,hR1]
        cases bx with
        |nil=>rfl
        |cons b bx=>
         simp only [List.isEmpty_cons,Bool.false_eq_true,if_false,E.den,EL.den_of,List.map_cons]
         rfl
       ·rw [x2,←List.flatMap_append]
        have: ∀l:List Nat,l.Nodup→(l.flatMap fun t=>(c2.G t).top).Nodup:=by
         intro l
         induction l with
         |nil=>intro _;simp
         |cons t l ih=>
          intro hl
          rw [List.nodup_cons]at hl
          rw [List.flatMap_cons,List.nodup_append]
          refine⟨(List.nodup_append.1 (k6.gw.nodup t)).1,ih hl.2,fun x hx y hy hxy=> ?_⟩
          subst hxy
          obtain⟨u,hu,hxu⟩:=List.mem_flatMap.1 hy
          exact k6.gw.disj t u (fun hh=>hl.1 (hh▸hu)) x (by simp [GI.own,hx]) (by simp [GI.own,hxu])
        exact this _ hnd
       ·obtain⟨t,ht,hbt⟩:=hown b hb
        exact⟨hallow b t hbt,k6.gw.inb t b (by simp [GI.own,hbt])⟩
       ·have hsee:c2.see (ztn P τ fn.resultTypes.toList s.res rs++zud P τ 0 fn.params.toList s.modes) b:=by
         rcases List.mem_append.1 hb with hb|hb
         ·exact(y2 b hb).mono fun t ht=>by simp [ht]
         ·exact(x3 b hb).mono fun t ht=>by simp [ht]
        rcases hsee with hok|⟨t,ht,hbt⟩
        ·refine⟨fun ho=> ?_, ?_⟩
         ·obtain⟨u,_,hbu⟩:=hown b ho
          exact hok.1 ⟨u,hbu⟩
         ·rcases hok.2 with h|h|h
          ·rw [k2]at h;exact .inl h
          ·simp only [Cx.B,k1]at h;exact .inr (.inr h)
          ·rw [k3]at h;exact .inr (.inl h)
        ·refine⟨fun ho=> ?_, .inr (hallow b t hbt)⟩
         obtain⟨u,hu,hbu⟩:=hown b ho
         have htu:t≠u:=by
          rintro rfl
          rw [List.any_eq_false]at hap
          have:=hap t ht
          simp only [List.contains_eq_mem,decide_eq_true_eq]at this
          exact this hu
         exact k6.gw.disj t u htu b (by simp [GI.own,hbt]) (by simp [GI.own,hbu])
      ·have hb:=k6.base
       refine⟨?_, ?_, ?_, ?_,fun k hk hn=> ?_⟩
       ·rw [hb.os,k1]
       ·rw [hb.tape,k1]
       ·rw [hb.output,k1]
       ·have:=hb.size;rw [k1]at this;exact this
       ·have:=hb.block k (by rw [k1];exact hk) (by rw [k3];exact hn)
        rw [k1]at this;exact this
     ·cases hend
    ·cases hend
   cases x with
   |normal=>exact main q1
   |ret=>exact main q1
   |exit id=>cases q1
  ·cases hcomp
 ·cases hcomp
end Go.Proofs.YtecngjbpbnfegaaGreatDoor
end

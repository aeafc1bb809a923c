/- Parts of a proof, joined: WG, WH, WI, WJ, WK, WL, WM, WN, WO, WP, WQ, WR, WRa, WRb. -/
import Derived.Test.YtecngjbpbnfegaaGreatDoorK3
import Derived.Lib.SliceRun
import Derived.Laws.Slices
import Derived.Laws.MakeOwn
import Derived.Laws.StructEq
section
namespace Go.Proofs.YtecngjbpbnfegaaGreatDoor
open Go.RowKit
theorem zs5 {α:Type} {p p':α→Bool}: ∀(l:List α),(∀k∈l,p' k=true→p k=true)→(∃j∈l,p j=true∧p' j=false)→(l.filter p').length<(l.filter p).length
 | [],_,h=>by obtain⟨j,hj,_⟩:=h;simp at hj
 |x::l,hs,h=>by
  have hle:(l.filter p').length≤(l.filter p).length:=by
   have: ∀(l:List α),(∀k∈l,p' k=true→p k=true)→(l.filter p').length≤(l.filter p).length:=by
    intro l
    induction l with
    |nil=>intro _;simp
    |cons y l ih=>
     intro h
     have:=ih fun k hk=>h k (by simp [hk])
     have hy:=h y (by simp)
     cases h1:p' y with
     |false=>
      cases h2:p y with
      |false=>simpa [h1,h2]using this
      |true=>simp only [List.filter_cons,h1,h2,Bool.false_eq_true,if_false,if_true,List.length_cons];omega
     |true=>simpa [h1,hy h1]using this
   exact this l fun k hk=>hs k (by simp [hk])
  obtain⟨j,hj,h1,h2⟩:=h
  rcases List.mem_cons.1 hj with rfl|hj
  ·simp only [List.filter_cons,h1,h2,Bool.false_eq_true,if_false,if_true,List.length_cons];omega
  ·have:=zs5 l (fun k hk=>hs k (by simp [hk])) ⟨j,hj,h1,h2⟩
   have hx:=hs x (by simp)
   cases h3:p' x with
   |false=>
    cases h4:p x with
    |false=>simpa [h3,h4]using this
    |true=>simp only [List.filter_cons,h3,h4,Bool.false_eq_true,if_false,if_true,List.length_cons];omega
   |true=>simpa [h3,hx h3]using this
section
variable {ops:Array Oper} {listed:Array Bool}
theorem zxs (hb: ∀j o,ops[j]?=some o→ ∀e∈o.after.toList,Region.binds .any e=true→e.on<j) (hsz:listed.size=ops.size) (hr:Region.ready .any ops listed= []): ∀k,k<ops.size→listed.getD k true=true:=by
 intro k
 induction k using Nat.strongRecOn with
 |_ k ih=>
  intro hk
  cases hs:listed.getD k true with
  |true=>rfl
  |false=>
   have:k∈Region.ready .any ops listed:=mem_ready.2 ⟨hs,ops[k],by simp [hk],fun e he hbi=>by
    have hlt:=hb k ops[k] (by simp [hk]) e (by simpa using he) hbi
    have:=ih e.on hlt (by omega)
    have h2:e.on<listed.size:=by omega
    simp only [Array.getD_eq_getD_getElem?,Array.getElem?_eq_getElem h2,Option.getD_some]at this ⊢
    exact this⟩
   rw [hr]at this;cases this
theorem zx5 (hsz:listed.size=ops.size) {j:Nat} (hj:j<ops.size) (k:Nat):(listed.setIfInBounds j true).getD k true=(decide (k=j)||listed.getD k true):=by
 by_cases h:j=k
 ·subst h
  simp [Array.getD_eq_getD_getElem?,show j<listed.size by omega]
 ·rw [getD_set_ne true h];simp [Ne.symm h]
variable {P:Program} {sg:SgT} {Rt:Nat→List AV→AV→Prop}
theorem zxz (hop:zAf P sg Rt) {F:Fix} {σ σ':St} {xs:List Rec} {ρ:List AV} {lg:List Log} {n:Nat} {Q:Exit→Act→World→Prop} (hc:zgV 0 σ xs σ') (hlen:xs.length=ops.size) (hok: ∀x∈xs,zA4 P sg Rt ops σ.nx ρ x) (hdr:zuF ops lg=true) (hlog: ∀x∈xs,∀y,x.log=some y→y∈lg) (hn:σ.sl.length=n)
  (hQ: ∀(c:Cx) (a:Act),c.ρ=ρ→c.w0=F.w0→c.A=F.A→c.Mu=F.Mu→(∀t,c.U t→t<σ.nx+zao*ops.size)→Rel c n (zaK σ') (zat σ'.hp) a→Q .normal a c.w):
  ∀(fuel:Nat) (listed:Array Bool) (a:Act) (c:Cx),listed.size=ops.size→zs9 ops (fun k=>listed.getD k true)→c.ρ=ρ→c.w0=F.w0→c.A=F.A→c.Mu=F.Mu→
   (∀t,c.U t→t<σ.nx∨ ∃k,k<ops.size∧listed.getD k true=true∧σ.nx+zao*k≤t∧t<σ.nx+zao*k+zao)→Rel c n (slF n (zaK σ) xs fun k=>listed.getD k true) (hpF (zat σ.hp) xs fun k=>listed.getD k true) a→
   ((List.range ops.size).filter fun k=> !listed.getD k true).length≤fuel→wpAny P .any ops Q fuel listed a c.w:=by
 simp only [zuF,Bool.and_eq_true,List.all_eq_true,Bool.or_eq_true,beq_iff_eq,Bool.not_eq_true',decide_eq_true_eq]at hdr
 obtain⟨⟨d1,d2⟩,d3⟩:=hdr
 have hmz: ∀j o,ops[j]?=some o→(o,j)∈ops.toList.zipIdx:=fun j o h=>List.mk_mem_zipIdx_iff_getElem?.2 (by simpa using h)
 have hb: ∀j o,ops[j]?=some o→ ∀e∈o.after.toList,Region.binds .any e=true→e.on<j:=fun j o h e he hbi=>by
  rcases d2 (o,j) (hmz j o h) e he with h|h
  ·rw [hbi]at h;cases h
  ·exact h
 obtain⟨c1,c2,c3⟩:=hc.sl hn
 obtain⟨c4,c5⟩:=hc.hp
 have hend: ∀(listed:Array Bool) (a:Act) (c:Cx),listed.size=ops.size→c.ρ=ρ→c.w0=F.w0→c.A=F.A→c.Mu=F.Mu→
   (∀t,c.U t→t<σ.nx∨ ∃k,k<ops.size∧listed.getD k true=true∧σ.nx+zao*k≤t∧t<σ.nx+zao*k+zao)→Rel c n (slF n (zaK σ) xs fun k=>listed.getD k true) (hpF (zat σ.hp) xs fun k=>listed.getD k true) a→
   (∀k,k<ops.size→listed.getD k true=true)→Q .normal a c.w:=by
  intro listed a c hsz h1 h2 h3 h4 h5 h6 hall
  refine hQ c a h1 h2 h3 h4 (fun t ht=> ?_) ?_
  ·rcases h5 t ht with h|⟨k,hk,_,_,h⟩
   ·simp only [zao]at*;omega
   ·simp only [zao]at*;omega
  ·have e1:(slF n (zaK σ) xs fun k=>listed.getD k true)=zaK σ':=by
    rw [c3];funext d
    exact zjQ xs rfl fun x hx _=>by have:=(hc.range x hx).2;exact hall x.i (by omega)
   have e2:(hpF (zat σ.hp) xs fun k=>listed.getD k true)=zat σ'.hp:=by
    rw [c5];funext d
    exact zjP xs rfl fun x hx _=>by have:=(hc.range x hx).2;exact hall x.i (by omega)
   rw [e1,e2]at h6;exact h6
 intro fuel
 induction fuel with
 |zero=>
  intro listed a c hsz hcl h1 h2 h3 h4 h5 h6 hcnt
  have hall: ∀k,k<ops.size→listed.getD k true=true:=by
   intro k hk
   have:=List.length_eq_zero_iff.1 (Nat.le_zero.1 hcnt)
   have:=List.filter_eq_nil_iff.1 this k (by simpa using hk)
   simpa using this
  refine⟨?_,hend listed a c hsz h1 h2 h3 h4 h5 h6 hall⟩
  refine List.eq_nil_iff_forall_not_mem.2 fun j hj=> ?_
  obtain⟨q1,o,q2,_⟩:=mem_ready.1 hj
  rw [hall j (Array.getElem?_eq_some_iff.1 q2).1]at q1;cases q1
 |succ fuel ih=>
  intro listed a c hsz hcl h1 h2 h3 h4 h5 h6 hcnt
  refine⟨fun hr=>hend listed a c hsz h1 h2 h3 h4 h5 h6 (zxs hb hsz hr),fun j hj=> ?_⟩
  obtain⟨q1,o,q2,q3⟩:=mem_ready.1 hj
  have hjs:j<ops.size:=(Array.getElem?_eq_some_iff.1 q2).1
  have hedge: ∀e∈o.after.toList,Region.binds .any e=true→listed.getD e.on true=true:=fun e he hbi=>by
   have h9:=q3 e (by simpa using he) hbi
   have hlt:=hb j o q2 e he hbi
   have h8:e.on<listed.size:=by omega
   simp only [Array.getD_eq_getD_getElem?,Array.getElem?_eq_getElem h8,Option.getD_some]at h9 ⊢
   exact h9
  obtain⟨y,hy,hyj⟩:=hc.ex j (by omega) (by omega)
  have hyo:y.o=o:=by have:=(hok y hy).1;rw [hyj,q2]at this;exact(Option.some.inj this).symm
  have hxi: ∀x∈xs,x.i<ops.size:=fun x hx=>by have:=(hc.range x hx).2;omega
  have hxo: ∀x∈xs,ops[x.i]?=some x.o:=fun x hx=>(hok x hx).1
  have agree: ∀x∈xs,x.i≠j→ordB (zxJ ops.toList []) x.i j=true→listed.getD x.i true=decide (x.i<j):=fun x hx hne ho=>zxp (S:=fun k=>listed.getD k true) hcl q2 (hxi x hx) q1 hedge hne ho
  have hself: ∀x∈xs,x.i=j→listed.getD x.i true=decide (x.i<j):=fun x hx he=>by rw [he,q1];simp
  have hlook: ∀d,d∈zu4 ops o→zaK y.σ d=slF n (zaK σ) xs (fun k=>listed.getD k true) d:=by
   intro d hd
   rw [(c1 y hy).2 d,hyj]
   refine zjQ xs rfl fun x hx hxd=> ?_
   by_cases he:x.i=j
   ·exact(hself x hx he).symm
   ·rcases d3 (o,j) (hmz j o q2) (x.o,x.i) (hmz _ _ (hxo x hx))with h|h
    ·exact absurd h he
    ·simp only [hxd,Bool.and_eq_true,Bool.or_eq_true,Bool.not_eq_true']at h
     rcases h.2 with h|h
     ·rw [List.contains_iff_mem.2 hd]at h;cases h
     ·exact(agree x hx he h).symm
  have hW: ∀x∈xs,∀t,t∈x.ent.map (·.1)→ ∀ly,y.log=some ly→(t∈ly.R∨t∈ly.W)→listed.getD x.i true=decide (x.i<j):=by
   intro x hx t ht ly hly hm
   by_cases he:x.i=j
   ·exact hself x hx he
   ·cases hxr:x.r with
    |none=>simp [Rec.ent,hxr]at ht
    |some ge=>
     obtain⟨gs,e⟩:=ge
     have hlx:x.log=some ⟨x.i,znq x.σ gs x.o,e.ent.map (·.1)⟩:=by simp [Rec.log,hxr]
     have hly':ly.i=j:=by
      unfold Rec.log at hly
      obtain⟨ge',_,rfl⟩:=Option.map_eq_some_iff.1 hly
      exact hyj
     have h9:=d1 _ (hlog x hx _ hlx) _ (hlog y hy _ hly)
     simp only [hly']at h9
     rcases h9 with(h|h)|h
     ·exact absurd h he
     ·exfalso
      have:zzK (e.ent.map (·.1)) (ly.R++ly.W)=true:=by
       simp only [zzK,List.any_eq_true]
       exact⟨t,by simpa [Rec.ent,hxr]using ht,List.contains_iff_mem.2 (by simpa using hm)⟩
      rw [this]at h;cases h
     ·exact agree x hx he h
  have hnext: ∀k,(listed.setIfInBounds j true).getD k true=(decide (k=j)||listed.getD k true):=zx5 hsz hjs
  have hsl':slF n (zaK σ) xs (fun k=>(listed.setIfInBounds j true).getD k true)=zjh n (slF n (zaK σ) xs fun k=>listed.getD k true) o.dst y.val:=by
   funext d
   unfold zjh
   split
   ·rename_i hd
    refine zyP hd.2 (by rw [hyo];exact hd.1) (by rw [hnext,hyj];simp) xs hy fun x hx hne hxd=> ?_
    have he:x.i≠j:=fun h=>hne (hc.inj x hx y hy (by rw [h,hyj]))
    rcases d3 (o,j) (hmz j o q2) (x.o,x.i) (hmz _ _ (hxo x hx))with h|h
    ·exact he h
    ·simp only [hxd,Bool.and_eq_true,bne_iff_ne,ne_eq]at h
     exact h.1 hd.1
   ·rename_i hd
    by_cases hdn:d<n
    ·refine zjQ xs rfl fun x hx hxd=> ?_
     have he:x.i≠j:=fun h=>by
      have:x=y:=hc.inj x hx y hy (by rw [h,hyj])
      subst this
      exact hd ⟨by rw [←hyo];exact hxd,hdn⟩
     rw [hnext];simp [he]
    ·rw [zw7 (by omega),zw7 (by omega)]
  have hhp':hpF (zat σ.hp) xs (fun k=>(listed.setIfInBounds j true).getD k true)=zeH (hpF (zat σ.hp) xs fun k=>listed.getD k true) y.ent:=by
   funext t
   by_cases ht:t∈y.ent.map (·.1)
   ·refine zze (by rw [hnext,hyj];simp) ht hc hy fun x hx hne hxt=> ?_
    rw [hyj]at hne ⊢
    rw [hnext]
    simp only [hne,decide_false,Bool.false_or]
    cases hyr:y.r with
    |none=>simp [Rec.ent,hyr]at ht
    |some ge=>exact hW x hx t hxt _ (by simp only [Rec.log,hyr,Option.map_some];rfl) (.inr (by simpa [Rec.ent,hyr]using ht))
   ·rw [zsa ht]
    refine zjP xs rfl fun x hx hxt=> ?_
    have he:x.i≠j:=fun h=>by
     have:x=y:=hc.inj x hx y hy (by rw [h,hyj])
     subst this;exact ht hxt
    rw [hnext];simp [he]
  have hcnt':((List.range ops.size).filter fun k=> !(listed.setIfInBounds j true).getD k true).length≤fuel:=by
   have:=zs5 (p:=fun k=> !listed.getD k true) (p':=fun k=> !(listed.setIfInBounds j true).getD k true) (List.range ops.size) (fun k _ hk=>by rw [hnext]at hk;simp at hk ⊢;exact hk.2) ⟨j,by simpa using hjs,by simp [q1],by rw [hnext];simp⟩
   omega
  have hcl':zs9 ops (fun k=>(listed.setIfInBounds j true).getD k true):=by
   intro k ok hk hko e he hbi
   simp only [hnext,Bool.or_eq_true,decide_eq_true_eq]at hk ⊢
   rcases hk with rfl|hk
   ·rw [q2]at hko;cases hko;exact .inr (hedge e he hbi)
   ·exact .inr (hcl k ok hk hko e he hbi)
  have hgoon: ∀(a':Act) (c':Cx),c'.ρ=ρ→c'.w0=F.w0→c'.A=F.A→c'.Mu=F.Mu→(∀t,c'.U t→c.U t∨(σ.nx+zao*j≤t∧t<σ.nx+zao*j+zao))→Rel c' n (zjh n (slF n (zaK σ) xs fun k=>listed.getD k true) o.dst y.val) (zeH (hpF (zat σ.hp) xs fun k=>listed.getD k true) y.ent) a'→
    wpAny P .any ops Q fuel (listed.setIfInBounds j true) a' c'.w:=by
   intro a' c' g1 g2 g3 g4 g5 g6
   refine ih _ a' c' (by simpa using hsz) hcl' g1 g2 g3 g4 (fun t ht=> ?_) (by rw [hsl',hhp'];exact g6) hcnt'
   rcases g5 t ht with h|h
   ·rcases h5 t h with h|⟨k,k1,k2,k3,k4⟩
    ·exact .inl h
    ·exact .inr ⟨k,k1,by rw [hnext,k2];simp,k3,k4⟩
   ·exact .inr ⟨j,hjs,by rw [hnext];simp,h.1,h.2⟩
  have hgt: ∀j' want d,o.guard=some (j',want)→(ops[j']?).bind (·.dst)=some d→SR c [zaK y.σ d] [a.tmps.getD d Go.undef]:=by
   intro j' want d hg hd
   rw [hlook d (by simp only [zu4,hg,List.mem_append];exact .inr (by simp [hd]))]
   exact h6.slots d
  obtain⟨_,hrec⟩:=hok y hy
  cases hyr:y.r with
  |none=>
   rw [hyr]at hrec
   have hgo:=zpi (c:=c) (a:=a) hrec (fun j' want d hg hd=>hgt j' want d (by rw [←hyo];exact hg) hd)
   unfold wpOp
   simp only [q2]
   rw [hyo]at hgo
   rw [if_neg (by simp [show Region.wanted o (yielded ops a.tmps)=false from hgo])]
   have hv:y.val=ztY:=by simp [Rec.val,hyr]
   have he:y.ent= []:=by simp [Rec.ent,hyr]
   refine hgoon _ c h1 h2 h3 h4 (fun t ht=> .inl ht) ?_
   rw [hv,he]
   exact h6.put zr6 o.dst
  |some ge=>
   obtain⟨gs,e⟩:=ge
   rw [hyr]at hrec
   simp only at hrec
   obtain⟨r1,r2,r3,r4,r5,r6⟩:=hrec
   rw [hyo,hyj]at r2
   rw [hyj]at r4
   rw [hyo]at r1
   have hgo:=zpi (c:=c) (a:=a) r1 hgt
   have hv:y.val=mkGd gs e.val:=by simp [Rec.val,hyr]
   have he:y.ent=e.ent:=by simp [Rec.ent,hyr]
   simp only [zue,Bool.and_eq_true,List.all_eq_true]at r4
   obtain⟨_,hs5⟩:=r4
   have hly:y.log=some ⟨y.i,znq y.σ gs y.o,e.ent.map (·.1)⟩:=by simp [Rec.log,hyr]
   refine zwv (c:=c) hop q2 h6 hgo (fun t ht=>hlook t (by simp only [zu4,List.mem_append,List.mem_filterMap];exact .inl ⟨.tmp t,by simpa using ht,rfl⟩)) (fun t x hx=> ?_) (fun t t1 t2 hU=> ?_) r2 (fun hne t x hx=> ?_) (by rw [h1];exact r5) (by rw [h1];exact r6) (fun x hx=>by rw [r3]at hx;cases hx) (fun a' c' hs hr=> ?_)
   ·unfold zzS at hx
    split at hx
    ·rename_i hR
     rw [(c4 y hy) t]at hx
     rw [←hx]
     refine zjP xs rfl fun z hz hzt=> ?_
     rw [hyj]
     exact hW z hz t hzt _ hly (.inl (by rw [hyo];simpa using hR))
    ·cases hx
   ·rcases h5 t hU with h|⟨k,k1,k2,k3,k4⟩
    ·simp only [zao]at*;omega
    ·have:k≠j:=by rintro rfl;rw [q1]at k2;cases k2
     simp only [zao]at*;omega
   ·have:=hs5 _ hx
    have hem:gs.isEmpty=false:=by cases gs;exact absurd rfl hne;rfl
    simp only [hem,Bool.false_or,Bool.false_and,Bool.or_false,Bool.and_eq_true,decide_eq_true_eq]at this
    refine⟨this.1.1,this.1.2, ?_⟩
    have h3:=this.2
    split at h3
    ·exact⟨_,_,rfl,h3⟩
    ·cases h3
   ·exact hgoon a' c' (hs.ρ.trans h1) (hs.w0.trans h2) (hs.A.trans h3) (hs.Mu.trans h4) hs.U (by rw [hv,he];exact hr)
end
end Go.Proofs.YtecngjbpbnfegaaGreatDoor
end
section
namespace Go.Proofs.YtecngjbpbnfegaaGreatDoor
open Go.RowKit
theorem Rel.world {c:Cx} {n:Nat} {sl:Nat→SV} {hp:Nat→Option Ent} {a:Act} (h:Rel c n sl hp a) (w:World) (h1:w.heap=c.w.heap) (h2:w.os=c.w.os) (h3:w.tape=c.w.tape) (h4:w.output=c.w.output):Rel {c with w:=w} n sl hp a:=by
 refine h.change (fun _=>False) ⟨rfl,fun _ _ hb=>hb,fun b _ _=>by show w.heap[b]?=_;rw [h1],fun _ _ hk=>⟨hk,rfl⟩,fun _ _ _=>⟨Nat.le_refl _,fun _=>⟨rfl,fun b _ _=>by show w.heap[b]?=_;rw [h1]⟩⟩⟩ ⟨h2.trans h.base.os,h3.trans h.base.tape,h4.trans h.base.output,by show _≤w.heap.size;rw [h1];exact h.base.size,h.base.pins,fun b hb hm=>by show w.heap[b]?=_;rw [h1];exact h.base.block b hb hm⟩ (fun t _=>⟨rfl,rfl,rfl,fun g hk=>hk⟩) (fun t _ b _=>by show w.heap[b]?=_;rw [h1]) (fun t ht=>ht.elim)
  ⟨h.gw.nodup,h.gw.disj,h.gw.allow,fun t b hb=>by show b<w.heap.size;rw [h1];exact h.gw.inb t b hb⟩ h.usedK h.usedH
theorem zwA {P:Program} {sg:SgT} {Rt:Nat→List AV→AV→Prop} (hmx:P.follows .mixedOrders=true) (hop:zAf P sg Rt) (hnil:zyf P sg):zu2 P sg Rt:=by
 intro id ops draw σ t _ hsc hnx ht F R L js ρ a w hL hd hr Q hq
 obtain⟨c,rfl,rfl,h1,h2,h3,h4,h5,h6⟩:=hr
 rw [List.range_eq_range']at ht
 cases draw with
 |false=>
  refine wp_region ?_
  rw [List.range_eq_range']
  exact zpG hop hnil (n:=σ.sl.length) ops.size 0 [] σ t (by omega) ht c a ⟨h1,h2,h3,h4,rfl,by simpa using h5,h6⟩ hd (fun c' a' σ' hp hl hrel=>hq [] .normal σ' c'.ρ a' c'.w hp hl hrel)
 |true=>
  refine wp_region_any hmx ?_
  obtain⟨τ,xs,σ',lg',g1,g2,g3,g4,g5,g6,_,g8⟩:=zqb ops.size 0 [] σ t c.ρ (by omega) ht hd h4
  have hext:=h6.ext (fun i=>by rw [h4];exact St.sc_sl hsc i) (fun t e he=>by rw [h4];exact St.sc_hp hsc t e he) τ
  have hw:=hext.world {c.w with drawn:=c.w.drawn+1} rfl rfl rfl rfl
  have hfalse: ∀k,k<ops.size→(Array.replicate ops.size false).getD k true=false:=fun k hk=>by simp [Array.getD_eq_getD_getElem?,hk]
  have hxi: ∀x∈xs,x.i<ops.size:=fun x hx=>by have:=(g1.range x hx).2;omega
  have e1:(slF σ.sl.length (zaK σ) xs fun k=>(Array.replicate ops.size false).getD k true)=zaK σ:=by
   funext d;exact zrL _ fun x hx _=>hfalse x.i (hxi x hx)
  have e2:(hpF (zat σ.hp) xs fun k=>(Array.replicate ops.size false).getD k true)=zat σ.hp:=by
   funext d;exact zrO _ fun x hx _=>hfalse x.i (hxi x hx)
  refine zxz (F:=F) (n:=σ.sl.length) (c:={c.ext τ with w:={c.w with drawn:=c.w.drawn+1}}) hop g1 g2 g3 g6 g8 rfl (fun c' a' k1 k2 k3 k4 k5 k6=> ?_) ops.size (Array.replicate ops.size false) a (by simp) (fun k o hk ho=> ?_) rfl h1 h2 h3 (fun t ht=> .inl (h5 t ht)) (by rw [e1,e2];exact hw) (Nat.le_trans (List.length_filter_le _ _) (by simp))
  ·have hlen:=(g1.sl rfl).2.1
   refine hq [] .normal _ c'.ρ a' c'.w (by rw [k1];exact List.prefix_append _ _) (by rw [k1];exact g5) ⟨c',rfl,rfl,k2,k3,k4,by rw [k1];exact g4,k5, ?_⟩
   show Rel c' σ'.sl.length _ _ a'
   rw [hlen];exact k6
  ·have:=hfalse k (Array.getElem?_eq_some_iff.1 ho).1
   have hk':(Array.replicate ops.size false).getD k true=true:=hk
   rw [this]at hk';cases hk'
end Go.Proofs.YtecngjbpbnfegaaGreatDoor
end
section
namespace Go.Proofs.YtecngjbpbnfegaaGreatDoor
open Go.RowKit
section
variable {P:Program} {c:Cx} {n nx:Nat} {sl sl0:Nat→SV} {hp hp0:Nat→Option Ent} {a:Act} {o:Oper} {gs:Gd} {e:Eff} {sg:SgT} {nv:Nat}
theorem zAd {v:Value} {x:AV} {f:List Nat} {w:World} (h:Rd w [v] [x] f) (hv: ∃p q r,v= .slice p q r): ∃p q r,v= .slice p q r∧(p=none→x= .sl []):=by
 obtain⟨p,q,r,rfl⟩:=hv
 refine⟨p,q,r,rfl, ?_⟩
 rintro rfl
 cases h with
 |snil _=>rfl
theorem ztL (h:Pre P c n nx sl hp a sl0 hp0 o gs) {op:BinOp} {t el:TypeId} {x y:Operand} {ty:TypeId} (ho:o.op= .binOp op t x y ty) (hu:P.underlying t=some (.slice el)) {p:Option Addr} {q r:Nat} (hv:a.eval x= .slice p q r) (r2:SR c [.nils] [a.eval y])
  (hop:op= .eql∨op= .neq) (hnv:c.ρ[nv]?=some (.bool (zln a o))) (x':Option E) {ck:List Cn}:zbJ P o c n nx sl hp gs a {chk:=ck,nilq:=x',val:= .e (if op= .eql then .var nv else .not (.var nv))}:=by
 have hb:zln a o=p.isNone:=by
  simp only [zln,ho,hv]
  cases p<;>rfl
 rw [hb]at hnv
 have ex:=fun(v u:Value) (hv:a.eval x=v) (hu:a.eval y=u)=>zoT (P:=P) (o:=o) ho c.w hv hu
 generalize hv2:a.eval y=v2 at r2
 cases r2 with
 |nils _=>
  refine zbJ.pure h (v:= .bool (if op= .eql then p.isNone else !p.isNone)) ?_ ?_ rfl
  ·rw [ex _ _ hv hv2,eqGuard_at_slice]
   rcases hop with rfl|rfl
   ·simp [Go.Lib.run_eql_slice_nil c.w t el p q r 0 0 hu]
   ·simp [binOp,Op.equal,Op.maxDepth,Go.Lib.run_equalIn_slice_nil c.w 9999 t el p q r 0 0 hu]
  ·rcases hop with rfl|rfl
   ·refine .e (f:= []) ?_ (by simp) .nil
    simp only [if_true,E.den,hnv,Option.getD_some];exact .bool .nil
   ·refine .e (f:= []) ?_ (by simp) .nil
    simp only [reduceCtorEq,if_false,E.den,hnv,Option.getD_some,AV.notB];exact .bool .nil
end
end Go.Proofs.YtecngjbpbnfegaaGreatDoor
end
section
namespace Go.Proofs.YtecngjbpbnfegaaGreatDoor
open Go.RowKit
section
variable {P:Program} {c:Cx} {n nx:Nat} {sl sl0:Nat→SV} {hp hp0:Nat→Option Ent} {a:Act} {o:Oper} {gs:Gd} {e:Eff} {sg:SgT} {nv:Nat}
theorem zmI {hp:Nat→Option Ent} {gs:Gd} {m:Nat} {cs:SVL} {x:E} (h:zfb hp gs m (.agg cs)=some x): ∃k l,m=k+1∧zdI hp gs k cs.toList=some l∧x= .mk l:=by
 cases m with
 |zero=>simp [zfb]at h
 |succ m=>
  simp only [zfb,Option.map_eq_some_iff]at h
  obtain⟨l,h1,h2⟩:=h
  exact⟨m,l,rfl,h1,h2.symm⟩
theorem zlb {hp:Nat→Option Ent} {gs:Gd} {m:Nat} {y x:E} (h:zfb hp gs m (.e y)=some x):x=y:=by
 cases m with
 |zero=>simp [zfb]at h
 |succ m=>simp [zfb]at h;exact h.symm
theorem zfX {hp:Nat→Option Ent} {gs:Gd} {m:Nat} {x:E} (h:zfb hp gs m .nils=some x):x= .lst .nil:=by
 cases m with
 |zero=>simp [zfb]at h
 |succ m=>simp [zfb]at h;exact h.symm
theorem zey {hp:Nat→Option Ent} {gs:Gd} {m:Nat} {s:SV} {ss:List SV} {x:EL} (h:zdI hp gs m (s::ss)=some x): ∃k y l,m=k+1∧zfb hp gs k s=some y∧zdI hp gs k ss=some l∧x= .cons y l:=by
 cases m with
 |zero=>simp [zdI]at h
 |succ m=>
  simp only [zdI]at h
  split at h
  ·rename_i y l h1 h2
   simp at h
   exact⟨m,y,l,rfl,h1,h2,h.symm⟩
  ·cases h
theorem zgH {hp:Nat→Option Ent} {gs:Gd} {ρ:List AV} {w:World}: ∀(vs:List Value) (ss:List SV) (m:Nat) (x:EL),zdf.go vs=some ss→zdI hp gs m ss=some x→Rd w vs (x.den ρ) []
 | [],ss,m,x,h,hx=>by
  simp [zdf.go]at h;subst h
  cases m with
  |zero=>simp [zdI]at hx
  |succ m=>simp [zdI]at hx;subst hx;exact .nil
 |v::vs,ss,m,x,h,hx=>by
  unfold zdf.go at h
  split at h
  ·rename_i hh;cases hh
  ·rename_i k q l hh
   cases hh
   split at h
   ·rename_i hk
    obtain⟨l',h1,rfl⟩:=Option.map_eq_some_iff.1 h
    obtain⟨j,y,l2,rfl,h2,h3,rfl⟩:=zey hx
    rw [zlb h2]
    exact .int hk (zgH _ _ _ _ h1 h3)
   ·cases h
  ·rename_i q l hh
   cases hh
   obtain⟨l',h1,rfl⟩:=Option.map_eq_some_iff.1 h
   obtain⟨j,y,l2,rfl,h2,h3,rfl⟩:=zey hx
   rw [zlb h2]
   exact .bool (zgH _ _ _ _ h1 h3)
  ·rename_i q l hh
   cases hh
   split at h
   ·rename_i hk
    obtain⟨l',h1,rfl⟩:=Option.map_eq_some_iff.1 h
    obtain⟨j,y,l2,rfl,h2,h3,rfl⟩:=zey hx
    rw [zlb h2]
    exact .str hk (zgH _ _ _ _ h1 h3)
   ·cases h
  ·rename_i l hh
   cases hh
   obtain⟨l',h1,rfl⟩:=Option.map_eq_some_iff.1 h
   obtain⟨j,y,l2,rfl,h2,h3,rfl⟩:=zey hx
   rw [zfX h2]
   exact .snil (zgH _ _ _ _ h1 h3)
  ·rename_i l hh
   cases hh
   obtain⟨l',h1,rfl⟩:=Option.map_eq_some_iff.1 h
   obtain⟨j,y,l2,rfl,h2,h3,rfl⟩:=zey hx
   rw [zlb h2]
   exact .nilp (zgH _ _ _ _ h1 h3)
  ·cases h
theorem zlX {hp:Nat→Option Ent} {gs:Gd} {ρ:List AV} {w:World} {v:Value} {s:SV} {m:Nat} {x:E} (h:zdf v=some s) (hx:zfb hp gs m s=some x):
  Rd w v.cells.toList (x.den ρ).cells []∧(∀u∈v.cells.toList,u.oneCell'=true):=by
 have one: ∀{v:Value} {y:AV},Rd w [v] [y] []→(∀cs,y≠ .agg cs)→(∀cs,y≠ .tup cs)→Rd w v.cells.toList y.cells []∧(∀u∈v.cells.toList,u.oneCell'=true):=by
  intro v y hr h1 h2
  have h3:=zlM hr h1 h2
  have h4:y.cells= [y]:=by cases y<;>first|rfl|exact absurd rfl (h1 _)
  rw [zmL h3,h4]
  exact⟨by simpa using hr,by simpa using h3⟩
 unfold zdf at h
 split at h
 ·split at h
  ·rename_i hk
   simp at h;subst h
   rw [zlb hx]
   exact one (.int hk .nil) (by simp [E.den]) (by simp [E.den])
  ·cases h
 ·simp at h;subst h
  rw [zlb hx]
  exact one (.bool .nil) (by simp [E.den]) (by simp [E.den])
 ·split at h
  ·rename_i hk
   simp at h;subst h
   rw [zlb hx]
   exact one (.str hk .nil) (by simp [E.den]) (by simp [E.den])
  ·cases h
 ·simp at h;subst h
  rw [zfX hx]
  exact one (.snil .nil) (by simp [E.den]) (by simp [E.den])
 ·simp at h;subst h
  rw [zlb hx]
  exact one (.nilp .nil) (by simp [E.den]) (by simp [E.den])
 ·rename_i cs
  simp only [Option.bind_eq_bind,Option.bind_eq_some_iff,Option.some.injEq]at h
  obtain⟨l,hl,rfl⟩:=h
  obtain⟨k,l',rfl,h1,rfl⟩:=zmI hx
  rw [SVL.toList_of]at h1
  exact⟨zgH _ _ _ _ hl h1,zlB _ _ hl⟩
 ·cases h
theorem zwq {w:World} {vs:List Value} {x:AV} (h:Rd w vs x.cells []): ∀k,Rd w (List.replicate k vs).flatten (zaQ (List.replicate k x)) []
 |0=> .nil
 |k+1=>by
  simp only [List.replicate_succ,List.flatten_cons,zaQ,List.flatMap_cons]
  have:=h.app (zwq h k)
  simpa [zaQ]using this
theorem zgM (z:Array Value) (hz:0<z.size): ∀k,(madeCells z (k*z.size)).toList=(List.replicate k z.toList).flatten
 |0=>by simp [madeCells]
 |k+1=>by
  have ih:=zgM z hz k
  simp only [madeCells,Array.toList_map,Array.toList_range]at ih ⊢
  rw [Nat.add_mul,Nat.one_mul,List.range_add,List.map_append,ih,List.replicate_succ',List.flatten_append]
  congr 1
  simp only [List.map_map,List.flatten_cons,List.flatten_nil,List.append_nil]
  apply List.ext_getElem?
  intro i
  simp only [List.getElem?_map,List.getElem?_range']
  by_cases hi:i<z.size
  ·simp only [List.getElem?_range hi,Option.map_some,Function.comp_apply]
   have:(k*z.size+i) % z.size=i:=by rw [Nat.add_comm,Nat.add_mul_mod_self_right,Nat.mod_eq_of_lt hi]
   simp [this,hi]
  ·rw [List.getElem?_eq_none (by simpa using hi),List.getElem?_eq_none (by simpa using hi)];rfl
theorem zvE (h:Pre P c n nx sl hp a sl0 hp0 o gs) {t:TypeId} {l m:Operand} (ho:o.op= .makeSlice t l m) {s1 s2:SV} (hs1:zan sl0 gs l=some s1) (hs2:zan sl0 gs m=some s2) (he:zuA P hp0 gs nx t s1 s2=some e) (hc: ∀q∈e.chk,Cn.den c.ρ q):zbJ P o c n nx sl hp gs a e:=by
 have hm1:l∈o.op.operands:=by simp [ho,Op.operands]
 have hm2:m∈o.op.operands:=by simp [ho,Op.operands]
 unfold zuA at he
 split at he
 ·rename_i el x y hel
  have hel:=ze3 hel
  split at he
  ·cases he
  rename_i hz
  have hz:ziq P el=true:=by simpa using hz
  obtain⟨i,z,hi,hiz,hzs,hsz,hco,hby⟩:=zec hz
  have r1:=h.opd hs1 hm1
  have r2:=h.opd hs2 hm2
  have ival: ∀{x:E} {kk:IntKind} {k:Int} {v:Value},SR c [.e x] [v]→x.den c.ρ= .int kk k→v= .int kk k:=by
   intro x kk k v hr hx
   cases hr with
   |e h1 _ _=>exact(zhn h1 hx).1
  split at he
  ·rename_i hxy
   split at he
   ·rename_i s hs
    have hs:zdf z=some s:=by simpa [hi,hiz]using hs
    obtain⟨w,hw,rfl⟩:=Option.map_eq_some_iff.1 he
    obtain⟨kk,k,hk,h0,hb,hle⟩:Cn.den c.ρ (.mkroom x (P.bytesOf el)):=hc1 hc
    have hv1:=ival r1 hk
    have hv2:=ival r2 (by rw [←E.beq_den c.ρ _ _ hxy];exact hk)
    obtain⟨c1,c2⟩:=zlX (w:=c.w) (ρ:=c.ρ) hs hw
    obtain⟨kn,rfl⟩:=Int.eq_ofNat_of_zero_le h0
    have hbytes:(i.bytes:Int)*(kn:Int)≤281474976710656:=by
     rw [hby]at hb
     rw [Int.mul_comm];omega
    have hlen:=c1.len
    have hml:=zgM z.cells (by omega) kn
    have hrun:=run_make (P:=P) c.w t el i z hel hi hiz kk kk kn kn (by omega) (Int.le_refl _) hbytes (by omega)
    have hsize:(madeCells z.cells (kn*z.cells.size)).size=kn*P.cellsOf el:=by rw [size_madeCells,hzs,hco]
    have htake:(madeCells z.cells (kn*z.cells.size)).toList.take ((List.replicate kn (w.den c.ρ)).length*P.cellsOf el)=(List.replicate kn z.cells.toList).flatten:=by
     rw [List.length_replicate,List.take_of_length_le (by rw [Array.length_toList,hsize];exact Nat.le_refl _),hml]
    refine zbJ.newRow (xs:=List.replicate kn (w.den c.ρ)) (N:= []) (C:=madeCells z.cells (kn*z.cells.size)) (cap:=kn) (wd:=c.w) (fz:= []) (ts:= []) h rfl ⟨rfl,rfl,rfl,rfl⟩ ?_ ?_ (by omega) (fun u hu=> ?_) (by simp) (by simp only [maxLen];omega) hsize ?_ ?_ (by simp) (fun _=>rfl)
    ·simp only [execOp,ho,hv1,hv2,Sem.run_bind,Int.ofNat_eq_natCast,List.length_replicate]
     rw [hrun,hzs];rfl
    ·simp [E.den,hk,AV.rep]
    ·rw [List.eq_of_mem_replicate hu,←hlen,Array.length_toList,hzs,hco]
    ·rw [htake]
     intro u hu
     obtain⟨q,hq,hu⟩:=List.mem_flatten.1 hu
     rw [List.eq_of_mem_replicate hq]at hu
     exact c2 u hu
    ·rw [htake];exact zwq c1 kn
   ·cases he
  ·split at he
   ·rename_i k0 _
    simp only [Option.some.injEq]at he;subst he
    obtain⟨kk,k,hk,h0,hb,hle⟩:Cn.den c.ρ (.mkroom y (P.bytesOf el)):=hc1 hc
    have hv1:=ival r1 (show(E.int k0 0).den c.ρ= .int k0 0 from rfl)
    have hv2:=ival r2 hk
    obtain⟨kn,rfl⟩:=Int.eq_ofNat_of_zero_le h0
    have hbytes:(i.bytes:Int)*(kn:Int)≤281474976710656:=by
     rw [hby]at hb
     rw [Int.mul_comm];omega
    have hrun:=run_make (P:=P) c.w t el i z hel hi hiz k0 kk 0 kn (by omega) (by omega) hbytes (by omega)
    refine zbJ.newRow (xs:= []) (N:= []) (C:=madeCells z.cells (kn*i.size)) (cap:=kn) (wd:=c.w) (fz:= []) (ts:= []) h rfl ⟨rfl,rfl,rfl,rfl⟩ ?_ rfl (by omega) (by simp) (by simp) (by simp only [maxLen];omega) (by rw [size_madeCells,hco]) (by simp) (by simpa [zaQ]using Rd.nil) (by simp) (fun _=>rfl)
    simp only [execOp,ho,hv1,hv2,Sem.run_bind,Int.ofNat_eq_natCast]
    rw [hrun];rfl
   ·cases he
 ·cases he
end
end Go.Proofs.YtecngjbpbnfegaaGreatDoor
end
section
namespace Go.Proofs.YtecngjbpbnfegaaGreatDoor
open Go.RowKit
section
variable {P:Program} {c:Cx} {n nx:Nat} {sl sl0:Nat→SV} {hp hp0:Nat→Option Ent} {a:Act} {o:Oper} {gs:Gd} {e:Eff} {sg:SgT} {nv:Nat}
def zm7 (v:Option Value) (k d:Nat):Prop:=(v=none∧k=d)∨ ∃kk,v=some (.int kk (k:Int))
theorem zhB {w:World} {t el:TypeId} (hu:P.underlying t=some (.slice el)) (hty:zlS P el=true) (p:Option Addr) (m r l h:Nat) {lo hi:Option Value} (hlo:zm7 lo l 0) (hhi:zm7 hi h m) (h1:l≤h) (h2:h≤m) (h3:m≤r):
  (Instr.sliceAt t (.slice p m r) lo hi none).run P w= .ok (sliced p l h r (P.cellsOf el)) w:=by
 have hu':P.underlying t=some (.slice (P.elem t)):=by simp [Program.elem,hu]
 have he:P.elem t=el:=by simp [Program.elem,hu]
 have hs:(sizeOf (P.elem t)).run P w= .ok (P.cellsOf el) w:=by rw [he];exact zfz hty w
 rw [run_sliceAt_slice w t _ _ _ _ hu']
 rcases hlo with⟨rfl,rfl⟩|⟨kl,rfl⟩<;>rcases hhi with⟨rfl,rfl⟩|⟨kh,rfl⟩
 ·rw [run_slice_all w t p h r hu',hs];rfl
 ·rw [run_slice_h w t p m r hu' kh _ (by omega) (by omega),hs];rfl
 ·rw [run_slice_l w t p h r hu' kl _ (by omega) (by omega),hs];rfl
 ·rw [run_slice_lh w t p m r hu' kl kh _ _ (by omega) (by omega) (by omega),hs];rfl
theorem zus (s:ByteArray) (a b:Nat):(s.extract a b).data.toList=(s.data.toList.drop a).take (b-a):=by
 rw [ByteArray.data_extract,Array.toList_extract,List.extract_eq_take_drop]
theorem zoU {w:World} {t:TypeId} (hu:P.underlying t=some .string) (s:ByteArray) (l h:Nat) {lo hi:Option Value} (hlo:zm7 lo l 0) (hhi:zm7 hi h s.size) (h1:l≤h) (h2:h≤s.size):
  (Instr.sliceAt t (.string s) lo hi none).run P w= .ok (.string (s.extract l h)) w:=by
 rw [run_sliceAt_string w t _ _ _ _ hu]
 rcases hlo with⟨rfl,rfl⟩|⟨kl,rfl⟩<;>rcases hhi with⟨rfl,rfl⟩|⟨kh,rfl⟩
 ·rw [run_slice_string_all w t s hu]
 ·rw [run_slice_string_h w t s hu kh _ (by omega) (by omega)];rfl
 ·rw [run_slice_string_l w t s hu kl _ (by omega) (by omega)];rfl
 ·rw [run_slice_string w t s kl kh _ _ hu (by omega) (by omega) (by omega)];rfl
theorem zqf {sz:Nat} (ys:List AV) (hs: ∀y∈ys,y.cells.length=sz) (l h:Nat) (hl:l≤h) (hh:h≤ys.length):((zaQ ys).drop (l*sz)).take ((h-l)*sz)=zaQ ((ys.take h).drop l):=by
 have e:ys=ys.take l++((ys.take h).drop l++ys.drop h):=by
  rw [←List.append_assoc]
  have:ys.take l++(ys.take h).drop l=ys.take h:=by
   have h2:ys.take l=(ys.take h).take l:=by rw [List.take_take,Nat.min_eq_left hl]
   rw [h2,List.take_append_drop]
  rw [this,List.take_append_drop]
 have f1:zaQ ys=zaQ (ys.take l)++(zaQ ((ys.take h).drop l)++zaQ (ys.drop h)):=by
  conv=>lhs;rw [e]
  simp [zaQ]
 have l1:(zaQ (ys.take l)).length=l*sz:=by
  rw [ziD _ (fun y hy=>hs y (List.mem_of_mem_take hy)),List.length_take,Nat.min_eq_left (by omega)]
 have l2:(zaQ ((ys.take h).drop l)).length=(h-l)*sz:=by
  rw [ziD _ (fun y hy=>hs y (List.mem_of_mem_take (List.mem_of_mem_drop hy))),List.length_drop,List.length_take,Nat.min_eq_left (by omega)]
 rw [f1,←l1,List.drop_left,←l2,List.take_left]
theorem zAD {w:World} {v:Value} {ys:List AV} {f:List Nat} {sz:Nat} (hr:Rd w [v] [.sl ys] f) (hs: ∀y∈ys,y.cells.length=sz) (l h:Nat) (hl:l≤h) (hh:h≤ys.length):
  ∃p r g,v= .slice p ys.length r∧ys.length≤r∧Rd w [sliced p l h r sz] [.sl ((ys.take h).drop l)] g∧ ∀b∈g,b∈f:=by
 cases hr with
 |snil _=>
  rename_i p r
  have hh:h=0:=by simpa using hh
  subst hh
  have hl:l=0:=by omega
  subst hl
  exact⟨_,_, [],rfl,Nat.zero_le _,by simpa [sliced]using Rd.snil .nil,by simp⟩
 |scons hb h1 h2 h3 h4 h5 h6 h6' h7 h8=>
  rename_i b o m r cs C t fz sz' f1 f2
  have hy: ∃y,y∈ys:=by cases ys with|nil=>simp at h3;omega|cons y _=>exact⟨y,by simp⟩
  obtain⟨y0,hy0⟩:=hy
  have hss:sz'=sz:=(h4 y0 hy0).symm.trans (hs y0 hy0)
  subst hss
  subst h3
  refine⟨some ⟨b,o,none⟩,r, ?_⟩
  rcases Nat.eq_or_lt_of_le hl with he|hlt
  ·subst he
   refine⟨[],rfl,h2.2, ?_,by simp⟩
   have:(ys.take l).drop l= []:=List.drop_eq_nil_of_le (by simp;omega)
   rw [this]
   simp only [sliced,Nat.sub_self]
   exact .snil .nil
  ·have hfl:=h7.len
   obtain⟨g,hg,hrd⟩:=h7.piece (l*sz') ((h-l)*sz')
   rw [zqf ys h4 l h hl hh]at hrd
   refine⟨b::(g++ []),rfl,h2.2, ?_,fun x hx=> ?_⟩
   ·have hsl:sliced (some (⟨b,o,none⟩:Addr)) l h r sz'= .slice (some ⟨b,o+l*sz',none⟩) (h-l) (r-l):=by
     unfold sliced
     split
     ·exfalso;omega
     ·simp [Addr.add_lit]
    rw [hsl]
    refine Rd.scons (cs:=(cs.drop (l*sz')).take ((h-l)*sz')) hb (by omega) ⟨by omega,by omega⟩ (by simp;omega) (fun y hy=>h4 y (List.mem_of_mem_take (List.mem_of_mem_drop hy))) h5 (fun j u hu=> ?_) (fun u hu=>h6' u (List.mem_of_mem_drop (List.mem_of_mem_take hu))) hrd .nil
    rw [List.getElem?_take]at hu
    split at hu
    ·rw [List.getElem?_drop]at hu
     have:=h6 _ _ hu
     rw [←this];congr 1;omega
    ·cases hu
   ·simp only [List.append_nil,List.mem_cons]at hx
    rcases hx with rfl|hx
    ·simp
    ·have:=hg x hx
     simp [this]
theorem zfW {f:Operand→Option SV} {x:Option Operand} {r:Option SV} (h:zpP f x=some r):(x=none∧r=none)∨ ∃y z,x=some y∧f y=some z∧r=some z:=by
 cases x with
 |none=>simp [zpP]at h;exact .inl ⟨rfl,h.symm⟩
 |some y=>
  obtain⟨z,hz,rfl⟩:=Option.map_eq_some_iff.1 h
  exact .inr ⟨y,z,rfl,hz,rfl⟩
theorem zkF {s:Option SV} {d l:E} (h:zzg s d=some l):(s=none∧l=d)∨s=some (.e l):=by
 unfold zzg at h
 split at h
 ·simp at h;exact .inl ⟨rfl,h.symm⟩
 ·simp at h;subst h;exact .inr rfl
 ·cases h
theorem zuc (h:Pre P c n nx sl hp a sl0 hp0 o gs) {t:TypeId} {x:Operand} {lo hi mx:Option Operand} (ho:o.op= .slice t x lo hi mx) {s:SV} (hs:zan sl0 gs x=some s) {l' h' m':Option SV} (hl':zpP (zan sl0 gs) lo=some l') (hh':zpP (zan sl0 gs) hi=some h') (hm':zpP (zan sl0 gs) mx=some m') (he:zrI P hp0 gs t s l' h' m'=some e) (hc: ∀q∈e.chk,Cn.den c.ρ q):zbJ P o c n nx sl hp gs a e:=by
 have hm:x∈o.op.operands:=by simp [ho,Op.operands]
 have hmlo: ∀y,lo=some y→y∈o.op.operands:=fun y hy=>by simp [ho,Op.operands,hy]
 have hmhi: ∀y,hi=some y→y∈o.op.operands:=fun y hy=>by simp [ho,Op.operands,hy]
 have hmmx: ∀y,mx=some y→y∈o.op.operands:=fun y hy=>by simp [ho,Op.operands,hy]
 have hx:=h.opd hs hm
 have ival: ∀{x:E} {kk:IntKind} {k:Int} {v:Value},SR c [.e x] [v]→x.den c.ρ= .int kk k→v= .int kk k:=by
  intro x kk k v hr hx
  cases hr with
  |e h1 _ _=>exact(zhn h1 hx).1
 unfold zrI at he
 split at he
 ·cases he
 rename_i y hy
 obtain⟨f,q1,q2⟩:=h.toE hs hm hy
 have ex:(execOp a.eval o).run P c.w=((Instr.sliceAt t (a.eval x) (lo.map a.eval) (hi.map a.eval) (mx.map a.eval)).run P c.w).andThen fun v w=> .ok (.value v) w:=by
  simp [execOp,ho]
 split at he
 ·split at he
  ·rename_i el _ _ hu
   split at he
   ·rename_i hty
    simp only [Option.some.injEq]at he;subst he
    have hd:(y.den c.ρ).len≠ .undef:=hc1 hc
    cases hy':y.den c.ρ<;>simp only [hy',AV.len,ne_eq,not_true_eq_false]at hd
    rename_i xs
    have hl:(y.den c.ρ).len= .int .i64 (xs.length:Int):=by rw [hy'];rfl
    obtain⟨p,q,r,hv⟩: ∃p q r,a.eval x= .slice p q r:=by
     rcases zkx q1 hl with⟨p,q,hv,hm0⟩|⟨b,o',k,q,hv,hm0⟩
     ·exact⟨_,_,_,hv⟩
     ·exact⟨_,_,_,hv⟩
    rcases zfW hl' with⟨rfl,_⟩|⟨_,_,_,_,hh⟩
    ·rcases zfW hh' with⟨_,hh⟩|⟨oh,sh,rfl,hsh,hh⟩
     ·cases hh
     ·cases hh
      rcases zfW hm' with⟨_,hh⟩|⟨om,sm,rfl,hsm,hh⟩
      ·cases hh
      ·cases hh
       have v1:=(fun{kk:IntKind} (hr:SR c [.e (.int kk 0)] [a.eval oh])=>ival hr (show(E.int kk 0).den c.ρ= .int kk 0 from by simp only [E.den])) (h.opd hsh (hmhi _ rfl))
       have v2:=(fun{kk:IntKind} (hr:SR c [.e (.int kk 0)] [a.eval om])=>ival hr (show(E.int kk 0).den c.ρ= .int kk 0 from by simp only [E.den])) (h.opd hsm (hmmx _ rfl))
       have hu':P.underlying t=some (.slice (P.elem t)):=by simp [Program.elem,hu]
       have hel:P.elem t=el:=by simp [Program.elem,hu]
       refine zbJ.pure h (v:= .slice p 0 0) ?_ (.emp .nil) rfl
       rw [ex,hv]
       simp only [Option.map_none,Option.map_some,v1,v2]
       rw [run_sliceAt_slice c.w t _ _ _ _ hu',run_slice_hm c.w t p q r hu' _ _ 0 0 (by omega) (by omega) (by omega),hel,zfz hty]
       simp [sliced]
    ·cases hh
   ·cases he
  ·cases he
 ·have hmxn:mx=none:=by
   rcases zfW hm' with⟨hh,_⟩|⟨_,_,_,_,hh⟩
   ·exact hh
   ·cases hh
  subst hmxn
  have blo: ∀(l:E) (kk:IntKind) (k:Nat),zzg l' (.int .i64 0)=some l→l.den c.ρ= .int kk k→zm7 (lo.map a.eval) k 0:=by
   intro l kk k hl hk
   rcases zfW hl' with⟨rfl,rfl⟩|⟨ol,sl',rfl,hsl,rfl⟩
   ·rcases zkF hl with⟨_,rfl⟩|hh
    ·simp only [E.den,AV.int.injEq]at hk
     exact .inl ⟨rfl,by omega⟩
    ·cases hh
   ·rcases zkF hl with⟨hh,_⟩|hh
    ·cases hh
    ·cases hh
     exact .inr ⟨kk,by rw [Option.map_some,ival (h.opd hsl (hmlo _ rfl)) hk]⟩
  have bhi: ∀(d l:E) (kk:IntKind) (k m:Nat),zzg h' d=some l→l.den c.ρ= .int kk k→d.den c.ρ= .int .i64 (m:Int)→zm7 (hi.map a.eval) k m:=by
   intro d l kk k m hl hk hd
   rcases zfW hh' with⟨rfl,rfl⟩|⟨ol,sl',rfl,hsl,rfl⟩
   ·rcases zkF hl with⟨_,rfl⟩|hh
    ·rw [hd]at hk
     simp only [AV.int.injEq]at hk
     exact .inl ⟨rfl,by omega⟩
    ·cases hh
   ·rcases zkF hl with⟨hh,_⟩|hh
    ·cases hh
    ·cases hh
     exact .inr ⟨kk,by rw [Option.map_some,ival (h.opd hsl (hmhi _ rfl)) hk]⟩
  split at he
  ·rename_i hu
   split at he
   ·rename_i l hb q hl1 hh1
    simp only [Option.some.injEq]at he;subst he
    obtain⟨ka,ai,kb,bi,bs,d1,d2,d3,d4,d5,d6⟩:Cn.den c.ρ (.winS y l hb):=hc1 hc
    obtain⟨an,rfl⟩:=Int.eq_ofNat_of_zero_le d4
    obtain⟨bn,rfl⟩:=Int.eq_ofNat_of_zero_le (Int.le_trans d4 d5)
    obtain⟨ss,hv,rfl,hle⟩:=zrp q1 d3
    have hsz:ss.data.toList.length=ss.size:=by simp
    have hrun:=zoU (P:=P) (w:=c.w) hu ss an bn (blo l ka an hl1 d1) (bhi (.slen y) hb kb bn ss.size hh1 d2 (by simp only [E.den,d3,AV.slen];simp)) (by omega) (by omega)
    refine zbJ.pure h (v:= .string (ss.extract an bn)) ?_ (.ofRd0 ?_) rfl
    ·rw [ex,hv,Option.map_none,hrun];rfl
    ·simp only [E.den,d1,d2,d3,AV.swin]
     have:(List.take (bn:Int).toNat ss.data.toList).drop (an:Int).toNat=(ss.extract an bn).data.toList:=by
      simp [zus,List.drop_take]
     rw [this]
     exact .str (by simp only [ByteArray.size_extract];omega) .nil
   ·cases he
  ·rename_i el hu
   split at he
   ·cases he
   rename_i hty
   have hty:zlS P el=true:=by simpa using hty
   split at he
   ·rename_i l hb fz hl1 hh1 hfz
    simp only [Option.some.injEq]at he;subst he
    have hcs:Cn.den c.ρ (.issl y (P.cellsOf el)):=hc1 hc
    obtain⟨ys,hys,hyc⟩:=hcs
    obtain⟨ka,ai,kb,bi,m,d1,d2,d3,d4,d5,d6⟩:Cn.den c.ρ (.win y l hb):=hc _ (by simp)
    obtain⟨an,rfl⟩:=Int.eq_ofNat_of_zero_le d4
    obtain⟨bn,rfl⟩:=Int.eq_ofNat_of_zero_le (Int.le_trans d4 d5)
    rw [hys]at q1
    have hm9:(m:Int)=ys.length:=by rw [hys]at d3;simpa [AV.len]using d3.symm
    split at hfz
    ·rename_i hnb
     obtain⟨p,r,g,hv,hr,hrd,hg⟩:=zAD q1 hyc an bn (by omega) (by omega)
     have hrun:=zhB (P:=P) (w:=c.w) hu hty p ys.length r an bn (blo l ka an hl1 d1) (bhi (.len y) hb kb bn ys.length hh1 d2 (by simp only [E.den,hys,AV.len])) (by omega) (by omega) hr
     intro next Q hk
     unfold Oper.wp
     rw [ex,hv,Option.map_none,hrun]
     show Oper.upon P o a next Q (.ok (.value _) c.w)
     rw [Oper.upon_value]
     have hrel:=h.rel.freeze h.hp h.gs hfz
     have hok: ∀b∈g,(c.frz (fz.map (·.1))).ok b:=fun b hb=>zkn h.rel h.eh h.gs hfz hnb (q2 b (hg b hb))
     refine hk _ (c.frz (fz.map (·.1))) ⟨rfl,rfl,rfl,rfl,fun t ht=> .inl ht⟩ (hrel.put (SR.mkGd (.e (f:=g) ?_ hok .nil) gs h.gs) o.dst)
     show Rd c.w _ [(E.win y l hb).den c.ρ] g
     simp only [E.den,d1,d2,hys,AV.win,Int.ofNat_eq_natCast,Int.toNat_natCast]
     exact hrd
    ·cases hfz
   ·cases he
  ·cases he
end
end Go.Proofs.YtecngjbpbnfegaaGreatDoor
end
section
namespace Go.Proofs.YtecngjbpbnfegaaGreatDoor
open Go.RowKit
section
variable {P:Program} {c:Cx} {n nx:Nat} {sl sl0:Nat→SV} {hp hp0:Nat→Option Ent} {a:Act} {o:Oper} {gs:Gd} {e:Eff} {sg:SgT} {nv:Nat}
theorem zvo {w:World} {v:Value} {x:AV} {f:List Nat} {k:SK} (h:Rd w [v] [x] f) (hk:x.sk=some k):(∃kk n,k= .int kk∧v= .int kk n∧x= .int kk n)∨(∃b,k= .bool∧v= .bool b∧x= .bool b)∨ ∃s:ByteArray,k= .str∧v= .string s∧x= .str s.data.toList:=by
 cases h<;>simp [AV.sk]at hk
 ·exact .inl ⟨_,_,hk.symm,rfl,rfl⟩
 ·exact .inr (.inl ⟨_,hk.symm,rfl,rfl⟩)
 ·exact .inr (.inr ⟨_,hk.symm,rfl,rfl⟩)
theorem zlW {t:TypeId} (h:(∃k,P.underlying t=some (.int k))∨P.underlying t=some .bool∨P.underlying t=some .string):zaY P t=false:=by
 rcases h with⟨k,h⟩|h|h<;>simp [zaY,h]
theorem znV {w:World} (d:Nat): ∀(fs:List Field) (j:Nat) (ks:List SK) {as bs:List Value} {cs ds:List AV} {f g:List Nat},zrw P j fs=some ks→Rd w as cs f→Rd w bs ds g→(cs.drop j).map AV.sk=ks.map some→(ds.drop j).map AV.sk=ks.map some→
  (Op.eqFields (d+1) as.toArray bs.toArray fs).run P w= .ok (AV.leq (cs.drop j) (ds.drop j)) w
 | [],j,ks,as,bs,cs,ds,f,g,hk,h1,h2,k1,k2=>by
  simp [zrw]at hk;subst hk
  have e1:cs.drop j= []:=by simpa using k1
  have e2:ds.drop j= []:=by simpa using k2
  rw [e1,e2];simp [Op.eqFields,AV.leq]
 |fd::fs,j,ks,as,bs,cs,ds,f,g,hk,h1,h2,k1,k2=>by
  unfold zrw at hk
  split at hk
  ·cases hk
  rename_i hcond
  simp only [not_or,Bool.not_eq_true',Decidable.not_not,ne_eq,Bool.not_eq_false]at hcond
  obtain⟨hn,ho,hty,hc1⟩:=hcond
  have main: ∀(k:SK) (l:List SK),ks=k::l→zrw P (j+1) fs=some l→(∀a b (x y:AV) f g,Rd w [a] [x] f→Rd w [b] [y] g→x.sk=some k→y.sk=some k→(Op.equalIn (d+1) fd.type a b).run P w= .ok (x.seq y) w)→zaY P fd.type=false→
    (Op.eqFields (d+1) as.toArray bs.toArray (fd::fs)).run P w= .ok (AV.leq (cs.drop j) (ds.drop j)) w:=by
   rintro k l rfl hl heq hagg
   have hj1:j<cs.length:=by
    rcases Nat.lt_or_ge j cs.length with hh|hh
    ·exact hh
    ·rw [List.drop_eq_nil_of_le hh]at k1;simp at k1
   have hj2:j<ds.length:=by
    rcases Nat.lt_or_ge j ds.length with hh|hh
    ·exact hh
    ·rw [List.drop_eq_nil_of_le hh]at k2;simp at k2
   rw [List.drop_eq_getElem_cons hj1]at k1
   rw [List.drop_eq_getElem_cons hj2]at k2
   simp only [List.map_cons,List.cons.injEq]at k1 k2
   have l1:=h1.len
   have l2:=h2.len
   obtain⟨v,f1,hv,_,r1⟩:=h1.at (show cs[j]?=some cs[j] by simp [hj1])
   obtain⟨u,g1,hu,_,r2⟩:=h2.at (show ds[j]?=some ds[j] by simp [hj2])
   have p1:=zmB hty as fd.offset (by omega) (.inr hc1) w
   have p2:=zmB hty bs fd.offset (by omega) (.inr hc1) w
   have e1:((as.drop fd.offset).take (P.cellsOf fd.type)).headD Go.undef=v:=by
    rw [hc1,ho,List.drop_eq_getElem_cons (by omega),List.take_succ_cons]
    simpa [show j<as.length by omega]using hv
   have e2:((bs.drop fd.offset).take (P.cellsOf fd.type)).headD Go.undef=u:=by
    rw [hc1,ho,List.drop_eq_getElem_cons (by omega),List.take_succ_cons]
    simpa [show j<bs.length by omega]using hu
   rw [hagg,e1]at p1
   rw [hagg,e2]at p2
   have ih:=znV (w:=w) d fs (j+1) l hl h1 h2 k1.2 k2.2
   rw [List.drop_eq_getElem_cons hj1,List.drop_eq_getElem_cons hj2]
   simp only [Op.eqFields,ne_eq,hn,not_false_eq_true,if_true,Sem.run_bind,p1,p2,Bool.false_eq_true,if_false,Result.andThen_ok,heq v u _ _ _ _ r1 r2 k1.1 k2.1]
   cases hb:(cs[j]).seq ds[j]with
   |true=>simpa [AV.leq,hb]using ih
   |false=>simp [AV.leq,hb]
  split at hk
  ·rename_i k l hu hl
   simp at hk
   refine main _ _ hk.symm hl (fun a b x y f g ra rb hx hy=> ?_) (zlW (.inl ⟨_,hu⟩))
   rcases zvo ra hx with⟨kk,m,h5,rfl,rfl⟩|⟨_,h5,_⟩|⟨_,h5,_⟩<;>cases h5
   rcases zvo rb hy with⟨kk,m2,h5,rfl,rfl⟩|⟨_,h5,_⟩|⟨_,h5,_⟩<;>cases h5
   exact run_equalIn_int w d fd.type _ _ _ _ hu
  ·rename_i l hu hl
   simp at hk
   refine main _ _ hk.symm hl (fun a b x y f g ra rb hx hy=> ?_) (zlW (.inr (.inl hu)))
   rcases zvo ra hx with⟨kk,m,h5,_⟩|⟨_,_,rfl,rfl⟩|⟨_,h5,_⟩<;>try cases h5
   rcases zvo rb hy with⟨kk,m,h5,_⟩|⟨_,_,rfl,rfl⟩|⟨_,h5,_⟩<;>try cases h5
   exact zne d _ _ hu w
  ·rename_i l hu hl
   simp at hk
   refine main _ _ hk.symm hl (fun a b x y f g ra rb hx hy=> ?_) (zlW (.inr (.inr hu)))
   rcases zvo ra hx with⟨kk,m,h5,_⟩|⟨_,h5,_⟩|⟨_,_,rfl,rfl⟩<;>try cases h5
   rcases zvo rb hy with⟨kk,m,h5,_⟩|⟨_,h5,_⟩|⟨_,_,rfl,rfl⟩<;>try cases h5
   rw [run_equalIn_string w d _ _ _ hu,zsc];rfl
  ·cases hk
theorem zx0 (h:Pre P c n nx sl hp a sl0 hp0 o gs) {op:BinOp} {t:TypeId} {x y:Operand} {ty:TypeId} (ho:o.op= .binOp op t x y ty) {fs:Array Field} (hu:P.underlying t=some (.struct fs)) (he:zb2 P sg sl0 hp0 nv nx gs o=some e) (hc: ∀q∈e.chk,Cn.den c.ρ q):zbJ P o c n nx sl hp gs a e:=by
 have hm1:x∈o.op.operands:=by simp [ho,Op.operands]
 have hm2:y∈o.op.operands:=by simp [ho,Op.operands]
 simp only [zb2,ho,Option.bind_eq_some_iff]at he
 obtain⟨s1,hs1,s2,hs2,he⟩:=he
 unfold zrt at he
 simp only [hu]at he
 split at he
 ·cases he
 rename_i hg
 simp only [Bool.or_eq_true,not_or,Bool.not_eq_true]at hg
 split at he
 ·rename_i ks x' y' hks hx' hy'
  obtain⟨f1,q1,_⟩:=h.toE hs1 hm1 hx'
  obtain⟨f2,q2,_⟩:=h.toE hs2 hm2 hy'
  have hft:P.underlying t=some (.struct (P.fieldsOf t)):=by simp [Program.fieldsOf,hu]
  have hfs:P.fieldsOf t=fs:=by simp [Program.fieldsOf,hu]
  have key: ∀(k1:Cn.den c.ρ (.kinds x' ks)) (k2:Cn.den c.ρ (.kinds y' ks)),∃as bs:List Value,∃b,a.eval x= .agg as.toArray∧a.eval y= .agg bs.toArray∧(E.aeq x' y').den c.ρ= .bool b∧(Op.equalIn 10000 t (.agg as.toArray) (.agg bs.toArray)).run P c.w= .ok b c.w:=by
   rintro⟨cs,hcs,k1⟩ ⟨ds,hds,k2⟩
   obtain⟨as,hv1,_,r1⟩:=zjx q1 hcs
   obtain⟨bs,hv2,_,r2⟩:=zjx q2 hds
   refine⟨as,bs,AV.leq cs ds,hv1,hv2,by simp only [E.den,hcs,hds,AV.aeq], ?_⟩
   rw [run_equalIn_struct c.w 9999 t _ _ hft hg.1,hfs]
   exact znV (w:=c.w) 9998 fs.toList 0 ks hks r1 r2 (by simpa using k1) (by simpa using k2)
  split at he
  ·simp only [Option.some.injEq]at he;subst he
   obtain⟨as,bs,b,hv1,hv2,hd,hr⟩:=key (hc _ (by simp)) (hc _ (by simp))
   refine zbJ.pure h (v:= .bool b) ?_ (.ofRd0 (by rw [hd];exact .bool .nil)) rfl
   rw [zoT ho c.w hv1 hv2]
   simp [run_eqGuard_agg c.w _ t x y _ _ hg.2,run_eql_struct,hr]
  ·simp only [Option.some.injEq]at he;subst he
   obtain⟨as,bs,b,hv1,hv2,hd,hr⟩:=key (hc _ (by simp)) (hc _ (by simp))
   refine zbJ.pure h (v:= .bool (!b)) ?_ (.ofRd0 (by simp only [E.den]at hd ⊢;rw [hd];exact .bool .nil)) rfl
   rw [zoT ho c.w hv1 hv2]
   simp [run_eqGuard_agg c.w _ t x y _ _ hg.2,run_neq_struct,hr]
  ·cases he
 ·cases he
theorem zpv (h:Pre P c n nx sl hp a sl0 hp0 o gs) {x y:Operand} {cl:Call} (ho:o.op= .call cl) {op:BinOp} (hop:(op= .gtr∧cl.callee= .builtin .max)∨(op= .lss∧cl.callee= .builtin .min)) (ha1:cl.args.toList= [x,y]) {s1 s2:SV} (hs1:zan sl0 gs x=some s1) (hs2:zan sl0 gs y=some s2)
  (he:zmO op s1 s2=some e) (hc: ∀q∈e.chk,Cn.den c.ρ q):zbJ P o c n nx sl hp gs a e:=by
 have hargs:cl.args= #[x,y]:=by apply Array.ext';simp [ha1]
 have hm1:x∈o.op.operands:=by rcases hop with⟨_,hh⟩|⟨_,hh⟩<;>simp [ho,Op.operands,Call.operands,hh,hargs]
 have hm2:y∈o.op.operands:=by rcases hop with⟨_,hh⟩|⟨_,hh⟩<;>simp [ho,Op.operands,Call.operands,hh,hargs]
 unfold zmO at he
 split at he
 ·rename_i x' y'
  simp only [Option.some.injEq]at he;subst he
  obtain⟨f1,q1,_⟩:=zdr (h.opd hs1 hm1) rfl
  obtain⟨f2,q2,_⟩:=zdr (h.opd hs2 hm2) rfl
  have hd:AV.bin op (y'.den c.ρ) (x'.den c.ρ)≠ .undef:=hc1 hc
  cases hx:x'.den c.ρ<;>cases hy:y'.den c.ρ<;>simp only [hx,hy,AV.bin,ne_eq,not_true_eq_false]at hd
  rename_i k m k' m'
  split at hd
  ·rename_i hk
   have hk:k'=k:=by rcases hk with hk|hk|hk;exact hk;all_goals (rcases hop with⟨h1,_⟩|⟨h1,_⟩<;>rw [h1]at hk<;>cases hk)
   subst hk
   obtain⟨v1,i1⟩:=zhn q1 hx
   obtain⟨v2,i2⟩:=zhn q2 hy
   rcases hop with⟨rfl,hcl⟩|⟨rfl,hcl⟩
   ·refine zbJ.pure h (v:= .int k' (if m'>m then m' else m)) ?_ (.ofRd0 ?_) rfl
    ·simp [execOp,ho,resolve,hcl,hargs,invoke,builtin,Builtin.max_,Builtin.max2,v1,v2]
    ·simp only [E.den,hx,hy,AV.bin,true_or,if_true,zbb]
     by_cases hh:m'>m
     ·simp only [hh,decide_true,AV.cond,if_true];exact .int i2 .nil
     ·simp only [hh,decide_false,AV.cond,if_false];exact .int i1 .nil
   ·refine zbJ.pure h (v:= .int k' (if m'<m then m' else m)) ?_ (.ofRd0 ?_) rfl
    ·simp [execOp,ho,resolve,hcl,hargs,invoke,builtin,Builtin.min_,Builtin.min2,v1,v2]
    ·simp only [E.den,hx,hy,AV.bin,true_or,if_true,zbb]
     by_cases hh:m'<m
     ·simp only [hh,decide_true,AV.cond,if_true];exact .int i2 .nil
     ·simp only [hh,decide_false,AV.cond,if_false];exact .int i1 .nil
  ·exact absurd rfl hd
 ·cases he
end
end Go.Proofs.YtecngjbpbnfegaaGreatDoor
end
section
namespace Go.Proofs.YtecngjbpbnfegaaGreatDoor
open Go.RowKit
inductive zb0 (P:Program) (w:World):List TypeId→List Bool→List Value→List AV→List Nat→List Nat→Prop where
 |nil {fl}:zb0 P w [] fl [] [] [] []
 |own {t ts fl el u us y ys top rf hs}:fl.headD false=true→ze9 P t=some el→(zgC P el=true∨zp3 P t=none)→zdF w el (P.cellsOf el) u y top []→zb0 P w ts fl.tail us ys rf hs→zb0 P w (t::ts) fl (u::us) (y::ys) rf (top++hs)
 |deep {t ts fl el e z l u us y ys top rf hs}:fl.headD false=true→ze9 P t=some el→zgC P el=false→zp3 P t=some (.row e z l)→DC w [.row e z l] [u] [y] top→zb0 P w ts fl.tail us ys rf hs→zb0 P w (t::ts) fl (u::us) (y::ys) rf (top++hs)
 |rd {t ts fl u us y ys f rf hs}:(fl.headD false=true→ze9 P t=none)→Rd w [u] [y] f→zb0 P w ts fl.tail us ys rf hs→zb0 P w (t::ts) fl (u::us) (y::ys) (f++rf) hs
def zvJ (P:Program) (w:World) (t:TypeId) (fl:List Bool) (v:Value) (x:AV) (rf hs:List Nat):Prop:=
 ∃us ys,(if zaY P t then v= .agg us.toArray∧x= .agg ys∧ ∀u∈us,u.oneCell'=true else us= [v]∧ys= [x])∧zb0 P w (zaz P t) fl us ys rf hs
def ztM (P:Program) (w:World) (t:TypeId) (fl:List Bool) (v:Value) (x:AV) (rf hs:List Nat):Prop:=
 if znu P t fl then zvJ P w t fl v x rf hs else Rd w [v] [x] rf∧hs= []
inductive zrU (P:Program) (w:World):List TypeId→List Bool→List Value→List AV→List Nat→List Nat→Prop where
 |nil {fl}:zrU P w [] fl [] [] [] []
 |cons {t ts fl v vs x xs f h rf hs}:ztM P w t fl v x f h→zrU P w ts (fl.drop (zaz P t).length) vs xs rf hs→zrU P w (t::ts) fl (v::vs) (x::xs) (f++rf) (h++hs)
theorem zb0.len {P:Program} {w:World} {ts:List TypeId} {fl:List Bool} {us:List Value} {ys:List AV} {rf hs:List Nat} (h:zb0 P w ts fl us ys rf hs):us.length=ts.length∧ys.length=ts.length:=by
 induction h<;>simp_all
theorem zb0.inb {P:Program} {w:World} {ts:List TypeId} {fl:List Bool} {us:List Value} {ys:List AV} {rf hs:List Nat} (h:zb0 P w ts fl us ys rf hs):(∀b∈rf,b<w.heap.size)∧ ∀b∈hs,b<w.heap.size:=by
 induction h with
 |nil=>simp
 |deep _ _ _ _ h _ ih=>
  refine⟨ih.1,fun b hb=> ?_⟩
  rcases List.mem_append.1 hb with hb|hb
  ·exact h.inb b hb
  ·exact ih.2 b hb
 |own _ _ _ h _ ih=>
  refine⟨ih.1,fun b hb=> ?_⟩
  rcases List.mem_append.1 hb with hb|hb
  ·obtain⟨xs,_,_,_,⟨_,_,rfl,_⟩|⟨g,cap,C,_,_,_,hh,_,rfl,_⟩⟩:=h
   ·simp at hb
   ·simp at hb;subst hb;exact zcn hh
  ·exact ih.2 b hb
 |rd _ h _ ih=>
  refine⟨fun b hb=> ?_,ih.2⟩
  rcases List.mem_append.1 hb with hb|hb
  ·exact h.inb b hb
  ·exact ih.1 b hb
structure Chg where
 tag:Nat
 new:Option Value
 top:List Nat
 ent:Ent
def Chg.pair (r:Chg):Nat × Ent:=(r.tag,r.ent)
structure Aft (c c':Cx) (w':World) (recs:List Chg):Prop where
 ρ:c'.ρ=c.ρ
 w:c'.w=w'
 G: ∀r∈recs,c'.G r.tag=⟨r.top, []⟩
 new: ∀r∈recs,∀hv,r.new=some hv→c'.K r.tag 0∧(∀g,c'.K r.tag g→g≤0)∧c'.H r.tag 0=hv
 K: ∀t g,c.K t g→c'.K t g∧c'.H t g=c.H t g
 old: ∀t,c.U t→ ∀g,c'.K t g→c.K t g
 newE: ∀r∈recs,r.new.isSome=true→c'.E r.tag=0
 oldE: ∀r∈recs,r.new=none→c'.E r.tag=c.E r.tag+1
theorem Aft.mono {c c':Cx} {w':World} {recs recs':List Chg} (h:Aft c c' w' recs) (hs: ∀r∈recs',r∈recs):Aft c c' w' recs':=
 ⟨h.ρ,h.w,fun r hr=>h.G r (hs r hr),fun r hr=>h.new r (hs r hr),h.K,h.old,fun r hr=>h.newE r (hs r hr),fun r hr=>h.oldE r (hs r hr)⟩
section
variable {P:Program} {c:Cx} {w':World}
theorem zzx {c':Cx} {t:Nat} {u:Value} {el sz:Nat} {y:AV} {top:List Nat} (h:zdF w' el sz u y top []) (hk:c'.K t 0) (hh:c'.H t 0=u):SR c' [.own t 0] [u]:=by
 obtain⟨xs,_,_,_,⟨_,⟨a,rfl⟩,_⟩|⟨g,cap,C,rfl,_⟩⟩:=h
 ·exact .own hk hh .nil
 ·exact .own hk hh .nil
theorem zdU {nx:Nat} {mk:Nat→E} {ts:List TypeId} {fl:List Bool} {us:List Value} {ys:List AV} {rf hs:List Nat} (h:zb0 P w' ts fl us ys rf hs): ∀(j:Nat),(∀i y,ys[i]?=some y→(mk (j+i)).den c.ρ=y)→
  ∃recs:List Chg,(zas P nx mk j ts fl).2=recs.map Chg.pair∧recs.flatMap Chg.top=hs∧(∀r∈recs,nx+j≤r.tag∧r.tag<nx+j+ts.length∧r.new.isSome)∧(recs.map Chg.tag).Nodup∧(∀r∈recs,r.new=us[r.tag-(nx+j)]?)∧
   ∀c',Aft c c' w' recs→(∀b∈rf,c'.ok b)→SR c' (zas P nx mk j ts fl).1 us∧ ∀r∈recs,zkI c' r.tag r.ent:=by
 induction h with
 |nil=>exact fun j _=>⟨[],rfl,rfl,by simp,by simp,by simp,fun c' _ _=>⟨.nil,by simp⟩⟩
 | @own t ts fl el u us y ys top rf hs h1 h2 h23 h3 _ ih=>
  intro j hmk
  obtain⟨recs,e1,e2,e3,e4,e4',e5⟩:=ih (j+1) (fun i y hy=>by rw [show j+1+i=j+(i+1)from by omega];exact hmk (i+1) y (by simpa using hy))
  have hy:=hmk 0 y rfl
  have hoe:zrj P t el 0 0 (mk j)= .row el (P.cellsOf el) 0 (mk j) true:=by
   unfold zrj
   rcases h23 with h|h
   ·rw [if_pos h]
   ·rw [h];split<;>rfl
  simp only [zas,h1,h2,hoe]
  refine⟨⟨nx+j,some u,top, .row el (P.cellsOf el) 0 (mk j) true⟩::recs,by simp [e1,Chg.pair],by simp [e2],fun r hr=> ?_, ?_,fun r hr=> ?_,fun c' ha hok=> ?_⟩
  ·rcases List.mem_cons.1 hr with rfl|hr
   ·simp
   ·have:=e3 r hr
    simp only [List.length_cons]
    exact⟨by omega,by omega,this.2.2⟩
  ·simp only [List.map_cons,List.nodup_cons]
   refine⟨fun hm=> ?_,e4⟩
   obtain⟨r,hr,hrt⟩:=List.mem_map.1 hm
   have:=e3 r hr
   omega
  ·rcases List.mem_cons.1 hr with rfl|hr
   ·simp
   ·rw [e4' r hr]
    have:=e3 r hr
    rw [show r.tag-(nx+j)=(r.tag-(nx+(j+1)))+1 from by omega,List.getElem?_cons_succ]
  ·obtain⟨q1,q2⟩:=e5 c' (ha.mono fun r hr=>by simp [hr]) hok
   obtain⟨k1,k2,k3⟩:=ha.new _ (List.mem_cons_self ..) u rfl
   have kg:=ha.G _ (List.mem_cons_self ..)
   simp only at k1 k2 k3 kg
   refine⟨(zzx h3 k1 k3).cons q1,fun r hr=> ?_⟩
   rcases List.mem_cons.1 hr with rfl|hr
   ·refine⟨k1,k2, [], ?_,by simp,fun _=>⟨rfl,by rw [kg]⟩,fun _=>by rw [kg]⟩
    rw [k3,kg,ha.w,ha.ρ]
    have hy':(mk j).den c.ρ=y:=by simpa using hy
    rw [hy'];exact h3
   ·exact q2 r hr
 | @deep t ts fl el e z l u us y ys top rf hs h1 h2 h21 h22 h3 _ ih=>
  intro j hmk
  obtain⟨recs,e1,e2,e3,e4,e4',e5⟩:=ih (j+1) (fun i y hy=>by rw [show j+1+i=j+(i+1)from by omega];exact hmk (i+1) y (by simpa using hy))
  have hy:=hmk 0 y rfl
  have hoe:zrj P t el 0 0 (mk j)= .deep e z l.toList 0 0 (mk j):=by
   unfold zrj;rw [if_neg (by rw [h21];simp),h22]
  simp only [zas,h1,h2,hoe]
  refine⟨⟨nx+j,some u,top, .deep e z l.toList 0 0 (mk j)⟩::recs,by simp [e1,Chg.pair],by simp [e2],fun r hr=> ?_, ?_,fun r hr=> ?_,fun c' ha hok=> ?_⟩
  ·rcases List.mem_cons.1 hr with rfl|hr
   ·simp
   ·have:=e3 r hr
    simp only [List.length_cons]
    exact⟨by omega,by omega,this.2.2⟩
  ·simp only [List.map_cons,List.nodup_cons]
   refine⟨fun hm=> ?_,e4⟩
   obtain⟨r,hr,hrt⟩:=List.mem_map.1 hm
   have:=e3 r hr
   omega
  ·rcases List.mem_cons.1 hr with rfl|hr
   ·simp
   ·rw [e4' r hr]
    have:=e3 r hr
    rw [show r.tag-(nx+j)=(r.tag-(nx+(j+1)))+1 from by omega,List.getElem?_cons_succ]
  ·obtain⟨q1,q2⟩:=e5 c' (ha.mono fun r hr=>by simp [hr]) hok
   obtain⟨k1,k2,k3⟩:=ha.new _ (List.mem_cons_self ..) u rfl
   have kg:=ha.G _ (List.mem_cons_self ..)
   have ke:=ha.newE _ (List.mem_cons_self ..) rfl
   simp only at k1 k2 k3 kg ke
   obtain⟨p1,p2,p3,rfl⟩:=h3.head
   refine⟨(SR.own k1 k3 .nil).cons q1,fun r hr=> ?_⟩
   rcases List.mem_cons.1 hr with rfl|hr
   ·refine⟨k1,k2,ke, ?_,by rw [kg]⟩
    have hy':(mk j).den c.ρ=y:=by simpa using hy
    rw [k3,kg,ha.w,ha.ρ,hy',DTL.of_toList];exact h3
   ·exact q2 r hr
 | @rd t ts fl u us y ys f rf hs h1 h3 _ ih=>
  intro j hmk
  obtain⟨recs,e1,e2,e3,e4,e4',e5⟩:=ih (j+1) (fun i y hy=>by rw [show j+1+i=j+(i+1)from by omega];exact hmk (i+1) y (by simpa using hy))
  have hy:=hmk 0 y rfl
  have hfc:zas P nx mk j (t::ts) fl=(.e (mk j)::(zas P nx mk (j+1) ts fl.tail).1,(zas P nx mk (j+1) ts fl.tail).2):=by
   simp only [zas]
   split
   ·rename_i h8 h9;rw [h1 h8]at h9;cases h9
   ·rfl
  rw [hfc]
  refine⟨recs,e1,e2,fun r hr=> ?_,e4,fun r hr=> ?_,fun c' ha hok=> ?_⟩
  ·have:=e3 r hr
   simp only [List.length_cons]
   exact⟨by omega,by omega,this.2.2⟩
  ·rw [e4' r hr]
   have:=e3 r hr
   rw [show r.tag-(nx+j)=(r.tag-(nx+(j+1)))+1 from by omega,List.getElem?_cons_succ]
  ·obtain⟨q1,q2⟩:=e5 c' ha fun b hb=>hok b (by simp [hb])
   have hy':(mk j).den c.ρ=y:=by simpa using hy
   exact⟨(SR.e (f:=f) (by rw [ha.w,ha.ρ,hy'];exact h3) (fun b hb=>hok b (by simp [hb])) .nil).cons q1,q2⟩
theorem zei {nx:Nat} {mk:Nat→E}: ∀(j:Nat) (ts:List TypeId) (fl:List Bool) (t:Nat) (e:Ent) {gs:Gd} {f:Ent},(t,e)∈(zas P nx mk j ts fl).2→e≠ .gd gs f
 |_, [],_,_,_,_,_,h=>by simp [zas]at h
 |j,u::ts,fl,t,e,gs,f,h=>by
  unfold zas at h
  split at h
  ·rcases List.mem_cons.1 h with h|h
   ·cases h;unfold zrj;split
    ·simp
    ·split<;>simp
   ·exact zei _ _ _ _ _ h
  ·exact zei _ _ _ _ _ h
theorem zjF {ρ:List AV} {x:E} {ys:List AV} (hx:x.den ρ= .agg ys): ∀i y,ys[i]?=some y→(zfS x true (0+i)).den ρ=y:=by
 intro i y hy
 simp [zfS,E.den,hx,AV.fld,AV.cells,hy]
theorem zl4 {nx:Nat} {t:TypeId} {fl:List Bool} {x:E} {v:Value} {y:AV} {rf hs:List Nat} (h:ztM P w' t fl v y rf hs) (hx:x.den c.ρ=y):
  ∃recs:List Chg,(ziU P nx t fl x).2=recs.map Chg.pair∧recs.flatMap Chg.top=hs∧(∀r∈recs,nx≤r.tag∧r.tag<nx+(zaz P t).length∧r.new.isSome)∧(recs.map Chg.tag).Nodup∧
   ∀c',Aft c c' w' recs→(∀b∈rf,c'.ok b)→SR c' [(ziU P nx t fl x).1] [v]∧ ∀r∈recs,zkI c' r.tag r.ent:=by
 unfold ztM at h
 unfold ziU
 split at h
 ·rename_i hf
  simp only [hf,if_true]
  obtain⟨us,ys,hg,hc⟩:=h
  split at hg
  ·rename_i hag
   obtain⟨rfl,rfl,hone⟩:=hg
   obtain⟨recs,e1,e2,e3,e4,_,e5⟩:=zdU (c:=c) (nx:=nx) (mk:=zfS x (zaY P t)) hc 0 (by rw [hag];exact zjF hx)
   refine⟨recs,e1,e2,fun r hr=>by have:=e3 r hr;exact⟨by omega,by omega,this.2.2⟩,e4,fun c' ha hok=> ?_⟩
   obtain⟨q1,q2⟩:=e5 c' ha hok
   rw [if_pos hag]
   exact⟨.agg hone (by rw [SVL.toList_of];exact q1) .nil,q2⟩
  ·rename_i hag
   obtain⟨rfl,rfl⟩:=hg
   have hag':zaY P t=false:=by simpa using hag
   obtain⟨recs,e1,e2,e3,e4,_,e5⟩:=zdU (c:=c) (nx:=nx) (mk:=zfS x (zaY P t)) hc 0 (by
    intro i z hz
    cases i with
    |zero=>simp at hz;subst hz;simp [zfS,hag',hx]
    |succ i=>simp at hz)
   refine⟨recs,e1,e2,fun r hr=>by have:=e3 r hr;exact⟨by omega,by omega,this.2.2⟩,e4,fun c' ha hok=> ?_⟩
   obtain⟨q1,q2⟩:=e5 c' ha hok
   refine⟨?_,q2⟩
   rw [if_neg hag]
   have hl:=q1.len
   generalize (zas P nx (zfS x (zaY P t)) 0 (zaz P t) fl).1=l at q1 hl
   match l,hl with
   | [s],_=>exact q1
 ·rename_i hf
  simp only [hf,if_false,Bool.false_eq_true]
  obtain⟨h1,rfl⟩:=h
  exact⟨[],rfl,rfl,by simp,by simp,fun c' ha hok=>⟨.e (f:=rf) (by rw [ha.w,ha.ρ,hx];exact h1) hok .nil,by simp⟩⟩
theorem zqS {ts:List TypeId} {fl:List Bool} {x:E} {vs:List Value} {ys:List AV} {rf hs:List Nat} (h:zrU P w' ts fl vs ys rf hs): ∀(nx i:Nat),(∀k y,ys[k]?=some y→(E.proj x (i+k)).den c.ρ=y)→
  ∃recs:List Chg,(zgS P nx ts fl x i).2=recs.map Chg.pair∧recs.flatMap Chg.top=hs∧(∀r∈recs,nx≤r.tag∧r.tag<nx+(ts.flatMap (zaz P)).length∧r.new.isSome)∧(recs.map Chg.tag).Nodup∧
   ∀c',Aft c c' w' recs→(∀b∈rf,c'.ok b)→SR c' (zgS P nx ts fl x i).1 vs∧ ∀r∈recs,zkI c' r.tag r.ent:=by
 induction h with
 |nil=>exact fun nx i _=>⟨[],rfl,rfl,by simp,by simp,fun c' _ _=>⟨.nil,by simp⟩⟩
 | @cons t ts fl v vs y ys f h rf hs h1 _ ih=>
  intro nx i hx
  obtain⟨r1,a1,a2,a3,a4,a5⟩:=zl4 (c:=c) (nx:=nx) (x:= .proj x i) h1 (hx 0 y rfl)
  obtain⟨r2,b1,b2,b3,b4,b5⟩:=ih (nx+(zaz P t).length) (i+1) (fun k z hz=>by rw [show i+1+k=i+(k+1)from by omega];exact hx (k+1) z (by simpa using hz))
  simp only [zgS]
  refine⟨r1++r2,by simp [a1,b1],by simp [a2,b2],fun r hr=> ?_, ?_,fun c' ha hok=> ?_⟩
  ·simp only [List.flatMap_cons,List.length_append]
   rcases List.mem_append.1 hr with hr|hr
   ·have:=a3 r hr;exact⟨this.1,by omega,this.2.2⟩
   ·have:=b3 r hr;exact⟨by omega,by omega,this.2.2⟩
  ·rw [List.map_append,List.nodup_append]
   refine⟨a4,b4,fun t1 ht1 t2 ht2 he=> ?_⟩
   obtain⟨q1,hq1,rfl⟩:=List.mem_map.1 ht1
   obtain⟨q2,hq2,rfl⟩:=List.mem_map.1 ht2
   have:=a3 q1 hq1
   have:=b3 q2 hq2
   omega
  ·obtain⟨p1,p2⟩:=a5 c' (ha.mono fun r hr=>by simp [hr]) fun b hb=>hok b (by simp [hb])
   obtain⟨q1,q2⟩:=b5 c' (ha.mono fun r hr=>by simp [hr]) fun b hb=>hok b (by simp [hb])
   refine⟨p1.cons q1,fun r hr=> ?_⟩
   rcases List.mem_append.1 hr with hr|hr
   ·exact p2 r hr
   ·exact q2 r hr
end
end Go.Proofs.YtecngjbpbnfegaaGreatDoor
end
section
namespace Go.Proofs.YtecngjbpbnfegaaGreatDoor
open Go.RowKit
theorem zis {α:Type} {f:α→List Nat}: ∀{l:List α},(l.flatMap f).Nodup→(∀a∈l,(f a).Nodup)∧ ∀(i j:Nat) (a b:α) (x:Nat),l[i]?=some a→l[j]?=some b→x∈f a→x∈f b→i=j
 | [],_=>⟨by simp,by simp⟩
 |a::l,h=>by
  rw [List.flatMap_cons,List.nodup_append]at h
  obtain⟨h1,h2,h3⟩:=h
  obtain⟨k1,k2⟩:=zis h2
  refine⟨fun b hb=> ?_,fun i j p q x hi hj hp hq=> ?_⟩
  ·rcases List.mem_cons.1 hb with rfl|hb
   ·exact h1
   ·exact k1 b hb
  ·cases i with
   |zero=>
    cases j with
    |zero=>rfl
    |succ j=>
     simp at hi hj;subst hi
     exact absurd rfl (h3 x hp x (List.mem_flatMap.2 ⟨q,List.mem_of_getElem? hj,hq⟩))
   |succ i=>
    cases j with
    |zero=>
     simp at hi hj;subst hj
     exact absurd rfl (h3 x hq x (List.mem_flatMap.2 ⟨p,List.mem_of_getElem? hi,hp⟩))
    |succ j=>rw [k2 i j p q x (by simpa using hi) (by simpa using hj) hp hq]
theorem ziC {recs:List Chg} (hn:(recs.map Chg.tag).Nodup) {r:Chg} (hr:r∈recs) (p:Chg→Bool) (hp:p r=true) (hpt: ∀q,p q=true→q.tag=r.tag):recs.find? p=some r:=by
 induction recs with
 |nil=>simp at hr
 |cons q recs ih=>
  simp only [List.map_cons,List.nodup_cons]at hn
  rw [List.find?_cons]
  rcases List.mem_cons.1 hr with rfl|hr
  ·simp [hp]
  ·have:p q=false:=by
    cases hq:p q with
    |false=>rfl
    |true=>exact absurd (List.mem_map.2 ⟨r,hr,(hpt q hq).symm⟩) hn.1
   rw [this];exact ih hn.2 hr
def Cx.chg (c:Cx) (w':World) (recs:List Chg):Cx:=
 {c with w:=w',G:=fun t=>(match recs.find? (fun r=>r.tag==t)with|some r=>⟨r.top, []⟩|none=>c.G t),K:=fun t g=>c.K t g∨ ∃r∈recs,r.tag=t∧r.new.isSome=true∧g=0,H:=fun t g=>(match recs.find? (fun r=>r.tag==t&&r.new.isSome)with|some r=>r.new.getD undef|none=>c.H t g),U:=fun t=>c.U t∨ ∃r∈recs,r.tag=t,E:=fun t=>match recs.find? (fun r=>r.tag==t)with|some r=>if r.new.isSome then 0 else c.E t+1|none=>c.E t}
section
variable {P:Program} {c:Cx} {n:Nat} {sl:Nat→SV} {hp:Nat→Option Ent} {a:Act} {w':World} {recs:List Chg}
theorem Cx.chg_G (hn:(recs.map Chg.tag).Nodup) {r:Chg} (hr:r∈recs):(c.chg w' recs).G r.tag=⟨r.top, []⟩:=by
 simp only [Cx.chg]
 rw [ziC hn hr (fun q=>q.tag==r.tag) (by simp) (fun q hq=>by simpa using hq)]
theorem Cx.chg_G' {t:Nat} (ht: ∀r∈recs,r.tag≠t):(c.chg w' recs).G t=c.G t:=by
 simp only [Cx.chg]
 have:recs.find? (fun r=>r.tag==t)=none:=by
  rw [List.find?_eq_none]
  intro r hr
  simpa using ht r hr
 rw [this]
theorem Cx.chg_aft (hU: ∀t g,c.K t g→c.U t) (hn:(recs.map Chg.tag).Nodup) (hnew: ∀r∈recs,r.new.isSome=true→ ¬c.U r.tag):Aft c (c.chg w' recs) w' recs:=by
 refine⟨rfl,rfl,fun r hr=>Cx.chg_G hn hr,fun r hr hv hrv=>⟨.inr ⟨r,hr,rfl,by simp [hrv],rfl⟩,fun g hg=> ?_, ?_⟩,fun t g hk=>⟨.inl hk, ?_⟩,fun t ht g hk=> ?_,fun r hr hs=> ?_,fun r hr hs=> ?_⟩
 ·rcases hg with hg|⟨_,_,_,_,rfl⟩
  ·exact absurd (hU _ _ hg) (hnew r hr (by simp [hrv]))
  ·exact Nat.le_refl _
 ·simp only [Cx.chg]
  rw [ziC hn hr (fun q=>q.tag==r.tag&&q.new.isSome) (by simp [hrv]) (fun q hq=>by simp only [Bool.and_eq_true,beq_iff_eq]at hq;exact hq.1)]
  simp [hrv]
 ·simp only [Cx.chg]
  have:recs.find? (fun r=>r.tag==t&&r.new.isSome)=none:=by
   rw [List.find?_eq_none]
   rintro r hr hh
   simp only [Bool.and_eq_true,beq_iff_eq]at hh
   exact hnew r hr hh.2 (hh.1▸hU t g hk)
  rw [this]
 ·rcases hk with hk|⟨r,hr,rfl,hh,_⟩
  ·exact hk
  ·exact absurd ht (hnew r hr hh)
 ·simp only [Cx.chg]
  rw [ziC hn hr (fun q=>q.tag==r.tag) (by simp) (fun q hq=>by simpa using hq)]
  simp [hs]
 ·simp only [Cx.chg]
  rw [ziC hn hr (fun q=>q.tag==r.tag) (by simp) (fun q hq=>by simpa using hq)]
  simp [hs]
theorem Cx.chg_E' {t:Nat} (ht: ∀r∈recs,r.tag≠t):(c.chg w' recs).E t=c.E t:=by
 simp only [Cx.chg]
 have:recs.find? (fun r=>r.tag==t)=none:=by
  rw [List.find?_eq_none]
  intro r hr
  simpa using ht r hr
 rw [this]
theorem Rel.changes (h:Rel c n sl hp a) {hs:List Nat} {gs:Gd} (k:zeF c.ρ gs) (hmod:Mod hs c.w w') (hn:(recs.map Chg.tag).Nodup) (hnew: ∀r∈recs,r.new.isSome=true→ ¬c.U r.tag)
  (hhs: ∀b∈hs,∃r∈recs,b∈(c.G r.tag).top) (htops:(recs.flatMap Chg.top).Nodup) (hin: ∀r∈recs,∀b∈r.top,(b∈hs∨c.w.heap.size≤b)∧b<w'.heap.size)
  (hne: ∀r∈recs,∀hs f,r.ent≠ .gd hs f) (hent:zm4 c (c.chg w' recs)→ ∀r∈recs,zkI (c.chg w' recs) r.tag r.ent):
  Rel (c.chg w' recs) n sl (zeH hp (recs.map fun r=>(r.tag,zeG gs r.ent))) a∧zm4 c (c.chg w' recs):=by
 have aft:=Cx.chg_aft (w':=w') h.usedK hn hnew
 have hsM: ∀b∈hs,c.M b:=fun b hb=>by obtain⟨r,_,hr⟩:=hhs b hb;exact⟨_,hr⟩
 have hown: ∀b∈hs,c.B≤b∨c.Mu b:=fun b hb=>by obtain⟨r,_,hr⟩:=hhs b hb;exact h.gw.allow r.tag b (by simp [GI.own,hr])
 have hkeep:zm4 c (c.chg w' recs):=by
  refine⟨rfl,fun b hb hok=>⟨fun⟨t,ht⟩=> ?_,hok.2⟩,fun b hb hok=>hmod.block b hb fun hh=>hok.1 (hsM b hh),aft.K,fun t g hk=> ?_⟩
  by_cases hT: ∃r∈recs,r.tag=t
  ·obtain⟨r,hr,rfl⟩:=hT
   rw [Cx.chg_G hn hr]at ht
   rcases(hin r hr b ht).1 with hh|hh
   ·exact hok.1 (hsM b hh)
   ·omega
  ·rw [Cx.chg_G' fun r hr hh=>hT ⟨r,hr,hh⟩]at ht
   exact hok.1 ⟨t,ht⟩
  ·by_cases hT: ∃r∈recs,r.tag=t
   ·obtain⟨r,hr,rfl⟩:=hT
    have hno:r.new=none:=by
     cases hh:r.new with
     |none=>rfl
     |some v=>exact absurd (h.usedK _ _ hk) (hnew r hr (by simp [hh]))
    rw [aft.oldE r hr hno]
    exact⟨by omega,fun h=>by omega⟩
   ·have hT': ∀r∈recs,r.tag≠t:=fun r hr hh=>hT ⟨r,hr,hh⟩
    rw [Cx.chg_E' hT',Cx.chg_G' hT']
    refine⟨Nat.le_refl _,fun _=>⟨rfl,fun b hb hb2=>hmod.block b hb2 fun hh=> ?_⟩⟩
    obtain⟨r,hr,hb3⟩:=hhs b hh
    exact h.gw.disj t r.tag (fun hh=>hT ⟨r,hr,hh.symm⟩) b (by simp [GI.own,hb]) (by simp [GI.own,hb3])
 have hent:=hent hkeep
 have huniq: ∀r∈recs,∀e',(r.tag,e')∈(recs.map fun r=>(r.tag,zeG gs r.ent))→e'=zeG gs r.ent:=by
  intro r hr e' he'
  obtain⟨q,hq,hqe⟩:=List.mem_map.1 he'
  simp only [Prod.mk.injEq]at hqe
  obtain⟨h1,rfl⟩:=hqe
  have e1:=Cx.chg_G (c:=c) (w':=w') hn hr
  have:q=r:=by
   have f1:=ziC hn hr (fun q=>q.tag==r.tag) (by simp) (fun q hq=>by simpa using hq)
   have f2:=ziC hn hq (fun p=>p.tag==r.tag) (by simp [h1]) (fun p hp=>by rw [h1];simpa using hp)
   rw [f1]at f2;cases f2;rfl
  rw [this]
 refine⟨h.change (fun t=> ∃r∈recs,r.tag=t) hkeep ⟨hmod.os.trans h.base.os,hmod.tape.trans h.base.tape,hmod.output.trans h.base.output,Nat.le_trans h.base.size hmod.size,fun t v hpv=>⟨.inl (h.base.pins t v hpv).1,fun hk=> ?_⟩,fun b hb hmu=> ?_⟩
  (fun t ht=>⟨zhq fun e he=> ?_,Cx.chg_G' fun r hr hh=>ht ⟨r,hr,hh⟩,Cx.chg_E' fun r hr hh=>ht ⟨r,hr,hh⟩,fun g hg=> ?_⟩) (fun t ht b hb=>hmod.block b (h.gw.inb t b (by simp [GI.own,hb])) fun hh=> ?_) (fun t ht=> ?_) ⟨fun t=> ?_,fun t u htu b hb hb'=> ?_,fun t b hb=> ?_,fun t b hb=> ?_⟩ (fun t g hk=> ?_) (fun t e he=> ?_),hkeep⟩
 ·have hk':=aft.old t (h.base.pins t v hpv).1 0 hk
  rw [(aft.K t 0 hk').2];exact(h.base.pins t v hpv).2 hk'
 ·refine(hmod.block b (Nat.lt_of_lt_of_le hb h.base.size) fun hh=> ?_).trans (h.base.block b hb hmu)
  rcases hown b hh with h1|h1
  ·exact absurd h1 (Nat.not_le.2 hb)
  ·exact hmu h1
 ·obtain⟨q,hq,hqe⟩:=List.mem_map.1 he
  simp only [Prod.mk.injEq]at hqe
  exact ht ⟨q,hq,hqe.1⟩
 ·rcases hg with hg|⟨r,hr,hrt,_⟩
  ·exact hg
  ·exact absurd ⟨r,hr,hrt⟩ ht
 ·obtain⟨r,hr,hb2⟩:=hhs b hh
  exact h.gw.disj t r.tag (fun hh=>ht ⟨r,hr,hh.symm⟩) b (by simp [GI.own,hb]) (by simp [GI.own,hb2])
 ·obtain⟨r,hr,rfl⟩:=ht
  have hup:=zsN (hp:=hp) (l:=recs.map fun r=>(r.tag,zeG gs r.ent)) (List.mem_map.2 ⟨r,hr,rfl⟩) (huniq r hr)
  rw [hup]
  refine⟨fun e' hre=> ?_,fun hno=> ?_⟩
  ·rw [(ziG k (hne r hr)).1 hre];exact hent r hr
  ·exact absurd ((ziG k (hne r hr)).2 rfl) (hno r.ent)
 ·by_cases hT: ∃r∈recs,r.tag=t
  ·obtain⟨r,hr,rfl⟩:=hT
   rw [Cx.chg_G hn hr]
   simpa [GI.own]using(zis htops).1 r hr
  ·rw [Cx.chg_G' fun r hr hh=>hT ⟨r,hr,hh⟩];exact h.gw.nodup t
 ·by_cases hT: ∃r∈recs,r.tag=t
  ·obtain⟨r,hr,rfl⟩:=hT
   rw [Cx.chg_G hn hr]at hb
   simp only [GI.own,List.append_nil]at hb
   by_cases hV: ∃r∈recs,r.tag=u
   ·obtain⟨q,hq,rfl⟩:=hV
    rw [Cx.chg_G hn hq]at hb'
    simp only [GI.own,List.append_nil]at hb'
    obtain⟨i,hi⟩:=List.getElem?_of_mem hr
    obtain⟨j,hj⟩:=List.getElem?_of_mem hq
    have:=(zis htops).2 i j r q b hi hj hb hb'
    subst this
    rw [hi]at hj;cases hj;exact htu rfl
   ·rw [Cx.chg_G' fun r hr hh=>hV ⟨r,hr,hh⟩]at hb'
    rcases(hin r hr b hb).1 with hh|hh
    ·obtain⟨q,hq,hbq⟩:=hhs b hh
     exact h.gw.disj q.tag u (fun hh=>hV ⟨q,hq,hh⟩) b (by simp [GI.own,hbq]) hb'
    ·have:=h.gw.inb u b hb';omega
  ·rw [Cx.chg_G' fun r hr hh=>hT ⟨r,hr,hh⟩]at hb
   by_cases hV: ∃r∈recs,r.tag=u
   ·obtain⟨q,hq,rfl⟩:=hV
    rw [Cx.chg_G hn hq]at hb'
    simp only [GI.own,List.append_nil]at hb'
    rcases(hin q hq b hb').1 with hh|hh
    ·obtain⟨r,hr,hbr⟩:=hhs b hh
     exact h.gw.disj r.tag t (fun hh=>hT ⟨r,hr,hh⟩) b (by simp [GI.own,hbr]) hb
    ·have:=h.gw.inb t b hb;omega
   ·rw [Cx.chg_G' fun r hr hh=>hV ⟨r,hr,hh⟩]at hb'
    exact h.gw.disj t u htu b hb hb'
 ·by_cases hT: ∃r∈recs,r.tag=t
  ·obtain⟨r,hr,rfl⟩:=hT
   rw [Cx.chg_G hn hr]at hb
   simp only [GI.own,List.append_nil]at hb
   rcases(hin r hr b hb).1 with hh|hh
   ·exact hown b hh
   ·exact .inl (Nat.le_trans h.base.size hh)
  ·rw [Cx.chg_G' fun r hr hh=>hT ⟨r,hr,hh⟩]at hb
   exact h.gw.allow t b hb
 ·by_cases hT: ∃r∈recs,r.tag=t
  ·obtain⟨r,hr,rfl⟩:=hT
   rw [Cx.chg_G hn hr]at hb
   simp only [GI.own,List.append_nil]at hb
   exact(hin r hr b hb).2
  ·rw [Cx.chg_G' fun r hr hh=>hT ⟨r,hr,hh⟩]at hb
   exact Nat.lt_of_lt_of_le (h.gw.inb t b hb) hmod.size
 ·rcases hk with hk|⟨r,hr,hrt,_⟩
  ·exact .inl (h.usedK t g hk)
  ·exact .inr ⟨r,hr,hrt⟩
 ·by_cases hT: ∃r∈recs,r.tag=t
  ·exact .inr hT
  ·rw [zhq]at he
   ·exact .inl (h.usedH t e he)
   ·intro e' he'
    obtain⟨q,hq,hqe⟩:=List.mem_map.1 he'
    simp only [Prod.mk.injEq]at hqe
    exact hT ⟨q,hq,hqe.1⟩
end
end Go.Proofs.YtecngjbpbnfegaaGreatDoor
end
section
namespace Go.Proofs.YtecngjbpbnfegaaGreatDoor
open Go.RowKit
def zCp (P:Program) (w:World) (t:TypeId):PM→Value→AV→List Nat→List Nat→Prop
 | .ro,v,x,rf,hs=>Rd w [v] [x] rf∧hs= []
 | .va own,v,x,rf,hs=>zvJ P w t own v x rf hs
 | .mu own,v,x,rf,hs=>zvJ P w t own v x rf hs
 | .bx own _,v,x,rf,hs=> ∃(ty:TypeId) (b:Nat) (C:Array Value) (ys:List AV) (h:List Nat),zxM P t=some ty∧v= .pointer (some ⟨b,0,none⟩)∧w.heap[b]?=some (.cells C ty (0,0))∧(∀u∈C.toList,u.oneCell'=true)∧x= .ref (.agg ys)∧
   zb0 P w (zaz P ty) own C.toList ys rf h∧hs=b::h
inductive zhp (P:Program) (w:World):List TypeId→List PM→List Value→List AV→List Nat→List Nat→Prop where
 |nil {ms}:zhp P w [] ms [] [] [] []
 |cons {t ts ms v vs x xs f h rf hs}:zCp P w t (ms.headD .ro) v x f h→zhp P w ts ms.tail vs xs rf hs→zhp P w (t::ts) ms (v::vs) (x::xs) (f++rf) (h++hs)
 |free {ms v vs x xs f rf hs}:Rd w [v] [x] f→zhp P w [] ms.tail vs xs rf hs→zhp P w [] ms (v::vs) (x::xs) (f++rf) hs
inductive zlI (P:Program) (c:Cx):List TypeId→List Bool→List Value→List (Option RI)→Prop where
 |nil {fl}:zlI P c [] fl [] []
 |row {t ts fl v vs u g el rs}:fl.headD false=true→ze9 P t=some el→(zgC P el=true∨zp3 P t=none)→c.K u g→c.H u g=v→(∀g',c.K u g'→g'≤g)→zlI P c ts fl.tail vs rs→zlI P c (t::ts) fl (v::vs) (some (.fl u g el (P.cellsOf el))::rs)
 |deep {t ts fl v vs u g el e z l ep rs}:fl.headD false=true→ze9 P t=some el→zgC P el=false→zp3 P t=some (.row e z (DTL.of l))→c.K u g→c.H u g=v→(∀g',c.K u g'→g'≤g)→c.E u=ep→zlI P c ts fl.tail vs rs→zlI P c (t::ts) fl (v::vs) (some (.dp u g e z l ep)::rs)
 |none {t ts fl v vs rs}:zlI P c ts fl.tail vs rs→zlI P c (t::ts) fl (v::vs) (none::rs)
inductive zft (P:Program) (c:Cx):List TypeId→List PM→List Value→List PA→Prop where
 |nil {ts ms}:zft P c ts ms [] []
 |ro {ts ms v vs bs}:ms.headD .ro= .ro→zft P c ts.tail ms.tail vs bs→zft P c ts ms (v::vs) bs
 |va {ts ms own v vs bs us}:ms.headD .ro= .va own→(∀u∈us,c.U u)→zft P c ts.tail ms.tail vs bs→zft P c ts ms (v::vs) (.va us::bs)
 |mu {t ts ms own v vs bs us rs}:ms.headD .ro= .mu own→(if zaY P t then v= .agg us.toArray else us= [v])→zlI P c (zaz P t) own us rs→zft P c ts ms.tail vs bs→zft P c (t::ts) ms (v::vs) (.mu rs (zaY P t)::bs)
 |bx {t ts ms own own' ty v vs bs T b g olds}:ms.headD .ro= .bx own own'→zxM P t=some ty→v= .pointer (some ⟨b,0,none⟩)→c.K T 0→c.H T 0=v→(∀u∈olds,c.U u)→zft P c ts ms.tail vs bs→zft P c (t::ts) ms (v::vs) (.box T g own' ty olds::bs)
section
variable {P:Program} {c:Cx} {hp:Nat→Option Ent} {gs:Gd}
theorem zoL {t el:TypeId} {d:DT} (hel:ze9 P t=some el) (h:zp3 P t=some d):P.cellsOf el≠0∧(zaz P el).length=P.cellsOf el∧ ∃l:List DT,d= .row el (P.cellsOf el) (DTL.of l)∧l.length=P.cellsOf el:=by
 have hu:=ze3 hel
 unfold zp3 at h
 simp only [dtN,hu]at h
 split at h
 ·cases h
 ·rename_i hh
  simp only [not_or,Decidable.not_not,ne_eq]at hh
  obtain⟨l,hl,rfl⟩:=Option.map_eq_some_iff.1 h
  exact⟨hh.1,hh.2,l,rfl,by rw [mapM_len _ _ hl];exact hh.2⟩
where
 mapM_len {α β:Type} {f:α→Option β}: ∀(l:List α) (l':List β),l.mapM f=some l'→l'.length=l.length
  | [],l',h=>by simp at h;subst h;rfl
  |a::l,l',h=>by
   simp only [List.mapM_cons,Option.bind_eq_bind,Option.bind_eq_some_iff,Option.pure_def,Option.some.injEq]at h
   obtain⟨b,_,bs,hbs,rfl⟩:=h
   simp [mapM_len l bs hbs]
theorem zb0.void {w:World} {t el:TypeId} {ts:List TypeId} {fl:List Bool} {a:Option Addr} {us:List Value} {ys:List AV} {rf hs:List Nat} (h1:fl.headD false=true) (h2:ze9 P t=some el) (hz:P.cellsOf el≠0) (h:zb0 P w ts fl.tail us ys rf hs):zb0 P w (t::ts) fl (.slice a 0 0::us) (.sl []::ys) rf ([]++hs):=by
 have hown:zdF w el (P.cellsOf el) (.slice a 0 0) (.sl []) [] []:=⟨[],rfl,by simp,by omega, .inl ⟨rfl,⟨a,rfl⟩,rfl,rfl⟩⟩
 cases hf:zgC P el with
 |true=>exact .own h1 h2 (.inl hf) hown h
 |false=>
  cases hd:zp3 P t with
  |none=>exact .own h1 h2 (.inr hd) hown h
  |some d=>
   obtain⟨_,_,l,rfl,hl⟩:=zoL h2 hd
   exact .deep h1 h2 hf hd (.void (by omega) (by rw [DTL.toList_of];exact hl) .nil) h
theorem zt5 {as bs:List Value} (h:Value.agg as.toArray= .agg bs.toArray):as=bs:=by
 have h1:as.toArray=bs.toArray:=by injection h
 have:=congrArg Array.toList h1
 simpa using this
theorem zjy (eh:EH c hp) (k:zeF c.ρ gs) (hU: ∀t g,c.K t g→c.U t): ∀(ts:List TypeId) {cs:List SV} {fl:List Bool} {rs:List (Option RI)} {us:List Nat} {vs:List Value} {xs:EL} {m:Nat},zc1 P hp gs ts cs fl=some (rs,us)→SR c cs vs→zdI hp gs m cs=some xs→m≤zaj→
  ∃rf hs,zb0 P c.w ts fl vs (xs.den c.ρ) rf hs∧(∀b∈rf,c.see us b)∧hs=(zb6 rs).flatMap (fun t=>(c.G t).top)∧zlI P c ts fl vs rs∧ ∀u∈zb6 rs,c.U u
 | [], [],fl,rs,us,vs,xs,m,h,hs,hx,hm=>by
  simp [zc1]at h;obtain⟨rfl,rfl⟩:=h
  cases hs
  cases m with
  |zero=>simp [zdI]at hx
  |succ m=>simp [zdI]at hx;subst hx;exact⟨[], [], .nil,by simp,by simp [zb6], .nil,by simp [zb6]⟩
 | [],s::cs,fl,rs,us,vs,xs,m,h,hs,hx,hm=>by simp [zc1]at h
 |t::ts, [],fl,rs,us,vs,xs,m,h,hs,hx,hm=>by simp [zc1]at h
 |t::ts,s::cs,fl,rs,us, [],xs,m,h,hs,hx,hm=>by have:=hs.len;simp at this
 |t::ts,s::cs,fl,rs,us,v::vs,xs,m,h,hs,hx,hm=>by
  obtain⟨j,y,ys,rfl,hy,hys,rfl⟩:=zey hx
  obtain⟨r1,r2⟩:=hs.uncons
  unfold zc1 at h
  split at h
  ·cases h
  rename_i rs' us' hrec
  obtain⟨rf,hs',q1,q2,q3,q4,q5⟩:=zjy eh k hU ts hrec r2 hys (by omega)
  split at h
  ·rename_i hf
   split at h
   ·rename_i r hr
    simp only [Option.some.injEq,Prod.mk.injEq]at h
    obtain⟨rfl,rfl⟩:=h
    unfold zr0 at hr
    split at hr
    ·cases hr
    rename_i el hel
    split at hr
    ·cases hr
    rename_i hz
    have empt: ∀a,v= .slice a 0 0→y.den c.ρ= .sl []→r=none→ ∃rf hs,zb0 P c.w (t::ts) fl (v::vs) ((EL.cons y ys).den c.ρ) rf hs∧(∀b∈rf,c.see us' b)∧hs=(zb6 (r::rs')).flatMap (fun t=>(c.G t).top)∧zlI P c (t::ts) fl (v::vs) (r::rs')∧ ∀u∈zb6 (r::rs'),c.U u:=by
     rintro a rfl hy0 rfl
     refine⟨rf, []++hs', ?_,q2,by simpa [zb6]using q3, .none q4,by simpa [zb6]using q5⟩
     rw [EL.den,hy0]
     exact zb0.void hf hel (by omega) q1
    split at hr
    ·simp only [Option.some.injEq]at hr;subst hr
     cases r1 with
     |nils _=>exact empt _ rfl (by rw [zfX hy];rfl) rfl
    ·simp only [Option.some.injEq]at hr;subst hr
     cases r1 with
     |emp _=>
      refine empt _ rfl ?_ rfl
      cases j with
      |zero=>simp [zfb]at hy
      |succ j=>simp [zfb]at hy;subst hy;rfl
    ·rename_i u g
     split at hr
     ·rename_i e z g' x hl
      split at hr
      ·rename_i hh
       obtain⟨rfl,rfl,rfl,hfd⟩:=hh
       have hfd:zgC P e=true∨zp3 P t=none:=hfd.imp id (by simp)
       simp only [Option.some.injEq]at hr;subst hr
       obtain⟨p1,p2,N,p3,p4,p5,_⟩:=eh u _ (zaV hl k)
       obtain⟨hN,_⟩:=p5 rfl
       have hN:N= []:=hN
       subst hN
       have hyx:y=x:=by
        cases j with
        |zero=>simp [zfb]at hy
        |succ j=>simp [zfb,zd2,hl]at hy;exact hy.symm
       subst hyx
       have hv:c.H u g=v:=by
        cases r1 with
        |own _ k2 _=>exact k2
       rw [hv]at p3
       refine⟨rf,(c.G u).top++hs',zb0.own hf hel hfd p3 q1,q2,by simp [zb6,RI.tag,q3], .row hf hel hfd p1 hv p2 q4,fun w hw=> ?_⟩
       simp only [zb6,List.filterMap_cons,Option.map_some,RI.tag,List.mem_cons]at hw
       rcases hw with rfl|hw
       ·exact hU _ _ p1
       ·exact q5 w hw
      ·cases hr
     ·rename_i e z l g' ep x hl
      split at hr
      ·rename_i hh
       obtain⟨rfl,hnf,hdt⟩:=hh
       have hdt:=zks hdt
       simp only [Option.some.injEq]at hr;subst hr
       obtain⟨p1,p2,pE,p3,_⟩:=eh u _ (zaV hl k)
       have hyx:y=x:=by
        cases j with
        |zero=>simp [zfb]at hy
        |succ j=>simp [zfb,zd2,hl]at hy;exact hy.symm
       subst hyx
       have hv:c.H u g=v:=by
        cases r1 with
        |own _ k2 _=>exact k2
       rw [hv]at p3
       refine⟨rf,(c.G u).top++hs',zb0.deep hf hel hnf hdt p3 q1,q2,by simp [zb6,RI.tag,q3], .deep hf hel hnf hdt p1 hv p2 pE q4,fun w hw=> ?_⟩
       simp only [zb6,List.filterMap_cons,Option.map_some,RI.tag,List.mem_cons]at hw
       rcases hw with rfl|hw
       ·exact hU _ _ p1
       ·exact q5 w hw
      ·cases hr
     ·cases hr
    ·cases hr
   ·cases h
  ·rename_i hf
   simp only [Option.some.injEq,Prod.mk.injEq]at h
   obtain⟨rfl,rfl⟩:=h
   obtain⟨f,p1,p2⟩:=zhe eh k j hy r1 zaj (by omega)
   refine⟨f++rf,hs',zb0.rd (fun hh=>absurd hh hf) p1 q1,fun b hb=> ?_,by simpa [zb6]using q3, .none q4,by simpa [zb6]using q5⟩
   rcases List.mem_append.1 hb with hb|hb
   ·exact(p2 b hb).mono fun t ht=>by simp [ht]
   ·exact(q2 b hb).mono fun t ht=>by simp [ht]
theorem zoW (eh:EH c hp) (k:zeF c.ρ gs) (hU: ∀t g,c.K t g→c.U t) {t:TypeId} {s:SV} {v:Value} {fl:List Bool} {rs:List (Option RI)} {us:List Nat} {x:E} (hs:SR c [s] [v]) (hx:zfb hp gs zaj s=some x) (hg:(zeD s).2=zaY P t)
  (h:zc1 P hp gs (zaz P t) (zeD s).1 fl=some (rs,us)):
  ∃rf hs,zvJ P c.w t fl v (x.den c.ρ) rf hs∧(∀b∈rf,c.see us b)∧hs=(zb6 rs).flatMap (fun t=>(c.G t).top)∧(∃vs',(if zaY P t then v= .agg vs'.toArray else vs'= [v])∧zlI P c (zaz P t) fl vs' rs)∧ ∀u∈zb6 rs,c.U u:=by
 have single: ∀(s:SV),SR c [s] [v]→zfb hp gs zaj s=some x→zaY P t=false→zc1 P hp gs (zaz P t) [s] fl=some (rs,us)→ ∃rf hs,zvJ P c.w t fl v (x.den c.ρ) rf hs∧(∀b∈rf,c.see us b)∧hs=(zb6 rs).flatMap (fun t=>(c.G t).top)∧(∃vs',(if zaY P t then v= .agg vs'.toArray else vs'= [v])∧zlI P c (zaz P t) fl vs' rs)∧ ∀u∈zb6 rs,c.U u:=by
  intro s hs hx hag h
  obtain⟨t0,ht0⟩: ∃t0,zaz P t= [t0]:=by
   cases hh:zaz P t with
   |nil=>rw [hh]at h;simp [zc1]at h
   |cons t0 l=>
    cases l with
    |nil=>exact⟨t0,rfl⟩
    |cons t1 l=>rw [hh]at h;simp [zc1]at h
  rw [ht0]at h
  have key: ∃rf hs,zb0 P c.w [t0] fl [v] [x.den c.ρ] rf hs∧(∀b∈rf,c.see us b)∧hs=(zb6 rs).flatMap (fun t=>(c.G t).top)∧zlI P c [t0] fl [v] rs∧ ∀u∈zb6 rs,c.U u:=by
   unfold zc1 at h
   simp only [zc1]at h
   split at h
   ·rename_i hf
    split at h
    ·rename_i r hr
     simp only [Option.some.injEq,Prod.mk.injEq]at h
     obtain⟨rfl,rfl⟩:=h
     unfold zr0 at hr
     split at hr
     ·cases hr
     rename_i el hel
     split at hr
     ·cases hr
     rename_i hz
     have empt: ∀a,v= .slice a 0 0→x.den c.ρ= .sl []→r=none→ ∃rf hs,zb0 P c.w [t0] fl [v] [x.den c.ρ] rf hs∧(∀b∈rf,c.see ([]:List Nat) b)∧hs=(zb6 [r]).flatMap (fun t=>(c.G t).top)∧zlI P c [t0] fl [v] [r]∧ ∀u∈zb6 [r],c.U u:=by
      rintro a rfl hy0 rfl
      refine⟨[], []++ [], ?_,by simp,by simp [zb6], .none .nil,by simp [zb6]⟩
      rw [hy0]
      exact zb0.void hf hel (by omega) .nil
     split at hr
     ·simp only [Option.some.injEq]at hr;subst hr
      cases hs with
      |nils _=>exact empt _ rfl (by rw [zfX hx];rfl) rfl
     ·simp only [Option.some.injEq]at hr;subst hr
      cases hs with
      |emp _=>
       refine empt _ rfl ?_ rfl
       simp [zaj,zfb]at hx;subst hx;rfl
     ·rename_i u g
      split at hr
      ·rename_i e z g' x0 hl
       split at hr
       ·rename_i hh
        obtain⟨rfl,rfl,rfl,hfd⟩:=hh
        have hfd:zgC P e=true∨zp3 P t0=none:=hfd.imp id (by simp)
        simp only [Option.some.injEq]at hr;subst hr
        obtain⟨p1,p2,N,p3,p4,p5,_⟩:=eh u _ (zaV hl k)
        obtain⟨hN,_⟩:=p5 rfl
        have hN:N= []:=hN
        subst hN
        have hyx:x=x0:=by
         simp [zaj,zfb,zd2,hl]at hx;exact hx.symm
        subst hyx
        have hv:c.H u g=v:=by
         cases hs with
         |own _ k2 _=>exact k2
        rw [hv]at p3
        refine⟨[],(c.G u).top++ [],zb0.own hf hel hfd p3 .nil,by simp,by simp [zb6,RI.tag], .row hf hel hfd p1 hv p2 .nil,fun w hw=> ?_⟩
        simp only [zb6,List.filterMap_cons,Option.map_some,RI.tag,List.filterMap_nil,List.mem_cons,List.not_mem_nil,or_false]at hw
        subst hw
        exact hU _ _ p1
       ·cases hr
      ·rename_i e z l g' ep x0 hl
       split at hr
       ·rename_i hh
        obtain⟨rfl,hnf,hdt⟩:=hh
        have hdt:=zks hdt
        simp only [Option.some.injEq]at hr;subst hr
        obtain⟨p1,p2,pE,p3,_⟩:=eh u _ (zaV hl k)
        have hyx:x=x0:=by
         simp [zaj,zfb,zd2,hl]at hx;exact hx.symm
        subst hyx
        have hv:c.H u g=v:=by
         cases hs with
         |own _ k2 _=>exact k2
        rw [hv]at p3
        refine⟨[],(c.G u).top++ [],zb0.deep hf hel hnf hdt p3 .nil,by simp,by simp [zb6,RI.tag], .deep hf hel hnf hdt p1 hv p2 pE .nil,fun w hw=> ?_⟩
        simp only [zb6,List.filterMap_cons,Option.map_some,RI.tag,List.filterMap_nil,List.mem_cons,List.not_mem_nil,or_false]at hw
        subst hw
        exact hU _ _ p1
       ·cases hr
      ·cases hr
     ·cases hr
    ·cases h
   ·rename_i hf
    simp only [Option.some.injEq,Prod.mk.injEq]at h
    obtain⟨rfl,rfl⟩:=h
    obtain⟨f,p1,p2⟩:=zhe eh k zaj hx hs zaj (Nat.le_refl _)
    refine⟨f++ [], [],zb0.rd (fun hh=>absurd hh hf) p1 .nil,fun b hb=> ?_,by simp [zb6], .none .nil,by simp [zb6]⟩
    rw [List.append_nil]at hb
    exact(p2 b hb).mono fun t ht=>by simp [ht]
  obtain⟨rf,hs',q1,q2,q3,q4,q5⟩:=key
  refine⟨rf,hs',⟨[v], [x.den c.ρ], ?_,by rw [ht0];exact q1⟩,q2,q3,⟨[v], ?_,by rw [ht0];exact q4⟩,q5⟩
  ·rw [if_neg (by rw [hag];simp)];exact⟨rfl,rfl⟩
  ·rw [if_neg (by rw [hag];simp)]
 cases s with
 |agg cs=>
  simp only [zeD]at hg h
  obtain⟨m,l,hm,hl,rfl⟩:=zmI hx
  cases hs with
  |agg h9 h1 h8=>
   rename_i as
   have hm':m≤zaj:=by simp only [zaj]at hm ⊢;omega
   obtain⟨rf,hs',q1,q2,q3,q4,q5⟩:=zjy (P:=P) eh k hU (zaz P t) h h1 hl hm'
   refine⟨rf,hs',⟨as,l.den c.ρ, ?_,q1⟩,q2,q3,⟨as, ?_,q4⟩,q5⟩
   ·rw [if_pos hg.symm];exact⟨rfl,rfl,h9⟩
   ·rw [if_pos hg.symm]
 |_=>exact single _ hs hx hg.symm h
end
end Go.Proofs.YtecngjbpbnfegaaGreatDoor
end
section
namespace Go.Proofs.YtecngjbpbnfegaaGreatDoor
open Go.RowKit
section
variable {P:Program} {c:Cx} {hp:Nat→Option Ent} {gs:Gd}
theorem ztf (eh:EH c hp) (k:zeF c.ρ gs) (hU: ∀t g,c.K t g→c.U t): ∀(ss:List SV) {ts:List TypeId} {ms:List PM} {es:List E} {bs:List PA} {us:List Nat} {vs:List Value},zv9 P hp gs ts ms ss=some (es,bs,us)→SR c ss vs→ts.length≤ss.length→
  ∃rf hs,zhp P c.w ts ms vs (es.map (E.den c.ρ)) rf hs∧(∀b∈rf,c.see us b)∧hs=(zdQ bs).flatMap (fun t=>(c.G t).top)∧zft P c ts ms vs bs∧(∀u∈zdQ bs,c.U u)∧(bs≠ []→gs= [])
 | [],ts,ms,es,bs,us,vs,h,hs,hl=>by
  simp [zv9]at h;obtain⟨rfl,rfl,rfl⟩:=h
  cases hs
  have:ts= []:=List.eq_nil_of_length_eq_zero (by simpa using hl)
  subst this
  exact⟨[], [], .nil,by simp,by simp [zdQ], .nil,by simp [zdQ],by simp⟩
 |s::ss,ts,ms,es,bs,us, [],h,hs,hl=>by have:=hs.len;simp at this
 |s::ss,ts,ms,es,bs,us,v::vs,h,hs,hl=>by
  obtain⟨r1,r2⟩:=hs.uncons
  unfold zv9 at h
  split at h
  ·cases h
  rename_i ys bs' us' hrec
  obtain⟨rf,hs',q1,q2,q3,q4,q5,q6⟩:=ztf eh k hU ss hrec r2 (by simp at hl ⊢;omega)
  have see1: ∀{a b:List Nat} {x:Nat},c.see a x→c.see (a++b) x:=fun h=>h.mono fun t ht=>by simp [ht]
  have see2: ∀{a b:List Nat} {x:Nat},c.see b x→c.see (a++b) x:=fun h=>h.mono fun t ht=>by simp [ht]
  split at h
  ·rename_i hm
   obtain⟨x,hx,hh⟩:=Option.map_eq_some_iff.1 h
   simp only [Prod.mk.injEq]at hh
   obtain⟨rfl,rfl,rfl⟩:=hh
   obtain⟨f,p1,p2⟩:=zhe eh k zaj hx r1 zaj (Nat.le_refl _)
   have hb: ∀b∈f++rf,c.see (zcz hp gs (zaj+1) [s]++us') b:=fun b hb=>by
    rcases List.mem_append.1 hb with hb|hb
    ·exact see1 (p2 b hb)
    ·exact see2 (q2 b hb)
   cases ts with
   |nil=>exact⟨f++rf,hs', .free p1 q1,hb,q3, .ro hm q4,q5,q6⟩
   |cons t ts=>exact⟨f++rf, []++hs', .cons (by rw [hm];exact⟨p1,rfl⟩) q1,hb,q3, .ro hm q4,q5,q6⟩
  ·rename_i own own' hm
   split at h
   ·rename_i ty T hty
    split at h
    ·rename_i ty' g cs hl0
     split at h
     ·cases h
     rename_i hne
     have hne:ty'=ty:=by simpa using hne
     subst hne
     split at h
     ·rename_i xs rs vs' hxs hrs
      simp only [Option.some.injEq,Prod.mk.injEq]at h
      obtain⟨rfl,rfl,rfl⟩:=h
      obtain⟨t,ts,rfl,hpt⟩: ∃t ts',ts=t::ts'∧zxM P t=some ty':=by
       cases ts with
       |nil=>simp at hty
       |cons t ts=>exact⟨t,ts,rfl,by simpa using hty⟩
      obtain⟨b,C,g1,g2,g3,g4,g5,g6,g7⟩:=eh T _ (zaV hl0 k)
      obtain⟨f,h8,p1,p2,p3,p4,p5⟩:=zjy (P:=P) eh k hU (zaz P ty') hrs g7 hxs (Nat.le_refl _)
      have hv:v= .pointer (some ⟨b,0,none⟩):=by
       cases r1 with
       |bptr k1 k2 _=>rw [g2]at k2;cases k2;rfl
      refine⟨f++rf,(b::h8)++hs', .cons ?_ q1,fun x hx=> ?_,by simp [zdQ,p3,q3,g3], .bx hm hpt hv g1 (by rw [g2,hv]) p5 q4,fun u hu=> ?_,fun _=>rfl⟩
      ·rw [hm]
       exact⟨ty',b,C,xs.den c.ρ,h8,hpt,hv,g5,g6,rfl,p1,rfl⟩
      ·rcases List.mem_append.1 hx with hx|hx
       ·exact see1 (p2 x hx)
       ·exact see2 (q2 x hx)
      ·simp only [zdQ,List.cons_append,List.mem_cons,List.mem_append]at hu
       rcases hu with rfl|hu|hu
       ·exact hU _ _ g1
       ·exact p5 u hu
       ·exact q5 u hu
     ·cases h
    ·cases h
   ·cases h
  ·rename_i own hm
   split at h
   ·rename_i t x hty hx
    split at h
    ·cases h
    rename_i hag
    have hag:(zeD s).2=zaY P t:=by simpa using hag
    split at h
    ·rename_i rs vs' hrs
     simp only [Option.some.injEq,Prod.mk.injEq]at h
     obtain⟨rfl,rfl,rfl⟩:=h
     obtain⟨ts,rfl⟩: ∃ts',ts=t::ts':=by
      cases ts with
      |nil=>simp at hty
      |cons t' ts=>simp at hty;exact⟨ts,by rw [hty]⟩
     obtain⟨f,h8,p1,p2,p3,⟨vs9,p4,p5⟩,p6⟩:=zoW (P:=P) eh k hU r1 hx hag hrs
     refine⟨f++rf,h8++hs', .cons (by rw [hm];exact p1) q1,fun x hx=> ?_,by simp [zdQ,p3,q3],by rw [hag];exact .mu hm p4 p5 q4,fun u hu=> ?_,fun _=>rfl⟩
     ·rcases List.mem_append.1 hx with hx|hx
      ·exact see1 (p2 x hx)
      ·exact see2 (q2 x hx)
     ·simp only [zdQ,List.mem_append]at hu
      exact hu.elim (p6 u) (q5 u)
    ·cases h
   ·cases h
  ·rename_i own hm
   split at h
   ·rename_i t x hty hx
    split at h
    ·cases h
    rename_i hag
    have hag:(zeD s).2=zaY P t:=by simpa using hag
    split at h
    ·rename_i rs vs' hrs
     simp only [Option.some.injEq,Prod.mk.injEq]at h
     obtain⟨rfl,rfl,rfl⟩:=h
     obtain⟨ts,rfl⟩: ∃ts',ts=t::ts':=by
      cases ts with
      |nil=>simp at hty
      |cons t' ts=>simp at hty;exact⟨ts,by rw [hty]⟩
     obtain⟨f,h8,p1,p2,p3,⟨vs9,p4,p5⟩,p6⟩:=zoW (P:=P) eh k hU r1 hx hag hrs
     refine⟨f++rf,h8++hs', .cons (by rw [hm];exact p1) q1,fun x hx=> ?_,by simp [zdQ,p3,q3], .va hm p6 q4,fun u hu=> ?_,fun _=>rfl⟩
     ·rcases List.mem_append.1 hx with hx|hx
      ·exact see1 (p2 x hx)
      ·exact see2 (q2 x hx)
     ·simp only [zdQ,List.mem_append]at hu
      exact hu.elim (p6 u) (q5 u)
    ·cases h
   ·cases h
end
inductive MuC (P:Program) (w:World):List TypeId→List Bool→List Value→List AV→List Nat→Prop where
 |nil {fl}:MuC P w [] fl [] [] []
 |own {t ts fl el u us y ys top o}:fl.headD false=true→ze9 P t=some el→(zgC P el=true∨zp3 P t=none)→zdF w el (P.cellsOf el) u y top []→MuC P w ts fl.tail us ys o→MuC P w (t::ts) fl (u::us) (y::ys) (top++o)
 |deep {t ts fl el e z l u us y ys top o}:fl.headD false=true→ze9 P t=some el→zgC P el=false→zp3 P t=some (.row e z l)→DC w [.row e z l] [u] [y] top→MuC P w ts fl.tail us ys o→MuC P w (t::ts) fl (u::us) (y::ys) (top++o)
 |skip {t ts fl u us y ys o}:(fl.headD false=true→ze9 P t=none)→MuC P w ts fl.tail us ys o→MuC P w (t::ts) fl (u::us) (y::ys) o
inductive zd5 (P:Program) (w:World):List TypeId→List PM→List Value→List AV→List Nat→List Nat→Prop where
 |nil {ms vs}:zd5 P w [] ms vs [] [] []
 |ro {t ts ms v vs bs f o}:ms.headD .ro= .ro→zd5 P w ts ms.tail vs bs f o→zd5 P w (t::ts) ms (v::vs) bs f o
 |va {t ts ms own v vs bs f o}:ms.headD .ro= .va own→zd5 P w ts ms.tail vs bs f o→zd5 P w (t::ts) ms (v::vs) bs f o
 |mu {t ts ms own v vs us ys y bs f o1 o}:ms.headD .ro= .mu own→(if zaY P t then v= .agg us.toArray∧y= .agg ys else us= [v]∧ys= [y])→MuC P w (zaz P t) own us ys o1→zd5 P w ts ms.tail vs bs f o→zd5 P w (t::ts) ms (v::vs) (y::bs) f (o1++o)
 |bx {t ts ms own own' ty b C v vs ys y bs f1 o1 f o}:ms.headD .ro= .bx own own'→zxM P t=some ty→v= .pointer (some ⟨b,0,none⟩)→w.heap[b]?=some (.cells C ty (0,0))→(∀u∈C.toList,u.oneCell'=true)→y= .agg ys→zb0 P w (zaz P ty) own' C.toList ys f1 o1→
   zd5 P w ts ms.tail vs bs f o→zd5 P w (t::ts) ms (v::vs) (y::bs) (f1++f) (b::o1++o)
section
variable {P:Program} {c:Cx} {w':World}
theorem zt2 {mk:Nat→E} {ts:List TypeId} {fl:List Bool} {us:List Value} {rs:List (Option RI)} (h:zlI P c ts fl us rs) (hU: ∀t g,c.K t g→c.U t): ∀{ys:List AV} {o:List Nat} (j:Nat),MuC P w' ts fl us ys o→(∀i y,ys[i]?=some y→(mk (j+i)).den c.ρ=y)→
  ∃recs:List Chg,zl9 mk j rs=recs.map Chg.pair∧(recs.flatMap Chg.top).Sublist o∧(∀r∈recs,r.new=none∧c.U r.tag∧ ∀hs f,r.ent≠ .gd hs f)∧recs.map Chg.tag=zb6 rs∧ ∀c',Aft c c' w' recs→ ∀r∈recs,zkI c' r.tag r.ent:=by
 induction h with
 |nil=>
  intro ys o j hm _
  cases hm
  exact⟨[],rfl,by simp,by simp,rfl,by simp⟩
 | @row t ts fl v vs u g el rs h1 h2 h23 h3 h4 h5 _ ih=>
  intro ys o j hm hmk
  cases hm with
  |skip hh _=>rw [hh h1]at h2;cases h2
  |deep _ k2 k21 k22 _ _=>
   rw [h2]at k2;cases k2
   rcases h23 with hh|hh
   ·rw [hh]at k21;cases k21
   ·rw [hh]at k22;cases k22
  | @own _ _ _ el' _ _ y ys top o k1 k2 k23 k3 k4=>
   rw [h2]at k2;cases k2
   obtain⟨recs,e1,e2,e3,e4,e5⟩:=ih (j+1) k4 (fun i y hy=>by rw [show j+1+i=j+(i+1)from by omega];exact hmk (i+1) y (by simpa using hy))
   have hy:=hmk 0 y rfl
   refine⟨⟨u,none,top, .row el (P.cellsOf el) g (mk j) true⟩::recs,by simp [zl9,e1,Chg.pair],by simpa using(List.Sublist.refl top).append e2,fun r hr=> ?_,by simp [zb6,RI.tag,e4],fun c' ha r hr=> ?_⟩
   ·rcases List.mem_cons.1 hr with rfl|hr
    ·exact⟨rfl,hU _ _ h3,by simp⟩
    ·exact e3 r hr
   ·rcases List.mem_cons.1 hr with rfl|hr
    ·obtain⟨a1,a2⟩:=ha.K u g h3
     have kg:=ha.G _ (List.mem_cons_self ..)
     simp only at kg
     refine⟨a1,fun g' hg'=>h5 g' (ha.old u (hU _ _ h3) g' hg'), [], ?_,by simp,fun _=>⟨rfl,by rw [kg]⟩,fun _=>by rw [kg]⟩
     have hy':(mk j).den c.ρ=y:=by simpa using hy
     rw [a2,h4,kg,ha.w,ha.ρ,hy'];exact k3
    ·exact e5 c' (ha.mono fun r hr=>by simp [hr]) r hr
 | @deep t ts fl v vs u g el e z l ep rs h1 h2 h21 h22 h3 h4 h5 h6 _ ih=>
  intro ys o j hm hmk
  cases hm with
  |skip hh _=>rw [hh h1]at h2;cases h2
  |own _ k2 k23 _ _=>
   rw [h2]at k2;cases k2
   rcases k23 with hh|hh
   ·rw [hh]at h21;cases h21
   ·rw [hh]at h22;cases h22
  | @deep _ _ _ el' e' z' l' _ _ y ys top o k1 k2 k21 k22 k3 k4=>
   rw [h22]at k22;cases k22
   obtain⟨recs,e1,e2,e3,e4,e5⟩:=ih (j+1) k4 (fun i y hy=>by rw [show j+1+i=j+(i+1)from by omega];exact hmk (i+1) y (by simpa using hy))
   have hy:=hmk 0 y rfl
   refine⟨⟨u,none,top, .deep e z l g (ep+1) (mk j)⟩::recs,by simp [zl9,e1,Chg.pair],by simpa using(List.Sublist.refl top).append e2,fun r hr=> ?_,by simp [zb6,RI.tag,e4],fun c' ha r hr=> ?_⟩
   ·rcases List.mem_cons.1 hr with rfl|hr
    ·exact⟨rfl,hU _ _ h3,by simp⟩
    ·exact e3 r hr
   ·rcases List.mem_cons.1 hr with rfl|hr
    ·obtain⟨a1,a2⟩:=ha.K u g h3
     have kg:=ha.G _ (List.mem_cons_self ..)
     have ke:=ha.oldE _ (List.mem_cons_self ..) rfl
     simp only at kg ke
     refine⟨a1,fun g' hg'=>h5 g' (ha.old u (hU _ _ h3) g' hg'),by rw [ke,h6], ?_,by rw [kg]⟩
     have hy':(mk j).den c.ρ=y:=by simpa using hy
     rw [a2,h4,kg,ha.w,ha.ρ,hy'];exact k3
    ·exact e5 c' (ha.mono fun r hr=>by simp [hr]) r hr
 | @none t ts fl v vs rs _ ih=>
  intro ys o j hm hmk
  have go: ∀{y:AV} {ys':List AV} {o':List Nat},ys=y::ys'→MuC P w' ts fl.tail vs ys' o'→o'.Sublist o→ ∃recs:List Chg,zl9 mk j (none::rs)=recs.map Chg.pair∧(recs.flatMap Chg.top).Sublist o∧(∀r∈recs,r.new=none∧c.U r.tag∧ ∀hs f,r.ent≠ .gd hs f)∧recs.map Chg.tag=zb6 (none::rs)∧ ∀c',Aft c c' w' recs→ ∀r∈recs,zkI c' r.tag r.ent:=by
   rintro y ys' o' rfl hm' hs
   obtain⟨recs,e1,e2,e3,e4,e5⟩:=ih (j+1) hm' (fun i y hy=>by rw [show j+1+i=j+(i+1)from by omega];exact hmk (i+1) y (by simpa using hy))
   exact⟨recs,by simp [zl9,e1],e2.trans hs,e3,by simp [zb6]at e4 ⊢;exact e4,e5⟩
  cases hm with
  |skip _ h8=>exact go rfl h8 (List.Sublist.refl _)
  |own _ _ _ _ h8=>exact go rfl h8 (List.sublist_append_right _ _)
  |deep _ _ _ _ _ h8=>exact go rfl h8 (List.sublist_append_right _ _)
theorem zrB (us:List Nat) (hU: ∀u∈us,c.U u): ∃recs:List Chg,zie us=recs.map Chg.pair∧recs.flatMap Chg.top= []∧(∀r∈recs,r.new=none∧c.U r.tag∧ ∀hs f,r.ent≠ .gd hs f)∧recs.map Chg.tag=us∧ ∀c',Aft c c' w' recs→ ∀r∈recs,zkI c' r.tag r.ent:=by
 induction us with
 |nil=>exact⟨[],rfl,rfl,by simp,rfl,by simp⟩
 |cons u us ih=>
  obtain⟨recs,e1,e2,e3,e4,e5⟩:=ih fun u hu=>hU u (by simp [hu])
  refine⟨⟨u,none, [], .dead⟩::recs,by simp only [zie]at e1;simp [zie,e1,Chg.pair],by simp [e2],fun r hr=> ?_,by simp [e4],fun c' ha r hr=> ?_⟩
  ·rcases List.mem_cons.1 hr with rfl|hr
   ·exact⟨rfl,hU _ (by simp),by simp⟩
   ·exact e3 r hr
  ·rcases List.mem_cons.1 hr with rfl|hr
   ·have kg:=ha.G _ (List.mem_cons_self ..)
    simp only at kg
    exact⟨by rw [kg],by rw [kg]⟩
   ·exact e5 c' (ha.mono fun r hr=>by simp [hr]) r hr
structure zvZ (c:Cx) (w':World) (nx m:Nat) (l:List (Nat × Ent)) (hd:List Nat) (o:List Nat) (f:List Nat) (recs:List Chg):Prop where
 ents:l=recs.map Chg.pair
 tops:(recs.flatMap Chg.top).Sublist o
 new: ∀r∈recs,r.new.isSome=true→nx≤r.tag∧r.tag<nx+m
 old: ∀r∈recs,r.new=none→r.tag∈hd∧c.U r.tag
 all: ∀t∈hd,∃r∈recs,r.tag=t
 nodup:hd.Nodup→(∀t,nx≤t→t<nx+m→ ¬c.U t)→(recs.map Chg.tag).Nodup
 ne: ∀r∈recs,∀hs f,r.ent≠ .gd hs f
 ok: ∀c',Aft c c' w' recs→(∀b∈f,c'.ok b)→ ∀r∈recs,zkI c' r.tag r.ent
theorem zvZ.app {nx m m':Nat} {l l':List (Nat × Ent)} {hd hd' o o' f f':List Nat} {recs recs':List Chg} (h:zvZ c w' nx m l hd o f recs) (k:zvZ c w' (nx+m) m' l' hd' o' f' recs'):zvZ c w' nx (m+m') (l++l') (hd++hd') (o++o') (f++f') (recs++recs'):=by
 refine⟨by rw [h.ents,k.ents,List.map_append],by rw [List.flatMap_append];exact h.tops.append k.tops,fun r hr hn=> ?_,fun r hr hn=> ?_,fun t ht=> ?_,fun hn hU=> ?_,fun r hr=> ?_,fun c' ha hok r hr=> ?_⟩
 ·rcases List.mem_append.1 hr with hr|hr
  ·have:=h.new r hr hn;omega
  ·have:=k.new r hr hn;omega
 ·rcases List.mem_append.1 hr with hr|hr
  ·exact⟨by simp [(h.old r hr hn).1],(h.old r hr hn).2⟩
  ·exact⟨by simp [(k.old r hr hn).1],(k.old r hr hn).2⟩
 ·rcases List.mem_append.1 ht with ht|ht
  ·obtain⟨r,hr,e⟩:=h.all t ht;exact⟨r,by simp [hr],e⟩
  ·obtain⟨r,hr,e⟩:=k.all t ht;exact⟨r,by simp [hr],e⟩
 ·rw [List.nodup_append]at hn
  rw [List.map_append,List.nodup_append]
  refine⟨h.nodup hn.1 fun t h1 h2=>hU t h1 (by omega),k.nodup hn.2.1 fun t h1 h2=>hU t (by omega) (by omega),fun t1 ht1 t2 ht2 he=> ?_⟩
  obtain⟨q1,hq1,rfl⟩:=List.mem_map.1 ht1
  obtain⟨q2,hq2,rfl⟩:=List.mem_map.1 ht2
  cases n1:q1.new with
  |none=>
   obtain⟨a1,a2⟩:=h.old q1 hq1 n1
   cases n2:q2.new with
   |none=>exact hn.2.2 _ a1 _ (k.old q2 hq2 n2).1 he
   |some v2=>
    have:=k.new q2 hq2 (by simp [n2])
    exact hU q2.tag (by omega) (by omega) (he▸a2)
  |some v1=>
   have:=h.new q1 hq1 (by simp [n1])
   cases n2:q2.new with
   |none=>exact hU q1.tag (by omega) (by omega) (he▸(k.old q2 hq2 n2).2)
   |some v2=>have:=k.new q2 hq2 (by simp [n2]);omega
 ·rcases List.mem_append.1 hr with hr|hr
  ·exact h.ne r hr
  ·exact k.ne r hr
 ·rcases List.mem_append.1 hr with hr|hr
  ·exact h.ok c' (ha.mono fun r hr=>by simp [hr]) (fun b hb=>hok b (by simp [hb])) r hr
  ·exact k.ok c' (ha.mono fun r hr=>by simp [hr]) (fun b hb=>hok b (by simp [hb])) r hr
theorem zvZ.ofOld {nx:Nat} {l:List (Nat × Ent)} {hd o:List Nat} {recs:List Chg} (e1:l=recs.map Chg.pair) (e2:(recs.flatMap Chg.top).Sublist o) (e3: ∀r∈recs,r.new=none∧c.U r.tag∧ ∀hs f,r.ent≠ .gd hs f) (e4:recs.map Chg.tag=hd) (e5: ∀c',Aft c c' w' recs→ ∀r∈recs,zkI c' r.tag r.ent):zvZ c w' nx 0 l hd o [] recs:=by
 refine⟨e1,e2,fun r hr hn=> ?_,fun r hr _=>⟨?_,(e3 r hr).2.1⟩,fun t ht=> ?_,fun hn _=>by rw [e4];exact hn,fun r hr=>(e3 r hr).2.2,fun c' ha _=>e5 c' ha⟩
 ·rw [(e3 r hr).1]at hn;cases hn
 ·rw [←e4];exact List.mem_map.2 ⟨r,hr,rfl⟩
 ·rw [←e4]at ht;obtain⟨r,hr,e⟩:=List.mem_map.1 ht;exact⟨r,hr,e⟩
theorem zvz {ts:List TypeId} {ms:List PM} {vs:List Value} {bs:List PA} (h:zft P c ts ms vs bs) (hU: ∀t g,c.K t g→c.U t) {r:Nat}: ∀{Bs:List AV} {f o:List Nat} (nx j:Nat),zd5 P w' ts ms vs Bs f o→(∀k y,Bs[k]?=some y→(E.proj (.var r) (j+k+1)).den c.ρ=y)→
  Bs.length=znB bs∧ ∃recs,zvZ c w' nx (zld P bs) (after P r nx bs j) (zdQ bs) o f recs:=by
 have nilS: ∀nx,zvZ c w' nx 0 [] [] [] [] []:=fun nx=>⟨rfl,by simp,by simp,by simp,by simp,by simp,by simp,by simp⟩
 induction h with
 |nil=>
  intro Bs f o nx j hb _
  cases hb
  exact⟨rfl, [],by simpa [after,zdQ,zld]using nilS nx⟩
 | @ro ts ms v vs bs hm hrest ih=>
  intro Bs f o nx j hb hB
  cases hb with
  |nil=>
   exact ih nx j .nil hB
  |ro _ h8=>exact ih nx j h8 hB
  |va h9 _=>rw [hm]at h9;cases h9
  |mu h9 _ _ _=>rw [hm]at h9;cases h9
  |bx h9 _ _ _ _ _ _ _=>rw [hm]at h9;cases h9
 | @va ts ms own v vs bs us hm hus hrest ih=>
  intro Bs f o nx j hb hB
  obtain⟨recs1,e1,e2,e3,e4,e5⟩:=zrB (c:=c) (w':=w') us hus
  have s1:zvZ c w' nx 0 (zie us) us [] [] recs1:= .ofOld e1 (by rw [e2];exact List.Sublist.refl _) e3 e4 e5
  cases hb with
  |nil=>
   obtain⟨h1,recs2,s2⟩:=ih nx j .nil hB
   exact⟨by simpa [znB]using h1,recs1++recs2,by simpa [after,zdQ,zld]using s1.app s2⟩
  |ro h9 _=>rw [hm]at h9;cases h9
  |va _ h8=>
   obtain⟨h1,recs2,s2⟩:=ih nx j h8 hB
   exact⟨by simpa [znB]using h1,recs1++recs2,by simpa [after,zdQ,zld]using s1.app s2⟩
  |mu h9 _ _ _=>rw [hm]at h9;cases h9
  |bx h9 _ _ _ _ _ _ _=>rw [hm]at h9;cases h9
 | @mu t ts ms own v vs bs us rs hm hus hrs hrest ih=>
  intro Bs f o nx j hb hB
  cases hb with
  |ro h9 _=>rw [hm]at h9;cases h9
  |va h9 _=>rw [hm]at h9;cases h9
  |bx h9 _ _ _ _ _ _ _=>rw [hm]at h9;cases h9
  | @mu _ _ _ own2 _ _ us2 ys y Bs f o1 o h9 hg hmc h8=>
   rw [hm]at h9;cases h9
   obtain⟨h1,recs2,s2⟩:=ih nx (j+1) h8 (fun k y hy=>by rw [show j+1+k+1=j+(k+1)+1 from by omega];exact hB (k+1) y (by simpa using hy))
   have hy:=hB 0 y rfl
   have hus2:us2=us:=by
    split at hus
    ·rename_i hag
     rw [if_pos hag]at hg
     obtain⟨rfl,_⟩:=hg
     exact zt5 hus
    ·rename_i hag
     rw [if_neg hag]at hg
     rw [hg.1,hus]
   subst hus2
   obtain⟨recs1,e1,e2,e3,e4,e5⟩:=zt2 (w':=w') (mk:=zfS (.proj (.var r) (j+1)) (zaY P t)) hrs hU 0 hmc (by
    intro i z hz
    split at hg
    ·rename_i hag
     rw [hag]
     exact zjF (by rw [←hg.2];exact hy) i z hz
    ·rename_i hag
     have hag':zaY P t=false:=by simpa using hag
     rw [hg.2]at hz
     cases i with
     |zero=>simp at hz;subst hz;rw [hag'];simpa [zfS]using hy
     |succ i=>simp at hz)
   have s1:zvZ c w' nx 0 _ (zb6 rs) o1 [] recs1:= .ofOld e1 e2 e3 e4 e5
   exact⟨by simp [znB,h1],recs1++recs2,by simpa [after,zdQ,zld]using s1.app s2⟩
 | @bx t ts ms own own' ty v vs bs T b g olds hm hpt hv hK hH hol hrest ih=>
  intro Bs f o nx j hb hB
  cases hb with
  |ro h9 _=>rw [hm]at h9;cases h9
  |va h9 _=>rw [hm]at h9;cases h9
  |mu h9 _ _ _=>rw [hm]at h9;cases h9
  | @bx _ _ _ own2 own3 ty2 b2 C _ _ ys y Bs f1 o1 f o h9 hpt2 hv2 hh hone hy0 hc h8=>
   rw [hm]at h9;cases h9
   rw [hpt]at hpt2;cases hpt2
   have hbb:b2=b:=by rw [hv]at hv2;cases hv2;rfl
   subst hbb
   obtain⟨h1,recs2,s2⟩:=ih (nx+(zaz P ty).length) (j+1) h8 (fun k y hy=>by rw [show j+1+k+1=j+(k+1)+1 from by omega];exact hB (k+1) y (by simpa using hy))
   have hy:=hB 0 y rfl
   obtain⟨recs0,d1,d2,d3,d4,d5⟩:=zrB (c:=c) (w':=w') olds hol
   have s0:zvZ c w' nx 0 (zie olds) olds [] [] recs0:= .ofOld d1 (by rw [d2];exact List.Sublist.refl _) d3 d4 d5
   obtain⟨recs1,e1,e2,e3,e4,_,e5⟩:=zdU (c:=c) (nx:=nx) (mk:=zfS (.proj (.var r) (j+1)) true) hc 0 (zjF (by rw [←hy0];exact hy))
   have hcU:=hU _ _ hK
   have s1:zvZ c w' nx (zaz P ty).length ((T, .box ty g (zas P nx (zfS (.proj (.var r) (j+1)) true) 0 (zaz P ty) own').1)::(zas P nx (zfS (.proj (.var r) (j+1)) true) 0 (zaz P ty) own').2) [T] (b2::o1) f1 (⟨T,none, [b2], .box ty g (zas P nx (zfS (.proj (.var r) (j+1)) true) 0 (zaz P ty) own').1⟩::recs1):=by
    refine⟨by simp [e1,Chg.pair], ?_,fun q hq hn=> ?_,fun q hq hn=> ?_,by simp,fun _ hnew=> ?_,fun q hq=> ?_,fun c' ha hok q hq=> ?_⟩
    ·simp only [List.flatMap_cons,e2,List.singleton_append];exact List.Sublist.refl _
    ·rcases List.mem_cons.1 hq with rfl|hq
     ·cases hn
     ·have:=e3 q hq;omega
    ·rcases List.mem_cons.1 hq with rfl|hq
     ·exact⟨by simp,hcU⟩
     ·have:=(e3 q hq).2.2;rw [hn]at this;cases this
    ·simp only [List.map_cons,List.nodup_cons]
     refine⟨fun hm=> ?_,e4⟩
     obtain⟨q,hq,hqt⟩:=List.mem_map.1 hm
     have:=e3 q hq
     exact hnew q.tag (by omega) (by omega) (hqt▸hcU)
    ·rcases List.mem_cons.1 hq with rfl|hq
     ·simp
     ·intro hs f he
      obtain⟨q1,q2⟩:=e3 q hq
      have:(q.tag,q.ent)∈(zas P nx (zfS (.proj (.var r) (j+1)) true) 0 (zaz P ty) own').2:=by
       rw [e1];exact List.mem_map.2 ⟨q,hq,rfl⟩
      exact zei _ _ _ _ _ this he
    ·obtain⟨p1,p2⟩:=e5 c' (ha.mono fun r hr=>by simp [hr]) hok
     rcases List.mem_cons.1 hq with rfl|hq
     ·obtain⟨a1,a2⟩:=ha.K T 0 hK
      have kg:=ha.G _ (List.mem_cons_self ..)
      simp only at kg
      exact⟨b2,C,a1,by rw [a2,hH,hv],by rw [kg],by rw [kg],by rw [ha.w];exact hh,hone,p1⟩
     ·exact p2 q hq
   refine⟨by simp [znB,h1],recs0++((⟨T,none, [b2], .box ty g (zas P nx (zfS (.proj (.var r) (j+1)) true) 0 (zaz P ty) own').1⟩::recs1)++recs2), ?_⟩
   have s3:=s0.app (s1.app s2)
   rw [Nat.zero_add]at s3
   refine⟨by simpa [after]using s3.ents,s3.tops,s3.new,fun q hq hn=> ?_,fun t ht=> ?_,fun hn hnew=> ?_,s3.ne,s3.ok⟩
   ·have:=s3.old q hq hn
    simp only [zdQ,List.cons_append,List.mem_cons,List.mem_append,List.not_mem_nil,or_false,List.nil_append]at this ⊢
    exact⟨by rcases this.1 with h|h|h;exact .inr (.inl h);exact .inl h;exact .inr (.inr h),this.2⟩
   ·refine s3.all t ?_
    simp only [zdQ,List.cons_append,List.mem_cons,List.mem_append,List.nil_append]at ht ⊢
    rcases ht with h|h|h
    ·exact .inr (.inl h)
    ·exact .inl h
    ·exact .inr (.inr h)
   ·refine s3.nodup ?_ hnew
    simp only [zdQ,List.cons_append,List.nodup_cons,List.nodup_append,List.mem_append,not_or,List.nil_append]at hn ⊢
    obtain⟨⟨n1,n2⟩,n3,n4,n5⟩:=hn
    refine⟨n3,⟨n2,n4⟩,fun a ha b hb=> ?_⟩
    rcases List.mem_cons.1 hb with rfl|hb
    ·rintro rfl;exact n1 ha
    ·exact n5 a ha b hb
end
end Go.Proofs.YtecngjbpbnfegaaGreatDoor
end
section
namespace Go.Proofs.YtecngjbpbnfegaaGreatDoor
open Go.RowKit
def zo3 (P:Program):List TypeId→List Bool→List AV→Bool
 |t::ts,fl,y::ys=>((fl.headD false&&(ze9 P t).isSome)||hasRef P t||y.scalar)&&zo3 P ts fl.tail ys
 |_,_,_=>true
def zxP (P:Program) (t:TypeId) (fl:List Bool) (x:AV):Bool:=if znu P t fl then zo3 P (zaz P t) fl (if zaY P t then x.cells else [x])else hasRef P t||x.cells.all AV.scalar
def zu5 (P:Program):List TypeId→List Bool→List AV→Bool
 |t::ts,fl,x::xs=>zxP P t fl x&&zu5 P ts (fl.drop (zaz P t).length) xs
 |_,_,_=>true
def zyr (P:Program) (ts:List TypeId) (fl:List Bool) (R:AV):Bool:=match ts with
 | [t]=>zxP P t fl R
 |ts=>match R with
  | .tup ys=>zu5 P ts fl ys
  |_=>true
def znj (P:Program):List TypeId→List PM→List AV→Bool
 |t::ts,ms,bs=>(match ms.headD .ro with
  | .ro=>znj P ts ms.tail bs
  | .va _=>znj P ts ms.tail bs
  | .mu _=>znj P ts ms.tail bs.tail
  | .bx _ own'=>(match zxM P t,bs with
   |some ty,b::_=>zo3 P (zaz P ty) own' b.cells
   |_,_=>true)&&znj P ts ms.tail bs.tail)
 | [],_,_=>true
def hasBack:List TypeId→List PM→Bool
 |_::ts,ms=>(match ms.headD .ro with
  | .mu _=>true
  | .bx .. =>true
  |_=>false)||hasBack ts ms.tail
 | [],_=>false
def znw (P:Program) (fn:Func) (s:Sig) (r:AV):Bool:=
 if hasBack fn.params.toList s.modes then(match r with
  | .tup (R::bs)=>zyr P fn.resultTypes.toList s.res R&&znj P fn.params.toList s.modes bs
  |_=>false)
 else zyr P fn.resultTypes.toList s.res r
def zxL (P:Program) (w:World) (ts:List TypeId) (fl:List Bool) (v:Value) (R:AV) (f o:List Nat):Prop:=match ts with
 | [t]=>ztM P w t fl v R f o
 |ts=> ∃vs ys,v= .tuple vs.toArray∧R= .tup ys∧zrU P w ts fl vs ys f o
structure zB5 (P:Program) (fn:Func) (s:Sig) (w:World) (vs:List Value) (rf hs:List Nat) (r:AV) (v:Value) (w':World):Prop where
 ex: ∃R bs f1 o1 f2 o2,r=(match bs with| []=>R|_=> .tup (R::bs))∧zxL P w' fn.resultTypes.toList s.res v R f1 o1∧zd5 P w' fn.params.toList s.modes vs bs f2 o2∧(o1++o2).Nodup∧
  (∀b∈o1++o2,(b∈hs∨w.heap.size≤b)∧b<w'.heap.size)∧ ∀b∈f1++f2,b∉o1++o2∧(b∈rf∨b∈hs∨w.heap.size≤b)
 mod:Mod hs w w'
def Ret (P:Program) (s:Sig) (f:Nat) (xs:List AV) (r:AV):Prop:=
 ∃fn,P.funcs[f]?=some fn∧fn.body.isSome=true∧(fn.name== "runtime.NumGoroutine")=false∧znw P fn s r=true∧xs.length=fn.params.size+fn.nfree∧
  ∀(w:World) (vs:List Value) (rf hs:List Nat),zhp P w fn.params.toList s.modes vs xs rf hs→(∀b∈hs,b∉rf)→hs.Nodup→
   Calls P f vs.toArray w fun e w'=> ∃v,e= .returned v∧zB5 P fn s w vs rf hs r v w'
def Rts (P:Program) (sg:SgT) (f:Nat) (xs:List AV) (r:AV):Prop:=
 if f<1000000 then∃s,sg f=some s∧Ret P s f xs r else Ret P {modes:= [],res:= []} (f-1000000) xs r
section
variable {P:Program} {w:World}
theorem zmu {v:Value} {x:AV} {f:List Nat} (h:Rd w [v] [x] f) (hx: ∀y∈x.cells,y.scalar=true):f= []:=by
 by_cases hag: ∃cs,x= .agg cs
 ·obtain⟨cs,rfl⟩:=hag
  obtain⟨as,_,_,hr⟩:=zjx h rfl
  exact zfT hr hx
 ·have:x.cells= [x]:=by cases x<;>first|rfl|exact absurd ⟨_,rfl⟩ hag
  rw [this]at hx
  exact zfT h hx
theorem zb0.flat {ts:List TypeId} {fl:List Bool} {us:List Value} {ys:List AV} {rf hs:List Nat} (h:zb0 P w ts fl us ys rf hs) (h1:unflC P ts fl=false) (h2:zo3 P ts fl ys=true):rf= []:=by
 induction h with
 |nil=>rfl
 |own _ _ _ _ _ ih=>
  simp only [unflC,Bool.or_eq_false_iff]at h1
  simp only [zo3,Bool.and_eq_true]at h2
  exact ih h1.2 h2.2
 |deep _ _ _ _ _ _ ih=>
  simp only [unflC,Bool.or_eq_false_iff]at h1
  simp only [zo3,Bool.and_eq_true]at h2
  exact ih h1.2 h2.2
 | @rd t ts fl u us y ys f rf hs hn hr _ ih=>
  simp only [unflC,Bool.or_eq_false_iff]at h1
  simp only [zo3,Bool.and_eq_true]at h2
  have hno:(fl.headD false&&(ze9 P t).isSome)=false:=by
   cases hh:fl.headD false with
   |false=>rfl
   |true=>rw [hn hh];rfl
  rw [hno]at h1 h2
  have hr0:hasRef P t=false:=by simpa using h1.1
  rw [hr0]at h2
  have hs:y.scalar=true:=by simpa using h2.1
  rw [zfT hr (by simpa using hs),ih h1.2 h2.2];rfl
theorem ztM.flat {t:TypeId} {fl:List Bool} {v:Value} {x:AV} {rf hs:List Nat} (h:ztM P w t fl v x rf hs) (h1:zzD P t fl=false) (h2:zxP P t fl x=true):rf= []:=by
 unfold ztM at h
 unfold zzD at h1
 unfold zxP at h2
 split at h
 ·rename_i hf
  rw [if_pos hf]at h1 h2
  obtain⟨us,ys,hg,hc⟩:=h
  split at hg
  ·rename_i hag
   obtain⟨_,rfl,_⟩:=hg
   rw [if_pos hag]at h2
   exact hc.flat h1 h2
  ·rename_i hag
   obtain⟨_,rfl⟩:=hg
   rw [if_neg hag]at h2
   exact hc.flat h1 h2
 ·rename_i hf
  rw [if_neg hf]at h1 h2
  rw [h1]at h2
  exact zmu h.1 (by simpa using h2)
theorem zrU.flat {ts:List TypeId} {fl:List Bool} {vs:List Value} {xs:List AV} {rf hs:List Nat} (h:zrU P w ts fl vs xs rf hs) (h1:unflVs P ts fl=false) (h2:zu5 P ts fl xs=true):rf= []:=by
 induction h with
 |nil=>rfl
 |cons hv _ ih=>
  simp only [unflVs,Bool.or_eq_false_iff]at h1
  simp only [zu5,Bool.and_eq_true]at h2
  rw [hv.flat h1.1 h2.1,ih h1.2 h2.2];rfl
theorem zxL.flat {ts:List TypeId} {fl:List Bool} {v:Value} {R:AV} {f o:List Nat} (h:zxL P w ts fl v R f o) (h1:unflVs P ts fl=false) (h2:zyr P ts fl R=true):f= []:=by
 match ts,h,h1,h2 with
 | [t],h,h1,h2=>
  simp only [unflVs,Bool.or_false]at h1
  exact ztM.flat h h1 h2
 | [],h,h1,h2=>
  obtain⟨vs,ys,_,rfl,hv⟩:=h
  exact hv.flat h1 h2
 |t::u::ts,h,h1,h2=>
  obtain⟨vs,ys,_,rfl,hv⟩:=h
  exact hv.flat h1 h2
theorem zd5.flat {c:Cx} {ts:List TypeId} {ms:List PM} {vs:List Value} {bs:List PA} (h:zft P c ts ms vs bs): ∀{Bs:List AV} {f o:List Nat},zd5 P w ts ms vs Bs f o→unflB P bs=false→znj P ts ms Bs=true→f= []:=by
 induction h with
 |nil=>
  intro Bs f o hb _ _
  cases hb;rfl
 | @ro ts ms v vs bs hm _ ih=>
  intro Bs f o hb h1 h2
  cases hb with
  |nil=>rfl
  |ro _ h8=>simp only [znj,hm]at h2;exact ih h8 h1 h2
  |va h9 _=>rw [hm]at h9;cases h9
  |mu h9 _ _ _=>rw [hm]at h9;cases h9
  |bx h9 _ _ _ _ _ _ _=>rw [hm]at h9;cases h9
 | @va ts ms own v vs bs us hm _ _ ih=>
  intro Bs f o hb h1 h2
  cases hb with
  |nil=>rfl
  |ro h9 _=>rw [hm]at h9;cases h9
  |va _ h8=>simp only [znj,hm]at h2;exact ih h8 h1 h2
  |mu h9 _ _ _=>rw [hm]at h9;cases h9
  |bx h9 _ _ _ _ _ _ _=>rw [hm]at h9;cases h9
 | @mu t ts ms own v vs bs us rs hm _ _ _ ih=>
  intro Bs f o hb h1 h2
  cases hb with
  |ro h9 _=>rw [hm]at h9;cases h9
  |va h9 _=>rw [hm]at h9;cases h9
  |mu _ _ _ h8=>simp only [znj,hm]at h2;exact ih h8 h1 h2
  |bx h9 _ _ _ _ _ _ _=>rw [hm]at h9;cases h9
 | @bx t ts ms own own' ty v vs bs T b g olds hm hpt _ _ _ _ _ ih=>
  intro Bs f o hb h1 h2
  cases hb with
  |ro h9 _=>rw [hm]at h9;cases h9
  |va h9 _=>rw [hm]at h9;cases h9
  |mu h9 _ _ _=>rw [hm]at h9;cases h9
  |bx h9 hpt2 _ _ _ hy hc h8=>
   rw [hm]at h9;cases h9
   rw [hpt]at hpt2;cases hpt2
   simp only [znj,hm,hpt,Bool.and_eq_true,hy,List.tail_cons]at h2
   simp only [unflB,Bool.or_eq_false_iff]at h1
   rw [hc.flat h1.1 h2.1,ih h8 h1.2 h2.2];rfl
theorem zlF {ts:List TypeId} {ms:List PM} {vs:List Value} {Bs:List AV} {f o:List Nat} (h:zd5 P w ts ms vs Bs f o):Bs= []↔hasBack ts ms=false:=by
 induction h with
 |nil=>simp [hasBack]
 |ro hm _ ih=>simp only [hasBack,hm,Bool.false_or];exact ih
 |va hm _ ih=>simp only [hasBack,hm,Bool.false_or];exact ih
 |mu hm _ _ _ _=>simp only [hasBack,hm,Bool.true_or];simp
 |bx hm _ _ _ _ _ _ _ _=>simp only [hasBack,hm,Bool.true_or];simp
end
end Go.Proofs.YtecngjbpbnfegaaGreatDoor
end
section
namespace Go.Proofs.YtecngjbpbnfegaaGreatDoor
open Go.RowKit
section
variable {P:Program} {c:Cx} {n nx:Nat} {sl sl0:Nat→SV} {hp hp0:Nat→Option Ent} {a:Act} {o:Oper} {gs:Gd} {e:Eff} {sg:SgT} {nv:Nat}
theorem zth {xs:List Operand}: ∀{ss:List SV},(∀x∈xs,∀s,zan sl0 gs x=some s→SR c [s] [a.eval x])→xs.mapM (zan sl0 gs)=some ss→SR c ss (xs.map a.eval):=by
 induction xs with
 |nil=>intro ss _ h;simp at h;subst h;exact .nil
 |cons x xs ih=>
  intro ss hx h
  rw [List.mapM_cons]at h
  simp only [Option.bind_eq_bind,Option.bind_eq_some_iff,Option.pure_def,Option.some.injEq]at h
  obtain⟨s,hs,ss',hss,rfl⟩:=h
  exact(hx x (by simp) s hs).cons (ih (fun y hy=>hx y (by simp [hy])) hss)
theorem zik: ∀{l:List Nat},zmf l=true→l.Nodup
 | [],_=>by simp
 |x::l,h=>by
  simp only [zmf,Bool.and_eq_true,Bool.not_eq_true',List.contains_eq_mem,decide_eq_false_iff_not]at h
  exact List.nodup_cons.2 ⟨h.1,zik h.2⟩
theorem zxl {c1:Cx} {w':World} {recs:List Chg} {hs f o:List Nat} (gw:GW c) (hg: ∀t,(c1.G t).top=(c.G t).top∨(c1.G t).top= []) (hA:c1.A=c.A) (hMu:c1.Mu=c.Mu) (hw0:c1.w0=c.w0) (hB:c.w0.heap.size≤c.w.heap.size)
  (hn:(recs.map Chg.tag).Nodup) (htop: ∀r∈recs,∀b∈r.top,b∈o) (hhs: ∀b∈hs,∃r∈recs,b∈(c.G r.tag).top) {rf:List Nat} (hrf: ∀b∈rf,c1.ok b) (hf: ∀b∈f,b∉o∧(b∈rf∨b∈hs∨c.w.heap.size≤b)): ∀b∈f,(c1.chg w' recs).ok b:=by
 intro b hb
 obtain⟨h1,h2⟩:=hf b hb
 have hM:(c1.chg w' recs).M b→ ∃t,(∀r∈recs,r.tag≠t)∧b∈(c1.G t).top:=by
  rintro⟨t,ht⟩
  by_cases hT: ∃r∈recs,r.tag=t
  ·obtain⟨r,hr,rfl⟩:=hT
   rw [Cx.chg_G hn hr]at ht
   exact absurd (htop r hr b ht) h1
  ·rw [Cx.chg_G' fun r hr hh=>hT ⟨r,hr,hh⟩]at ht
   exact⟨t,fun r hr hh=>hT ⟨r,hr,hh⟩,ht⟩
 have sub: ∀t,b∈(c1.G t).top→b∈(c.G t).top:=fun t ht=>by
  rcases hg t with hh|hh
  ·rw [←hh];exact ht
  ·rw [hh]at ht;simp at ht
 rcases h2 with h2|h2|h2
 ·refine⟨fun hm=> ?_,(hrf b h2).2⟩
  obtain⟨t,_,ht⟩:=hM hm
  exact(hrf b h2).1 ⟨t,ht⟩
 ·obtain⟨r,hr,hbr⟩:=hhs b h2
  refine⟨fun hm=> ?_, .inr ?_⟩
  ·obtain⟨t,hnt,ht⟩:=hM hm
   exact gw.disj r.tag t (hnt r hr) b (by simp [GI.own,hbr]) (by simp [GI.own,sub t ht])
  ·have:=gw.allow r.tag b (by simp [GI.own,hbr])
   simp only [Cx.chg,Cx.B,hw0,hMu]at this ⊢
   exact this
 ·refine⟨fun hm=> ?_, .inr (.inl ?_)⟩
  ·obtain⟨t,_,ht⟩:=hM hm
   have:=gw.inb t b (by simp [GI.own,sub t ht])
   omega
  ·simp only [Cx.chg,Cx.B,hw0];omega
theorem zxv (h:Pre P c n nx sl hp a sl0 hp0 o gs) {cl:Call} {fo:Operand} (ho:o.op= .call cl) (hcl:cl.callee= .value fo) {g:Nat} {caps:SVL} (hf:zan sl0 gs fo=some (.fn g caps)) {as:List SV} (has:cl.args.toList.mapM (zan sl0 gs)=some as)
  (hg:g<1000000) (he:zpx P sg hp0 gs nv nx g (as++caps.toList)=some e) (hcall: ∀c',e.call=some c'→ ∃r,c.ρ[nv]?=some r∧zii (Rts P sg) c'.fn ((EL.of c'.args).den c.ρ) c.ρ r):zbJ P o c n nx sl hp gs a e:=by
 have hmf:fo∈o.op.operands:=by simp [ho,Op.operands,Call.operands,hcl]
 have hma: ∀x∈cl.args.toList,x∈o.op.operands:=fun x hx=>by
  have:x∈cl.args:=by simpa using hx
  simp [ho,Op.operands,Call.operands,hcl,this]
 have hrf:=h.opd hf hmf
 generalize hfv:a.eval fo=fv at hrf
 cases hrf with
 |fn hcaps h8=>
 rename_i capv
 have hargs:=(zth (a:=a) (fun x hx s hs=>h.opd hs (hma x hx)) has).app hcaps
 unfold zpx at he
 split at he
 ·rename_i fn s hfn hsg
  split at he
  ·cases he
  rename_i hlen
  simp only [Bool.or_eq_true,not_or,Bool.not_eq_true,bne_eq_false_iff_eq]at hlen
  split at he
  ·cases he
  rename_i es bs us harg
  split at he
  ·cases he
  rename_i hnd
  simp only [Bool.or_eq_true,Bool.not_eq_true',not_or,Bool.not_eq_false,Bool.not_eq_true]at hnd
  obtain⟨hnd1,hnd2⟩:=hnd
  have hndh:=zik hnd1
  have hapart: ∀u∈us,u∉zdQ bs:=fun u hu hh=>by
   rw [List.any_eq_false]at hnd2
   have:=hnd2 u hu
   simp only [List.contains_eq_mem,decide_eq_true_eq]at this
   exact this hh
  simp only at he
  split at he
  ·cases he
  rename_i hsz
  simp only [Nat.not_le]at hsz
  split at he
  ·cases he
  rename_i hnb
  split at he
  ·cases he
  rename_i fz hfz0
  have hK: ∀t g,c.K t g→c.U t:=h.rel.usedK
  obtain⟨rf,hs,q1,q2,q3,q4,q5,q6⟩:=ztf (P:=P) h.eh h.gs hK (as++caps.toList) harg hargs (by rw [hlen.2,Array.length_toList];omega)
  obtain⟨fts,hfz,hfsub⟩: ∃fts,zbe hp0 gs fts=some fz∧ ∀t∈fts,t∈us:=by
   split at hfz0
   ·exact⟨us,hfz0,fun t ht=>ht⟩
   ·simp only [Option.some.injEq]at hfz0;subst hfz0;exact⟨[],rfl,by simp⟩
  have hrel1:=h.rel.freeze h.hp h.gs hfz
  have hfzus: ∀t∈fz.map (·.1),t∈us:=fun t ht=>by
   obtain⟨⟨t',e'⟩,hm,rfl⟩:=List.mem_map.1 ht
   exact hfsub _ ((zdv h.gs hfz).1 t' e' hm).1
  have hG1: ∀t,((c.frz (fz.map (·.1))).G t).top=(c.G t).top∨((c.frz (fz.map (·.1))).G t).top= []:=fun t=>by
   simp only [Cx.frz];split
   ·exact .inr rfl
   ·exact .inl rfl
  have hGh: ∀t∈zdQ bs,(c.frz (fz.map (·.1))).G t=c.G t:=fun t ht=>by
   simp only [Cx.frz]
   rw [if_neg]
   intro hh;exact hapart t (hfzus t hh) ht
  have hEh: ∀t∈zdQ bs,(c.frz (fz.map (·.1))).E t=c.E t:=fun t ht=>by
   simp only [Cx.frz]
   rw [if_neg]
   intro hh;exact hapart t (hfzus t hh) ht
  have hsnd:hs.Nodup:=by
   rw [q3]
   have: ∀l:List Nat,l.Nodup→(l.flatMap fun t=>(c.G t).top).Nodup:=by
    intro l
    induction l with
    |nil=>intro _;simp
    |cons t l ih=>
     intro hl
     rw [List.nodup_cons]at hl
     rw [List.flatMap_cons,List.nodup_append]
     refine⟨(List.nodup_append.1 (h.rel.gw.nodup t)).1,ih hl.2,fun x hx y hy hxy=> ?_⟩
     subst hxy
     obtain⟨u,hu,hxu⟩:=List.mem_flatMap.1 hy
     exact h.rel.gw.disj t u (fun hh=>hl.1 (hh▸hu)) x (by simp [GI.own,hx]) (by simp [GI.own,hxu])
   exact this _ hndh
  have hhsT: ∀b∈hs,∃t∈zdQ bs,b∈(c.G t).top:=fun b hb=>by rw [q3]at hb;exact List.mem_flatMap.1 hb
  have hdis: ∀b∈hs,b∉rf:=fun b hb hr=>by
   obtain⟨t,ht,hbt⟩:=hhsT b hb
   rcases q2 b hr with hh|⟨u,hu,hbu⟩
   ·exact hh.1 ⟨t,hbt⟩
   ·exact h.rel.gw.disj t u (fun hh=>hapart u hu (hh▸ht)) b (by simp [GI.own,hbt]) (by simp [GI.own,hbu])
  have hform: ∃(val:SV) (l:List (Nat × Ent)),e={call:=some ⟨.inl g,es⟩,val:=val,ent:=fz++(zwZ gs l++after P nv (nx+(fn.resultTypes.toList.flatMap (zaz P)).length) bs 0)}∧
    ∀(R:AV) (w':World) (v:Value) (f1 o1:List Nat),zxL P w' fn.resultTypes.toList s.res v R f1 o1→(if znB bs=0 then E.var nv else .proj (.var nv) 0).den c.ρ=R→ ∃recs:List Chg,l=recs.map Chg.pair∧recs.flatMap Chg.top=o1∧(∀r∈recs,nx≤r.tag∧r.tag<nx+(fn.resultTypes.toList.flatMap (zaz P)).length∧r.new.isSome)∧(recs.map Chg.tag).Nodup∧
     (∀r∈recs,∀hs f,r.ent≠ .gd hs f)∧ ∀c',Aft c c' w' recs→(∀b∈f1,c'.ok b)→SR c' [val] [v]∧ ∀r∈recs,zkI c' r.tag r.ent:=by
   have hne: ∀{l:List (Nat × Ent)} {recs:List Chg},l=recs.map Chg.pair→(∀t x,(t,x)∈l→ ∀hs f,x≠ .gd hs f)→ ∀r∈recs,∀hs f,r.ent≠ .gd hs f:=by
    rintro l recs rfl hh r hr
    exact hh r.tag r.ent (List.mem_map.2 ⟨r,hr,rfl⟩)
   have fvne: ∀(t:TypeId) (k:Nat) (fl:List Bool) (x:E) (u:Nat) (y:Ent),(u,y)∈(ziU P k t fl x).2→ ∀hs f,y≠ .gd hs f:=by
    intro t k fl x u y hy hs f
    unfold ziU at hy
    split at hy
    ·exact zei _ _ _ _ _ hy
    ·simp at hy
   split at he
   ·rename_i t hts
    simp only [Option.some.injEq]at he;subst he
    refine⟨_,_,rfl,fun R w' v f1 o1 hr hR=> ?_⟩
    rw [hts]at hr
    obtain⟨recs,e1,e2,e3,e4,e5⟩:=zl4 (c:=c) (nx:=nx) (x:=if znB bs=0 then E.var nv else .proj (.var nv) 0) (show ztM P w' t s.res v R f1 o1 from hr) hR
    exact⟨recs,e1,e2,by simpa [hts]using e3,e4,hne e1 (fvne _ _ _ _),e5⟩
   ·rename_i hts
    simp only [Option.some.injEq]at he;subst he
    refine⟨_,_,rfl,fun R w' v f1 o1 hr hR=> ?_⟩
    obtain⟨vs,ys,rfl,rfl,hv⟩: ∃vs ys,v= .tuple vs.toArray∧R= .tup ys∧zrU P w' fn.resultTypes.toList s.res vs ys f1 o1:=by
     unfold zxL at hr
     split at hr
     ·rename_i t ht;exact absurd ht (hts t)
     ·exact hr
    obtain⟨recs,e1,e2,e3,e4,e5⟩:=zqS (c:=c) (x:=if znB bs=0 then E.var nv else .proj (.var nv) 0) hv nx 0 (fun k y hy=>by
     show AV.proj ((if znB bs=0 then E.var nv else .proj (.var nv) 0).den c.ρ) (0+k)=y
     rw [hR];simp [AV.proj,hy])
    have fvsne: ∀(ts:List TypeId) (k:Nat) (fl:List Bool) (x:E) (i:Nat) (u:Nat) (y:Ent),(u,y)∈(zgS P k ts fl x i).2→ ∀hs f,y≠ .gd hs f:=by
     intro ts
     induction ts with
     |nil=>intro k fl x i u y hy;simp [zgS]at hy
     |cons t ts ih=>
      intro k fl x i u y hy
      simp only [zgS,List.mem_append]at hy
      rcases hy with hy|hy
      ·exact fvne _ _ _ _ _ _ hy
      ·exact ih _ _ _ _ _ _ hy
    exact⟨recs,e1,e2,e3,e4,hne e1 (fvsne _ _ _ _ _),fun c' ha hok=>⟨.tup (by rw [SVL.toList_of];exact(e5 c' ha hok).1) .nil,(e5 c' ha hok).2⟩⟩
  obtain⟨val,l,rfl,hshape⟩:=hform
  obtain⟨r,hr,hok⟩:=hcall _ rfl
  have hret: ∃s',sg g=some s'∧Ret P s' g ((EL.of es).den c.ρ) r:=by
   have hok:Rts P sg g ((EL.of es).den c.ρ) r:=hok
   unfold Rts at hok
   rwa [if_pos hg]at hok
  obtain⟨s',hs',fn',hfn',hbody,hname,hflat,_,hcalls⟩:=hret
  rw [hsg]at hs';cases hs'
  rw [hfn]at hfn';cases hfn'
  rw [EL.den_of]at hcalls
  have hcall:=hcalls c.w _ rf hs q1 hdis hsnd
  have ex:(execOp a.eval o).run P c.w= .ok (.enter g (cl.args.map a.eval++capv.toArray)) c.w:=by
   have hb:fn.body.isNone=false:=by simpa using hbody
   simp only [execOp,ho,resolve,hcl,hfv,Deferred.ofValue,Sem.run_bind,Sem.run_pure,Result.andThen_ok,invoke,callFunc,run_program,hfn]
   simp [hname,hb]
  intro next Q hk
  unfold Oper.wp
  rw [ex,Oper.upon_enter]
  have harr:cl.args.map a.eval++capv.toArray=((cl.args.toList.map a.eval)++capv).toArray:=by
   apply Array.ext';simp
  rw [harr]
  refine hcall.mono ?_
  rintro e' w' ⟨v,rfl,⟨R,Bs,f1,o1,f2,o2,hrR,hres,hback,hnod,ho12,hf12⟩,hmod⟩
  show next (a.put o.dst v) w'
  have hBn: ∀k y,Bs[k]?=some y→(E.proj (.var nv) (0+k+1)).den c.ρ=y:=by
   intro k y hy
   cases Bs with
   |nil=>simp at hy
   |cons B Bs=>
    simp only [E.den,hr,Option.getD_some,hrR,AV.proj,Nat.zero_add,List.getElem?_cons_succ,hy]
  obtain⟨hnb',recsB,hB⟩:=zvz (w':=w') q4 hK (r:=nv) (nx+(fn.resultTypes.toList.flatMap (zaz P)).length) 0 hback hBn
  have hR:(if znB bs=0 then E.var nv else .proj (.var nv) 0).den c.ρ=R:=by
   cases Bs with
   |nil=>rw [if_pos (by simpa using hnb'.symm)];simp only [E.den,hr,Option.getD_some,hrR]
   |cons B Bs=>rw [if_neg (by rw [←hnb'];simp)];simp [E.den,hr,hrR,AV.proj]
  obtain⟨recsV,v1,v2,v3,v4,v5,v6⟩:=hshape R w' v f1 o1 hres hR
  have hnewU: ∀t,nx≤t→t<nx+((fn.resultTypes.toList.flatMap (zaz P)).length+zld P bs)→ ¬c.U t:=fun t h1 h2=>h.new t h1 (by omega)
  have hBnod:=hB.nodup hndh fun t h1 h2=>hnewU t (by omega) (by omega)
  have hnodT:((recsV++recsB).map Chg.tag).Nodup:=by
   rw [List.map_append,List.nodup_append]
   refine⟨v4,hBnod,fun t1 h1 t2 h2 he=> ?_⟩
   obtain⟨p1,hp1,rfl⟩:=List.mem_map.1 h1
   obtain⟨p2,hp2,rfl⟩:=List.mem_map.1 h2
   have a1:=v3 p1 hp1
   cases hn:p2.new with
   |none=>exact hnewU p1.tag (by omega) (by omega) (he▸(hB.old p2 hp2 hn).2)
   |some _=>have:=hB.new p2 hp2 (by simp [hn]);omega
  have hnewT: ∀r∈recsV++recsB,r.new.isSome=true→nx≤r.tag∧r.tag<nx+((fn.resultTypes.toList.flatMap (zaz P)).length+zld P bs):=fun r hr hn=>by
   rcases List.mem_append.1 hr with hr|hr
   ·have:=v3 r hr;omega
   ·have:=hB.new r hr hn;omega
  have htops:((recsV++recsB).flatMap Chg.top).Sublist (o1++o2):=by
   rw [List.flatMap_append,v2];exact(List.Sublist.refl _).append hB.tops
  have hhsR: ∀b∈hs,∃r∈recsV++recsB,b∈(c.G r.tag).top:=fun b hb=>by
   obtain⟨t,ht,hbt⟩:=hhsT b hb
   obtain⟨r,hr,rfl⟩:=hB.all t ht
   exact⟨r,by simp [hr],hbt⟩
  have hhsR1: ∀b∈hs,∃r∈recsV++recsB,b∈((c.frz (fz.map (·.1))).G r.tag).top:=fun b hb=>by
   obtain⟨t,ht,hbt⟩:=hhsT b hb
   obtain⟨r,hr,rfl⟩:=hB.all t ht
   exact⟨r,by simp [hr],by rw [hGh _ ht];exact hbt⟩
  have htopin: ∀r∈recsV++recsB,∀b∈r.top,b∈o1++o2:=fun r hr b hb=>htops.subset (List.mem_flatMap.2 ⟨r,hr,hb⟩)
  have hokf: ∀b∈f1++f2,((c.frz (fz.map (·.1))).chg w' (recsV++recsB)).ok b:=by
   cases hun:(unflVs P fn.resultTypes.toList s.res||unflB P bs)with
   |false=>
    simp only [Bool.or_eq_false_iff]at hun
    have hfl:zyr P fn.resultTypes.toList s.res R=true∧znj P fn.params.toList s.modes Bs=true:=by
     unfold znw at hflat
     cases hBs:Bs with
     |nil=>
      rw [if_neg (by rw [(zlF hback).1 hBs];simp)]at hflat
      rw [hBs]at hrR
      rw [hrR]at hflat
      refine⟨hflat, ?_⟩
      have: ∀(ts:List TypeId) (ms:List PM),znj P ts ms []=true:=by
       intro ts
       induction ts with
       |nil=>intro ms;rfl
       |cons t ts ih=>
        intro ms
        unfold znj
        split
        ·exact ih _
        ·exact ih _
        ·exact ih _
        ·split
         ·rename_i hh;cases hh
         ·simpa using ih _
      exact this _ _
     |cons B Bs'=>
      rw [if_pos (by
       cases hh:hasBack fn.params.toList s.modes with
       |true=>rfl
       |false=>rw [(zlF hback).2 hh]at hBs;cases hBs)]at hflat
      rw [hrR,hBs]at hflat
      simpa using hflat
    have e1:f1= []:=hres.flat hun.1 hfl.1
    have e2:f2= []:=zd5.flat q4 hback hun.2 hfl.2
    subst e1;subst e2;simp
   |true=>
    rw [hun]at hnb hfz0
    simp only [Bool.true_and,Bool.not_eq_true',Bool.not_eq_false]at hnb
    simp only [if_true]at hfz0
    exact zxl (rf:=rf) h.rel.gw hG1 rfl rfl rfl h.rel.base.size hnodT htopin hhsR (fun b hb=>zkn h.rel h.eh h.gs hfz0 (by simpa using hnb) (q2 b hb)) hf12
  have hentB:after P nv (nx+(fn.resultTypes.toList.flatMap (zaz P)).length) bs 0=recsB.map fun r=>(r.tag,zeG gs r.ent):=by
   cases hbs:bs with
   |nil=>
    have:=hB.ents
    rw [hbs]at this
    simp only [after]at this
    have:recsB= []:=by simpa using this.symm
    rw [this];rfl
   |cons b bs'=>
    have hg0:=q6 (by rw [hbs];simp)
    rw [←hbs,hB.ents,hg0];rfl
  have hent:zwZ gs l++after P nv (nx+(fn.resultTypes.toList.flatMap (zaz P)).length) bs 0=(recsV++recsB).map fun r=>(r.tag,zeG gs r.ent):=by
   rw [hentB,List.map_append]
   congr 1
   rw [v1];simp [zwZ,Chg.pair]
  obtain⟨hrel2,hkeep⟩:=hrel1.changes (w':=w') (recs:=recsV++recsB) (hs:=hs) (gs:=gs) h.gs hmod hnodT (fun r hr hn=>by have:=hnewT r hr hn;exact hnewU _ this.1 this.2) hhsR1 (htops.nodup hnod) (fun r hr b hb=>ho12 b (htopin r hr b hb))
   (fun r hr=>by
    rcases List.mem_append.1 hr with hr|hr
    ·exact v5 r hr
    ·exact hB.ne r hr)
   (fun _ r hr=>by
    have aft:=Cx.chg_aft (c:=c.frz (fz.map (·.1))) (w':=w') (recs:=recsV++recsB) h.rel.usedK hnodT (fun r hr hn=>by have:=hnewT r hr hn;exact hnewU _ this.1 this.2)
    have aft':Aft c ((c.frz (fz.map (·.1))).chg w' (recsV++recsB)) w' (recsV++recsB):=⟨aft.ρ,aft.w,aft.G,aft.new,aft.K,aft.old,aft.newE,fun r hr hno=>(aft.oldE r hr hno).trans (by
     rcases List.mem_append.1 hr with hr|hr
     ·have:=(v3 r hr).2.2;rw [hno]at this;cases this
     ·rw [hEh _ (hB.old r hr hno).1])⟩
    rcases List.mem_append.1 hr with hr|hr
    ·exact(v6 _ (aft'.mono fun r hr=>by simp [hr]) fun b hb=>hokf b (by simp [hb])).2 r hr
    ·exact hB.ok _ (aft'.mono fun r hr=>by simp [hr]) (fun b hb=>hokf b (by simp [hb])) r hr)
  have aft:=Cx.chg_aft (c:=c.frz (fz.map (·.1))) (w':=w') (recs:=recsV++recsB) h.rel.usedK hnodT (fun r hr hn=>by have:=hnewT r hr hn;exact hnewU _ this.1 this.2)
  have aft':Aft c ((c.frz (fz.map (·.1))).chg w' (recsV++recsB)) w' (recsV++recsB):=⟨aft.ρ,aft.w,aft.G,aft.new,aft.K,aft.old,aft.newE,fun r hr hno=>(aft.oldE r hr hno).trans (by
     rcases List.mem_append.1 hr with hr|hr
     ·have:=(v3 r hr).2.2;rw [hno]at this;cases this
     ·rw [hEh _ (hB.old r hr hno).1])⟩
  have hval:=(v6 _ (aft'.mono fun r hr=>by simp [hr]) fun b hb=>hokf b (by simp [hb])).1
  rw [←hent,←zkt]at hrel2
  refine hk _ ((c.frz (fz.map (·.1))).chg w' (recsV++recsB)) ⟨rfl,rfl,rfl,rfl,fun t ht=> ?_⟩ (hrel2.put (hval.mkGd gs h.gs) o.dst)
  rcases ht with ht|⟨r,hr,rfl⟩
  ·exact .inl ht
  ·cases hn:r.new with
   |none=>
    rcases List.mem_append.1 hr with hr|hr
    ·have:=(v3 r hr).2.2;rw [hn]at this;cases this
    ·exact .inl (hB.old r hr hn).2
   |some _=>
    have:=hnewT r hr (by simp [hn])
    exact .inr ⟨this.1,by simp only [zao];omega⟩
 ·cases he
end
end Go.Proofs.YtecngjbpbnfegaaGreatDoor
end
section
namespace Go.Proofs.YtecngjbpbnfegaaGreatDoor
open Go.RowKit
def zbA (c:Cx) (us:List Nat):List Nat:=us.flatMap fun t=>(c.G t).top
theorem zno (c:Cx):zbA c []= []:=rfl
theorem ziT (c:Cx) (u:Nat) (us:List Nat):zbA c (u::us)=(c.G u).top++zbA c us:=by simp [zbA]
theorem zdY (c:Cx) (us vs:List Nat):zbA c (us++vs)=zbA c us++zbA c vs:=by simp [zbA]
theorem zhx {c:Cx} {us:List Nat} {b:Nat}:b∈zbA c us↔ ∃t∈us,b∈(c.G t).top:=by simp [zbA]
theorem zh1 {c:Cx} (gw:GW c): ∀{l:List Nat},l.Nodup→(zbA c l).Nodup
 | [],_=>by simp [zbA]
 |t::l,hl=>by
  rw [ziT,List.nodup_append]
  rw [List.nodup_cons]at hl
  refine⟨?_,zh1 gw hl.2,fun a ha b hb hab=> ?_⟩
  ·have:=gw.nodup t
   simp only [GI.own]at this
   exact(List.nodup_append.1 this).1
  ·subst hab
   obtain⟨u,hu,hbu⟩:=zhx.1 hb
   exact gw.disj t u (fun hh=>hl.1 (hh▸hu)) a (by simp [GI.own,ha]) (by simp [GI.own,hbu])
section
variable {P:Program} {c:Cx} {hp:Nat→Option Ent} {gs:Gd}
theorem zso {m:Nat} {u g:Nat} {x y:E} (hx:zfb hp gs m (.own u g)=some x) (hy:zd2 hp gs u g=some y):x=y:=by
 cases m with
 |zero=>simp [zfb]at hx
 |succ m=>simp only [zfb,hy,Option.some.injEq]at hx;exact hx.symm
theorem zvc {m:Nat} {x:E} (h:zfb hp gs m .emp=some x):x= .lst .nil:=by
 cases m with
 |zero=>simp [zfb]at h
 |succ m=>simp [zfb]at h;exact h.symm
theorem zun (eh:EH c hp) (k:zeF c.ρ gs) {d:DT} {s:SV} {us:List Nat} {ck:List Cn} {v:Value} {x:E} {m:Nat} (h:zwS hp gs d s=some (us,ck)) (hs:SR c [s] [v]) (hx:zfb hp gs m s=some x) (hc: ∀q∈ck,q.den c.ρ):
  DC c.w [d] [v] [x.den c.ρ] (zbA c us)∧ ∀u∈us,∃g,c.K u g:=by
 unfold zwS at h
 split at h
 ·rename_i y
  simp only [Option.some.injEq,Prod.mk.injEq]at h;obtain⟨rfl,rfl⟩:=h
  rw [zlb hx]
  cases hs with
  |e h1 h2 h3=>
   rename_i f
   have hsc:(y.den c.ρ).scalar=true:=by
    cases hl:zAV y with
    |true=>cases y<;>simp [zAV]at hl<;>rfl
    |false=>
     rw [hl]at hc
     exact(hc1 hc).2.2.2 rfl
   have hf:f= []:=zfT h1 (by simpa using hsc)
   subst hf
   exact⟨.flat h1 .nil,by simp⟩
 ·split at h
  ·rename_i hh
   simp only [Option.some.injEq,Prod.mk.injEq]at h;obtain⟨rfl,rfl⟩:=h
   rw [zfX hx]
   cases hs with
   |nils _=>exact⟨.void hh.1 hh.2 .nil,by simp⟩
  ·cases h
 ·split at h
  ·rename_i hh
   simp only [Option.some.injEq,Prod.mk.injEq]at h;obtain⟨rfl,rfl⟩:=h
   rw [zvc hx]
   cases hs with
   |emp _=>exact⟨.void hh.1 hh.2 .nil,by simp⟩
  ·cases h
 ·rename_i e z l u g
  split at h
  ·rename_i e' z' l' g' ep y hl
   split at h
   ·rename_i hh
    obtain⟨rfl,rfl,rfl,hb⟩:=hh
    simp only [Option.some.injEq,Prod.mk.injEq]at h;obtain⟨rfl,rfl⟩:=h
    obtain⟨q1,q2,q3,q4,q5⟩:=eh u _ (zaV hl k)
    rw [zso (y:=y) hx (by simp only [zd2,hl,if_true])]
    have hb:=DTL.of_eq hb
    subst hb
    rw [DTL.of_toList]at q4
    cases hs with
    |own k1 k2 _=>
     rw [k2]at q4
     exact⟨by rw [ziT,zno,List.append_nil];exact q4,fun w hw=>by simp at hw;subst hw;exact⟨_,k1⟩⟩
   ·cases h
  ·rename_i e' z' g' y hl
   split at h
   ·rename_i hh
    obtain⟨rfl,rfl,rfl,hf,hlen⟩:=hh
    simp only [Option.some.injEq,Prod.mk.injEq]at h;obtain⟨rfl,rfl⟩:=h
    obtain⟨q1,q2,N,q4,q5,q6,q7⟩:=eh u _ (zaV hl k)
    obtain⟨hN,_⟩:=q6 rfl
    have hN:N= []:=hN
    subst hN
    rw [zso (y:=y) hx (by simp only [zd2,hl,if_true])]
    cases hs with
    |own k1 k2 _=>
     rw [k2]at q4
     exact⟨by rw [ziT,zno,List.append_nil];exact DC.ofOwn q4 hf hlen,fun w hw=>by simp at hw;subst hw;exact⟨_,k1⟩⟩
   ·cases h
  ·cases h
 ·cases h
theorem zlR (eh:EH c hp) (k:zeF c.ρ gs): ∀(ds:List DT) {ss:List SV} {us:List Nat} {ck:List Cn} {vs:List Value} {xs:EL} {m:Nat},znJ hp gs ds ss=some (us,ck)→SR c ss vs→zdI hp gs m ss=some xs→(∀q∈ck,q.den c.ρ)→
  DC c.w ds vs (xs.den c.ρ) (zbA c us)∧ ∀u∈us,∃g,c.K u g
 | [], [],us,ck,vs,xs,m,h,hs,hx,hc=>by
  simp [znJ]at h;obtain⟨rfl,rfl⟩:=h
  cases hs
  cases m with
  |zero=>simp [zdI]at hx
  |succ m=>simp [zdI]at hx;subst hx;exact⟨.nil,by simp⟩
 | [],_::_,us,ck,vs,xs,m,h,hs,hx,hc=>by simp [znJ]at h
 |_::_, [],us,ck,vs,xs,m,h,hs,hx,hc=>by simp [znJ]at h
 |d::ds,s::ss,us,ck, [],xs,m,h,hs,hx,hc=>by have:=hs.len;simp at this
 |d::ds,s::ss,us,ck,v::vs,xs,m,h,hs,hx,hc=>by
  obtain⟨j,y,ys,rfl,hy,hys,rfl⟩:=zey hx
  obtain⟨r1,r2⟩:=hs.uncons
  unfold znJ at h
  split at h
  ·rename_i us1 ck1 us2 ck2 h1 h2
   simp only [Option.some.injEq,Prod.mk.injEq]at h;obtain⟨rfl,rfl⟩:=h
   obtain⟨q1,q2⟩:=zun eh k h1 r1 hy fun q hq=>hc q (by simp [hq])
   obtain⟨q3,q4⟩:=zlR eh k ds h2 r2 hys fun q hq=>hc q (by simp [hq])
   refine⟨by rw [zdY];exact q1.app q3,fun u hu=> ?_⟩
   rcases List.mem_append.1 hu with hu|hu
   ·exact q2 u hu
   ·exact q4 u hu
  ·cases h
theorem zpQ (eh:EH c hp) (k:zeF c.ρ gs) {t:TypeId} {ds:List DT} {s:SV} {us:List Nat} {ck:List Cn} {v:Value} {x:E} (hds:ds.length=P.cellsOf t) (hg:zaY P t=true∨P.cellsOf t=1) (h:zrg P hp gs t ds s=some (x,us,ck)) (hs:SR c [s] [v]) (hc: ∀q∈ck,q.den c.ρ):
  DC c.w ds v.cells.toList (x.den c.ρ).cells (zbA c us)∧(∀u∈v.cells.toList,u.oneCell'=true)∧(x.den c.ρ).cells.length=P.cellsOf t∧v.cells.size=P.cellsOf t∧
   (if zaY P t then∃cs,x.den c.ρ= .agg cs else(∀cs,x.den c.ρ≠ .agg cs)∧ ∀cs,x.den c.ρ≠ .tup cs)∧ ∀u∈us,∃g,c.K u g:=by
 unfold zrg at h
 split at h
 ·cases h
 rename_i y hy
 split at h
 ·rename_i hfl
  simp only [Option.some.injEq,Prod.mk.injEq]at h;obtain⟨rfl,rfl,rfl⟩:=h
  obtain⟨f,q1,q2⟩:=zhe eh k zaj hy hs zaj (Nat.le_refl _)
  obtain⟨c1,c2,c3,c4⟩:=hc1 hc
  have hform:if zaY P t then∃cs,y.den c.ρ= .agg cs∧cs.length=P.cellsOf t else(∀cs,y.den c.ρ≠ .agg cs)∧ ∀cs,y.den c.ρ≠ .tup cs:=by
   split
   ·rename_i hag
    obtain⟨cs,hcs⟩:=c3 hag
    exact⟨cs,hcs,by rw [hcs]at c1;exact c1⟩
   ·rename_i hag
    have:=c4 (by simpa using hag)
    exact⟨fun cs hcs=>by rw [hcs]at this;simp [AV.scalar]at this,fun cs hcs=>by rw [hcs]at this;simp [AV.scalar]at this⟩
  have hf:f= []:=by
   cases hgg:zaY P t with
   |true=>
    obtain⟨cs,hcs⟩:=c3 hgg
    obtain⟨as,rfl,_,r⟩:=zjx q1 hcs
    exact zfT r (by rw [hcs]at c2;exact c2)
   |false=>exact zfT q1 (by simpa using c4 hgg)
  subst hf
  obtain⟨o1,o2,o3,o4⟩:=zo0 (P:=P) q1 hg hform
  refine⟨DC.ofRd o1 hfl (by rw [hds];simpa using o4.symm),o2,o3,o4, ?_,by simp⟩
  split at hform
  ·rename_i hag;rw [if_pos hag];obtain⟨cs,hcs,_⟩:=hform;exact⟨cs,hcs⟩
  ·rename_i hag;rw [if_neg hag];exact hform
 ·rename_i hnf
  split at h
  ·cases h
  rename_i hag
  have hag:(zeD s).2=zaY P t:=by simpa using hag
  obtain⟨⟨us',ck'⟩,hr,h⟩:=Option.map_eq_some_iff.1 h
  simp only [Prod.mk.injEq]at h;obtain⟨rfl,rfl,rfl⟩:=h
  have single:zaY P t=false→znJ hp gs ds [s]=some (us',ck')→DC c.w ds v.cells.toList (y.den c.ρ).cells (zbA c us')∧(∀u∈v.cells.toList,u.oneCell'=true)∧(y.den c.ρ).cells.length=P.cellsOf t∧v.cells.size=P.cellsOf t∧
   (if zaY P t then∃cs,y.den c.ρ= .agg cs else(∀cs,y.den c.ρ≠ .agg cs)∧ ∀cs,y.den c.ρ≠ .tup cs)∧ ∀u∈us',∃g,c.K u g:=by
   intro hag hr
   have hel:zdI hp gs (zaj+1) [s]=some (.cons y .nil):=by
    unfold zdI
    rw [hy];rfl
   obtain⟨q1,q2⟩:=zlR eh k ds hr hs hel hc
   have hd1:=q1.len
   simp only [EL.den,List.length_cons,List.length_nil]at hd1
   match ds,hd1,q1,hnf,hds with
   | [d],_,q1,hnf,hds=>
    cases d with
    |flat=>simp [DT.isFlat]at hnf
    |row e z l=>
     obtain⟨p,q,r,rfl⟩:=q1.head
     obtain⟨xs,hxs⟩: ∃xs,y.den c.ρ= .sl xs:=by
      obtain⟨_,_,⟨_,_,hx,_⟩|⟨_,_,_,_,_,_,hx,_⟩⟩:=q1.inv
      ·exact⟨_,hx⟩
      ·exact⟨_,hx⟩
     rw [if_neg (by rw [hag];simp)]
     refine⟨?_,by simp [Value.cells,Value.oneCell'],by rw [hxs,←hds];rfl,by rw [←hds];rfl, ?_,q2⟩
     ·simp only [EL.den]at q1
      rw [hxs]at q1 ⊢
      exact q1
     ·rw [hxs];exact⟨fun cs hh=>(by cases hh),fun cs hh=>(by cases hh)⟩
  cases s with
  |agg cs=>
   simp only [zeD]at hag hr
   obtain⟨m,l,hm,hl,rfl⟩:=zmI hy
   cases hs with
   |agg h9 h1 h8=>
    rename_i as
    obtain⟨q1,q2⟩:=zlR eh k ds hr h1 hl hc
    obtain⟨l1,l2⟩:=q1.len
    rw [if_pos hag.symm]
    exact⟨by simpa [Value.cells,AV.cells,E.den]using q1,by simpa [Value.cells]using h9,by simp only [E.den,AV.cells];omega,by simp [Value.cells];omega,⟨_,rfl⟩,q2⟩
  |_=>exact single hag.symm hr
theorem zmy (eh:EH c hp) (k:zeF c.ρ gs) {t:TypeId} {ds:List DT} (hds:ds.length=P.cellsOf t) (hg:zaY P t=true∨P.cellsOf t=1): ∀(ss:List SV) (vs:List Value) {xs:List E} {us:List Nat} {ck:List Cn},SR c ss vs→zme P hp gs t ds ss=some (xs,us,ck)→(∀q∈ck,q.den c.ρ)→
  DC c.w (zjt vs.length ds) (vs.flatMap fun v=>v.cells.toList) (zaQ (xs.map (E.den c.ρ))) (zbA c us)∧(∀v∈vs,v.cells.size=P.cellsOf t∧ ∀u∈v.cells.toList,u.oneCell'=true)∧(∀x∈xs,(x.den c.ρ).cells.length=P.cellsOf t)∧xs.length=vs.length∧ ∀u∈us,∃g,c.K u g
 | [],vs,xs,us,ck,hr,ht,hc=>by
  simp [zme]at ht;obtain⟨rfl,rfl,rfl⟩:=ht
  cases hr
  exact⟨by simpa [zaQ,zjt,zbA]using DC.nil,by simp,by simp,rfl,by simp⟩
 |s::ss, [],xs,us,ck,hr,ht,hc=>by have:=hr.len;simp at this
 |s::ss,v::vs,xs,us,ck,hr,ht,hc=>by
  obtain⟨r1,r2⟩:=hr.uncons
  unfold zme at ht
  split at ht
  ·rename_i x us1 ck1 xs2 us2 ck2 h1 h2
   simp only [Option.some.injEq,Prod.mk.injEq]at ht;obtain⟨rfl,rfl,rfl⟩:=ht
   obtain⟨q1,q2,q3,q4,q5,q6⟩:=zpQ eh k hds hg h1 r1 (fun q hq=>hc q (by simp [hq]))
   obtain⟨p1,p2,p3,p4,p5⟩:=zmy eh k hds hg ss vs r2 h2 (fun q hq=>hc q (by simp [hq]))
   refine⟨?_, ?_, ?_,by simp [p4], ?_⟩
   ·have:=q1.app p1
    rw [List.length_cons,zg2,zdY]
    simpa [zaQ]using this
   ·intro u hu
    rcases List.mem_cons.1 hu with rfl|hu
    ·exact⟨q4,q2⟩
    ·exact p2 u hu
   ·intro u hu
    rcases List.mem_cons.1 hu with rfl|hu
    ·exact q3
    ·exact p3 u hu
   ·intro u hu
    rcases List.mem_append.1 hu with hu|hu
    ·exact q6 u hu
    ·exact p5 u hu
  ·cases ht
theorem zqg (eh:EH c hp) (k:zeF c.ρ gs) {e z:Nat} {l:List DT} {s:SV} {us:List Nat} {v:Value} {y:E} {m:Nat} (h:ztG hp gs e z l s=some us) (hs:SR c [s] [v]) (hy:zfb hp gs m s=some y):
  ∃ys q r news N,y.den c.ρ= .sl ys∧v= .slice q ys.length r∧Src c.w z q ys.length news∧DC c.w (zjt ys.length l) news (zaQ ys) N∧N.Sublist (zbA c us)∧(∀y∈ys,y.cells.length=z)∧(∀u∈news,u.oneCell'=true)∧ ∀u∈us,∃g,c.K u g:=by
 have empt: ∀q,v= .slice q 0 0→y= .lst .nil→us= []→ ∃ys q r news N,y.den c.ρ= .sl ys∧v= .slice q ys.length r∧Src c.w z q ys.length news∧DC c.w (zjt ys.length l) news (zaQ ys) N∧N.Sublist (zbA c us)∧(∀y∈ys,y.cells.length=z)∧(∀u∈news,u.oneCell'=true)∧ ∀u∈us,∃g,c.K u g:=by
  rintro q rfl rfl rfl
  refine⟨[],q,0, [], [],rfl,rfl, ?_,by simpa [zjt,zaQ]using DC.nil,by simp,by simp,by simp,by simp⟩
  cases q with
  |none=>exact .inl ⟨rfl,rfl,rfl⟩
  |some p=>exact .inr ⟨p,rfl,by simp,by simp,by simp⟩
 unfold ztG at h
 split at h
 ·simp only [Option.some.injEq]at h
  cases hs with
  |nils _=>exact empt _ rfl (zfX hy) h.symm
 ·simp only [Option.some.injEq]at h
  cases hs with
  |emp _=>exact empt _ rfl (zvc hy) h.symm
 ·rename_i u g
  split at h
  ·rename_i e' z' l' g' ep x hl
   split at h
   ·rename_i hh
    obtain⟨rfl,rfl,rfl,hb⟩:=hh
    simp only [Option.some.injEq]at h;subst h
    have hb:=DTL.of_inj hb
    subst hb
    obtain⟨q1,q2,q3,q4,q5⟩:=eh u _ (zaV hl k)
    have hyx:=zso (y:=x) hy (by simp only [zd2,hl,if_true])
    subst hyx
    cases hs with
    |own k1 k2 k3=>
     rename_i p0 n0 r0
     rw [k2]at q4
     have hK: ∀w∈ [u],∃g,c.K w g:=fun w hw=>by simp at hw;subst hw;exact⟨_,k1⟩
     obtain⟨d1,d2,⟨a9,d3,d4,d5⟩|⟨g9,cap,C,ys,N1,d3,d4,d5,d6,d7,d8,d9,d10,d11,d12⟩⟩:=q4.inv
     ·cases d3
      refine⟨[],_,0, [], [],d4,rfl, ?_,by simpa [zjt,zaQ]using DC.nil,by simp,by simp,by simp,hK⟩
      cases p0 with
      |none=>exact .inl ⟨rfl,rfl,rfl⟩
      |some p=>exact .inr ⟨p,rfl,by simp,by simp,by simp⟩
     ·cases d3
      rw [DTL.toList_of]at d12
      have hCl:C.toList.length=r0*z:=by simpa using d9
      refine⟨ys,_,r0,_,N1,d4,rfl, .inr ⟨_,rfl, ?_,fun j w hw=> ?_,d11⟩,d12, ?_,d10,d11,hK⟩
      ·rw [List.length_take,hCl];exact Nat.min_eq_left (Nat.mul_le_mul_right _ d7)
      ·rw [Addr.add_lit,Nat.zero_add,zax d6]
       rw [List.getElem?_take]at hw
       split at hw
       ·simpa using hw
       ·cases hw
      ·rw [ziT,zno,List.append_nil,d5];exact List.sublist_cons_self _ _
   ·cases h
  ·cases h
 ·cases h
end
end Go.Proofs.YtecngjbpbnfegaaGreatDoor
end
section
namespace Go.Proofs.YtecngjbpbnfegaaGreatDoor
open Go.RowKit
def zjr (T:List Nat):List Chg:=T.map fun u=>⟨u,none, [], .dead⟩
theorem zwf (T:List Nat):(zjr T).flatMap Chg.top= []:=by induction T<;>simp_all [zjr]
theorem zxk (T:List Nat):(zjr T).map Chg.tag=T:=by induction T<;>simp_all [zjr]
theorem zvl (T:List Nat):((zjr T).map fun r=>(r.tag,zeG [] r.ent))=zie T:=by simp [zjr,zie,zeG]
theorem zj4 {T:List Nat} {r:Chg} (h:r∈zjr T):r.tag∈T∧r.new=none∧r.top= []∧r.ent= .dead:=by
 obtain⟨u,hu,rfl⟩:=List.mem_map.1 h
 exact⟨hu,rfl,rfl,rfl⟩
section
variable {P:Program} {c:Cx} {n nx:Nat} {sl sl0:Nat→SV} {hp hp0:Nat→Option Ent} {a:Act} {o:Oper} {gs:Gd} {e:Eff} {sg:SgT} {nv:Nat}
theorem Rel.deep1 (h:Rel c n sl hp a) {T:List Nat} (hT:T.Nodup) (hTU: ∀u∈T,c.U u) {r0:Chg} (hr0:r0.tag∉T) (hr1:r0.new.isSome=true→ ¬c.U r0.tag) (hr2:r0.new=none→c.U r0.tag) {w':World} {hs:List Nat} (hhs: ∀b∈hs,b∈(c.G r0.tag).top∨b∈zbA c T) (hm:Mod hs c.w w')
  (hnd:r0.top.Nodup) (hin: ∀b∈r0.top,(b∈hs∨c.w.heap.size≤b)∧b<w'.heap.size) (hne: ∀q f,r0.ent≠ .gd q f)
  (he:zm4 c (c.chg w' (r0::zjr T))→Aft c (c.chg w' (r0::zjr T)) w' (r0::zjr T)→zkI (c.chg w' (r0::zjr T)) r0.tag r0.ent):
  Rel (c.chg w' (r0::zjr T)) n sl (zeH hp ((r0.tag,r0.ent)::zie T)) a∧zm4 c (c.chg w' (r0::zjr T))∧Aft c (c.chg w' (r0::zjr T)) w' (r0::zjr T)∧ ∀t,(c.chg w' (r0::zjr T)).U t→c.U t∨t=r0.tag:=by
 have hn:((r0::zjr T).map Chg.tag).Nodup:=by
  rw [List.map_cons,zxk];exact List.nodup_cons.2 ⟨hr0,hT⟩
 have hnew: ∀r∈r0::zjr T,r.new.isSome=true→ ¬c.U r.tag:=fun r hr hs=>by
  rcases List.mem_cons.1 hr with rfl|hr
  ·exact hr1 hs
  ·rw [(zj4 hr).2.1]at hs;cases hs
 have aft:=Cx.chg_aft (w':=w') h.usedK hn hnew
 obtain⟨q1,q2⟩:=h.changes (gs:= []) (zcQ _) hm hn hnew (fun b hb=>by
   rcases hhs b hb with hb|hb
   ·exact⟨r0,by simp,hb⟩
   ·obtain⟨t,ht,hbt⟩:=zhx.1 hb
    exact⟨⟨t,none, [], .dead⟩,List.mem_cons_of_mem _ (List.mem_map.2 ⟨t,ht,rfl⟩),hbt⟩)
  (by rw [List.flatMap_cons,zwf,List.append_nil];exact hnd)
  (fun r hr b hb=>by
   rcases List.mem_cons.1 hr with rfl|hr
   ·exact hin b hb
   ·rw [(zj4 hr).2.2.1]at hb;cases hb)
  (fun r hr=>by
   rcases List.mem_cons.1 hr with rfl|hr
   ·exact hne
   ·rw [(zj4 hr).2.2.2];intros;simp)
  (fun hk r hr=>by
   rcases List.mem_cons.1 hr with rfl|hr
   ·exact he hk aft
   ·have kg:=aft.G r (List.mem_cons_of_mem _ hr)
    obtain⟨_,_,e1,e2⟩:=zj4 hr
    rw [e2]
    exact⟨by rw [kg,e1],by rw [kg]⟩)
 refine⟨?_,q2,aft,fun t ht=> ?_⟩
 ·rw [List.map_cons,zvl]at q1
  have:zeG [] r0.ent=r0.ent:=rfl
  rw [this]at q1;exact q1
 ·rcases ht with ht|⟨r,hr,rfl⟩
  ·exact .inl ht
  ·rcases List.mem_cons.1 hr with rfl|hr
   ·exact .inr rfl
   ·exact .inl (hTU _ (zj4 hr).1)
theorem zbJ.deepNew (h:Pre P c n nx sl hp a sl0 hp0 o []) {T:List Nat} (hT:T.Nodup) (hTU: ∀u∈T,∃g,c.K u g) {v':Value} {w':World} {ck:List Cn} {e z:Nat} {l:List DT} {x:E} {top:List Nat} (hr:(execOp a.eval o).run P c.w= .ok (.value v') w') (hm:Mod (zbA c T) c.w w')
  (hnd:top.Nodup) (hin: ∀b∈top,(b∈zbA c T∨c.w.heap.size≤b)∧b<w'.heap.size) (hd:DC w' [.row e z (DTL.of l)] [v'] [x.den c.ρ] top):
  zbJ P o c n nx sl hp [] a {chk:=ck,val:= .own nx 0,ent:=(nx, .deep e z l 0 0 x)::zie T}:=by
 intro next Q hk
 unfold Oper.wp
 rw [hr,Oper.upon_value]
 have hU:=ziV h
 have hTU': ∀u∈T,c.U u:=fun u hu=>by obtain⟨g,hg⟩:=hTU u hu;exact h.rel.usedK _ _ hg
 obtain⟨q1,q2,q3,q4⟩:=h.rel.deep1 (r0:=⟨nx,some v',top, .deep e z l 0 0 x⟩) hT hTU' (fun hh=>hU (hTU' _ hh)) (fun _=>hU) (fun hh=>by cases hh) (fun b hb=> .inr hb) hm hnd hin (by intros;simp) (fun _ aft=>by
  obtain⟨k1,k2,k3⟩:=aft.new _ (List.mem_cons_self ..) v' rfl
  have kg:=aft.G _ (List.mem_cons_self ..)
  have ke:=aft.newE _ (List.mem_cons_self ..) rfl
  simp only at k1 k2 k3 kg ke
  exact⟨k1,k2,ke,by rw [k3,kg,aft.w,aft.ρ];exact hd,by rw [kg]⟩)
 obtain⟨k1,k2,k3⟩:=q3.new _ (List.mem_cons_self ..) v' rfl
 simp only at k1 k3
 obtain⟨p,m,r,rfl⟩:=hd.head
 refine hk _ (c.chg w' _) ⟨rfl,rfl,rfl,rfl,fun t ht=> ?_⟩ (q1.put (SR.own k1 k3 .nil) o.dst)
 rcases q4 t ht with ht|rfl
 ·exact .inl ht
 ·exact .inr ⟨Nat.le_refl _,by simp [zao]⟩
theorem zbJ.deepOld (h:Pre P c n nx sl hp a sl0 hp0 o []) {T:List Nat} (hT:T.Nodup) (hTU: ∀u∈T,∃g,c.K u g) {b g ep:Nat} (hb:b∉T) (hK:c.K b g) (hmax: ∀g',c.K b g'→g'≤g) (hE:c.E b=ep) {w':World} {ck:List Cn} {e z:Nat} {l:List DT} {x:E} {top:List Nat} (hr:(execOp a.eval o).run P c.w= .ok .skip w') {hs:List Nat} (hhs: ∀q∈hs,q∈(c.G b).top∨q∈zbA c T) (hm:Mod hs c.w w')
  (hnd:top.Nodup) (hin: ∀q∈top,(q∈hs∨c.w.heap.size≤q)∧q<w'.heap.size) (hd:DC w' [.row e z (DTL.of l)] [c.H b g] [x.den c.ρ] top):
  zbJ P o c n nx sl hp [] a {chk:=ck,ent:=(b, .deep e z l g (ep+1) x)::zie T}:=by
 intro next Q hk
 unfold Oper.wp
 rw [hr,Oper.upon_skip]
 have hTU': ∀u∈T,c.U u:=fun u hu=>by obtain⟨g,hg⟩:=hTU u hu;exact h.rel.usedK _ _ hg
 have hbU:=h.rel.usedK _ _ hK
 obtain⟨q1,q2,q3,q4⟩:=h.rel.deep1 (r0:=⟨b,none,top, .deep e z l g (ep+1) x⟩) hT hTU' hb (fun hh=>by cases hh) (fun _=>hbU) hhs hm hnd hin (by intros;simp) (fun _ aft=>by
  have kg:=aft.G _ (List.mem_cons_self ..)
  have ke:=aft.oldE _ (List.mem_cons_self ..) rfl
  obtain⟨k1,k2⟩:=aft.K b g hK
  simp only at kg ke
  exact⟨k1,fun g' hg'=>hmax g' (aft.old b hbU g' hg'),by rw [ke,hE],by rw [k2,kg,aft.w,aft.ρ];exact hd,by rw [kg]⟩)
 refine hk _ (c.chg w' _) ⟨rfl,rfl,rfl,rfl,fun t ht=> ?_⟩ (q1.put ((SR.undef .nil).mkGd []) o.dst)
 rcases q4 t ht with ht|rfl
 ·exact .inl ht
 ·exact .inl hbU
theorem ztX {w w':World} {row:Option Nat} {S:List Nat} (h:w.grownBy w' row) (hr: ∀g,row=some g→g∈S∨w.heap.size≤g):Mod S w w':=by
 refine⟨h.os,h.tape,h.output,h.size,fun b hb hn=>h.block b hb fun hh=> ?_⟩
 rcases hr b hh.symm with h1|h1
 ·exact hn h1
 ·omega
theorem zj5 (h:Pre P c n nx sl hp a sl0 hp0 o []) {x y:Operand} {tx:TypeId} {cl:Call} (ho:o.op= .call cl) (hcl:cl.callee= .builtin .append) (ha1:cl.args.toList= [x,y]) (ha2:cl.argTypes.toList= [tx,tx])
  {el:TypeId} (hel:P.underlying tx=some (.slice el)) (hz:ziq P el=true) {l:List DT} (hl:l.length=P.cellsOf el) {T us:List Nat} (hT:(T++us).Nodup) (hTU: ∀u∈T,∃g,c.K u g) {s2:SV} {ye:E} (hs2:zan sl0 [] y=some s2) (hy:zfb hp0 [] zaj s2=some ye) (htk:ztG hp0 [] el (P.cellsOf el) l s2=some us)
  {c0:E} {v:Value} (hv:a.eval x=v) {N:List Nat} (hrow:DC c.w [.row el (P.cellsOf el) (DTL.of l)] [v] [c0.den c.ρ] N) (hN:N=zbA c T) {ck:List Cn} (hroom:Cn.den c.ρ (.room c0 ye (P.bytesOf el))):
  zbJ P o c n nx sl hp [] a {chk:=ck,val:= .own nx 0,ent:=(nx, .deep el (P.cellsOf el) l 0 0 (.app c0 ye))::zie (T++us)}:=by
 have hargs:cl.args= #[x,y]:=by apply Array.ext';simp [ha1]
 have htys:cl.argTypes= #[tx,tx]:=by apply Array.ext';simp [ha2]
 have hm2:y∈o.op.operands:=by simp [ho,Op.operands,Call.operands,hcl,hargs]
 obtain⟨i,z,hi,hiz,hzs,hsz,hco,hby⟩:=zec hz
 obtain⟨ys,q,r,news,N2,hys,hv2,hsrc,hdn,hsub,hyc,hn1,husK⟩:=zqg h.eh h.gs htk (h.opd hs2 hm2) hy
 have hnodT:=zh1 h.rel.gw hT
 rw [zdY]at hnodT
 have hinb: ∀b∈zbA c (T++us),b<c.w.heap.size:=fun b hb=>by
  obtain⟨t,_,hbt⟩:=zhx.1 hb
  exact h.rel.gw.inb t b (by simp [GI.own,hbt])
 obtain⟨mm,kk,hr1,hr2,hr3,hr4⟩:=hroom
 obtain⟨d1,d2,hcase⟩:=hrow.inv
 rw [DTL.toList_of]at d2 hcase
 have hU: ∀u∈T++us,∃g,c.K u g:=fun u hu=>by
  rcases List.mem_append.1 hu with hu|hu
  ·exact hTU u hu
  ·exact husK u hu
 obtain⟨xs,old,N1,hxs,hold,hrowA,hdo,hxc,hone,hN1,hN1d⟩: ∃(xs:List AV) (old:List Value) (N1:List Nat),c0.den c.ρ= .sl xs∧old.length=xs.length*i.size∧((xs.length=0∧ ∃q,v= .slice q 0 0)∨ ∃g cap C,v= .slice (some ⟨g,0,none⟩) xs.length cap∧xs.length≤cap∧cap≤maxLen∧c.w.heap[g]?=some (.cells C el (0,0))∧C.size=cap*i.size∧old=C.toList.take (xs.length*i.size)∧(g∈zbA c T∧g∉N1))∧
   DC c.w (zjt xs.length l) old (zaQ xs) N1∧(∀y∈xs,y.cells.length=P.cellsOf el)∧(∀u∈old,u.oneCell'=true)∧(∀b∈N1,b∈zbA c T)∧N1.Nodup:=by
  rcases hcase with⟨p,rfl,hx0,rfl⟩|⟨g9,cap,C,xs,N1,rfl,hx0,rfl,h6,h7,h8,h9,h10,h11,h12⟩
  ·exact⟨[], [], [],hx0,by simp, .inl ⟨rfl,p,rfl⟩,by simpa [zjt,zaQ]using DC.nil,by simp,by simp,by simp,by simp⟩
  ·have hnd:(g9::N1).Nodup:=by rw [hN];exact(List.nodup_append.1 hnodT).1
   rw [List.nodup_cons]at hnd
   refine⟨xs,_,N1,hx0, ?_, .inr ⟨g9,cap,C,rfl,h7,h8,h6,by rw [←hco];exact h9,rfl,by rw [←hN];simp,hnd.1⟩,by rw [←hco];exact h12,h10,by rw [←hco];exact h11,fun b hb=>by rw [←hN];simp [hb],hnd.2⟩
   have e9:C.toList.length=cap*i.size:=by rw [←hco,←h9];simp
   rw [List.length_take,e9]
   exact Nat.min_eq_left (Nat.mul_le_mul_right _ h7)
 rw [hxs]at hr1;rw [hys]at hr2
 simp only [AV.len,AV.int.injEq,true_and]at hr1 hr2
 have hb1:(xs.length+ys.length)*i.bytes≤140737488355328:=by
  rw [←hr1,←hr2,hby]at hr3
  have h9:(((xs.length+ys.length)*i.bytes:Nat):Int)≤140737488355328:=by rw [Int.natCast_mul,Int.natCast_add];exact hr3
  omega
 have hb2:xs.length+ys.length≤140737488355328:=by rw [←hr1,←hr2]at hr4;omega
 rw [hco]at hsrc
 obtain⟨v',w',hrun,hres⟩:=zxC (P:=P) c.w tx o.type el i z hel hi hiz hzs hsz (fun g9=>g9∈zbA c T∧g9∉N1) v xs.length old hold hrowA q ys.length r news hsrc (by simp only [maxLen];omega) hb1
 have hrun':(execOp a.eval o).run P c.w= .ok (.value v') w':=by
  simp [execOp,ho,resolve,hcl,hargs,htys,invoke,builtin,hv,hv2,hrun]
 have hN2: ∀b∈N2,b∈zbA c us:=fun b hb=>hsub.subset hb
 have hN2d:N2.Nodup:=hsub.nodup (List.nodup_append.1 hnodT).2.1
 have happ:(E.app c0 ye).den c.ρ= .sl (xs++ys):=by simp only [E.den,hxs,hys,AV.app]
 rcases hres with⟨rfl,rfl,hm0⟩|⟨g9,cap,C,rfl,h1,h2,h3,h4,h5,h6,h7⟩
 ·have hy0:ys= []:=List.eq_nil_of_length_eq_zero hm0
  subst hy0
  refine zbJ.deepNew h hT hU hrun' (Mod.refl _ _) (top:=N) (by rw [hN];exact(List.nodup_append.1 hnodT).1) (fun b hb=>⟨.inl (by rw [zdY,←hN];simp [hb]),hinb b (by rw [zdY,←hN];simp [hb])⟩) ?_
  rw [happ,List.append_nil,←hxs];exact hrow
 ·have hg9:(g9∈zbA c T∨c.w.heap.size≤g9)∧g9∉N1∧g9∉N2:=by
   rcases h7 with⟨rfl,_⟩|⟨hg,hg'⟩
   ·refine⟨.inr (Nat.le_refl _),fun hh=> ?_,fun hh=> ?_⟩
    ·have:=hinb _ (by rw [zdY];exact List.mem_append.2 (.inl (hN1 _ hh)));omega
    ·have:=hinb _ (by rw [zdY];exact List.mem_append.2 (.inr (hN2 _ hh)));omega
   ·exact⟨.inl hg,hg',fun hh=>(List.nodup_append.1 hnodT).2.2 _ hg _ (hN2 _ hh) rfl⟩
  have hsame: ∀b∈N1++N2,w'.heap[b]?=c.w.heap[b]?:=fun b hb=>by
   have hlt:b<c.w.heap.size:=hinb b (by
    rw [zdY]
    rcases List.mem_append.1 hb with hb|hb
    ·exact List.mem_append.2 (.inl (hN1 b hb))
    ·exact List.mem_append.2 (.inr (hN2 b hb)))
   refine h6.block b hlt fun hh=> ?_
   cases hh
   rcases List.mem_append.1 hb with hb|hb
   ·exact hg9.2.1 hb
   ·exact hg9.2.2 hb
  refine zbJ.deepNew h hT hU hrun' (ztX h6 fun g hg=> ?_) (top:=g9::(N1++N2)) ?_ (fun b hb=> ?_) ?_
  ·cases hg
   rcases hg9.1 with hh|hh
   ·exact .inl (by rw [zdY];exact List.mem_append.2 (.inl hh))
   ·exact .inr hh
  ·refine List.nodup_cons.2 ⟨fun hh=> ?_,List.nodup_append.2 ⟨hN1d,hN2d,fun p hp q hq=> ?_⟩⟩
   ·rcases List.mem_append.1 hh with hh|hh
    ·exact hg9.2.1 hh
    ·exact hg9.2.2 hh
   ·exact(List.nodup_append.1 hnodT).2.2 p (hN1 p hp) q (hN2 q hq)
  ·rcases List.mem_cons.1 hb with rfl|hb
   ·refine⟨?_,zcn h3⟩
    rcases hg9.1 with hh|hh
    ·exact .inl (by rw [zdY];exact List.mem_append.2 (.inl hh))
    ·exact .inr hh
   ·have hbT:b∈zbA c (T++us):=by
     rw [zdY]
     rcases List.mem_append.1 hb with hb|hb
     ·exact List.mem_append.2 (.inl (hN1 b hb))
     ·exact List.mem_append.2 (.inr (hN2 b hb))
    exact⟨.inl hbT,Nat.lt_of_lt_of_le (hinb b hbT) h6.size⟩
  ·rw [happ]
   have hlen:(xs++ys).length=xs.length+ys.length:=List.length_append
   rw [hco]at d1 d2 hxc hyc ⊢
   have:=DC.row (w:=w') (e:=el) (z:=i.size) (l:=DTL.of l) (g:=g9) (cap:=cap) (C:=C) (ys:=xs++ys) (N1:=N1++N2) (ts:= []) (vs:= []) (xs:= []) (N:= []) d1 (by rw [DTL.toList_of];exact d2) h3 (by rw [hlen];exact h1) h2 h4 (fun w hw=> ?_) (by
     rw [hlen,h5]
     intro u hu
     rcases List.mem_append.1 hu with hu|hu
     ·exact hone u hu
     ·exact hn1 u hu) (by
     rw [hlen,h5,zj3,zye,DTL.toList_of]
     exact(hdo.app hdn).frame hsame) .nil
   ·rw [hlen]at this
    simpa using this
   ·rcases List.mem_append.1 hw with hw|hw
    ·exact hxc w hw
    ·exact hyc w hw
end
end Go.Proofs.YtecngjbpbnfegaaGreatDoor
end

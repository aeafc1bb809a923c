/- Parts of a proof, joined: NDB, NQS, N17, N18, N19, N20, N21, N22, NM, NN, NB, NKA, PL. -/
import Derived.Test.YtgobcjbjogkpjaaGreatDoorK9
import Derived.Lib.LaidTab
import Derived.LaidSub
section
namespace Go.Proofs.YtgobcjbjogkpjaaGreatDoor
open Go.RowKit
set_option maxRecDepth 100000
theorem zrT {k v:Str} (h1:zbH k=true) (h2:zeG v=true):zfn ⟨k,v,false⟩=true:=by
 unfold zfn zh5
 rw [h1,h2];rfl
theorem zqD {w:zaa} (h:zfn w=true):zj0 w:=⟨by have:=zs2 h;omega,by have:=zlO h;omega⟩
theorem zjC.mono {n m:Nat} {l:List zaa} (h:zjC n l) (hm:n≤m):zjC m l:=⟨h.rise,by have:=h.len;omega,h.good⟩
theorem zBC {c:zak} {k:Int} (h:okC c k) (hk:k≤4611686018427387000):zcI (zdC c) fun p=>zbH p.1=true∧okC p.2 (k+2):=by
 unfold zdC
 refine(znw _ (by simp) h (by omega)).bind fun p ⟨hp,hc⟩=> .ret ⟨?_,hc⟩
 simp only [List.mem_cons,List.not_mem_nil,or_false]at hp
 dsimp only
 rcases hp with e|e|e|e|e|e|e|e<;>rw [e]<;>decide
theorem zBO {c:zak} {k:Int} (h:okC c k) (hk:k≤4611686018427387000):zcI (zdD c) fun p=>zeG p.1=true∧okC p.2 (k+2):=by
 unfold zdD
 refine(znw _ (by simp) h (by omega)).bind fun p ⟨hp,hc⟩=> .ret ⟨?_,hc⟩
 simp only [List.mem_cons,List.not_mem_nil,or_false]at hp
 dsimp only
 rcases hp with e|e|e|e|e|e|e<;>rw [e]<;>decide
theorem zwa {t:zab} {r:za5} (hg:zac t=true) (h:zam t r=true):zp7 t r:=⟨by
 have h1:=h
 unfold zam at h1
 rw [Bool.and_eq_true,beq_iff_eq]at h1
 omega,(zer hg h).1.small⟩
theorem zmM {t:zab} {l:List zaa} {r:za5} (h:r∈rows t l):zam t r=true:=by
 unfold rows at h
 obtain⟨w,hw,rfl⟩:=List.mem_map.1 h
 exact(zfz (List.mem_filter.1 hw).2).1
theorem znZ {t:zab} {x:zbD} {r:za5} (hg:zac t=true) (hx:x∈t.fIdxs) (hr:zam t r=true):zbB t x r=some (zcY t x.fName x.fCol r)∧zfn ⟨zcY t x.fName x.fCol r, [],false⟩=true:=by
 have hS:=zea hg
 exact⟨znM hS.name (hS.idx x hx) (znF hg hx) (zwa hg hr),zrT (zmS hg (zdw hg hx).1 hr) (by decide)⟩
def zuP (t:zab) (l:List zaa):Nat:=(l.filter (za4 t)).length
theorem zq1 {t:zab} {w:zaa}: ∀l:List zaa,zuP t (zfB wk w l)≤zuP t l+(if za4 t w=true then 1 else 0)
 | []=>by
  unfold zuP
  rw [zfB,List.filter_cons]
  split<;>simp
 |z::l=>by
  have ih:=zq1 (t:=t) (w:=w) l
  unfold zuP at ih ⊢
  rw [zfB]
  split
  ·rw [List.filter_cons]
   split<;>simp
  ·split
   ·rw [List.filter_cons,List.filter_cons]
    split<;>split<;>(try simp only [List.length_cons])<;>omega
   ·rw [List.filter_cons,List.filter_cons]
    split<;>(try simp only [List.length_cons])<;>omega
theorem zqc {t:zab} {x:zbD} {r:za5} (hg:zac t=true) (hx:x∈t.fIdxs) (hr:zam t r=true) (l:List zaa):zuP t (zfB wk ⟨zcY t x.fName x.fCol r, [],false⟩ l)≤zuP t l:=by
 have h:=zq1 (t:=t) (w:=⟨zcY t x.fName x.fCol r, [],false⟩) l
 rw [if_neg (fun hrow=> ?_)]at h
 ·omega
 ·obtain⟨h1,h2⟩:=zfz hrow
  exact ziR hg (zdw hg hx).1 h1 hr (congrArg zaa.fKey h2).symm
theorem zuq {t:zab} {c:zak} {k:Int} {n m:Nat} {l:List zaa} (hl:zjC n l) (hm:zuP t l≤m) (hn:n≤1000) (h:okC c k) (hk:k≤4611686018427380000):zcI (zdk c.fcode c.fat c.fseed l) fun p=>(zjC (n+1) p.1∧zuP t p.1≤m+1)∧okC p.2 (k+6):=by
 unfold zdk
 have hlen:=hl.len
 refine(zm6 6 (c:=⟨c.fcode,c.fat,c.fseed⟩) h (by omega)).bind fun p hp=> .ite (fun _=> ?_) fun _=> .ret ⟨⟨hl.mono (by omega),by dsimp only;omega⟩,hp.up (by omega)⟩
 refine(zBC hp (by omega)).bind fun q ⟨hq,hc⟩=>(zBO hc (by omega)).bind fun r ⟨hr,hd⟩=> ?_
 rw [zjo (by omega) hl.rise,Option.bind_some]
 refine .ret ⟨⟨zev hl (zrT hq hr), ?_⟩,hd.up (by omega)⟩
 have:=zq1 (t:=t) (w:=⟨q.1,r.1,false⟩) l
 split at this<;>(dsimp only;omega)
theorem zt3 {t:zab} {q:Nat} {x:zbD} {c:zak} {k:Int} {n m:Nat} {l:List zaa} (hg:zac t=true) (hx:x∈t.fIdxs) (hq:q≤3) (hl:zjC n l) (hm:zuP t l≤m) (hn:n≤1000) (h:okC c k) (hk:k≤4611686018427370000):
  zcI (zdn t q x c.fcode c.fat c.fseed l) fun o=> ∃(c':zak) (l':List zaa),o= .inl (((q+1:Nat):Int),c'.fcode,c'.fat,c'.fseed,l')∧zjC (n+1) l'∧zuP t l'≤m∧okC c' (k+30):=by
 unfold zdn
 have hlen:=hl.len
 have w1:IntKind.i64.wrap ((q:Int)+1)=((q+1:Nat):Int):=by rw [zbo (by omega) (by omega)];omega
 refine(zm6 5 (c:=⟨c.fcode,c.fat,c.fseed⟩) h (by omega)).bind fun p hp=> .ite (fun _=> ?_) fun _=> .ret ⟨p.2,l,by rw [w1],hl.mono (by omega),hm,hp.up (by omega)⟩
 refine(zqf hg hp (by omega)).bind fun r ⟨hr,hc⟩=> ?_
 obtain⟨e1,e2⟩:=znZ hg hx hr
 rw [e1,Option.bind_some,zjo (by omega) hl.rise,Option.bind_some]
 exact .ret ⟨r.2,_,by rw [w1],zev hl e2,Nat.le_trans (zqc hg hx hr l) hm,hc.up (by omega)⟩
def zBR:Nat→Nat
 |0=>4
 |1=>9
 |2=>19
 |_=>39
theorem zAI (q:Nat):zBR q≤39:=by
 match q with
 |0=>decide
 |1=>decide
 |2=>decide
 |q+3=>exact Nat.le_refl 39
theorem zwP {q:Nat} (h:q<3):2*zBR q+1≤zBR (q+1):=by
 have:q=0∨q=1∨q=2:=by omega
 rcases this with rfl|rfl|rfl<;>decide
theorem zwb {t:zab} (h:zac t=true):t.fIdxs.length≤3:=by
 unfold zac at h
 simp only [Bool.and_eq_true,decide_eq_true_eq]at h
 omega
theorem ztX {t:zab} {c:zak} {k:Int} {l:List zaa} (hg:zac t=true) (hl:zjC 4 l) (h:okC c k) (hk:k≤4611686018427360000):zcI (zda t c.fcode c.fat c.fseed l) fun p=>(zjC 40 p.1∧zuP t p.1≤5)∧okC p.2 (k+700):=by
 unfold zda
 have hS:=zea hg
 have h3:=zwb hg
 refine ziD (fun m s=> ∃q:Nat,s.1=(q:Int)∧q+m=t.fIdxs.length∧zjC (zBR q) s.2.2.2.2∧zuP t s.2.2.2.2≤4∧okC ⟨s.2.1,s.2.2.1,s.2.2.2.1⟩ (k+200*q)) (fun m s hI=> ?_) (n:=t.fIdxs.length) (by exact⟨0,rfl,by omega,hl,Nat.le_trans (List.length_filter_le _ _) hl.len,by simpa using h⟩)
 obtain⟨q,e1,e2,hT,hm,ho⟩:=hI
 obtain⟨s1,a,b,e,l⟩:=s
 dsimp only at e1 hT hm ho ⊢
 subst e1
 have hb:=zAI q
 have hlen:=hT.len
 unfold zfh
 refine .ite (fun hlt=> ?_) fun hge=> ?_
 ·simp only [decide_eq_true_eq]at hlt
  have hq:q<t.fIdxs.length:=by omega
  have hst:=zwP (q:=q) (by omega)
  rw [zaj hq,Option.bind_some,zrM hS.name (by omega) (fun w hw=>zqD (hT.good w hw)),Option.bind_some]
  have hx:=List.getElem_mem hq
  have hR:=rows_len t l
  generalize hrs:rows t l=R at hR
  have hRg: ∀r∈R,zam t r=true:=fun r hr=>zmM (l:=l) (by rw [hrs];exact hr)
  refine ziD (fun j s=> ∃i:Nat,s.1=(i:Int)∧i+j=R.length∧zjC (zBR q+i) s.2.2.2.2∧zuP t s.2.2.2.2≤4∧okC ⟨s.2.1,s.2.2.1,s.2.2.2.1⟩ (k+200*q+2*i)) (fun j s hJ=> ?_) (n:=R.length) (by exact⟨0,rfl,by omega,hT,hm,by simpa using ho⟩)
  obtain⟨i,f1,f2,gT,gm,go⟩:=hJ
  obtain⟨s1,a,b,e,l'⟩:=s
  dsimp only at f1 gT gm go ⊢
  subst f1
  have glen:=gT.len
  unfold zfj
  refine .ite (fun hlt2=> ?_) fun hge2=> ?_
  ·simp only [decide_eq_true_eq]at hlt2
   have hi:i<R.length:=by omega
   have w1:IntKind.i64.wrap ((i:Int)+1)=((i+1:Nat):Int):=by rw [zbo (by omega) (by omega)];omega
   obtain⟨n1,n2⟩:=znZ hg hx (hRg _ (List.getElem_mem hi))
   rw [zaj hi,Option.bind_some]
   refine(zm6 5 go (by omega)).bind fun p hp=> .ite (fun _=> ?_) fun _=> .ret ⟨j-1,by omega,i+1,w1,by omega,gT.mono (by omega),gm,hp.up (by omega)⟩
   rw [n1,Option.bind_some,zjo (by omega) gT.rise,Option.bind_some]
   exact .ret ⟨j-1,by omega,i+1,w1,by omega,(zev gT n2).mono (by omega),Nat.le_trans (zqc hg hx (hRg _ (List.getElem_mem hi)) _) gm,hp.up (by omega)⟩
  ·simp only [decide_eq_false_iff_not]at hge2
   refine .ret ((zt3 (c:=⟨a,b,e⟩) hg hx (by omega) gT gm (by omega) go (by omega)).mono fun o ho2=> ?_)
   obtain⟨c',l2,rfl,z1,zm,z2⟩:=ho2
   exact⟨m-1,by omega,q+1,rfl,by omega,z1.mono (by omega),zm,z2.up (by omega)⟩
 ·refine .ret ((zuq (t:=t) (c:=⟨a,b,e⟩) hT hm (by omega) ho (by omega)).mono fun p hp=>⟨⟨hp.1.1.mono (by omega),hp.1.2⟩,hp.2.up (by omega)⟩)
theorem zyO {t:zab} {c:zak} {k:Int} (hg:zac t=true) (h:okC c k) (hk:k≤4611686018427350000):zcI (zcX c t) fun p=>(zjC 40 p.1∧zuP t p.1≤5)∧okC p.2 (k+900):=by
 unfold zcX
 have hS:=zea hg
 refine(zdX 5 h (by omega)).bind fun p ⟨hp,hc⟩=> ?_
 have p2:=hp.2.1 (by omega)
 obtain⟨m,hm⟩:=Int.eq_ofNat_of_zero_le hp.1
 have hm4:m≤4:=by omega
 refine ziD (fun j s=>j≤4∧s.2.1=(j:Int)∧zjC (4-j) s.1∧okC ⟨s.2.2.1,s.2.2.2.1,s.2.2.2.2⟩ (k+2+30*(4-j))) (fun j s hI=> ?_) (n:=m) (by exact⟨hm4,hm,⟨.nil,by simp,by simp⟩,hc.up (by omega)⟩)
 obtain⟨l,s1,a,b,e⟩:=s
 obtain⟨i0,i1,i2,i3⟩:=hI
 dsimp only at i1 i2 i3 ⊢
 subst i1
 have hlen:=i2.len
 unfold zfl
 refine .ite (fun hlt=> ?_) fun hge=> ?_
 ·simp only [decide_eq_true_eq,gt_iff_lt]at hlt
  refine(zqf hg i3 (by omega)).bind fun r ⟨hr,hd⟩=> ?_
  obtain⟨hs,h2⟩:=zer hg hr
  have hne:r.1.fVals≠ []:=fun e=>by rw [e]at h2;simp at h2
  have hw:=zlx hg hr
  rw [zo9 hS.name hs.small hne,Option.bind_some,zjo (by omega) i2.rise,Option.bind_some]
  refine .ret ⟨j-1,by omega,by omega, ?_,(zev i2 (w:=zdq t r.1) (zrT hw.1 hw.2)).mono (by omega),hd.up (by omega)⟩
  dsimp only
  rw [zbo (by omega) (by omega)];omega
 ·simp only [decide_eq_false_iff_not,gt_iff_lt]at hge
  exact .ret ((ztX (c:=⟨a,b,e⟩) hg (i2.mono (by omega)) i3 (by omega)).mono fun p hp=>⟨hp.1,hp.2.up (by omega)⟩)
structure zpO (l:List zaa):Prop where
 len:l.length≤100
 each: ∀w∈l,zj0 w
theorem zpO.small {l:List zaa} (h:zpO l):zgO l:=⟨by have:=h.len;omega,fun w hw=>by
 have:=h.each w hw
 unfold zj0 at this
 omega⟩
theorem zpv {w y:zaa}: ∀{l:List zaa},y∈zfB wk w l→y=w∨y∈l
 | [],h=> .inl (by simpa [zfB]using h)
 |z::l,h=>by
  rw [zfB]at h
  split at h
  ·rcases List.mem_cons.1 h with h|h
   ·exact .inl h
   ·exact .inr h
  ·split at h
   ·rcases List.mem_cons.1 h with h|h
    ·exact .inl h
    ·exact .inr (by simp [h])
   ·rcases List.mem_cons.1 h with h|h
    ·exact .inr (by simp [h])
    ·rcases zpv h with h|h
     ·exact .inl h
     ·exact .inr (by simp [h])
theorem zlg (w:zaa): ∀(l:List zaa),(zfB wk w l).length≤l.length+1
 | []=>by simp [zfB]
 |z::l=>by
  rw [zfB]
  split
  ·simp
  ·split
   ·simp
   ·have:=zlg w l
    simp only [List.length_cons];omega
theorem zpO.put {l:List zaa} {w:zaa} (h:zpO l) (hl:l.length≤99) (hw:zj0 w):zpO (zfB wk w l):=⟨by have:=zlg w l;omega,fun y hy=>by
 rcases zpv hy with rfl|hy
 ·exact hw
 ·exact h.each y hy⟩
theorem zjC.tiny {n:Nat} {l:List zaa} (h:zjC n l) (hn:n≤100):zpO l:=⟨by have:=h.len;omega,fun w hw=>zqD (h.good w hw)⟩
theorem zsX {t:zab} {c:zak} {k:Int} (hg:zac t=true) (h:okC c k) (hk:k≤4611686018427340000):zcI (zbX c t) fun p=>zpO p.1∧okC p.2 (k+1000):=by
 unfold zbX
 have hn:=(zgi (zeh hg)).1
 refine(zyO hg h (by omega)).bind fun s ⟨⟨hs,_⟩,hc⟩=>(zdX 12 hc (by omega)).bind fun q ⟨_,hd⟩=> ?_
 have hT:=hs.tiny (by omega)
 have hlen:=hs.len
 refine .ite (fun _=> ?_) fun _=> .ite (fun _=> ?_) fun _=> .ite (fun _=> .ite (fun hpos=> ?_) fun _=> .ret ⟨hT,hd.up (by omega)⟩) fun _=> .ite (fun _=> ?_) fun _=> .ret ⟨hT,hd.up (by omega)⟩
 ·refine .req (by simp;omega) (.ret ⟨⟨by simp;omega,fun w hw=> ?_⟩,hd.up (by omega)⟩)
  dsimp only at hw
  rcases List.mem_append.1 hw with hw|hw
  ·exact hT.each w hw
  ·rw [List.mem_singleton.1 hw];exact⟨by decide,by decide⟩
 ·refine .req (by simp;omega) ((znw _ (by simp) hd (by omega)).bind fun u ⟨hu,he⟩=> ?_)
  have hul:u.1.length≤4:=by
   simp only [List.mem_cons,List.not_mem_nil,or_false]at hu
   rcases hu with e|e|e<;>rw [e]<;>decide
  refine .req (by simp;omega) ((znw _ (by simp) he (by omega)).bind fun v ⟨hv,hf⟩=> ?_)
  have hvl:v.1.length≤5:=by
   simp only [List.mem_cons,List.not_mem_nil,or_false]at hv
   rcases hv with e|e|e|e<;>rw [e]<;>decide
  rw [zjo (by omega) hs.rise,Option.bind_some]
  exact .ret ⟨hT.put (by omega) ⟨by simp;omega,by dsimp only;omega⟩,hf.up (by omega)⟩
 ·simp only [decide_eq_true_eq]at hpos
  refine(zdX _ hd (by omega)).bind fun u ⟨hu,he⟩=> ?_
  obtain⟨y,ey,hy,_⟩:=zlo (xs:=s.1) hu.1 (hu.2.1 (by omega))
  rw [ey,Option.bind_some]
  refine .ret ⟨⟨by rw [List.length_set];omega,fun w hw=> ?_⟩,he.up (by omega)⟩
  rcases List.mem_or_eq_of_mem_set hw with hw|rfl
  ·exact hT.each w hw
  ·exact hT.each y hy
 ·refine .req (by simp;omega) ((znw _ (by simp) hd (by omega)).bind fun u ⟨hu,he⟩=> ?_)
  have hul:u.1.length≤6:=by
   simp only [List.mem_cons,List.not_mem_nil,or_false]at hu
   rcases hu with e|e|e|e<;>rw [e]<;>decide
  refine .req (by simp;omega) ?_
  rw [zjo (by omega) hs.rise,Option.bind_some]
  exact .ret ⟨hT.put (by omega) ⟨by simp;omega,by simp⟩,he.up (by omega)⟩
structure zqo (a:zae):Prop where
 old:zjs a.fOld.fVals
 new:zjs a.fNew.fVals
theorem zqo.small {a:zae} (h:zqo a):zh1 a:=⟨h.old.small,h.new.small⟩
theorem zlF:zjs []:=⟨by simp,by simp⟩
theorem zoA {t:zab} {c:zak} {k:Int} {v:List Str} (hg:zac t=true) (hv:zjs v) (hv2:2≤v.length) (h:okC c k) (hk:k≤4611686018427340000):zcI (zcF t c.fcode c.fat c.fseed v) fun p=>zqo p.1∧okC p.2 (k+30):=by
 unfold zcF
 refine(zdX 3 (c:=⟨c.fcode,c.fat,c.fseed⟩) h (by omega)).bind fun p ⟨_,hc⟩=> .ite (fun _=> ?_) fun _=> .ite (fun _=> .ret ⟨⟨hv,zlF⟩,hc.up (by omega)⟩) fun _=> ?_
 ·exact(zqf hg hc (by omega)).bind fun r ⟨hr,hd⟩=> .ret ⟨⟨zlF,(zer hg hr).1⟩,hd.up (by omega)⟩
 ·refine(zqf hg hc (by omega)).bind fun r ⟨hr,hd⟩=> ?_
  obtain⟨hs,h2⟩:=zer hg hr
  obtain⟨y,ey,hy,_⟩:=zlo (xs:=v) (i:=0) (by omega) (by omega)
  rw [ey,Option.bind_some]
  refine zcI.bind (P:=fun _=>True) (.getI (by omega) (by omega) fun _ _=>trivial) fun _ _=> .ret ⟨⟨hv,hs.set (hv.each y hy)⟩,hd.up (by omega)⟩
theorem zBy {t:zab} {l:List zaa} {c:zak} {k:Int} (hg:zac t=true) (hl:zpO l) (h:okC c k) (hk:k≤4611686018427330000):zcI (zdx c t l) fun p=>zqo p.1∧okC p.2 (k+100):=by
 unfold zdx
 have hS:=zea hg
 have hlen:=hl.len
 rw [zrM hS.name (by omega) hl.each,Option.bind_some]
 have hR:=rows_len t l
 refine(zqf hg h (by omega)).bind fun r ⟨hr,hc⟩=> .ite (fun hpos=> ?_) fun _=> ?_
 ·simp only [decide_eq_true_eq]at hpos
  refine(zm6 4 hc (by omega)).bind fun u hu=> ?_
  unfold zcE
  refine .ite (fun _=> ?_) fun _=> ?_
  ·refine(zdX _ (c:=⟨u.2.fcode,u.2.fat,u.2.fseed⟩) hu (by omega)).bind fun i ⟨hi,hd⟩=> ?_
   obtain⟨y,ey,hy,_⟩:=zlo (xs:=rows t l) hi.1 (hi.2.1 (by omega))
   rw [ey,Option.bind_some]
   obtain⟨hs,h2⟩:=zer hg (zmM hy)
   exact(zoA hg hs h2 hd (by omega)).mono fun p hp=>⟨hp.1,hp.2.up (by omega)⟩
  ·obtain⟨hs,h2⟩:=zer hg hr
   exact(zoA hg hs h2 hu (by omega)).mono fun p hp=>⟨hp.1,hp.2.up (by omega)⟩
 ·unfold zcE
  refine .ite (fun hh=>by cases hh) fun _=> ?_
  obtain⟨hs,h2⟩:=zer hg hr
  exact(zoA hg hs h2 hc (by omega)).mono fun p hp=>⟨hp.1,hp.2.up (by omega)⟩
theorem zvy {t:zab} {l:List zaa} {c:zak} {k:Int} (hg:zac t=true) (hl:zpO l) (h:okC c k) (hk:k≤4611686018427320000):zcI (zci c t l) fun p=>zqo p.1∧okC p.2 (k+200):=by
 unfold zci
 refine(zBy hg hl h (by omega)).bind fun a ⟨ha,hc⟩=>(zdX 10 hc (by omega)).bind fun q ⟨_,hd⟩=> ?_
 refine .ite (fun _=> ?_) fun _=> .ite (fun _=> ?_) fun _=> .ite (fun _=> ?_) fun _=> .ret ⟨⟨ha.old,ha.new⟩,hd.up (by omega)⟩
 ·exact(zdX 5 hd (by omega)).bind fun u ⟨_,he⟩=> .ret ⟨⟨ha.old,ha.new⟩,he.up (by omega)⟩
 ·exact(zmF hg hd (by omega)).bind fun u ⟨hu,he⟩=> .ret ⟨⟨ha.old,hu⟩,he.up (by omega)⟩
 ·exact(zmF hg hd (by omega)).bind fun u ⟨hu,he⟩=> .ret ⟨⟨hu,ha.new⟩,he.up (by omega)⟩
theorem znc {code:List Int} (h: ∀b∈code,0≤b∧b≤255):zcI (zdO code) fun p=>zbA p.1∧zpO p.2.1∧zqo p.2.2:=by
 unfold zdO
 refine(zq8 (.start h) (by omega)).bind fun t ⟨hg,hc⟩=>(zsX hg hc (by omega)).bind fun l ⟨hl,hd⟩=>(zvy hg hl hd (by omega)).bind fun a ⟨ha,he⟩=>(zm6 12 he (by omega)).bind fun u hu=> .ite (fun _=> ?_) fun _=> .ret ⟨zea hg,hl,ha⟩
 exact(zm9 hu (by omega)).bind fun b ⟨hb,_⟩=> .ret ⟨hb,hl,ha⟩
theorem zp4 {code:List Int} (h: ∀b∈code,0≤b∧b≤255):zcI (zdY code) fun p=>zbA p.1∧zjs p.2.fVals:=by
 unfold zdY
 refine(zq8 (.start h) (by omega)).bind fun t ⟨hg,hc⟩=>(zmF hg hc (by omega)).bind fun r ⟨hr,hd⟩=>(zm6 9 hd (by omega)).bind fun u hu=> .ite (fun _=> ?_) fun _=> .ret ⟨zea hg,hr⟩
 exact(zm9 hu (by omega)).bind fun b ⟨hb,_⟩=> .ret ⟨hb,hr⟩
end Go.Proofs.YtgobcjbjogkpjaaGreatDoor
end
section
namespace Go.Proofs.YtgobcjbjogkpjaaGreatDoor
open Go.RowKit
set_option maxRecDepth 100000
theorem zzS {β:Type} {n:Nat} {r:Option β} {body:Int→Option (Int ⊕ Option β)} (hs: ∀i:Nat,i<n→body i=some (.inl ((i+1:Nat):Int))) (he:body n=some (.inr r)):zaA body 0=r:=by
 match r with
 |none=>
  have key: ∀(m q:Nat),q+m=n→zaA body (q:Int)=none:=by
   intro m
   induction m with
   |zero=>
    intro q hq
    have:q=n:=by omega
    subst this
    exact zcd he
   |succ m ih=>
    intro q hq
    rw [zcT (hs q (by omega))]
    exact ih (q+1) (by omega)
  exact key n 0 (by omega)
 |some b=>
  have h:=zfQ (n:=n) (body:=body) (fun _=>true) b (some b) (fun i hi=>by rw [if_pos rfl];exact hs i hi) he
  rw [h]
  split<;>rfl
theorem zqR {xs:List zaa} (h:xs.length≤2000000):zes xs xs=some true:=by
 unfold zes
 rw [if_neg (by simp)]
 exact zzS (n:=xs.length) (fun i hi=>by
  show zdI xs xs i=_
  unfold zdI
  rw [if_pos (by simpa using hi),zaj hi,Option.bind_some,Option.bind_some,if_neg (by simp),zcJ hi (by omega)]) (by
  show zdI xs xs _=_
  unfold zdI
  rw [if_neg (by simp)])
theorem zvG {xs:List DOp} (h:xs.length≤2000000):zfX xs xs=some true:=by
 unfold zfX
 rw [if_neg (by simp)]
 exact zzS (n:=xs.length) (fun i hi=>by
  show zcW xs xs i=_
  unfold zcW
  rw [if_pos (by simpa using hi),zaj hi,Option.bind_some,Option.bind_some,if_neg (by simp),zcJ hi (by omega)]) (by
  show zcW xs xs _=_
  unfold zcW
  rw [if_neg (by simp)])
theorem zto {xs ys:List Str} (h:xs.length≤2000000):zfM xs ys=some (xs==ys):=by
 unfold zfM
 by_cases h3:((xs.length:Int) !=(ys.length:Int))=true
 ·rw [if_pos h3]
  have:(xs==ys)=false:=by
   rw [Bool.eq_false_iff]
   intro e
   rw [beq_iff_eq]at e
   rw [e]at h3
   simp at h3
  rw [this]
 ·rw [if_neg h3]
  have h3':xs.length=ys.length:=by
   have:(xs.length:Int)=ys.length:=by simpa using h3
   omega
  have hz: ∀(xs ys:List Str),xs.length=ys.length→((xs.zip ys).all fun z=>z.1==z.2)=(xs==ys):=by
   intro xs
   induction xs with
   |nil=>intro ys h;cases ys with
    |nil=>rfl
    |cons=>simp at h
   |cons x xs ih=>intro ys h;cases ys with
    |nil=>simp at h
    |cons y ys=>
     rw [List.zip_cons_cons,List.all_cons,ih ys (by simpa using h)]
     rfl
  have hl:zaA (fun s:Int=>zcM xs ys s) 0=if(List.range xs.length).all (fun i=>((xs[i]?).getD [])==((ys[i]?).getD []))=true then some true else some false:=by
   refine zfQ (n:=xs.length) _ false (some true) (fun i hi=> ?_) ?_
   ·show zcM xs ys i=_
    unfold zcM
    have hj:i<ys.length:=by omega
    rw [if_pos (by simpa using hi),zaj hi,Option.bind_some,zaj hj,Option.bind_some,zcJ hi (by omega),List.getElem?_eq_getElem hi,List.getElem?_eq_getElem hj]
    simp only [Option.getD_some]
    by_cases e:xs[i]=ys[i]
    ·rw [e];simp
    ·rw [if_pos (by simpa using e),if_neg (by simpa using e)]
   ·show zcM xs ys xs.length=_
    unfold zcM
    rw [if_neg (by simp)]
  rw [hl]
  have:((List.range xs.length).all fun i=>((xs[i]?).getD [])==((ys[i]?).getD []))=(xs==ys):=by
   rw [←hz xs ys h3',Bool.eq_iff_iff,List.all_eq_true,List.all_eq_true]
   constructor
   ·intro h z hz
    obtain⟨i,hi,rfl⟩:=List.mem_iff_getElem.1 hz
    have hi2:i<xs.length:=by rw [List.length_zip]at hi;omega
    have:=h i (List.mem_range.2 hi2)
    rw [List.getElem?_eq_getElem hi2,List.getElem?_eq_getElem (show i<ys.length by omega)]at this
    simpa using this
   ·intro h i hi
    have hi:=List.mem_range.1 hi
    have hj:i<ys.length:=by omega
    have hk:i<(xs.zip ys).length:=by rw [List.length_zip];omega
    have:=h _ (List.getElem_mem hk)
    rw [List.getElem_zip]at this
    rw [List.getElem?_eq_getElem hi,List.getElem?_eq_getElem hj]
    simpa using this
  rw [this]
  cases(xs==ys)<;>rfl
end Go.Proofs.YtgobcjbjogkpjaaGreatDoor
end
section
namespace Go.Proofs.YtgobcjbjogkpjaaGreatDoor
open Go.RowKit
set_option maxRecDepth 100000
end Go.Proofs.YtgobcjbjogkpjaaGreatDoor
end
section
namespace Go.Proofs.YtgobcjbjogkpjaaGreatDoor
open Go.RowKit
set_option maxRecDepth 100000
structure zC7 (t:zab):Prop where
 name:t.fName.length≤9223372036854775807
 cols:t.fCols.length≤9223372036854775807
 col: ∀c∈t.fCols,c.length≤9223372036854775807
 idxs:t.fIdxs.length≤9223372036854775807
 idx: ∀x∈t.fIdxs,x.fName.length≤9223372036854775807
end Go.Proofs.YtgobcjbjogkpjaaGreatDoor
end
section
namespace Go.Proofs.YtgobcjbjogkpjaaGreatDoor
open Go.RowKit
set_option maxRecDepth 100000
end Go.Proofs.YtgobcjbjogkpjaaGreatDoor
end
section
namespace Go.Proofs.YtgobcjbjogkpjaaGreatDoor
open Go.RowKit
set_option maxRecDepth 100000
end Go.Proofs.YtgobcjbjogkpjaaGreatDoor
end
section
namespace Go.Proofs.YtgobcjbjogkpjaaGreatDoor
open Go.RowKit
set_option maxRecDepth 100000
theorem zkW {α:Type} {xs:List α} {i:Int} {x:α} (h:getI xs i=some x):0≤i∧xs[i.toNat]?=some x∧i<xs.length:=by
 unfold getI at h
 split at h
 ·rename_i h0
  have:=(List.getElem?_eq_some_iff.1 h).1
  exact⟨h0,h,by omega⟩
 ·cases h
def zcH (t:zab) (k c:Int):zab:=⟨t.fName,t.fCols,t.fIdxs.set k.toNat {((t.fIdxs[k.toNat]?).getD ⟨[],0,0⟩)with fStage:=c}⟩
def zzU (a b:Int):Int:=if a<b then a+1 else a-1
def zBw:Nat→Int→Int→List Int
 |0,_,_=> []
 |f+1,a,b=>if a=b then []else zzU a b::zBw f (zzU a b) b
def way (t:zab) (k a b:Int):List zab:=t::(zBw 3 a b).map (zcH t k)
theorem zB7 {t:zab} (h:zbA t):zhs t=some t:=by
 unfold zhs
 have h1:=h.cols
 have h2:=h.idxs
 rw [zah (by simp;omega),zah (by simp;omega)]
theorem zBl {t:zab} {n:Str} {x:zbD} {c:Int} (h:zbA t) (hx:zh2 t n x):zhn t n c=some (zcH t (zho (fun y:zbD=>y.fName==n) t.fIdxs) c):=by
 unfold zhn zcH
 rw [zB7 h,Option.bind_some,zuX h,Option.bind_some,hx.at_,Option.bind_some,(zkW hx.at_).2.1]
 rfl
def nc (x:zbD):Str × Int:=(x.fName,x.fCol)
structure zCV (t:zab):Prop where
 len:t.fIdxs.length≤3
 stg: ∀x∈t.fIdxs,0≤x.fStage∧x.fStage≤3
end Go.Proofs.YtgobcjbjogkpjaaGreatDoor
end
section
namespace Go.Proofs.YtgobcjbjogkpjaaGreatDoor
open Go.RowKit
set_option maxRecDepth 100000
structure zBm (s:zlv):Prop where
 name:s.fName.length≤2000000
 ways:s.fWays.length≤2000000
 way: ∀t∈s.fWays,zbA t
 at_:s.fAt.length≤2000000
 store:zgO s.fStore
theorem zBE {t:zab} (h:zac t=true):zCV t:=by
 unfold zac at h
 simp only [Bool.and_eq_true,decide_eq_true_eq]at h
 refine⟨by omega,fun x hx=> ?_⟩
 obtain⟨i,hi,rfl⟩:=List.mem_iff_getElem.1 hx
 have h1:=List.all_eq_true.1 h.2 i (List.mem_range.2 hi)
 unfold zkY at h1
 simp only [Bool.and_eq_true,List.getElem?_eq_getElem hi,Option.getD_some]at h1
 exact zbv.1 h1.1.2
theorem zuK {α γ:Type} (f:α→γ): ∀(l:List α) (k:Nat) (d y:α),f y=f ((l[k]?).getD d)→(l.set k y).map f=l.map f
 | [],k,d,y,_=>rfl
 |x::l,0,d,y,h=>by
  simp only [List.getElem?_cons_zero,Option.getD_some]at h
  simp [h]
 |x::l,k+1,d,y,h=>by
  simp only [List.getElem?_cons_succ]at h
  simp [zuK f l k d y h]
theorem zi2 (t:zab) (k c:Int):(zcH t k c).fIdxs.map (·.fName)=t.fIdxs.map (·.fName):=zuK _ _ _ ⟨[],0,0⟩ _ rfl
theorem zuc {t:zab} {k c:Int} (h:zbA t):zbA (zcH t k c):=by
 refine⟨h.name,h.cols,h.col,by unfold zcH;simpa using h.idxs,fun x hx=> ?_⟩
 have h1:x.fName∈(zcH t k c).fIdxs.map (·.fName):=List.mem_map.2 ⟨x,hx,rfl⟩
 rw [zi2]at h1
 obtain⟨y,hy,e⟩:=List.mem_map.1 h1
 rw [←e];exact h.idx y hy
theorem zxM {xs ys:List zbD} {n:Str} (h:xs.map (·.fName)=ys.map (·.fName)):decide (zho (fun x:zbD=>x.fName==n) xs≥0)=decide (zho (fun x:zbD=>x.fName==n) ys≥0):=by
 rw [ziN,ziN]
 have e: ∀l:List zbD,(l.any fun x=>x.fName==n)=(l.map (·.fName)).any (· ==n):=fun l=>by rw [List.any_map];rfl
 rw [e,e,h]
def noT:zab:=⟨[], [], []⟩
def ztU (s:zlv):zab:=(s.fWays[0]?).getD noT
def zBn (s:zlv):zab:=(s.fWays[s.fWays.length-1]?).getD noT
def kOf (t:zab) (n:Str):Int:=zho (fun y:zbD=>y.fName==n) t.fIdxs
def zs1 (t:zab) (n:Str):Int:=((t.fIdxs[(kOf t n).toNat]?).getD ⟨[],0,0⟩).fStage
def zCu (s:zlv):List zab:=way (ztU s) (kOf (ztU s) s.fName) (zs1 (ztU s) s.fName) (zs1 (zBn s) s.fName)
theorem zyY {t:zab} {n:Str} {x:zbD} (h:zh2 t n x):zs1 t n=x.fStage:=by
 unfold zs1 kOf
 rw [(zkW h.at_).2.1];rfl
theorem ztL {t:zab} {n:Str} (h:zmn t n=true): ∃x,zh2 t n x∧zs1 t n=x.fStage∧0≤x.fStage∧x.fStage≤3∧zac t=true:=by
 obtain⟨x,hx,_⟩:=zxf h
 have hg:zac t=true:=by
  unfold zmn at h
  simp only [Bool.and_eq_true]at h
  exact h.1
 have:=(zBE hg).stg x (zr0 hx.at_)
 exact⟨x,hx,zyY hx,this.1,this.2,hg⟩
def zCt (s:zlv):Prop:=1≤s.fWays.length∧s.fWays.length≤4∧(∀t∈s.fWays,zmn t s.fName=true)∧s.fWays=zCu s∧inB s.fAt.length 1 3=true∧(∀y∈s.fAt,0≤y∧y≤(s.fWays.length:Int)-1)∧zax s.fStore=true
def xOf (t:zab) (n:Str):zbD:=(t.fIdxs[(kOf t n).toNat]?).getD ⟨[],0,0⟩
theorem zuN {t:zab} {n:Str} {x:zbD} (h:zh2 t n x):xOf t n=x:=by
 unfold xOf kOf
 rw [(zkW h.at_).2.1];rfl
end Go.Proofs.YtgobcjbjogkpjaaGreatDoor
end
section
namespace Go.Proofs.YtgobcjbjogkpjaaGreatDoor
open Go.RowKit
set_option maxRecDepth 100000
def NoE (t:zab) (n:Str) (st:List zaa):Prop:= ∀w∈st,zbj t n w.fKey=false
def NoO (t:zab) (n:Str) (x:zbD) (st:List zaa):Prop:= ∀w∈st,zbj t n w.fKey=true→ ∃q∈st,za4 t q=true∧w.fKey=zcY t n x.fCol (zdp q)
def NoL (t:zab) (n:Str) (x:zbD) (st:List zaa):Prop:= ∀q∈st,za4 t q=true→ ∃w∈st,w.fKey=zcY t n x.fCol (zdp q)
structure zpx (t:zab) (a:zae):Prop where
 tab:zac t=true
 old:a.fKind≠1→zam t a.fOld=true
 new:a.fKind≠2→zam t a.fNew=true
 kind:a.fKind=1∨a.fKind=2∨a.fKind=3
 same:a.fKind=3→zdV a.fOld 0=zdV a.fNew 0
structure zsD (t:zab) (a:zae) (n:Str) (x:zbD):Prop extends zpx t a where
 idx:x∈t.fIdxs
 name:x.fName=n
theorem zsD.asG {t:zab} {a:zae} {n:Str} {x:zbD} (A:zsD t a n x):zpx t a:=⟨A.tab,A.old,A.new,A.kind,A.same⟩
theorem zxl {t:zab} {a:zae} (hg:zac t=true) (h:zaU t a=true):zpx t a:=by
 unfold zaU at h
 by_cases h1:a.fKind=1
 ·rw [if_pos h1,Bool.and_eq_true]at h
  exact⟨hg,fun k=>absurd h1 k,fun _=>h.2, .inl h1,fun k=>by omega⟩
 rw [if_neg h1]at h
 by_cases h2:a.fKind=2
 ·rw [if_pos h2,Bool.and_eq_true]at h
  exact⟨hg,fun _=>h.1,fun k=>absurd h2 k, .inr (.inl h2),fun k=>by omega⟩
 rw [if_neg h2]at h
 by_cases h3:a.fKind=3
 ·rw [if_pos h3,Bool.and_eq_true,Bool.and_eq_true,beq_iff_eq]at h
  exact⟨hg,fun _=>h.1,fun _=>h.2.1, .inr (.inr h3),fun _=>h.2.2⟩
 rw [if_neg h3]at h
 cases h
theorem zyh {t:zab} {a:zae} {n:Str} {x:zbD} (hg:zac t=true) (hx:x∈t.fIdxs) (hn:x.fName=n) (h:zaU t a=true):zsD t a n x:=⟨zxl hg h,hx,hn⟩
theorem zuU (t:zab) (m:Str) (c:Int) (r:za5):zcY t m c r≠ []:=by unfold zcY;simp
section
variable {t:zab} {a:zae} (A:zpx t a)
include A
theorem zpx.oldK_eq (h:a.fKind≠1) {y:zbD}:zpy t a y=zcY t y.fName y.fCol a.fOld:=by
 have _:=A
 unfold zpy
 rw [if_neg h]
theorem zpx.newK_eq (h:a.fKind≠2) {y:zbD}:zm2 t a y=zcY t y.fName y.fCol a.fNew:=by
 have _:=A
 unfold zm2
 rw [if_neg h]
theorem zpx.idx_key {y:zbD} {w:zaa} (hw:w∈zko t a y):(w=⟨zpy t a y, [],true⟩∧a.fKind≠1∧zpy t a y≠zm2 t a y∧y.fStage≥1)∨(w=⟨zm2 t a y, [],false⟩∧a.fKind≠2∧y.fStage≥2):=by
 have _:=A
 unfold zko at hw
 rcases List.mem_append.1 hw with hw|hw
 ·split at hw
  ·rename_i h
   rw [List.mem_singleton]at hw
   refine .inl ⟨hw,fun k=> ?_,h.2.1,h.2.2⟩
   apply h.1
   unfold zpy
   rw [if_pos k]
  ·simp at hw
 ·split at hw
  ·rename_i h
   rw [List.mem_singleton]at hw
   refine .inr ⟨hw,fun k=> ?_,h.2⟩
   apply h.1
   unfold zm2
   rw [if_pos k]
  ·simp at hw
theorem zpx.idx_entry {n:Str} {y:zbD} (hy:y∈t.fIdxs) {w:zaa} (hw:w∈zko t a y): ∃r,zam t r=true∧w.fKey=zcY t y.fName y.fCol r∧zbj t n w.fKey=decide (y.fName=n):=by
 have hc:=zbv.1 (zdw A.tab hy).2
 have hl:=(zdw A.tab hy).1
 rcases A.idx_key hw with⟨rfl,h,_⟩|⟨rfl,h,_⟩
 ·refine⟨a.fOld,A.old h,A.oldK_eq h, ?_⟩
  show zbj t n (zpy t a y)=_
  rw [A.oldK_eq h]
  exact ziz A.tab hl (A.old h) (by omega) hc.2
 ·refine⟨a.fNew,A.new h,A.newK_eq h, ?_⟩
  show zbj t n (zm2 t a y)=_
  rw [A.newK_eq h]
  exact ziz A.tab hl (A.new h) (by omega) hc.2
theorem zpx.rowWs_key {w:zaa} (hw:w∈zl5 t a): ∃r,zam t r=true∧w.fKey=(zdq t r).fKey:=by
 unfold zl5 at hw
 split at hw
 ·rename_i h
  rw [List.mem_singleton]at hw;subst hw
  exact⟨a.fNew,A.new (by omega),rfl⟩
 ·rename_i h
  split at hw
  ·rw [List.mem_singleton]at hw;subst hw
   exact⟨a.fOld,A.old h,rfl⟩
  ·rw [List.mem_singleton]at hw;subst hw
   exact⟨a.fOld,A.old h,rfl⟩
theorem zpx.mem_act {w:zaa} (hw:w∈zg1 t a):w∈zl5 t a∨ ∃y∈t.fIdxs,w∈zko t a y:=by
 have _:=A
 unfold zg1 at hw
 rcases List.mem_append.1 hw with h|h
 ·exact .inl h
 ·exact .inr (List.mem_flatMap.1 h)
theorem zpx.new_mem (h:a.fKind≠2):zdq t a.fNew∈zg1 t a:=by
 refine List.mem_append.2 (.inl ?_)
 unfold zl5
 rcases A.kind with k|k|k
 ·rw [if_pos k];exact List.mem_singleton.2 rfl
 ·exact absurd k h
 ·rw [if_neg (by omega),if_neg (by omega),List.mem_singleton,zc9,A.same k,←zc9];rfl
theorem zpx.row_write {w:zaa} (hw:w∈zg1 t a) (hr:za4 t w=true):w=zdq t a.fNew∧a.fKind≠2:=by
 obtain⟨hgr,hwr⟩:=zfz hr
 rcases A.mem_act hw with h|⟨y,hy,h⟩
 ·unfold zl5 at h
  rcases A.kind with k|k|k
  ·rw [if_pos k,List.mem_singleton]at h
   exact⟨h,by omega⟩
  ·rw [if_neg (by omega),if_pos k,List.mem_singleton]at h
   have:w.fGone=true:=by rw [h]
   rw [hwr]at this
   cases this
  ·rw [if_neg (by omega),if_neg (by omega),List.mem_singleton,zc9,A.same k,←zc9]at h
   exact⟨h,by omega⟩
 ·obtain⟨r,hgr2,e,_⟩:=A.idx_entry (n:= []) hy h
  rw [hwr]at e
  exact absurd e (ziR A.tab (zdw A.tab hy).1 hgr hgr2)
theorem zpx.over_row {w q:zaa} (hw:w∈zg1 t a) (hq:za4 t q=true) (e:w.fKey=q.fKey):w∈zl5 t a:=by
 obtain⟨hgr,hwr⟩:=zfz hq
 rcases A.mem_act hw with h|⟨y,hy,h⟩
 ·exact h
 ·obtain⟨r,hgr2,e2,_⟩:=A.idx_entry (n:= []) hy h
  rw [e,hwr]at e2
  exact absurd e2 (ziR A.tab (zdw A.tab hy).1 hgr hgr2)
theorem zpx.rowWs_old (h:a.fKind≠1) {w:zaa} (hw:w∈zl5 t a):w.fKey=(zdq t a.fOld).fKey:=by
 have _:=A
 unfold zl5 at hw
 rw [if_neg h]at hw
 split at hw<;>(rw [List.mem_singleton]at hw;rw [hw])
theorem zpx.rowWs_some (h:a.fKind≠1): ∃w∈zg1 t a,w.fKey=(zdq t a.fOld).fKey:=by
 have _:=A
 unfold zg1 zl5
 rw [if_neg h]
 split<;>exact⟨_,List.mem_append.2 (.inl (List.mem_singleton.2 rfl)),rfl⟩
theorem zpx.rowWs_new (h:a.fKind=1) {w:zaa} (hw:w∈zl5 t a):w.fKey=(zdq t a.fNew).fKey:=by
 have _:=A
 unfold zl5 at hw
 rw [if_pos h,List.mem_singleton]at hw
 rw [hw]
end
section
variable {t:zab} {a:zae} {n:Str} {x:zbD} (A:zsD t a n x)
include A
theorem zsD.let_:zaS n 1=true:=by rw [←A.name];exact(zdw A.tab A.idx).1
theorem zsD.col:1≤x.fCol∧x.fCol≤(t.fCols.length:Int)-1:=zbv.1 (zdw A.tab A.idx).2
theorem zsD.idx_mem {w:zaa} (hw:w∈zko t a x):w∈zg1 t a:=by
 unfold zg1
 exact List.mem_append.2 (.inr (List.mem_flatMap.2 ⟨x,A.idx,hw⟩))
theorem zsD.entry_write {w:zaa} (hw:w∈zg1 t a) (he:zbj t n w.fKey=true):w∈zko t a x:=by
 rcases A.mem_act hw with h|⟨y,hy,h⟩
 ·obtain⟨r,hr,e⟩:=A.rowWs_key h
  rw [e,zwl A.tab hr]at he
  cases he
 ·obtain⟨r,_,_,e⟩:=A.idx_entry (n:=n) hy h
  rw [e,decide_eq_true_eq]at he
  have:y=x:=(zrw A.tab).nodupKey hy A.idx (he.trans A.name.symm)
  rw [←this];exact h
variable {st st':List zaa} (hB:zsr t a st st')
include hB
theorem zsD.keep_none (hs:x.fStage≤1) (h:NoE t n st):NoE t n st':=by
 intro y hy
 cases he:zbj t n y.fKey with
 |false=>rfl
 |true=>
  obtain⟨hgone,h1|h1⟩:=(hB y).1 hy
  ·rcases A.idx_key (A.entry_write h1 he)with⟨e,_⟩|⟨_,_,k⟩
   ·rw [e]at hgone;cases hgone
   ·omega
  ·rw [h y h1.1]at he;cases he
theorem zsD.keep_orphans (hr:zfb st) (hA:zzw t a st) (hs:1≤x.fStage) (h:NoO t n x st):NoO t n x st':=by
 have hnew:a.fKind≠2→ ∃q∈st',za4 t q=true∧zdp q=a.fNew:=fun k=>
  ⟨zdq t a.fNew,(hB _).2 ⟨rfl, .inl (A.new_mem k)⟩,zvh A.tab (A.new k),ziX A.tab (A.new k)⟩
 intro y hy he
 obtain⟨hgone,h1|⟨h1,h2⟩⟩:=(hB y).1 hy
 ·rcases A.idx_key (A.entry_write h1 he)with⟨e,_⟩|⟨e,k,_⟩
  ·rw [e]at hgone;cases hgone
  ·obtain⟨q,q1,q2,q3⟩:=hnew k
   refine⟨q,q1,q2, ?_⟩
   rw [q3,e]
   show zm2 t a x=_
   rw [A.newK_eq k,A.name]
 ·obtain⟨q,q1,q2,q3⟩:=h y h1 he
  obtain⟨hgr,hwr⟩:=zfz q2
  by_cases ho: ∀w∈zg1 t a,w.fKey≠q.fKey
  ·exact⟨q,(hB q).2 ⟨by rw [hwr];rfl, .inr ⟨q1,ho⟩⟩,q2,q3⟩
  ·have⟨w,hw,e⟩: ∃w∈zg1 t a,w.fKey=q.fKey:=by
    apply Classical.byContradiction
    intro hc
    exact ho fun w hw e=>hc ⟨w,hw,e⟩
   have hwR:=A.over_row hw q2 e
   by_cases k1:a.fKind=1
   ·exact absurd (e.symm.trans (A.rowWs_new k1 hwR)) (hA.1 k1 q q1)
   ·have hq:q=zdq t a.fOld:=zmh.nodupKey (key:=fun w:zaa=>w.fKey) hr q1 (hA.2 k1) (e.symm.trans (A.rowWs_old k1 hwR))
    have hyk:y.fKey=zpy t a x:=by
     rw [q3,hq,ziX A.tab (A.old k1),A.oldK_eq k1,A.name]
    have hon:zpy t a x=zm2 t a x:=by
     apply Classical.byContradiction
     intro hc
     have hm:(⟨zpy t a x, [],true⟩:zaa)∈zko t a x:=by
      unfold zko
      rw [if_pos ⟨by rw [A.oldK_eq k1];exact zuU _ _ _ _,hc,hs⟩]
      simp
     exact h2 _ (A.idx_mem hm) hyk.symm
    have k2:a.fKind≠2:=by
     intro k
     have:zm2 t a x= []:=by unfold zm2;rw [if_pos k]
     rw [this,A.oldK_eq k1]at hon
     exact zuU _ _ _ _ hon
    obtain⟨p,p1,p2,p3⟩:=hnew k2
    refine⟨p,p1,p2, ?_⟩
    rw [p3,hyk,hon,A.newK_eq k2,A.name]
theorem zsD.keep_lacks (hn: ∀w∈st,w.fGone=false) (hs:2≤x.fStage) (h:NoL t n x st):NoL t n x st':=by
 intro q hq hr
 obtain⟨hgr,hwr⟩:=zfz hr
 obtain⟨hgone,h1|⟨h1,h2⟩⟩:=(hB q).1 hq
 ·obtain⟨e,k⟩:=A.row_write h1 hr
  have hm:(⟨zm2 t a x, [],false⟩:zaa)∈zko t a x:=by
   unfold zko
   refine List.mem_append.2 (.inr ?_)
   rw [if_pos ⟨by rw [A.newK_eq k];exact zuU _ _ _ _,hs⟩]
   simp
  refine⟨_,(hB _).2 ⟨rfl, .inl (A.idx_mem hm)⟩, ?_⟩
  show zm2 t a x=_
  rw [e,ziX A.tab (A.new k),A.newK_eq k,A.name]
 ·obtain⟨w,w1,w2⟩:=h q h1 hr
  by_cases ho: ∀z∈zg1 t a,z.fKey≠w.fKey
  ·exact⟨w,(hB w).2 ⟨hn w w1, .inr ⟨w1,ho⟩⟩,w2⟩
  ·have⟨z,hz,e⟩: ∃z∈zg1 t a,z.fKey=w.fKey:=by
    apply Classical.byContradiction
    intro hc
    exact ho fun z hz e=>hc ⟨z,hz,e⟩
   have he:zbj t n z.fKey=true:=by
    rw [e,w2,ziz A.tab A.let_ hgr (by have:=A.col;omega) A.col.2]
    simp
   rcases A.idx_key (A.entry_write hz he)with⟨e1,k1,_⟩|⟨e1,k2,_⟩
   ·exfalso
    have hk:zcY t n x.fCol a.fOld=zcY t n x.fCol (zdp q):=by
     have:z.fKey=zpy t a x:=by rw [e1]
     rw [e,w2,A.oldK_eq k1,A.name]at this
     exact this.symm
    have hp:=zo8 A.tab A.let_ (A.old k1) hgr hk
    obtain⟨u,u1,u2⟩:=A.rowWs_some k1
    apply h2 u u1
    rw [u2,hwr,zc9,zc9,hp]
   ·exact⟨z,(hB z).2 ⟨by rw [e1], .inl hz⟩,e.trans w2⟩
end
theorem zqp {t:zab} {n:Str} {x:zbD} {st:List zaa}:holds t n x 0 st=true↔NoE t n st:=by
 unfold holds zeg NoE
 rw [if_pos (by rfl)]
 simp only [List.length_map,beq_iff_eq]
 constructor
 ·intro h w hw
  have h0:(st.filter fun w=>zbj t n w.fKey)= []:=List.eq_nil_of_length_eq_zero (by omega)
  have:=List.filter_eq_nil_iff.1 h0 w hw
  simpa using this
 ·intro h
  rw [List.filter_eq_nil_iff.2 fun w hw=>by rw [h w hw];simp]
  rfl
theorem zrB {a b:List Str}:((zAG a b).length:Int)=0↔ ∀k∈a,k∈b:=by
 unfold zAG
 constructor
 ·intro h k hk
  have h0:(a.filter fun k=> !b.contains k)= []:=List.eq_nil_of_length_eq_zero (by omega)
  have:=List.filter_eq_nil_iff.1 h0 k hk
  simpa using this
 ·intro h
  rw [List.filter_eq_nil_iff.2 fun k hk=>by simpa using h k hk]
  rfl
theorem zj9 {t:zab} {n:Str} {x:zbD} {st:List zaa} {k:Str}:k∈wanted t n x st↔ ∃q∈st,za4 t q=true∧k=zcY t n x.fCol (zdp q):=by
 unfold wanted rows
 simp only [List.mem_map,List.mem_filter]
 constructor
 ·rintro⟨r,⟨q,⟨h1,h2⟩,rfl⟩,rfl⟩;exact⟨q,h1,h2,rfl⟩
 ·rintro⟨q,h1,h2,rfl⟩;exact⟨_,⟨q,⟨h1,h2⟩,rfl⟩,rfl⟩
theorem zi5 {t:zab} {n:Str} {st:List zaa} {k:Str}:k∈zeg t n st↔ ∃w∈st,zbj t n w.fKey=true∧k=w.fKey:=by
 unfold zeg
 simp only [List.mem_map,List.mem_filter]
 constructor
 ·rintro⟨w,⟨h1,h2⟩,rfl⟩;exact⟨w,h1,h2,rfl⟩
 ·rintro⟨w,h1,h2,rfl⟩;exact⟨w,⟨h1,h2⟩,rfl⟩
theorem zxW {t:zab} {n:Str} {x:zbD} {st:List zaa}:(∀k∈zeg t n st,k∈wanted t n x st)↔NoO t n x st:=by
 constructor
 ·intro h w hw he
  exact zj9.1 (h w.fKey (zi5.2 ⟨w,hw,he,rfl⟩))
 ·intro h k hk
  obtain⟨w,hw,he,rfl⟩:=zi5.1 hk
  exact zj9.2 (h w hw he)
theorem zoG {t:zab} {n:Str} {x:zbD} {st:List zaa}:holds t n x 1 st=true↔NoO t n x st:=by
 rw [←zxW,←zrB]
 unfold holds
 rw [if_neg (by decide)]
 simp
theorem zAA {t:zab} {a:zae} {n:Str} {x:zbD} {st:List zaa} (A:zsD t a n x):(∀k∈wanted t n x st,k∈zeg t n st)↔NoL t n x st:=by
 constructor
 ·intro h q hq hr
  obtain⟨w,hw,_,e⟩:=zi5.1 (h _ (zj9.2 ⟨q,hq,hr,rfl⟩))
  exact⟨w,hw,e.symm⟩
 ·intro h k hk
  obtain⟨q,hq,hr,rfl⟩:=zj9.1 hk
  obtain⟨w,hw,e⟩:=h q hq hr
  refine zi5.2 ⟨w,hw, ?_,e.symm⟩
  rw [e,ziz A.tab A.let_ (zfz hr).1 (by have:=A.col;omega) A.col.2]
  simp
theorem zpr {t:zab} {a:zae} {n:Str} {x:zbD} {st:List zaa} (A:zsD t a n x):holds t n x 2 st=true↔NoO t n x st∧NoL t n x st:=by
 rw [←zxW,←zAA A,←zrB,←zrB]
 unfold holds
 rw [if_neg (by decide)]
 simp
theorem zCI {t:zab} {a:zae} {n:Str} {x:zbD} {st st':List zaa} {low:Int} (A:zsD t a n x) (hg:zax st=true) (hA:zzw t a st) (hB:zsr t a st st')
  (hl:low=0∧x.fStage≤1∨low=1∧1≤x.fStage∨low=2∧2≤x.fStage) (h:holds t n x low st=true):holds t n x low st'=true:=by
 obtain⟨hr,hn⟩:=zdM hg
 rcases hl with⟨rfl,hs⟩|⟨rfl,hs⟩|⟨rfl,hs⟩
 ·exact zqp.2 (A.keep_none hB hs (zqp.1 h))
 ·exact zoG.2 (A.keep_orphans hB hr.rise hA hs (zoG.1 h))
 ·have h2:=(zpr A).1 h
  exact(zpr A).2 ⟨A.keep_orphans hB hr.rise hA (by omega) h2.1,A.keep_lacks hB hn hs h2.2⟩
end Go.Proofs.YtgobcjbjogkpjaaGreatDoor
end
section
namespace Go.Proofs.YtgobcjbjogkpjaaGreatDoor
open Go.RowKit
set_option maxRecDepth 100000
abbrev zsm (l:List zaa):Prop:=l.Pairwise fun a b=>a.fKey≠b.fKey
theorem zsb: ∀(l:List zaa) {s:List zaa},zsm l→zfb s→ ∀y,y∈l.foldl (fun o w=>zfB wk w o) s↔y∈l∨y∈s∧ ∀w∈l,w.fKey≠y.fKey
 | [],s,_,_,y=>by simp
 |x::l,s,hl,hs,y=>by
  unfold zsm at hl
  rw [List.pairwise_cons]at hl
  rw [List.foldl_cons,zsb l hl.2 (zjH hs),zkm hs]
  constructor
  ·rintro(h|⟨h1|h1,h2⟩)
   ·exact .inl (by simp [h])
   ·exact .inl (by simp [h1])
   ·exact .inr ⟨h1.1,fun w hw=>by
     rcases List.mem_cons.1 hw with rfl|hw
     ·exact fun e=>h1.2 e.symm
     ·exact h2 w hw⟩
  ·rintro(h|⟨h1,h2⟩)
   ·rcases List.mem_cons.1 h with rfl|h
    ·exact .inr ⟨.inl rfl,fun w hw e=>hl.1 w hw e.symm⟩
    ·exact .inl h
   ·exact .inr ⟨.inr ⟨h1,fun e=>h2 x (by simp) e.symm⟩,fun w hw=>h2 w (by simp [hw])⟩
theorem zv0 {l:List zaa} (h:zfb l):zsm l:=List.Pairwise.imp (fun h=>zjx h) h
theorem zsY: ∀(l:List zaa) {s:List zaa},zfb s→zfb (l.foldl (fun o w=>zfB wk w o) s)
 | [],_,h=>h
 |_::l,_,h=>zsY l (zjH h)
theorem zyT {t:zab} {m n:Str} {c d:Int} {r q:za5} (hg:zac t=true) (hm:zaS m 1=true) (hn:zaS n 1=true) (h:zam t r=true) (k:zam t q=true) (hne:m≠n):zcY t m c r≠zcY t n d q:=by
 intro e
 have h1:=ziK (c:=c) hg hm h
 rw [e,ziK hg hn k]at h1
 simp only [List.cons.injEq]at h1
 have h2:=h1.1
 unfold head at h2
 exact hne (List.append_cancel_left h2).symm
theorem zpx.apart {t:zab} {a:zae} (A:zpx t a):zsm (zg1 t a):=by
 unfold zsm zg1
 rw [List.pairwise_append]
 refine⟨?_, ?_,fun w hw z hz e=> ?_⟩
 ·unfold zl5
  split
  ·exact List.pairwise_singleton _ _
  ·split<;>exact List.pairwise_singleton _ _
 ·rw [List.pairwise_flatMap]
  refine⟨fun y hy=> ?_, ?_⟩
  ·unfold zko
   rw [List.pairwise_append]
   refine⟨?_, ?_,fun w hw z hz e=> ?_⟩
   ·split
    ·exact List.pairwise_singleton _ _
    ·exact List.Pairwise.nil
   ·split
    ·exact List.pairwise_singleton _ _
    ·exact List.Pairwise.nil
   ·split at hw
    ·rename_i h
     rw [List.mem_singleton]at hw
     split at hz
     ·rw [List.mem_singleton]at hz
      rw [hw,hz]at e
      exact h.2.1 e
     ·simp at hz
    ·simp at hw
  ·refine List.Pairwise.imp_of_mem (fun{y z} hy hz hyz w hw u hu e=> ?_) (zrw A.tab)
   obtain⟨r,h1,h2,_⟩:=A.idx_entry (n:= []) hy hw
   obtain⟨q,k1,k2,_⟩:=A.idx_entry (n:= []) hz hu
   rw [h2,k2]at e
   exact zyT A.tab (zdw A.tab hy).1 (zdw A.tab hz).1 h1 k1 (zjx hyz) e
 ·obtain⟨r,h1,h2⟩:=A.rowWs_key hw
  obtain⟨y,hy,hz⟩:=List.mem_flatMap.1 hz
  obtain⟨q,k1,k2,_⟩:=A.idx_entry (n:= []) hy hz
  rw [h2,k2]at e
  exact ziR A.tab (zdw A.tab hy).1 h1 k1 e
theorem zpx.behind {t:zab} {a:zae} (A:zpx t a) {st:List zaa} (hr:zfb st):zsr t a st (zdN st ((zg1 t a).foldl (fun o w=>zfB wk w o) [])):=by
 have hw:zfb ((zg1 t a).foldl (fun o w=>zfB wk w o) []):=zsY _ List.Pairwise.nil
 have hm: ∀y,y∈(zg1 t a).foldl (fun o w=>zfB wk w o) []↔y∈zg1 t a:=fun y=>by
  rw [zsb _ A.apart List.Pairwise.nil]
  simp
 intro y
 unfold zdN
 rw [List.mem_filter,zsb _ (zv0 hw) hr,hm]
 constructor
 ·rintro⟨h|⟨h1,h2⟩,h3⟩
  ·exact⟨by simpa using h3, .inl h⟩
  ·exact⟨by simpa using h3, .inr ⟨h1,fun w hw=>h2 w ((hm w).2 hw)⟩⟩
 ·rintro⟨h3,h|⟨h1,h2⟩⟩
  ·exact⟨.inl h,by simpa using h3⟩
  ·exact⟨.inr ⟨h1,fun w hw=>h2 w ((hm w).1 hw)⟩,by simpa using h3⟩
def opW (o:DOp):zaa:=if o.fKind=3 then⟨o.fKey, [],true⟩else⟨o.fKey,o.fVal,false⟩
theorem zy3 (t:zab) (a:zae) (x:zbD):(zhb t a x).map opW=zko t a x:=by
 unfold zhb zko zkF znt
 rw [List.map_append]
 congr 1
 ·split<;>rfl
 ·split<;>rfl
theorem zo0 {α β:Type} (f:α→List β): ∀(xs:List α) (a:List β),xs.foldl (fun a x=>a++f x) a=a++xs.flatMap f
 | [],a=>by simp
 |x::xs,a=>by rw [List.foldl_cons,zo0 f xs,List.flatMap_cons,List.append_assoc]
theorem zoQ (t:zab) (a:zae): ∃o rest,zdL t a=o::rest∧rest.map opW=zg1 t a∧(∀p∈rest,p.fKind=2∨p.fKind=3)∧
  (a.fKind=1→o=⟨6,(zdq t a.fNew).fKey, [],0⟩)∧(a.fKind≠1→o=⟨7,(zdq t a.fOld).fKey,(zdq t a.fOld).fVal,0⟩):=by
 have hi: ∀p∈t.fIdxs.flatMap (zhb t a),p.fKind=2∨p.fKind=3:=by
  intro p hp
  obtain⟨y,_,hp⟩:=List.mem_flatMap.1 hp
  unfold zhb zkF znt at hp
  rcases List.mem_append.1 hp with hp|hp
  ·split at hp
   ·rw [List.mem_singleton]at hp;subst hp;exact .inr rfl
   ·simp at hp
  ·split at hp
   ·rw [List.mem_singleton]at hp;subst hp;exact .inl rfl
   ·simp at hp
 have hw:(t.fIdxs.flatMap (zhb t a)).map opW=t.fIdxs.flatMap (zko t a):=by
  rw [List.map_flatMap]
  congr 1
  funext y
  exact zy3 t a y
 unfold zdL zg1 zl5
 rw [zo0]
 unfold zil
 by_cases h1:a.fKind=1
 ·rw [if_pos h1,if_pos h1]
  refine⟨_,_,rfl, ?_,fun p hp=> ?_,fun _=>rfl,fun k=>absurd h1 k⟩
  ·show opW _::(t.fIdxs.flatMap (zhb t a)).map opW=_
   rw [hw];rfl
  ·rcases List.mem_cons.1 hp with rfl|hp
   ·exact .inl rfl
   ·exact hi p hp
 ·rw [if_neg h1,if_neg h1]
  by_cases h2:a.fKind=2
  ·rw [if_pos h2,if_pos h2]
   refine⟨_,_,rfl, ?_,fun p hp=> ?_,fun k=>absurd k h1,fun _=>rfl⟩
   ·show opW _::(t.fIdxs.flatMap (zhb t a)).map opW=_
    rw [hw];rfl
   ·rcases List.mem_cons.1 hp with rfl|hp
    ·exact .inr rfl
    ·exact hi p hp
  ·rw [if_neg h2,if_neg h2]
   refine⟨_,_,rfl, ?_,fun p hp=> ?_,fun k=>absurd k h1,fun _=>rfl⟩
   ·show opW _::(t.fIdxs.flatMap (zhb t a)).map opW=_
    rw [hw];rfl
   ·rcases List.mem_cons.1 hp with rfl|hp
    ·exact .inl rfl
    ·exact hi p hp
end Go.Proofs.YtgobcjbjogkpjaaGreatDoor
end
section
namespace Go.Proofs.YtgobcjbjogkpjaaGreatDoor
open Go.RowKit
set_option maxRecDepth 100000
theorem zmW {got:List zf4}: ∀(l:List DOp) (ws:List zaa),(∀p∈l,p.fKind=2∨p.fKind=3)→zfo got l ws=(3, [],(l.map opW).foldl (fun o w=>zfB wk w o) ws)
 | [],ws,_=>rfl
 |o::l,ws,h=>by
  have hl: ∀p∈l,p.fKind=2∨p.fKind=3:=fun p hp=>h p (by simp [hp])
  rw [zfo,List.map_cons,List.foldl_cons]
  rcases h o (by simp)with k|k
  ·rw [if_pos k,zmW l _ hl]
   unfold opW
   rw [if_neg (by omega)]
  ·rw [if_neg (by omega),if_pos k,zmW l _ hl]
   unfold opW
   rw [if_pos k]
theorem zsO {st:List zaa} {o:DOp} {rest:List DOp} (h2:o.fKind≠2) (h3:o.fKind≠3) (hr: ∀p∈rest,p.fKind=2∨p.fKind=3):
  zjf st (o::rest)=if zqi o (zbL st o.fKey).fVal (zbL st o.fKey).fThere=true then((rest.map opW).foldl (fun o w=>zfB wk w o) [],true)else([],false):=by
 have hgk:(zbL st o.fKey).fKey=o.fKey:=by
  unfold zbL
  cases st.find? (fun w=>w.fKey==o.fKey)<;>rfl
 have hs1:zfo [] (o::rest) []=(1,o.fKey, []):=by
  rw [zfo,if_neg h2,if_neg h3,if_neg (by simp [zce,ztj])]
 have hst:zce [] [zbL st o.fKey] o.fKey=((zbL st o.fKey).fVal,(zbL st o.fKey).fThere,true):=by
  unfold zce ztj
  rw [List.find?_nil,List.find?_cons,show((zbL st o.fKey).fKey==o.fKey)=true by rw [hgk];simp]
 have hs2:zfo [zbL st o.fKey] (o::rest) []=if zqi o (zbL st o.fKey).fVal (zbL st o.fKey).fThere=true then(3, [],(rest.map opW).foldl (fun o w=>zfB wk w o) [])else(2, [], []):=by
  rw [zfo,if_neg h2,if_neg h3,hst,if_pos rfl,zmW rest [] hr]
 unfold zjf
 rw [zzP,hs1,if_pos rfl,zzP]
 show(if(zfo [zbL st o.fKey] (o::rest) []).1=1 then _ else((zfo [zbL st o.fKey] (o::rest) []).2.2,(zfo [zbL st o.fKey] (o::rest) []).1==3))=_
 rw [hs2]
 by_cases hk:zqi o (zbL st o.fKey).fVal (zbL st o.fKey).fThere=true
 ·rw [if_pos hk,if_pos hk,if_neg (by simp)];rfl
 ·rw [if_neg hk,if_neg hk,if_neg (by simp)];rfl
theorem ziF {t:zab} {a:zae} (A:zpx t a) {st:List zaa} (hg:zax st=true) (h:(zdb st (zdL t a)).2=true):zzw t a st∧zsr t a st (zdb st (zdL t a)).1:=by
 obtain⟨hr,hn⟩:=zdM hg
 obtain⟨o,rest,e,hw,hk,h1,h7⟩:=zoQ t a
 have hk67:o.fKind=6∨o.fKind=7:=by
  by_cases k:a.fKind=1
  ·rw [h1 k];exact .inl rfl
  ·rw [h7 k];exact .inr rfl
 have hR:=zsO (st:=st) (o:=o) (rest:=rest) (by omega) (by omega) hk
 rw [e]at h ⊢
 unfold zdb at h ⊢
 rw [hR]at h ⊢
 by_cases hok:zqi o (zbL st o.fKey).fVal (zbL st o.fKey).fThere=true
 ·rw [if_pos hok,hw]at h ⊢
  by_cases hl:(zdN st ((zg1 t a).foldl (fun o w=>zfB wk w o) [])).length≤24
  ·rw [if_pos ⟨rfl,hl⟩]
   refine⟨⟨fun k w hm he=> ?_,fun k=> ?_⟩,A.behind hr.rise⟩
   ·rw [h1 k]at hok
    unfold zqi zbL at hok
    rw [if_pos rfl]at hok
    cases ef:st.find? (fun w=>w.fKey==(zdq t a.fNew).fKey)with
    |some z=>rw [ef]at hok;cases hok
    |none=>
     rw [List.find?_eq_none]at ef
     exact absurd (by simpa using he) (ef w hm)
   ·rw [h7 k]at hok
    unfold zqi zbL at hok
    rw [if_neg (by simp)]at hok
    cases ef:st.find? (fun w=>w.fKey==(zdq t a.fOld).fKey)with
    |none=>rw [ef]at hok;cases hok
    |some z=>
     rw [ef]at hok
     simp only [Bool.true_and,beq_iff_eq]at hok
     have hz:=List.mem_of_find?_eq_some ef
     have hzk:z.fKey=(zdq t a.fOld).fKey:=by simpa using List.find?_some ef
     have hzg:=hn z hz
     have:z=zdq t a.fOld:=by
      cases z
      simp only at hok hzk hzg
      rw [hok,hzk,hzg]
      rfl
     rw [←this];exact hz
  ·rw [if_neg fun q=>hl q.2]at h
   cases h
 ·rw [if_neg hok]at h
  rw [if_neg (by simp)]at h
  cases h
theorem zv7 {t:zab} {a:zae} {n:Str} {x:zbD} {st:List zaa} {low:Int} (A:zsD t a n x) (hg:zax st=true) (hl:low=0∧x.fStage≤1∨low=1∧1≤x.fStage∨low=2∧2≤x.fStage)
  (h:holds t n x low st=true):holds t n x low (zdb st (zdL t a)).1=true:=by
 cases hd:(zdb st (zdL t a)).2 with
 |true=>
  obtain⟨hA,hB⟩:=ziF A.asG hg hd
  exact zCI A hg hA hB hl h
 |false=>
  have:(zdb st (zdL t a)).1=st:=by
   unfold zdb at hd ⊢
   split at hd
   ·cases hd
   ·rename_i q;rw [if_neg q]
  rw [this];exact h
end Go.Proofs.YtgobcjbjogkpjaaGreatDoor
end
section
namespace Go.Proofs.YtgobcjbjogkpjaaGreatDoor
open Go.RowKit
set_option maxRecDepth 100000
def zf7 (t:zab) (st:List zaa) (a:zae):List zaa × Bool × Bool:=if(zac t&&(zaU t a&&zax st))=true then((zdb st (zdL t a)).1,(zdb st (zdL t a)).2,true)else([],false,false)
theorem zk0 {t:zab} {a:zae} (hS:zbA t) (hA:zh1 a):zdS t a=some (zac t&&zaU t a):=by
 unfold zdS
 rw [znI hS,Option.bind_some]
 cases hg:zac t with
 |false=>rfl
 |true=>rw [if_pos rfl,zvq (by have:=zfy hg;omega) hA];rfl
theorem zoH {t:zab} {a:zae} (hS:zbA t) (hA:zh1 a):zeT t a=some (zac t&&zaU t a):=by
 unfold zeT
 rw [znJ hS,Option.bind_some]
 cases hg:zac t with
 |false=>rfl
 |true=>rw [if_pos rfl,zvQ (by have:=zfy hg;omega) hA];rfl
theorem ztr (t:zab) (st:List zaa) (a:zae):zf7 t st a=if(zac t&&zaU t a)=true then(if zax st=true then((zdb st (zdL t a)).1,(zdb st (zdL t a)).2,true)else([],false,false))else([],false,false):=by
 unfold zf7
 cases zac t<;>cases zaU t a<;>cases zax st<;>rfl
theorem zA0 {t:zab} {st:List zaa} {a:zae} (hS:zbA t) (hW:zgO st) (hA:zh1 a):zfg t st a=some (zf7 t st a):=by
 rw [ztr]
 unfold zfg
 rw [zoH hS hA,Option.bind_some]
 by_cases hg:(zac t&&zaU t a)=true
 ·rw [if_pos hg,if_pos hg,zrS hW,Option.bind_some]
  rw [Bool.and_eq_true]at hg
  by_cases hr:zax st=true
  ·obtain⟨ol,oo⟩:=zhk hg.1 hg.2
   have hai:=zuS hA hg.2
   rw [if_neg (by simp [hr]),if_pos hr,zz0 hS hg.1 hai,Option.bind_some,zCz ol oo hr];rfl
  ·rw [if_pos (by simpa using hr),if_neg hr]
 ·rw [if_neg hg,if_neg hg]
theorem zrE {t:zab} {st:List zaa} {a:zae} (hS:zbA t) (hW:zgO st) (hA:zh1 a):zcU t st a=some (zf7 t st a):=by
 rw [ztr]
 unfold zcU
 rw [zk0 hS hA,Option.bind_some]
 by_cases hg:(zac t&&zaU t a)=true
 ·rw [if_pos hg,if_pos hg,ztR hW,Option.bind_some]
  rw [Bool.and_eq_true]at hg
  by_cases hr:zax st=true
  ·obtain⟨ol,oo⟩:=zhk hg.1 hg.2
   have hai:=zuS hA hg.2
   rw [if_neg (by simp [hr]),if_pos hr,zzN hS hg.1 hai,Option.bind_some,zx0 ol oo hr];rfl
  ·rw [if_pos (by simpa using hr),if_neg hr]
 ·rw [if_neg hg,if_neg hg]
theorem zlw {t:zab} {st:List zaa} {a:zae} (hS:zbA t) (hW:zgO st) (hA:zh1 a):zfg t st a=some (zf7 t st a)∧zcU t st a=some (zf7 t st a):=⟨zA0 hS hW hA,zrE hS hW hA⟩
theorem zo7 {t:zab} {st:List zaa} {a:zae} (h:(zf7 t st a).2.2=true):zac t=true∧zaU t a=true∧zax st=true∧zf7 t st a=((zdb st (zdL t a)).1,(zdb st (zdL t a)).2,true)∧zax (zdb st (zdL t a)).1=true:=by
 unfold zf7 at h ⊢
 by_cases hg:(zac t&&(zaU t a&&zax st))=true
 ·rw [if_pos hg]
  rw [Bool.and_eq_true,Bool.and_eq_true]at hg
  obtain⟨ol,oo⟩:=zhk hg.1 hg.2.1
  exact⟨hg.1,hg.2.1,hg.2.2,rfl,zmb ol oo hg.2.2⟩
 ·rw [if_neg hg]at h
  cases h
theorem zqw {t:zab} {st:List zaa} {a:zae}:(zf7 t st a).1.length≤24:=by
 cases h:(zf7 t st a).2.2 with
 |true=>
  obtain⟨_,_,_,e,hg⟩:=zo7 h
  rw [e]
  exact(zdM hg).1.len
 |false=>
  unfold zf7 at h ⊢
  split
  ·rename_i hg;rw [if_pos hg]at h;cases h
  ·simp
theorem ziB {l:List zaa} (h:zax l=true):zgO l:=by
 have hr:=(zdM h).1
 have:=hr.len
 exact zjn (by omega) hr.good
def zfV (t:zab) (n:Str) (lv:Int) (l:List zaa):Bool × Bool:=if(zkU t n l&&inB lv 0 2)=true then(holds t n (xOf t n) lv l,true)else(false,false)
theorem zoz (t:zab) (n:Str) (lv:Int) (l:List zaa):zfV t n lv l=if zkU t n l=true then(if inB lv 0 2=true then(holds t n (xOf t n) lv l,true)else(false,false))else(false,false):=by
 unfold zfV
 cases zkU t n l<;>cases inB lv 0 2<;>rfl
theorem zxg {t:zab} {n:Str} {lv:Int} {l:List zaa} (hS:zbA t) (hW:zgO l):zeL t n lv l=some (zfV t n lv l):=by
 rw [zoz]
 unfold zeL
 rw [zuA hS hW,Option.bind_some]
 by_cases ha:zkU t n l=true
 ·rw [if_pos ha,if_pos ha,zm4,Option.bind_some]
  by_cases hb:inB lv 0 2=true
  ·rw [if_neg (by simp [hb]),if_pos hb]
   have ha2:=ha
   unfold zkU at ha2
   simp only [Bool.and_eq_true]at ha2
   obtain⟨x,hx,h1,h2,h3⟩:=zxf ha2.1
   rw [zzm hS (by omega) (by omega) hx hW.1 (zt6 ha2.2) (by rw [zuA hS hW,ha]),zuN hx];rfl
  ·rw [if_pos (by simpa using hb),if_neg hb]
 ·rw [if_neg ha,if_neg ha]
theorem zpf {t:zab} {n:Str} {lv:Int} {l:List zaa} (hS:zbA t) (hW:zgO l):zcl t n lv l=some (zfV t n lv l):=by
 rw [zoz]
 unfold zcl
 rw [zyB hS hW,Option.bind_some]
 by_cases ha:zkU t n l=true
 ·rw [if_pos ha,if_pos ha,ziV,Option.bind_some]
  by_cases hb:inB lv 0 2=true
  ·rw [if_neg (by simp [hb]),if_pos hb]
   have ha2:=ha
   unfold zkU at ha2
   simp only [Bool.and_eq_true]at ha2
   obtain⟨x,hx,h1,h2,h3⟩:=zxf ha2.1
   rw [zyR hS h1 (by omega) h3 hx hW.1 (zt6 ha2.2),zuN hx];rfl
  ·rw [if_pos (by simpa using hb),if_neg hb]
 ·rw [if_neg ha,if_neg ha]
theorem zlt {t:zab} {n:Str} {lv:Int} {l:List zaa} (hS:zbA t) (hW:zgO l):zeL t n lv l=some (zfV t n lv l)∧zcl t n lv l=some (zfV t n lv l):=⟨zxg hS hW,zpf hS hW⟩
theorem zt2 {t:zab} {n:Str} {lv:Int} {l:List zaa} (h:(zfV t n lv l).1=true):zmn t n=true∧inB lv 0 2=true∧holds t n (xOf t n) lv l=true:=by
 unfold zfV at h
 by_cases hg:(zkU t n l&&inB lv 0 2)=true
 ·rw [if_pos hg]at h
  rw [Bool.and_eq_true]at hg
  have h2:=hg.1
  unfold zkU at h2
  rw [Bool.and_eq_true]at h2
  exact⟨h2.1,hg.2,h⟩
 ·rw [if_neg hg]at h
  cases h
theorem zlZ {t:zab} {c:Int} (hS:zbA t): ∃r,zck t c=some r∧zbA r.1∧r.2.1.length≤2000000∧(r.2.2=true→ ∃x,t.fIdxs[0]?=some x∧r.2.1=x.fName∧zmn t x.fName=true∧inB c 0 3=true∧r.1=zcH t (kOf t x.fName) c)∧(r.2.2=false→t.fIdxs.length=0∨zac t=false∨inB c 0 3=false):=by
 have hno:zbA ⟨[], [], []⟩:=⟨by simp,by simp,by simp,by simp,by simp⟩
 unfold zck
 by_cases h0:t.fIdxs.length=0
 ·rw [if_pos (by simp [h0])]
  exact⟨_,rfl,hno,by simp,(fun h=>by cases h),fun _=> .inl h0⟩
 ·have hpos:0<t.fIdxs.length:=by omega
  have hx:t.fIdxs[0]?=some t.fIdxs[0]:=List.getElem?_eq_getElem hpos
  have hm:=List.getElem_mem hpos
  have hn:=hS.idx _ hm
  rw [if_neg (by simpa using h0),show getI t.fIdxs 0=some t.fIdxs[0]from zaj hpos,Option.bind_some]
  unfold zhP zhR
  rw [znJ hS,Option.bind_some]
  by_cases hg:zac t=true
  ·have hk:zho (fun x:zbD=>x.fName==t.fIdxs[0].fName) t.fIdxs≥0:=by
    have:=ziN (fun y:zbD=>y.fName==t.fIdxs[0].fName) t.fIdxs
    rw [show(t.fIdxs.any fun y=>y.fName==t.fIdxs[0].fName)=true from List.any_eq_true.2 ⟨_,hm,by simp⟩]at this
    simpa using this
   have hI:zmn t t.fIdxs[0].fName=true:=by
    unfold zmn
    rw [hg,decide_eq_true hk];rfl
   rw [if_pos hg,zuX hS,Option.bind_some,if_pos (decide_eq_true hk),zm4,Option.bind_some,Option.bind_some]
   by_cases hc:inB c 0 3=true
   ·rw [if_neg (by simp [hc]),zBl hS (znF hg hm),Option.bind_some,Option.bind_some]
    exact⟨_,rfl,zuc hS,hn,(fun _=>⟨_,hx,rfl,hI,hc,rfl⟩),fun h=>by cases h⟩
   ·rw [if_pos (by simpa using hc),Option.bind_some]
    exact⟨_,rfl,hno,hn,(fun h=>by cases h),fun _=> .inr (.inr (by simpa using hc))⟩
  ·rw [if_neg hg,Option.bind_some,if_pos (show(!false)=true from rfl),Option.bind_some]
   exact⟨_,rfl,hno,hn,(fun h=>by cases h),fun _=> .inr (.inl (by simpa using hg))⟩
theorem ztl {t:zab} {n:Str} {c:Int} (h:zmn t n=true):(xOf (zcH t (kOf t n) c) n).fStage=c:=by
 obtain⟨x,hx,_⟩:=ztL h
 have hl:=(zkW hx.at_).2.2
 have h0:=(zkW hx.at_).1
 have e1: ∀l:List zbD,zho (fun x:zbD=>x.fName==n) l=zho (· ==n) (l.map (·.fName)):=fun l=>by
  induction l with
  |nil=>rfl
  |cons x l ih=>rw [List.map_cons,zgV,zgV,ih]
 have hk:kOf (zcH t (kOf t n) c) n=kOf t n:=by
  unfold kOf
  rw [e1,e1,zi2]
 have hk2:(kOf t n).toNat<t.fIdxs.length:=by
  have:zho (fun y:zbD=>y.fName==n) t.fIdxs=kOf t n:=rfl
  rw [this]at hl h0
  omega
 unfold xOf
 rw [hk]
 unfold zcH
 dsimp only
 rw [List.getElem?_set_self hk2]
 rfl
theorem zix {code:List Int} {stage low:Int} (h: ∀b∈code,0≤b∧b≤255) (hl:low=0∧stage≤1∨low=1∧1≤stage∨low=2∧2≤stage):zch code stage low=some true:=by
 unfold zch
 obtain⟨⟨t0,st,a⟩,hd,hS0,hT,hA⟩:=znc h
 dsimp only at hS0 hT hA
 refine(zaK hd).trans ?_
 obtain⟨⟨t,n,ok⟩,hq,hS,hn,hok,_⟩:=zlZ (c:=stage) hS0
 dsimp only at hS hn hok
 refine(zaK hq).trans (zxw (fun _=>rfl) fun hok2=> ?_)
 have hok3:ok=true:=by simpa using hok2
 obtain⟨x,hx0,rfl,hI0,hc,rfl⟩:=hok hok3
 have hstage:=ztl (c:=stage) hI0
 generalize zcH t0 (kOf t0 x.fName) stage=t at hS hstage
 have hW:=hT.small
 have hAs:=hA.small
 refine(zaK (zlw hS hW hAs).2).trans ((zaK (zlw hS hW hAs).1).trans ((zaK (zlt (n:=x.fName) (lv:=low) hS hW).2).trans ((zaK (zlt (n:=x.fName) (lv:=low) hS hW).1).trans ?_)))
 refine zvO (by simp) (zvO (by simp) ((zaK (zqR (by have:=zqw (t:=t) (st:=st) (a:=a);omega))).trans (zvO (by simp) (zxw (fun _=>rfl) fun hend=> ?_))))
 simp only [Bool.or_eq_false_iff,Bool.not_eq_false']at hend
 obtain⟨g1,g2,g3,e,g4⟩:=zo7 hend.1
 obtain⟨k1,k2,k3⟩:=zt2 hend.2
 obtain⟨y,hy,sy,_⟩:=ztL k1
 have hxy:=zuN hy
 have A:zsD t a x.fName (xOf t x.fName):=zyh g1 (by rw [hxy];exact zr0 hy.at_) (by rw [hxy];exact hy.name) g2
 have hk:=zv7 A g3 (by rw [hstage];exact hl) k3
 rw [e]
 refine(zaK (zlt (n:=x.fName) (lv:=low) hS (ziB g4)).2).trans ?_
 unfold zfV zkU
 rw [if_pos (by rw [k1,g4,k2];rfl),hk];rfl
theorem zAV (a b:List Int) (ha:okL ztV a) (hb:okL ztV b):zhi a b=some true:=by
 unfold zhi
 refine zxw (fun _=>rfl) fun _=> ?_
 exact(zaK (zix ha.2 (.inl ⟨rfl,by omega⟩))).trans (zBu rfl ((zaK (zix hb.2 (.inl ⟨rfl,by omega⟩))).trans rfl))
theorem zsG (a b:List Int) (ha:okL ztV a) (hb:okL ztV b):zd4 a b=some true:=by
 unfold zd4
 refine zxw (fun _=>rfl) fun _=> ?_
 exact(zaK (zix ha.2 (.inr (.inl ⟨rfl,by omega⟩)))).trans (zBu rfl ((zaK (zix hb.2 (.inr (.inl ⟨rfl,by omega⟩)))).trans rfl))
theorem zyw (a b:List Int) (ha:okL ztV a) (hb:okL ztV b):zgE a b=some true:=by
 unfold zgE
 refine zxw (fun _=>rfl) fun _=> ?_
 exact(zaK (zix ha.2 (.inr (.inr ⟨rfl,by omega⟩)))).trans (zBu rfl ((zaK (zix hb.2 (.inr (.inr ⟨rfl,by omega⟩)))).trans rfl))
end Go.Proofs.YtgobcjbjogkpjaaGreatDoor
end
section
namespace Go.Proofs.YtgobcjbjogkpjaaGreatDoor
open Go.RowKit
set_option maxRecDepth 100000
theorem zub {H:Type} {enc:TypeId × Value→H} {P:Program} {w:World} {base:Nat} {sp:Nat→Bool} {held:Bool} {fuel:Nat} {t:TypeId} {cs:List Value} {n:String} {d:DataW H} {p:List MemPlace} {u:TypeDesc}
  (ht:P.underlying t=some u) (hu:(match u with| .interface _=>true|_=>false)=true) (h:DataW.trod enc P w base sp held fuel t cs=some (.iface n d,p)): ∃a v,cs= [.iface a v]:=by
 cases fuel with
 |zero=>simp [DataW.trod]at h
 |succ fuel=>
  cases u<;>first|(cases hu;done)|skip
  simp only [DataW.trod,ht]at h
  split at h<;>first|(exact⟨_,_,rfl⟩)|(simp at h;done)|(simp_all;done)
noncomputable def zBx (s:String):Bool:=match(Tryz.prog.globalNamed s).bind (fun g=>(Tryz.prog.globals[g]?).map (·.type))with
 |some t=>(match Tryz.prog.underlying t with|some (.interface _)=>true|_=>false)
 |none=>false
noncomputable def zz3 (s:String):Bool:=match(Tryz.prog.globalNamed s).bind (fun g=>(Tryz.prog.globals[g]?).map (·.type))with
 |some t=>(match Tryz.prog.underlying t with
  |some (.array n e)=>(match Tryz.prog.underlying e with|some (.int .u64)=>true|_=>false)&&Tryz.prog.cellsOf e==1&&Tryz.prog.cellsOf t==n
  |_=>false)
 |none=>false
theorem zvn {s:String} {D:DataW Unit} {W:World} (h:laidMet Tryz.prog [(s,D)] W) (hc:zBx s=true) (hd: ∃n d,D= .iface n d): ∃t p,W.var? Tryz.prog s=some #[.iface t p]:=by
 obtain⟨ps,⟨g,t,cs,fuel,p,q,hg,ht,hvar,htr,_,_⟩,_⟩:=h
 obtain⟨n,d,rfl⟩:=hd
 unfold zBx at hc
 rw [hg,Option.bind_some,ht]at hc
 simp only at hc
 cases hu:Tryz.prog.underlying t with
 |none=>rw [hu]at hc;cases hc
 |some u=>
  obtain⟨a,v,e⟩:=zub hu (by rw [hu]at hc;cases u<;>first|rfl|cases hc) htr
  refine⟨a,v, ?_⟩
  rw [hvar]
  congr 1
  apply Array.ext'
  rw [e]
theorem zBB {s:String} {W:World} (h:laidMet Tryz.prog [(s,Lib.tabData .u64 Lib.pow10Tab)] W) (hc:zz3 s=true):Lib.TabIs Tryz.prog W s .u64 Lib.pow10Tab:=by
 have h0:=h
 obtain⟨ps,⟨g,t,cs,fuel,p,q,hg,ht,hvar,htr,_,_⟩,_⟩:=h
 unfold zz3 at hc
 rw [hg,Option.bind_some,ht]at hc
 simp only at hc
 split at hc
 ·rename_i n e hu
  simp only [Bool.and_eq_true,beq_iff_eq]at hc
  obtain⟨⟨h1,h2⟩,h3⟩:=hc
  split at h1
  ·rename_i he
   exact Lib.tabIs_of_head hg ht hu he h2 h3 h0
  ·cases h1
 ·cases hc
theorem zn8 {laid:List (String × DataW Unit)} {D1 D2 D3:DataW Unit} {W:World} (h:laidMet Tryz.prog laid W)
  (e1:(laid.filter fun x=>x.1== "strconv.ErrSyntax")= [("strconv.ErrSyntax",D1)]) (i1: ∃n d,D1= .iface n d)
  (e2:(laid.filter fun x=>x.1== "strconv.ErrRange")= [("strconv.ErrRange",D2)]) (i2: ∃n d,D2= .iface n d)
  (e3:(laid.filter fun x=>x.1== "internal/strconv.uint64pow10")= [("internal/strconv.uint64pow10",D3)]) (i3:D3=Lib.tabData .u64 Lib.pow10Tab):pkW.n≤W.heap.size∧pkW.K W:=by
 have h1:=h.filter fun x=>x.1== "strconv.ErrSyntax"
 have h2:=h.filter fun x=>x.1== "strconv.ErrRange"
 have h3:=h.filter fun x=>x.1== "internal/strconv.uint64pow10"
 rw [e1]at h1
 rw [e2]at h2
 rw [e3,i3]at h3
 have k:pkK W:=⟨zvn h1 (by kernel_rfl) i1,zvn h2 (by kernel_rfl) i2,(zBB h3 (by kernel_rfl)).trans (by kernel_rfl)⟩
 exact⟨zBj k,k⟩
end Go.Proofs.YtgobcjbjogkpjaaGreatDoor
end

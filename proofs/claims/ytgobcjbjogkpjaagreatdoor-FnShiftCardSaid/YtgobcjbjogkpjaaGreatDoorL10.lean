/- Parts of a proof, joined: NU, NH, NDA, NDB, LCG, NDC, NQS, N17, N18, N19, N20, N21, N22, NM, NN, NB, NKA, NW, NY, NSA, NO, NKC. -/
import Derived.Test.YtgobcjbjogkpjaaGreatDoorL9
section
namespace Go.Proofs.YtgobcjbjogkpjaaGreatDoor
open Go.RowKit
set_option maxRecDepth 100000
theorem zwL {t:zab} {a:zan} (hg:zag t=true) (h:zgf t a=true):(zj1 t a).length≤8∧ ∀o∈zj1 t a,OkO o:=by
 have ho:a.fKind≠1→zaq t a.fOld=true:=fun h1=>by
  unfold zgf at h
  rw [if_neg h1]at h
  by_cases h2:a.fKind=2
  ·rw [if_pos h2,Bool.and_eq_true]at h;exact h.1
  rw [if_neg h2]at h
  by_cases h3:a.fKind=3
  ·rw [if_pos h3,Bool.and_eq_true]at h;exact h.1
  rw [if_neg h3]at h;cases h
 have hn:a.fKind≠2→zaq t a.fNew=true:=fun h2=>by
  unfold zgf at h
  by_cases h1:a.fKind=1
  ·rw [if_pos h1,Bool.and_eq_true]at h;exact h.2
  rw [if_neg h1,if_neg h2]at h
  by_cases h3:a.fKind=3
  ·rw [if_pos h3,Bool.and_eq_true,Bool.and_eq_true]at h;exact h.2.1
  rw [if_neg h3]at h;cases h
 have hc:=zfV hg
 have v0:zfG ([]:Str)=true:=by decide
 constructor
 ·have h1:=zu8 (zoD t a) t.fIdxs (zjN t a)
  rw [zmW]at h1
  unfold zj1
  omega
 ·refine zwX _ _ (fun x hx o hm=> ?_) (fun o hm=> ?_)
  ·have hx1:=(zdl hg hx).1
   unfold zit zmm zpc at hm
   rcases List.mem_append.1 hm with hm|hm
   ·split at hm
    ·rename_i q
     rw [List.mem_singleton]at hm
     subst hm
     refine⟨?_,v0,rfl,by simp,fun _=>rfl⟩
     show zch (zrh t a x)=true
     unfold zrh at q ⊢
     by_cases h1:a.fKind=1
     ·rw [if_pos h1]at q;exact absurd rfl q.1
     ·rw [if_neg h1];exact zl4 hg hx1 (ho h1)
    ·simp at hm
   ·split at hm
    ·rename_i q
     rw [List.mem_singleton]at hm
     subst hm
     refine⟨?_,v0,rfl,by simp,fun _=>rfl⟩
     show zch (zo9 t a x)=true
     unfold zo9 at q ⊢
     by_cases h1:a.fKind=2
     ·rw [if_pos h1]at q;exact absurd rfl q.1
     ·rw [if_neg h1];exact zl4 hg hx1 (hn h1)
    ·simp at hm
  ·unfold zjN at hm
   split at hm
   ·rename_i q
    have w:=zk9 hg (hn (by omega))
    simp only [List.mem_cons,List.not_mem_nil,or_false]at hm
    rcases hm with rfl|rfl
    ·exact⟨w.1,v0,rfl,by simp,fun _=>rfl⟩
    ·exact⟨w.1,w.2,rfl,by simp,fun k=>by simp at k⟩
   ·rename_i q1
    have w1:=zk9 hg (ho q1)
    split at hm
    ·simp only [List.mem_cons,List.not_mem_nil,or_false]at hm
     rcases hm with rfl|rfl
     ·exact⟨w1.1,w1.2,rfl,by simp,fun k=>by simp at k⟩
     ·exact⟨w1.1,v0,rfl,by simp,fun _=>rfl⟩
    ·rename_i q2
     have w2:=zk9 hg (hn q2)
     simp only [List.mem_cons,List.not_mem_nil,or_false]at hm
     rcases hm with rfl|rfl
     ·exact⟨w1.1,w1.2,rfl,by simp,fun k=>by simp at k⟩
     ·exact⟨w1.1,w2.2,rfl,by simp,fun k=>by simp at k⟩
theorem zj5 {l:List zaa} (h:zbY l=true):zrb l∧ ∀w∈l,w.fGone=false:=by
 unfold zbY at h
 rw [Bool.and_eq_true]at h
 have hr:=zp0 h.1
 have h1:=h.1
 unfold zdW at h1
 simp only [Bool.and_eq_true,decide_eq_true_eq]at h1
 exact⟨⟨hr,by omega,List.all_eq_true.1 h1.2.1⟩,fun w hw=>by simpa using List.all_eq_true.1 h.2 w hw⟩
theorem zmV {l:List zaa} (hr:zgs l) (hg: ∀w∈l,zgd w=true) (hn: ∀w∈l,w.fGone=false):zbY l=decide ((l.length:Int)≤24):=by
 have h1:zmz (l.map (·.fKey))=true:=by
  rw [zm0,zlN]
  exact(znB (r:=fun a b:zaa=>bl a.fKey b.fKey) fun a b c p q=>zfZ p q).2 hr
 unfold zbY zdW
 rw [h1,List.all_eq_true.2 hg,show(l.all fun w=> !w.fGone)=true from List.all_eq_true.2 fun w hw=>by rw [hn w hw];rfl]
 simp
theorem zkS {l:List zaa} (hl:l.length≤2000000) (hg: ∀w∈l,zgd w=true):zmk l:=
 ⟨hl,fun w hw=>⟨by have:=zuT (hg w hw);omega,by have:=znu (hg w hw);omega⟩⟩
def zfh (rows ws:List zaa):List zaa:=(ws.foldl (fun o w=>zha wk w o) rows).filter fun w=> !w.fGone
theorem zAc: ∀(ws:List zaa) {n:Nat} {rows:List zaa},zjj n rows→(∀w∈ws,zgd w=true)→zjj (n+ws.length) (ws.foldl (fun o w=>zha wk w o) rows)
 | [],n,rows,h,_=>h
 |w::ws,n,rows,h,hw=>by
  have:=zAc ws (zev h (hw w (by simp))) fun y hy=>hw y (by simp [hy])
  exact⟨this.rise,by have:=this.len;rw [List.length_cons];rw [List.foldl_cons];omega,this.good⟩
theorem zuL {rows ws:List zaa} (hr:zrb rows) (hw:zjj 8 ws):zgs (zfh rows ws)∧(zfh rows ws).length≤32∧(∀w∈zfh rows ws,zgd w=true)∧ ∀w∈zfh rows ws,w.fGone=false:=by
 have h:=zAc ws (n:=24) (rows:=rows) ⟨hr.rise,hr.len,hr.good⟩ hw.good
 have hl:=hw.len
 unfold zfh
 refine⟨zoI.filter h.rise _,Nat.le_trans (List.length_filter_le _ _) (by have:=h.len;omega),fun w hm=>h.good w (List.mem_filter.1 hm).1,fun w hm=>by simpa using(List.mem_filter.1 hm).2⟩
theorem zxl {rows ws:List zaa} (hr:zrb rows) (hw:zjj 8 ws):zhU rows ws=some (if(zfh rows ws).length>24 then([],false)else(zfh rows ws,true)):=by
 have hrl:=hr.len
 have hwl:=hw.len
 have hc:zaD rows=some rows:=zlZ (by omega) (by omega)
 unfold zhU
 rw [hc,Option.bind_some]
 have h1:=zb3 (xs:=ws) (body:=fun s:Int × List zaa=>zc8 ws s.1 s.2) (fun i (o:List zaa)=>(i,o)) (fun o w=>zha wk w o) (fun o=>zhA o) (fun i o=>zjj (24+i) o)
  (fun i hi o hI=>by
   have hI:zjj (24+i) o:=hI
   have hol:=hI.len
   refine⟨?_,zev hI (hw.good _ (List.getElem_mem hi))⟩
   show zc8 ws i o=_
   unfold zc8
   rw [if_pos (by simpa using hi),zae hi,Option.bind_some,zow (by omega) hI.rise,Option.bind_some,zbS hi (by omega)])
  (fun o hI=>by
   show zc8 ws ws.length o=_
   unfold zc8
   rw [if_neg (by simp)]) (s:=rows) ⟨hr.rise,hr.len,hr.good⟩
 rw [h1.1]
 have hK:zjj (24+ws.length) (ws.foldl (fun o w=>zha wk w o) rows):=h1.2
 have hkl:=hK.len
 unfold zhA ze9
 rw [zak (by omega),zog (p:=fun y0_=>zih y0_) (fun w:zaa=>w.fGone) (fun w _=>rfl),Option.bind_some]
 show(if decide (((zfh rows ws).length:Int)>24)=true then _ else _)=_
 by_cases hq:(zfh rows ws).length>24
 ·rw [if_pos (decide_eq_true (by omega)),if_pos hq]
 ·rw [if_neg (by rw [decide_eq_true_eq];omega),if_neg hq];rfl
theorem zx1 {rows ws:List zaa} (hr:zrb rows) (hw:zjj 8 ws):zf2 rows ws=some (zfh rows ws):=by
 have hrl:=hr.len
 have hwl:=hw.len
 have hq:((([]:List zaa).length:Int)+((rows).length:Int))*40≤140737488355328∧(([]:List zaa).length:Int)+((rows).length:Int)≤140737488355328:=by
  rw [List.length_nil];omega
 unfold zf2
 rw [zak hq]
 have h1:=zb3 (xs:=ws) (body:=fun s:Int × List zaa=>zcs ws s.1 s.2) (fun i (o:List zaa)=>(i,o)) (fun o w=>zha wk w o) (fun o=>zf9 o) (fun i o=>zjj (24+i) o)
  (fun i hi o hI=>by
   have hI:zjj (24+i) o:=hI
   have hol:=hI.len
   refine⟨?_,zev hI (hw.good _ (List.getElem_mem hi))⟩
   show zcs ws i o=_
   unfold zcs
   rw [if_pos (by simpa using hi),zae hi,Option.bind_some,zkT (by omega) hI.rise,Option.bind_some,zbS hi (by omega)])
  (fun o hI=>by
   show zcs ws ws.length o=_
   unfold zcs
   rw [if_neg (by simp)]) (s:=rows) ⟨hr.rise,hr.len,hr.good⟩
 rw [h1.1]
 have hK:zjj (24+ws.length) (ws.foldl (fun o w=>zha wk w o) rows):=h1.2
 have hkl:=hK.len
 unfold zfh
 generalize ws.foldl (fun o w=>zha wk w o) rows=l at hkl
 unfold zf9
 have h2:=zb3 (xs:=l) (body:=fun s:List zaa × Int=>zcn l s.1 s.2) (fun i (o:List zaa)=>(o,i)) (fun o w=>if(!w.fGone)=true then o++ [id w]else o) (fun o=>some o) (fun i o=>o.length≤i)
  (fun i hi o hI=>by
   have hI:o.length≤i:=hI
   have hr:(((o).length:Int)+(([l[i]]:List zaa).length:Int))*40≤140737488355328∧((o).length:Int)+(([l[i]]:List zaa).length:Int)≤140737488355328:=by
    rw [List.length_singleton];omega
   refine⟨?_,by show List.length _≤_;split;rw [List.length_append,List.length_singleton];omega;omega⟩
   show zcn l o i=_
   unfold zcn
   rw [if_pos (by simpa using hi),zae hi,Option.bind_some,zbS hi (by omega)]
   cases(!(l[i]).fGone)with
   |false=>rfl
   |true=>rw [if_pos rfl,zak hr];rfl)
  (fun o _=>by
   show zcn l o l.length=_
   unfold zcn
   rw [if_neg (by simp)]) (s:= []) (Nat.le_refl _)
 refine h2.1.trans ?_
 rw [ziY (fun w:zaa=> !w.fGone) id l []]
 simp
def ziI (st:List zaa) (ops:List DOp):List zaa × Bool:=if(zlA st ops).2=true∧(zfh st (zlA st ops).1).length≤24 then(zfh st (zlA st ops).1,true)else(st,false)
theorem zAa {st:List zaa} {ops:List DOp} (hl:ops.length≤8) (ho: ∀o∈ops,OkO o) (hg:zbY st=true):ziN st ops=some (ziI st ops):=by
 obtain⟨hr,_⟩:=zj5 hg
 obtain⟨⟨g,e⟩,_,hw⟩:=zvC hl ho hr
 have hrl:=hr.len
 have hq:((([]:List zaa).length:Int)+((st).length:Int))*40≤140737488355328∧(([]:List zaa).length:Int)+((st).length:Int)≤140737488355328:=by
  rw [List.length_nil];omega
 unfold ziN ziI
 rw [e,Option.bind_some,zxl hr hw,Option.bind_some]
 cases h1:(zlA st ops).2 with
 |false=>rw [if_pos (by simp),zak hq,if_neg (by simp)]
 |true=>
  by_cases h2:(zfh st (zlA st ops).1).length>24
  ·rw [if_pos h2,if_pos (by simp),zak hq,if_neg (by omega)]
  ·rw [if_neg h2,if_neg (by simp),if_pos ⟨rfl,by omega⟩]
theorem zxZ {ops:List DOp} (hl:ops.length≤8) (ho: ∀o∈ops,OkO o):ziO ops=some true:=by
 have h1: ∀o:DOp,OkO o→zkt o=some true:=by
  intro o h
  have hk:=zuf h.key
  have hv:=zt8 h.val
  unfold zkt zjE
  rw [zB6 (by omega),Option.bind_some,h.key,if_neg (by simp)]
  rcases h.kind with k|k|k|k
  ·rw [k];simp [zAj (s:=o.fVal) (by omega),h.val,h.by_]
  ·have:=h.none (.inl k);rw [k];simp [this,h.by_]
  ·have:=h.none (.inr k);rw [k];simp [this,h.by_]
  ·rw [k];simp [zAj (s:=o.fVal) (by omega),h.val,h.by_]
 unfold ziO
 rw [ziA (xs:=ops) (body:=fun s:Int=>zdt ops s) (fun _=>true) false (zim ops) (fun i hi=>by
  show zdt ops i=_
  unfold zdt
  rw [if_pos (by simpa using hi),zae hi,Option.bind_some,h1 _ (ho _ (List.getElem_mem hi)),Option.bind_some,if_neg (by simp),zbS hi (by omega),if_pos rfl]) (by
  show zdt ops ops.length=_
  unfold zdt
  rw [if_neg (by simp)]),if_pos (List.all_eq_true.2 fun _ _=>rfl)]
 unfold zim
 simp;omega
theorem zEO {st:List zaa} {ops:List DOp} (hl:ops.length≤8) (ho: ∀o∈ops,OkO o) (hg:zbY st=true):zjs st ops=some (ziI st ops):=by
 obtain⟨hr,_⟩:=zj5 hg
 obtain⟨_,⟨g,e⟩,hw⟩:=zvC hl ho hr
 have hrl:=hr.len
 have hq:((([]:List zaa).length:Int)+((st).length:Int))*40≤140737488355328∧(([]:List zaa).length:Int)+((st).length:Int)≤140737488355328:=by
  rw [List.length_nil];omega
 have hqb: ∀b:Bool,((([]:List Bool).length:Int)+(([b]:List Bool).length:Int))*1≤140737488355328∧(([]:List Bool).length:Int)+(([b]:List Bool).length:Int)≤140737488355328:=by
  intro b;rw [List.length_nil,List.length_singleton];omega
 obtain⟨p1,p2,p3,p4⟩:=zuL hr hw
 have hv7:zcx (zfh st (zlA st ops).1)=some (decide (((zfh st (zlA st ops).1).length:Int)≤24)):=by
  rw [zm1 (zkS (by omega) p3),zmV p1 p3 p4]
 have hw1:IntKind.i64.wrap ((0:Int)+1)=1:=by decide
 have key:zf1 st [ops]=some ((ziI st ops).1, [(ziI st ops).2],true):=by
  unfold zf1
  rw [zm1 (zkS (by omega) hr.good),Option.bind_some,hg,if_neg (by simp)]
  have b0:zbO st [ops] 0=some (.inl 1):=by
   unfold zbO
   rw [if_pos (by simp),show getI [ops] 0=some ops from rfl,Option.bind_some,zxZ hl ho,Option.bind_some,if_neg (by simp),hw1]
  have b1:zbO st [ops] 1=some (.inr (zgj st [ops])):=by
   unfold zbO
   rw [if_neg (by simp)]
  rw [zcE (body:=fun s:Int=>zbO st [ops] s) b0,zb8 (body:=fun s:Int=>zbO st [ops] s) b1]
  unfold zgj
  rw [zak hq]
  have c0:zbR [ops] [] 0 st=some (.inl ([(ziI st ops).2],1,(ziI st ops).1)):=by
   unfold zbR ziI
   rw [if_pos (by simp),show getI [ops] 0=some ops from rfl,Option.bind_some,e,Option.bind_some,zx1 hr hw,Option.bind_some]
   cases h1:(zlA st ops).2 with
   |false=>rw [if_neg (by simp),zak (hqb _),if_neg (by simp),hw1];rfl
   |true=>
    rw [if_pos rfl,hv7,Option.bind_some]
    by_cases h2:(zfh st (zlA st ops).1).length≤24
    ·have h3:decide (((zfh st (zlA st ops).1).length:Int)≤24)=true:=by simp;omega
     rw [h3,if_pos rfl,zak (hqb _),if_pos ⟨rfl,h2⟩,hw1];rfl
    ·have h3:decide (((zfh st (zlA st ops).1).length:Int)≤24)=false:=by simp;omega
     rw [h3,if_neg (by simp),zak (hqb _),if_neg (by omega),hw1];rfl
  have c1: ∀(bs:List Bool) (l:List zaa),zbR [ops] bs 1 l=some (.inr (some (l,bs,true))):=by
   intro bs l
   unfold zbR
   rw [if_neg (by simp)]
  rw [zcE (body:=fun s:List Bool × Int × List zaa=>zbR [ops] s.1 s.2.1 s.2.2) c0,zb8 (body:=fun s:List Bool × Int × List zaa=>zbR [ops] s.1 s.2.1 s.2.2) (c1 _ _)]
 unfold zjs
 rw [key,Option.bind_some,if_pos (by simp)]
 rfl
theorem zBR {st:List zaa} {ops:List DOp} (hl:ops.length≤8) (ho: ∀o∈ops,OkO o) (hg:zbY st=true):zbY (ziI st ops).1=true:=by
 obtain⟨hr,_⟩:=zj5 hg
 obtain⟨_,_,hw⟩:=zvC hl ho hr
 obtain⟨p1,p2,p3,p4⟩:=zuL hr hw
 unfold ziI
 split
 ·rename_i h
  show zbY (zfh st (zlA st ops).1)=true
  rw [zmV p1 p3 p4]
  have:=h.2
  simp;omega
 ·exact hg
end Go.Proofs.YtgobcjbjogkpjaaGreatDoor
end
section
namespace Go.Proofs.YtgobcjbjogkpjaaGreatDoor
open Go.RowKit
set_option maxRecDepth 100000
theorem zlM {c:UInt8}: ∀{p q:Str},(∀b∈p,b≠c)→za8 c (p++ [c]++q)=p::za8 c q:=fun{p q} h=>by
 rw [List.append_assoc];exact zh3 h
theorem zqV {b:UInt8} (h:zfy b=true):b≠47∧b≠44∧b≠46:=by
 refine⟨?_, ?_, ?_⟩<;>(rintro rfl;revert h;decide)
theorem zCK {t:zab} {n:Str} (hg:zag t=true) (hn:za5 n 1=true): ∀b∈head t n,b≠47:=by
 intro b hb
 unfold head at hb
 simp only [List.mem_append,List.mem_singleton]at hb
 rcases hb with(hb|hb)|hb
 ·exact(zqV (zhk (zgQ hg) b hb)).1
 ·subst hb;decide
 ·exact(zqV (zhk hn b hb)).1
theorem zkh {t:zab} {n:Str} {c:Int} {r:zcm} (hg:zag t=true) (hn:za5 n 1=true) (h:zaq t r=true):za8 47 (zej t n c r)= [head t n,zfc r c,zfc r 0]:=by
 unfold zej
 rw [show head t n++ [47]++zfc r c++ [47]++zfc r 0=head t n++ [47]++(zfc r c++ [47]++zfc r 0) by simp,zlM (zCK hg hn),zlM fun b hb=>(zqV (zn9 h c b hb)).1,zek fun b hb=>(zqV (zn9 h 0 b hb)).1]
theorem zfe (t:zab) (r:zcm):(zeW t r).fKey=t.fName++ [47]++zfc r 0:=by
 unfold zeW zfc
 rw [List.head?_eq_getElem?]
 rfl
theorem zuA {t:zab} {r:zcm} (hg:zag t=true) (h:zaq t r=true):za8 47 (zeW t r).fKey= [t.fName,zfc r 0]:=by
 rw [zfe,zlM fun b hb=>(zqV (zhk (zgQ hg) b hb)).1,zek fun b hb=>(zqV (zn9 h 0 b hb)).1]
theorem zyh {t:zab} {n:Str} {r:zcm} (hg:zag t=true) (h:zaq t r=true):zca t n (zeW t r).fKey=false:=by
 unfold zca
 rw [zuA hg h]
theorem zuZ {t:zab} {r:zcm} {c:Int} (h:zaq t r=true) (h0:0≤c) (h1:c≤(t.fCols.length:Int)-1):field (zfc r c)=true:=by
 unfold zaq at h
 simp only [Bool.and_eq_true,beq_iff_eq]at h
 have hl:c.toNat<r.fVals.length:=by have:=h.1;omega
 unfold zfc
 rw [List.getElem?_eq_getElem hl]
 exact List.all_eq_true.1 h.2 _ (List.getElem_mem hl)
theorem znt {t:zab} {n m:Str} {c:Int} {r:zcm} (hg:zag t=true) (hm:za5 m 1=true) (h:zaq t r=true) (h0:0≤c) (h1:c≤(t.fCols.length:Int)-1):zca t n (zej t m c r)=decide (m=n):=by
 have hc:=zfV hg
 unfold zca
 rw [zkh hg hm h]
 simp only [zuZ h h0 h1,zuZ h (show(0:Int)≤0 by omega) (by omega),Bool.and_true]
 rw [Bool.eq_iff_iff]
 simp only [beq_iff_eq,decide_eq_true_eq]
 unfold head
 constructor
 ·intro e;exact List.append_cancel_left e
 ·rintro rfl;rfl
theorem zwf {t:zab} {n:Str} {c:Int} {r r':zcm} (hg:zag t=true) (hn:za5 n 1=true) (h:zaq t r=true) (h':zaq t r'=true) (e:zej t n c r=zej t n c r'):zfc r 0=zfc r' 0:=by
 have h1:=zkh (c:=c) hg hn h
 rw [e,zkh hg hn h']at h1
 simp only [List.cons.injEq,and_true]at h1
 exact h1.2.2.symm
theorem zko {t:zab} {n:Str} {c:Int} {r r':zcm} (hg:zag t=true) (hn:za5 n 1=true) (h:zaq t r=true) (h':zaq t r'=true):(zeW t r).fKey≠zej t n c r':=by
 intro e
 have h1:=zuA hg h
 rw [e,zkh hg hn h']at h1
 simp at h1
theorem zxD {xs:List Str} (hx:xs≠ []) (h: ∀x∈xs,∀b∈x,b≠44):za8 44 (Lib.join xs [44])=xs:=by
 induction xs with
 |nil=>exact absurd rfl hx
 |cons x r ih=>
  cases r with
  |nil=>rw [Lib.join_one,zek (h x (by simp))]
  |cons y r=>
   have e:Lib.join (x::y::r) [44]=x++ [44]++Lib.join (y::r) [44]:=by
    rw [Lib.join_cons,Lib.join_cons]
    simp [Lib.joinTail]
   rw [e,zlM (h x (by simp)),ih (by simp) fun z hz=>h z (by simp [hz])]
theorem znp {t:zab} {r:zcm} (hg:zag t=true) (h:zaq t r=true):zeY (zeW t r)=r:=by
 have hc:=zfV hg
 have hn:=zhw (zgQ hg)
 have hl:=h
 unfold zaq at hl
 simp only [Bool.and_eq_true,beq_iff_eq]at hl
 have hf:=zor h
 obtain⟨vs⟩:=r
 cases vs with
 |nil=>simp at hl;omega
 |cons v vs=>
  have hne:vs≠ []:=by rintro rfl;simp at hl;omega
  unfold zeY zeW
  simp only [List.head?_cons,Option.getD_some,List.tail_cons]
  rw [zxD hne fun x hx b hb=>(zqV (hf x (by simp [hx]) b hb)).2.1]
  congr 1
  congr 1
  have:(t.fName++ [47]++v).drop 2=v:=by
   rw [List.drop_append_of_le_length (by simp [hn])]
   rw [List.drop_of_length_le (by simp [hn])]
   rfl
  exact this
theorem zAk {t:zab} {r:zcm} (hg:zag t=true) (h:zaq t r=true):zbv t (zeW t r)=true:=by
 unfold zbv
 rw [znp hg h,h]
 unfold zpU
 simp
theorem zjp {t:zab} {w:zaa} (h:zbv t w=true):zaq t (zeY w)=true∧w=zeW t (zeY w):=by
 unfold zbv zpU at h
 simp only [Bool.and_eq_true,beq_iff_eq]at h
 obtain⟨h1,h2,h3,h4⟩:=h
 refine⟨h1, ?_⟩
 cases w
 cases hq:zeW t (zeY _)
 rename_i a b c d e f
 rw [hq]at h2 h3 h4
 simp only at h2 h3 h4
 rw [h2,h3,h4]
def znL (t:zab) (a:zan):List zaa:=
 if a.fKind=1 then [⟨(zeW t a.fNew).fKey,(zeW t a.fNew).fVal,false⟩]else
 if a.fKind=2 then [⟨(zeW t a.fOld).fKey, [],true⟩]else [⟨(zeW t a.fOld).fKey,(zeW t a.fNew).fVal,false⟩]
def zmA (t:zab) (a:zan) (x:za7):List zaa:=
 (if zrh t a x≠ []∧zrh t a x≠zo9 t a x∧x.fStage≥1 then [⟨zrh t a x, [],true⟩]else [])++(if zo9 t a x≠ []∧x.fStage≥2 then [⟨zo9 t a x, [],false⟩]else [])
def zie (t:zab) (a:zan):List zaa:=znL t a++t.fIdxs.flatMap (zmA t a)
def zub (t:zab) (a:zan) (st st':List zaa):Prop:=
 ∀y,y∈st'↔y.fGone=false∧(y∈zie t a∨y∈st∧ ∀w∈zie t a,w.fKey≠y.fKey)
def zBT (t:zab) (a:zan) (st:List zaa):Prop:=
 (a.fKind=1→ ∀w∈st,w.fKey≠(zeW t a.fNew).fKey)∧(a.fKind≠1→zeW t a.fOld∈st)
end Go.Proofs.YtgobcjbjogkpjaaGreatDoor
end
section
namespace Go.Proofs.YtgobcjbjogkpjaaGreatDoor
open Go.RowKit
set_option maxRecDepth 100000
theorem zxK {c:zad} {k:Int} (l:List Str) (hl:l≠ []) (h:okC c k) (hk:k≤4611686018427387000):zbj (za2 c l) fun p=>p.1∈l∧okC p.2 (k+2):=by
 unfold za2
 have hpos:0<l.length:=List.length_pos_iff.2 hl
 refine(zcH l.length h hk).bind fun p ⟨hp,hc⟩=> ?_
 exact zbj.bind (P:=fun y=>y∈l) (.getI hp.1 (hp.2.1 (by omega)) fun x hx=>hx) fun y hy=> .ret ⟨hy,hc⟩
def nmI:List Str:= [[105], [106], [109]]
structure zEs (w:Int) (x:za7):Prop where
 c1:1≤x.fCol
 c2:x.fCol≤w
 s0:0≤x.fStage
 s3:x.fStage≤3
structure TI (w:Int) (q:Nat) (l:List za7):Prop where
 x: ∀x∈l,zEs w x
 nm: ∀x∈l,x.fName∈nmI.take q
 up:l.Pairwise fun a b=>Op.bytesLess a.fName b.fName=true
 len:l.length≤q
theorem zDL: ∀{q:Nat},q<3→ ∀a∈nmI.take q,Op.bytesLess a ((nmI[q]?).getD [])=true:=by
 intro q hq
 have:q=0∨q=1∨q=2:=by omega
 rcases this with rfl|rfl|rfl<;>decide
theorem zyB {q:Nat} {a:Str} (h:a∈nmI.take q):a∈nmI.take (q+1):=by
 rw [List.take_add_one]
 exact List.mem_append.2 (.inl h)
theorem TI.add {w:Int} {q:Nat} {l:List za7} {x:za7} (h:TI w q l) (hq:q<3) (hx:zEs w x) (hn:x.fName=(nmI[q]?).getD []):TI w (q+1) (l++ [x]):=by
 refine⟨fun y hy=> ?_,fun y hy=> ?_, ?_, ?_⟩
 ·rcases List.mem_append.1 hy with hy|hy
  ·exact h.x y hy
  ·rw [List.mem_singleton.1 hy];exact hx
 ·rcases List.mem_append.1 hy with hy|hy
  ·exact zyB (h.nm y hy)
  ·rw [List.mem_singleton.1 hy,hn,List.take_add_one]
   refine List.mem_append.2 (.inr ?_)
   have:q<nmI.length:=hq
   rw [List.getElem?_eq_getElem this];simp
 ·refine List.pairwise_append.2 ⟨h.up,List.pairwise_singleton _ _,fun a ha b hb=> ?_⟩
  rw [List.mem_singleton.1 hb,hn]
  exact zDL hq _ (h.nm a ha)
 ·have:=h.len
  rw [List.length_append,List.length_singleton];omega
theorem TI.more {w:Int} {q:Nat} {l:List za7} (h:TI w q l):TI w (q+1) l:=⟨h.x,fun y hy=>zyB (h.nm y hy),h.up,by have:=h.len;omega⟩
theorem zxA {nm:Str} {cs:List Str} {l:List za7} (hn:nm∈([[116], [117]]:List Str)) (hc:zmu cs=true) (h2:2≤cs.length) (h4:cs.length≤4) (h:TI ((cs.length:Int)-1) 3 l):zag ⟨nm,cs,l⟩=true:=by
 unfold zag
 have e1:za5 nm 1=true:=by
  simp only [List.mem_cons,List.not_mem_nil,or_false]at hn
  rcases hn with rfl|rfl<;>decide
 have hl:=h.len
 simp only [e1,hc,Bool.true_and,Bool.and_eq_true,decide_eq_true_eq]
 refine⟨⟨zaE.2 ⟨by omega,by omega⟩,by omega⟩,List.all_eq_true.2 fun i hi=> ?_⟩
 have hi:=List.mem_range.1 hi
 unfold zmF
 have ex:(l[i]?).getD ⟨[],0,0⟩=l[i]:=by rw [List.getElem?_eq_getElem hi];rfl
 dsimp only
 rw [ex]
 have hm:=List.getElem_mem hi
 have hx:=h.x _ hm
 have hname:za5 l[i].fName 1=true:=by
  have:=h.nm _ hm
  have e:nmI.take 3=nmI:=rfl
  rw [e]at this
  unfold nmI at this
  simp only [List.mem_cons,List.not_mem_nil,or_false]at this
  rcases this with e|e|e<;>rw [e]<;>decide
 rw [hname,zaE.2 ⟨hx.c1,hx.c2⟩,zaE.2 ⟨hx.s0,hx.s3⟩]
 simp only [Bool.true_and,Bool.or_eq_true,beq_iff_eq]
 by_cases h0:i=0
 ·exact .inl h0
 ·refine .inr ?_
  have hp:i-1<l.length:=by omega
  have ep:(l[i-1]?).getD ⟨[],0,0⟩=l[i-1]:=by rw [List.getElem?_eq_getElem hp];rfl
  rw [ep]
  exact(List.pairwise_iff_getElem.1 h.up) (i-1) i hp hi (by omega)
def zxO:List Str:= [[107], [97], [98], [99,99]]
theorem znG {p:Int} (h0:0≤p) (h3:p<3):zmu (ze8 zxO 0 (IntKind.i64.wrap (2+p)))=true∧(((ze8 zxO 0 (IntKind.i64.wrap (2+p))).length:Nat):Int)=2+p:=by
 rw [zaH (by omega) (by omega)]
 have:p=0∨p=1∨p=2:=by omega
 rcases this with rfl|rfl|rfl<;>exact⟨by decide,by decide⟩
theorem zmU {v2:Int × zad} {q:Nat} {l:List za7} {y:Str} {a:List Int} {b e k:Int} {t:Bool} (h0:0≤v2.1) (h3:v2.1<3) (hq:q<3) (hy:y=(nmI[q]?).getD []) (hl:TI (1+v2.1) q l) (hc:okC ⟨a,b,e⟩ k) (hk:k≤4611686018427380000):
  zbj (zaJ v2 q l y a b e t) fun o=> ∃(c:zad) (l':List za7),o= .inl (((q+1:Nat):Int),c.fcode,c.fat,c.fseed,l')∧TI (1+v2.1) (q+1) l'∧okC c (k+4):=by
 unfold zaJ
 have hw:=(znG h0 h3).2
 unfold zxO at hw
 have w1:IntKind.i64.wrap ((q:Int)+1)=((q+1:Nat):Int):=by rw [zaH (by omega) (by omega)];omega
 refine .ite (fun _=> ?_) fun _=> .ret ⟨⟨a,b,e⟩,l,by rw [w1],hl.more,hc.up (by omega)⟩
 rw [hw,zaH (n:=2+v2.1-1) (by omega) (by omega)]
 refine(zcH _ hc (by omega)).bind fun p ⟨hp,hc1⟩=>(zcH 4 hc1 (by omega)).bind fun r ⟨hr,hc2⟩=> ?_
 have p2:=hp.2.1 (by omega)
 have r2:=hr.2.1 (by omega)
 have hlen:=hl.len
 refine .req (by simp;omega) (.ret ⟨r.2,_,by rw [w1],hl.add hq ⟨?_, ?_,hr.1,by dsimp only;omega⟩ hy,hc2.up (by omega)⟩)
 ·dsimp only;rw [zaH (by omega) (by omega)];omega
 ·dsimp only;rw [zaH (by omega) (by omega)];omega
theorem zno {c:zad} {k:Int} (h:okC c k) (hk:k≤4611686018427370000):zbj (zax c) fun p=>zag p.1=true∧okC p.2 (k+40):=by
 unfold zax
 refine(zxK _ (by simp) h (by omega)).bind fun n ⟨hn,hc⟩=>(zcH 3 hc (by omega)).bind fun p ⟨hp,hd⟩=> ?_
 have p2:=hp.2.1 (by omega)
 obtain⟨hw1,hw2⟩:=znG hp.1 p2
 unfold zxO at hw1 hw2
 have w1:IntKind.i64.wrap (2+p.1)=2+p.1:=zaH (by omega) (by omega)
 refine .req ⟨by omega,by rw [w1];omega,by rw [w1];simp;omega⟩ (.req (by rw [hw2];simp;omega) ?_)
 refine zft (fun m s=> ∃q:Nat,s.1=(q:Int)∧q+m=3∧TI (1+p.1) q s.2.2.2.2∧okC ⟨s.2.1,s.2.2.1,s.2.2.2.1⟩ (k+4+8*q)) (fun m s hI=> ?_) (n:=3) ⟨0,rfl,rfl,⟨by simp,by simp, .nil,by simp⟩,by simpa using hd.up (by omega)⟩
 obtain⟨q,e1,e2,hT,ho⟩:=hI
 obtain⟨s1,a,b,e,l⟩:=s
 dsimp only at e1 hT ho ⊢
 subst e1
 unfold zdY
 have ec:(([([105]:List UInt8),([106]:List UInt8),([109]:List UInt8)]:List (List UInt8)).length:Int)=3:=rfl
 rw [ec]
 refine .ite (fun hlt=> ?_) fun hge=> ?_
 ·simp only [decide_eq_true_eq]at hlt
  have hq:q<3:=by omega
  have eg:getI [([105]:List UInt8),([106]:List UInt8),([109]:List UInt8)] (q:Int)=some ((nmI[q]?).getD []):=by
   have:q=0∨q=1∨q=2:=by omega
   rcases this with rfl|rfl|rfl<;>rfl
  rw [eg,Option.bind_some]
  refine(zk0 3 ho (by omega)).bind fun x hx=> .ite (fun _=> ?_) fun _=> .ite (fun _=> ?_) fun _=> ?_
  ·exact(zmU hp.1 p2 hq rfl hT hx (by omega)).mono fun o ho=>by
    obtain⟨c',l',rfl,ht,hc'⟩:=ho
    exact⟨m-1,by omega,q+1,rfl,by omega,ht,hc'.up (by omega)⟩
  ·refine(zk0 8 hx (by omega)).bind fun z hz=> ?_
   exact(zmU hp.1 p2 hq rfl hT hz (by omega)).mono fun o ho=>by
    obtain⟨c',l',rfl,ht,hc'⟩:=ho
    exact⟨m-1,by omega,q+1,rfl,by omega,ht,hc'.up (by omega)⟩
  ·exact(zmU hp.1 p2 hq rfl hT hx (by omega)).mono fun o ho=>by
    obtain⟨c',l',rfl,ht,hc'⟩:=ho
    exact⟨m-1,by omega,q+1,rfl,by omega,ht,hc'.up (by omega)⟩
 ·simp only [decide_eq_false_iff_not]at hge
  have:q=3:=by omega
  subst this
  refine .ret (.ret ⟨zxA hn hw1 (by omega) (by omega) ?_,ho.up (by omega)⟩)
  rw [hw2,show 2+p.1-1=1+p.1 by omega]
  exact hT
theorem zc9 {t:zab} (h:zag t=true):zcY t:=by
 have hn:=(zge (zgQ h)).1
 have h0:=h
 unfold zag at h
 simp only [Bool.and_eq_true,decide_eq_true_eq]at h
 have hl:=zaE.1 h.1.1.2.2
 have hc:=h.1.1.2.1
 refine⟨by omega,by omega,fun c hm=> ?_,by omega,fun x hx=> ?_⟩
 ·obtain⟨i,hi,rfl⟩:=List.mem_iff_getElem.1 hm
  unfold zmu at hc
  have:=List.all_eq_true.1 hc i (List.mem_range.2 hi)
  unfold ztZ at this
  rw [List.getElem?_eq_getElem hi]at this
  simp only [Option.getD_some,Bool.and_eq_true]at this
  have:=(zge this.1).1
  omega
 ·have:=(zge (zdl h0 hx).1).1
  omega
theorem zuk {c:zad} {k:Int} {t:zab} (hg:zag t=true) (h:okC c k) (hk:k≤4611686018427380000):zbj (zbm c t) fun p=>zaq t p.1=true∧okC p.2 (k+20):=by
 have hc2:=zfV hg
 have h4:t.fCols.length≤4:=by
  have:=hg
  unfold zag at this
  simp only [Bool.and_eq_true,decide_eq_true_eq]at this
  have:=zaE.1 this.1.1.2.2
  omega
 unfold zbm
 refine(zxK _ (by simp) h (by omega)).bind fun n ⟨hn,hc⟩=> ?_
 have hf0:field n.1=true:=by
  simp only [List.mem_cons,List.not_mem_nil,or_false]at hn
  rcases hn with e|e|e|e|e|e<;>rw [e]<;>decide
 refine zft (fun m s=>s.2.2.2.length+m=t.fCols.length∧(∀x∈s.2.2.2,field x=true)∧okC ⟨s.1,s.2.1,s.2.2.1⟩ (k+2+4*s.2.2.2.length)) (fun m s hI=> ?_) (n:=t.fCols.length-1) ⟨by simp;omega,by simpa using hf0,hc.up (by simp;omega)⟩
 obtain⟨a,b,e,l⟩:=s
 obtain⟨i1,i2,i3⟩:=hI
 dsimp only at i1 i2 i3 ⊢
 unfold zhi
 refine .ite (fun hlt=> ?_) fun hge=> ?_
 ·simp only [decide_eq_true_eq]at hlt
  refine(zxK _ (by simp) i3 (by omega)).bind fun x ⟨hx,hd⟩=> .req (by simp;omega) (.ret ⟨m-1,by omega,by simp;omega,fun z hz=> ?_, ?_⟩)
  ·dsimp only at hz
   rcases List.mem_append.1 hz with hz|hz
   ·exact i2 z hz
   ·rw [List.mem_singleton.1 hz]
    simp only [List.mem_cons,List.not_mem_nil,or_false]at hx
    rcases hx with e|e|e|e|e<;>rw [e]<;>decide
  ·refine hd.up ?_
   dsimp only
   rw [List.length_append,List.length_singleton];omega
 ·simp only [decide_eq_false_iff_not]at hge
  refine .ret (.ret ⟨?_,i3.up (by omega)⟩)
  unfold zaq
  rw [Bool.and_eq_true,beq_iff_eq]
  exact⟨by dsimp only;omega,List.all_eq_true.2 i2⟩
structure zmn (l:List Str):Prop where
 len:l.length≤10
 each: ∀s∈l,s.length≤10
theorem zmn.small {l:List Str} (h:zmn l):Small l:=⟨by have:=h.len;omega,by
 have h1:=zp8 h.each
 have h2:=h.len
 have h3:10*l.length≤100:=by omega
 omega⟩
theorem zgl {t:zab} {r:zcm} (hg:zag t=true) (h:zaq t r=true):zmn r.fVals∧2≤r.fVals.length:=by
 have hc2:=zfV hg
 have h4:t.fCols.length≤4:=by
  have:=hg
  unfold zag at this
  simp only [Bool.and_eq_true,decide_eq_true_eq]at this
  have:=zaE.1 this.1.1.2.2
  omega
 unfold zaq at h
 rw [Bool.and_eq_true,beq_iff_eq]at h
 exact⟨⟨by omega,fun s hs=>by have:=zq7 (List.all_eq_true.1 h.2 s hs);omega⟩,by omega⟩
theorem zmn.set {l:List Str} {i:Nat} {s:Str} (h:zmn l) (hs:s.length≤10):zmn (l.set i s):=⟨by rw [List.length_set];exact h.len,fun x hx=>by
 rcases List.mem_or_eq_of_mem_set hx with hx|rfl
 ·exact h.each x hx
 ·exact hs⟩
end Go.Proofs.YtgobcjbjogkpjaaGreatDoor
end
section
namespace Go.Proofs.YtgobcjbjogkpjaaGreatDoor
open Go.RowKit
set_option maxRecDepth 100000
theorem znF {k v:Str} (h1:zch k=true) (h2:zfG v=true):zgd ⟨k,v,false⟩=true:=by
 unfold zgd zjt
 rw [h1,h2];rfl
theorem zl3 {w:zaa} (h:zgd w=true):zlD w:=⟨by have:=zuT h;omega,by have:=znu h;omega⟩
theorem zjj.mono {n m:Nat} {l:List zaa} (h:zjj n l) (hm:n≤m):zjj m l:=⟨h.rise,by have:=h.len;omega,h.good⟩
theorem zEp {c:zad} {k:Int} (h:okC c k) (hk:k≤4611686018427387000):zbj (zeu c) fun p=>zch p.1=true∧okC p.2 (k+2):=by
 unfold zeu
 refine(zxK _ (by simp) h (by omega)).bind fun p ⟨hp,hc⟩=> .ret ⟨?_,hc⟩
 simp only [List.mem_cons,List.not_mem_nil,or_false]at hp
 dsimp only
 rcases hp with e|e|e|e|e|e|e|e<;>rw [e]<;>decide
theorem zEB {c:zad} {k:Int} (h:okC c k) (hk:k≤4611686018427387000):zbj (zew c) fun p=>zfG p.1=true∧okC p.2 (k+2):=by
 unfold zew
 refine(zxK _ (by simp) h (by omega)).bind fun p ⟨hp,hc⟩=> .ret ⟨?_,hc⟩
 simp only [List.mem_cons,List.not_mem_nil,or_false]at hp
 dsimp only
 rcases hp with e|e|e|e|e|e|e<;>rw [e]<;>decide
theorem zx6 {t:zab} {r:zcm} (hg:zag t=true) (h:zaq t r=true):zrS t r:=⟨by
 have h1:=h
 unfold zaq at h1
 rw [Bool.and_eq_true,beq_iff_eq]at h1
 omega,(zgl hg h).1.small⟩
theorem zov {t:zab} {l:List zaa} {r:zcm} (h:r∈rows t l):zaq t r=true:=by
 unfold rows at h
 obtain⟨w,hw,rfl⟩:=List.mem_map.1 h
 exact(zjp (List.mem_filter.1 hw).2).1
theorem zpO {t:zab} {x:za7} {r:zcm} (hg:zag t=true) (hx:x∈t.fIdxs) (hr:zaq t r=true):zb9 t x r=some (zej t x.fName x.fCol r)∧zgd ⟨zej t x.fName x.fCol r, [],false⟩=true:=by
 have hS:=zc9 hg
 exact⟨zpz hS.name (hS.idx x hx) (zpu hg hx) (zx6 hg hr),znF (zl4 hg (zdl hg hx).1 hr) (by decide)⟩
def zwH (t:zab) (l:List zaa):Nat:=(l.filter (zbv t)).length
theorem zsH {t:zab} {w:zaa}: ∀l:List zaa,zwH t (zha wk w l)≤zwH t l+(if zbv t w=true then 1 else 0)
 | []=>by
  unfold zwH
  rw [zha,List.filter_cons]
  split<;>simp
 |z::l=>by
  have ih:=zsH (t:=t) (w:=w) l
  unfold zwH at ih ⊢
  rw [zha]
  split
  ·rw [List.filter_cons]
   split<;>simp
  ·split
   ·rw [List.filter_cons,List.filter_cons]
    split<;>split<;>(try simp only [List.length_cons])<;>omega
   ·rw [List.filter_cons,List.filter_cons]
    split<;>(try simp only [List.length_cons])<;>omega
theorem zrY {t:zab} {x:za7} {r:zcm} (hg:zag t=true) (hx:x∈t.fIdxs) (hr:zaq t r=true) (l:List zaa):zwH t (zha wk ⟨zej t x.fName x.fCol r, [],false⟩ l)≤zwH t l:=by
 have h:=zsH (t:=t) (w:=⟨zej t x.fName x.fCol r, [],false⟩) l
 rw [if_neg (fun hrow=> ?_)]at h
 ·omega
 ·obtain⟨h1,h2⟩:=zjp hrow
  exact zko hg (zdl hg hx).1 h1 hr (congrArg zaa.fKey h2).symm
theorem zwj {t:zab} {c:zad} {k:Int} {n m:Nat} {l:List zaa} (hl:zjj n l) (hm:zwH t l≤m) (hn:n≤1000) (h:okC c k) (hk:k≤4611686018427380000):zbj (zee c.fcode c.fat c.fseed l) fun p=>(zjj (n+1) p.1∧zwH t p.1≤m+1)∧okC p.2 (k+6):=by
 unfold zee
 have hlen:=hl.len
 refine(zk0 6 (c:=⟨c.fcode,c.fat,c.fseed⟩) h (by omega)).bind fun p hp=> .ite (fun _=> ?_) fun _=> .ret ⟨⟨hl.mono (by omega),by dsimp only;omega⟩,hp.up (by omega)⟩
 refine(zEp hp (by omega)).bind fun q ⟨hq,hc⟩=>(zEB hc (by omega)).bind fun r ⟨hr,hd⟩=> ?_
 rw [zkT (by omega) hl.rise,Option.bind_some]
 refine .ret ⟨⟨zev hl (znF hq hr), ?_⟩,hd.up (by omega)⟩
 have:=zsH (t:=t) (w:=⟨q.1,r.1,false⟩) l
 split at this<;>(dsimp only;omega)
theorem zvT {t:zab} {q:Nat} {x:za7} {c:zad} {k:Int} {n m:Nat} {l:List zaa} (hg:zag t=true) (hx:x∈t.fIdxs) (hq:q≤3) (hl:zjj n l) (hm:zwH t l≤m) (hn:n≤1000) (h:okC c k) (hk:k≤4611686018427370000):
  zbj (zeh t q x c.fcode c.fat c.fseed l) fun o=> ∃(c':zad) (l':List zaa),o= .inl (((q+1:Nat):Int),c'.fcode,c'.fat,c'.fseed,l')∧zjj (n+1) l'∧zwH t l'≤m∧okC c' (k+30):=by
 unfold zeh
 have hlen:=hl.len
 have w1:IntKind.i64.wrap ((q:Int)+1)=((q+1:Nat):Int):=by rw [zaH (by omega) (by omega)];omega
 refine(zk0 5 (c:=⟨c.fcode,c.fat,c.fseed⟩) h (by omega)).bind fun p hp=> .ite (fun _=> ?_) fun _=> .ret ⟨p.2,l,by rw [w1],hl.mono (by omega),hm,hp.up (by omega)⟩
 refine(zuk hg hp (by omega)).bind fun r ⟨hr,hc⟩=> ?_
 obtain⟨e1,e2⟩:=zpO hg hx hr
 rw [e1,Option.bind_some,zkT (by omega) hl.rise,Option.bind_some]
 exact .ret ⟨r.2,_,by rw [w1],zev hl e2,Nat.le_trans (zrY hg hx hr l) hm,hc.up (by omega)⟩
def zEF:Nat→Nat
 |0=>4
 |1=>9
 |2=>19
 |_=>39
theorem zDm (q:Nat):zEF q≤39:=by
 match q with
 |0=>decide
 |1=>decide
 |2=>decide
 |q+3=>exact Nat.le_refl 39
theorem zyU {q:Nat} (h:q<3):2*zEF q+1≤zEF (q+1):=by
 have:q=0∨q=1∨q=2:=by omega
 rcases this with rfl|rfl|rfl<;>decide
theorem zx7 {t:zab} (h:zag t=true):t.fIdxs.length≤3:=by
 unfold zag at h
 simp only [Bool.and_eq_true,decide_eq_true_eq]at h
 omega
theorem zvM {t:zab} {c:zad} {k:Int} {l:List zaa} (hg:zag t=true) (hl:zjj 4 l) (h:okC c k) (hk:k≤4611686018427360000):zbj (zd1 t c.fcode c.fat c.fseed l) fun p=>(zjj 40 p.1∧zwH t p.1≤5)∧okC p.2 (k+700):=by
 unfold zd1
 have hS:=zc9 hg
 have h3:=zx7 hg
 refine zft (fun m s=> ∃q:Nat,s.1=(q:Int)∧q+m=t.fIdxs.length∧zjj (zEF q) s.2.2.2.2∧zwH t s.2.2.2.2≤4∧okC ⟨s.2.1,s.2.2.1,s.2.2.2.1⟩ (k+200*q)) (fun m s hI=> ?_) (n:=t.fIdxs.length) (by exact⟨0,rfl,by omega,hl,Nat.le_trans (List.length_filter_le _ _) hl.len,by simpa using h⟩)
 obtain⟨q,e1,e2,hT,hm,ho⟩:=hI
 obtain⟨s1,a,b,e,l⟩:=s
 dsimp only at e1 hT hm ho ⊢
 subst e1
 have hb:=zDm q
 have hlen:=hT.len
 unfold zgm
 refine .ite (fun hlt=> ?_) fun hge=> ?_
 ·simp only [decide_eq_true_eq]at hlt
  have hq:q<t.fIdxs.length:=by omega
  have hst:=zyU (q:=q) (by omega)
  rw [zae hq,Option.bind_some,zpB hS.name (by omega) (fun w hw=>zl3 (hT.good w hw)),Option.bind_some]
  have hx:=List.getElem_mem hq
  have hR:=rows_len t l
  generalize hrs:rows t l=R at hR
  have hRg: ∀r∈R,zaq t r=true:=fun r hr=>zov (l:=l) (by rw [hrs];exact hr)
  refine zft (fun j s=> ∃i:Nat,s.1=(i:Int)∧i+j=R.length∧zjj (zEF q+i) s.2.2.2.2∧zwH t s.2.2.2.2≤4∧okC ⟨s.2.1,s.2.2.1,s.2.2.2.1⟩ (k+200*q+2*i)) (fun j s hJ=> ?_) (n:=R.length) (by exact⟨0,rfl,by omega,hT,hm,by simpa using ho⟩)
  obtain⟨i,f1,f2,gT,gm,go⟩:=hJ
  obtain⟨s1,a,b,e,l'⟩:=s
  dsimp only at f1 gT gm go ⊢
  subst f1
  have glen:=gT.len
  unfold zgo
  refine .ite (fun hlt2=> ?_) fun hge2=> ?_
  ·simp only [decide_eq_true_eq]at hlt2
   have hi:i<R.length:=by omega
   have w1:IntKind.i64.wrap ((i:Int)+1)=((i+1:Nat):Int):=by rw [zaH (by omega) (by omega)];omega
   obtain⟨n1,n2⟩:=zpO hg hx (hRg _ (List.getElem_mem hi))
   rw [zae hi,Option.bind_some]
   refine(zk0 5 go (by omega)).bind fun p hp=> .ite (fun _=> ?_) fun _=> .ret ⟨j-1,by omega,i+1,w1,by omega,gT.mono (by omega),gm,hp.up (by omega)⟩
   rw [n1,Option.bind_some,zkT (by omega) gT.rise,Option.bind_some]
   exact .ret ⟨j-1,by omega,i+1,w1,by omega,(zev gT n2).mono (by omega),Nat.le_trans (zrY hg hx (hRg _ (List.getElem_mem hi)) _) gm,hp.up (by omega)⟩
  ·simp only [decide_eq_false_iff_not]at hge2
   refine .ret ((zvT (c:=⟨a,b,e⟩) hg hx (by omega) gT gm (by omega) go (by omega)).mono fun o ho2=> ?_)
   obtain⟨c',l2,rfl,z1,zm,z2⟩:=ho2
   exact⟨m-1,by omega,q+1,rfl,by omega,z1.mono (by omega),zm,z2.up (by omega)⟩
 ·refine .ret ((zwj (t:=t) (c:=⟨a,b,e⟩) hT hm (by omega) ho (by omega)).mono fun p hp=>⟨⟨hp.1.1.mono (by omega),hp.1.2⟩,hp.2.up (by omega)⟩)
theorem zA4 {t:zab} {c:zad} {k:Int} (hg:zag t=true) (h:okC c k) (hk:k≤4611686018427350000):zbj (zdE c t) fun p=>(zjj 40 p.1∧zwH t p.1≤5)∧okC p.2 (k+900):=by
 unfold zdE
 have hS:=zc9 hg
 refine(zcH 5 h (by omega)).bind fun p ⟨hp,hc⟩=> ?_
 have p2:=hp.2.1 (by omega)
 obtain⟨m,hm⟩:=Int.eq_ofNat_of_zero_le hp.1
 have hm4:m≤4:=by omega
 refine zft (fun j s=>j≤4∧s.2.1=(j:Int)∧zjj (4-j) s.1∧okC ⟨s.2.2.1,s.2.2.2.1,s.2.2.2.2⟩ (k+2+30*(4-j))) (fun j s hI=> ?_) (n:=m) (by exact⟨hm4,hm,⟨.nil,by simp,by simp⟩,hc.up (by omega)⟩)
 obtain⟨l,s1,a,b,e⟩:=s
 obtain⟨i0,i1,i2,i3⟩:=hI
 dsimp only at i1 i2 i3 ⊢
 subst i1
 have hlen:=i2.len
 unfold zgq
 refine .ite (fun hlt=> ?_) fun hge=> ?_
 ·simp only [decide_eq_true_eq,gt_iff_lt]at hlt
  refine(zuk hg i3 (by omega)).bind fun r ⟨hr,hd⟩=> ?_
  obtain⟨hs,h2⟩:=zgl hg hr
  have hne:r.1.fVals≠ []:=fun e=>by rw [e]at h2;simp at h2
  have hw:=zk9 hg hr
  rw [zoz hS.name hs.small hne,Option.bind_some,zkT (by omega) i2.rise,Option.bind_some]
  refine .ret ⟨j-1,by omega,by omega, ?_,(zev i2 (w:=zeW t r.1) (znF hw.1 hw.2)).mono (by omega),hd.up (by omega)⟩
  dsimp only
  rw [zaH (by omega) (by omega)];omega
 ·simp only [decide_eq_false_iff_not,gt_iff_lt]at hge
  exact .ret ((zvM (c:=⟨a,b,e⟩) hg (i2.mono (by omega)) i3 (by omega)).mono fun p hp=>⟨hp.1,hp.2.up (by omega)⟩)
structure zuS (l:List zaa):Prop where
 len:l.length≤100
 each: ∀w∈l,zlD w
theorem zuS.small {l:List zaa} (h:zuS l):zmk l:=⟨by have:=h.len;omega,fun w hw=>by
 have:=h.each w hw
 unfold zlD at this
 omega⟩
theorem znc {w y:zaa}: ∀{l:List zaa},y∈zha wk w l→y=w∨y∈l
 | [],h=> .inl (by simpa [zha]using h)
 |z::l,h=>by
  rw [zha]at h
  split at h
  ·rcases List.mem_cons.1 h with h|h
   ·exact .inl h
   ·exact .inr h
  ·split at h
   ·rcases List.mem_cons.1 h with h|h
    ·exact .inl h
    ·exact .inr (by simp [h])
   ·rcases List.mem_cons.1 h with h|h
    ·exact .inr (by simp [h])
    ·rcases znc h with h|h
     ·exact .inl h
     ·exact .inr (by simp [h])
theorem zqA (w:zaa): ∀(l:List zaa),(zha wk w l).length≤l.length+1
 | []=>by simp [zha]
 |z::l=>by
  rw [zha]
  split
  ·simp
  ·split
   ·simp
   ·have:=zqA w l
    simp only [List.length_cons];omega
theorem zuS.put {l:List zaa} {w:zaa} (h:zuS l) (hl:l.length≤99) (hw:zlD w):zuS (zha wk w l):=⟨by have:=zqA w l;omega,fun y hy=>by
 rcases znc hy with rfl|hy
 ·exact hw
 ·exact h.each y hy⟩
theorem zjj.tiny {n:Nat} {l:List zaa} (h:zjj n l) (hn:n≤100):zuS l:=⟨by have:=h.len;omega,fun w hw=>zl3 (h.good w hw)⟩
structure zoP (a:zan):Prop where
 old:zmn a.fOld.fVals
 new:zmn a.fNew.fVals
theorem zoP.small {a:zan} (h:zoP a):zi8 a:=⟨h.old.small,h.new.small⟩
theorem zfL:zmn []:=⟨by simp,by simp⟩
theorem zqp {t:zab} {c:zad} {k:Int} {v:List Str} (hg:zag t=true) (hv:zmn v) (hv2:2≤v.length) (h:okC c k) (hk:k≤4611686018427340000):zbj (zdn t c.fcode c.fat c.fseed v) fun p=>zoP p.1∧okC p.2 (k+30):=by
 unfold zdn
 refine(zcH 3 (c:=⟨c.fcode,c.fat,c.fseed⟩) h (by omega)).bind fun p ⟨_,hc⟩=> .ite (fun _=> ?_) fun _=> .ite (fun _=> .ret ⟨⟨hv,zfL⟩,hc.up (by omega)⟩) fun _=> ?_
 ·exact(zuk hg hc (by omega)).bind fun r ⟨hr,hd⟩=> .ret ⟨⟨zfL,(zgl hg hr).1⟩,hd.up (by omega)⟩
 ·refine(zuk hg hc (by omega)).bind fun r ⟨hr,hd⟩=> ?_
  obtain⟨hs,h2⟩:=zgl hg hr
  obtain⟨y,ey,hy,_⟩:=zip (xs:=v) (i:=0) (by omega) (by omega)
  rw [ey,Option.bind_some]
  refine zbj.bind (P:=fun _=>True) (.getI (by omega) (by omega) fun _ _=>trivial) fun _ _=> .ret ⟨⟨hv,hs.set (hv.each y hy)⟩,hd.up (by omega)⟩
theorem zEh {t:zab} {l:List zaa} {c:zad} {k:Int} (hg:zag t=true) (hl:zuS l) (h:okC c k) (hk:k≤4611686018427330000):zbj (zep c t l) fun p=>zoP p.1∧okC p.2 (k+100):=by
 unfold zep
 have hS:=zc9 hg
 have hlen:=hl.len
 rw [zpB hS.name (by omega) hl.each,Option.bind_some]
 have hR:=rows_len t l
 refine(zuk hg h (by omega)).bind fun r ⟨hr,hc⟩=> .ite (fun hpos=> ?_) fun _=> ?_
 ·simp only [decide_eq_true_eq]at hpos
  refine(zk0 4 hc (by omega)).bind fun u hu=> ?_
  unfold zdm
  refine .ite (fun _=> ?_) fun _=> ?_
  ·refine(zcH _ (c:=⟨u.2.fcode,u.2.fat,u.2.fseed⟩) hu (by omega)).bind fun i ⟨hi,hd⟩=> ?_
   obtain⟨y,ey,hy,_⟩:=zip (xs:=rows t l) hi.1 (hi.2.1 (by omega))
   rw [ey,Option.bind_some]
   obtain⟨hs,h2⟩:=zgl hg (zov hy)
   exact(zqp hg hs h2 hd (by omega)).mono fun p hp=>⟨hp.1,hp.2.up (by omega)⟩
  ·obtain⟨hs,h2⟩:=zgl hg hr
   exact(zqp hg hs h2 hu (by omega)).mono fun p hp=>⟨hp.1,hp.2.up (by omega)⟩
 ·unfold zdm
  refine .ite (fun hh=>by cases hh) fun _=> ?_
  obtain⟨hs,h2⟩:=zgl hg hr
  exact(zqp hg hs h2 hc (by omega)).mono fun p hp=>⟨hp.1,hp.2.up (by omega)⟩
end Go.Proofs.YtgobcjbjogkpjaaGreatDoor
end
section
namespace Go.Proofs.YtgobcjbjogkpjaaGreatDoor
set_option maxRecDepth 100000
@[irreducible] def nxG (x:Nat):Nat:=(1442695040888963407+6364136223846793005*x) % 18446744073709551616
def itG:Nat→Nat→Nat
 |0,x=>x
 |n+1,x=>itG n (nxG x)
theorem zwJ (x:Nat):itG 0 x=x:=rfl
theorem ztC (n x:Nat):itG (n+1) x=itG n (nxG x):=rfl
theorem zpJ (m n x:Nat):itG (m+n) x=itG n (itG m x):=by
 induction m generalizing x with
 |zero=>rw [Nat.zero_add,zwJ]
 |succ m ih=>rw [Nat.add_right_comm,ztC,ztC,ih]
theorem zCb (x:Nat):nxG x<18446744073709551616:=by
 unfold nxG
 exact Nat.mod_lt _ (by decide)
def zCW (A C n:Nat):Prop:= ∀x,itG n x=(x*A+C) % 18446744073709551616
theorem ztx {A C A' C' m n:Nat} (h:zCW A C m) (h':zCW A' C' n):zCW (A*A' % 18446744073709551616) ((C*A'+C') % 18446744073709551616) (m+n):=fun x=>by
 rw [zpJ,h x,h' _]
 have e: ∀y:Nat,(y % 18446744073709551616*A'+C') % 18446744073709551616=(y*A'+C') % 18446744073709551616:=fun y=>by
  rw [Nat.add_mod,Nat.mod_mul_mod,←Nat.add_mod]
 rw [e,Nat.add_mul,Nat.mul_assoc,Nat.add_assoc]
 rw [Nat.add_mod (x*(A*A')) _,Nat.add_mod (x*(A*A' % 18446744073709551616)) _,Nat.mod_mod,Nat.mul_mod_mod]
def zFj:Nat→Nat × Nat→Nat × Nat
 |0,p=>p
 |k+1,p=>zFj k (p.1*p.1 % 18446744073709551616,(p.2*p.1+p.2) % 18446744073709551616)
theorem zyD: ∀(k n:Nat) (p:Nat × Nat),zCW p.1 p.2 n→zCW (zFj k p).1 (zFj k p).2 (n*2^k)
 |0,n,p,h=>by rw [Nat.pow_zero,Nat.mul_one];exact h
 |k+1,n,p,h=>by
  have h2:=zyD k (n+n) (p.1*p.1 % 18446744073709551616,(p.2*p.1+p.2) % 18446744073709551616) (ztx h h)
  rw [Nat.pow_succ,show n*(2^k*2)=(n+n)*2^k by rw [Nat.add_mul,Nat.mul_comm (2^k) 2,←Nat.mul_assoc,Nat.mul_comm n 2,Nat.mul_assoc,Nat.two_mul]]
  exact h2
def zEk:Nat:=211106232532992
def byG (x:Nat):Nat:=x/1099511627776 % 256
theorem zCR:zCW 9118381870541701121 9530672342678634496 zEk:=by
 have h1:zCW 6364136223846793005 1442695040888963407 1:=fun x=>by
  rw [ztC,zwJ]
  unfold nxG
  rw [Nat.add_comm,Nat.mul_comm]
 have h3:=ztx (ztx h1 h1) h1
 simp only [Nat.reduceMul,Nat.reduceMod,Nat.reduceAdd]at h3
 have h:=zyD 46 3 (793875393913628917,11166244414315200793) h3
 have e:zFj 46 (793875393913628917,11166244414315200793)=(9118381870541701121,9530672342678634496):=by decide
 rw [e]at h
 exact h
theorem zEj (z:Nat):byG (z % 18446744073709551616)=byG z:=by
 unfold byG
 omega
theorem zE4 (x y:Nat):byG (x+9530672342678634496+281474976710656*y)=(byG x+192) % 256:=by
 unfold byG
 omega
theorem zCq {x:Nat}:byG (itG zEk x)=(byG x+192) % 256:=by
 rw [zCR x,zEj,show x*9118381870541701121+9530672342678634496=x+9530672342678634496+281474976710656*(x*32395) by omega,zE4]
theorem zFX {x:Nat} (h0:byG x % 3=0) (h1:byG (itG zEk x) % 3=0) (h2:byG (itG zEk (itG zEk x)) % 3=0):False:=by
 rw [zCq]at h1 h2
 rw [zCq]at h2
 have:byG x<256:=Nat.mod_lt _ (by decide)
 omega
end Go.Proofs.YtgobcjbjogkpjaaGreatDoor
end
section
namespace Go.Proofs.YtgobcjbjogkpjaaGreatDoor
open Go.RowKit
set_option maxRecDepth 100000
theorem zbj.and {α:Type} {o:Option α} {P Q:α→Prop} (h:zbj o P) (k:zbj o Q):zbj o fun x=>P x∧Q x:=by
 obtain⟨x,rfl,hx⟩:=h
 obtain⟨y,e,hy⟩:=k
 cases e
 exact⟨x,rfl,hx,hy⟩
def sd (c:zad):Prop:=0≤c.fseed∧c.fseed<18446744073709551616
def zvx (c:zad):Prop:=(c.fcode.length:Int)≤c.fat∧sd c
def nx (c:zad):zad:=⟨c.fcode,c.fat+1,(nxG c.fseed.toNat:Nat)⟩
theorem zDn (x:Int):IntKind.u64.wrap x=x % 18446744073709551616:=by
 simp [IntKind.wrap,IntKind.bits,IntKind.signed]
theorem zFu (c:zad):sd (nx c):=by
 have:=zCb c.fseed.toNat
 unfold sd nx
 dsimp only
 omega
theorem zfM {c:zad} (h:zvx c):zvx (nx c):=⟨by have:=h.1;unfold nx;dsimp only;omega,zFu c⟩
theorem zCL (a:Nat) (h:a<18446744073709551616):(BitVec.ofInt (IntKind.bits .u64) (Int.fdiv (a:Int) (2^(min ((40:Int)).toNat (IntKind.bits .u64))))&&&BitVec.ofInt (IntKind.bits .u64) 255).toNat=byG a:=by
 have e1:(2^(min ((40:Int)).toNat (IntKind.bits .u64)):Int)=((1099511627776:Nat):Int):=by decide
 have e2:Int.fdiv (a:Int) ((1099511627776:Nat):Int)=((a/1099511627776:Nat):Int):=by
  rw [Int.fdiv_eq_ediv_of_nonneg _ (by omega)];rfl
 rw [e1,e2,BitVec.toNat_and]
 have e3:(BitVec.ofInt (IntKind.bits .u64) ((a/1099511627776:Nat):Int)).toNat=a/1099511627776:=by
  rw [BitVec.ofInt_natCast,BitVec.toNat_ofNat]
  have:a/1099511627776<2^64:=by omega
  exact Nat.mod_eq_of_lt this
 have e4:(BitVec.ofInt (IntKind.bits .u64) 255).toNat=255:=by decide
 rw [e3,e4]
 have:(255:Nat)=2^8-1:=by decide
 rw [this,Nat.and_two_pow_sub_one_eq_mod]
 rfl
theorem zAH {c:zad} {k:Int} (h:okC c k) (hk:k≤4611686018427387904):zbj (zbw c) fun p=>p.2.fcode=c.fcode∧p.2.fat=c.fat+1∧sd p.2∧(zvx c→p.1=(byG (nxG c.fseed.toNat):Nat)∧p.2=nx c):=by
 obtain⟨hb,h0,h1⟩:=h
 have w:IntKind.i64.wrap (c.fat+1)=c.fat+1:=zaH (by omega) (by omega)
 have hsd: ∀x:Int,0≤IntKind.u64.wrap x∧IntKind.u64.wrap x<18446744073709551616:=fun x=>by
  rw [zDn]
  exact⟨Int.emod_nonneg _ (by decide),Int.emod_lt_of_pos _ (by decide)⟩
 unfold zbw
 refine .ite (fun hlt=> ?_) fun hlt=> ?_
 ·simp only [decide_eq_true_eq]at hlt
  refine zbj.bind (P:=fun _=>True) (.getI h0 hlt fun _ _=>trivial) fun y _=> .ite (fun _=> .ret ⟨rfl,w,hsd _,fun he=> ?_⟩) fun _=> .ret ⟨rfl,w,hsd _,fun he=> ?_⟩
  ·have:=he.1;omega
  ·have:=he.1;omega
 ·simp only [decide_eq_false_iff_not]at hlt
  have hseed: ∀s:Int,0≤s→s<18446744073709551616→IntKind.u64.wrap ((IntKind.u64.wrap ((IntKind.u64.wrap (s*6364136223846793005))+(IntKind.u64.wrap 0)))+1442695040888963407)=(nxG s.toNat:Nat):=fun s s0 s1=>by
   unfold nxG
   simp only [zDn]
   omega
  refine .ite (fun hle=> ?_) fun hle=> ?_
  ·simp only [decide_eq_true_eq,w]at hle
   refine .ret ⟨rfl,w,hsd _,fun he=> ?_⟩
   have:=he.1;omega
  ·refine .ret ⟨rfl,w,hsd _,fun he=> ?_⟩
   have hs:=hseed c.fseed he.2.1 he.2.2
   refine⟨?_, ?_⟩
   ·dsimp only
    rw [hs,zCL _ (zCb _)]
    have:byG (nxG c.fseed.toNat)<256:=Nat.mod_lt _ (by decide)
    have e:IntKind.u64.wrap (byG (nxG c.fseed.toNat):Nat)=(byG (nxG c.fseed.toNat):Nat):=by rw [zDn];omega
    rw [e,zaH (by omega) (by omega)]
   ·unfold nx
    dsimp only
    rw [hs,w]
theorem znv {c:zad} {k:Int} (n:Int) (hn:2≤n) (hn2:n≤200) (h:okC c k) (hk:k≤4611686018427387000):zbj (zac c n) fun p=>p.2.fcode=c.fcode∧p.2.fat=c.fat+1∧sd p.2∧(zvx c→p.1=(byG (nxG c.fseed.toNat):Nat) % n∧p.2=nx c):=by
 unfold zac
 refine .ite (fun h1=> ?_) fun _=> ?_
 ·simp only [decide_eq_true_eq]at h1;omega
 ·refine(zAH h (by omega)).bind fun p ⟨p1,p2,p3,p4⟩=> .ite (fun h1=> ?_) fun _=> .req (by omega) (.ret ⟨p1,p2,p3,fun he=> ?_⟩)
  ·simp only [decide_eq_true_eq]at h1;omega
  ·obtain⟨q1,q2⟩:=p4 he
   refine⟨?_,q2⟩
   dsimp only
   rw [q1,Int.tmod_eq_emod_of_nonneg (by omega)]
theorem zDI {c:zad} {k:Int} (n:Int) (hn2:n≤200) (h:okC c k) (hs:sd c) (hk:k≤4611686018427387000):zbj (zac c n) fun p=>p.2.fcode=c.fcode∧c.fat≤p.2.fat∧sd p.2:=by
 by_cases hn:2≤n
 ·exact(znv n hn hn2 h hk).mono fun p ⟨a,b,d,_⟩=>⟨a,by omega,d⟩
 ·unfold zac
  refine .ite (fun _=> .ret ⟨rfl,Int.le_refl _,hs⟩) fun h1=> ?_
  simp only [decide_eq_false_iff_not]at h1;omega
theorem zz2 {c:zad} {k:Int} (n:Int) (hn:2≤n) (hn2:n≤200) (h:okC c k) (hk:k≤4611686018427387000):zbj (zas c n) fun p=>p.2.fcode=c.fcode∧p.2.fat=c.fat+1∧sd p.2∧(zvx c→p.1=decide ((byG (nxG c.fseed.toNat):Nat) % n=(0:Int))∧p.2=nx c):=by
 unfold zas
 refine(znv n hn hn2 h hk).bind fun p ⟨p1,p2,p3,p4⟩=> .ret ⟨p1,p2,p3,fun he=> ?_⟩
 obtain⟨q1,q2⟩:=p4 he
 refine⟨?_,q2⟩
 dsimp only
 rw [q1]
 rfl
structure zF4 (c:zad) (t:zab) (c':zad):Prop where
 code:c'.fcode=c.fcode
 at_:c.fat+1≤c'.fat
 seed:sd c'
 bare:zvx c→t.fIdxs= []→c'=nx (nx (nx (nx (nx (nx c)))))∧(byG (itG 3 c.fseed.toNat)) % 3=0
structure zFe (c:zad) (q:Nat) (l:List za7) (d:zad):Prop where
 code:d.fcode=c.fcode
 at_:c.fat+1≤d.fat
 seed:sd d
 ok:okC d d.fat
 bare:zvx c→l= []→(q=0→d=nx (nx c))∧(q=1→d=nx (nx (nx (nx c))))∧(q=2→d=nx (nx (nx (nx (nx c)))))∧(q=3→d=nx (nx (nx (nx (nx (nx c))))))∧(1≤q→(byG (itG 3 c.fseed.toNat)) % 3=0)
theorem zvE (c:zad):(nx c).fseed.toNat=nxG c.fseed.toNat:=by unfold nx;dsimp only;omega
theorem okC.self {c:zad} {k:Int} (h:okC c k):okC c c.fat:=⟨h.1,h.2.1,Int.le_refl _⟩
theorem zue {c:zad} {v2:Int × zad} {q:Nat} {l:List za7} {y:Str} {d:zad} {t:Bool} (h0:0≤v2.1) (h3:v2.1<3) (hq:q<3) (hl:l.length≤q) (hd:d.fcode=c.fcode∧c.fat+1≤d.fat∧sd d∧okC d d.fat) (hk:d.fat≤4611686018427380000)
  (hb:t=false→zvx c→l= []→(q=0→d=nx (nx (nx (nx c))))∧(q=1→d=nx (nx (nx (nx (nx c)))))∧(q=2→d=nx (nx (nx (nx (nx (nx c))))))∧(byG (itG 3 c.fseed.toNat)) % 3=0):
  zbj (zaJ v2 q l y d.fcode d.fat d.fseed t) fun o=> ∃(c':zad) (l':List za7),o= .inl (((q+1:Nat):Int),c'.fcode,c'.fat,c'.fseed,l')∧l'.length≤q+1∧c'.fat≤d.fat+10∧zFe c (q+1) l' c':=by
 unfold zaJ
 obtain⟨d1,d2,d3,d4⟩:=hd
 have hw:=(znG h0 h3).2
 unfold zxO at hw
 have w1:IntKind.i64.wrap ((q:Int)+1)=((q+1:Nat):Int):=by rw [zaH (by omega) (by omega)];omega
 refine .ite (fun _=> ?_) fun ht=> .ret ⟨d,l,by rw [w1],by omega,by omega,⟨d1,d2,d3,d4,fun he hl0=> ?_⟩⟩
 ·rw [hw,zaH (n:=2+v2.1-1) (by omega) (by omega)]
  refine((zDI (c:=⟨d.fcode,d.fat,d.fseed⟩) _ (by omega) d4 d3 (by omega)).and (zcH _ d4 (by omega))).bind fun p ⟨⟨p1,p2,p3⟩,hp,pc⟩=>((znv 4 (by omega) (by omega) pc (by omega)).and (zcH 4 pc (by omega))).bind fun r ⟨⟨r1,r2,r3,_⟩,hr,rc⟩=> ?_
  refine .req (by simp;omega) (.ret ⟨r.2,_,by rw [w1],by rw [List.length_append,List.length_singleton];omega,by have:=rc.2.2;omega,⟨by rw [r1,p1];exact d1,by dsimp only at p2;omega,r3,rc.self,fun _ hl0=> ?_⟩⟩)
  simp at hl0
 ·obtain⟨b0,b1,b2,b3⟩:=hb ht he hl0
  exact⟨by omega,fun h=>b0 (by omega),fun h=>b1 (by omega),fun h=>b2 (by omega),fun _=>b3⟩
theorem zqi {c:zad} {k:Int} (h:okC c k) (hk:k≤4611686018427370000):zbj (zax c) fun p=>zF4 c p.1 p.2:=by
 unfold zax za2
 refine zbj.bind (P:=fun v=>v.2.fcode=c.fcode∧v.2.fat=c.fat+1∧sd v.2∧(zvx c→v.2=nx c)) (((znv 2 (by omega) (by omega) h (by omega)).and (zcH 2 h (by omega))).bind fun v ⟨⟨a1,a2,a3,a4⟩,hv,_⟩=> ?_) fun n ⟨n1,n2,n3,n4⟩=> ?_
 ·exact zbj.bind (P:=fun _=>True) (.getI hv.1 (by have:=hv.2.1 (by omega);simpa using this) fun _ _=>trivial) fun _ _=> .ret ⟨a1,a2,a3,fun he=>(a4 he).2⟩
 have hc:okC n.2 (c.fat+1):=⟨by rw [n1];exact h.1,by have:=h.2.1;omega,by omega⟩
 have hcf:=h.2.2
 have hc0:=h.2.1
 refine((znv 3 (by omega) (by omega) hc (by omega)).and (zcH 3 hc (by omega))).bind fun p ⟨⟨p1,p2,p3,p4⟩,hp,hd⟩=> ?_
 have pp2:=hp.2.1 (by omega)
 obtain⟨hw1,hw2⟩:=znG hp.1 pp2
 unfold zxO at hw1 hw2
 have w1:IntKind.i64.wrap (2+p.1)=2+p.1:=zaH (by omega) (by omega)
 refine .req ⟨by omega,by rw [w1];omega,by rw [w1];simp;omega⟩ (.req (by rw [hw2];simp;omega) ?_)
 have hstart:zFe c 0 [] p.2:=⟨by rw [p1,n1],by omega,p3,hd.self,fun he _=>by
  have e1:=n4 he
  have e2:=(p4 (by rw [e1];exact zfM he)).2
  rw [e1]at e2
  exact⟨fun _=>e2,by omega,by omega,by omega,by omega⟩⟩
 refine zft (fun m s=> ∃q:Nat,s.1=(q:Int)∧q+m=3∧s.2.2.2.2.length≤q∧s.2.2.1≤c.fat+4+20*q∧zFe c q s.2.2.2.2 ⟨s.2.1,s.2.2.1,s.2.2.2.1⟩) (fun m s hI=> ?_) (n:=3) (by exact⟨0,rfl,rfl,by simp,by dsimp only;omega,hstart⟩)
 obtain⟨q,e1,e2,hl,hf,hT⟩:=hI
 obtain⟨s1,a,b,e,l⟩:=s
 dsimp only at e1 hl hf hT ⊢
 subst e1
 have hok:=hT.ok
 dsimp only at hok
 unfold zdY
 have ec:(([([105]:List UInt8),([106]:List UInt8),([109]:List UInt8)]:List (List UInt8)).length:Int)=3:=rfl
 rw [ec]
 have fin: ∀(d:zad) (t:Bool) (y:Str),q<3→d.fcode=c.fcode→b+1≤d.fat→d.fat≤b+2→sd d→(t=false→zvx c→l= []→(q=0→d=nx (nx (nx (nx c))))∧(q=1→d=nx (nx (nx (nx (nx c)))))∧(q=2→d=nx (nx (nx (nx (nx (nx c))))))∧(byG (itG 3 c.fseed.toNat)) % 3=0)→
   zbj (zaJ p q l y d.fcode d.fat d.fseed t) fun o=> ∃(c':zad) (l':List za7),o= .inl (((q+1:Nat):Int),c'.fcode,c'.fat,c'.fseed,l')∧l'.length≤q+1∧c'.fat≤d.fat+10∧zFe c (q+1) l' c':=by
  intro d t y hq d1 d2 d3 d4 hb
  have ha:=hT.at_
  dsimp only at ha
  exact zue hp.1 pp2 hq hl ⟨d1,by omega,d4,⟨by rw [d1];exact h.1,by omega,Int.le_refl _⟩⟩ (by omega) hb
 refine .ite (fun hlt=> ?_) fun hge=> ?_
 ·simp only [decide_eq_true_eq]at hlt
  have hq:q<3:=by omega
  have eg:getI [([105]:List UInt8),([106]:List UInt8),([109]:List UInt8)] (q:Int)=some ((nmI[q]?).getD []):=by
   have:q=0∨q=1∨q=2:=by omega
   rcases this with rfl|rfl|rfl<;>rfl
  rw [eg,Option.bind_some]
  have hcode:=hT.code
  dsimp only at hcode
  refine((zz2 3 (by omega) (by omega) hok (by omega)).and (zk0 3 hok (by omega))).bind fun x ⟨⟨x1,x2,x3,x4⟩,hx⟩=> ?_
  dsimp only at x1 x2
  refine .ite (fun _=> ?_) fun hx1=> .ite (fun hi=> ?_) fun hi=> ?_
  ·refine(fin x.2 true _ hq (by rw [x1,hcode]) (by omega) (by omega) x3 (fun h=>by cases h)).mono fun o ho=> ?_
   obtain⟨c',l',rfl,g1,g2,g3⟩:=ho
   exact⟨m-1,by omega,q+1,rfl,by omega,g1,by dsimp only;omega,g3⟩
  ·refine((zz2 8 (by omega) (by omega) hx (by omega)).and (zk0 8 hx (by omega))).bind fun z ⟨⟨z1,z2,z3,z4⟩,hz⟩=> ?_
   have hq0:q=0:=by
    have:q=0∨q=1∨q=2:=by omega
    rcases this with h|h|h
    ·exact h
    ·rw [h]at hi;exact absurd hi (by decide)
    ·rw [h]at hi;exact absurd hi (by decide)
   refine(fin z.2 _ _ hq (by rw [z1,x1,hcode]) (by omega) (by omega) z3 (fun hz1 he hl0=> ?_)).mono fun o ho=> ?_
   ·have hb:=(hT.bare he hl0).1 hq0
    have hend:zvx (⟨a,b,e⟩:zad):=by rw [hb];exact zfM (zfM he)
    obtain⟨y1,y2⟩:=x4 hend
    rw [hb]at y1 y2
    have w2:=(z4 (by rw [y2];exact zfM (zfM (zfM he)))).2
    rw [y2]at w2
    refine⟨fun _=>w2,by omega,by omega, ?_⟩
    rw [y1,zvE,zvE]at hx1
    simp only [Bool.not_eq_false',decide_eq_true_eq]at hx1
    show byG (nxG (nxG (nxG c.fseed.toNat))) % 3=0
    omega
   ·obtain⟨c',l',rfl,g1,g2,g3⟩:=ho
    exact⟨m-1,by omega,q+1,rfl,by omega,g1,by dsimp only;omega,g3⟩
  ·have hqn:q≠0:=fun h=>by rw [h]at hi;exact absurd hi (by decide)
   refine(fin x.2 false _ hq (by rw [x1,hcode]) (by omega) (by omega) x3 (fun _ he hl0=> ?_)).mono fun o ho=> ?_
   ·obtain⟨b0,b1,b2,b3,b4⟩:=hT.bare he hl0
    refine⟨by omega,fun h=> ?_,fun h=> ?_,b4 (by omega)⟩
    ·have hb:=b1 h
     rw [hb]at x4
     exact(x4 (zfM (zfM (zfM (zfM he))))).2
    ·have hb:=b2 h
     rw [hb]at x4
     exact(x4 (zfM (zfM (zfM (zfM (zfM he)))))).2
   ·obtain⟨c',l',rfl,g1,g2,g3⟩:=ho
    exact⟨m-1,by omega,q+1,rfl,by omega,g1,by dsimp only;omega,g3⟩
 ·simp only [decide_eq_false_iff_not]at hge
  have:q=3:=by omega
  subst this
  refine .ret (.ret ⟨hT.code,hT.at_,hT.seed,fun he hl0=> ?_⟩)
  obtain⟨_,_,_,b3,b4⟩:=hT.bare he hl0
  exact⟨b3 rfl,b4 (by omega)⟩
noncomputable def zkZ:Nat→zad→Option (zab × zad)
 |0,c=>zax c
 |n+1,c=>(zax c).bind fun p=>if p.1.fIdxs.length=0 then zkZ n p.2 else some p
theorem zuG: ∀(n:Nat) {c:zad} {k:Int},okC c k→k+40*n≤4611686018427360000→zbj (zkZ n c) fun p=>zag p.1=true∧okC p.2 (k+40*(n+1))
 |0,c,k,h,hk=>(zno h (by omega)).mono fun p hp=>⟨hp.1,hp.2.up (by omega)⟩
 |n+1,c,k,h,hk=>by
  unfold zkZ
  refine(zno h (by omega)).bind fun p hp=> ?_
  split
  ·exact(zuG n hp.2 (by omega)).mono fun q hq=>⟨hq.1,hq.2.up (by omega)⟩
  ·exact .ret ⟨hp.1,hp.2.up (by omega)⟩
theorem zrU: ∀(n:Nat) {c:zad} {k:Int},okC c k→k+40*n≤4611686018427360000→zvx c→zbj (zkZ n c) fun p=>p.1.fIdxs= []→ ∀j≤n,byG (itG (6*j+3) c.fseed.toNat) % 3=0
 |0,c,k,h,hk,he=>by
  refine(zqi h (by omega)).mono fun p hp hl j hj=> ?_
  have:j=0:=by omega
  subst this
  exact(hp.bare he hl).2
 |n+1,c,k,h,hk,he=>by
  unfold zkZ
  refine((zqi h (by omega)).and (zno h (by omega))).bind fun p ⟨hp,_,ho⟩=> ?_
  split
  ·rename_i h0
   have hl:p.1.fIdxs= []:=List.eq_nil_of_length_eq_zero h0
   obtain⟨b1,b2⟩:=hp.bare he hl
   have he2:zvx p.2:=by rw [b1];exact zfM (zfM (zfM (zfM (zfM (zfM he)))))
   refine(zrU n ho (by omega) he2).mono fun q hq hl2 j hj=> ?_
   cases j with
   |zero=>exact b2
   |succ j=>
    have:=hq hl2 j (by omega)
    rw [b1]at this
    simp only [zvE]at this
    rw [show 6*(j+1)+3=6+(6*j+3) by omega,zpJ]
    exact this
  ·rename_i h0
   exact .ret fun hl=>absurd (by rw [hl];rfl) h0
theorem zpF: ∀(m n:Nat) {c:zad} {k:Int},okC c k→k+40*(m+n)≤4611686018427360000→sd c→(c.fcode.length:Int)-c.fat≤m→(∀{c':zad} {k':Int},okC c' k'→k'+40*n≤4611686018427360000→zvx c'→zbj (zkZ n c') fun p=>p.1.fIdxs≠ [])→zbj (zkZ (m+n) c) fun p=>p.1.fIdxs≠ []
 |0,n,c,k,h,hk,hs,hl,hend=>by
  rw [Nat.zero_add]
  exact hend h (by omega) ⟨by omega,hs⟩
 |m+1,n,c,k,h,hk,hs,hl,hend=>by
  rw [Nat.add_right_comm]
  unfold zkZ
  refine((zqi h (by omega)).and (zno h (by omega))).bind fun p ⟨hp,_,ho⟩=> ?_
  split
  ·have h1:=hp.at_
   exact zpF m n ho (by omega) hp.seed (by rw [hp.code];omega) hend
  ·rename_i h0
   exact .ret fun hl=>h0 (by rw [hl];rfl)
def zx2:Nat:=70368744177664
theorem zxj {c:zad} {k:Int} (h:okC c k) (hk:k+40*zx2≤4611686018427360000) (he:zvx c):zbj (zkZ zx2 c) fun p=>p.1.fIdxs≠ []:=by
 refine(zrU zx2 h hk he).mono fun p hp hl=> ?_
 have h0:=hp hl 0 (by decide)
 have h1:=hp hl 35184372088832 (by decide)
 have h2:=hp hl 70368744177664 (by decide)
 refine zFX (x:=itG 3 c.fseed.toNat) h0 ?_ ?_
 ·rw [←zpJ];exact h1
 ·rw [←zpJ,←zpJ];exact h2
end Go.Proofs.YtgobcjbjogkpjaaGreatDoor
end
section
namespace Go.Proofs.YtgobcjbjogkpjaaGreatDoor
open Go.RowKit
set_option maxRecDepth 100000
theorem zuy {β:Type} {n:Nat} {r:Option β} {body:Int→Option (Int ⊕ Option β)} (hs: ∀i:Nat,i<n→body i=some (.inl ((i+1:Nat):Int))) (he:body n=some (.inr r)):zau body 0=r:=by
 match r with
 |none=>
  have key: ∀(m q:Nat),q+m=n→zau body (q:Int)=none:=by
   intro m
   induction m with
   |zero=>
    intro q hq
    have:q=n:=by omega
    subst this
    exact zb8 he
   |succ m ih=>
    intro q hq
    rw [zcE (hs q (by omega))]
    exact ih (q+1) (by omega)
  exact key n 0 (by omega)
 |some b=>
  have h:=zh5 (n:=n) (body:=body) (fun _=>true) b (some b) (fun i hi=>by rw [if_pos rfl];exact hs i hi) he
  rw [h]
  split<;>rfl
theorem zBC {xs:List Str} (h:xs.length≤2000000):ziM xs xs=some true:=by
 unfold ziM
 rw [if_neg (by simp)]
 exact zuy (n:=xs.length) (fun i hi=>by
  show zeB xs xs i=_
  unfold zeB
  rw [if_pos (by simpa using hi),zae hi,Option.bind_some,Option.bind_some,if_neg (by simp),zbS hi (by omega)]) (by
  show zeB xs xs _=_
  unfold zeB
  rw [if_neg (by simp)])
theorem zBX {xs:List Int} (h:xs.length≤2000000):ziH xs xs=some true:=by
 unfold ziH
 rw [if_neg (by simp)]
 exact zuy (n:=xs.length) (fun i hi=>by
  show zeH xs xs i=_
  unfold zeH
  rw [if_pos (by simpa using hi),zae hi,Option.bind_some,Option.bind_some,if_neg (by simp),zbS hi (by omega)]) (by
  show zeH xs xs _=_
  unfold zeH
  rw [if_neg (by simp)])
theorem zAz {xs:List zaa} (h:xs.length≤2000000):ziD xs xs=some true:=by
 unfold ziD
 rw [if_neg (by simp)]
 exact zuy (n:=xs.length) (fun i hi=>by
  show zeD xs xs i=_
  unfold zeD
  rw [if_pos (by simpa using hi),zae hi,Option.bind_some,Option.bind_some,if_neg (by simp),zbS hi (by omega)]) (by
  show zeD xs xs _=_
  unfold zeD
  rw [if_neg (by simp)])
theorem zBJ {t:zab} (h:zcY t):ziU t t=some true:=by
 have h1:=h.idxs
 unfold ziU
 rw [if_neg (by simp),zBC h.cols,Option.bind_some,if_neg (by simp)]
 exact zuy (n:=t.fIdxs.length) (fun i hi=>by
  show zeI t t i=_
  unfold zeI
  rw [if_pos (by simpa using hi),zae hi,Option.bind_some,Option.bind_some,if_neg (by simp),zbS hi (by omega)]) (by
  show zeI t t _=_
  unfold zeI
  rw [if_neg (by simp)])
theorem zyr {xs:List zab} (h:xs.length≤2000000) (ht: ∀t∈xs,zcY t):zhV xs xs=some true:=by
 unfold zhV
 rw [if_neg (by simp)]
 exact zuy (n:=xs.length) (fun i hi=>by
  show zeb xs xs i=_
  unfold zeb
  rw [if_pos (by simpa using hi),zae hi,Option.bind_some,Option.bind_some,zBJ (ht _ (List.getElem_mem hi)),Option.bind_some,if_neg (by simp),zbS hi (by omega)]) (by
  show zeb xs xs _=_
  unfold zeb
  rw [if_neg (by simp)])
end Go.Proofs.YtgobcjbjogkpjaaGreatDoor
end
section
namespace Go.Proofs.YtgobcjbjogkpjaaGreatDoor
open Go.RowKit
set_option maxRecDepth 100000
end Go.Proofs.YtgobcjbjogkpjaaGreatDoor
end
section
namespace Go.Proofs.YtgobcjbjogkpjaaGreatDoor
open Go.RowKit
set_option maxRecDepth 100000
structure zGc (t:zab):Prop where
 name:t.fName.length≤9223372036854775807
 cols:t.fCols.length≤9223372036854775807
 col: ∀c∈t.fCols,c.length≤9223372036854775807
 idxs:t.fIdxs.length≤9223372036854775807
 idx: ∀x∈t.fIdxs,x.fName.length≤9223372036854775807
end Go.Proofs.YtgobcjbjogkpjaaGreatDoor
end
section
namespace Go.Proofs.YtgobcjbjogkpjaaGreatDoor
open Go.RowKit
set_option maxRecDepth 100000
def zw5 (st:List Int):Int:=if st.contains 3 then 2 else if st.contains 0 then 0 else 1
theorem zzy {xs:List Int} {k:Int} (h:xs.length≤2000000):zh7 xs k=some (xs.contains k):=by
 have key: ∀(n q:Nat),q+n=xs.length→zau (fun s:Int=>zd5 xs k s) (q:Int)=some ((xs.drop q).contains k):=by
  intro n
  induction n with
  |zero=>
   intro q hq
   have:q=xs.length:=by omega
   subst this
   rw [zcy]
   have e:zd5 xs k xs.length=some (.inr (some false)):=by
    unfold zd5
    rw [if_neg (by simp)]
   rw [e]
   simp
  |succ n ih=>
   intro q hq
   have hlt:q<xs.length:=by omega
   have ih2:=ih (q+1) (by omega)
   rw [zcy,List.drop_eq_getElem_cons hlt,List.contains_cons]
   have e:zd5 xs k q=some (if(xs[q]==k)=true then .inr (some true)else .inl ((q+1:Nat):Int)):=by
    unfold zd5
    rw [if_pos (by simpa using hlt),zae hlt,Option.bind_some,zbS hlt (by omega)]
    cases(xs[q]==k)<;>rfl
   rw [e]
   by_cases h1:(xs[q]==k)=true
   ·have h2:xs[q]=k:=by simpa using h1
    rw [if_pos h1];simp [h2]
   ·have h2:(k==xs[q])=false:=by
     rw [Bool.eq_false_iff];intro h3;exact h1 (by simp at h3 ⊢;omega)
    rw [if_neg h1,h2,Bool.false_or];exact ih2
 have:=key xs.length 0 (by omega)
 unfold zh7
 simpa using this
theorem zyA {s:zaf} {st:List Int} (hn:st.length=s.fAt.length) (hl:st.length≤2000000) (hs: ∀(i:Nat) (hi:i<st.length),∃tb,zaG s i=some tb∧zbz s tb=some st[i]):zcr s=some (zw5 st):=by
 have key: ∀(n q:Nat) (v:Int),q+n=st.length→zau (fun x:Int × Int=>zbA s x.1 x.2) (v,(q:Int))=some (if(st.drop q).contains 3 then 2 else if(st.drop q).contains 0 then 0 else v):=by
  intro n
  induction n with
  |zero=>
   intro q v hq
   have:q=st.length:=by omega
   subst this
   have e:zbA s v st.length=some (.inr (some v)):=by
    unfold zbA
    rw [if_neg (by simp [hn])]
   rw [zcy]
   dsimp only
   rw [e]
   simp
  |succ n ih=>
   intro q v hq
   have hlt:q<st.length:=by omega
   obtain⟨tb,e1,e2⟩:=hs q hlt
   have e:zbA s v q=some (if(st[q]==3)=true then .inr (some 2)else if(st[q]==0)=true then .inl (0,((q+1:Nat):Int))else .inl (v,((q+1:Nat):Int))):=by
    unfold zbA
    rw [if_pos (by simp;omega),e1,Option.bind_some,e2,Option.bind_some,zbS hlt (by omega)]
    cases(st[q]==3)<;>cases(st[q]==0)<;>rfl
   rw [zcy,List.drop_eq_getElem_cons hlt,List.contains_cons,List.contains_cons]
   dsimp only
   rw [e]
   by_cases h1:st[q]=3
   ·simp [h1]
   ·have i0:=ih (q+1) 0 (by omega)
    have iv:=ih (q+1) v (by omega)
    have h1a:(st[q]==3)=false:=by simpa using h1
    have h1b:((3:Int)==st[q])=false:=by simp;omega
    rw [h1a,h1b,Bool.false_or]
    by_cases h2:st[q]=0
    ·simp only [h2,beq_self_eq_true,Bool.true_or,if_true,Bool.false_eq_true,if_false]
     rw [i0];split<;>(try split)<;>rfl
    ·have h2a:(st[q]==0)=false:=by simpa using h2
     have h2b:((0:Int)==st[q])=false:=by simp;omega
     rw [h2a,h2b,Bool.false_or]
     exact iv
 have:=key st.length 0 1 (by omega)
 unfold zcr
 simpa [zw5]using this
end Go.Proofs.YtgobcjbjogkpjaaGreatDoor
end
section
namespace Go.Proofs.YtgobcjbjogkpjaaGreatDoor
open Go.RowKit
set_option maxRecDepth 100000
theorem zza {s:zaf} {st:List Int} (hn:st.length=s.fAt.length) (hl:st.length≤2000000) (hs: ∀(i:Nat) (hi:i<st.length),∃y tb k x,getI s.fAt i=some y∧getI s.fWays y=some tb∧zbd tb s.fName=some k∧getI tb.fIdxs k=some x∧x.fStage=st[i]):zf7 s=some st:=by
 unfold zf7
 have h1:=zb3 (xs:=st) (body:=fun x:List Int × Int=>zcq s x.1 x.2) (fun i (o:List Int)=>(o,i)) (fun(o:List Int) x=>o++ [x]) (fun o=>some o) (fun i o=>o.length=i)
  (fun i hi o ho=>by
   refine⟨?_,by simp [ho]⟩
   obtain⟨y,tb,k,x,e1,e2,e3,e4,e5⟩:=hs i hi
   show zcq s o i=_
   unfold zcq
   have hq:((((o).length:Int)+(([x.fStage]:List Int).length:Int))*8≤140737488355328∧((o).length:Int)+(([x.fStage]:List Int).length:Int)≤140737488355328):=by rw [List.length_singleton];omega
   rw [if_pos (by simp;omega),e1,Option.bind_some,e2,Option.bind_some,e3,Option.bind_some,e4,Option.bind_some,zak hq,zbS hi (by omega),e5])
  (fun o ho=>by
   show zcq s o st.length=_
   unfold zcq
   rw [if_neg (by simp [hn])]) (s:=([]:List Int)) rfl
 have h3:=h1.1
 rw [show(fun(o:List Int) x=>o++ [x])=(fun o x=>o++ [id x])from rfl,zrd,List.map_id,List.nil_append]at h3
 exact h3
theorem zwc {s:zaf} {st:List Int} (hn:st.length=s.fAt.length) (hl:st.length≤2000000) (hs: ∀(i:Nat) (hi:i<st.length),∃y tb k x,getI s.fAt i=some y∧getI s.fWays y=some tb∧zbd tb s.fName=some k∧getI tb.fIdxs k=some x∧x.fStage=st[i]):zdO s=some (zw5 st):=by
 unfold zdO zw5
 rw [zza hn hl hs,Option.bind_some,zzy hl,Option.bind_some,zzy hl,Option.bind_some]
 split<;>(try split)<;>rfl
end Go.Proofs.YtgobcjbjogkpjaaGreatDoor
end
section
namespace Go.Proofs.YtgobcjbjogkpjaaGreatDoor
open Go.RowKit
set_option maxRecDepth 100000
theorem zn2 {α:Type} {xs:List α} {i:Int} {x:α} (h:getI xs i=some x):0≤i∧xs[i.toNat]?=some x∧i<xs.length:=by
 unfold getI at h
 split at h
 ·rename_i h0
  have:=(List.getElem?_eq_some_iff.1 h).1
  exact⟨h0,h,by omega⟩
 ·cases h
def zgu (t:zab) (k c:Int):zab:=⟨t.fName,t.fCols,t.fIdxs.set k.toNat {((t.fIdxs[k.toNat]?).getD ⟨[],0,0⟩)with fStage:=c}⟩
def zhh (a b:Int):Int:=if a<b then a+1 else a-1
def zj0:Nat→Int→Int→List Int
 |0,_,_=> []
 |f+1,a,b=>if a=b then []else zhh a b::zj0 f (zhh a b) b
def way (t:zab) (k a b:Int):List zab:=t::(zj0 3 a b).map (zgu t k)
theorem ztE: ∀(f:Nat) {a b:Int},0≤a→a≤3→0≤b→b≤3→ ∀c∈zj0 f a b,0≤c∧c≤3
 |0,_,_,_,_,_,_,c,hc=>by simp [zj0]at hc
 |f+1,a,b,h1,h2,h3,h4,c,hc=>by
  unfold zj0 at hc
  split at hc
  ·simp at hc
  ·have hn:0≤zhh a b∧zhh a b≤3:=by unfold zhh;split<;>omega
   rcases List.mem_cons.1 hc with rfl|hc
   ·exact hn
   ·exact ztE f hn.1 hn.2 h3 h4 c hc
theorem zpZ: ∀(f:Nat) (a b:Int),(zj0 f a b).length≤f
 |0,_,_=>by simp [zj0]
 |f+1,a,b=>by
  unfold zj0
  split
  ·simp
  ·have:=zpZ f (zhh a b) b
   simp;omega
theorem zsE {t:zab} {k b:Int} {body:Int × List zab→Option ((Int × List zab) ⊕ Option (List zab))} (hb0:0≤b) (hb3:b≤3)
  (hs: ∀a o,0≤a→a≤3→a≠b→o.length≤100→body (a,o)=some (.inl (zhh a b,o++ [zgu t k (zhh a b)]))) (he: ∀o,body (b,o)=some (.inr (some o))):
  ∀(f:Nat) (a:Int) (o:List zab),0≤a→a≤3→(a-b).natAbs≤f→o.length+f≤100→zau body (a,o)=some (o++(zj0 f a b).map (zgu t k))
 |0,a,o,_,_,hf,_=>by
  have:a=b:=by omega
  subst this
  rw [zcy,he];simp [zj0]
 |f+1,a,o,h0,h3,hf,ho=>by
  by_cases hab:a=b
  ·subst hab
   rw [zcy,he];simp [zj0]
  ·rw [zcy,hs a o h0 h3 hab (by omega)]
   have hn:0≤zhh a b∧zhh a b≤3∧(zhh a b-b).natAbs≤f:=by unfold zhh;split<;>omega
   have:=zsE hb0 hb3 hs he f (zhh a b) (o++ [zgu t k (zhh a b)]) hn.1 hn.2.1 hn.2.2 (by simp;omega)
   simp only [this,zj0,if_neg hab,List.map_cons,List.append_assoc,List.singleton_append]
theorem zz9 {t:zab} (h:zcY t):zfv t=some t:=by
 unfold zfv
 have h1:=h.cols
 have h2:=h.idxs
 rw [zak (by simp;omega),zak (by simp;omega)]
theorem zv0 {t:zab} (h:zcY t):zdv t=some t:=by
 unfold zdv za0 zbQ
 have h1:=h.cols
 have h2:=h.idxs
 rw [zlZ (by omega) (by omega),Option.bind_some,zlZ (by omega) (by omega),Option.bind_some]
theorem zyj {t:zab} {n:Str} {x:za7} {c:Int} (h:zcY t) (hx:zfO t n x):zfu t n c=some (zgu t (zhc (fun y:za7=>y.fName==n) t.fIdxs) c):=by
 unfold zfu zgu
 rw [zz9 h,Option.bind_some,zmr h,Option.bind_some,hx.at_,Option.bind_some,(zn2 hx.at_).2.1]
 rfl
theorem zCA {t:zab} {n:Str} {x:za7} {c:Int} (h:zcY t) (hx:zfO t n x):zbW t n c=some (zgu t (zhc (fun y:za7=>y.fName==n) t.fIdxs) c):=by
 unfold zbW zgu
 rw [zv0 h,Option.bind_some,zuj h,Option.bind_some,hx.at_,Option.bind_some,(zn2 hx.at_).2.1]
 rfl
theorem zCB {t:zab} {n:Str} {x:za7} {b:Int} (h:zcY t) (hx:zfO t n x) (h0:0≤x.fStage) (h3:x.fStage≤3) (hb0:0≤b) (hb3:b≤3):zgX t n b=some (way t (zhc (fun y:za7=>y.fName==n) t.fIdxs) x.fStage b):=by
 unfold zgX
 rw [zz9 h,Option.bind_some,zmr h,Option.bind_some,hx.at_,Option.bind_some]
 refine(zsE (t:=t) (k:=zhc (fun y:za7=>y.fName==n) t.fIdxs) hb0 hb3 ?_ ?_ 3 x.fStage [t] h0 h3 (by omega) (by simp)).trans (by simp [way])
 ·intro a o ha0 ha3 hab ho
  show zeL t n b a o=_
  unfold zeL
  rw [if_pos (by simpa using hab)]
  have w1:IntKind.i64.wrap (a+1)=a+1:=zaH (by omega) (by omega)
  have w2:IntKind.i64.wrap (a-1)=a-1:=zaH (by omega) (by omega)
  by_cases hlt:a<b
  ·rw [if_pos (by simpa using hlt),w1,zyj h hx,Option.bind_some,zak (by simp;omega)]
   simp [zhh,hlt]
  ·rw [if_neg (by simpa using hlt),w2,zyj h hx,Option.bind_some,zak (by simp;omega)]
   simp [zhh,hlt]
 ·intro o
  show zeL t n b b o=_
  unfold zeL
  rw [if_neg (by simp)]
theorem zD7 {t:zab} {n:Str} {x:za7} {b:Int} (h:zcY t) (hx:zfO t n x) (h0:0≤x.fStage) (h3:x.fStage≤3) (hb0:0≤b) (hb3:b≤3):zdS t n b=some (way t (zhc (fun y:za7=>y.fName==n) t.fIdxs) x.fStage b):=by
 unfold zdS zbx
 rw [zuj h,Option.bind_some,hx.at_,Option.bind_some,Option.bind_some,zv0 h,Option.bind_some]
 refine(zsE (t:=t) (k:=zhc (fun y:za7=>y.fName==n) t.fIdxs) hb0 hb3 ?_ ?_ 3 x.fStage [t] h0 h3 (by omega) (by simp)).trans (by simp [way])
 ·intro a o ha0 ha3 hab ho
  show zb5 t n b a o=_
  unfold zb5
  rw [if_pos (by simpa using hab)]
  have w1:IntKind.i64.wrap (a+1)=a+1:=zaH (by omega) (by omega)
  have w2:IntKind.i64.wrap (a-1)=a-1:=zaH (by omega) (by omega)
  by_cases hlt:a<b
  ·rw [if_pos (by simpa using hlt),w1,zCA h hx,Option.bind_some,zak (by simp;omega)]
   simp [zhh,hlt]
  ·rw [if_neg (by simpa using hlt),w2,zCA h hx,Option.bind_some,zak (by simp;omega)]
   simp [zhh,hlt]
 ·intro o
  show zb5 t n b b o=_
  unfold zb5
  rw [if_neg (by simp)]
theorem zj6 {α β:Type} {xs ys:List α} (hl:xs.length=ys.length) {body:Int→Option (Int ⊕ Option β)} (p:α→α→Bool) (b:β) (fin:Option β)
  (hs: ∀(i:Nat) (hi:i<xs.length) (hj:i<ys.length),body i=some (if p xs[i] ys[i]=true then .inl ((i+1:Nat):Int)else .inr (some b))) (he:body xs.length=some (.inr fin)):zau body 0=if((xs.zip ys).all fun z=>p z.1 z.2)=true then fin else some b:=by
 have hz:(xs.zip ys).length=xs.length:=by simp [hl]
 have h1:=znw (xs:=xs.zip ys) (body:=body) (fun i (_:Unit)=>i) (fun z _=>some (if p z.1 z.2=true then .inl ()else .inr (some b))) (fun _=>fin)
  (fun i hi s=>by
   have hi1:i<xs.length:=by omega
   have hi2:i<ys.length:=by omega
   rw [hs i hi1 hi2,List.getElem_zip]
   cases p xs[i] ys[i]<;>simp [ztB]) (fun s=>by rw [hz];exact he) ()
 rw [zvy (fun z:α × α=>p z.1 z.2) b fun x _ s=>rfl]at h1
 exact h1
theorem zm9 {α γ:Type} {p:α→α→Bool} {f:α→γ} (h: ∀x y,p x y=true↔f x=f y): ∀{xs ys:List α},xs.length=ys.length→(((xs.zip ys).all fun z=>p z.1 z.2)=true↔xs.map f=ys.map f)
 | [], [],_=>by simp
 | [],_::_,h=>by simp at h
 |_::_, [],h=>by simp at h
 |x::xs,y::ys,hl=>by
  have:=zm9 h (xs:=xs) (ys:=ys) (by simpa using hl)
  simp only [List.zip_cons_cons,List.all_cons,Bool.and_eq_true,List.map_cons,List.cons.injEq,this,h]
def nc (x:za7):Str × Int:=(x.fName,x.fCol)
theorem zAt {x y:za7} (h1:nc x=nc y) (h2:x.fStage=y.fStage):x=y:=by
 cases x;cases y
 simp [nc]at h1 h2
 simp [h1,h2]
theorem ztm: ∀{xs ys:List za7},xs.map nc=ys.map nc→xs.map (·.fStage)=ys.map (·.fStage)→xs=ys
 | [], [],_,_=>rfl
 | [],_::_,h,_=>by simp at h
 |_::_, [],h,_=>by simp at h
 |x::xs,y::ys,h1,h2=>by
  simp only [List.map_cons,List.cons.injEq]at h1 h2
  rw [zAt h1.1 h2.1,ztm h1.2 h2.2]
theorem zpV {a b:zab} (h1:a.fName=b.fName) (h2:a.fCols=b.fCols) (h3:a.fIdxs=b.fIdxs):a=b:=by
 cases a;cases b;simp at h1 h2 h3;simp [h1,h2,h3]
theorem zxo {a b:zab} (ha:zcY a): ∃r,ze2 a b=some r∧(r=true↔a.fName=b.fName∧a.fCols=b.fCols∧a.fIdxs.map nc=b.fIdxs.map nc):=by
 unfold ze2
 by_cases h0:(((a.fName !=b.fName)||((a.fCols.length:Int) !=(b.fCols.length:Int)))||((a.fIdxs.length:Int) !=(b.fIdxs.length:Int)))=true
 ·rw [if_pos h0]
  refine⟨_,rfl,by simp, ?_⟩
  rintro⟨h1,h2,h3⟩
  have h4:=congrArg List.length h3
  simp only [List.length_map]at h4
  rw [h1,h2,h4]at h0
  simp at h0
 ·rw [if_neg h0]
  simp only [Bool.or_eq_true,bne_iff_ne,ne_eq,not_or,Decidable.not_not,Int.natCast_inj]at h0
  obtain⟨⟨h1,h2⟩,h3⟩:=h0
  have hc:=ha.cols
  have hi:=ha.idxs
  rw [zj6 (xs:=a.fCols) (ys:=b.fCols) h2 (fun x y=>x==y) false (zdA a b) ?_ ?_]
  ·have hk:zdA a b=some ((a.fIdxs.zip b.fIdxs).all fun z=>nc z.1==nc z.2):=by
    unfold zdA
    rw [zj6 (xs:=a.fIdxs) (ys:=b.fIdxs) h3 (fun x y=>nc x==nc y) false (some true) ?_ ?_]
    ·cases((a.fIdxs.zip b.fIdxs).all fun z=>nc z.1==nc z.2)<;>rfl
    ·intro i hi1 hj1
     show zcC a b i=_
     unfold zcC
     rw [if_pos (by simpa using hi1),zae hi1,Option.bind_some,zae hj1,Option.bind_some,zbS hi1 (by omega)]
     by_cases hq:nc a.fIdxs[i]=nc b.fIdxs[i]
     ·have hq2:=hq
      simp only [nc,Prod.mk.injEq]at hq2
      rw [if_neg (by simp [hq2.1,hq2.2]),if_pos (by simpa using hq)]
     ·have hq2:=hq
      simp only [nc,Prod.mk.injEq,not_and]at hq2
      rw [if_pos (by simp only [Bool.or_eq_true,bne_iff_ne,ne_eq];by_cases hz:a.fIdxs[i].fName=b.fIdxs[i].fName;exact .inr (hq2 hz);exact .inl hz),if_neg (by simpa using hq)]
    ·show zcC a b a.fIdxs.length=_
     unfold zcC
     rw [if_neg (by simp)]
   have z1:=zm9 (p:=fun x y:Str=>x==y) (f:=id) (by simp) h2
   have z2:=zm9 (p:=fun x y:za7=>nc x==nc y) (f:=nc) (by simp) h3
   rw [List.map_id,List.map_id]at z1
   rw [hk]
   by_cases hz:((a.fCols.zip b.fCols).all fun z=>z.1==z.2)=true
   ·rw [if_pos hz]
    exact⟨_,rfl,by rw [z2];exact⟨fun h=>⟨h1,z1.1 hz,h⟩,fun h=>h.2.2⟩⟩
   ·rw [if_neg hz]
    exact⟨_,rfl,by simp,fun h=>absurd (z1.2 h.2.1) hz⟩
  ·intro i hi1 hj1
   show zcI a b i=_
   unfold zcI
   rw [if_pos (by simpa using hi1),zae hi1,Option.bind_some,zae hj1,Option.bind_some,zbS hi1 (by omega)]
   by_cases hq:a.fCols[i]=b.fCols[i]
   ·rw [if_neg (by simp [hq]),if_pos (by simpa using hq)]
   ·rw [if_pos (by simpa using hq),if_neg (by simpa using hq)]
  ·show zcI a b a.fCols.length=_
   unfold zcI
   rw [if_neg (by simp)]
structure zCm (t:zab):Prop where
 len:t.fIdxs.length≤3
 stg: ∀x∈t.fIdxs,0≤x.fStage∧x.fStage≤3
theorem zw3: ∀(l:List (za7 × za7)) (s:Int),0≤s→(l.foldl (fun s z=>s+((z.1.fStage-z.2.fStage).natAbs:Int)) s=0↔s=0∧ ∀z∈l,z.1.fStage=z.2.fStage)
 | [],s,_=>by simp
 |z::l,s,h=>by
  rw [List.foldl_cons,zw3 l _ (by omega)]
  constructor
  ·rintro⟨h1,h2⟩
   exact⟨by omega,fun y hy=>by
    rcases List.mem_cons.1 hy with rfl|hy
    ·omega
    ·exact h2 y hy⟩
  ·rintro⟨h1,h2⟩
   have:=h2 z (by simp)
   exact⟨by omega,fun y hy=>h2 y (by simp [hy])⟩
theorem zuE: ∀{xs ys:List za7},xs.length=ys.length→((∀z∈xs.zip ys,z.1.fStage=z.2.fStage)↔xs.map (·.fStage)=ys.map (·.fStage))
 | [], [],_=>by simp
 | [],_::_,h=>by simp at h
 |_::_, [],h=>by simp at h
 |x::xs,y::ys,hl=>by
  have:=zuE (xs:=xs) (ys:=ys) (by simpa using hl)
  simp only [List.zip_cons_cons,List.forall_mem_cons,this,List.map_cons,List.cons.injEq]
theorem zEC (d:Int) (h1: -3≤d) (h2:d≤3):ziF d (IntKind.i64.wrap (0-d))=some (d.natAbs:Int):=by
 rw [zaH (by omega) (by omega)]
 unfold ziF
 by_cases h:d>0-d
 ·rw [if_pos (by simpa using h)];congr 1;omega
 ·rw [if_neg (by simpa using h)];congr 1;omega
theorem zFJ {a b:zab} (ha:zCm a) (hb:zCm b) (hl:a.fIdxs.length=b.fIdxs.length): ∃v,ziB a b=some v∧(v=0↔a.fIdxs.map (·.fStage)=b.fIdxs.map (·.fStage)):=by
 unfold ziB
 have h3:=ha.len
 have hz:(a.fIdxs.zip b.fIdxs).length=a.fIdxs.length:=by simp [hl]
 have h1:=zb3 (xs:=a.fIdxs.zip b.fIdxs) (body:=fun s:Int × Int=>zdy a b s.1 s.2) (fun i (s:Int)=>(s,i)) (fun(s:Int) z=>s+((z.1.fStage-z.2.fStage).natAbs:Int)) (fun s=>some s) (fun i s=>0≤s∧s≤3*(i:Int))
  (fun i hi s hs=>by
   have hi1:i<a.fIdxs.length:=by omega
   have hi2:i<b.fIdxs.length:=by omega
   have ga:=ha.stg a.fIdxs[i] (List.getElem_mem hi1)
   have gb:=hb.stg b.fIdxs[i] (List.getElem_mem hi2)
   rw [List.getElem_zip]
   refine⟨?_, ?_, ?_⟩
   ·show zdy a b s i=_
    unfold zdy
    rw [if_pos (by simpa using hi1),zae hi1,Option.bind_some,zae hi2,Option.bind_some,zaH (n:=a.fIdxs[i].fStage-b.fIdxs[i].fStage) (by omega) (by omega),zEC _ (by omega) (by omega),Option.bind_some,zbS hi1 (by omega),zaH (by omega) (by omega)]
   ·dsimp only;omega
   ·dsimp only;push_cast;omega)
  (fun s hs=>by
   show zdy a b s ((a.fIdxs.zip b.fIdxs).length:Int)=_
   unfold zdy
   rw [hz,if_neg (by simp)]) (s:=0) ⟨by omega,by omega⟩
 refine⟨_,h1.1, ?_⟩
 rw [zw3 _ _ (by omega),←zuE hl]
 simp
def eqT (a b:zab):Bool:=a.fName==b.fName&&(a.fCols==b.fCols&&(a.fIdxs.map nc==b.fIdxs.map nc&&a.fIdxs.map (·.fStage)==b.fIdxs.map (·.fStage)))
theorem zoo {a b:zab}:eqT a b=true↔a=b:=by
 unfold eqT
 simp only [Bool.and_eq_true,beq_iff_eq]
 constructor
 ·rintro⟨h1,h2,h3,h4⟩;exact zpV h1 h2 (ztm h3 h4)
 ·rintro rfl;simp
theorem zBI {a b:zab} (ha:zcY a):zce a b=some (eqT a b):=by
 have key: ∃r,zce a b=some r∧(r=true↔a=b):=by
  unfold zce
  by_cases h1:(a.fName==b.fName)=true
  ·rw [if_pos h1]
   have h1':a.fName=b.fName:=by simpa using h1
   have e1: ∃r,zbr a.fCols b.fCols=some r∧(r=true↔a.fCols=b.fCols):=by
    unfold zbr
    by_cases h2:((a.fCols.length:Int) !=(b.fCols.length:Int))=true
    ·rw [if_pos h2]
     exact⟨_,rfl,by simp,fun h=>by rw [h]at h2;simp at h2⟩
    ·rw [if_neg h2]
     have h2':a.fCols.length=b.fCols.length:=by
      have:(a.fCols.length:Int)=b.fCols.length:=by simpa using h2
      omega
     rw [zj6 (xs:=a.fCols) (ys:=b.fCols) h2' (fun x y=>x==y) false (some true) ?_ ?_]
     ·have z1:=zm9 (p:=fun x y:Str=>x==y) (f:=id) (by simp) h2'
      rw [List.map_id,List.map_id]at z1
      rw [←z1]
      cases hz:((a.fCols.zip b.fCols).all fun z=>z.1==z.2)<;>exact⟨_,rfl,by simp⟩
     ·intro i hi1 hj1
      show zaL a.fCols b.fCols i=_
      unfold zaL
      have:=ha.cols
      rw [if_pos (by simpa using hi1),zae hi1,Option.bind_some,zae hj1,Option.bind_some,zbS hi1 (by omega)]
      by_cases hq:a.fCols[i]=b.fCols[i]
      ·rw [if_neg (by simp [hq]),if_pos (by simpa using hq)]
      ·rw [if_pos (by simpa using hq),if_neg (by simpa using hq)]
     ·show zaL a.fCols b.fCols a.fCols.length=_
      unfold zaL
      rw [if_neg (by simp)]
   obtain⟨r1,e1,f1⟩:=e1
   rw [e1,Option.bind_some]
   by_cases h2:r1=true
   ·rw [if_pos h2]
    have h2':=f1.1 h2
    have e2: ∃r,za4 a.fIdxs b.fIdxs=some r∧(r=true↔a.fIdxs=b.fIdxs):=by
     unfold za4
     by_cases h3:((a.fIdxs.length:Int) !=(b.fIdxs.length:Int))=true
     ·rw [if_pos h3]
      exact⟨_,rfl,by simp,fun h=>by rw [h]at h3;simp at h3⟩
     ·rw [if_neg h3]
      have h3':a.fIdxs.length=b.fIdxs.length:=by
       have:(a.fIdxs.length:Int)=b.fIdxs.length:=by simpa using h3
       omega
      rw [zj6 (xs:=a.fIdxs) (ys:=b.fIdxs) h3' (fun x y=>x.fName==y.fName&&(x.fCol==y.fCol&&(x.fStage==y.fStage))) false (some true) ?_ ?_]
      ·have z1:=zm9 (p:=fun x y:za7=>x.fName==y.fName&&(x.fCol==y.fCol&&(x.fStage==y.fStage))) (f:=id) (fun x y=>by
        simp only [Bool.and_eq_true,beq_iff_eq,id]
        constructor
        ·rintro⟨k1,k2,k3⟩;exact zAt (by simp [nc,k1,k2]) k3
        ·rintro rfl;simp) h3'
       rw [List.map_id,List.map_id]at z1
       rw [←z1]
       cases((a.fIdxs.zip b.fIdxs).all fun z=>z.1.fName==z.2.fName&&(z.1.fCol==z.2.fCol&&(z.1.fStage==z.2.fStage)))<;>exact⟨_,rfl,by simp⟩
      ·intro i hi1 hj1
       show zaF a.fIdxs b.fIdxs i=_
       unfold zaF
       have:=ha.idxs
       rw [if_pos (by simpa using hi1),zae hi1,Option.bind_some,zae hj1,Option.bind_some,zbS hi1 (by omega)]
       cases(a.fIdxs[i].fName==b.fIdxs[i].fName&&(a.fIdxs[i].fCol==b.fIdxs[i].fCol&&(a.fIdxs[i].fStage==b.fIdxs[i].fStage)))<;>rfl
      ·show zaF a.fIdxs b.fIdxs a.fIdxs.length=_
       unfold zaF
       rw [if_neg (by simp)]
    obtain⟨r2,e2,f2⟩:=e2
    rw [e2,Option.bind_some]
    exact⟨_,rfl,by rw [f2];exact⟨fun h=>zpV h1' h2' h,fun h=>by rw [h]⟩⟩
   ·rw [if_neg h2]
    exact⟨_,rfl,by simp,fun h=>absurd (f1.2 (by rw [h])) h2⟩
  ·rw [if_neg h1]
   exact⟨_,rfl,by simp,fun h=>by rw [h]at h1;simp at h1⟩
 obtain⟨r,e,f⟩:=key
 rw [e];congr 1
 rw [Bool.eq_iff_iff,f,zoo]
end Go.Proofs.YtgobcjbjogkpjaaGreatDoor
end
section
namespace Go.Proofs.YtgobcjbjogkpjaaGreatDoor
open Go.RowKit
set_option maxRecDepth 100000
structure zfb (s:zaf):Prop where
 name:s.fName.length≤2000000
 ways:s.fWays.length≤2000000
 way: ∀t∈s.fWays,zcY t
 at_:s.fAt.length≤2000000
 store:zmk s.fStore
theorem zy4 {t:zab} (h:zag t=true):zCm t:=by
 unfold zag at h
 simp only [Bool.and_eq_true,decide_eq_true_eq]at h
 refine⟨by omega,fun x hx=> ?_⟩
 obtain⟨i,hi,rfl⟩:=List.mem_iff_getElem.1 hx
 have h1:=List.all_eq_true.1 h.2 i (List.mem_range.2 hi)
 unfold zmF at h1
 simp only [Bool.and_eq_true,List.getElem?_eq_getElem hi,Option.getD_some]at h1
 exact zaE.1 h1.1.2
theorem zwD {α γ:Type} (f:α→γ): ∀(l:List α) (k:Nat) (d y:α),f y=f ((l[k]?).getD d)→(l.set k y).map f=l.map f
 | [],k,d,y,_=>rfl
 |x::l,0,d,y,h=>by
  simp only [List.getElem?_cons_zero,Option.getD_some]at h
  simp [h]
 |x::l,k+1,d,y,h=>by
  simp only [List.getElem?_cons_succ]at h
  simp [zwD f l k d y h]
theorem zky (t:zab) (k c:Int):(zgu t k c).fIdxs.map (·.fName)=t.fIdxs.map (·.fName):=zwD _ _ _ ⟨[],0,0⟩ _ rfl
theorem zzE {t:zab} {k c:Int} (h:zCm t) (h0:0≤c) (h3:c≤3):zCm (zgu t k c):=by
 refine⟨by unfold zgu;simpa using h.len,fun x hx=> ?_⟩
 rcases List.mem_or_eq_of_mem_set hx with hx|rfl
 ·exact h.stg x hx
 ·exact⟨h0,h3⟩
theorem zv2 {t:zab} {k c:Int} (h:zcY t):zcY (zgu t k c):=by
 refine⟨h.name,h.cols,h.col,by unfold zgu;simpa using h.idxs,fun x hx=> ?_⟩
 have h1:x.fName∈(zgu t k c).fIdxs.map (·.fName):=List.mem_map.2 ⟨x,hx,rfl⟩
 rw [zky]at h1
 obtain⟨y,hy,e⟩:=List.mem_map.1 h1
 rw [←e];exact h.idx y hy
theorem zC9 {t:zab} {k a b:Int} (hS:zcY t) (h:zCm t) (ha0:0≤a) (ha3:a≤3) (hb0:0≤b) (hb3:b≤3): ∀w∈way t k a b,w.fIdxs.map (·.fName)=t.fIdxs.map (·.fName)∧zCm w∧zcY w:=by
 intro w hw
 rcases List.mem_cons.1 hw with rfl|hw
 ·exact⟨rfl,h,hS⟩
 ·obtain⟨c,hc,rfl⟩:=List.mem_map.1 hw
  have:=ztE 3 ha0 ha3 hb0 hb3 c hc
  exact⟨zky t k c,zzE h this.1 this.2,zv2 hS⟩
theorem zva {xs ys:List za7} {n:Str} (h:xs.map (·.fName)=ys.map (·.fName)):decide (zhc (fun x:za7=>x.fName==n) xs≥0)=decide (zhc (fun x:za7=>x.fName==n) ys≥0):=by
 rw [zkl,zkl]
 have e: ∀l:List za7,(l.any fun x=>x.fName==n)=(l.map (·.fName)).any (· ==n):=fun l=>by rw [List.any_map];rfl
 rw [e,e,h]
def noT:zab:=⟨[], [], []⟩
def zbN (s:zaf):zab:=(s.fWays[0]?).getD noT
def zkY (s:zaf):zab:=(s.fWays[s.fWays.length-1]?).getD noT
def kOf (t:zab) (n:Str):Int:=zhc (fun y:za7=>y.fName==n) t.fIdxs
def zdg (t:zab) (n:Str):Int:=((t.fIdxs[(kOf t n).toNat]?).getD ⟨[],0,0⟩).fStage
def ziK (s:zaf):List zab:=way (zbN s) (kOf (zbN s) s.fName) (zdg (zbN s) s.fName) (zdg (zkY s) s.fName)
theorem zBg {t:zab} {n:Str} {x:za7} (h:zfO t n x):zdg t n=x.fStage:=by
 unfold zdg kOf
 rw [(zn2 h.at_).2.1];rfl
theorem zka {s:zaf} (h:1≤s.fWays.length):getI s.fWays 0=some (zbN s)∧zbN s∈s.fWays:=by
 have h0:0<s.fWays.length:=by omega
 have e:zbN s=s.fWays[0]:=by unfold zbN;rw [List.getElem?_eq_getElem h0];rfl
 rw [e]
 exact⟨zae h0,List.getElem_mem h0⟩
theorem zsF {s:zaf} (h:1≤s.fWays.length) (h4:s.fWays.length≤4):getI s.fWays (IntKind.i64.wrap ((s.fWays.length:Int)-1))=some (zkY s)∧zkY s∈s.fWays:=by
 have h0:s.fWays.length-1<s.fWays.length:=by omega
 have e:zkY s=s.fWays[s.fWays.length-1]:=by unfold zkY;rw [List.getElem?_eq_getElem h0];rfl
 have w:IntKind.i64.wrap ((s.fWays.length:Int)-1)=((s.fWays.length-1:Nat):Int):=by rw [zaH (by omega) (by omega)];omega
 rw [e,w]
 exact⟨zae h0,List.getElem_mem h0⟩
theorem zli {t:zab} {n:Str} (h:zji t n=true): ∃x,zfO t n x∧zdg t n=x.fStage∧0≤x.fStage∧x.fStage≤3∧zag t=true:=by
 obtain⟨x,hx,_⟩:=zCk h
 have hg:zag t=true:=by
  unfold zji at h
  simp only [Bool.and_eq_true]at h
  exact h.1
 have:=(zy4 hg).stg x (ztJ hx.at_)
 exact⟨x,hx,zBg hx,this.1,this.2,hg⟩
theorem zDJ {s:zaf} (hS:zfb s) (h1:1≤s.fWays.length) (h4:s.fWays.length≤4): ∃sw,zeS s=some sw∧(sw=true↔(∀t∈s.fWays,zji t s.fName=true)∧s.fWays=ziK s):=by
 unfold zeS
 obtain⟨e0,m0⟩:=zka h1
 obtain⟨e1,m1⟩:=zsF h1 h4
 have S0:=hS.way _ m0
 have S1:=hS.way _ m1
 rw [zjX,Option.bind_some,if_pos (zaE.2 ⟨by omega,by omega⟩),e0,Option.bind_some,zkz S0,Option.bind_some]
 have no: ∀{t:zab},t∈s.fWays→zji t s.fName≠true→(false=true↔(∀t∈s.fWays,zji t s.fName=true)∧s.fWays=ziK s):=fun ht hn=>⟨by simp,fun h=>absurd (h.1 _ ht) hn⟩
 by_cases g0:zag (zbN s)=true
 ·rw [if_pos g0,zmr S0,Option.bind_some]
  by_cases k0:zhc (fun x:za7=>x.fName==s.fName) (zbN s).fIdxs<0
  ·rw [if_pos (by simpa using k0)]
   exact⟨_,rfl,no m0 (by unfold zji;intro hq;rw [Bool.and_eq_true,decide_eq_true_eq]at hq;omega)⟩
  ·rw [if_neg (by simpa using k0),e1,Option.bind_some,zkz S1,Option.bind_some]
   by_cases g1:zag (zkY s)=true
   ·rw [if_pos g1,zmr S1,Option.bind_some]
    by_cases k1:zhc (fun x:za7=>x.fName==s.fName) (zkY s).fIdxs<0
    ·rw [if_pos (by simpa using k1)]
     exact⟨_,rfl,no m1 (by unfold zji;intro hq;rw [Bool.and_eq_true,decide_eq_true_eq]at hq;omega)⟩
    ·rw [if_neg (by simpa using k1),Option.bind_some]
     have H0:zji (zbN s) s.fName=true:=by unfold zji;simp only [Bool.and_eq_true,decide_eq_true_eq];exact⟨g0,by omega⟩
     have H1:zji (zkY s) s.fName=true:=by unfold zji;simp only [Bool.and_eq_true,decide_eq_true_eq];exact⟨g1,by omega⟩
     obtain⟨x,hx,sx,x0,x3,_⟩:=zli H0
     obtain⟨y,hy,sy,y0,y3,_⟩:=zli H1
     rw [hy.at_,Option.bind_some,zCB S0 hx x0 x3 y0 y3,Option.bind_some]
     have hW:way (zbN s) (zhc (fun y:za7=>y.fName==s.fName) (zbN s).fIdxs) x.fStage y.fStage=ziK s:=by unfold ziK kOf;rw [sx,sy]
     rw [hW]
     have hM:=zC9 (t:=zbN s) (k:=kOf (zbN s) s.fName) (a:=zdg (zbN s) s.fName) (b:=zdg (zkY s) s.fName) S0 (zy4 g0) (by omega) (by omega) (by omega) (by omega)
     have hM: ∀w∈ziK s,w.fIdxs.map (·.fName)=(zbN s).fIdxs.map (·.fName)∧zCm w∧zcY w:=hM
     by_cases hl:((ziK s).length:Int) !=(s.fWays.length:Int)
     ·rw [if_pos hl]
      exact⟨_,rfl,by simp,fun h=>by rw [←h.2]at hl;simp at hl⟩
     ·rw [if_neg hl]
      have hl':(ziK s).length=s.fWays.length:=by
       have:((ziK s).length:Int)=(s.fWays.length:Int):=by simpa using hl
       omega
      rw [zj6 (xs:=ziK s) (ys:=s.fWays) hl' (fun w y=>zag y&&eqT w y) false (some true) ?_ ?_]
      ·have z1:=zm9 (p:=eqT) (f:=id) (fun x y=>zoo) hl'
       rw [List.map_id,List.map_id]at z1
       have z2:((ziK s).zip s.fWays).all (fun z=>zag z.2)=s.fWays.all zag:=by
        have:=List.map_snd_zip (l₁:=ziK s) (l₂:=s.fWays) (by omega)
        conv=>rhs;rw [←this]
        rw [List.all_map];rfl
       have z3:(((ziK s).zip s.fWays).all fun z=>zag z.2&&eqT z.1 z.2)=(s.fWays.all zag&&((ziK s).zip s.fWays).all fun z=>eqT z.1 z.2):=by
        rw [←z2]
        rw [Bool.eq_iff_iff]
        simp only [List.all_eq_true,Bool.and_eq_true]
        exact⟨fun h=>⟨fun z hz=>(h z hz).1,fun z hz=>(h z hz).2⟩,fun h z hz=>⟨h.1 z hz,h.2 z hz⟩⟩
       have key:(((ziK s).zip s.fWays).all fun z=>zag z.2&&eqT z.1 z.2)=true↔(∀t∈s.fWays,zji t s.fName=true)∧s.fWays=ziK s:=by
        rw [z3,Bool.and_eq_true,z1]
        constructor
        ·rintro⟨a1,a2⟩
         refine⟨fun t ht=> ?_,a2.symm⟩
         have q1:=List.all_eq_true.1 a1 t ht
         rw [←a2]at ht
         have q2:=zva (n:=s.fName) (hM t ht).1
         unfold zji at H0 ⊢
         simp only [Bool.and_eq_true]at H0 ⊢
         exact⟨q1,by rw [q2];exact H0.2⟩
        ·rintro⟨a1,a2⟩
         exact⟨List.all_eq_true.2 fun t ht=>by have:=a1 t ht;unfold zji at this;simp only [Bool.and_eq_true]at this;exact this.1,a2.symm⟩
       by_cases hz:(((ziK s).zip s.fWays).all fun z=>zag z.2&&eqT z.1 z.2)=true
       ·rw [if_pos hz];exact⟨_,rfl,fun _=>key.1 hz,fun _=>rfl⟩
       ·rw [if_neg hz];exact⟨_,rfl,by simp,fun h=>absurd (key.2 h) hz⟩
      ·intro i hi hj
       show zd8 s (ziK s) i=_
       unfold zd8
       have Sj:=hS.way _ (List.getElem_mem hj)
       obtain⟨_,Ti,Si⟩:=hM _ (List.getElem_mem hi)
       rw [if_pos (by simpa using hi),zae hj,Option.bind_some,zkz Sj,Option.bind_some]
       by_cases gj:zag s.fWays[i]=true
       ·rw [if_pos gj,zae hi,Option.bind_some]
        obtain⟨r,er,fr⟩:=zxo (a:=(ziK s)[i]) (b:=s.fWays[i]) Si
        rw [er,Option.bind_some]
        by_cases hr:r=true
        ·rw [if_pos hr]
         obtain⟨c1,c2,c3⟩:=fr.1 hr
         have c4:=congrArg List.length c3
         simp only [List.length_map]at c4
         obtain⟨v,ev,fv⟩:=zFJ Ti (zy4 gj) c4
         rw [ev,Option.bind_some,zbS hi (by omega)]
         by_cases hv:v=0
         ·have:=zoo.2 (zpV c1 c2 (ztm c3 (fv.1 hv)))
          rw [if_neg (by simp [hv]),if_pos (by rw [gj,this];rfl)]
         ·rw [if_pos (by simpa using hv),if_neg (by
           simp only [Bool.and_eq_true,not_and]
           intro _ h
           rw [zoo.1 h]at fv
           exact hv (fv.2 rfl))]
        ·rw [if_neg hr,if_neg (by
          simp only [Bool.and_eq_true,not_and]
          intro _ h
          rw [zoo.1 h]at fr
          exact hr (fr.2 ⟨rfl,rfl,rfl⟩))]
       ·rw [if_neg gj,if_neg (by simp [gj])]
      ·show zd8 s (ziK s) (ziK s).length=_
       unfold zd8
       rw [if_neg (by simp)]
   ·rw [if_neg g1]
    exact⟨_,rfl,no m1 (by unfold zji;simp [g1])⟩
 ·rw [if_neg g0]
  exact⟨_,rfl,no m0 (by unfold zji;simp [g0])⟩
theorem zDD {xs:List Int} {a b:Int} (h:xs.length≤2000000):zjq xs a b=some (xs.all fun y=>inB y a b):=by
 unfold zjq
 have h1:=znw (xs:=xs) (body:=fun s:Int=>zdV xs a b s) (fun i (_:Unit)=>i) (fun y _=>some (if inB y a b=true then .inl ()else .inr (some false))) (fun _=>some true)
  (fun i hi s=>by
   show zdV xs a b i=_
   unfold zdV
   rw [if_pos (by simpa using hi),zae hi,Option.bind_some,zjX,Option.bind_some,zbS hi (by omega)]
   cases inB xs[i] a b<;>simp [ztB]) (fun s=>by
   show zdV xs a b xs.length=_
   unfold zdV
   rw [if_neg (by simp)]) ()
 rw [zvy (fun y=>inB y a b) false fun x _ s=>rfl]at h1
 refine h1.trans ?_
 cases(xs.all fun y=>inB y a b)<;>rfl
def zij (s:zaf):Prop:=1≤s.fWays.length∧s.fWays.length≤4∧(∀t∈s.fWays,zji t s.fName=true)∧s.fWays=ziK s∧inB s.fAt.length 1 3=true∧(∀y∈s.fAt,0≤y∧y≤(s.fWays.length:Int)-1)∧zbY s.fStore=true
theorem zCh {s:zaf}:(s.fAt.all fun y=>inB y 0 ((s.fWays.length:Int)-1))=true↔ ∀y∈s.fAt,0≤y∧y≤(s.fWays.length:Int)-1:=by
 rw [List.all_eq_true]
 exact⟨fun h y hy=>zaE.1 (h y hy),fun h y hy=>zaE.2 (h y hy)⟩
theorem zym {s:zaf} (hS:zfb s): ∃g,zbJ s=some g∧(g=true↔zij s):=by
 unfold zbJ
 by_cases h:1≤s.fWays.length∧s.fWays.length≤4
 ·obtain⟨sw,e,f⟩:=zDJ hS h.1 h.2
  rw [e,Option.bind_some]
  have w:IntKind.i64.wrap ((s.fWays.length:Int)-1)=(s.fWays.length:Int)-1:=zaH (by omega) (by omega)
  by_cases hw:sw=true
  ·rw [if_pos hw,zjX,Option.bind_some]
   by_cases h2:inB s.fAt.length 1 3=true
   ·rw [if_pos h2,w,zDD hS.at_,Option.bind_some]
    by_cases h3:(s.fAt.all fun y=>inB y 0 ((s.fWays.length:Int)-1))=true
    ·rw [if_pos h3,zm1 hS.store,Option.bind_some]
     exact⟨_,rfl,fun h5=>⟨h.1,h.2,(f.1 hw).1,(f.1 hw).2,h2,zCh.1 h3,h5⟩,fun h5=>h5.2.2.2.2.2.2⟩
    ·rw [if_neg h3];exact⟨_,rfl,by simp,fun h5=>absurd (zCh.2 h5.2.2.2.2.2.1) h3⟩
   ·rw [if_neg h2];exact⟨_,rfl,by simp,fun h5=>absurd h5.2.2.2.2.1 h2⟩
  ·rw [if_neg hw];exact⟨_,rfl,by simp,fun h5=>absurd (f.2 ⟨h5.2.2.1,h5.2.2.2.1⟩) hw⟩
 ·have e:zeS s=some false:=by
   unfold zeS
   rw [zjX,Option.bind_some,if_neg (by rw [zaE];omega)]
  rw [e,Option.bind_some,if_neg (by simp)]
  exact⟨_,rfl,by simp,fun h5=>absurd ⟨h5.1,h5.2.1⟩ h⟩
theorem zyF {xs ys:List zab} (h: ∀t∈xs,zcY t) (hl:xs.length≤2000000): ∃r,zam xs ys (fun a b=>zce a b)=some r∧(r=true↔xs=ys):=by
 unfold zam
 by_cases h3:((xs.length:Int) !=(ys.length:Int))=true
 ·rw [if_pos h3]
  exact⟨_,rfl,by simp,fun h=>by rw [h]at h3;simp at h3⟩
 ·rw [if_neg h3]
  have h3':xs.length=ys.length:=by
   have:(xs.length:Int)=ys.length:=by simpa using h3
   omega
  rw [zj6 (xs:=xs) (ys:=ys) h3' eqT false (some true) ?_ ?_]
  ·have z1:=zm9 (p:=eqT) (f:=id) (fun x y=>zoo) h3'
   rw [List.map_id,List.map_id]at z1
   rw [←z1]
   cases((xs.zip ys).all fun z=>eqT z.1 z.2)<;>exact⟨_,rfl,by simp⟩
  ·intro i hi1 hj1
   show zai xs ys (fun a b=>zce a b) i=_
   unfold zai
   rw [if_pos (by simpa using hi1),zae hi1,Option.bind_some,zae hj1,Option.bind_some,zbS hi1 (by omega)]
   dsimp only
   rw [zBI (h _ (List.getElem_mem hi1)),Option.bind_some]
   cases eqT xs[i] ys[i]<;>rfl
  ·show zai xs ys (fun a b=>zce a b) xs.length=_
   unfold zai
   rw [if_neg (by simp)]
theorem ztL {s:zaf} {t:zab} {x:za7} (h:zcY t) (hx:zfO t s.fName x):zbz s t=some x.fStage:=by
 unfold zbz zbx
 rw [zuj h,Option.bind_some,hx.at_,Option.bind_some,Option.bind_some]
theorem zzx {s:zaf} (hS:zfb s): ∃g,zbI s=some g∧(g=true↔zij s):=by
 unfold zbI
 rw [zhL,Option.bind_some]
 by_cases hb:inB s.fWays.length 1 4=true
 ·have h:=zaE.1 hb
  rw [if_pos hb,zhL,Option.bind_some]
  by_cases h2:inB s.fAt.length 1 3=true
  ·rw [if_pos h2,zC0 hS.store,Option.bind_some]
   by_cases h3:zbY s.fStore=true
   ·rw [if_neg (by simp [h3]),zp1 (fun t=> !zji t s.fName) (fun t ht=>by unfold zgC;rw [zDO (hS.way t ht),Option.bind_some]) (by omega),Option.bind_some]
    by_cases h4:(s.fWays.any fun t=> !zji t s.fName)=true
    ·rw [if_pos h4]
     refine⟨_,rfl,by simp,fun h5=> ?_⟩
     obtain⟨t,ht,hn⟩:=List.any_eq_true.1 h4
     rw [h5.2.2.1 t ht]at hn
     simp at hn
    ·have hA: ∀t∈s.fWays,zji t s.fName=true:=fun t ht=>by
      cases hq:zji t s.fName with
      |true=>rfl
      |false=>exact absurd (List.any_eq_true.2 ⟨t,ht,by simp [hq]⟩) h4
     have w:IntKind.i64.wrap ((s.fWays.length:Int)-1)=(s.fWays.length:Int)-1:=zaH (by omega) (by omega)
     have hat:=hS.at_
     rw [if_neg h4,zp1 (fun y=> !inB y 0 ((s.fWays.length:Int)-1)) (fun y hy=>by unfold zg0;rw [w,zhL,Option.bind_some]) (by omega),Option.bind_some]
     by_cases h5:(s.fAt.any fun y=> !inB y 0 ((s.fWays.length:Int)-1))=true
     ·rw [if_pos h5]
      refine⟨_,rfl,by simp,fun h6=> ?_⟩
      obtain⟨y,hy,hn⟩:=List.any_eq_true.1 h5
      rw [zaE.2 (h6.2.2.2.2.2.1 y hy)]at hn
      simp at hn
     ·have hB: ∀y∈s.fAt,0≤y∧y≤(s.fWays.length:Int)-1:=fun y hy=>by
       cases hq:inB y 0 ((s.fWays.length:Int)-1)with
       |true=>exact zaE.1 hq
       |false=>exact absurd (List.any_eq_true.2 ⟨y,hy,by simp [hq]⟩) h5
      obtain⟨e0,m0⟩:=zka (s:=s) (by omega)
      obtain⟨e1,m1⟩:=zsF (s:=s) (by omega) (by omega)
      obtain⟨x,hx,sx,x0,x3,_⟩:=zli (hA _ m0)
      obtain⟨y,hy,sy,y0,y3,_⟩:=zli (hA _ m1)
      rw [if_neg h5,e0,Option.bind_some,e1,Option.bind_some,ztL (hS.way _ m1) hy,Option.bind_some,zD7 (hS.way _ m0) hx x0 x3 y0 y3,Option.bind_some]
      have hW:way (zbN s) (zhc (fun y:za7=>y.fName==s.fName) (zbN s).fIdxs) x.fStage y.fStage=ziK s:=by unfold ziK kOf;rw [sx,sy]
      rw [hW]
      obtain⟨r,er,fr⟩:=zyF (xs:=s.fWays) (ys:=ziK s) hS.way hS.ways
      rw [er,Option.bind_some]
      exact⟨_,rfl,fun hr=>⟨by omega,by omega,hA,fr.1 hr,h2,hB,h3⟩,fun h6=>fr.2 h6.2.2.2.1⟩
   ·rw [if_pos (by simp [h3])];exact⟨_,rfl,by simp,fun h5=>absurd h5.2.2.2.2.2.2 h3⟩
  ·rw [if_neg h2];exact⟨_,rfl,by simp,fun h5=>absurd h5.2.2.2.2.1 h2⟩
 ·rw [if_neg hb];exact⟨_,rfl,by simp,fun h5=>absurd (zaE.2 ⟨by have:=h5.1;omega,by have:=h5.2.1;omega⟩) hb⟩
def xOf (t:zab) (n:Str):za7:=(t.fIdxs[(kOf t n).toNat]?).getD ⟨[],0,0⟩
theorem zCg {t:zab} {n:Str} {x:za7} (h:zfO t n x):xOf t n=x:=by
 unfold xOf kOf
 rw [(zn2 h.at_).2.1];rfl
def zdF (s:zaf):List Int:=s.fAt.map fun y=>zdg ((getI s.fWays y).getD noT) s.fName
def zqt (s:zaf):Bool:=holds (zbN s) s.fName (xOf (zbN s) s.fName) (zw5 (zdF s)) s.fStore
theorem zsO {s:zaf} (hS:zfb s) (hg:zij s):zeN s=some (zqt s)∧zbT s=some (zqt s):=by
 obtain⟨h1,h4,hA,_,h3,hB,hR⟩:=hg
 have h3:=zaE.1 h3
 obtain⟨e0,m0⟩:=zka (s:=s) h1
 obtain⟨x,hx,k1,k2,k3⟩:=zCk (hA _ m0)
 have hT:=zDk hR
 have hW:=hS.store
 have hst: ∀y∈s.fAt,∃tb x,getI s.fWays y=some tb∧tb∈s.fWays∧zfO tb s.fName x∧zdg tb s.fName=x.fStage:=fun y hy=>by
  obtain⟨tb,q1,q2,_⟩:=zip (hB y hy).1 (by have:=(hB y hy).2;omega:y<s.fWays.length)
  obtain⟨x,q3,q4,_⟩:=zli (hA tb q2)
  exact⟨tb,x,q1,q2,q3,q4⟩
 let st:List Int:=s.fAt.map fun y=>zdg ((getI s.fWays y).getD noT) s.fName
 have hn:st.length=s.fAt.length:=by simp [st]
 have hl:st.length≤2000000:=by have:=hS.at_;omega
 have n1:=zwc (s:=s) (st:=st) hn hl fun i hi=>by
  have hi':i<s.fAt.length:=by omega
  obtain⟨tb,x,q1,q2,q3,q4⟩:=hst _ (List.getElem_mem hi')
  refine⟨s.fAt[i],tb,_,x,zae hi',q1,zmr (hS.way _ q2),q3.at_, ?_⟩
  simp only [st,List.getElem_map,q1,Option.getD_some,q4]
 have n2:=zyA (s:=s) (st:=st) hn hl fun i hi=>by
  have hi':i<s.fAt.length:=by omega
  obtain⟨tb,x,q1,q2,q3,q4⟩:=hst _ (List.getElem_mem hi')
  refine⟨tb, ?_, ?_⟩
  ·unfold zaG
   rw [zae hi',Option.bind_some,q1,Option.bind_some]
  ·rw [ztL (hS.way _ q2) q3]
   simp only [st,List.getElem_map,q1,Option.getD_some,q4]
 unfold zeN zbT
 have S0:=hS.way _ m0
 have hnm:=hS.name
 have hask:zde (zbN s) s.fName s.fStore=some true:=by
  rw [zAN S0 hW];unfold zCM;rw [hA _ m0,hR];rfl
 rw [e0,Option.bind_some,Option.bind_some,n1,n2,Option.bind_some,Option.bind_some,zBH S0 (by omega) hnm hx hW.1 hT hask,zA8 S0 k1 hnm k3 hx hW.1 hT]
 unfold zqt
 rw [zCg hx]
 exact⟨rfl,rfl⟩
theorem zyL {s:zaf} (hS:zfb s) (hg:zij s): ∃r,zeN s=some r∧zbT s=some r:=⟨_,zsO hS hg⟩
end Go.Proofs.YtgobcjbjogkpjaaGreatDoor
end
section
namespace Go.Proofs.YtgobcjbjogkpjaaGreatDoor
open Go.RowKit
set_option maxRecDepth 100000
def NoE (t:zab) (n:Str) (st:List zaa):Prop:= ∀w∈st,zca t n w.fKey=false
def NoO (t:zab) (n:Str) (x:za7) (st:List zaa):Prop:= ∀w∈st,zca t n w.fKey=true→ ∃q∈st,zbv t q=true∧w.fKey=zej t n x.fCol (zeY q)
def NoL (t:zab) (n:Str) (x:za7) (st:List zaa):Prop:= ∀q∈st,zbv t q=true→ ∃w∈st,w.fKey=zej t n x.fCol (zeY q)
structure zrg (t:zab) (a:zan):Prop where
 tab:zag t=true
 old:a.fKind≠1→zaq t a.fOld=true
 new:a.fKind≠2→zaq t a.fNew=true
 kind:a.fKind=1∨a.fKind=2∨a.fKind=3
 same:a.fKind=3→zfc a.fOld 0=zfc a.fNew 0
structure zvJ (t:zab) (a:zan) (n:Str) (x:za7):Prop extends zrg t a where
 idx:x∈t.fIdxs
 name:x.fName=n
theorem zvJ.asG {t:zab} {a:zan} {n:Str} {x:za7} (A:zvJ t a n x):zrg t a:=⟨A.tab,A.old,A.new,A.kind,A.same⟩
theorem zDe {t:zab} {a:zan} (hg:zag t=true) (h:zgf t a=true):zrg t a:=by
 unfold zgf at h
 by_cases h1:a.fKind=1
 ·rw [if_pos h1,Bool.and_eq_true]at h
  exact⟨hg,fun k=>absurd h1 k,fun _=>h.2, .inl h1,fun k=>by omega⟩
 rw [if_neg h1]at h
 by_cases h2:a.fKind=2
 ·rw [if_pos h2,Bool.and_eq_true]at h
  exact⟨hg,fun _=>h.1,fun k=>absurd h2 k, .inr (.inl h2),fun k=>by omega⟩
 rw [if_neg h2]at h
 by_cases h3:a.fKind=3
 ·rw [if_pos h3,Bool.and_eq_true,Bool.and_eq_true,beq_iff_eq]at h
  exact⟨hg,fun _=>h.1,fun _=>h.2.1, .inr (.inr h3),fun _=>h.2.2⟩
 rw [if_neg h3]at h
 cases h
theorem zDP {t:zab} {a:zan} {n:Str} {x:za7} (hg:zag t=true) (hx:x∈t.fIdxs) (hn:x.fName=n) (h:zgf t a=true):zvJ t a n x:=⟨zDe hg h,hx,hn⟩
theorem zzi (t:zab) (m:Str) (c:Int) (r:zcm):zej t m c r≠ []:=by unfold zej;simp
section
variable {t:zab} {a:zan} (A:zrg t a)
include A
theorem zrg.oldK_eq (h:a.fKind≠1) {y:za7}:zrh t a y=zej t y.fName y.fCol a.fOld:=by
 have _:=A
 unfold zrh
 rw [if_neg h]
theorem zrg.newK_eq (h:a.fKind≠2) {y:za7}:zo9 t a y=zej t y.fName y.fCol a.fNew:=by
 have _:=A
 unfold zo9
 rw [if_neg h]
theorem zrg.idx_key {y:za7} {w:zaa} (hw:w∈zmA t a y):(w=⟨zrh t a y, [],true⟩∧a.fKind≠1∧zrh t a y≠zo9 t a y∧y.fStage≥1)∨(w=⟨zo9 t a y, [],false⟩∧a.fKind≠2∧y.fStage≥2):=by
 have _:=A
 unfold zmA at hw
 rcases List.mem_append.1 hw with hw|hw
 ·split at hw
  ·rename_i h
   rw [List.mem_singleton]at hw
   refine .inl ⟨hw,fun k=> ?_,h.2.1,h.2.2⟩
   apply h.1
   unfold zrh
   rw [if_pos k]
  ·simp at hw
 ·split at hw
  ·rename_i h
   rw [List.mem_singleton]at hw
   refine .inr ⟨hw,fun k=> ?_,h.2⟩
   apply h.1
   unfold zo9
   rw [if_pos k]
  ·simp at hw
theorem zrg.idx_entry {n:Str} {y:za7} (hy:y∈t.fIdxs) {w:zaa} (hw:w∈zmA t a y): ∃r,zaq t r=true∧w.fKey=zej t y.fName y.fCol r∧zca t n w.fKey=decide (y.fName=n):=by
 have hc:=zaE.1 (zdl A.tab hy).2
 have hl:=(zdl A.tab hy).1
 rcases A.idx_key hw with⟨rfl,h,_⟩|⟨rfl,h,_⟩
 ·refine⟨a.fOld,A.old h,A.oldK_eq h, ?_⟩
  show zca t n (zrh t a y)=_
  rw [A.oldK_eq h]
  exact znt A.tab hl (A.old h) (by omega) hc.2
 ·refine⟨a.fNew,A.new h,A.newK_eq h, ?_⟩
  show zca t n (zo9 t a y)=_
  rw [A.newK_eq h]
  exact znt A.tab hl (A.new h) (by omega) hc.2
theorem zrg.rowWs_key {w:zaa} (hw:w∈znL t a): ∃r,zaq t r=true∧w.fKey=(zeW t r).fKey:=by
 unfold znL at hw
 split at hw
 ·rename_i h
  rw [List.mem_singleton]at hw;subst hw
  exact⟨a.fNew,A.new (by omega),rfl⟩
 ·rename_i h
  split at hw
  ·rw [List.mem_singleton]at hw;subst hw
   exact⟨a.fOld,A.old h,rfl⟩
  ·rw [List.mem_singleton]at hw;subst hw
   exact⟨a.fOld,A.old h,rfl⟩
theorem zrg.mem_act {w:zaa} (hw:w∈zie t a):w∈znL t a∨ ∃y∈t.fIdxs,w∈zmA t a y:=by
 have _:=A
 unfold zie at hw
 rcases List.mem_append.1 hw with h|h
 ·exact .inl h
 ·exact .inr (List.mem_flatMap.1 h)
theorem zrg.new_mem (h:a.fKind≠2):zeW t a.fNew∈zie t a:=by
 refine List.mem_append.2 (.inl ?_)
 unfold znL
 rcases A.kind with k|k|k
 ·rw [if_pos k];exact List.mem_singleton.2 rfl
 ·exact absurd k h
 ·rw [if_neg (by omega),if_neg (by omega),List.mem_singleton,zfe,A.same k,←zfe];rfl
theorem zrg.row_write {w:zaa} (hw:w∈zie t a) (hr:zbv t w=true):w=zeW t a.fNew∧a.fKind≠2:=by
 obtain⟨hgr,hwr⟩:=zjp hr
 rcases A.mem_act hw with h|⟨y,hy,h⟩
 ·unfold znL at h
  rcases A.kind with k|k|k
  ·rw [if_pos k,List.mem_singleton]at h
   exact⟨h,by omega⟩
  ·rw [if_neg (by omega),if_pos k,List.mem_singleton]at h
   have:w.fGone=true:=by rw [h]
   rw [hwr]at this
   cases this
  ·rw [if_neg (by omega),if_neg (by omega),List.mem_singleton,zfe,A.same k,←zfe]at h
   exact⟨h,by omega⟩
 ·obtain⟨r,hgr2,e,_⟩:=A.idx_entry (n:= []) hy h
  rw [hwr]at e
  exact absurd e (zko A.tab (zdl A.tab hy).1 hgr hgr2)
theorem zrg.over_row {w q:zaa} (hw:w∈zie t a) (hq:zbv t q=true) (e:w.fKey=q.fKey):w∈znL t a:=by
 obtain⟨hgr,hwr⟩:=zjp hq
 rcases A.mem_act hw with h|⟨y,hy,h⟩
 ·exact h
 ·obtain⟨r,hgr2,e2,_⟩:=A.idx_entry (n:= []) hy h
  rw [e,hwr]at e2
  exact absurd e2 (zko A.tab (zdl A.tab hy).1 hgr hgr2)
theorem zrg.rowWs_old (h:a.fKind≠1) {w:zaa} (hw:w∈znL t a):w.fKey=(zeW t a.fOld).fKey:=by
 have _:=A
 unfold znL at hw
 rw [if_neg h]at hw
 split at hw<;>(rw [List.mem_singleton]at hw;rw [hw])
theorem zrg.rowWs_some (h:a.fKind≠1): ∃w∈zie t a,w.fKey=(zeW t a.fOld).fKey:=by
 have _:=A
 unfold zie znL
 rw [if_neg h]
 split<;>exact⟨_,List.mem_append.2 (.inl (List.mem_singleton.2 rfl)),rfl⟩
theorem zrg.rowWs_new (h:a.fKind=1) {w:zaa} (hw:w∈znL t a):w.fKey=(zeW t a.fNew).fKey:=by
 have _:=A
 unfold znL at hw
 rw [if_pos h,List.mem_singleton]at hw
 rw [hw]
end
section
variable {t:zab} {a:zan} {n:Str} {x:za7} (A:zvJ t a n x)
include A
theorem zvJ.let_:za5 n 1=true:=by rw [←A.name];exact(zdl A.tab A.idx).1
theorem zvJ.col:1≤x.fCol∧x.fCol≤(t.fCols.length:Int)-1:=zaE.1 (zdl A.tab A.idx).2
theorem zvJ.idx_mem {w:zaa} (hw:w∈zmA t a x):w∈zie t a:=by
 unfold zie
 exact List.mem_append.2 (.inr (List.mem_flatMap.2 ⟨x,A.idx,hw⟩))
theorem zvJ.entry_write {w:zaa} (hw:w∈zie t a) (he:zca t n w.fKey=true):w∈zmA t a x:=by
 rcases A.mem_act hw with h|⟨y,hy,h⟩
 ·obtain⟨r,hr,e⟩:=A.rowWs_key h
  rw [e,zyh A.tab hr]at he
  cases he
 ·obtain⟨r,_,_,e⟩:=A.idx_entry (n:=n) hy h
  rw [e,decide_eq_true_eq]at he
  have:y=x:=(ztc A.tab).nodupKey hy A.idx (he.trans A.name.symm)
  rw [←this];exact h
variable {st st':List zaa} (hB:zub t a st st')
include hB
theorem zvJ.keep_none (hs:x.fStage≤1) (h:NoE t n st):NoE t n st':=by
 intro y hy
 cases he:zca t n y.fKey with
 |false=>rfl
 |true=>
  obtain⟨hgone,h1|h1⟩:=(hB y).1 hy
  ·rcases A.idx_key (A.entry_write h1 he)with⟨e,_⟩|⟨_,_,k⟩
   ·rw [e]at hgone;cases hgone
   ·omega
  ·rw [h y h1.1]at he;cases he
theorem zvJ.keep_orphans (hr:zgs st) (hA:zBT t a st) (hs:1≤x.fStage) (h:NoO t n x st):NoO t n x st':=by
 have hnew:a.fKind≠2→ ∃q∈st',zbv t q=true∧zeY q=a.fNew:=fun k=>
  ⟨zeW t a.fNew,(hB _).2 ⟨rfl, .inl (A.new_mem k)⟩,zAk A.tab (A.new k),znp A.tab (A.new k)⟩
 intro y hy he
 obtain⟨hgone,h1|⟨h1,h2⟩⟩:=(hB y).1 hy
 ·rcases A.idx_key (A.entry_write h1 he)with⟨e,_⟩|⟨e,k,_⟩
  ·rw [e]at hgone;cases hgone
  ·obtain⟨q,q1,q2,q3⟩:=hnew k
   refine⟨q,q1,q2, ?_⟩
   rw [q3,e]
   show zo9 t a x=_
   rw [A.newK_eq k,A.name]
 ·obtain⟨q,q1,q2,q3⟩:=h y h1 he
  obtain⟨hgr,hwr⟩:=zjp q2
  by_cases ho: ∀w∈zie t a,w.fKey≠q.fKey
  ·exact⟨q,(hB q).2 ⟨by rw [hwr];rfl, .inr ⟨q1,ho⟩⟩,q2,q3⟩
  ·have⟨w,hw,e⟩: ∃w∈zie t a,w.fKey=q.fKey:=by
    apply Classical.byContradiction
    intro hc
    exact ho fun w hw e=>hc ⟨w,hw,e⟩
   have hwR:=A.over_row hw q2 e
   by_cases k1:a.fKind=1
   ·exact absurd (e.symm.trans (A.rowWs_new k1 hwR)) (hA.1 k1 q q1)
   ·have hq:q=zeW t a.fOld:=zoI.nodupKey (key:=fun w:zaa=>w.fKey) hr q1 (hA.2 k1) (e.symm.trans (A.rowWs_old k1 hwR))
    have hyk:y.fKey=zrh t a x:=by
     rw [q3,hq,znp A.tab (A.old k1),A.oldK_eq k1,A.name]
    have hon:zrh t a x=zo9 t a x:=by
     apply Classical.byContradiction
     intro hc
     have hm:(⟨zrh t a x, [],true⟩:zaa)∈zmA t a x:=by
      unfold zmA
      rw [if_pos ⟨by rw [A.oldK_eq k1];exact zzi _ _ _ _,hc,hs⟩]
      simp
     exact h2 _ (A.idx_mem hm) hyk.symm
    have k2:a.fKind≠2:=by
     intro k
     have:zo9 t a x= []:=by unfold zo9;rw [if_pos k]
     rw [this,A.oldK_eq k1]at hon
     exact zzi _ _ _ _ hon
    obtain⟨p,p1,p2,p3⟩:=hnew k2
    refine⟨p,p1,p2, ?_⟩
    rw [p3,hyk,hon,A.newK_eq k2,A.name]
theorem zvJ.keep_lacks (hn: ∀w∈st,w.fGone=false) (hs:2≤x.fStage) (h:NoL t n x st):NoL t n x st':=by
 intro q hq hr
 obtain⟨hgr,hwr⟩:=zjp hr
 obtain⟨hgone,h1|⟨h1,h2⟩⟩:=(hB q).1 hq
 ·obtain⟨e,k⟩:=A.row_write h1 hr
  have hm:(⟨zo9 t a x, [],false⟩:zaa)∈zmA t a x:=by
   unfold zmA
   refine List.mem_append.2 (.inr ?_)
   rw [if_pos ⟨by rw [A.newK_eq k];exact zzi _ _ _ _,hs⟩]
   simp
  refine⟨_,(hB _).2 ⟨rfl, .inl (A.idx_mem hm)⟩, ?_⟩
  show zo9 t a x=_
  rw [e,znp A.tab (A.new k),A.newK_eq k,A.name]
 ·obtain⟨w,w1,w2⟩:=h q h1 hr
  by_cases ho: ∀z∈zie t a,z.fKey≠w.fKey
  ·exact⟨w,(hB w).2 ⟨hn w w1, .inr ⟨w1,ho⟩⟩,w2⟩
  ·have⟨z,hz,e⟩: ∃z∈zie t a,z.fKey=w.fKey:=by
    apply Classical.byContradiction
    intro hc
    exact ho fun z hz e=>hc ⟨z,hz,e⟩
   have he:zca t n z.fKey=true:=by
    rw [e,w2,znt A.tab A.let_ hgr (by have:=A.col;omega) A.col.2]
    simp
   rcases A.idx_key (A.entry_write hz he)with⟨e1,k1,_⟩|⟨e1,k2,_⟩
   ·exfalso
    have hk:zej t n x.fCol a.fOld=zej t n x.fCol (zeY q):=by
     have:z.fKey=zrh t a x:=by rw [e1]
     rw [e,w2,A.oldK_eq k1,A.name]at this
     exact this.symm
    have hp:=zwf A.tab A.let_ (A.old k1) hgr hk
    obtain⟨u,u1,u2⟩:=A.rowWs_some k1
    apply h2 u u1
    rw [u2,hwr,zfe,zfe,hp]
   ·exact⟨z,(hB z).2 ⟨by rw [e1], .inl hz⟩,e.trans w2⟩
end
theorem zr8 {t:zab} {n:Str} {x:za7} {st:List zaa}:holds t n x 0 st=true↔NoE t n st:=by
 unfold holds zfi NoE
 rw [if_pos (by rfl)]
 simp only [List.length_map,beq_iff_eq]
 constructor
 ·intro h w hw
  have h0:(st.filter fun w=>zca t n w.fKey)= []:=List.eq_nil_of_length_eq_zero (by omega)
  have:=List.filter_eq_nil_iff.1 h0 w hw
  simpa using this
 ·intro h
  rw [List.filter_eq_nil_iff.2 fun w hw=>by rw [h w hw];simp]
  rfl
theorem zti {a b:List Str}:((zDj a b).length:Int)=0↔ ∀k∈a,k∈b:=by
 unfold zDj
 constructor
 ·intro h k hk
  have h0:(a.filter fun k=> !b.contains k)= []:=List.eq_nil_of_length_eq_zero (by omega)
  have:=List.filter_eq_nil_iff.1 h0 k hk
  simpa using this
 ·intro h
  rw [List.filter_eq_nil_iff.2 fun k hk=>by simpa using h k hk]
  rfl
theorem zjY {t:zab} {n:Str} {x:za7} {st:List zaa} {k:Str}:k∈wanted t n x st↔ ∃q∈st,zbv t q=true∧k=zej t n x.fCol (zeY q):=by
 unfold wanted rows
 simp only [List.mem_map,List.mem_filter]
 constructor
 ·rintro⟨r,⟨q,⟨h1,h2⟩,rfl⟩,rfl⟩;exact⟨q,h1,h2,rfl⟩
 ·rintro⟨q,h1,h2,rfl⟩;exact⟨_,⟨q,⟨h1,h2⟩,rfl⟩,rfl⟩
theorem zkB {t:zab} {n:Str} {st:List zaa} {k:Str}:k∈zfi t n st↔ ∃w∈st,zca t n w.fKey=true∧k=w.fKey:=by
 unfold zfi
 simp only [List.mem_map,List.mem_filter]
 constructor
 ·rintro⟨w,⟨h1,h2⟩,rfl⟩;exact⟨w,h1,h2,rfl⟩
 ·rintro⟨w,h1,h2,rfl⟩;exact⟨w,⟨h1,h2⟩,rfl⟩
theorem zz5 {t:zab} {n:Str} {x:za7} {st:List zaa}:(∀k∈zfi t n st,k∈wanted t n x st)↔NoO t n x st:=by
 constructor
 ·intro h w hw he
  exact zjY.1 (h w.fKey (zkB.2 ⟨w,hw,he,rfl⟩))
 ·intro h k hk
  obtain⟨w,hw,he,rfl⟩:=zkB.1 hk
  exact zjY.2 (h w hw he)
theorem zuW {t:zab} {n:Str} {x:za7} {st:List zaa}:holds t n x 1 st=true↔NoO t n x st:=by
 rw [←zz5,←zti]
 unfold holds
 rw [if_neg (by decide)]
 simp
theorem zDc {t:zab} {a:zan} {n:Str} {x:za7} {st:List zaa} (A:zvJ t a n x):(∀k∈wanted t n x st,k∈zfi t n st)↔NoL t n x st:=by
 constructor
 ·intro h q hq hr
  obtain⟨w,hw,_,e⟩:=zkB.1 (h _ (zjY.2 ⟨q,hq,hr,rfl⟩))
  exact⟨w,hw,e.symm⟩
 ·intro h k hk
  obtain⟨q,hq,hr,rfl⟩:=zjY.1 hk
  obtain⟨w,hw,e⟩:=h q hq hr
  refine zkB.2 ⟨w,hw, ?_,e.symm⟩
  rw [e,znt A.tab A.let_ (zjp hr).1 (by have:=A.col;omega) A.col.2]
  simp
theorem zvu {t:zab} {a:zan} {n:Str} {x:za7} {st:List zaa} (A:zvJ t a n x):holds t n x 2 st=true↔NoO t n x st∧NoL t n x st:=by
 rw [←zz5,←zDc A,←zti,←zti]
 unfold holds
 rw [if_neg (by decide)]
 simp
theorem zFL {t:zab} {a:zan} {n:Str} {x:za7} {st st':List zaa} {low:Int} (A:zvJ t a n x) (hg:zbY st=true) (hA:zBT t a st) (hB:zub t a st st')
  (hl:low=0∧x.fStage≤1∨low=1∧1≤x.fStage∨low=2∧2≤x.fStage) (h:holds t n x low st=true):holds t n x low st'=true:=by
 obtain⟨hr,hn⟩:=zj5 hg
 rcases hl with⟨rfl,hs⟩|⟨rfl,hs⟩|⟨rfl,hs⟩
 ·exact zr8.2 (A.keep_none hB hs (zr8.1 h))
 ·exact zuW.2 (A.keep_orphans hB hr.rise hA hs (zuW.1 h))
 ·have h2:=(zvu A).1 h
  exact(zvu A).2 ⟨A.keep_orphans hB hr.rise hA (by omega) h2.1,A.keep_lacks hB hn hs h2.2⟩
end Go.Proofs.YtgobcjbjogkpjaaGreatDoor
end
section
namespace Go.Proofs.YtgobcjbjogkpjaaGreatDoor
open Go.RowKit
set_option maxRecDepth 100000
abbrev zt5 (l:List zaa):Prop:=l.Pairwise fun a b=>a.fKey≠b.fKey
theorem ztS: ∀(l:List zaa) {s:List zaa},zt5 l→zgs s→ ∀y,y∈l.foldl (fun o w=>zha wk w o) s↔y∈l∨y∈s∧ ∀w∈l,w.fKey≠y.fKey
 | [],s,_,_,y=>by simp
 |x::l,s,hl,hs,y=>by
  unfold zt5 at hl
  rw [List.pairwise_cons]at hl
  rw [List.foldl_cons,ztS l hl.2 (zlc hs),znT hs]
  constructor
  ·rintro(h|⟨h1|h1,h2⟩)
   ·exact .inl (by simp [h])
   ·exact .inl (by simp [h1])
   ·exact .inr ⟨h1.1,fun w hw=>by
     rcases List.mem_cons.1 hw with rfl|hw
     ·exact fun e=>h1.2 e.symm
     ·exact h2 w hw⟩
  ·rintro(h|⟨h1,h2⟩)
   ·rcases List.mem_cons.1 h with rfl|h
    ·exact .inr ⟨.inl rfl,fun w hw e=>hl.1 w hw e.symm⟩
    ·exact .inl h
   ·exact .inr ⟨.inr ⟨h1,fun e=>h2 x (by simp) e.symm⟩,fun w hw=>h2 w (by simp [hw])⟩
theorem zxW {l:List zaa} (h:zgs l):zt5 l:=List.Pairwise.imp (fun h=>zln h) h
theorem zuP: ∀(l:List zaa) {s:List zaa},zgs s→zgs (l.foldl (fun o w=>zha wk w o) s)
 | [],_,h=>h
 |_::l,_,h=>zuP l (zlc h)
theorem zBa {t:zab} {m n:Str} {c d:Int} {r q:zcm} (hg:zag t=true) (hm:za5 m 1=true) (hn:za5 n 1=true) (h:zaq t r=true) (k:zaq t q=true) (hne:m≠n):zej t m c r≠zej t n d q:=by
 intro e
 have h1:=zkh (c:=c) hg hm h
 rw [e,zkh hg hn k]at h1
 simp only [List.cons.injEq]at h1
 have h2:=h1.1
 unfold head at h2
 exact hne (List.append_cancel_left h2).symm
theorem zrg.apart {t:zab} {a:zan} (A:zrg t a):zt5 (zie t a):=by
 unfold zt5 zie
 rw [List.pairwise_append]
 refine⟨?_, ?_,fun w hw z hz e=> ?_⟩
 ·unfold znL
  split
  ·exact List.pairwise_singleton _ _
  ·split<;>exact List.pairwise_singleton _ _
 ·rw [List.pairwise_flatMap]
  refine⟨fun y hy=> ?_, ?_⟩
  ·unfold zmA
   rw [List.pairwise_append]
   refine⟨?_, ?_,fun w hw z hz e=> ?_⟩
   ·split
    ·exact List.pairwise_singleton _ _
    ·exact List.Pairwise.nil
   ·split
    ·exact List.pairwise_singleton _ _
    ·exact List.Pairwise.nil
   ·split at hw
    ·rename_i h
     rw [List.mem_singleton]at hw
     split at hz
     ·rw [List.mem_singleton]at hz
      rw [hw,hz]at e
      exact h.2.1 e
     ·simp at hz
    ·simp at hw
  ·refine List.Pairwise.imp_of_mem (fun{y z} hy hz hyz w hw u hu e=> ?_) (ztc A.tab)
   obtain⟨r,h1,h2,_⟩:=A.idx_entry (n:= []) hy hw
   obtain⟨q,k1,k2,_⟩:=A.idx_entry (n:= []) hz hu
   rw [h2,k2]at e
   exact zBa A.tab (zdl A.tab hy).1 (zdl A.tab hz).1 h1 k1 (zln hyz) e
 ·obtain⟨r,h1,h2⟩:=A.rowWs_key hw
  obtain⟨y,hy,hz⟩:=List.mem_flatMap.1 hz
  obtain⟨q,k1,k2,_⟩:=A.idx_entry (n:= []) hy hz
  rw [h2,k2]at e
  exact zko A.tab (zdl A.tab hy).1 h1 k1 e
theorem zrg.behind {t:zab} {a:zan} (A:zrg t a) {st:List zaa} (hr:zgs st):zub t a st (zfh st ((zie t a).foldl (fun o w=>zha wk w o) [])):=by
 have hw:zgs ((zie t a).foldl (fun o w=>zha wk w o) []):=zuP _ List.Pairwise.nil
 have hm: ∀y,y∈(zie t a).foldl (fun o w=>zha wk w o) []↔y∈zie t a:=fun y=>by
  rw [ztS _ A.apart List.Pairwise.nil]
  simp
 intro y
 unfold zfh
 rw [List.mem_filter,ztS _ (zxW hw) hr,hm]
 constructor
 ·rintro⟨h|⟨h1,h2⟩,h3⟩
  ·exact⟨by simpa using h3, .inl h⟩
  ·exact⟨by simpa using h3, .inr ⟨h1,fun w hw=>h2 w ((hm w).2 hw)⟩⟩
 ·rintro⟨h3,h|⟨h1,h2⟩⟩
  ·exact⟨.inl h,by simpa using h3⟩
  ·exact⟨.inr ⟨h1,fun w hw=>h2 w ((hm w).1 hw)⟩,by simpa using h3⟩
def opW (o:DOp):zaa:=if o.fKind=3 then⟨o.fKey, [],true⟩else⟨o.fKey,o.fVal,false⟩
theorem zBm (t:zab) (a:zan) (x:za7):(zit t a x).map opW=zmA t a x:=by
 unfold zit zmA zmm zpc
 rw [List.map_append]
 congr 1
 ·split<;>rfl
 ·split<;>rfl
theorem zqP {α β:Type} (f:α→List β): ∀(xs:List α) (a:List β),xs.foldl (fun a x=>a++f x) a=a++xs.flatMap f
 | [],a=>by simp
 |x::xs,a=>by rw [List.foldl_cons,zqP f xs,List.flatMap_cons,List.append_assoc]
theorem zv1 (t:zab) (a:zan): ∃o rest,zj1 t a=o::rest∧rest.map opW=zie t a∧(∀p∈rest,p.fKind=2∨p.fKind=3)∧
  (a.fKind=1→o=⟨6,(zeW t a.fNew).fKey, [],0⟩)∧(a.fKind≠1→o=⟨7,(zeW t a.fOld).fKey,(zeW t a.fOld).fVal,0⟩):=by
 have hi: ∀p∈t.fIdxs.flatMap (zit t a),p.fKind=2∨p.fKind=3:=by
  intro p hp
  obtain⟨y,_,hp⟩:=List.mem_flatMap.1 hp
  unfold zit zmm zpc at hp
  rcases List.mem_append.1 hp with hp|hp
  ·split at hp
   ·rw [List.mem_singleton]at hp;subst hp;exact .inr rfl
   ·simp at hp
  ·split at hp
   ·rw [List.mem_singleton]at hp;subst hp;exact .inl rfl
   ·simp at hp
 have hw:(t.fIdxs.flatMap (zit t a)).map opW=t.fIdxs.flatMap (zmA t a):=by
  rw [List.map_flatMap]
  congr 1
  funext y
  exact zBm t a y
 unfold zj1 zie znL
 rw [zqP]
 unfold zjN
 by_cases h1:a.fKind=1
 ·rw [if_pos h1,if_pos h1]
  refine⟨_,_,rfl, ?_,fun p hp=> ?_,fun _=>rfl,fun k=>absurd h1 k⟩
  ·show opW _::(t.fIdxs.flatMap (zit t a)).map opW=_
   rw [hw];rfl
  ·rcases List.mem_cons.1 hp with rfl|hp
   ·exact .inl rfl
   ·exact hi p hp
 ·rw [if_neg h1,if_neg h1]
  by_cases h2:a.fKind=2
  ·rw [if_pos h2,if_pos h2]
   refine⟨_,_,rfl, ?_,fun p hp=> ?_,fun k=>absurd k h1,fun _=>rfl⟩
   ·show opW _::(t.fIdxs.flatMap (zit t a)).map opW=_
    rw [hw];rfl
   ·rcases List.mem_cons.1 hp with rfl|hp
    ·exact .inr rfl
    ·exact hi p hp
  ·rw [if_neg h2,if_neg h2]
   refine⟨_,_,rfl, ?_,fun p hp=> ?_,fun k=>absurd k h1,fun _=>rfl⟩
   ·show opW _::(t.fIdxs.flatMap (zit t a)).map opW=_
    rw [hw];rfl
   ·rcases List.mem_cons.1 hp with rfl|hp
    ·exact .inl rfl
    ·exact hi p hp
end Go.Proofs.YtgobcjbjogkpjaaGreatDoor
end
section
namespace Go.Proofs.YtgobcjbjogkpjaaGreatDoor
open Go.RowKit
set_option maxRecDepth 100000
theorem zoE {got:List zhb}: ∀(l:List DOp) (ws:List zaa),(∀p∈l,p.fKind=2∨p.fKind=3)→zgt got l ws=(3, [],(l.map opW).foldl (fun o w=>zha wk w o) ws)
 | [],ws,_=>rfl
 |o::l,ws,h=>by
  have hl: ∀p∈l,p.fKind=2∨p.fKind=3:=fun p hp=>h p (by simp [hp])
  rw [zgt,List.map_cons,List.foldl_cons]
  rcases h o (by simp)with k|k
  ·rw [if_pos k,zoE l _ hl]
   unfold opW
   rw [if_neg (by omega)]
  ·rw [if_neg (by omega),if_pos k,zoE l _ hl]
   unfold opW
   rw [if_pos k]
theorem zzm {st:List zaa} {o:DOp} {rest:List DOp} (h2:o.fKind≠2) (h3:o.fKind≠3) (hr: ∀p∈rest,p.fKind=2∨p.fKind=3):
  zlA st (o::rest)=if zur o (zcR st o.fKey).fVal (zcR st o.fKey).fThere=true then((rest.map opW).foldl (fun o w=>zha wk w o) [],true)else([],false):=by
 have hgk:(zcR st o.fKey).fKey=o.fKey:=by
  unfold zcR
  cases st.find? (fun w=>w.fKey==o.fKey)<;>rfl
 have hs1:zgt [] (o::rest) []=(1,o.fKey, []):=by
  rw [zgt,if_neg h2,if_neg h3,if_neg (by simp [zcS,zvc])]
 have hst:zcS [] [zcR st o.fKey] o.fKey=((zcR st o.fKey).fVal,(zcR st o.fKey).fThere,true):=by
  unfold zcS zvc
  rw [List.find?_nil,List.find?_cons,show((zcR st o.fKey).fKey==o.fKey)=true by rw [hgk];simp]
 have hs2:zgt [zcR st o.fKey] (o::rest) []=if zur o (zcR st o.fKey).fVal (zcR st o.fKey).fThere=true then(3, [],(rest.map opW).foldl (fun o w=>zha wk w o) [])else(2, [], []):=by
  rw [zgt,if_neg h2,if_neg h3,hst,if_pos rfl,zoE rest [] hr]
 unfold zlA
 rw [zCe,hs1,if_pos rfl,zCe]
 show(if(zgt [zcR st o.fKey] (o::rest) []).1=1 then _ else((zgt [zcR st o.fKey] (o::rest) []).2.2,(zgt [zcR st o.fKey] (o::rest) []).1==3))=_
 rw [hs2]
 by_cases hk:zur o (zcR st o.fKey).fVal (zcR st o.fKey).fThere=true
 ·rw [if_pos hk,if_pos hk,if_neg (by simp)];rfl
 ·rw [if_neg hk,if_neg hk,if_neg (by simp)];rfl
theorem zxH {t:zab} {a:zan} (A:zrg t a) {st:List zaa} (hg:zbY st=true) (h:(ziI st (zj1 t a)).2=true):zBT t a st∧zub t a st (ziI st (zj1 t a)).1:=by
 obtain⟨hr,hn⟩:=zj5 hg
 obtain⟨o,rest,e,hw,hk,h1,h7⟩:=zv1 t a
 have hk67:o.fKind=6∨o.fKind=7:=by
  by_cases k:a.fKind=1
  ·rw [h1 k];exact .inl rfl
  ·rw [h7 k];exact .inr rfl
 have hR:=zzm (st:=st) (o:=o) (rest:=rest) (by omega) (by omega) hk
 rw [e]at h ⊢
 unfold ziI at h ⊢
 rw [hR]at h ⊢
 by_cases hok:zur o (zcR st o.fKey).fVal (zcR st o.fKey).fThere=true
 ·rw [if_pos hok,hw]at h ⊢
  by_cases hl:(zfh st ((zie t a).foldl (fun o w=>zha wk w o) [])).length≤24
  ·rw [if_pos ⟨rfl,hl⟩]
   refine⟨⟨fun k w hm he=> ?_,fun k=> ?_⟩,A.behind hr.rise⟩
   ·rw [h1 k]at hok
    unfold zur zcR at hok
    rw [if_pos rfl]at hok
    cases ef:st.find? (fun w=>w.fKey==(zeW t a.fNew).fKey)with
    |some z=>rw [ef]at hok;cases hok
    |none=>
     rw [List.find?_eq_none]at ef
     exact absurd (by simpa using he) (ef w hm)
   ·rw [h7 k]at hok
    unfold zur zcR at hok
    rw [if_neg (by simp)]at hok
    cases ef:st.find? (fun w=>w.fKey==(zeW t a.fOld).fKey)with
    |none=>rw [ef]at hok;cases hok
    |some z=>
     rw [ef]at hok
     simp only [Bool.true_and,beq_iff_eq]at hok
     have hz:=List.mem_of_find?_eq_some ef
     have hzk:z.fKey=(zeW t a.fOld).fKey:=by simpa using List.find?_some ef
     have hzg:=hn z hz
     have:z=zeW t a.fOld:=by
      cases z
      simp only at hok hzk hzg
      rw [hok,hzk,hzg]
      rfl
     rw [←this];exact hz
  ·rw [if_neg fun q=>hl q.2]at h
   cases h
 ·rw [if_neg hok]at h
  rw [if_neg (by simp)]at h
  cases h
theorem zx3 {t:zab} {a:zan} {n:Str} {x:za7} {st:List zaa} {low:Int} (A:zvJ t a n x) (hg:zbY st=true) (hl:low=0∧x.fStage≤1∨low=1∧1≤x.fStage∨low=2∧2≤x.fStage)
  (h:holds t n x low st=true):holds t n x low (ziI st (zj1 t a)).1=true:=by
 cases hd:(ziI st (zj1 t a)).2 with
 |true=>
  obtain⟨hA,hB⟩:=zxH A.asG hg hd
  exact zFL A hg hA hB hl h
 |false=>
  have:(ziI st (zj1 t a)).1=st:=by
   unfold ziI at hd ⊢
   split at hd
   ·cases hd
   ·rename_i q;rw [if_neg q]
  rw [this];exact h
end Go.Proofs.YtgobcjbjogkpjaaGreatDoor
end
section
namespace Go.Proofs.YtgobcjbjogkpjaaGreatDoor
open Go.RowKit
set_option maxRecDepth 100000
end Go.Proofs.YtgobcjbjogkpjaaGreatDoor
end
section
namespace Go.Proofs.YtgobcjbjogkpjaaGreatDoor
open Go.RowKit
set_option maxRecDepth 100000
theorem zoe {α:Type}: ∀(xs a:List α),xs.foldl (fun o x=>o++ [x]) a=a++xs
 | [],a=>by simp
 |x::xs,a=>by rw [List.foldl_cons,zoe xs (a++ [x])];simp
theorem zB4 {o p:List zab} (h:o.length≤2000001) (hn:p.length≤5):((o.length:Int)+(p.length:Int))*64≤140737488355328∧(o.length:Int)+(p.length:Int)≤140737488355328:=by omega
theorem zAE {s:zaf} (hS:zfb s):zfY s=some s:=by
 have h1:=hS.at_
 have h2:=hS.store.1
 have h3:=hS.ways
 have c1:zdI s.fAt=some s.fAt:=zlZ (by omega) (by omega)
 have c2:zaD s.fStore=some s.fStore:=zlZ (by omega) (by omega)
 unfold zfY
 rw [c1,c2,Option.bind_some,Option.bind_some]
 have h:=zb3 (xs:=s.fWays) (body:=fun q:Int × List zab=>zct s s.fAt s.fStore q.1 q.2) (fun i (o:List zab)=>(i,o)) (fun o t=>o++ [t]) (fun o=>some ⟨s.fName,o,s.fAt,s.fStore⟩) (fun i o=>o.length=i)
  (fun i hi o hI=>by
   have hI:o.length=i:=hI
   refine⟨?_,by show List.length _=_;rw [List.length_append,List.length_singleton];omega⟩
   show zct s s.fAt s.fStore i o=_
   unfold zct
   rw [if_pos (by simpa using hi),zae hi,Option.bind_some,zv0 (hS.way _ (List.getElem_mem hi)),Option.bind_some,zak (zB4 (by omega) (by simp)),zbS hi (by omega)])
  (fun o _=>by
   show zct s s.fAt s.fStore s.fWays.length o=_
   unfold zct
   rw [if_neg (by simp)]) (s:= []) rfl
 rw [zoe]at h
 exact h.1
theorem zwi {s:zaf} (hS:zfb s):zgZ s=some s:=by
 have h1:=hS.at_
 have h2:=hS.store.1
 have h3:=hS.ways
 have c1:zjv s.fAt=some s.fAt:=by
  unfold zjv
  rw [zak (by rw [List.length_nil];omega)]
 have hq:((([]:List zaa).length:Int)+((s.fStore).length:Int))*40≤140737488355328∧(([]:List zaa).length:Int)+((s.fStore).length:Int)≤140737488355328:=by
  rw [List.length_nil];omega
 unfold zgZ
 rw [c1,Option.bind_some,zak hq]
 have h:=zb3 (xs:=s.fWays) (body:=fun q:Int × List zab=>zdw s s.fAt q.1 q.2) (fun i (o:List zab)=>(i,o)) (fun o t=>o++ [t]) (fun o=>some ⟨s.fName,o,s.fAt,s.fStore⟩) (fun i o=>o.length=i)
  (fun i hi o hI=>by
   have hI:o.length=i:=hI
   refine⟨?_,by show List.length _=_;rw [List.length_append,List.length_singleton];omega⟩
   show zdw s s.fAt i o=_
   unfold zdw
   rw [if_pos (by simpa using hi),zae hi,Option.bind_some,zz9 (hS.way _ (List.getElem_mem hi)),Option.bind_some,zak (zB4 (by omega) (by simp)),zbS hi (by omega)])
  (fun o _=>by
   show zdw s s.fAt s.fWays.length o=_
   unfold zdw
   rw [if_neg (by simp)]) (s:= []) rfl
 rw [zoe]at h
 exact h.1
def bare (a:zan):Bool:=((a.fKind==0)&&((a.fOld.fVals.length:Int)==0))&&((a.fNew.fVals.length:Int)==0)
structure zBG (s:zaf) (a:zap):Prop where
 srv:0≤a.fServer∧a.fServer≤(s.fAt.length:Int)-1
 step:a.fStep=0∨a.fStep=1∨a.fStep= -1
 act:a.fStep=0→ ∃y t,getI s.fAt a.fServer=some y∧getI s.fWays y=some t∧t∈s.fWays∧zgf t a.fAct=true
theorem zdu {t:zab} {n:Str} (h:zji t n=true):zag t=true:=by
 unfold zji at h
 simp only [Bool.and_eq_true]at h
 exact h.1
theorem zwn {s:zaf} (hg:zij s) {i:Int} (h:0≤i∧i≤(s.fAt.length:Int)-1): ∃y t,getI s.fAt i=some y∧getI s.fWays y=some t∧t∈s.fWays∧0≤y∧y≤(s.fWays.length:Int)-1:=by
 obtain⟨y,e1,hy,_⟩:=zip (xs:=s.fAt) h.1 (by omega)
 have hb:=hg.2.2.2.2.2.1 y hy
 obtain⟨t,e2,ht,_⟩:=zip (xs:=s.fWays) hb.1 (by omega)
 exact⟨y,t,e1,e2,ht,hb.1,hb.2⟩
def zlO (s:zaf) (t:zab) (a:zap):Bool:=
 inB a.fServer 0 ((s.fAt.length:Int)-1)&&(if a.fStep=0 then zgf t a.fAct else if a.fStep=1∨a.fStep= -1 then bare a.fAct else false)
def zsx (s:zaf) (i:Int):zab:=(getI s.fWays ((getI s.fAt i).getD 0)).getD noT
theorem zxh {s:zaf} {a:zap} (hg:zij s) (hA:zi8 a.fAct):zfQ s a=some (zlO s (zsx s a.fServer) a):=by
 have h3:=zaE.1 hg.2.2.2.2.1
 have w:IntKind.i64.wrap ((s.fAt.length:Int)-1)=(s.fAt.length:Int)-1:=zaH (by omega) (by omega)
 unfold zfQ zlO
 rw [w,zjX,Option.bind_some]
 cases hv:inB a.fServer 0 ((s.fAt.length:Int)-1)with
 |false=>rfl
 |true=>
  obtain⟨y,t,e1,e2,ht,_,_⟩:=zwn hg (zaE.1 hv)
  have hc:=zfV (zdu (hg.2.2.1 t ht))
  have et:zsx s a.fServer=t:=by unfold zsx;rw [e1,Option.getD_some,e2];rfl
  rw [et,if_neg (by simp),Bool.true_and]
  by_cases h0:a.fStep=0
  ·rw [if_neg (by simp [h0]),if_pos (by simpa using h0),if_pos h0,e1,Option.bind_some,e2,Option.bind_some,zok (by omega) hA];rfl
  ·rw [if_neg h0]
   by_cases h1:a.fStep=1∨a.fStep= -1
   ·rw [if_pos (by simpa using h1),if_pos h1];rfl
   ·rw [if_neg (by simpa using h1),if_neg h1,if_neg (by simpa using h0)]
theorem zxV {s:zaf} {a:zap} (hg:zij s) (hA:zi8 a.fAct):zbE s a=some (zlO s (zsx s a.fServer) a):=by
 have h3:=zaE.1 hg.2.2.2.2.1
 have w:IntKind.i64.wrap ((s.fAt.length:Int)-1)=(s.fAt.length:Int)-1:=zaH (by omega) (by omega)
 unfold zbE zlO
 rw [w,zhL,Option.bind_some]
 cases hv:inB a.fServer 0 ((s.fAt.length:Int)-1)with
 |false=>rfl
 |true=>
  obtain⟨y,t,e1,e2,ht,_,_⟩:=zwn hg (zaE.1 hv)
  have hc:=zfV (zdu (hg.2.2.1 t ht))
  have et:zsx s a.fServer=t:=by unfold zsx;rw [e1,Option.getD_some,e2];rfl
  have ht2:zaG s a.fServer=some t:=by
   unfold zaG
   rw [e1,Option.bind_some,e2];rfl
  rw [et,if_neg (by simp),Bool.true_and]
  by_cases h0:a.fStep=0
  ·rw [if_pos (by simpa using h0),if_pos h0,ht2,Option.bind_some,zxi (by omega) hA];rfl
  ·rw [if_neg (by simpa using h0),if_neg h0]
   by_cases h1:a.fStep=1
   ·rw [if_pos (by simpa using h1),if_pos (.inl h1)];rfl
   ·rw [if_neg (by simpa using h1)]
    by_cases h2:a.fStep= -1
    ·rw [if_pos (by simpa using h2),if_pos (.inr h2)];rfl
    ·rw [if_neg (by simpa using h2),if_neg (by simp [h1,h2])]
theorem zEz {s:zaf} {a:zap} (hg:zij s) (h:zlO s (zsx s a.fServer) a=true):zBG s a:=by
 unfold zlO at h
 rw [Bool.and_eq_true]at h
 have hv:=zaE.1 h.1
 obtain⟨y,t,e1,e2,ht,_,_⟩:=zwn hg hv
 have et:zsx s a.fServer=t:=by unfold zsx;rw [e1,Option.getD_some,e2];rfl
 have h2:=h.2
 rw [et]at h2
 by_cases h0:a.fStep=0
 ·rw [if_pos h0]at h2
  exact⟨hv, .inl h0,fun _=>⟨y,t,e1,e2,ht,h2⟩⟩
 ·rw [if_neg h0]at h2
  by_cases h1:a.fStep=1∨a.fStep= -1
  ·exact⟨hv, .inr h1,fun h=>absurd h h0⟩
  ·rw [if_neg h1]at h2;cases h2
theorem zuU {s:zaf} {a:zap} (hg:zij s) (hA:zi8 a.fAct): ∃r,zfQ s a=some r∧zbE s a=some r∧(r=true→zBG s a):=
 ⟨_,zxh hg hA,zxV hg hA,zEz hg⟩
structure zEV (s r:zaf):Prop where
 good:zij r
 small:zfb r
 name:r.fName=s.fName
 ways:r.fWays=s.fWays
 at_:r.fAt.length=s.fAt.length
theorem zqL {s:zaf} {a:zap} (hS:zfb s) (hg:zij s) (hA:zi8 a.fAct) (hact:zBG s a): ∃r:zaf × Bool,zcZ s a=some r∧zdb s a=some r∧zEV s r.1:=by
 obtain⟨y,t,e1,e2,ht,hy0,hy1⟩:=zwn hg hact.srv
 have h1:=hg.1
 have h4:=hg.2.1
 have w:IntKind.i64.wrap ((s.fWays.length:Int)-1)=(s.fWays.length:Int)-1:=zaH (by omega) (by omega)
 unfold zcZ zdb
 rw [zwi hS,zAE hS,Option.bind_some,Option.bind_some,w]
 by_cases h0:a.fStep=0
 ·obtain⟨y',t',q1,q2,q3,hga⟩:=hact.act h0
  rw [e1]at q1
  cases q1
  rw [e2]at q2
  cases q2
  have hI:=hg.2.2.1 t ht
  have hgt:=zdu hI
  have hc:=zfV hgt
  have hSt:=hS.way t ht
  have hai:=zCj hA hga
  have hR:=hg.2.2.2.2.2.2
  obtain⟨ol,oo⟩:=zwL hgt hga
  have ht2:zaG s a.fServer=some t:=by
   unfold zaG
   rw [e1,Option.bind_some,e2];rfl
  have hD:zgk t s.fStore a.fAct=some ((ziI s.fStore (zj1 t a.fAct)).1,(ziI s.fStore (zj1 t a.fAct)).2,true):=by
   have hGA:zeU t a.fAct=some true:=by
    unfold zeU
    rw [zkz hSt,Option.bind_some,hgt,if_pos rfl,zok (by omega) hA,hga];rfl
   unfold zgk
   rw [hGA,Option.bind_some,if_pos rfl,zm1 hS.store,Option.bind_some,hR,if_neg (by simp),zCt hSt hgt hai,Option.bind_some,zEO ol oo hR];rfl
  have hgo:=zBR ol oo hR
  rw [if_neg (by simp [h0]),if_neg (by simp [h0]),e1,Option.bind_some,e2,Option.bind_some,hD,ht2,Option.bind_some,Option.bind_some,zEi hSt hgt hai,Option.bind_some,zAa ol oo hR,Option.bind_some]
  refine⟨_,rfl,rfl,⟨⟨hg.1,hg.2.1,hg.2.2.1,hg.2.2.2.1,hg.2.2.2.2.1,hg.2.2.2.2.2.1,hgo⟩,⟨hS.name,hS.ways,hS.way,hS.at_, ?_⟩,rfl,rfl,rfl⟩⟩
  have hr:=(zj5 hgo).1
  have hrl:=hr.len
  exact zkS (by show(ziI s.fStore (zj1 t a.fAct)).1.length≤2000000;omega) hr.good
 ·have hst:a.fStep=1∨a.fStep= -1:=by rcases hact.step with h|h|h;exact absurd h h0;exact .inl h;exact .inr h
  have w2:IntKind.i64.wrap (y+a.fStep)=y+a.fStep:=zaH (by omega) (by omega)
  rw [if_pos (by simpa using h0),if_pos (by simpa using h0)]
  simp only [e1,Option.bind_some,w2,zjX,zhL]
  cases hv:inB (y+a.fStep) 0 ((s.fWays.length:Int)-1)with
  |false=>exact⟨_,rfl,rfl,⟨hg,hS,rfl,rfl,rfl⟩⟩
  |true=>
   have hv2:=zaE.1 hv
   refine⟨_,rfl,rfl,⟨⟨hg.1,hg.2.1,hg.2.2.1,hg.2.2.2.1, ?_,fun z hz=> ?_,hg.2.2.2.2.2.2⟩,⟨hS.name,hS.ways,hS.way, ?_,hS.store⟩,rfl,rfl,List.length_set⟩⟩
   ·show inB (((s.fAt.set (a.fServer).toNat (y+a.fStep)).length:Nat):Int) 1 3=true
    rw [List.length_set];exact hg.2.2.2.2.1
   ·rcases List.mem_or_eq_of_mem_set hz with hz|rfl
    ·exact hg.2.2.2.2.2.1 z hz
    ·exact hv2
   ·show(s.fAt.set (a.fServer).toNat (y+a.fStep)).length≤2000000
    rw [List.length_set];exact hS.at_
def zvs:zaf:=⟨[], [], [], []⟩
theorem zoW {s:zaf} {a:zap} (hS:zfb s) (hA:zi8 a.fAct): ∃r,zcp s a=some r∧zbM s a=some r∧(r=true→zij s∧zBG s a):=by
 obtain⟨g1,e1,f1⟩:=zym hS
 obtain⟨g2,e2,f2⟩:=zzx hS
 have hg:g1=g2:=by rw [Bool.eq_iff_iff,f1,f2]
 subst hg
 unfold zcp zbM
 rw [e1,e2,Option.bind_some,Option.bind_some]
 by_cases h:g1=true
 ·obtain⟨r,k1,k2,k3⟩:=zuU (f1.1 h) hA
  rw [if_pos h,if_pos h,k1,k2]
  exact⟨r,rfl,rfl,fun hr=>⟨f1.1 h,k3 hr⟩⟩
 ·rw [if_neg h,if_neg h]
  exact⟨_,rfl,rfl,by simp⟩
end Go.Proofs.YtgobcjbjogkpjaaGreatDoor
end
section
namespace Go.Proofs.YtgobcjbjogkpjaaGreatDoor
open Go.RowKit
set_option maxRecDepth 100000
def zic (l:List Int):Bool:=l.all fun x=>l.all fun y=> !decide (x-y>1)
theorem ztg {l:List Int} (hl:l.length≤2000000) (hb: ∀y∈l,0≤y∧y≤3):zd9 l=some (zic l):=by
 unfold zd9
 have hin: ∀(i:Nat) (hi:i<l.length),zau (fun s:Int=>zcc l i l[i] s) 0=some (if(l.all fun y=> !decide (l[i]-y>1))=true then .inl ((i+1:Nat):Int)else .inr (some false)):=by
  intro i hi
  have hx:=hb _ (List.getElem_mem hi)
  rw [ziA (xs:=l) (body:=fun s:Int=>zcc l i l[i] s) (fun y=> !decide (l[i]-y>1)) (.inr (some false)) (zgE i) (fun j hj=>by
   have hy:=hb _ (List.getElem_mem hj)
   have w:IntKind.i64.wrap (l[i]-l[j])=l[i]-l[j]:=zaH (by omega) (by omega)
   show zcc l i l[i] j=_
   unfold zcc
   rw [if_pos (by simpa using hj),zae hj,Option.bind_some,w,zbS hj (by omega)]
   cases decide (l[i]-l[j]>1)<;>rfl) (by
   show zcc l i l[i] l.length=_
   unfold zcc
   rw [if_neg (by simp)])]
  unfold zgE
  rw [zbS hi (by omega)]
  split<;>rfl
 rw [ziA (xs:=l) (body:=fun s:Int=>zcP l s) (fun x=>l.all fun y=> !decide (x-y>1)) false (some true) (fun i hi=>by
  show zcP l i=_
  unfold zcP
  rw [if_pos (by simpa using hi),zae hi,Option.bind_some]
  exact hin i hi) (by
  show zcP l l.length=_
  unfold zcP
  rw [if_neg (by simp)])]
 unfold zic
 cases(l.all fun x=>l.all fun y=> !decide (x-y>1))<;>rfl
def zBU (a:Int) (l:List Int):Int:=l.foldl (fun m y=>bif decide (y>m)then y else m) a
def zBu (a:Int) (l:List Int):Int:=l.foldl (fun m y=>bif decide (y<m)then y else m) a
theorem zzk: ∀(l:List Int) (a:Int),zBU a l∈a::l∧ ∀x∈a::l,x≤zBU a l
 | [],a=>by simp [zBU]
 |y::l,a=>by
  obtain⟨h1,h2⟩:=zzk l (bif decide (y>a)then y else a)
  have e:zBU a (y::l)=zBU (bif decide (y>a)then y else a) l:=rfl
  rw [e]
  have ha:a≤(bif decide (y>a)then y else a)∧y≤(bif decide (y>a)then y else a):=by
   by_cases h:y>a
   ·rw [decide_eq_true h];exact⟨by simp;omega,by simp⟩
   ·rw [decide_eq_false h];exact⟨by simp,by simp;omega⟩
  have hm:=h2 _ (List.mem_cons_self)
  refine⟨?_,fun x hx=> ?_⟩
  ·rcases List.mem_cons.1 h1 with h|h
   ·rw [h]
    by_cases hc:y>a
    ·rw [decide_eq_true hc];simp
    ·rw [decide_eq_false hc];simp
   ·simp [h]
  ·rcases List.mem_cons.1 hx with rfl|hx
   ·omega
   ·rcases List.mem_cons.1 hx with rfl|hx
    ·omega
    ·exact h2 x (by simp [hx])
theorem zyG: ∀(l:List Int) (a:Int),zBu a l∈a::l∧ ∀x∈a::l,zBu a l≤x
 | [],a=>by simp [zBu]
 |y::l,a=>by
  obtain⟨h1,h2⟩:=zyG l (bif decide (y<a)then y else a)
  have e:zBu a (y::l)=zBu (bif decide (y<a)then y else a) l:=rfl
  rw [e]
  have ha:(bif decide (y<a)then y else a)≤a∧(bif decide (y<a)then y else a)≤y:=by
   by_cases h:y<a
   ·rw [decide_eq_true h];exact⟨by simp;omega,by simp⟩
   ·rw [decide_eq_false h];exact⟨by simp,by simp;omega⟩
  have hm:=h2 _ (List.mem_cons_self)
  refine⟨?_,fun x hx=> ?_⟩
  ·rcases List.mem_cons.1 h1 with h|h
   ·rw [h]
    by_cases hc:y<a
    ·rw [decide_eq_true hc];simp
    ·rw [decide_eq_false hc];simp
   ·simp [h]
  ·rcases List.mem_cons.1 hx with rfl|hx
   ·omega
   ·rcases List.mem_cons.1 hx with rfl|hx
    ·omega
    ·exact h2 x (by simp [hx])
theorem zEX {l:List Int} {a:Int} (hl:l.length≤2000000):zcU (a::l)=some (zBU a l):=by
 have key: ∀(n q:Nat) (m:Int),q+n=(a::l).length→zau (fun s:Int × Int=>zaP (a::l) s.1 s.2) (m,(q:Int))=some (zBU m ((a::l).drop q)):=by
  intro n
  induction n with
  |zero=>
   intro q m hq
   rw [List.drop_eq_nil_of_le (by omega)]
   refine zb8 ?_
   show zaP (a::l) m q=_
   unfold zaP
   rw [if_neg (by rw [decide_eq_true_eq];omega)]
   rfl
  |succ n ih=>
   intro q m hq
   have hlt:q<(a::l).length:=by omega
   have hll:(a::l).length=l.length+1:=List.length_cons
   have e:zaP (a::l) m q=some (.inl ((bif decide ((a::l)[q]>m)then(a::l)[q]else m),((q+1:Nat):Int))):=by
    unfold zaP
    rw [if_pos (decide_eq_true (by omega)),zae hlt,Option.bind_some,zbS hlt (by omega)]
   rw [zcE (body:=fun s:Int × Int=>zaP (a::l) s.1 s.2) e,ih (q+1) _ (by omega),List.drop_eq_getElem_cons hlt]
   rfl
 unfold zcU
 rw [if_neg (by rw [decide_eq_true_eq,List.length_cons];omega),show getI (a::l) 0=some a from rfl,Option.bind_some]
 exact key l.length 1 a (by rw [List.length_cons];omega)
theorem zE7 {l:List Int} {a:Int} (hl:l.length≤2000000):zcW (a::l)=some (zBu a l):=by
 have key: ∀(n q:Nat) (m:Int),q+n=(a::l).length→zau (fun s:Int × Int=>zaO (a::l) s.1 s.2) (m,(q:Int))=some (zBu m ((a::l).drop q)):=by
  intro n
  induction n with
  |zero=>
   intro q m hq
   rw [List.drop_eq_nil_of_le (by omega)]
   refine zb8 ?_
   show zaO (a::l) m q=_
   unfold zaO
   rw [if_neg (by rw [decide_eq_true_eq];omega)]
   rfl
  |succ n ih=>
   intro q m hq
   have hlt:q<(a::l).length:=by omega
   have hll:(a::l).length=l.length+1:=List.length_cons
   have e:zaO (a::l) m q=some (.inl ((bif decide ((a::l)[q]<m)then(a::l)[q]else m),((q+1:Nat):Int))):=by
    unfold zaO
    rw [if_pos (decide_eq_true (by omega)),zae hlt,Option.bind_some,zbS hlt (by omega)]
   rw [zcE (body:=fun s:Int × Int=>zaO (a::l) s.1 s.2) e,ih (q+1) _ (by omega),List.drop_eq_getElem_cons hlt]
   rfl
 unfold zcW
 rw [if_neg (by rw [decide_eq_true_eq,List.length_cons];omega),show getI (a::l) 0=some a from rfl,Option.bind_some]
 exact key l.length 1 a (by rw [List.length_cons];omega)
theorem zwu {s:zaf} (hl:s.fAt.length≤2000000) (h1:1≤s.fAt.length) (hb: ∀y∈s.fAt,0≤y∧y≤3):zbp s=some (zic s.fAt):=by
 unfold zbp
 generalize s.fAt=l at hl h1 hb
 cases l with
 |nil=>simp at h1
 |cons a l=>
  rw [List.length_cons]at hl
  rw [zEX (by omega),zE7 (by omega),Option.bind_some,Option.bind_some]
  obtain⟨x1,x2⟩:=zzk l a
  obtain⟨n1,n2⟩:=zyG l a
  have b1:=hb _ x1
  have b2:=hb _ n1
  have w:IntKind.i64.wrap (zBU a l-zBu a l)=zBU a l-zBu a l:=zaH (by omega) (by omega)
  rw [w]
  congr 1
  unfold zic
  rw [Bool.eq_iff_iff]
  simp only [decide_eq_true_eq,List.all_eq_true,Bool.not_eq_true',decide_eq_false_iff_not]
  constructor
  ·intro h x hx y hy
   have:=x2 x hx
   have:=n2 y hy
   omega
  ·intro h
   have:=h _ x1 _ n1
   omega
theorem zA6 {s:zaf} {a:zap} (hS:zfb s) (hg:zij s) (hA:zi8 a.fAct) (hact:zBG s a): ∃r,zfw s a=some r∧ze1 s a=some r:=by
 obtain⟨r,k1,k2,hn⟩:=zqL hS hg hA hact
 unfold zfw ze1
 rw [k1,k2,Option.bind_some,Option.bind_some]
 by_cases h:r.2=true
 ·rw [if_pos h,if_pos h]
  have h3:=zaE.1 hn.good.2.2.2.2.1
  have hw:=hn.good.2.1
  have hb: ∀y∈r.1.fAt,0≤y∧y≤3:=fun y hy=>by
   have:=hn.good.2.2.2.2.2.1 y hy
   omega
  have hl:=hn.small.at_
  rw [ztg hl hb,zwu hl (by omega) hb,Option.bind_some,Option.bind_some]
  obtain⟨q,q1,q2⟩:=zyL hn.small hn.good
  by_cases hc:zic r.1.fAt=true
  ·rw [if_pos hc,if_pos hc,q1,q2]
   exact⟨q,rfl,rfl⟩
  ·rw [if_neg hc,if_neg hc]
   exact⟨_,rfl,rfl⟩
 ·rw [if_neg h,if_neg h]
  exact⟨_,rfl,rfl⟩
theorem zuv {s:zaf} {a:zap} (hS:zfb s) (hA:zi8 a.fAct): ∃r,zeP s a=some r∧zfI s a=some r:=by
 obtain⟨g,e1,e2,f⟩:=zoW hS hA
 unfold zeP zfI
 rw [e1,e2,Option.bind_some,Option.bind_some]
 by_cases h:((!g)||(a.fStep==0))=true
 ·rw [if_pos h,if_pos h]
  exact⟨_,rfl,rfl⟩
 ·rw [if_neg h,if_neg h]
  have hg:g=true:=by
   cases g with
   |true=>rfl
   |false=>simp at h
  obtain⟨h1,h2⟩:=f hg
  obtain⟨r,k1,k2⟩:=zA6 hS h1 hA h2
  rw [k1,k2]
  exact⟨_,rfl,rfl⟩
end Go.Proofs.YtgobcjbjogkpjaaGreatDoor
end
section
namespace Go.Proofs.YtgobcjbjogkpjaaGreatDoor
open Go.RowKit
set_option maxRecDepth 100000
theorem zkk {t:zab} {n:Str} (h:zji t n=true):zfO t n (xOf t n)∧zdg t n=(xOf t n).fStage∧xOf t n∈t.fIdxs∧0≤zdg t n∧zdg t n≤3∧zag t=true:=by
 obtain⟨x,hx,e,h0,h3,hg⟩:=zli h
 rw [zCg hx]
 exact⟨hx,e,ztJ hx.at_,by omega,by omega,hg⟩
theorem zs4 {n:Str}: ∀l:List za7,zhc (fun x:za7=>x.fName==n) l=zhc (· ==n) (l.map (·.fName))
 | []=>rfl
 |x::l=>by rw [List.map_cons,zkb,zkb,zs4 l]
theorem zCO (t:zab) (n:Str) (k c:Int):kOf (zgu t k c) n=kOf t n:=by
 unfold kOf
 rw [zs4,zs4,zky]
theorem zAh {t:zab} {n:Str} {c:Int} (h:zji t n=true):xOf (zgu t (kOf t n) c) n={xOf t n with fStage:=c}:=by
 have hx:=(zkk h).1
 have hl:=(zn2 hx.at_).2.2
 have h0:=(zn2 hx.at_).1
 have hk:(kOf t n).toNat<t.fIdxs.length:=by
  have:zhc (fun y:za7=>y.fName==n) t.fIdxs=kOf t n:=rfl
  rw [this]at hl h0
  omega
 unfold xOf
 rw [zCO]
 unfold zgu
 dsimp only
 rw [List.getElem?_set_self hk]
 rfl
theorem zDh {t:zab} {n:Str} {c:Int} (h:zji t n=true):zdg (zgu t (kOf t n) c) n=c:=by
 have:zdg (zgu t (kOf t n) c) n=(xOf (zgu t (kOf t n) c) n).fStage:=rfl
 rw [this,zAh h]
theorem zDB {t:zab} {n:Str} {b:Int} (h:zji t n=true):(way t (kOf t n) (zdg t n) b).map (fun w=>zdg w n)=zdg t n::zj0 3 (zdg t n) b:=by
 unfold way
 rw [List.map_cons,List.map_map]
 congr 1
 conv=>rhs;rw [←List.map_id (zj0 3 (zdg t n) b)]
 exact List.map_congr_left fun c _=>zDh h
def zCy (a b i j:Nat):Bool:=match((a:Int)::zj0 3 a b)[i]?,((a:Int)::zj0 3 a b)[j]? with
 |some x,some y=>decide (x≤y+1)
 |_,_=>true
theorem zBx: ∀a b i j:Fin 4,i.val≤j.val+1→j.val≤i.val+1→zCy a.val b.val i.val j.val=true:=by decide
theorem zxQ {a b:Int} (ha0:0≤a) (ha3:a≤3) (hb0:0≤b) (hb3:b≤3) {i j:Nat} (hi:i<4) (hj:j<4) (h1:i≤j+1) (h2:j≤i+1) {x y:Int}
  (hx:(a::zj0 3 a b)[i]?=some x) (hy:(a::zj0 3 a b)[j]?=some y):x≤y+1:=by
 have h:=zBx ⟨a.toNat,by omega⟩ ⟨b.toNat,by omega⟩ ⟨i,hi⟩ ⟨j,hj⟩ h1 h2
 unfold zCy at h
 dsimp only at h
 rw [Int.toNat_of_nonneg ha0,Int.toNat_of_nonneg hb0,hx,hy]at h
 simpa using h
theorem zE2 {s:zaf} (hg:zij s) {y:Int} (h0:0≤y) (h1:y≤(s.fWays.length:Int)-1): ∃t,getI s.fWays y=some t∧t∈s.fWays∧y.toNat<4∧
  (zdg (zbN s) s.fName::zj0 3 (zdg (zbN s) s.fName) (zdg (zkY s) s.fName))[y.toNat]?=some (zdg t s.fName):=by
 obtain⟨t,e,ht,e2⟩:=zip (xs:=s.fWays) h0 (by omega)
 have hI:=hg.2.2.1 _ (zka (s:=s) hg.1).2
 have h4:=hg.2.1
 refine⟨t,e,ht,by omega, ?_⟩
 rw [←zDB hI,List.getElem?_map]
 have hw:way (zbN s) (kOf (zbN s) s.fName) (zdg (zbN s) s.fName) (zdg (zkY s) s.fName)=s.fWays:=hg.2.2.2.1.symm
 rw [hw,e2]
 rfl
theorem znW {s:zaf} (hg:zij s) {u:Int} (h:u∈zdF s): ∃y t,y∈s.fAt∧getI s.fWays y=some t∧t∈s.fWays∧u=zdg t s.fName∧y.toNat<4∧0≤y∧
  (zdg (zbN s) s.fName::zj0 3 (zdg (zbN s) s.fName) (zdg (zkY s) s.fName))[y.toNat]?=some u:=by
 obtain⟨y,hy,rfl⟩:=List.mem_map.1 h
 have hb:=hg.2.2.2.2.2.1 y hy
 obtain⟨t,e,ht,h4,e2⟩:=zE2 hg hb.1 hb.2
 refine⟨y,t,hy,e,ht, ?_,h4,hb.1, ?_⟩<;>rw [e]
 ·rfl
 ·exact e2
theorem zvj {s:zaf} (hg:zij s) (hc:zic s.fAt=true): ∀p∈zdF s,∀q∈zdF s,p≤q+1:=by
 intro p hp q hq
 obtain⟨y,_,hy,_,_,_,y4,y0,e1⟩:=znW hg hp
 obtain⟨z,_,hz,_,_,_,z4,z0,e2⟩:=znW hg hq
 unfold zic at hc
 have c1:=List.all_eq_true.1 (List.all_eq_true.1 hc y hy) z hz
 have c2:=List.all_eq_true.1 (List.all_eq_true.1 hc z hz) y hy
 simp only [Bool.not_eq_true',decide_eq_false_iff_not]at c1 c2
 have f:=zkk (hg.2.2.1 _ (zka (s:=s) hg.1).2)
 have l:=zkk (hg.2.2.1 _ (zsF (s:=s) hg.1 hg.2.1).2)
 exact zxQ f.2.2.2.1 f.2.2.2.2.1 l.2.2.2.1 l.2.2.2.2.1 y4 z4 (by omega) (by omega) e1 e2
theorem zzO {s:zaf} (hg:zij s): ∀p∈zdF s,0≤p∧p≤3:=by
 intro p hp
 obtain⟨_,t,_,_,ht,rfl,_⟩:=znW hg hp
 have f:=zkk (hg.2.2.1 t ht)
 exact⟨f.2.2.2.1,f.2.2.2.2.1⟩
theorem zDu {st:List Int} (h: ∀p∈st,0≤p∧p≤3) (hn: ∀p∈st,∀q∈st,p≤q+1) {u:Int} (hu:u∈st):zw5 st=0∧u≤1∨zw5 st=1∧1≤u∨zw5 st=2∧2≤u:=by
 have h1:=h u hu
 unfold zw5
 by_cases k3:st.contains 3=true
 ·rw [if_pos k3]
  have:=hn 3 (by simpa using k3) u hu
  omega
 ·rw [if_neg k3]
  by_cases k0:st.contains 0=true
  ·rw [if_pos k0]
   have:=hn u hu 0 (by simpa using k0)
   omega
  ·rw [if_neg k0]
   have:u≠0:=fun e=>k0 (by rw [←e];simpa using hu)
   omega
theorem zsr {t t':zab} {n:Str} {x x':za7} {lv:Int} {st:List zaa} (h1:t.fName=t'.fName) (h2:t.fCols=t'.fCols) (h3:x.fCol=x'.fCol):holds t n x lv st=holds t' n x' lv st:=by
 cases t;cases t';cases x;cases x'
 dsimp only at h1 h2 h3
 subst h1;subst h2;subst h3
 rfl
theorem zzv {s:zaf} (hg:zij s) {t:zab} (ht:t∈s.fWays):t.fName=(zbN s).fName∧t.fCols=(zbN s).fCols∧(xOf t s.fName).fCol=(xOf (zbN s) s.fName).fCol:=by
 have hI:=hg.2.2.1 _ (zka (s:=s) hg.1).2
 rw [hg.2.2.2.1]at ht
 rcases List.mem_cons.1 ht with rfl|ht
 ·exact⟨rfl,rfl,rfl⟩
 ·obtain⟨c,_,rfl⟩:=List.mem_map.1 ht
  refine⟨rfl,rfl, ?_⟩
  rw [zAh hI]
theorem zBy {s:zaf} {a:zap} (hS:zfb s) (hg:zij s) (hA:zi8 a.fAct) (hact:zBG s a) (h0:a.fStep=0): ∃y t,getI s.fAt a.fServer=some y∧getI s.fWays y=some t∧t∈s.fWays∧zgf t a.fAct=true∧
  zcZ s a=some (⟨s.fName,s.fWays,s.fAt,(ziI s.fStore (zj1 t a.fAct)).1⟩,(ziI s.fStore (zj1 t a.fAct)).2):=by
 obtain⟨y,t,e1,e2,ht,hga⟩:=hact.act h0
 have hI:=hg.2.2.1 t ht
 have hgt:=zdu hI
 have hc:=zfV hgt
 have hSt:=hS.way t ht
 have hai:=zCj hA hga
 have hR:=hg.2.2.2.2.2.2
 obtain⟨ol,oo⟩:=zwL hgt hga
 refine⟨y,t,e1,e2,ht,hga, ?_⟩
 have hD:zgk t s.fStore a.fAct=some ((ziI s.fStore (zj1 t a.fAct)).1,(ziI s.fStore (zj1 t a.fAct)).2,true):=by
  have hGA:zeU t a.fAct=some true:=by
   unfold zeU
   rw [zkz hSt,Option.bind_some,hgt,if_pos rfl,zok (by omega) hA,hga];rfl
  unfold zgk
  rw [hGA,Option.bind_some,if_pos rfl,zm1 hS.store,Option.bind_some,hR,if_neg (by simp),zCt hSt hgt hai,Option.bind_some,zEO ol oo hR];rfl
 unfold zcZ
 rw [zwi hS,Option.bind_some,if_neg (by simp [h0]),e1,Option.bind_some,e2,Option.bind_some,hD];rfl
theorem zE5 {s:zaf} {a:zap} (hS:zfb s) (hg:zij s) (hA:zi8 a.fAct) (hact:zBG s a) {r:zaf × Bool} (hr:zcZ s a=some r):zfw s a=some (r.2&&(zic r.1.fAt&&zqt r.1)):=by
 obtain⟨r',k1,k2,hn⟩:=zqL hS hg hA hact
 rw [hr]at k1
 cases k1
 unfold zfw
 rw [hr,Option.bind_some]
 by_cases h:r.2=true
 ·rw [if_pos h]
  have hw:=hn.good.2.1
  have hb: ∀y∈r.1.fAt,0≤y∧y≤3:=fun y hy=>by
   have:=hn.good.2.2.2.2.2.1 y hy
   omega
  rw [ztg hn.small.at_ hb,Option.bind_some,(zsO hn.small hn.good).1,h]
  cases zic r.1.fAt<;>rfl
 ·rw [if_neg h]
  rw [Bool.not_eq_true]at h
  rw [h];rfl
theorem zxT {s:zaf} {a:zap} (hS:zfb s) (hg:zij s) (hA:zi8 a.fAct) (hact:zBG s a) {r:zaf × Bool} (hr:zcZ s a=some r) (hh:zqt s=true) (hc:zic s.fAt=true)
  (hm:a.fStep≠0→zic r.1.fAt=true∧zqt r.1=true):zic r.1.fAt=true∧zqt r.1=true:=by
 by_cases h0:a.fStep=0
 ·obtain⟨y,t,e1,e2,ht,hga,e⟩:=zBy hS hg hA hact h0
  rw [hr]at e
  cases e
  refine⟨hc, ?_⟩
  have hI:=hg.2.2.1 t ht
  have f:=zkk hI
  have hu:zdg t s.fName∈zdF s:=by
   refine List.mem_map.2 ⟨y,ztJ e1, ?_⟩
   rw [e2];rfl
  have hk:=zDu (zzO hg) (zvj hg hc) hu
  rw [f.2.1]at hk
  have A:=zDP f.2.2.2.2.2 f.2.2.1 f.1.name hga
  obtain⟨w1,w2,w3⟩:=zzv hg ht
  unfold zqt at hh
  rw [←zsr w1 w2 w3]at hh
  have hd:=zx3 A hg.2.2.2.2.2.2 hk hh
  rw [zsr w1 w2 w3]at hd
  exact hd
 ·exact hm h0
end Go.Proofs.YtgobcjbjogkpjaaGreatDoor
end
section
namespace Go.Proofs.YtgobcjbjogkpjaaGreatDoor
open Go.RowKit
set_option maxRecDepth 100000
def zu9 (t:zab) (st:List zaa):List zaa:=st.filter (zbv t)
theorem zh1 {t:zab} {st:List zaa} {w:zaa}:w∈zu9 t st↔w∈st∧zbv t w=true:=List.mem_filter
theorem zlI (t:zab) (st:List zaa):rows t st=(zu9 t st).map zeY:=rfl
theorem zhl {t:zab} {st:List zaa} (h:zgs st):zgs (zu9 t st):=zoI.filter h _
theorem ztY {l:List zaa} {w:zaa} (h: ∀y∈l,y.fKey≠w.fKey):(zha wk w l).length=l.length+1:=by
 induction l with
 |nil=>rfl
 |cons y l ih=>
  rw [zha]
  split
  ·rfl
  ·split
   ·rename_i e;exact absurd e.symm (h y (by simp))
   ·rw [List.length_cons,ih fun z hz=>h z (by simp [hz]),List.length_cons]
theorem zuH {l:List zaa} {w:zaa} (hl:zgs l) (h: ∃y∈l,y.fKey=w.fKey):(zha wk w l).length=l.length:=by
 induction l with
 |nil=>obtain⟨y,hy,_⟩:=h;simp at hy
 |cons y l ih=>
  obtain⟨r1,r2⟩:=zk8 hl
  obtain⟨z,hz,e⟩:=h
  rw [zha]
  split
  ·rename_i hb
   exfalso
   rcases List.mem_cons.1 hz with rfl|hz
   ·exact zln hb e.symm
   ·exact zln (zfZ hb (r1 z hz)) e.symm
  ·split
   ·rfl
   ·rename_i hne
    rw [List.length_cons,List.length_cons,ih r2]
    rcases List.mem_cons.1 hz with rfl|hz
    ·exact absurd e.symm hne
    ·exact⟨z,hz,e⟩
theorem zvp {l:List zaa} {k:Str} (hl:zgs l) (h: ∃y∈l,y.fKey=k):(l.filter fun w=>w.fKey !=k).length+1=l.length:=by
 induction l with
 |nil=>obtain⟨y,hy,_⟩:=h;simp at hy
 |cons y l ih=>
  obtain⟨r1,r2⟩:=zk8 hl
  rw [List.filter_cons]
  by_cases hy:y.fKey=k
  ·rw [if_neg (by simp [hy]),List.filter_eq_self.2 fun z hz=>by
    have:=zln (r1 z hz)
    rw [hy]at this
    simpa using fun e=>this e.symm]
   rfl
  ·rw [if_pos (by simpa using hy),List.length_cons,List.length_cons]
   obtain⟨z,hz,e⟩:=h
   rcases List.mem_cons.1 hz with rfl|hz
   ·exact absurd e hy
   ·have:=ih r2 ⟨z,hz,e⟩
    omega
structure zEc (t:zab) (a:zan) (st st':List zaa):Prop where
 act:zrg t a
 beh:zub t a st st'
 rise:zgs st
 rise':zgs st'
 gone: ∀w∈st,w.fGone=false
 ahead:zBT t a st
section
variable {t:zab} {a:zan} {st st':List zaa} (H:zEc t a st st')
include H
theorem zEc.rows_put (k:a.fKind≠2):zu9 t st'=zha wk (zeW t a.fNew) (zu9 t st):=by
 refine zoI.ext (key:=wk) (zhl H.rise') (zlc (zhl H.rise)) fun y=> ?_
 rw [znT (zhl H.rise),zh1,zh1,H.beh y]
 have hnew:=H.act.new_mem k
 constructor
 ·rintro⟨⟨hg,h|⟨h1,h2⟩⟩,h3⟩
  ·exact .inl (H.act.row_write h h3).1
  ·exact .inr ⟨⟨h1,h3⟩,fun e=>h2 _ hnew e.symm⟩
 ·rintro(rfl|⟨⟨h1,h2⟩,h3⟩)
  ·exact⟨⟨rfl, .inl hnew⟩,zAk H.act.tab (H.act.new k)⟩
  ·refine⟨⟨H.gone y h1, .inr ⟨h1,fun w hw e=> ?_⟩⟩,h2⟩
   have hwR:=H.act.over_row hw h2 e
   apply h3
   rw [←e]
   by_cases k1:a.fKind=1
   ·exact H.act.rowWs_new k1 hwR
   ·have k3:a.fKind=3:=by rcases H.act.kind with h|h|h;exact absurd h k1;exact absurd h k;exact h
    show w.fKey=(zeW t a.fNew).fKey
    rw [H.act.rowWs_old k1 hwR,zfe,zfe,H.act.same k3]
theorem zEc.rows_drop (k:a.fKind=2):zu9 t st'=(zu9 t st).filter fun w=>w.fKey !=(zeW t a.fOld).fKey:=by
 refine zoI.ext (key:=wk) (zhl H.rise') (zoI.filter (zhl H.rise) _) fun y=> ?_
 rw [List.mem_filter,zh1,zh1,H.beh y]
 constructor
 ·rintro⟨⟨hg,h|⟨h1,h2⟩⟩,h3⟩
  ·exact absurd k (H.act.row_write h h3).2
  ·obtain⟨u,u1,u2⟩:=H.act.rowWs_some (show a.fKind≠1 by omega)
   refine⟨⟨h1,h3⟩, ?_⟩
   have:=h2 u u1
   rw [u2]at this
   simpa using fun e=>this e.symm
 ·rintro⟨⟨h1,h2⟩,h3⟩
  refine⟨⟨H.gone y h1, .inr ⟨h1,fun w hw e=> ?_⟩⟩,h2⟩
  have hwR:=H.act.over_row hw h2 e
  have:=H.act.rowWs_old (show a.fKind≠1 by omega) hwR
  rw [e]at this
  simp [this]at h3
theorem zEc.fresh {r:zcm} (h1:r∈rows t st') (h2:r∉rows t st):r=a.fNew∧a.fKind≠2:=by
 rw [zlI,List.mem_map]at h1
 obtain⟨q,hq,rfl⟩:=h1
 obtain⟨hq1,hq2⟩:=zh1.1 hq
 obtain⟨_,h|⟨h3,_⟩⟩:=(H.beh q).1 hq1
 ·obtain⟨e,k⟩:=H.act.row_write h hq2
  exact⟨by rw [e,znp H.act.tab (H.act.new k)],k⟩
 ·exact absurd (by rw [zlI,List.mem_map];exact⟨q,zh1.2 ⟨h3,hq2⟩,rfl⟩) h2
theorem zEc.rows_len:(a.fKind=1→(rows t st').length=(rows t st).length+1)∧(a.fKind=2→(rows t st').length+1=(rows t st).length)∧(a.fKind=3→(rows t st').length=(rows t st).length):=by
 have hold:a.fKind≠1→zeW t a.fOld∈zu9 t st:=fun k=>zh1.2 ⟨H.ahead.2 k,zAk H.act.tab (H.act.old k)⟩
 refine⟨fun k=> ?_,fun k=> ?_,fun k=> ?_⟩
 ·rw [zlI,zlI,List.length_map,List.length_map,H.rows_put (by omega),ztY fun y hy=>H.ahead.1 k y (zh1.1 hy).1]
 ·rw [zlI,zlI,List.length_map,List.length_map,H.rows_drop k]
  exact zvp (zhl H.rise) ⟨_,hold (by omega),rfl⟩
 ·rw [zlI,zlI,List.length_map,List.length_map,H.rows_put (by omega)]
  refine zuH (zhl H.rise) ⟨_,hold (by omega), ?_⟩
  rw [zfe,zfe,H.act.same k]
end
end Go.Proofs.YtgobcjbjogkpjaaGreatDoor
end
section
namespace Go.Proofs.YtgobcjbjogkpjaaGreatDoor
open Go.RowKit
set_option maxRecDepth 100000
theorem zzF (t:zab) (k c:Int) (j:Nat): ∃s,((zgu t k c).fIdxs[j]?).getD ⟨[],0,0⟩={((t.fIdxs[j]?).getD ⟨[],0,0⟩)with fStage:=s}∧(s=((t.fIdxs[j]?).getD ⟨[],0,0⟩).fStage∨s=c):=by
 unfold zgu
 dsimp only
 rw [List.getElem?_set]
 split
 ·rename_i h
  subst h
  split
  ·exact⟨c,rfl, .inr rfl⟩
  ·rename_i h2
   rw [List.getElem?_eq_none (by omega)]
   exact⟨0,rfl, .inl rfl⟩
 ·exact⟨_,rfl, .inl rfl⟩
theorem zAK {t:zab} {k c:Int} (h:zag t=true) (hc:inB c 0 3=true):zag (zgu t k c)=true:=by
 have hl:(zgu t k c).fIdxs.length=t.fIdxs.length:=by unfold zgu;simp
 unfold zag at h ⊢
 simp only [Bool.and_eq_true]at h ⊢
 obtain⟨⟨⟨h1,h2⟩,h3⟩,h4⟩:=h
 refine⟨⟨⟨h1,h2⟩,by rw [hl];exact h3⟩, ?_⟩
 rw [hl]
 rw [List.all_eq_true]at h4 ⊢
 intro i hi
 have hq:=h4 i hi
 unfold zmF at hq ⊢
 obtain⟨s,e,hs⟩:=zzF t k c i
 obtain⟨s',e',_⟩:=zzF t k c (i-1)
 dsimp only at hq ⊢
 rw [e,e']
 simp only [Bool.and_eq_true]at hq ⊢
 refine⟨⟨⟨hq.1.1.1,hq.1.1.2⟩, ?_⟩,hq.2⟩
 rcases hs with rfl|rfl
 ·exact hq.1.2
 ·exact hc
theorem zyp {t:zab} {n:Str} {c:Int} (h:zji t n=true) (hc:inB c 0 3=true):zji (zgu t (kOf t n) c) n=true:=by
 unfold zji at h ⊢
 rw [Bool.and_eq_true]at h ⊢
 exact⟨zAK h.1 hc,by rw [zva (n:=n) (zky t (kOf t n) c)];exact h.2⟩
end Go.Proofs.YtgobcjbjogkpjaaGreatDoor
end

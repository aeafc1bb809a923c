/- Parts of a proof, joined: NO, NKB. -/
import Derived.Test.YtgobcjbjogkpjaaGreatDoorK10
section
namespace Go.Proofs.YtgobcjbjogkpjaaGreatDoor
open Go.RowKit
set_option maxRecDepth 100000
def ztf (t:zab) (st:List zaa):List zaa:=st.filter (za4 t)
theorem zee {t:zab} {st:List zaa} {w:zaa}:w∈ztf t st↔w∈st∧za4 t w=true:=List.mem_filter
theorem zhU (t:zab) (st:List zaa):rows t st=(ztf t st).map zdp:=rfl
theorem zeo {t:zab} {st:List zaa} (h:zfb st):zfb (ztf t st):=zmh.filter h _
theorem zws {t:zab} {p q:zaa} (hp:za4 t p=true) (hq:za4 t q=true) (e:zdp p=zdp q):p=q:=by
 rw [(zfz hp).2,(zfz hq).2,e]
theorem zsh {l:List zaa} {w:zaa} (h: ∀y∈l,y.fKey≠w.fKey):(zfB wk w l).length=l.length+1:=by
 induction l with
 |nil=>rfl
 |cons y l ih=>
  rw [zfB]
  split
  ·rfl
  ·split
   ·rename_i e;exact absurd e.symm (h y (by simp))
   ·rw [List.length_cons,ih fun z hz=>h z (by simp [hz]),List.length_cons]
theorem zsP {l:List zaa} {w:zaa} (hl:zfb l) (h: ∃y∈l,y.fKey=w.fKey):(zfB wk w l).length=l.length:=by
 induction l with
 |nil=>obtain⟨y,hy,_⟩:=h;simp at hy
 |cons y l ih=>
  obtain⟨r1,r2⟩:=zjD hl
  obtain⟨z,hz,e⟩:=h
  rw [zfB]
  split
  ·rename_i hb
   exfalso
   rcases List.mem_cons.1 hz with rfl|hz
   ·exact zjx hb e.symm
   ·exact zjx (zeZ hb (r1 z hz)) e.symm
  ·split
   ·rfl
   ·rename_i hne
    rw [List.length_cons,List.length_cons,ih r2]
    rcases List.mem_cons.1 hz with rfl|hz
    ·exact absurd e.symm hne
    ·exact⟨z,hz,e⟩
theorem ztw {l:List zaa} {k:Str} (hl:zfb l) (h: ∃y∈l,y.fKey=k):(l.filter fun w=>w.fKey !=k).length+1=l.length:=by
 induction l with
 |nil=>obtain⟨y,hy,_⟩:=h;simp at hy
 |cons y l ih=>
  obtain⟨r1,r2⟩:=zjD hl
  rw [List.filter_cons]
  by_cases hy:y.fKey=k
  ·rw [if_neg (by simp [hy]),List.filter_eq_self.2 fun z hz=>by
    have:=zjx (r1 z hz)
    rw [hy]at this
    simpa using fun e=>this e.symm]
   rfl
  ·rw [if_pos (by simpa using hy),List.length_cons,List.length_cons]
   obtain⟨z,hz,e⟩:=h
   rcases List.mem_cons.1 hz with rfl|hz
   ·exact absurd e hy
   ·have:=ih r2 ⟨z,hz,e⟩
    omega
structure zzJ (t:zab) (a:zae) (st st':List zaa):Prop where
 act:zpx t a
 beh:zsr t a st st'
 rise:zfb st
 rise':zfb st'
 gone: ∀w∈st,w.fGone=false
 ahead:zzw t a st
def zvg (l:List za5) (r:za5):Bool:=l.any fun q=>r.fVals==q.fVals
theorem zrl {l:List za5} {r:za5}:zvg l r=true↔r∈l:=by
 unfold zvg
 rw [List.any_eq_true]
 constructor
 ·rintro⟨q,hq,e⟩
  have e:r.fVals=q.fVals:=by simpa using e
  have:r=q:=by cases r;cases q;exact congrArg _ e
  rw [this];exact hq
 ·exact fun h=>⟨r,h,by simp⟩
section
variable {t:zab} {a:zae} {st st':List zaa} (H:zzJ t a st st')
include H
theorem zzJ.rows_put (k:a.fKind≠2):ztf t st'=zfB wk (zdq t a.fNew) (ztf t st):=by
 refine zmh.ext (key:=wk) (zeo H.rise') (zjH (zeo H.rise)) fun y=> ?_
 rw [zkm (zeo H.rise),zee,zee,H.beh y]
 have hnew:=H.act.new_mem k
 constructor
 ·rintro⟨⟨hg,h|⟨h1,h2⟩⟩,h3⟩
  ·exact .inl (H.act.row_write h h3).1
  ·exact .inr ⟨⟨h1,h3⟩,fun e=>h2 _ hnew e.symm⟩
 ·rintro(rfl|⟨⟨h1,h2⟩,h3⟩)
  ·exact⟨⟨rfl, .inl hnew⟩,zvh H.act.tab (H.act.new k)⟩
  ·refine⟨⟨H.gone y h1, .inr ⟨h1,fun w hw e=> ?_⟩⟩,h2⟩
   have hwR:=H.act.over_row hw h2 e
   apply h3
   rw [←e]
   by_cases k1:a.fKind=1
   ·exact H.act.rowWs_new k1 hwR
   ·have k3:a.fKind=3:=by rcases H.act.kind with h|h|h;exact absurd h k1;exact absurd h k;exact h
    show w.fKey=(zdq t a.fNew).fKey
    rw [H.act.rowWs_old k1 hwR,zc9,zc9,H.act.same k3]
theorem zzJ.rows_drop (k:a.fKind=2):ztf t st'=(ztf t st).filter fun w=>w.fKey !=(zdq t a.fOld).fKey:=by
 refine zmh.ext (key:=wk) (zeo H.rise') (zmh.filter (zeo H.rise) _) fun y=> ?_
 rw [List.mem_filter,zee,zee,H.beh y]
 constructor
 ·rintro⟨⟨hg,h|⟨h1,h2⟩⟩,h3⟩
  ·exact absurd k (H.act.row_write h h3).2
  ·obtain⟨u,u1,u2⟩:=H.act.rowWs_some (show a.fKind≠1 by omega)
   refine⟨⟨h1,h3⟩, ?_⟩
   have:=h2 u u1
   rw [u2]at this
   simpa using fun e=>this e.symm
 ·rintro⟨⟨h1,h2⟩,h3⟩
  refine⟨⟨H.gone y h1, .inr ⟨h1,fun w hw e=> ?_⟩⟩,h2⟩
  have hwR:=H.act.over_row hw h2 e
  have:=H.act.rowWs_old (show a.fKind≠1 by omega) hwR
  rw [e]at this
  simp [this]at h3
theorem zzJ.fresh {r:za5} (h1:r∈rows t st') (h2:r∉rows t st):r=a.fNew∧a.fKind≠2:=by
 rw [zhU,List.mem_map]at h1
 obtain⟨q,hq,rfl⟩:=h1
 obtain⟨hq1,hq2⟩:=zee.1 hq
 obtain⟨_,h|⟨h3,_⟩⟩:=(H.beh q).1 hq1
 ·obtain⟨e,k⟩:=H.act.row_write h hq2
  exact⟨by rw [e,ziX H.act.tab (H.act.new k)],k⟩
 ·exact absurd (by rw [zhU,List.mem_map];exact⟨q,zee.2 ⟨h3,hq2⟩,rfl⟩) h2
theorem zzJ.rows_len:(a.fKind=1→(rows t st').length=(rows t st).length+1)∧(a.fKind=2→(rows t st').length+1=(rows t st).length)∧(a.fKind=3→(rows t st').length=(rows t st).length):=by
 have hold:a.fKind≠1→zdq t a.fOld∈ztf t st:=fun k=>zee.2 ⟨H.ahead.2 k,zvh H.act.tab (H.act.old k)⟩
 refine⟨fun k=> ?_,fun k=> ?_,fun k=> ?_⟩
 ·rw [zhU,zhU,List.length_map,List.length_map,H.rows_put (by omega),zsh fun y hy=>H.ahead.1 k y (zee.1 hy).1]
 ·rw [zhU,zhU,List.length_map,List.length_map,H.rows_drop k]
  exact ztw (zeo H.rise) ⟨_,hold (by omega),rfl⟩
 ·rw [zhU,zhU,List.length_map,List.length_map,H.rows_put (by omega)]
  refine zsP (zeo H.rise) ⟨_,hold (by omega), ?_⟩
  rw [zc9,zc9,H.act.same k]
theorem zzJ.rows_nodup:(rows t st').Nodup:=by
 rw [zhU]
 unfold List.Nodup
 rw [List.pairwise_map]
 refine List.Pairwise.imp_of_mem (fun{p q} hp hq h e=> ?_) (zeo H.rise')
 exact zjx h (congrArg zaa.fKey (zws (zee.1 hp).2 (zee.1 hq).2 e))
theorem zzJ.fresh_len:((rows t st').filter fun r=> !zvg (rows t st) r).length≤1∧(a.fKind=1→((rows t st').filter fun r=> !zvg (rows t st) r).length=1)∧(a.fKind=2→((rows t st').filter fun r=> !zvg (rows t st) r).length=0):=by
 have hf: ∀r∈(rows t st').filter fun r=> !zvg (rows t st) r,r=a.fNew∧a.fKind≠2:=fun r hr1=>by
  obtain⟨h1,h2⟩:=List.mem_filter.1 hr1
  exact H.fresh h1 (fun h=>by rw [zrl.2 h]at h2;cases h2)
 have hnd:((rows t st').filter fun r=> !zvg (rows t st) r).Nodup:=List.Pairwise.filter _ (H.rows_nodup)
 have hle:((rows t st').filter fun r=> !zvg (rows t st) r).length≤1:=by
  generalize (rows t st').filter (fun r=> !zvg (rows t st) r)=l at hf hnd
  match l,hf,hnd with
  | [],_,_=>simp
  | [_],_,_=>simp
  |p::q::l,hf,hnd=>
   exfalso
   have e:p=q:=(hf p (by simp)).1.trans (hf q (by simp)).1.symm
   unfold List.Nodup at hnd
   rw [List.pairwise_cons]at hnd
   exact hnd.1 q (by simp) e
 refine⟨hle,fun k=> ?_,fun k=> ?_⟩
 ·have hm:a.fNew∈(rows t st').filter fun r=> !zvg (rows t st) r:=by
   refine List.mem_filter.2 ⟨?_, ?_⟩
   ·rw [zhU,H.rows_put (by omega),List.mem_map]
    exact⟨_,(zkm (zeo H.rise) _).2 (.inl rfl),ziX H.act.tab (H.act.new (by omega))⟩
   ·rw [Bool.not_eq_true',←Bool.not_eq_true,zrl]
    intro h
    rw [zhU,List.mem_map]at h
    obtain⟨q,hq,e⟩:=h
    obtain⟨q1,q2⟩:=zee.1 hq
    apply H.ahead.1 k q q1
    rw [(zfz q2).2,e]
  have:=List.length_pos_of_mem hm
  omega
 ·have:(rows t st').filter (fun r=> !zvg (rows t st) r)= []:=by
   rw [List.eq_nil_iff_forall_not_mem]
   exact fun r hr1=>(hf r hr1).2 k
  rw [this];rfl
end
end Go.Proofs.YtgobcjbjogkpjaaGreatDoor
end
section
namespace Go.Proofs.YtgobcjbjogkpjaaGreatDoor
open Go.RowKit
set_option maxRecDepth 100000
def zii (t:zab) (a:zae):List DOp × Bool:=if(zac t&&zaU t a)=true then(zdL t a,true)else([],false)
theorem zyI {t:zab} {a:zae} (hS:zbA t) (hA:zh1 a):zfK t a=some (zii t a):=by
 unfold zfK zii
 rw [zoH hS hA,Option.bind_some]
 cases hg:(zac t&&zaU t a)with
 |false=>rfl
 |true=>
  rw [Bool.and_eq_true]at hg
  rw [if_neg (by simp),if_pos rfl,zz0 hS hg.1 (zuS hA hg.2)];rfl
theorem zyv {t:zab} {a:zae} (hS:zbA t) (hA:zh1 a):zfE t a=some (zii t a):=by
 unfold zfE zii
 rw [zk0 hS hA,Option.bind_some]
 cases hg:(zac t&&zaU t a)with
 |false=>rfl
 |true=>
  rw [Bool.and_eq_true]at hg
  rw [if_neg (by simp),if_pos rfl,zzN hS hg.1 (zuS hA hg.2)];rfl
theorem zqI {t:zab} {a:zae} (hS:zbA t) (hA:zh1 a):zfK t a=some (zii t a)∧zfE t a=some (zii t a):=⟨zyI hS hA,zyv hS hA⟩
theorem zuu {t:zab} {a:zae}:(zii t a).1.length≤8:=by
 unfold zii
 split
 ·rename_i hg
  rw [Bool.and_eq_true]at hg
  exact(zhk hg.1 hg.2).1
 ·simp
theorem ztJ {t:zab} {a:zae}:(zii t a).2=(zac t&&zaU t a):=by
 unfold zii
 split
 ·rename_i hg;rw [hg]
 ·rename_i hg;simp only [Bool.not_eq_true]at hg;rw [hg]
def zt4 (v:Int):Bool × Bool × Bool × Bool:=if inB v 0 3=true then(decide (v≥1),decide (v≥2),decide (v≥3),true)else(false,false,false,false)
theorem zqu (v:Int):zfq v=some (zt4 v)∧zfS v=some (zt4 v):=by
 unfold zfq zfS zt4 zeN zeR zeK
 rw [zm4,ziV,Option.bind_some,Option.bind_some,Option.bind_some]
 cases h:inB v 0 3 with
 |false=>exact⟨rfl,rfl⟩
 |true=>
  refine⟨rfl, ?_⟩
  have hv:=zbv.1 h
  have e:(v==3)=decide (v≥3):=by
   rw [Bool.eq_iff_iff]
   simp only [beq_iff_eq,decide_eq_true_eq]
   omega
  rw [e];rfl
theorem zqB {t:zab} {l:List zaa} (hg:zac t=true) (hr:zax l=true):zfs t l=some (rows t l,true):=by
 have hS:=zea hg
 have hW:=ziB hr
 unfold zfs
 rw [znI hS,Option.bind_some,if_pos hg,ztR hW,Option.bind_some,if_neg (by simp [hr]),zuR (zfd (zeh hg)) hW.1 (zt6 hr)];rfl
theorem zAD {t:zab} {a:zae} {st:List zaa} (hg:zac t=true) (ha:zaU t a=true) (hr:zax st=true) (hd:(zdb st (zdL t a)).2=true):zzJ t a st (zdb st (zdL t a)).1:=by
 have G:=zxl hg ha
 obtain⟨h1,h2⟩:=ziF G hr hd
 obtain⟨ol,oo⟩:=zhk hg ha
 have r1:=zdM hr
 exact⟨G,h2,r1.1.rise,(zdM (zmb ol oo hr)).1.rise,r1.2,h1⟩
theorem zuZ {α:Type} (p:α→Bool): ∀(l:List α) (b:Bool),l.foldl (fun b x=>if b=true then true else p x) b=(b||l.any p)
 | [],b=>by simp
 |x::l,b=>by
  rw [List.foldl_cons,zuZ p l,List.any_cons]
  cases b<;>simp
theorem zqe {α:Type} (p:α→Bool): ∀(l:List α) (n:Int),l.foldl (fun n x=>if p x=true then n else n+1) n=n+((l.filter fun x=> !p x).length:Int)
 | [],n=>by simp
 |x::l,n=>by
  rw [List.foldl_cons,zqe p l,List.filter_cons]
  cases h:p x
  ·simp;omega
  ·simp
theorem zv6 {v1:zab × List zaa × zae} {L:List za5} {b:Bool} {n:Int} {i:Int} {r:za5} (hL:L.length≤1000) (hs:r.fVals.length≤2000000):
  zaA (fun s:Bool × Int=>zcb v1 (L,b) n i r s.1 s.2) (false,0)=zeY v1 n i r (zvg L r):=by
 have h:=zb1 (xs:=L) (body:=fun s:Bool × Int=>zcb v1 (L,b) n i r s.1 s.2) (fun i (b:Bool)=>(b,i)) (fun b q=>if b=true then true else r.fVals==q.fVals) (fun b=>zeY v1 n i r b) (fun _ _=>True)
  (fun j hj s _=>by
   refine⟨?_,trivial⟩
   show zcb v1 (L,b) n i r s j=_
   unfold zcb
   rw [if_pos (by simpa using hj),zaj hj,Option.bind_some,zcJ hj (by omega)]
   cases s
   ·rw [if_neg (by simp),zto hs,Option.bind_some];rfl
   ·rw [if_pos rfl];rfl)
  (fun s _=>by
   show zcb v1 (L,b) n i r s L.length=_
   unfold zcb
   rw [if_neg (by simp)]) (s:=false) trivial
 rw [zuZ,Bool.false_or]at h
 exact h.1
theorem zAn (c m:List Int) (hc:okL ztV c) (hm:okL ztV m):zhr c m=some true:=by
 unfold zhr
 refine zxw (fun _=>rfl) fun _=> ?_
 obtain⟨⟨t,st,a⟩,hd,hS,hT,hA⟩:=znc hc.2
 dsimp only at hS hT hA
 have hW:=hT.small
 have hAs:=hA.small
 obtain⟨p,hp,_⟩:=zdX 6 (.start hm.2) (by omega)
 have hpw:zdv m=some (IntKind.i64.wrap (p.1-1)):=by
  unfold zdv
  rw [hp];rfl
 have hlen:=zqw (t:=t) (st:=st) (a:=a)
 have hops:=zuu (t:=t) (a:=a)
 refine(zaK hd).trans ((zaK (zlw hS hW hAs).2).trans ((zaK (zlw hS hW hAs).1).trans ((zaK (zqI hS hAs).2).trans ((zaK (zqI hS hAs).1).trans ((zaK hpw).trans ((zaK (zqu _).2).trans ((zaK (zqu _).1).trans ?_)))))))
 refine zvO (by simp) (zvO (by simp) ((zaK (zqR (by omega))).trans (zBu rfl (zvO (by simp) ((zaK (zvG (by omega))).trans (zBu rfl (zvO (by simp) (zvO (by simp) (zvO (by simp) (zvO (by simp) ?_))))))))))
 refine(zaK (zk0 hS hAs)).trans (zvO (by rw [ztJ];simp) (zxw (fun _=>rfl) fun hok=> ?_))
 have hok:(zf7 t st a).2.2=true:=by simpa using hok
 obtain⟨g1,g2,g3,e,g4⟩:=zo7 hok
 rw [e]
 refine(zaK (zqB g1 g3)).trans ((zaK (zqB g1 g4)).trans (zvO (by simp;omega) ?_))
 refine zxw (fun hnd=> ?_) fun hdn=> ?_
 ·have hnd:(zdb st (zdL t a)).2=false:=by simpa using hnd
  have hst:(zdb st (zdL t a)).1=st:=by
   unfold zdb at hnd ⊢
   split at hnd
   ·cases hnd
   ·rename_i q;rw [if_neg q]
  rw [hst]
  exact(zaK (zqR (by have:=hT.len;omega))).trans rfl
 ·have hdn:(zdb st (zdL t a)).2=true:=by simpa using hdn
  have H:=zAD g1 g2 g3 hdn
  have hfl:=H.fresh_len
  have hrl:=H.rows_len
  have hfr:=fun r=>H.fresh (r:=r)
  have hG:=H.act
  have hl1:(rows t st).length≤24:=Nat.le_trans (rows_len _ _) (zdM g3).1.len
  have hl2:(rows t (zdb st (zdL t a)).1).length≤24:=Nat.le_trans (rows_len _ _) (zdM g4).1.len
  have hgood: ∀r∈rows t (zdb st (zdL t a)).1,r.fVals.length≤2000000:=fun r hr=>by
   have:=(zer g1 (zmM hr)).1.len
   omega
  generalize rows t st=L at hfl hrl hfr hl1
  generalize rows t (zdb st (zdL t a)).1=L' at hfl hrl hfr hl2 hgood
  have h:=zb1 (xs:=L') (body:=fun s:Int × Int=>zcQ (t,st,a) (L,true) (L',true) s.1 s.2) (fun i (n:Int)=>(n,i)) (fun n r=>if zvg L r=true then n else n+1) (fun n=>zg7 (t,st,a) (L,true) (L',true) n) (fun i n=>0≤n∧n≤i)
   (fun j hj n hI=>by
    refine⟨?_,by split<;>omega⟩
    show zcQ (t,st,a) (L,true) (L',true) n j=_
    unfold zcQ
    have hmem:=List.getElem_mem hj
    rw [if_pos (by simpa using hj),zaj hj,Option.bind_some,zv6 (by omega) (hgood _ hmem)]
    unfold zeY
    rw [zcJ hj (by omega),zbo (n:=n+1) (by omega) (by omega)]
    by_cases hh:zvg L L'[j]=true
    ·rw [if_neg (by simp [hh]),if_pos hh]
    ·have hn:L'[j]∉L:=fun hm=>hh (zrl.2 hm)
     have hf:=(hfr _ hmem hn).1
     rw [if_pos (by simpa using hh),if_neg hh,hf,zto (by rw [←hf];exact hgood _ hmem),Option.bind_some,if_neg (by simp)])
   (fun n _=>by
    show zcQ (t,st,a) (L,true) (L',true) n L'.length=_
    unfold zcQ
    rw [if_neg (by simp)]) (s:=0) ⟨by omega,by omega⟩
  rw [zqe]at h
  refine h.1.trans ?_
  unfold zg7
  rw [zbo (n:=(L.length:Int)+1) (by omega) (by omega),zbo (n:=(L.length:Int)-1) (by omega) (by omega)]
  rcases hG.kind with k|k|k
  ·have h1:=hrl.1 k
   have h2:=hfl.2.1 k
   rw [if_pos (by simpa using k)]
   simp only [h1,h2];simp
  ·have h1:=hrl.2.1 k
   have h2:=hfl.2.2 k
   rw [if_neg (by simp [k]),if_pos (by simpa using k)]
   simp only [h2];simp;omega
  ·have h1:=hrl.2.2 k
   have h2:=hfl.1
   rw [if_neg (by simp [k]),if_neg (by simp [k])]
   simp only [h1];simp;omega
end Go.Proofs.YtgobcjbjogkpjaaGreatDoor
end

/- Parts of a proof, joined: NWM, NWN, NWO, NY, NM, NN, NB, NSA, NWR, NWP, LW, PL. -/
import Derived.Test.YtgobcjbjogkpjaaGreatDoorW10
import Derived.Lib.LaidTab
import Derived.LaidSub
set_option linter.unusedVariables false
set_option linter.unusedSimpArgs false
section
namespace Go.Proofs.YtgobcjbjogkpjaaGreatDoor
open Go.RowKit
set_option maxRecDepth 100000
set_option maxHeartbeats 1000000
theorem zsr {w:zaa} (hw:w.bd=true): ∀(l:List zaa),((zjc wk w l).filter fun y=> !y.bd).length≤l.length
 | []=>by simp [zjc,hw]
 |z::l=>by
  rw [zjc]
  split
  ·rw [List.filter_cons_of_neg (by simp [hw])]
   exact List.length_filter_le _ _
  ·split
   ·rw [List.filter_cons_of_neg (by simp [hw]),yqlc]
    exact Nat.le_succ_of_le (List.length_filter_le _ _)
   ·have ih:=zsr hw l
    rw [List.filter_cons]
    split<;>(simp only [yqlc];omega)
theorem zyi (st:List zaa) (k:Str):zm7 st (zbA k).cg=([⟨k, [],true⟩],true):=by
 unfold zm7 zB1
 simp [zbA,zkw,zjc]
theorem zpK {st:List zaa} {k:Str} (hg:zaP st=true):(zei st (zbA k).cg).2=true:=by
 have hl:=(zdm hg).1.len
 have h:=zsr (w:=⟨k, [],true⟩) rfl st
 unfold zei
 rw [zyi,if_pos ⟨rfl,by unfold zeI;simp only [List.foldl_cons,List.foldl_nil];omega⟩]
theorem zz0 (st:List zaa) (t:zab) (x:zbh) (r:zch): ∀(n:Nat) (got:List zh6),(zB1 st (zdn t x r).cg n got).1= []∨(zB1 st (zdn t x r).cg n got).1= [⟨zeq t x.ab x.bj r, [],false⟩]
 |0,got=> .inl rfl
 |n+1,got=>by
  unfold zB1
  split
  ·exact zz0 st t x r n _
  ·simp only [zdn,zkw]
   simp only [show¬((7:Int)=2)from by decide,show¬((7:Int)=3)from by decide,if_false,if_true]
   split
   ·split
    ·right;simp [zjc]
    ·left;rfl
   ·left;rfl
theorem zEo {t:zab} {w:zaa} (hk: ∀r,zaq t r=true→(zfv t r).ae≠w.ae): ∀(l:List zaa),(zjc wk w l).filter (zbl t)=l.filter (zbl t):=by
 have hno: ∀y:zaa,y.ae=w.ae→zbl t y=false:=fun y hy=>by
  cases h:zbl t y with
  |false=>rfl
  |true=>
   obtain⟨h1,h2⟩:=zjQ h
   exact absurd (by rw [←h2,hy]) (hk _ h1)
 intro l
 induction l with
 |nil=>simp [zjc,hno w rfl]
 |cons z l ih=>
  rw [zjc]
  split
  ·rw [List.filter_cons_of_neg (by simp [hno w rfl])]
  ·split
   ·rename_i h
    have hz:zbl t z=false:=hno z h.symm
    rw [List.filter_cons_of_neg (by simp [hno w rfl]),List.filter_cons_of_neg (by simp [hz])]
   ·rw [List.filter_cons,List.filter_cons,ih]
theorem zCH {t:zab} {x:zbh} {r:zch} {st:List zaa} (hg:zah t=true) (hx:x∈t.af) (hr:zaq t r=true) (hst:zaP st=true):rows t (zei st (zdn t x r).cg).1=rows t st:=by
 have hlive:=(zdm hst).2
 have hid:st.filter (fun y=> !y.bd)=st:=List.filter_eq_self.2 fun y hy=>by rw [hlive y hy];rfl
 have hl:=(zeB hg hx).1
 unfold zei
 split
 ·show rows t (zeI st (zB1 st (zdn t x r).cg 9 []).1)=_
  rcases zz0 st t x r 9 []with e|e
  ·rw [e]
   unfold zeI
   rw [List.foldl_nil,hid]
  ·rw [e]
   unfold zeI rows
   rw [List.foldl_cons,List.foldl_nil]
   have hall:(zjc wk ⟨zeq t x.ab x.bj r, [],false⟩ st).filter (fun y=> !y.bd)=zjc wk ⟨zeq t x.ab x.bj r, [],false⟩ st:=List.filter_eq_self.2 fun y hy=>by
    rcases mem_insK_any hy with rfl|hy
    ·rfl
    ·rw [hlive y hy];rfl
   rw [hall,zEo fun q hq=>zlM hg hl hq hr]
 ·rfl
where
 mem_insK_any {w y:zaa}: ∀{l:List zaa},y∈zjc wk w l→y=w∨y∈l
  | [],h=> .inl (by simpa [zjc]using h)
  |z::l,h=>by
   rw [zjc]at h
   split at h
   ·rcases yqmc.1 h with h|h
    ·exact .inl h
    ·exact .inr h
   ·split at h
    ·rcases yqmc.1 h with h|h
     ·exact .inl h
     ·exact .inr (by simp [h])
    ·rcases yqmc.1 h with h|h
     ·exact .inr (by simp [h])
     ·rcases mem_insK_any h with h|h
      ·exact .inl h
      ·exact .inr (by simp [h])
theorem zuv {t:zab} {x:zbh} (hg:zah t=true) (hx:x∈t.af): ∀(R:List zch) (m n:Nat) (st:List zaa) (last:Str),(∀r∈R,zaq t r=true)→zaP st=true→rows t (zaE (R.map (zdn t x)) m n st last).1=rows t st
 | [],m,n,st,last,_,_=>by simp [zaE]
 |r::R,0,n,st,last,_,_=>by simp [zaE]
 |r::R,m+1,n,st,last,hr,hst=>by
  rw [List.map_cons]
  unfold zaE
  split
  ·have ho:=zvh hg hx (hr r (by simp))
   rw [zuv hg hx R m (n+1) _ _ (fun q hq=>hr q (by simp [hq])) (zmj ho.1 ho.2 hst)]
   exact zCH hg hx (hr r (by simp)) hst
  ·rfl
theorem zp0 {ks:List zdk} {m:Nat} {st:List zaa} {last:Str} (hr:ks.Pairwise (fun a b=>bl a.a8 b.a8=true)):
  (ks.any fun k=>behind (zaE (ks.filter fun k=>behind last k.a8) m 0 st last).2.2 k.a8)= !((zaE (ks.filter fun k=>behind last k.a8) m 0 st last).2.1==(ks.filter fun k=>behind last k.a8).length):=by
 have hrr:=hr.filter fun k=>behind last k.a8
 have hb: ∀k∈ks.filter (fun k=>behind last k.a8),bl last k.a8=true:=fun k hk=>by rw [←zja];simpa using(List.mem_filter.1 hk).2
 have hn:=zwp (ks.filter fun k=>behind last k.a8) m 0 st last
 have hlast:=zts (ks.filter fun k=>behind last k.a8) m 0 st last hrr hb
 have hge:=pieceL_ge (ks.filter fun k=>behind last k.a8) m 0 st last hrr hb
 generalize hP:zaE (ks.filter fun k=>behind last k.a8) m 0 st last=p at hn hlast hge
 rw [Bool.eq_iff_iff,List.any_eq_true]
 constructor
 ·rintro⟨k,hk,hkb⟩
  rw [zja]at hkb
  have hkr:k∈ks.filter fun k=>behind last k.a8:=by
   refine List.mem_filter.2 ⟨hk, ?_⟩
   show behind last k.a8=true
   rw [zja]
   rcases hge with e|e
   ·rw [←e];exact hkb
   ·exact zdZ e hkb
  obtain⟨i,hi,rfl⟩:=List.getElem_of_mem hkr
  have:=hlast i hi
  rw [hkb]at this
  have h2:=of_decide_eq_true this.symm
  rw [Bool.not_eq_true',beq_eq_false_iff_ne]
  omega
 ·intro h
  rw [Bool.not_eq_true',beq_eq_false_iff_ne]at h
  have hlt:p.2.1<(ks.filter fun k=>behind last k.a8).length:=by omega
  refine⟨_,(List.mem_filter.1 (List.getElem_mem hlt)).1, ?_⟩
  rw [zja,hlast _ hlt]
  exact decide_eq_true (by omega)
where
 pieceL_ge: ∀(ks:List zdk) (m n:Nat) (st:List zaa) (last:Str),ks.Pairwise (fun a b=>bl a.a8 b.a8=true)→(∀q∈ks,bl last q.a8=true)→(zaE ks m n st last).2.2=last∨bl last (zaE ks m n st last).2.2=true
  | [],m,n,st,last,_,_=> .inl (by simp [zaE])
  |q::ks,0,n,st,last,_,_=> .inl (by simp [zaE])
  |q::ks,m+1,n,st,last,hr,hb=>by
   rw [List.pairwise_cons]at hr
   unfold zaE
   split
   ·rcases pieceL_ge ks m (n+1) (zei st q.cg).1 q.a8 hr.2 hr.1 with e|e
    ·rw [e];exact .inr (hb q (by simp))
    ·exact .inr (zdZ (hb q (by simp)) e)
   ·exact .inl rfl
theorem zpT: ∀(ks:List zdk) (m n:Nat) (st:List zaa) (last:Str),(zaE ks m n st last).2.2=last∨ ∃k∈ks,(zaE ks m n st last).2.2=k.a8
 | [],m,n,st,last=> .inl (by simp [zaE])
 |k::ks,0,n,st,last=> .inl (by simp [zaE])
 |k::ks,m+1,n,st,last=>by
  unfold zaE
  split
  ·rcases zpT ks m (n+1) (zei st k.cg).1 k.a8 with e|⟨q,hq,e⟩
   ·exact .inr ⟨k,by simp,e⟩
   ·exact .inr ⟨q,by simp [hq],e⟩
  ·exact .inl rfl
theorem zDC {t:zab} {n:Str} {x:zbh} {st:List zaa} {f:zaK} {many:Int} (hg:zah t=true) (hx:zf2 t n x) (hxm:x∈t.af) (hxn:x.ab=n) (hn:n.length≤2000000) (ht1:t.ab.length=1) (hst:zaP st=true) (h1:1≤many) (h2:many≤24):
  ∃r,zgG t n st f many=some r∧((zdl t n st).bind fun k=>zeY k st f many)=some r∧zaP r.1=true∧(r.2.aq=f.aq∨goodKey r.2.aq=true)∧
   r=zuK ((rows t st).map (zdn t x)) f many.toNat st:=by
 have hR:=(zdm hst).1
 have hl:st.length≤2000000:=by have:=hR.len;omega
 have hT: ∀w∈st,znO w:=fun w hw=>znC (hR.cu w hw)
 have hrl:=znB t st
 have hRg: ∀r∈rows t st,zaq t r=true:=fun r h=>zqj h
 have hsr:=zwj (t:=t) (by omega) hl hT
 have hir:=zzw (t:=t) ht1 hl hT
 have hok: ∀k∈(rows t st).map (zdn t x),znW k:=fun k hk=>by
  obtain⟨r,hr,rfl⟩:=List.mem_map.1 hk
  exact zvh hg hxm (hRg r hr)
 have hrise:=zAr (t:=t) (x:=x) hR.dd
 have hfl:((rows t st).map (zdn t x)).length≤2000000:=by rw [List.length_map];omega
 obtain⟨m,rfl⟩:=Int.eq_ofNat_of_zero_le (show 0≤many by omega)
 have hpi:=zzG (f:=f) hfl hok hst h1 h2
 rw [Int.toNat_natCast]at hpi ⊢
 have hfilt: ∀k∈((rows t st).map (zdn t x)).filter (fun k=>behind f.aq k.a8),znW k:=fun k hk=>hok k (List.mem_filter.1 hk).1
 have hgood:=zmh (((rows t st).map (zdn t x)).filter fun k=>behind f.aq k.a8) m 0 (last:=f.aq) hfilt hst
 have hrows:rows t (zaE (((rows t st).map (zdn t x)).filter fun k=>behind f.aq k.a8) m 0 st f.aq).1=rows t st:=by
  have e:((rows t st).map (zdn t x)).filter (fun k=>behind f.aq k.a8)=((rows t st).filter fun r=>behind f.aq (zfv t r).ae).map (zdn t x):=by
   rw [List.filter_map];rfl
  rw [e]
  exact zuv hg hxm _ m 0 st f.aq (fun r hr=>hRg r (List.mem_filter.1 hr).1) hst
 have hany:=zp0 (m:=m) (st:=st) (last:=f.aq) hrise
 have hmem:=zpT (((rows t st).map (zdn t x)).filter fun k=>behind f.aq k.a8) m 0 st f.aq
 refine⟨_, ?_,by rw [zFe hg hx hxn hn hl hir,yqob];exact hpi,hgood,by
  rcases hmem with e|⟨k,hk,e⟩
  ·exact .inl e
  ·obtain⟨q,hq,rfl⟩:=List.mem_map.1 (List.mem_filter.1 hk).1
   refine .inr ?_
   show goodKey (zaE _ m 0 st f.aq).2.2=true
   rw [e];exact(zmD hg (hRg q hq)).1,rfl⟩
 have hspec:zgG t n st f m=zdF t f (zkm ((rows t st).map (zdn t x)) m st f.aq).2 (zkm ((rows t st).map (zdn t x)) m st f.aq).1:=by
  unfold zgG
  rw [zae (by simp;omega),zo6 (zic hg),yqob,hx.at_,yqob,hsr,yqob]
  have:=ztr (f:=f) hg hxm (R:=rows t st) (by omega) hRg (rows t st).length 0 m st f.aq (by omega) (by omega) hst
  rw [List.drop_zero]at this
  exact this
 rw [hspec,zux hrise]
 unfold zuK
 generalize hP:zaE (((rows t st).map (zdn t x)).filter fun k=>behind f.aq k.a8) m 0 st f.aq=p at hgood hrows hany
 dsimp only
 unfold zdF
 cases hov:f.br with
 |true=>simp
 |false=>
  have hR2:=(zdm hgood).1
  rw [if_neg (by simp),zA9 hg (by have:=hR2.len;omega) (zwj (by omega) (by have:=hR2.len;omega) fun w hw=>znC (hR2.cu w hw)),yqob,hrows,zCd (by rw [List.length_map];omega),yqob]
  have e:((rows t st).map fun r=>(zfv t r).ae).any (fun k=>behind p.2.2 k)=((rows t st).map (zdn t x)).any fun k=>behind p.2.2 k.a8:=by
   rw [List.any_map,List.any_map];rfl
  rw [e,hany]
  simp
theorem zp5 {t:zab} {n:Str} {f:zaK} {K:List Str} (hl:K.length≤2000000) (hK: ∀k∈K,goodKey k=true): ∀(m q many:Nat) (st:List zaa) (last:Str),q+m=K.length→many≤24→zaP st=true→
  zak (fun s:Int × Int × yqS × List zaa=>zbN t n f K s.1 s.2.1 s.2.2.1 s.2.2.2) ((many:Int),(q:Int),last,st)=zfJ t n f (zkm ((K.drop q).map zbA) many st last).2 (zkm ((K.drop q).map zbA) many st last).1
 |0,q,many,st,last,hq,hm,hst=>by
  rw [List.drop_eq_nil_of_le (show K.length≤q by omega)]
  refine zaO ?_
  show zbN t n f K many q last st=_
  unfold zbN
  rw [if_neg (by rw [decide_eq_true_eq];omega)]
  rfl
 |m+1,q,many,st,last,hq,hm,hst=>by
  have hlt:q<K.length:=by omega
  have hk:=hK _ (List.getElem_mem hlt)
  have ho:=ztf hk
  have hdo:=zG7 ho.1 ho.2 hst
  have hdo':zf4 st [(⟨3,K[q], [],0⟩:DOp)]=some (zei st (zbA K[q]).cg):=hdo
  have hw:=zaW hlt (by omega)
  rw [List.drop_eq_getElem_cons hlt,List.map_cons]
  unfold zkm
  by_cases hc:many=0∨behind last (zbA K[q]).a8=false
  ·rw [if_pos hc]
   refine(za8 ?_).trans (zp5 hl hK m (q+1) many st last (by omega) hm hst)
   show zbN t n f K many q last st=_
   unfold zbN
   have hc2:((many:Int)==0||(Op.bytesLess K[q] last||K[q]==last))=true:=by
    rcases hc with hc|hc
    ·subst hc;rfl
    ·unfold behind at hc
     cases h:(Op.bytesLess K[q] last||K[q]==last)with
     |true=>simp
     |false=>rw [show(zbA K[q]).a8=K[q]from rfl,h]at hc;simp at hc
   rw [if_pos (decide_eq_true (show(q:Int)<(K.length:Int) by omega)),zac hlt,yqob,if_pos hc2,hw]
  ·rw [if_neg hc,if_pos (zpK hst)]
   have hmz:0<many:=by
    rcases Nat.eq_zero_or_pos many with h|h
    ·exact absurd (.inl h) hc
    ·exact h
   have hc2: ¬((many:Int)==0||(Op.bytesLess K[q] last||K[q]==last))=true:=by
    rw [not_or]at hc
    obtain⟨c1,c2⟩:=hc
    unfold behind at c2
    rw [show(zbA K[q]).a8=K[q]from rfl]at c2
    cases h:(Op.bytesLess K[q] last||K[q]==last)with
    |true=>rw [h]at c2;simp at c2
    |false=>rw [Bool.or_false,beq_iff_eq];omega
   have hw2:IntKind.i64.wrap ((many:Int)-1)=((many-1:Nat):Int):=by rw [zaI (by omega) (by omega)];omega
   refine(za8 ?_).trans (zp5 hl hK m (q+1) (many-1) _ _ (by omega) (by omega) (zmj ho.1 ho.2 hst))
   show zbN t n f K many q last st=_
   unfold zbN
   rw [if_pos (decide_eq_true (show(q:Int)<(K.length:Int) by omega)),zac hlt,yqob,if_neg hc2,hdo',yqob,hw,hw2]
   rfl
theorem zzz {k:Str}: ∀{l:List zaa},zij l→(∀w∈l,w.bd=false)→(zjc wk ⟨k, [],true⟩ l).filter (fun y=> !y.bd)=l.filter fun y=>y.ae !=k
 | [],_,_=>by simp [zjc]
 |z::l,hr,hg=>by
  obtain⟨h1,h2⟩:=zoJ hr
  have hz:z.bd=false:=hg z (by simp)
  have hid: ∀l':List zaa,(∀w∈l',w.bd=false)→l'.filter (fun y=> !y.bd)=l':=fun l' h=>List.filter_eq_self.2 fun y hy=>by rw [h y hy];rfl
  have hne: ∀l':List zaa,(∀y∈l',bl k y.ae=true)→l'.filter (fun y=>y.ae !=k)=l':=fun l' h=>List.filter_eq_self.2 fun y hy=>by
   have:=zmx (h y hy)
   simpa using fun e=>this e.symm
  rw [zjc]
  split
  ·rename_i h
   rw [List.filter_cons_of_neg (by simp),hid _ hg]
   exact(hne _ fun y hy=>by
    rcases yqmc.1 hy with rfl|hy
    ·exact h
    ·exact zdZ h (h1 y hy)).symm
  ·split
   ·rename_i h
    have h:k=z.ae:=h
    rw [List.filter_cons_of_neg (by simp),hid _ fun w hw=>hg w (by simp [hw]),List.filter_cons_of_neg (by simp [h])]
    exact(hne _ fun y hy=>by rw [h];exact h1 y hy).symm
   ·rename_i h3 h4
    rw [List.filter_cons_of_pos (by simp [hz]),List.filter_cons_of_pos (by simpa using fun e=>h4 e.symm),zzz h2 fun w hw=>hg w (by simp [hw])]
theorem zwh {t:zab} {n k:Str} {st:List zaa} (hst:zaP st=true):zaG t n (zei st (zbA k).cg).1=(zaG t n st).filter fun e=>e !=k:=by
 have hd:=zpK (k:=k) hst
 have hR:=zdm hst
 unfold zei at hd ⊢
 split at hd
 ·rename_i h
  rw [if_pos h,zyi]
  unfold zeI zaG
  rw [List.foldl_cons,List.foldl_nil,zzz hR.1.dd hR.2,List.filter_map,List.filter_filter,List.filter_filter]
  congr 1
  apply List.filter_congr
  intro y _
  simp [Bool.and_comm]
 ·cases hd
theorem znS {t:zab} {nm:Str}: ∀(K:List Str) (m n:Nat) (st:List zaa) (last:Str),(K.map zbA).Pairwise (fun a b=>bl a.a8 b.a8=true)→(∀q∈K,bl last q=true)→(∀k∈K,goodKey k=true)→zaP st=true→
  ∃p:Str→Bool,zaG t nm (zaE (K.map zbA) m n st last).1=(zaG t nm st).filter p∧(∀k,bl (zaE (K.map zbA) m n st last).2.2 k=true→p k=true)∧(∀k,p k=false→k∈K)∧ ∀k∈K,p k=true→bl (zaE (K.map zbA) m n st last).2.2 k=true
 | [],m,n,st,last,_,_,_,_=>⟨fun _=>true,by simp only [List.map_nil,zaE];exact(List.filter_eq_self.2 fun _ _=>rfl).symm,by simp,by simp,by simp⟩
 |k::K,0,n,st,last,_,hb,_,_=>⟨fun _=>true,by simp only [List.map_cons,zaE];exact(List.filter_eq_self.2 fun _ _=>rfl).symm,by simp,by simp,fun q hq _=>by simpa [zaE]using hb q hq⟩
 |k::K,m+1,n,st,last,hr,hb,hk,hst=>by
  have hge:=zp0.pieceL_ge (K.map zbA) m (n+1) (zei st (zbA k).cg).1 k
  rw [List.map_cons,List.pairwise_cons]at hr
  rw [List.map_cons]
  unfold zaE
  rw [if_pos (zpK hst)]
  have ho:=ztf (hk k (by simp))
  have hrk: ∀q∈K,bl k q=true:=fun q hq=>hr.1 (zbA q) (List.mem_map.2 ⟨q,hq,rfl⟩)
  obtain⟨p,e1,e2,e3,e4⟩:=znS (t:=t) (nm:=nm) K m (n+1) (zei st (zbA k).cg).1 k hr.2 hrk (fun q hq=>hk q (by simp [hq])) (zmj ho.1 ho.2 hst)
  have hge:=hge hr.2 fun q hq=>by
   obtain⟨z,hz,rfl⟩:=List.mem_map.1 hq
   exact hrk z hz
  refine⟨fun e=>p e&&e !=k, ?_,fun e he=> ?_,fun e he=> ?_,fun e hm he=> ?_⟩
  ·show zaG t nm (zaE (K.map zbA) m (n+1) (zei st (zbA k).cg).1 k).1=_
   rw [e1,zwh hst,List.filter_filter]
  ·have he:bl (zaE (K.map zbA) m (n+1) (zei st (zbA k).cg).1 k).2.2 e=true:=he
   have hne:bl k e=true:=by
    rcases hge with g|g
    ·rw [g]at he;exact he
    ·exact zdZ g he
   have:=zmx hne
   show(p e&&e !=k)=true
   rw [e2 e he,Bool.true_and,bne_iff_ne]
   exact fun h=>this h.symm
  ·have he:(p e&&e !=k)=false:=he
   rw [Bool.and_eq_false_iff]at he
   rcases he with he|he
   ·exact List.mem_cons_of_mem _ (e3 e he)
   ·simp only [bne_eq_false_iff_eq]at he
    rw [he];simp
  ·show bl (zaE (K.map zbA) m (n+1) (zei st (zbA k).cg).1 k).2.2 e=true
   simp only [yqba,bne_iff_ne]at he
   rcases yqmc.1 hm with rfl|hm
   ·exact absurd rfl he.2
   ·exact e4 e hm he.1
theorem zxO {t:zab} {n:Str} {st:List zaa} (hst:zaP st=true): ∀k∈zaG t n st,goodKey k=true:=fun k hk=>by
 unfold zaG at hk
 obtain⟨w,hw,rfl⟩:=List.mem_map.1 hk
 have:=(zdm hst).1.cu w (List.mem_filter.1 hw).1
 unfold zg4 at this
 rw [yqba]at this
 exact this.1
theorem zAf {t:zab} {n:Str} {st:List zaa} {f:zaK} {many:Int} (hg:zah t=true) (hn:n.length≤2000000) (hh: ∀b∈head t n,b≠47) (hst:zaP st=true) (h1:1≤many) (h2:many≤24):
  ∃r,zfU t n st f many=some r∧((zcb t n st).bind fun k=>zeY k st f many)=some r∧zaP r.1=true∧(r.2.aq=f.aq∨goodKey r.2.aq=true)∧
   r=zuK ((zaG t n st).map zbA) f many.toNat st:=by
 have hR:=(zdm hst).1
 have hl:st.length≤2000000:=by have:=hR.len;omega
 have hT: ∀w∈st,znO w:=fun w hw=>znC (hR.cu w hw)
 have hrl:=zky t n st
 have hS:=zic hg
 have hnm:t.ab.length≤2000000:=by have:=hS.name;omega
 have hKg:=zxO (t:=t) (n:=n) hst
 have hsr:=zqf (t:=t) (n:=n) hnm hn hl hT
 have hir:=zuN (t:=t) (n:=n) hnm hn hh hl hT
 have hok: ∀k∈(zaG t n st).map zbA,znW k:=fun k hk=>by
  obtain⟨r,hr,rfl⟩:=List.mem_map.1 hk
  exact ztf (hKg r hr)
 have hrise:=zyu (t:=t) (n:=n) hR.dd
 have hfl:((zaG t n st).map zbA).length≤2000000:=by rw [List.length_map];omega
 obtain⟨m,rfl⟩:=Int.eq_ofNat_of_zero_le (show 0≤many by omega)
 have hpi:=zzG (f:=f) hfl hok hst h1 h2
 rw [Int.toNat_natCast]at hpi ⊢
 have hfilt: ∀k∈((zaG t n st).map zbA).filter (fun k=>behind f.aq k.a8),znW k:=fun k hk=>hok k (List.mem_filter.1 hk).1
 have hgood:=zmh (((zaG t n st).map zbA).filter fun k=>behind f.aq k.a8) m 0 (last:=f.aq) hfilt hst
 have hmem:=zpT (((zaG t n st).map zbA).filter fun k=>behind f.aq k.a8) m 0 st f.aq
 have hany:=zp0 (m:=m) (st:=st) (last:=f.aq) hrise
 have e:((zaG t n st).map zbA).filter (fun k=>behind f.aq k.a8)=((zaG t n st).filter fun k=>behind f.aq k).map zbA:=by
  rw [List.filter_map];rfl
 have hent: ∃p:Str→Bool,zaG t n (zaE (((zaG t n st).map zbA).filter fun k=>behind f.aq k.a8) m 0 st f.aq).1=(zaG t n st).filter p∧(∀k,bl (zaE (((zaG t n st).map zbA).filter fun k=>behind f.aq k.a8) m 0 st f.aq).2.2 k=true→p k=true):=by
  have hr2:=hrise.filter fun k=>behind f.aq k.a8
  rw [e]at hr2 ⊢
  obtain⟨p,e1,e2,_,_⟩:=znS (t:=t) (nm:=n) _ m 0 st f.aq hr2 (fun q hq=>by rw [←zja];simpa using(List.mem_filter.1 hq).2) (fun q hq=>hKg q (List.mem_filter.1 hq).1) hst
  exact⟨p,e1,e2⟩
 refine⟨_, ?_,by rw [zCX hl hir,yqob];exact hpi,hgood, ?_,rfl⟩
 ·have hspec:zfU t n st f m=zfJ t n f (zkm ((zaG t n st).map zbA) m st f.aq).2 (zkm ((zaG t n st).map zbA) m st f.aq).1:=by
   unfold zfU
   rw [zae (by simp;omega),hsr,yqob]
   have:=zp5 (t:=t) (n:=n) (f:=f) (K:=zaG t n st) (by omega) hKg (zaG t n st).length 0 m st f.aq (by omega) (by omega) hst
   rw [List.drop_zero]at this
   exact this
  rw [hspec,zux hrise]
  unfold zuK
  generalize hP:zaE (((zaG t n st).map zbA).filter fun k=>behind f.aq k.a8) m 0 st f.aq=p at hgood hent hany
  dsimp only
  unfold zfJ
  cases hov:f.br with
  |true=>simp
  |false=>
   have hR2:=(zdm hgood).1
   obtain⟨pr,e1,e2⟩:=hent
   have hl2:=zky t n p.1
   rw [if_neg (by simp),zqf hnm hn (by have:=hR2.len;omega) (fun w hw=>znC (hR2.cu w hw)),yqob,zCd (by have:=hR2.len;omega),yqob]
   have e3:(zaG t n p.1).any (fun k=>behind p.2.2 k)=((zaG t n st).map zbA).any fun k=>behind p.2.2 k.a8:=by
    rw [e1,List.any_filter,List.any_map]
    congr 1
    funext k
    show(pr k&&behind p.2.2 k)=behind p.2.2 k
    cases hb:behind p.2.2 k with
    |false=>rw [Bool.and_false]
    |true=>rw [e2 k (by rw [←zja];exact hb)];rfl
   rw [e3,hany]
   simp
 ·rcases hmem with e|⟨k,hk,e⟩
  ·exact .inl e
  ·obtain⟨q,hq,rfl⟩:=List.mem_map.1 (List.mem_filter.1 hk).1
   refine .inr ?_
   show goodKey (zaE _ m 0 st f.aq).2.2=true
   rw [e];exact hKg q hq
def zyf (l:List Int):Bool:=l.all fun x=>l.all fun y=> !decide (x-y>1)
theorem zET {l:List Int} (hl:l.length≤2000000) (hb: ∀y∈l,0≤y∧y≤3):zhS l=some (zyf l):=by
 unfold zhS
 have hin: ∀(i:Nat) (hi:i<l.length),zak (fun s:Int=>zcn l i l[i] s) 0=some (if(l.all fun y=> !decide (l[i]-y>1))=true then .inl ((i+1:Nat):Int)else .inr (some false)):=by
  intro i hi
  have hx:=hb _ (List.getElem_mem hi)
  rw [zjL (xs:=l) (body:=fun s:Int=>zcn l i l[i] s) (fun y=> !decide (l[i]-y>1)) (.inr (some false)) (zht i) (fun j hj=>by
   have hy:=hb _ (List.getElem_mem hj)
   have w:IntKind.i64.wrap (l[i]-l[j])=l[i]-l[j]:=zaI (by omega) (by omega)
   show zcn l i l[i] j=_
   unfold zcn
   rw [if_pos (by simpa using hj),zac hj,yqob,w,zaW hj (by omega)]
   cases decide (l[i]-l[j]>1)<;>rfl) (by
   show zcn l i l[i] l.length=_
   unfold zcn
   rw [if_neg (by simp)])]
  unfold zht
  rw [zaW hi (by omega)]
  split<;>rfl
 rw [zjL (xs:=l) (body:=fun s:Int=>zdd l s) (fun x=>l.all fun y=> !decide (x-y>1)) false (some true) (fun i hi=>by
  show zdd l i=_
  unfold zdd
  rw [if_pos (by simpa using hi),zac hi,yqob]
  exact hin i hi) (by
  show zdd l l.length=_
  unfold zdd
  rw [if_neg (by simp)])]
 unfold zyf
 cases(l.all fun x=>l.all fun y=> !decide (x-y>1))<;>rfl
def zFp (a:Int) (l:List Int):Int:=l.foldl (fun m y=>bif decide (y>m)then y else m) a
def zEX (a:Int) (l:List Int):Int:=l.foldl (fun m y=>bif decide (y<m)then y else m) a
theorem zCv: ∀(l:List Int) (a:Int),zFp a l∈a::l∧ ∀x∈a::l,x≤zFp a l
 | [],a=>by simp [zFp]
 |y::l,a=>by
  obtain⟨h1,h2⟩:=zCv l (bif decide (y>a)then y else a)
  have e:zFp a (y::l)=zFp (bif decide (y>a)then y else a) l:=rfl
  rw [e]
  have ha:a≤(bif decide (y>a)then y else a)∧y≤(bif decide (y>a)then y else a):=by
   by_cases h:y>a
   ·rw [decide_eq_true h];exact⟨by simp;omega,by simp⟩
   ·rw [decide_eq_false h];exact⟨by simp,by simp;omega⟩
  have hm:=h2 _ (List.mem_cons_self)
  refine⟨?_,fun x hx=> ?_⟩
  ·rcases yqmc.1 h1 with h|h
   ·rw [h]
    by_cases hc:y>a
    ·rw [decide_eq_true hc];simp
    ·rw [decide_eq_false hc];simp
   ·simp [h]
  ·rcases yqmc.1 hx with rfl|hx
   ·omega
   ·rcases yqmc.1 hx with rfl|hx
    ·omega
    ·exact h2 x (by simp [hx])
theorem zBH: ∀(l:List Int) (a:Int),zEX a l∈a::l∧ ∀x∈a::l,zEX a l≤x
 | [],a=>by simp [zEX]
 |y::l,a=>by
  obtain⟨h1,h2⟩:=zBH l (bif decide (y<a)then y else a)
  have e:zEX a (y::l)=zEX (bif decide (y<a)then y else a) l:=rfl
  rw [e]
  have ha:(bif decide (y<a)then y else a)≤a∧(bif decide (y<a)then y else a)≤y:=by
   by_cases h:y<a
   ·rw [decide_eq_true h];exact⟨by simp;omega,by simp⟩
   ·rw [decide_eq_false h];exact⟨by simp,by simp;omega⟩
  have hm:=h2 _ (List.mem_cons_self)
  refine⟨?_,fun x hx=> ?_⟩
  ·rcases yqmc.1 h1 with h|h
   ·rw [h]
    by_cases hc:y<a
    ·rw [decide_eq_true hc];simp
    ·rw [decide_eq_false hc];simp
   ·simp [h]
  ·rcases yqmc.1 hx with rfl|hx
   ·omega
   ·rcases yqmc.1 hx with rfl|hx
    ·omega
    ·exact h2 x (by simp [hx])
theorem zIs {l:List Int} {a:Int} (hl:l.length≤2000000):zdt (a::l)=some (zFp a l):=by
 have key: ∀(n q:Nat) (m:Int),q+n=(a::l).length→zak (fun s:Int × Int=>zaU (a::l) s.1 s.2) (m,(q:Int))=some (zFp m ((a::l).drop q)):=by
  intro n
  induction n with
  |zero=>
   intro q m hq
   rw [List.drop_eq_nil_of_le (by omega)]
   refine zaO ?_
   show zaU (a::l) m q=_
   unfold zaU
   rw [if_neg (by rw [decide_eq_true_eq];omega)]
   rfl
  |succ n ih=>
   intro q m hq
   have hlt:q<(a::l).length:=by omega
   have hll:(a::l).length=l.length+1:=yqlc
   have e:zaU (a::l) m q=some (.inl ((bif decide ((a::l)[q]>m)then(a::l)[q]else m),((q+1:Nat):Int))):=by
    unfold zaU
    rw [if_pos (decide_eq_true (by omega)),zac hlt,yqob,zaW hlt (by omega)]
   rw [za8 (body:=fun s:Int × Int=>zaU (a::l) s.1 s.2) e,ih (q+1) _ (by omega),List.drop_eq_getElem_cons hlt]
   rfl
 unfold zdt
 rw [if_neg (by rw [decide_eq_true_eq,yqlc];omega),show zaD (a::l) 0=some a from rfl,yqob]
 exact key l.length 1 a (by rw [yqlc];omega)
theorem zID {l:List Int} {a:Int} (hl:l.length≤2000000):zdw (a::l)=some (zEX a l):=by
 have key: ∀(n q:Nat) (m:Int),q+n=(a::l).length→zak (fun s:Int × Int=>zaT (a::l) s.1 s.2) (m,(q:Int))=some (zEX m ((a::l).drop q)):=by
  intro n
  induction n with
  |zero=>
   intro q m hq
   rw [List.drop_eq_nil_of_le (by omega)]
   refine zaO ?_
   show zaT (a::l) m q=_
   unfold zaT
   rw [if_neg (by rw [decide_eq_true_eq];omega)]
   rfl
  |succ n ih=>
   intro q m hq
   have hlt:q<(a::l).length:=by omega
   have hll:(a::l).length=l.length+1:=yqlc
   have e:zaT (a::l) m q=some (.inl ((bif decide ((a::l)[q]<m)then(a::l)[q]else m),((q+1:Nat):Int))):=by
    unfold zaT
    rw [if_pos (decide_eq_true (by omega)),zac hlt,yqob,zaW hlt (by omega)]
   rw [za8 (body:=fun s:Int × Int=>zaT (a::l) s.1 s.2) e,ih (q+1) _ (by omega),List.drop_eq_getElem_cons hlt]
   rfl
 unfold zdw
 rw [if_neg (by rw [decide_eq_true_eq,yqlc];omega),show zaD (a::l) 0=some a from rfl,yqob]
 exact key l.length 1 a (by rw [yqlc];omega)
theorem zEa {s:zai} (hl:s.bm.length≤2000000) (h1:1≤s.bm.length) (hb: ∀y∈s.bm,0≤y∧y≤3):zdq s=some (zyf s.bm):=by
 unfold zdq
 generalize s.bm=l at hl h1 hb
 cases l with
 |nil=>simp at h1
 |cons a l=>
  rw [yqlc]at hl
  rw [zIs (by omega),zID (by omega),yqob,yqob]
  obtain⟨x1,x2⟩:=zCv l a
  obtain⟨n1,n2⟩:=zBH l a
  have b1:=hb _ x1
  have b2:=hb _ n1
  have w:IntKind.i64.wrap (zFp a l-zEX a l)=zFp a l-zEX a l:=zaI (by omega) (by omega)
  rw [w]
  congr 1
  unfold zyf
  rw [Bool.eq_iff_iff]
  simp only [decide_eq_true_eq,yqal,Bool.not_eq_true',decide_eq_false_iff_not]
  constructor
  ·intro h x hx y hy
   have:=x2 x hx
   have:=n2 y hy
   omega
  ·intro h
   have:=h _ x1 _ n1
   omega
theorem zEv {s:zai} {a:zax} (hS:zjF s) (hg:zkv s) (hA:zkP a.aw) (hact:zFW s a): ∃r,zhV s a=some r∧zfM s a=some r:=by
 obtain⟨r,k1,k2,hn⟩:=zxY hS hg hA hact
 unfold zhV zfM
 rw [k1,k2,yqob,yqob]
 by_cases h:r.2=true
 ·rw [if_pos h,if_pos h]
  have h3:=zaY.1 hn.cu.2.2.2.2.1
  have hw:=hn.cu.2.1
  have hb: ∀y∈r.1.bm,0≤y∧y≤3:=fun y hy=>by
   have:=hn.cu.2.2.2.2.2.1 y hy
   omega
  have hl:=hn.small.at_
  rw [zET hl hb,zEa hl (by omega) hb,yqob,yqob]
  obtain⟨q,q1,q2⟩:=zBL hn.small hn.cu
  by_cases hc:zyf r.1.bm=true
  ·rw [if_pos hc,if_pos hc,q1,q2]
   exact⟨q,rfl,rfl⟩
  ·rw [if_neg hc,if_neg hc]
   exact⟨_,rfl,rfl⟩
 ·rw [if_neg h,if_neg h]
  exact⟨_,rfl,rfl⟩
def NoE (t:zab) (n:Str) (st:List zaa):Prop:= ∀w∈st,zcf t n w.ae=false
def NoO (t:zab) (n:Str) (x:zbh) (st:List zaa):Prop:= ∀w∈st,zcf t n w.ae=true→ ∃q∈st,zbl t q=true∧w.ae=zeq t n x.bj (zeW q)
def NoL (t:zab) (n:Str) (x:zbh) (st:List zaa):Prop:= ∀q∈st,zbl t q=true→ ∃w∈st,w.ae=zeq t n x.bj (zeW q)
structure zwK (t:zab) (a:zao):Prop where
 tab:zah t=true
 old:a.aj≠1→zaq t a.bg=true
 new:a.aj≠2→zaq t a.bh=true
 kind:a.aj=1∨a.aj=2∨a.aj=3
 same:a.aj=3→zfY a.bg 0=zfY a.bh 0
structure zB4 (t:zab) (a:zao) (n:Str) (x:zbh):Prop extends zwK t a where
 idx:x∈t.af
 name:x.ab=n
theorem zCt (t:zab) (m:Str) (c:Int) (r:zch):zeq t m c r≠ []:=by unfold zeq;simp
section
variable {t:zab} {a:zao} (A:zwK t a)
include A
theorem zwK.ed (h:a.aj≠1) {y:zbh}:ztB t a y=zeq t y.ab y.bj a.bg:=by
 have _:=A
 unfold ztB
 rw [if_neg h]
theorem zwK.dy (h:a.aj≠2) {y:zbh}:zq7 t a y=zeq t y.ab y.bj a.bh:=by
 have _:=A
 unfold zq7
 rw [if_neg h]
theorem zwK.fm {y:zbh} {w:zaa} (hw:w∈zq4 t a y):(w=⟨ztB t a y, [],true⟩∧a.aj≠1∧ztB t a y≠zq7 t a y∧y.al≥1)∨(w=⟨zq7 t a y, [],false⟩∧a.aj≠2∧y.al≥2):=by
 have _:=A
 unfold zq4 at hw
 rcases yqma.1 hw with hw|hw
 ·split at hw
  ·rename_i h
   rw [List.mem_singleton]at hw
   refine .inl ⟨hw,fun k=> ?_,h.2.1,h.2.2⟩
   apply h.1
   unfold ztB
   rw [if_pos k]
  ·simp at hw
 ·split at hw
  ·rename_i h
   rw [List.mem_singleton]at hw
   refine .inr ⟨hw,fun k=> ?_,h.2⟩
   apply h.1
   unfold zq7
   rw [if_pos k]
  ·simp at hw
theorem zwK.df {n:Str} {y:zbh} (hy:y∈t.af) {w:zaa} (hw:w∈zq4 t a y): ∃r,zaq t r=true∧w.ae=zeq t y.ab y.bj r∧zcf t n w.ae=decide (y.ab=n):=by
 have hc:=zaY.1 (zeB A.tab hy).2
 have hl:=(zeB A.tab hy).1
 rcases A.fm hw with⟨rfl,h,_⟩|⟨rfl,h,_⟩
 ·refine⟨a.bg,A.old h,A.ed h, ?_⟩
  show zcf t n (ztB t a y)=_
  rw [A.ed h]
  exact zo2 A.tab hl (A.old h) (by omega) hc.2
 ·refine⟨a.bh,A.new h,A.dy h, ?_⟩
  show zcf t n (zq7 t a y)=_
  rw [A.dy h]
  exact zo2 A.tab hl (A.new h) (by omega) hc.2
theorem zwK.gk {w:zaa} (hw:w∈zqp t a): ∃r,zaq t r=true∧w.ae=(zfv t r).ae:=by
 unfold zqp at hw
 split at hw
 ·rename_i h
  rw [List.mem_singleton]at hw;subst hw
  exact⟨a.bh,A.new (by omega),rfl⟩
 ·rename_i h
  split at hw
  ·rw [List.mem_singleton]at hw;subst hw
   exact⟨a.bg,A.old h,rfl⟩
  ·rw [List.mem_singleton]at hw;subst hw
   exact⟨a.bg,A.old h,rfl⟩
theorem zwK.gn {w:zaa} (hw:w∈zkI t a):w∈zqp t a∨ ∃y∈t.af,w∈zq4 t a y:=by
 have _:=A
 unfold zkI at hw
 rcases yqma.1 hw with h|h
 ·exact .inl h
 ·exact .inr (List.mem_flatMap.1 h)
theorem zwK.kr (h:a.aj≠2):zfv t a.bh∈zkI t a:=by
 refine yqma.2 (.inl ?_)
 unfold zqp
 rcases A.kind with k|k|k
 ·rw [if_pos k];exact List.mem_singleton.2 rfl
 ·exact absurd k h
 ·rw [if_neg (by omega),if_neg (by omega),List.mem_singleton,zkp,A.same k,←zkp];rfl
theorem zwK.jr {w:zaa} (hw:w∈zkI t a) (hr:zbl t w=true):w=zfv t a.bh∧a.aj≠2:=by
 obtain⟨hgr,hwr⟩:=zjQ hr
 rcases A.gn hw with h|⟨y,hy,h⟩
 ·unfold zqp at h
  rcases A.kind with k|k|k
  ·rw [if_pos k,List.mem_singleton]at h
   exact⟨h,by omega⟩
  ·rw [if_neg (by omega),if_pos k,List.mem_singleton]at h
   have:w.bd=true:=by rw [h]
   rw [hwr]at this
   cases this
  ·rw [if_neg (by omega),if_neg (by omega),List.mem_singleton,zkp,A.same k,←zkp]at h
   exact⟨h,by omega⟩
 ·obtain⟨r,hgr2,e,_⟩:=A.df (n:= []) hy h
  rw [hwr]at e
  exact absurd e (zlM A.tab (zeB A.tab hy).1 hgr hgr2)
theorem zwK.j3 {w q:zaa} (hw:w∈zkI t a) (hq:zbl t q=true) (e:w.ae=q.ae):w∈zqp t a:=by
 obtain⟨hgr,hwr⟩:=zjQ hq
 rcases A.gn hw with h|⟨y,hy,h⟩
 ·exact h
 ·obtain⟨r,hgr2,e2,_⟩:=A.df (n:= []) hy h
  rw [e,hwr]at e2
  exact absurd e2 (zlM A.tab (zeB A.tab hy).1 hgr hgr2)
theorem zwK.jt (h:a.aj≠1) {w:zaa} (hw:w∈zqp t a):w.ae=(zfv t a.bg).ae:=by
 have _:=A
 unfold zqp at hw
 rw [if_neg h]at hw
 split at hw<;>(rw [List.mem_singleton]at hw;rw [hw])
theorem zwK.iu (h:a.aj≠1): ∃w∈zkI t a,w.ae=(zfv t a.bg).ae:=by
 have _:=A
 unfold zkI zqp
 rw [if_neg h]
 split<;>exact⟨_,yqma.2 (.inl (List.mem_singleton.2 rfl)),rfl⟩
theorem zwK.jn (h:a.aj=1) {w:zaa} (hw:w∈zqp t a):w.ae=(zfv t a.bh).ae:=by
 have _:=A
 unfold zqp at hw
 rw [if_pos h,List.mem_singleton]at hw
 rw [hw]
end
section
variable {t:zab} {a:zao} {n:Str} {x:zbh} (A:zB4 t a n x)
include A
theorem zB4.l8:zbB n 1=true:=by rw [←A.name];exact(zeB A.tab A.idx).1
theorem zB4.mf:1≤x.bj∧x.bj≤(t.ao.length:Int)-1:=zaY.1 (zeB A.tab A.idx).2
theorem zB4.je {w:zaa} (hw:w∈zq4 t a x):w∈zkI t a:=by
 unfold zkI
 exact yqma.2 (.inr (List.mem_flatMap.2 ⟨x,A.idx,hw⟩))
theorem zB4.dw {w:zaa} (hw:w∈zkI t a) (he:zcf t n w.ae=true):w∈zq4 t a x:=by
 rcases A.gn hw with h|⟨y,hy,h⟩
 ·obtain⟨r,hr,e⟩:=A.gk h
  rw [e,zBg A.tab hr]at he
  cases he
 ·obtain⟨r,_,_,e⟩:=A.df (n:=n) hy h
  rw [e,decide_eq_true_eq]at he
  have:y=x:=(zv6 A.tab).fy hy A.idx (he.trans A.name.symm)
  rw [←this];exact h
variable {st st':List zaa} (hB:zBF t a st st')
include hB
theorem zB4.jq (hs:x.al≤1) (h:NoE t n st):NoE t n st':=by
 intro y hy
 cases he:zcf t n y.ae with
 |false=>rfl
 |true=>
  obtain⟨hgone,h1|h1⟩:=(hB y).1 hy
  ·rcases A.fm (A.dw h1 he)with⟨e,_⟩|⟨_,_,k⟩
   ·rw [e]at hgone;cases hgone
   ·omega
  ·rw [h y h1.1]at he;cases he
theorem zB4.eo (hr:zij st) (hA:zIA t a st) (hs:1≤x.al) (h:NoO t n x st):NoO t n x st':=by
 have hnew:a.aj≠2→ ∃q∈st',zbl t q=true∧zeW q=a.bh:=fun k=>
  ⟨zfv t a.bh,(hB _).2 ⟨rfl, .inl (A.kr k)⟩,zIz A.tab (A.new k),zrv A.tab (A.new k)⟩
 intro y hy he
 obtain⟨hgone,h1|⟨h1,h2⟩⟩:=(hB y).1 hy
 ·rcases A.fm (A.dw h1 he)with⟨e,_⟩|⟨e,k,_⟩
  ·rw [e]at hgone;cases hgone
  ·obtain⟨q,q1,q2,q3⟩:=hnew k
   refine⟨q,q1,q2, ?_⟩
   rw [q3,e]
   show zq7 t a x=_
   rw [A.dy k,A.name]
 ·obtain⟨q,q1,q2,q3⟩:=h y h1 he
  obtain⟨hgr,hwr⟩:=zjQ q2
  by_cases ho: ∀w∈zkI t a,w.ae≠q.ae
  ·exact⟨q,(hB q).2 ⟨by rw [hwr];rfl, .inr ⟨q1,ho⟩⟩,q2,q3⟩
  ·have⟨w,hw,e⟩: ∃w∈zkI t a,w.ae=q.ae:=by
    apply Classical.byContradiction
    intro hc
    exact ho fun w hw e=>hc ⟨w,hw,e⟩
   have hwR:=A.j3 hw q2 e
   by_cases k1:a.aj=1
   ·exact absurd (e.symm.trans (A.jn k1 hwR)) (hA.1 k1 q q1)
   ·have hq:q=zfv t a.bg:=ztA.fy (key:=fun w:zaa=>w.ae) hr q1 (hA.2 k1) (e.symm.trans (A.jt k1 hwR))
    have hyk:y.ae=ztB t a x:=by
     rw [q3,hq,zrv A.tab (A.old k1),A.ed k1,A.name]
    have hon:ztB t a x=zq7 t a x:=by
     apply Classical.byContradiction
     intro hc
     have hm:(⟨ztB t a x, [],true⟩:zaa)∈zq4 t a x:=by
      unfold zq4
      rw [if_pos ⟨by rw [A.ed k1];exact zCt _ _ _ _,hc,hs⟩]
      simp
     exact h2 _ (A.je hm) hyk.symm
    have k2:a.aj≠2:=by
     intro k
     have:zq7 t a x= []:=by unfold zq7;rw [if_pos k]
     rw [this,A.ed k1]at hon
     exact zCt _ _ _ _ hon
    obtain⟨p,p1,p2,p3⟩:=hnew k2
    refine⟨p,p1,p2, ?_⟩
    rw [p3,hyk,hon,A.dy k2,A.name]
theorem zB4.iy (hn: ∀w∈st,w.bd=false) (hs:2≤x.al) (h:NoL t n x st):NoL t n x st':=by
 intro q hq hr
 obtain⟨hgr,hwr⟩:=zjQ hr
 obtain⟨hgone,h1|⟨h1,h2⟩⟩:=(hB q).1 hq
 ·obtain⟨e,k⟩:=A.jr h1 hr
  have hm:(⟨zq7 t a x, [],false⟩:zaa)∈zq4 t a x:=by
   unfold zq4
   refine yqma.2 (.inr ?_)
   rw [if_pos ⟨by rw [A.dy k];exact zCt _ _ _ _,hs⟩]
   simp
  refine⟨_,(hB _).2 ⟨rfl, .inl (A.je hm)⟩, ?_⟩
  show zq7 t a x=_
  rw [e,zrv A.tab (A.new k),A.dy k,A.name]
 ·obtain⟨w,w1,w2⟩:=h q h1 hr
  by_cases ho: ∀z∈zkI t a,z.ae≠w.ae
  ·exact⟨w,(hB w).2 ⟨hn w w1, .inr ⟨w1,ho⟩⟩,w2⟩
  ·have⟨z,hz,e⟩: ∃z∈zkI t a,z.ae=w.ae:=by
    apply Classical.byContradiction
    intro hc
    exact ho fun z hz e=>hc ⟨z,hz,e⟩
   have he:zcf t n z.ae=true:=by
    rw [e,w2,zo2 A.tab A.l8 hgr (by have:=A.mf;omega) A.mf.2]
    simp
   rcases A.fm (A.dw hz he)with⟨e1,k1,_⟩|⟨e1,k2,_⟩
   ·exfalso
    have hk:zeq t n x.bj a.bg=zeq t n x.bj (zeW q):=by
     have:z.ae=ztB t a x:=by rw [e1]
     rw [e,w2,A.ed k1,A.name]at this
     exact this.symm
    have hp:=zy4 A.tab A.l8 (A.old k1) hgr hk
    obtain⟨u,u1,u2⟩:=A.iu k1
    apply h2 u u1
    rw [u2,hwr,zkp,zkp,hp]
   ·exact⟨z,(hB z).2 ⟨by rw [e1], .inl hz⟩,e.trans w2⟩
end
theorem zuM {t:zab} {n:Str} {x:zbh} {st:List zaa}:holds t n x 0 st=true↔NoE t n st:=by
 unfold holds zaG NoE
 rw [if_pos (by rfl)]
 simp only [List.length_map,beq_iff_eq]
 constructor
 ·intro h w hw
  have h0:(st.filter fun w=>zcf t n w.ae)= []:=List.eq_nil_of_length_eq_zero (by omega)
  have:=List.filter_eq_nil_iff.1 h0 w hw
  simpa using this
 ·intro h
  rw [List.filter_eq_nil_iff.2 fun w hw=>by rw [h w hw];simp]
  rfl
theorem zwb {a b:List Str}:((less a b).length:Int)=0↔ ∀k∈a,k∈b:=by
 unfold less
 constructor
 ·intro h k hk
  have h0:(a.filter fun k=> !b.contains k)= []:=List.eq_nil_of_length_eq_zero (by omega)
  have:=List.filter_eq_nil_iff.1 h0 k hk
  simpa using this
 ·intro h
  rw [List.filter_eq_nil_iff.2 fun k hk=>by simpa using h k hk]
  rfl
theorem znm {t:zab} {n:Str} {x:zbh} {st:List zaa} {k:Str}:k∈wanted t n x st↔ ∃q∈st,zbl t q=true∧k=zeq t n x.bj (zeW q):=by
 unfold wanted rows
 simp only [List.mem_map,List.mem_filter]
 constructor
 ·rintro⟨r,⟨q,⟨h1,h2⟩,rfl⟩,rfl⟩;exact⟨q,h1,h2,rfl⟩
 ·rintro⟨q,h1,h2,rfl⟩;exact⟨_,⟨q,⟨h1,h2⟩,rfl⟩,rfl⟩
theorem zlZ {t:zab} {n:Str} {st:List zaa} {k:Str}:k∈zaG t n st↔ ∃w∈st,zcf t n w.ae=true∧k=w.ae:=by
 unfold zaG
 simp only [List.mem_map,List.mem_filter]
 constructor
 ·rintro⟨w,⟨h1,h2⟩,rfl⟩;exact⟨w,h1,h2,rfl⟩
 ·rintro⟨w,h1,h2,rfl⟩;exact⟨w,⟨h1,h2⟩,rfl⟩
theorem zDq {t:zab} {n:Str} {x:zbh} {st:List zaa}:(∀k∈zaG t n st,k∈wanted t n x st)↔NoO t n x st:=by
 constructor
 ·intro h w hw he
  exact znm.1 (h w.ae (zlZ.2 ⟨w,hw,he,rfl⟩))
 ·intro h k hk
  obtain⟨w,hw,he,rfl⟩:=zlZ.1 hk
  exact znm.2 (h w hw he)
theorem zxI {t:zab} {n:Str} {x:zbh} {st:List zaa}:holds t n x 1 st=true↔NoO t n x st:=by
 rw [←zDq,←zwb]
 unfold holds
 rw [if_neg (by decide)]
 simp
theorem zGK {t:zab} {a:zao} {n:Str} {x:zbh} {st:List zaa} (A:zB4 t a n x):(∀k∈wanted t n x st,k∈zaG t n st)↔NoL t n x st:=by
 constructor
 ·intro h q hq hr
  obtain⟨w,hw,_,e⟩:=zlZ.1 (h _ (znm.2 ⟨q,hq,hr,rfl⟩))
  exact⟨w,hw,e.symm⟩
 ·intro h k hk
  obtain⟨q,hq,hr,rfl⟩:=znm.1 hk
  obtain⟨w,hw,e⟩:=h q hq hr
  refine zlZ.2 ⟨w,hw, ?_,e.symm⟩
  rw [e,zo2 A.tab A.l8 (zjQ hr).1 (by have:=A.mf;omega) A.mf.2]
  simp
theorem zyg {t:zab} {a:zao} {n:Str} {x:zbh} {st:List zaa} (A:zB4 t a n x):holds t n x 2 st=true↔NoO t n x st∧NoL t n x st:=by
 rw [←zDq,←zGK A,←zwb,←zwb]
 unfold holds
 rw [if_neg (by decide)]
 simp
theorem zJJ {t:zab} {a:zao} {n:Str} {x:zbh} {st st':List zaa} {low:Int} (A:zB4 t a n x) (hg:zaP st=true) (hA:zIA t a st) (hB:zBF t a st st')
  (hl:low=0∧x.al≤1∨low=1∧1≤x.al∨low=2∧2≤x.al) (h:holds t n x low st=true):holds t n x low st'=true:=by
 obtain⟨hr,hn⟩:=zdm hg
 rcases hl with⟨rfl,hs⟩|⟨rfl,hs⟩|⟨rfl,hs⟩
 ·exact zuM.2 (A.jq hB hs (zuM.1 h))
 ·exact zxI.2 (A.eo hB hr.dd hA hs (zxI.1 h))
 ·have h2:=(zyg A).1 h
  exact(zyg A).2 ⟨A.eo hB hr.dd hA (by omega) h2.1,A.iy hB hn hs h2.2⟩
abbrev zw0 (l:List zaa):Prop:=l.Pairwise fun a b=>a.ae≠b.ae
theorem zwI: ∀(l:List zaa) {s:List zaa},zw0 l→zij s→ ∀y,y∈l.foldl (fun o w=>zjc wk w o) s↔y∈l∨y∈s∧ ∀w∈l,w.ae≠y.ae
 | [],s,_,_,y=>by simp
 |x::l,s,hl,hs,y=>by
  unfold zw0 at hl
  rw [List.pairwise_cons]at hl
  rw [List.foldl_cons,zwI l hl.2 (zoR hs),zrJ hs]
  constructor
  ·rintro(h|⟨h1|h1,h2⟩)
   ·exact .inl (by simp [h])
   ·exact .inl (by simp [h1])
   ·exact .inr ⟨h1.1,fun w hw=>by
     rcases yqmc.1 hw with rfl|hw
     ·exact fun e=>h1.2 e.symm
     ·exact h2 w hw⟩
  ·rintro(h|⟨h1,h2⟩)
   ·rcases yqmc.1 h with rfl|h
    ·exact .inr ⟨.inl rfl,fun w hw e=>hl.1 w hw e.symm⟩
    ·exact .inl h
   ·exact .inr ⟨.inr ⟨h1,fun e=>h2 x (by simp) e.symm⟩,fun w hw=>h2 w (by simp [hw])⟩
theorem zAZ {l:List zaa} (h:zij l):zw0 l:=List.Pairwise.imp (fun h=>zmx h) h
theorem zxC: ∀(l:List zaa) {s:List zaa},zij s→zij (l.foldl (fun o w=>zjc wk w o) s)
 | [],_,h=>h
 |_::l,_,h=>zxC l (zoR h)
theorem zEB {t:zab} {m n:Str} {c d:Int} {r q:zch} (hg:zah t=true) (hm:zbB m 1=true) (hn:zbB n 1=true) (h:zaq t r=true) (k:zaq t q=true) (hne:m≠n):zeq t m c r≠zeq t n d q:=by
 intro e
 have h1:=zlH (c:=c) hg hm h
 rw [e,zlH hg hn k]at h1
 simp only [List.cons.injEq]at h1
 have h2:=h1.1
 unfold head at h2
 exact hne (List.append_cancel_left h2).symm
theorem zwK.apart {t:zab} {a:zao} (A:zwK t a):zw0 (zkI t a):=by
 unfold zw0 zkI
 rw [List.pairwise_append]
 refine⟨?_, ?_,fun w hw z hz e=> ?_⟩
 ·unfold zqp
  split
  ·exact List.pairwise_singleton _ _
  ·split<;>exact List.pairwise_singleton _ _
 ·rw [List.pairwise_flatMap]
  refine⟨fun y hy=> ?_, ?_⟩
  ·unfold zq4
   rw [List.pairwise_append]
   refine⟨?_, ?_,fun w hw z hz e=> ?_⟩
   ·split
    ·exact List.pairwise_singleton _ _
    ·exact List.Pairwise.nil
   ·split
    ·exact List.pairwise_singleton _ _
    ·exact List.Pairwise.nil
   ·split at hw
    ·rename_i h
     rw [List.mem_singleton]at hw
     split at hz
     ·rw [List.mem_singleton]at hz
      rw [hw,hz]at e
      exact h.2.1 e
     ·simp at hz
    ·simp at hw
  ·refine List.Pairwise.imp_of_mem (fun{y z} hy hz hyz w hw u hu e=> ?_) (zv6 A.tab)
   obtain⟨r,h1,h2,_⟩:=A.df (n:= []) hy hw
   obtain⟨q,k1,k2,_⟩:=A.df (n:= []) hz hu
   rw [h2,k2]at e
   exact zEB A.tab (zeB A.tab hy).1 (zeB A.tab hz).1 h1 k1 (zmx hyz) e
 ·obtain⟨r,h1,h2⟩:=A.gk hw
  obtain⟨y,hy,hz⟩:=List.mem_flatMap.1 hz
  obtain⟨q,k1,k2,_⟩:=A.df (n:= []) hy hz
  rw [h2,k2]at e
  exact zlM A.tab (zeB A.tab hy).1 h1 k1 e
theorem zwK.behind {t:zab} {a:zao} (A:zwK t a) {st:List zaa} (hr:zij st):zBF t a st (zeI st ((zkI t a).foldl (fun o w=>zjc wk w o) [])):=by
 have hw:zij ((zkI t a).foldl (fun o w=>zjc wk w o) []):=zxC _ List.Pairwise.nil
 have hm: ∀y,y∈(zkI t a).foldl (fun o w=>zjc wk w o) []↔y∈zkI t a:=fun y=>by
  rw [zwI _ A.apart List.Pairwise.nil]
  simp
 intro y
 unfold zeI
 rw [List.mem_filter,zwI _ (zAZ hw) hr,hm]
 constructor
 ·rintro⟨h|⟨h1,h2⟩,h3⟩
  ·exact⟨by simpa using h3, .inl h⟩
  ·exact⟨by simpa using h3, .inr ⟨h1,fun w hw=>h2 w ((hm w).2 hw)⟩⟩
 ·rintro⟨h3,h|⟨h1,h2⟩⟩
  ·exact⟨.inl h,by simpa using h3⟩
  ·exact⟨.inr ⟨h1,fun w hw=>h2 w ((hm w).1 hw)⟩,by simpa using h3⟩
theorem zGg {t:zab} {n:Str} (h:zoc t n=true):zf2 t n (xOf t n)∧zj0 t n=(xOf t n).al∧xOf t n∈t.af∧0≤zj0 t n∧zj0 t n≤3∧zah t=true:=by
 obtain⟨x,hx,e,h0,h3,hg⟩:=zlR h
 rw [zFF hx]
 exact⟨hx,e,zz1 hx.at_,by omega,by omega,hg⟩
def zFL (t:zab) (n:Str) (c:Int) (st:List zaa) (f:zaK):Prop:= ∀q∈st,zbl t q=true→(f.br=true∨behind f.aq q.ae=false)→ ∃w∈st,w.ae=zeq t n c (zeW q)
def zCM (t:zab) (n:Str) (st:List zaa) (f:zaK):Prop:= ∀w∈st,zcf t n w.ae=true→f.br=false∧behind f.aq w.ae=true
section
variable {t:zab} {a:zao} {n:Str} {x:zbh} {st st':List zaa} {f:zaK}
end
structure zJw (t:zab) (n:Str) (x:zbh) (st:List zaa) (f:zaK) (r:List zaa × zaK):Prop where
 rows:rows t r.1=rows t st
 grow: ∀w∈st,∃w'∈r.1,w'.ae=w.ae
 back: ∀w∈r.1,w∈st∨ ∃q∈st,zbl t q=true∧w.ae=zeq t n x.bj (zeW q)
 filled:zFL t n x.bj st f→zFL t n x.bj r.1 r.2
structure zJn (t:zab) (n:Str) (st:List zaa) (f:zaK) (r:List zaa × zaK):Prop where
 rows:rows t r.1=rows t st
 less: ∀k∈zaG t n r.1,k∈zaG t n st
 od:zCM t n st f→zCM t n r.1 r.2
def zmz (f:zaK):Bool:=f.aq== []||goodKey f.aq
theorem zzS {f:zaK} (h:f.aq.length≤2000000):zf9 f=some (zmz f):=by
 unfold zf9 zmz
 by_cases h0:(f.aq==([]:Str))=true
 ·rw [if_pos h0,h0];rfl
 ·rw [if_neg h0,zBy h,yqob]
  rw [Bool.not_eq_true]at h0
  rw [h0];rfl
theorem zz8 {f:zaK} (h:f.aq.length≤2000000):zf3 f=some (zmz f):=by
 unfold zf3 zmz
 by_cases h0:(f.aq==([]:Str))=true
 ·rw [if_pos h0,h0];rfl
 ·rw [if_neg h0,zFX h,yqob]
  rw [Bool.not_eq_true]at h0
  rw [h0];rfl
structure zqW (w:zaJ):Prop where
 shift:zjF w.ah
 up:w.c8.aq.length≤2000000
 down:w.bf.aq.length≤2000000
structure zGF (w:zaJ):Prop where
 shift:zkv w.ah
 up:zmz w.c8=true
 down:zmz w.bf=true
theorem zAC {w:zaJ} (hS:zqW w): ∃g,zfW w=some g∧zgc w=some g∧(g=true↔zGF w):=by
 obtain⟨g1,e1,f1⟩:=zGc hS.shift
 obtain⟨g2,e2,f2⟩:=zGR hS.shift
 have hg:g1=g2:=by rw [Bool.eq_iff_iff,f1,f2]
 subst hg
 refine⟨g1&&(zmz w.c8&&zmz w.bf), ?_, ?_, ?_⟩
 ·unfold zfW
  rw [e1,yqob,zzS hS.up,zzS hS.down]
  cases g1<;>cases zmz w.c8<;>rfl
 ·unfold zgc
  rw [e2,yqob,zz8 hS.up,zz8 hS.down]
  cases g1<;>cases zmz w.c8<;>rfl
 ·simp only [yqba]
  exact⟨fun h=>⟨f1.1 h.1,h.2.1,h.2.2⟩,fun h=>⟨f1.2 h.shift,h.up,h.down⟩⟩
structure zJf (w:zaJ) (a:zaw):Prop where
 ok:a.aj=1∧zFW w.ah a.aw∨(a.aj=2∨a.aj=3)∧1≤a.bt∧a.bt≤24
def zl5 (w:zaJ) (a:zaw):Bool:=
 if a.aj=1 then a.bt==0&&zlK w.ah (zkk w.ah a.aw.ax) a.aw else
 if a.aj=2∨a.aj=3 then inB a.bt 1 24&&((a.aw.ax==0)&&((a.aw.bb==0)&&zHr a.aw.aw))else false
theorem zFx {a:zaw} {v:Bool}:zgq a v=some (v&&(inB a.bt 1 24&&((a.aw.ax==0)&&((a.aw.bb==0)&&zHr a.aw.aw)))):=by
 have em:zk5 a.bt=some (inB a.bt 1 24):=rfl
 have eb:zhW a.aw.aw=some (zHr a.aw.aw):=rfl
 unfold zgq
 rw [em,eb,yqob,yqob]
 cases v<;>cases inB a.bt 1 24<;>cases(a.aw.ax==0)<;>cases(a.aw.bb==0)<;>rfl
theorem zBZ {w:zaJ} {a:zaw} (hg:zkv w.ah) (hA:zkP a.aw.aw):ziH w a=some (zl5 w a):=by
 have e:=zAh (a:=a.aw) hg hA
 unfold ziH zl5
 by_cases h1:a.aj=1
 ·rw [if_pos (by simpa using h1),if_pos h1,e,yqob]
  cases hm:(a.bt==0)<;>rfl
 ·rw [if_neg (by simpa using h1),if_neg h1]
  by_cases h2:a.aj=2
  ·rw [if_pos (by simpa using h2),if_pos (.inl h2),zFx,h2];rfl
  ·rw [if_neg (by simpa using h2),zFx]
   by_cases h3:a.aj=3
   ·rw [if_pos (.inr h3),h3];rfl
   ·rw [if_neg (by simp [h2,h3]),show(a.aj==3)=false by simpa using h3];rfl
theorem zFG {a:zaw} {v:Bool}:zcB a v=some (v&&(inB a.bt 1 24&&((a.aw.ax==0)&&((a.aw.bb==0)&&zHr a.aw.aw)))):=by
 have em:zba a.bt 1 24=some (inB a.bt 1 24):=rfl
 have eb:zhI a.aw.aw=some (zHr a.aw.aw):=rfl
 unfold zcB
 rw [em,eb,yqob,yqob]
 cases v<;>cases inB a.bt 1 24<;>cases(a.aw.ax==0)<;>cases(a.aw.bb==0)<;>rfl
theorem zCk {w:zaJ} {a:zaw} (hg:zkv w.ah) (hA:zkP a.aw.aw):zds w a=some (zl5 w a):=by
 have e:=zAY (a:=a.aw) hg hA
 unfold zds zl5
 by_cases h1:a.aj=1
 ·rw [if_pos (by simpa using h1),if_pos h1,e,yqob]
  cases hm:(a.bt==0)<;>rfl
 ·rw [if_neg (by simpa using h1),if_neg h1]
  by_cases h2:a.aj=2
  ·rw [if_pos (by simpa using h2),if_pos (.inl h2),zFG,h2];rfl
  ·rw [if_neg (by simpa using h2),zFG]
   by_cases h3:a.aj=3
   ·rw [if_pos (.inr h3),h3];rfl
   ·rw [if_neg (by simp [h2,h3]),show(a.aj==3)=false by simpa using h3];rfl
theorem zGM {w:zaJ} {a:zaw} (hg:zkv w.ah) (h:zl5 w a=true):zJf w a:=by
 unfold zl5 at h
 by_cases h1:a.aj=1
 ·rw [if_pos h1,yqba]at h
  exact⟨.inl ⟨h1,zH0 hg h.2⟩⟩
 ·rw [if_neg h1]at h
  by_cases h2:a.aj=2∨a.aj=3
  ·rw [if_pos h2,yqba]at h
   have:=zaY.1 h.1
   exact⟨.inr ⟨h2,this⟩⟩
  ·rw [if_neg h2]at h;cases h
theorem zuu {s:zai} (hS:zjF s) (hg:zkv s):zbY s=some (zbG s):=by
 obtain⟨h1,h4,hA,_,h3,hB,hR⟩:=hg
 have h3:=zaY.1 h3
 have hst: ∀y∈s.bm,∃tb x,zaD s.ak y=some tb∧tb∈s.ak∧zf2 tb s.ab x∧zj0 tb s.ab=x.al:=fun y hy=>by
  obtain⟨tb,q1,q2,_⟩:=znc (hB y hy).1 (by have:=(hB y hy).2;omega:y<s.ak.length)
  obtain⟨x,q3,q4,_⟩:=zlR (hA tb q2)
  exact⟨tb,x,q1,q2,q3,q4⟩
 have hn:(zbG s).length=s.bm.length:=by simp [zbG]
 have hl:(zbG s).length≤2000000:=by have:=hS.at_;omega
 refine zxm (s:=s) (st:=zbG s) hn hl fun i hi=> ?_
 have hi':i<s.bm.length:=by omega
 obtain⟨tb,x,q1,q2,q3,q4⟩:=hst _ (List.getElem_mem hi')
 refine⟨s.bm[i],tb,_,x,zac hi',q1,zo6 (hS.way _ q2),q3.at_, ?_⟩
 simp only [zbG,List.getElem_map,q1,Option.getD_some,q4]
theorem zHh {w:zaJ} (hS:zjF w.ah) (hg:zkv w.ah):zbd w=some (((zbG w.ah).filter fun y=>decide (y≥2)).length:Int):=by
 obtain⟨h1,h4,hA,_,h3,hB,hR⟩:=hg
 have h3:=zaY.1 h3
 have hst: ∀y∈w.ah.bm,∃tb x,zaD w.ah.ak y=some tb∧tb∈w.ah.ak∧zf2 tb w.ah.ab x∧zj0 tb w.ah.ab=x.al:=fun y hy=>by
  obtain⟨tb,q1,q2,_⟩:=znc (hB y hy).1 (by have:=(hB y hy).2;omega:y<w.ah.ak.length)
  obtain⟨x,q3,q4,_⟩:=zlR (hA tb q2)
  exact⟨tb,x,q1,q2,q3,q4⟩
 have hn:(zbG w.ah).length=w.ah.bm.length:=by simp [zbG]
 have hl:(zbG w.ah).length≤2000000:=by have:=hS.at_;omega
 refine zIi (w:=w) (st:=zbG w.ah) hn hl fun i hi=> ?_
 have hi':i<w.ah.bm.length:=by omega
 obtain⟨tb,x,q1,q2,q3,q4⟩:=hst _ (List.getElem_mem hi')
 refine⟨tb, ?_, ?_⟩
 ·unfold zam
  rw [zac hi',yqob,q1,yqob]
 ·rw [zrH (hS.way _ q2) q3]
  simp only [zbG,List.getElem_map,q1,Option.getD_some,q4]
theorem zIB {s:zai} (hS:zjF s) (hg:zkv s) {i:Int} (h:0≤i∧i≤(s.bm.length:Int)-1):zam s i=some (zkk s i)∧zaz s (zkk s i)=some (zj0 (zkk s i) s.ab)∧zaD (zbG s) i=some (zj0 (zkk s i) s.ab)∧zkk s i∈s.ak∧zj0 (zkk s i) s.ab∈zbG s:=by
 obtain⟨y,t,e1,e2,ht,_,_⟩:=zwO hg h
 have et:zkk s i=t:=by unfold zkk;rw [e1,Option.getD_some,e2];rfl
 rw [et]
 obtain⟨x,q3,q4,_⟩:=zlR (hg.2.2.1 t ht)
 obtain⟨k,rfl⟩:=Int.eq_ofNat_of_zero_le h.1
 have hk:k<s.bm.length:=by omega
 have ey:s.bm[k]=y:=by
  rw [zac hk]at e1
  exact Option.some.inj e1
 have hk2:k<(zbG s).length:=by simp only [zbG,List.length_map];exact hk
 have e5:(zbG s)[k]=zj0 t s.ab:=by simp only [zbG,List.getElem_map,ey,e2,Option.getD_some]
 refine⟨?_, ?_, ?_,ht, ?_⟩
 ·unfold zam
  rw [e1,yqob,e2];rfl
 ·rw [zrH (hS.way _ ht) q3,q4]
 ·rw [zac hk2,e5]
 ·rw [←e5];exact List.getElem_mem hk2
theorem zDx (p:Int→Bool): ∀l:List Int,(((l.filter p).length:Int)==(l.length:Int))=l.all p
 | []=>rfl
 |y::l=>by
  have ih:=zDx p l
  have hle:=List.length_filter_le p l
  rw [List.all_cons,←ih,Bool.eq_iff_iff,List.filter_cons]
  cases hp:p y with
  |true=>simp only [if_true,yqlc,beq_iff_eq,Bool.true_and];omega
  |false=>simp only [yqft,if_false,yqlc,beq_iff_eq,Bool.false_and,iff_false];omega
theorem zCl (p:Int→Bool): ∀l:List Int,(((l.filter p).length:Int)==0)= !l.any p
 | []=>rfl
 |y::l=>by
  have ih:=zCl p l
  rw [List.any_cons,Bool.not_or,←ih,Bool.eq_iff_iff,List.filter_cons]
  cases hp:p y with
  |true=>simp only [if_true,yqlc,beq_iff_eq,Bool.not_true,Bool.false_and,yqft,iff_false];omega
  |false=>simp only [yqft,if_false,Bool.not_false,Bool.true_and]
def zox:zaK:=⟨[],false⟩
def zHT (w:zaJ) (m:Nat):List zaa × zaK:=zuK ((rows (zcX w.ah) w.ah.ay).map (zdn (zcX w.ah) (xOf (zcX w.ah) w.ah.ab))) w.c8 m w.ah.ay
def zFT (w:zaJ) (m:Nat):List zaa × zaK:=zuK ((zaG (zcX w.ah) w.ah.ab w.ah.ay).map zbA) w.bf m w.ah.ay
def zHI (s:zai) (l:List zaa):zai:=⟨s.ab,s.ak,s.bm,l⟩
inductive zvg (w:zaJ) (a:zaw):zaJ × Bool→Prop
 |stay:zvg w a (w,false)
 |move (q:zai) (h1:a.aj=1) (h0:a.aw.bb≠0) (ha:zFW w.ah a.aw) (hd:zep w.ah a.aw=some (q,true)) (hm:zhV w.ah a.aw=some true):zvg w a (⟨q,w.c8,w.bf⟩,true)
 |n7 (q:zai) (h1:a.aj=1) (h0:a.aw.bb=0) (ha:zFW w.ah a.aw) (hd:zep w.ah a.aw=some (q,true)) (hs:zj0 (zkk w.ah a.aw.ax) w.ah.ab≥2):zvg w a (⟨q,w.c8,zox⟩,true)
 |none (q:zai) (h1:a.aj=1) (h0:a.aw.bb=0) (ha:zFW w.ah a.aw) (hd:zep w.ah a.aw=some (q,true)) (hs: ¬zj0 (zkk w.ah a.aw.ax) w.ah.ab≥2):zvg w a (⟨q,zox,w.bf⟩,true)
 |fill (h2:a.aj=2) (hs:((zbG w.ah).all fun y=>decide (y≥2))=true):zvg w a (⟨zHI w.ah (zHT w a.bt.toNat).1,(zHT w a.bt.toNat).2,zox⟩,true)
 |clear (h3:a.aj=3) (hs:((zbG w.ah).any fun y=>decide (y≥2))=false):zvg w a (⟨zHI w.ah (zFT w a.bt.toNat).1,zox,(zFT w a.bt.toNat).2⟩,true)
structure zxX (w r:zaJ):Prop where
 shift:zFd w.ah r.ah
 up:zmz w.c8=true→zmz r.c8=true
 down:zmz w.bf=true→zmz r.bf=true
 oc:r.c8.aq.length≤w.c8.aq.length+12
 nw:r.bf.aq.length≤w.bf.aq.length+12
theorem zxX.refl {w:zaJ} (hS:zqW w) (hg:zkv w.ah):zxX w w:=⟨⟨hg,hS.shift,rfl,rfl,rfl⟩,fun h=>h,fun h=>h,by omega,by omega⟩
theorem znl:zmz zox=true:=rfl
theorem zwU {s:zai} {l:List zaa} (hS:zjF s) (hg:zkv s) (hl:zaP l=true):zFd s (zHI s l):=by
 have hr:=(zdm hl).1
 have hrl:=hr.len
 exact⟨⟨hg.1,hg.2.1,hg.2.2.1,hg.2.2.2.1,hg.2.2.2.2.1,hg.2.2.2.2.2.1,hl⟩,⟨hS.name,hS.ways,hS.way,hS.at_,zj7 (by show l.length≤2000000;omega) hr.cu⟩,rfl,rfl,rfl⟩
theorem zwR {f:zaK} {k:Str} {b:Bool} (h:k=f.aq∨goodKey k=true):(zmz f=true→zmz ⟨k,b⟩=true)∧k.length≤f.aq.length+12:=by
 rcases h with rfl|h
 ·exact⟨fun g=>g,by omega⟩
 ·refine⟨fun _=> ?_,by have:=zr2 h;omega⟩
  unfold zmz
  dsimp only
  rw [h,Bool.or_true]
theorem zGm {w:zaJ} (hS:zqW w):zjV w=some w:=by
 unfold zjV
 rw [zDF hS.shift];rfl
theorem zzk {w:zaJ} (hS:zqW w):zf1 w=some w:=by
 unfold zf1
 rw [zzE hS.shift];rfl
theorem zDS {w:zaJ} {a:zaw} (hS:zqW w) (hg:zkv w.ah) (hA:zkP a.aw.aw) (k1:a.aj=1) (hact:zFW w.ah a.aw): ∃r:zaJ × Bool,zdy w a.aw=some r∧zaZ w a.aw=some r∧zvg w a r∧zxX w r.1:=by
 obtain⟨⟨q,b⟩,d1,d2,hn⟩:=zxY hS.shift hg hA hact
 obtain⟨t1,t2,t3,t4,t5⟩:=zIB hS.shift hg hact.n8
 have hst:=zuu hS.shift hg
 have hins:zdz (zj0 (zkk w.ah a.aw.ax) w.ah.ab)=some (decide (zj0 (zkk w.ah a.aw.ax) w.ah.ab≥2)):=rfl
 have hc:=zzk hS
 by_cases h0:a.aw.bb=0
 ·have hb:(a.aw.bb==0)=true:=by simpa using h0
  cases b with
  |false=>
   refine⟨(w,false), ?_, ?_, .stay, .refl hS hg⟩
   ·unfold zdy
    simp only [bne,hb,Bool.not_true,Bool.not_false,yqft,if_false,if_true,hst,t3,d1,yqob]
   ·unfold zaZ
    simp only [bne,hb,hc,Bool.not_true,Bool.not_false,yqft,if_false,if_true,d2,yqob]
  |true=>
   cases hd:decide (zj0 (zkk w.ah a.aw.ax) w.ah.ab≥2)with
   |true=>
    rw [hd]at hins
    refine⟨(⟨q,w.c8,zox⟩,true), ?_, ?_, .n7 q k1 h0 hact d1 (of_decide_eq_true hd),⟨hn,fun h=>h,fun _=>znl,by dsimp only;omega,by simp [zox]⟩⟩
    ·unfold zdy
     simp only [bne,hb,hd,Bool.not_true,yqft,if_false,if_true,hst,t3,d1,yqob,Bool.and_self];rfl
    ·unfold zaZ
     simp only [bne,hb,hc,hins,t1,t2,Bool.not_true,yqft,if_false,if_true,d2,yqob];rfl
   |false=>
    rw [hd]at hins
    refine⟨(⟨q,zox,w.bf⟩,true), ?_, ?_, .none q k1 h0 hact d1 (of_decide_eq_false hd),⟨hn,fun _=>znl,fun h=>h,by simp [zox],by dsimp only;omega⟩⟩
    ·unfold zdy
     simp only [bne,hb,hd,Bool.not_true,yqft,if_false,if_true,hst,t3,d1,yqob,Bool.and_false];rfl
    ·unfold zaZ
     simp only [bne,hb,hc,hins,t1,t2,Bool.not_true,yqft,if_false,if_true,d2,yqob];rfl
 ·have hb:(a.aw.bb==0)=false:=by simpa using h0
  obtain⟨m,m1,m2⟩:=zEv hS.shift hg hA hact
  cases m with
  |false=>
   refine⟨(w,false), ?_, ?_, .stay, .refl hS hg⟩
   ·unfold zdy
    simp only [bne,hb,m1,Bool.not_false,if_true,yqob]
   ·unfold zaZ
    simp only [bne,hb,hc,m2,Bool.not_false,if_true,yqob]
  |true=>
   cases b with
   |false=>
    refine⟨(w,false), ?_, ?_, .stay, .refl hS hg⟩
    ·unfold zdy
     simp only [bne,hb,m1,Bool.not_false,Bool.not_true,yqft,if_false,if_true,hst,t3,d1,yqob]
    ·unfold zaZ
     simp only [bne,hb,hc,m2,Bool.not_false,Bool.not_true,yqft,if_false,if_true,d2,yqob]
   |true=>
    refine⟨(⟨q,w.c8,w.bf⟩,true), ?_, ?_, .move q k1 h0 hact d1 m1,⟨hn,fun h=>h,fun h=>h,by dsimp only;omega,by dsimp only;omega⟩⟩
    ·unfold zdy
     simp only [bne,hb,m1,Bool.not_false,Bool.not_true,yqft,if_false,if_true,hst,t3,d1,yqob,Bool.false_and]
    ·unfold zaZ
     simp only [bne,hb,hc,m2,Bool.not_false,Bool.not_true,yqft,if_false,if_true,d2,yqob]
theorem zAO {w:zaJ} {a:zaw} (hS:zqW w) (hg:zkv w.ah) (hA:zkP a.aw.aw) (ha:zJf w a): ∃r:zaJ × Bool,zeX w a=some r∧zbQ w a=some r∧zvg w a r∧zxX w r.1:=by
 have hln:(zbG w.ah).length=w.ah.bm.length:=by simp [zbG]
 have hp:=zGC (zuu hS.shift hg) (by have:=hS.shift.at_;omega)
 have hh:=zHh (w:=w) hS.shift hg
 have h0:=(zm9 (s:=w.ah) hg.1).1
 have fI:=zGg (first_has' hg)
 obtain⟨_,_,n1,n2,n3⟩:=zCy (first_has' hg)
 have hR:=hg.2.2.2.2.2.2
 have hc:=zzk hS
 rcases ha.ok with⟨k1,hact⟩|⟨hk,m1,m2⟩
 ·obtain⟨r,e1,e2,e3,e4⟩:=zDS hS hg hA k1 hact
  have kb:(a.aj==1)=true:=by simpa using k1
  refine⟨r, ?_, ?_,e3,e4⟩
  ·unfold zeX
   simp only [hp,kb,if_true,e1,yqob]
  ·unfold zbQ
   simp only [kb,if_true,e2,yqob]
 ·have k1:(a.aj==1)=false:=by
   rw [beq_eq_false_iff_ne]
   rcases hk with h|h<;>omega
  rcases hk with hk|hk
  ·have k2:(a.aj==2)=true:=by simpa using hk
   have k3:(a.aj==3)=false:=by rw [beq_eq_false_iff_ne];omega
   have hq:=zDx (fun y=>decide (y≥2)) (zbG w.ah)
   rw [hln]at hq
   cases hall:(zbG w.ah).all fun y=>decide (y≥2)with
   |true=>
    rw [hall]at hp hq
    obtain⟨v,f1,f2,f3,f4,f5⟩:=zDC (f:=w.c8) (many:=a.bt) fI.2.2.2.2.2 fI.1 fI.2.2.1 fI.1.name (by omega) n1 hR m1 m2
    obtain⟨z,z1,z2⟩:=zrc f2
    have hl:=zwR (b:=v.2.br) f4
    refine⟨(⟨zHI w.ah v.1,v.2,zox⟩,true), ?_, ?_, ?_,⟨zwU hS.shift hg f3,hl.1,fun _=>znl,hl.2,by simp [zox]⟩⟩
    ·unfold zeX
     simp only [hp,k1,k2,Bool.and_self,yqft,if_false,if_true,h0,f1,yqob];rfl
    ·unfold zbQ
     simp only [hc,k1,k2,hh,hq,yqft,if_false,if_true,h0,z1,z2,yqob];rfl
    ·rw [f5]
     exact .fill hk hall
   |false=>
    rw [hall]at hp hq
    refine⟨(w,false), ?_, ?_, .stay, .refl hS hg⟩
    ·unfold zeX
     simp only [hp,k1,k2,k3,Bool.and_false,Bool.false_and,yqft,if_false,yqob]
    ·unfold zbQ
     simp only [hc,k1,k2,k3,hh,hq,yqft,if_false,if_true,yqob]
  ·have k2:(a.aj==2)=false:=by rw [beq_eq_false_iff_ne];omega
   have k3:(a.aj==3)=true:=by simpa using hk
   have hq:=zCl (fun y=>decide (y≥2)) (zbG w.ah)
   cases hany:(zbG w.ah).any fun y=>decide (y≥2)with
   |false=>
    rw [hany]at hp hq
    obtain⟨v,f1,f2,f3,f4,f5⟩:=zAf (f:=w.bf) (many:=a.bt) fI.2.2.2.2.2 (by omega) n3 hR m1 m2
    obtain⟨z,z1,z2⟩:=zrc f2
    have hl:=zwR (b:=v.2.br) f4
    refine⟨(⟨zHI w.ah v.1,zox,v.2⟩,true), ?_, ?_, ?_,⟨zwU hS.shift hg f3,fun _=>znl,hl.1,by simp [zox],hl.2⟩⟩
    ·unfold zeX
     simp only [hp,k1,k2,k3,Bool.false_and,Bool.not_false,Bool.and_self,yqft,if_false,if_true,h0,f1,yqob];rfl
    ·unfold zbQ
     simp only [hc,k1,k2,k3,hh,hq,Bool.not_false,yqft,if_false,if_true,h0,z1,z2,yqob];rfl
    ·rw [f5]
     exact .clear hk hany
   |true=>
    rw [hany]at hp hq
    refine⟨(w,false), ?_, ?_, .stay, .refl hS hg⟩
    ·unfold zeX
     simp only [hp,k1,k2,k3,Bool.false_and,Bool.not_true,Bool.and_false,yqft,if_false,yqob]
    ·unfold zbQ
     simp only [hc,k1,k2,k3,hh,hq,Bool.not_true,yqft,if_false,if_true,yqob]
where
 first_has' {s:zai} (hg:zkv s):zoc (zcX s) s.ab=true:=hg.2.2.1 _ (zm9 (s:=s) hg.1).2
def zDZ:zaJ:=⟨zJe,zox,zox⟩
structure zJd (w:zaJ) (a:zaw) (g ga:Bool) (r:zaJ × Bool × Bool):Prop where
 gs:zfW w=some g
 gi:zgc w=some g
 as_:zed w a=some ga
 ai:zec w a=some ga
 ss:zf6 w a=some r
 si:zeL w a=some r
 ok:r.2.2=ga
 res:r.1=zDZ∨zxX w r.1
 cu:g=true↔zGF w
 on:ga=true→zGF w∧zJf w a∧zvg w a (r.1,r.2.1)∧zxX w r.1
theorem zDw {w:zaJ} {a:zaw} (hS:zqW w) (hA:zkP a.aw.aw): ∃g ga r,zJd w a g ga r:=by
 obtain⟨g,e1,e2,e3⟩:=zAC hS
 have hgs:zed w a=some (g&&zl5 w a):=by
  unfold zed
  rw [e1,yqob]
  cases hg:g with
  |false=>rfl
  |true=>rw [if_pos rfl,zBZ (e3.1 hg).shift hA];rfl
 have hgi:zec w a=some (g&&zl5 w a):=by
  unfold zec
  rw [e2,yqob]
  cases hg:g with
  |false=>rfl
  |true=>rw [if_pos rfl,zCk (e3.1 hg).shift hA];rfl
 cases hga:(g&&zl5 w a)with
 |false=>
  rw [hga]at hgs hgi
  refine⟨g,false,(zDZ,false,false),e1,e2,hgs,hgi, ?_, ?_,rfl, .inl rfl,e3,fun h=>by cases h⟩
  ·unfold zf6;rw [hgs];rfl
  ·unfold zeL;rw [hgi];rfl
 |true=>
  rw [hga]at hgs hgi
  rw [yqba]at hga
  have hK:=e3.1 hga.1
  have ha:=zGM hK.shift hga.2
  obtain⟨r,d1,d2,d3,d4⟩:=zAO hS hK.shift hA ha
  refine⟨g,true,(r.1,r.2,true),e1,e2,hgs,hgi, ?_, ?_,rfl, .inr d4,e3,fun _=>⟨hK,ha,d3,d4⟩⟩
  ·unfold zf6
   rw [hgs,yqob,if_neg (by simp),zGm hS,yqob,d1];rfl
  ·unfold zeL
   rw [hgi,yqob,if_neg (by simp),d2];rfl
theorem zDl {w:zaJ} (h:zcd w≤2000000):zqW w:=by
 unfold zcd zkY at h
 exact⟨zBA (by omega),by omega,by omega⟩
theorem zAF {a:zaw} (h:zdj a≤2000000):zkP a.aw.aw:=zDp (a:=a.aw) h
theorem zCm {w r:zaJ} (h:zxX w r):zcd r≤zcd w+2024:=by
 have h1:=zFc h.shift
 have h2:=h.oc
 have h3:=h.nw
 unfold zcd zkY
 omega
theorem zCq {w r:zaJ} (h:r=zDZ∨zxX w r):zcd r≤zcd w+2024:=by
 rcases h with rfl|h
 ·have:zcd zDZ=0:=rfl
  omega
 ·exact zCm h
theorem zrr (a0:zaJ) (a1:zaw) (h0:zCG a0) (h1:zsX a1):zd0 a0 a1=some true:=by
 unfold zd0
 obtain⟨b0,e0,g0,r0⟩:=zGN (x:=a0) (a:=1048576) (by omega) (by omega) h0
 rw [e0,yqob]
 by_cases q0:b0<0
 ·rw [if_pos (by simpa using q0)]
 rw [if_neg (by simpa using q0)]
 have s0:=r0 (by omega)
 obtain⟨b1,e1,g1,r1⟩:=zAG (x:=a1) (a:=b0) (by omega) (by omega) h1
 rw [e1,yqob]
 by_cases q1:b1<0
 ·rw [if_pos (by simpa using q1)]
 rw [if_neg (by simpa using q1)]
 have s1:=r1 (by omega)
 have t0:zcd a0≤2000000:=by omega
 have t1:zdj a1≤2000000:=by omega
 obtain⟨_,_,w,A⟩:=zDw (w:=a0) (a:=a1) (zDl t0) (zAF t1)
 have vs:=A.ss
 have vi:=A.si
 have tw:=zCq A.res
 have tw2:zcd w.1≤2000000:=by omega
 have c0:=zu4 a0
 have c1:=zww a1
 have c2:=zu4 w.1
 obtain⟨x0,x1,x2,m0,n0⟩:=zwM (x:=a0) (k:=1) (by omega) (by omega) t0
 obtain⟨y0,y1,m1⟩:=zyk (x:=a1) (k:=1+(zhh a0:Nat)) (by omega) (by omega) t1
 obtain⟨z0,z1,z2,m2,n2⟩:=zwM (x:=w.1) (k:=1) (by omega) (by omega) tw2
 have p1:decide ((1:Int)+(zhh a0:Nat)+(zga a1:Nat)<0)=false:=by simp;omega
 have p2:decide ((1:Int)+(zhh w.1:Nat)<0)=false:=by simp;omega
 simp only [zGI t0,zA5 t1,vs,vi,zBz t0,zAg t1,zBz tw2,m0,m1,m2,n2,p1,p2,bne_self_eq_false,yqob,Bool.not_true,Bool.or_false,yqft,if_false]
theorem zyO {H:Type} {enc:TypeId × Value→H} {P:Program} {w:World} {base:Nat} {sp:Nat→Bool} {held:Bool} {fuel:Nat} {t:TypeId} {cs:List Value} {n:String} {d:DataW H} {p:List MemPlace} {u:TypeDesc}
  (ht:P.underlying t=some u) (hu:(match u with| .interface _=>true|_=>false)=true) (h:DataW.trod enc P w base sp held fuel t cs=some (.iface n d,p)): ∃a v,cs= [.iface a v]:=by
 cases fuel with
 |zero=>simp [DataW.trod]at h
 |succ fuel=>
  cases u<;>first|(cases hu;done)|skip
  simp only [DataW.trod,ht]at h
  split at h<;>first|(exact⟨_,_,rfl⟩)|(simp at h;done)|(simp_all;done)
noncomputable def zHN (s:String):Bool:=match(Tryz.prog.globalNamed s).bind (fun g=>(Tryz.prog.globals[g]?).map (·.type))with
 |some t=>(match Tryz.prog.underlying t with|some (.interface _)=>true|_=>false)
 |none=>false
noncomputable def zFZ (s:String):Bool:=match(Tryz.prog.globalNamed s).bind (fun g=>(Tryz.prog.globals[g]?).map (·.type))with
 |some t=>(match Tryz.prog.underlying t with
  |some (.array n e)=>(match Tryz.prog.underlying e with|some (.int .u64)=>true|_=>false)&&Tryz.prog.cellsOf e==1&&Tryz.prog.cellsOf t==n
  |_=>false)
 |none=>false
theorem zz7 {s:String} {D:DataW Unit} {W:World} (h:laidMet Tryz.prog [(s,D)] W) (hc:zHN s=true) (hd: ∃n d,D= .iface n d): ∃t p,W.var? Tryz.prog s=some #[.iface t p]:=by
 obtain⟨ps,⟨g,t,cs,fuel,p,q,hg,ht,hvar,htr,_,_⟩,_⟩:=h
 obtain⟨n,d,rfl⟩:=hd
 unfold zHN at hc
 rw [hg,yqob,ht]at hc
 simp only at hc
 cases hu:Tryz.prog.underlying t with
 |none=>rw [hu]at hc;cases hc
 |some u=>
  obtain⟨a,v,e⟩:=zyO hu (by rw [hu]at hc;cases u<;>first|rfl|cases hc) htr
  refine⟨a,v, ?_⟩
  rw [hvar]
  congr 1
  apply Array.ext'
  rw [e]
theorem zHQ {s:String} {W:World} (h:laidMet Tryz.prog [(s,Lib.tabData .u64 Lib.pow10Tab)] W) (hc:zFZ s=true):Lib.TabIs Tryz.prog W s .u64 Lib.pow10Tab:=by
 have h0:=h
 obtain⟨ps,⟨g,t,cs,fuel,p,q,hg,ht,hvar,htr,_,_⟩,_⟩:=h
 unfold zFZ at hc
 rw [hg,yqob,ht]at hc
 simp only at hc
 split at hc
 ·rename_i n e hu
  simp only [yqba,beq_iff_eq]at hc
  obtain⟨⟨h1,h2⟩,h3⟩:=hc
  split at h1
  ·rename_i he
   exact Lib.tabIs_of_head hg ht hu he h2 h3 h0
  ·cases h1
 ·cases hc
theorem zGq {laid:List (String × DataW Unit)} {D1 D2 D3:DataW Unit} {W:World} (h:laidMet Tryz.prog laid W)
  (e1:(laid.filter fun x=>x.1== "strconv.ErrSyntax")= [("strconv.ErrSyntax",D1)]) (i1: ∃n d,D1= .iface n d)
  (e2:(laid.filter fun x=>x.1== "strconv.ErrRange")= [("strconv.ErrRange",D2)]) (i2: ∃n d,D2= .iface n d)
  (e3:(laid.filter fun x=>x.1== "internal/strconv.uint64pow10")= [("internal/strconv.uint64pow10",D3)]) (i3:D3=Lib.tabData .u64 Lib.pow10Tab):pkW.n≤W.heap.size∧pkW.K W:=by
 have h1:=h.filter fun x=>x.1== "strconv.ErrSyntax"
 have h2:=h.filter fun x=>x.1== "strconv.ErrRange"
 have h3:=h.filter fun x=>x.1== "internal/strconv.uint64pow10"
 rw [e1]at h1
 rw [e2]at h2
 rw [e3,i3]at h3
 have k:pkK W:=⟨zz7 h1 (by kernel_rfl) i1,zz7 h2 (by kernel_rfl) i2,(zHQ h3 (by kernel_rfl)).trans (by kernel_rfl)⟩
 exact⟨zHB k,k⟩
end Go.Proofs.YtgobcjbjogkpjaaGreatDoor
end

/- Parts of a proof, joined: N15, N16, N17, N18, N19, N20, N21, N22, PK, NK, NP, NQ, NS, NT, NV, NU, NW, LK, NY, LM. -/
import Derived.Test.YtfkblfjloegahaaGreatDoorT9
section
namespace Go.Proofs.YtfkblfjloegahaaGreatDoor
open Go.RowKit
set_option maxRecDepth 100000
def holds (t:zab) (n:Str) (x:zbK) (lv:Int) (l:List zaa):Bool:=
 if lv==0 then((ziH t n l).length:Int)==0
 else(((zFr (ziH t n l) (wanted t n x l)).length:Int)==0)&&((lv==1)||(((zFr (wanted t n x l) (ziH t n l)).length:Int)==0))
theorem zrg (t:zab) (n:Str) (l:List zaa):(ziH t n l).length≤l.length:=by
 unfold ziH;rw [List.length_map];exact List.length_filter_le _ _
theorem ztc (t:zab) (n:Str) (x:zbK) (l:List zaa):(wanted t n x l).length≤l.length:=by
 unfold wanted;rw [List.length_map];exact zuL t l
theorem zCh {t:zab} {n:Str} {x:zbK} {lv:Int} {l:List zaa} (hS:zc9 t) (ht:t.fName.length≤2000000) (hn:n.length≤2000000) (hx:zig t n x) (hl:l.length≤2000000) (h: ∀w∈l,zo6 w) (ha:zdA t n l=some true):zgF t n lv l=some (holds t n x lv l):=by
 have hE:=zyx ht hn hl h
 have hW:=zzz hS hn hx hl h
 have e1:=zrg t n l
 have e2:=ztc t n x l
 have h1:=zAP (a:=ziH t n l) (b:=wanted t n x l) (by omega) (by omega)
 have h2:=zAP (a:=wanted t n x l) (b:=ziH t n l) (by omega) (by omega)
 unfold zgF holds
 by_cases h0:(lv==0)=true
 ·rw [if_pos h0,if_pos h0,hE,Option.bind_some]
 ·rw [if_neg h0,if_neg h0]
  unfold ziL zjZ
  rw [ha,hE,hW]
  simp only [Option.bind_some,h1,h2,Bool.not_true,Bool.false_eq_true,if_false]
theorem zBD {t:zab} {n:Str} {x:zbK} {lv:Int} {l:List zaa} (hS:zc9 t) (ht:t.fName.length=1) (hn:n.length≤2000000) (hh: ∀b∈head t n,b≠47) (hx:zig t n x) (hl:l.length≤2000000) (h: ∀w∈l,zo6 w):zdF t n lv l=some (holds t n x lv l):=by
 have hE:=zyr (t:=t) (by omega) hn hh hl h
 have hW:=zzO hS ht hn hx hl h
 have e1:=zrg t n l
 have e2:=ztc t n x l
 have h1:=zzV (a:=ziH t n l) (b:=wanted t n x l) (by omega) (by omega)
 have h2:=zzV (a:=wanted t n x l) (b:=ziH t n l) (by omega) (by omega)
 unfold zdF holds
 by_cases h0:(lv==0)=true
 ·rw [if_pos h0,if_pos h0,hE,Option.bind_some]
 ·rw [if_neg h0,if_neg h0]
  unfold zcT zfe
  rw [hE,hW]
  simp only [Option.bind_some,h1,h2]
  by_cases h3:(lv==1)=true
  ·rw [if_pos h3,h3,Bool.true_or,Bool.and_true]
  ·rw [if_neg h3,Bool.eq_false_iff.2 h3,Bool.false_or]
   by_cases h4:(((zFr (ziH t n l) (wanted t n x l)).length:Int)==0)=true
   ·rw [if_pos h4,h4,Bool.true_and]
   ·rw [if_neg h4,Bool.eq_false_iff.2 h4,Bool.false_and]
end Go.Proofs.YtfkblfjloegahaaGreatDoor
end
section
namespace Go.Proofs.YtfkblfjloegahaaGreatDoor
open Go.RowKit
set_option maxRecDepth 100000
def znM (t:zab) (n:Str):Bool:=zau t&&decide (zix (fun x:zbK=>x.fName==n) t.fIdxs≥0)
def zDo (t:zab) (n:Str) (l:List zaa):Bool:=znM t n&&zdh l
theorem zEq {t:zab} {n:Str} (hS:zc9 t):zjg t n=some (znM t n):=by
 unfold zjg znM
 rw [zBx hS,Option.bind_some,zvf hS,Option.bind_some]
 cases zau t<;>simp
theorem zBh {t:zab} {n:Str} {l:List zaa} (hS:zc9 t) (hW:zpk l):zdA t n l=some (zDo t n l):=by
 unfold zdA zDo znM
 rw [znZ hS,Option.bind_some,zq2 hS,Option.bind_some,zrl hW,Option.bind_some]
 cases zau t<;>cases decide (zix (fun x:zbK=>x.fName==n) t.fIdxs≥0)<;>simp
theorem zDT {l:List zaa} (h:zdh l=true): ∀w∈l,zo6 w:=by
 intro w hw
 unfold zdh zed at h
 simp only [Bool.and_eq_true]at h
 have h1:=List.all_eq_true.1 h.1.2.1 w hw
 unfold zij zcJ zkz zg7 at h1
 simp only [Bool.and_eq_true,decide_eq_true_eq]at h1
 have h2:=zbo.1 h1.1.1
 have h3:=h1.2.1.1
 exact⟨by omega,by omega⟩
theorem zri {s:Str} {k:Int} (h:zcG s k=true):(s.length:Int)≤k∧ ∀b∈s,b≠47:=by
 unfold zcG at h
 simp only [Bool.and_eq_true]at h
 refine⟨(zbo.1 h.2).2,fun b hb e=> ?_⟩
 have h1:=List.all_eq_true.1 h.1 b hb
 subst e
 exact absurd h1 (by decide)
theorem zjE {s:Str} (h:zcG s 1=true):s.length=1:=by
 unfold zcG at h
 simp only [Bool.and_eq_true]at h
 have:=zbo.1 h.2
 omega
theorem zl0 {t:zab} (h:zau t=true):zcG t.fName 1=true:=by
 unfold zau at h
 simp only [Bool.and_eq_true]at h
 exact h.1.1.1
theorem ztY {t:zab} (h:zau t=true) {x:zbK} (hx:x∈t.fIdxs):zcG x.fName 1=true∧inB x.fCol 1 ((t.fCols.length:Int)-1)=true:=by
 unfold zau at h
 simp only [Bool.and_eq_true]at h
 obtain⟨i,hi,rfl⟩:=List.mem_iff_getElem.1 hx
 have h1:=List.all_eq_true.1 h.2 i (List.mem_range.2 hi)
 unfold zox at h1
 simp only [Bool.and_eq_true,List.getElem?_eq_getElem hi,Option.getD_some]at h1
 exact⟨h1.1.1.1,h1.1.1.2⟩
theorem zCT {t:zab} {n:Str} (h:znM t n=true): ∃x,zig t n x∧t.fName.length=1∧n.length=1∧ ∀b∈head t n,b≠47:=by
 unfold znM at h
 simp only [Bool.and_eq_true,decide_eq_true_eq]at h
 obtain⟨x,h1,h2,h3⟩:=zxc h.2
 have h4:=ztY h.1 h3
 have h5:=zbo.1 h4.2
 have h6:x.fName=n:=by simpa using h2
 have h7:=zl0 h.1
 have h8:=h6▸h4.1
 refine⟨x,⟨h1,h6,h5.1,h5.2⟩,zjE h7,zjE h8,fun b hb=> ?_⟩
 unfold head at hb
 simp only [List.mem_append,List.mem_singleton]at hb
 rcases hb with(hb|hb)|hb
 ·exact(zri h7).2 b hb
 ·subst hb;decide
 ·exact(zri h8).2 b hb
end Go.Proofs.YtfkblfjloegahaaGreatDoor
end
section
namespace Go.Proofs.YtfkblfjloegahaaGreatDoor
open Go.RowKit
set_option maxRecDepth 100000
theorem zwC {xs:List Str} (h:xs.length≤2000000):zc5 xs=some xs:=by
 unfold zc5
 rw [zae (by omega)]
 exact zob (fun i hi v hv=>by
  show za9 xs i v=_
  unfold za9
  rw [if_pos (by simpa using hi),zac hi,Option.bind_some,zac (by omega),Option.bind_some,zaE hi (by omega)];rfl) (fun v=>by
  show za9 xs _ v=_
  unfold za9
  rw [if_neg (by simp)])
theorem zCg {xs:List zbK} (h:xs.length≤2000000):zfG xs=some xs:=by
 unfold zfG
 rw [zae (by omega)]
 exact zob (fun i hi v hv=>by
  show zbR xs i v=_
  unfold zbR zjM
  rw [if_pos (by simpa using hi),zac hi,Option.bind_some,Option.bind_some,zac (by omega),Option.bind_some,zaE hi (by omega)];rfl) (fun v=>by
  show zbR xs _ v=_
  unfold zbR
  rw [if_neg (by simp)])
theorem zEB {xs:List zaa} (h:xs.length≤2000000):zei xs=some xs:=by
 unfold zei
 rw [zae (by omega)]
 exact zob (fun i hi v hv=>by
  show zbf xs i v=_
  unfold zbf zh6
  rw [if_pos (by simpa using hi),zac hi,Option.bind_some,Option.bind_some,zac (by omega),Option.bind_some,zaE hi (by omega)];rfl) (fun v=>by
  show zbf xs _ v=_
  unfold zbf
  rw [if_neg (by simp)])
theorem zFK {t:zab} (h:zc9 t):ze0 t=some t:=by
 unfold ze0
 rw [zwC h.cols,Option.bind_some,zCg h.idxs,Option.bind_some]
theorem zwG {xs:List Str} (h:xs.length≤2000000):zc4 xs xs=some true:=by
 unfold zc4
 rw [if_neg (by simp)]
 exact zm1 (n:=xs.length) (fun i hi=>by
  show za8 xs xs i=_
  unfold za8
  rw [if_pos (by simpa using hi),zac hi,Option.bind_some,Option.bind_some,if_neg (by simp),zaE hi (by omega)]) (by
  show za8 xs xs _=_
  unfold za8
  rw [if_neg (by simp)])
theorem zBX {xs:List zbK} (h:xs.length≤2000000):zfJ xs xs=some true:=by
 unfold zfJ
 rw [if_neg (by simp)]
 exact zm1 (n:=xs.length) (fun i hi=>by
  show zbQ xs xs i=_
  unfold zbQ
  have e: ∀x:zbK,zgr x x=some true:=fun x=>by simp [zgr]
  rw [if_pos (by simpa using hi),zac hi,Option.bind_some,Option.bind_some,e,Option.bind_some,if_neg (by simp),zaE hi (by omega)]) (by
  show zbQ xs xs _=_
  unfold zbQ
  rw [if_neg (by simp)])
theorem zEJ {xs:List zaa} (h:xs.length≤2000000):zex xs xs=some true:=by
 unfold zex
 rw [if_neg (by simp)]
 exact zm1 (n:=xs.length) (fun i hi=>by
  show zbi xs xs i=_
  unfold zbi
  have e: ∀x:zaa,ze1 x x=some true:=fun x=>by simp [ze1]
  rw [if_pos (by simpa using hi),zac hi,Option.bind_some,Option.bind_some,e,Option.bind_some,if_neg (by simp),zaE hi (by omega)]) (by
  show zbi xs xs _=_
  unfold zbi
  rw [if_neg (by simp)])
theorem zFN {t:zab} (h:zc9 t):ze6 t t=some true:=by
 unfold ze6
 rw [if_neg (by simp),zwG h.cols,Option.bind_some,if_neg (by simp),zBX h.idxs,Option.bind_some,if_neg (by simp)]
end Go.Proofs.YtfkblfjloegahaaGreatDoor
end
section
namespace Go.Proofs.YtfkblfjloegahaaGreatDoor
open Go.RowKit
set_option maxRecDepth 100000
theorem zwW {xs:List Str} {a:Int} (h0:0≤a) (h1:a≤1048576) (hn:xs.length≤9223372036854775807) (hx: ∀x∈xs,x.length≤9223372036854775807): ∃v,zc1 xs a=some v∧v≤a∧(0≤v→xs.length≤2000000∧ ∀x∈xs,x.length≤2000000):=by
 unfold zc1
 rw [zcP h0 h1 (by omega)]
 by_cases h2:a-(xs.length:Int)<0
 ·rw [if_pos (by simpa using h2)];exact⟨-1,rfl,by omega,by omega⟩
 ·rw [if_neg (by simpa using h2)]
  obtain⟨v,e1,e2,e3⟩:=zGC (xs:=xs) (body:=fun s:Int × Int=>zaI xs s.1 s.2) (fun x=>x.length≤2000000) (a:=a-xs.length) (by omega) (by omega) (fun i hi b hb0 hb1=>by
   refine⟨b-(xs[i].length:Int),by omega,fun h=>by show xs[i].length≤2000000;omega, ?_⟩
   show zaI xs b i=_
   unfold zaI
   rw [if_pos (by simpa using hi),zac hi,Option.bind_some,zcP hb0 hb1 (hx _ (List.getElem_mem hi)),zaE hi (by omega)]
   by_cases h3:b-(xs[i].length:Int)<0
   ·rw [if_pos (by simpa using h3),if_pos h3]
   ·rw [if_neg (by simpa using h3),if_neg h3]) (fun b=>by
   show zaI xs b _=_
   unfold zaI
   rw [if_neg (by simp)])
  exact⟨v,e1,by omega,fun hv=>⟨by omega,e3 hv⟩⟩
theorem zBm {xs:List zbK} {a:Int} (h0:0≤a) (h1:a≤1048576) (hn:xs.length≤9223372036854775807) (hx: ∀x∈xs,x.fName.length≤9223372036854775807): ∃v,zfF xs a=some v∧v≤a∧(0≤v→xs.length≤2000000∧ ∀x∈xs,x.fName.length≤2000000):=by
 unfold zfF
 rw [zcP h0 h1 (by omega)]
 by_cases h2:a-(xs.length:Int)<0
 ·rw [if_pos (by simpa using h2)];exact⟨-1,rfl,by omega,by omega⟩
 ·rw [if_neg (by simpa using h2)]
  obtain⟨v,e1,e2,e3⟩:=zGC (xs:=xs) (body:=fun s:Int × Int=>zaO xs s.1 s.2) (fun x=>x.fName.length≤2000000) (a:=a-xs.length) (by omega) (by omega) (fun i hi b hb0 hb1=>by
   have hb2:=zcP hb0 hb1 (hx _ (List.getElem_mem hi))
   by_cases h3:b-(xs[i].fName.length:Int)<0
   ·refine⟨-1,by omega,by omega, ?_⟩
    show zaO xs b i=_
    unfold zaO zgv
    rw [if_pos (by simpa using hi),zac hi,Option.bind_some,hb2,if_pos (by simpa using h3),Option.bind_some,if_pos (by simp),if_pos (by omega)]
   ·refine⟨b-(xs[i].fName.length:Int),by omega,fun h=>by show xs[i].fName.length≤2000000;omega, ?_⟩
    show zaO xs b i=_
    unfold zaO zgv
    rw [if_pos (by simpa using hi),zac hi,Option.bind_some,hb2,if_neg (by simpa using h3),Option.bind_some,if_neg (by simpa using h3),if_neg h3,zaE hi (by omega)]) (fun b=>by
   show zaO xs b _=_
   unfold zaO
   rw [if_neg (by simp)])
  exact⟨v,e1,by omega,fun hv=>⟨by omega,e3 hv⟩⟩
theorem zAt {x:zaa} {a:Int} (h0:0≤a) (h1:a≤1048576) (hk:x.fKey.length≤9223372036854775807) (hv:x.fVal.length≤9223372036854775807): ∃r,ze3 x a=some r∧r≤a∧(0≤r→x.fKey.length≤2000000∧x.fVal.length≤2000000):=by
 unfold ze3
 rw [zcP h0 h1 hk]
 by_cases h2:a-(x.fKey.length:Int)<0
 ·rw [if_pos (by simpa using h2)];exact⟨-1,rfl,by omega,by omega⟩
 ·rw [if_neg (by simpa using h2),zcP (by omega) (by omega) hv]
  by_cases h3:a-(x.fKey.length:Int)-(x.fVal.length:Int)<0
  ·rw [if_pos (by simpa using h3)];exact⟨-1,rfl,by omega,by omega⟩
  ·rw [if_neg (by simpa using h3)];exact⟨_,rfl,by omega,fun _=>by omega⟩
theorem zEu {xs:List zaa} {a:Int} (h0:0≤a) (h1:a≤1048576) (hn:xs.length≤9223372036854775807) (hx: ∀x∈xs,x.fKey.length≤9223372036854775807∧x.fVal.length≤9223372036854775807): ∃v,zeg xs a=some v∧v≤a∧(0≤v→zpk xs):=by
 unfold zeg
 rw [zcP h0 h1 (by omega)]
 by_cases h2:a-(xs.length:Int)<0
 ·rw [if_pos (by simpa using h2)];exact⟨-1,rfl,by omega,by omega⟩
 ·rw [if_neg (by simpa using h2)]
  obtain⟨v,e1,e2,e3⟩:=zGC (xs:=xs) (body:=fun s:Int × Int=>zaT xs s.1 s.2) (fun x=>x.fKey.length≤2000000∧x.fVal.length≤2000000) (a:=a-xs.length) (by omega) (by omega) (fun i hi b hb0 hb1=>by
   obtain⟨r,f1,f2,f3⟩:=zAt hb0 hb1 (hx _ (List.getElem_mem hi)).1 (hx _ (List.getElem_mem hi)).2
   refine⟨r,f2,f3, ?_⟩
   show zaT xs b i=_
   unfold zaT
   rw [if_pos (by simpa using hi),zac hi,Option.bind_some,f1,Option.bind_some,zaE hi (by omega)]
   by_cases h3:r<0
   ·rw [if_pos (by simpa using h3),if_pos h3]
   ·rw [if_neg (by simpa using h3),if_neg h3]) (fun b=>by
   show zaT xs b _=_
   unfold zaT
   rw [if_neg (by simp)])
  exact⟨v,e1,by omega,fun hv=>⟨by omega,e3 hv⟩⟩
structure zH9 (t:zab):Prop where
 name:t.fName.length≤9223372036854775807
 cols:t.fCols.length≤9223372036854775807
 col: ∀c∈t.fCols,c.length≤9223372036854775807
 idxs:t.fIdxs.length≤9223372036854775807
 idx: ∀x∈t.fIdxs,x.fName.length≤9223372036854775807
theorem zE0 {t:zab} {a:Int} (h0:0≤a) (h1:a≤1048576) (h:zH9 t): ∃v,zfb t a=some v∧v≤a∧(0≤v→zc9 t):=by
 unfold zfb
 rw [zcP h0 h1 h.name]
 by_cases h2:a-(t.fName.length:Int)<0
 ·rw [if_pos (by simpa using h2)];exact⟨-1,rfl,by omega,by omega⟩
 ·rw [if_neg (by simpa using h2)]
  obtain⟨v,e1,e2,e3⟩:=zwW (xs:=t.fCols) (a:=a-t.fName.length) (by omega) (by omega) h.cols h.col
  rw [e1,Option.bind_some]
  by_cases h3:v<0
  ·rw [if_pos (by simpa using h3)];exact⟨-1,rfl,by omega,by omega⟩
  ·rw [if_neg (by simpa using h3)]
   obtain⟨u,f1,f2,f3⟩:=zBm (xs:=t.fIdxs) (a:=v) (by omega) (by omega) h.idxs h.idx
   rw [f1,Option.bind_some]
   by_cases h4:u<0
   ·rw [if_pos (by simpa using h4)];exact⟨-1,rfl,by omega,by omega⟩
   ·rw [if_neg (by simpa using h4)]
    have g1:=e3 (by omega)
    have g2:=f3 (by omega)
    exact⟨u,rfl,by omega,fun _=>⟨by omega,g1.1,g1.2,g2.1,g2.2⟩⟩
end Go.Proofs.YtfkblfjloegahaaGreatDoor
end
section
namespace Go.Proofs.YtfkblfjloegahaaGreatDoor
open Go.RowKit
set_option maxRecDepth 100000
def zGp (st:List Int):Int:=if st.contains 3 then 2 else if st.contains 0 then 0 else 1
theorem zz6 {xs:List Int} {k:Int} (h:xs.length≤2000000):zip xs k=some (xs.contains k):=by
 have key: ∀(n q:Nat),q+n=xs.length→zak (fun s:Int=>zen xs k s) (q:Int)=some ((xs.drop q).contains k):=by
  intro n
  induction n with
  |zero=>
   intro q hq
   have:q=xs.length:=by omega
   subst this
   rw [zaR]
   have e:zen xs k xs.length=some (.inr (some false)):=by
    unfold zen
    rw [if_neg (by simp)]
   rw [e]
   simp
  |succ n ih=>
   intro q hq
   have hlt:q<xs.length:=by omega
   have ih2:=ih (q+1) (by omega)
   rw [zaR,List.drop_eq_getElem_cons hlt,List.contains_cons]
   have e:zen xs k q=some (if(xs[q]==k)=true then .inr (some true)else .inl ((q+1:Nat):Int)):=by
    unfold zen
    rw [if_pos (by simpa using hlt),zac hlt,Option.bind_some,zaE hlt (by omega)]
    cases(xs[q]==k)<;>rfl
   rw [e]
   by_cases h1:(xs[q]==k)=true
   ·have h2:xs[q]=k:=by simpa using h1
    rw [if_pos h1];simp [h2]
   ·have h2:(k==xs[q])=false:=by
     rw [Bool.eq_false_iff];intro h3;exact h1 (by simp at h3 ⊢;omega)
    rw [if_neg h1,h2,Bool.false_or];exact ih2
 have:=key xs.length 0 (by omega)
 unfold zip
 simpa using this
theorem zDs {s:zaf} {st:List Int} (hn:st.length=s.fAt.length) (hl:st.length≤2000000) (hs: ∀(i:Nat) (hi:i<st.length),∃tb,zaJ s i=some tb∧zbH s tb=some st[i]):zeJ s=some (zGp st):=by
 have key: ∀(n q:Nat) (v:Int),q+n=st.length→zak (fun x:Int × Int=>zbL s x.1 x.2) (v,(q:Int))=some (if(st.drop q).contains 3 then 2 else if(st.drop q).contains 0 then 0 else v):=by
  intro n
  induction n with
  |zero=>
   intro q v hq
   have:q=st.length:=by omega
   subst this
   have e:zbL s v st.length=some (.inr (some v)):=by
    unfold zbL
    rw [if_neg (by simp [hn])]
   rw [zaR]
   dsimp only
   rw [e]
   simp
  |succ n ih=>
   intro q v hq
   have hlt:q<st.length:=by omega
   obtain⟨tb,e1,e2⟩:=hs q hlt
   have e:zbL s v q=some (if(st[q]==3)=true then .inr (some 2)else if(st[q]==0)=true then .inl (0,((q+1:Nat):Int))else .inl (v,((q+1:Nat):Int))):=by
    unfold zbL
    rw [if_pos (by simp;omega),e1,Option.bind_some,e2,Option.bind_some,zaE hlt (by omega)]
    cases(st[q]==3)<;>cases(st[q]==0)<;>rfl
   rw [zaR,List.drop_eq_getElem_cons hlt,List.contains_cons,List.contains_cons]
   dsimp only
   rw [e]
   by_cases h1:st[q]=3
   ·simp [h1]
   ·have i0:=ih (q+1) 0 (by omega)
    have iv:=ih (q+1) v (by omega)
    have h1a:(st[q]==3)=false:=by simpa using h1
    have h1b:((3:Int)==st[q])=false:=by simp;omega
    rw [h1a,h1b,Bool.false_or]
    by_cases h2:st[q]=0
    ·simp only [h2,beq_self_eq_true,Bool.true_or,if_true,Bool.false_eq_true,if_false]
     rw [i0];split<;>(try split)<;>rfl
    ·have h2a:(st[q]==0)=false:=by simpa using h2
     have h2b:((0:Int)==st[q])=false:=by simp;omega
     rw [h2a,h2b,Bool.false_or]
     exact iv
 have:=key st.length 0 1 (by omega)
 unfold zeJ
 simpa [zGp]using this
end Go.Proofs.YtfkblfjloegahaaGreatDoor
end
section
namespace Go.Proofs.YtfkblfjloegahaaGreatDoor
open Go.RowKit
set_option maxRecDepth 100000
theorem zzK {s:zaf} {st:List Int} (hn:st.length=s.fAt.length) (hl:st.length≤2000000) (hs: ∀(i:Nat) (hi:i<st.length),∃y tb k x,zaA s.fAt i=some y∧zaA s.fWays y=some tb∧zbx tb s.fName=some k∧zaA tb.fIdxs k=some x∧x.fStage=st[i]):zgf s=some st:=by
 unfold zgf
 have h1:=zb0 (xs:=st) (body:=fun x:List Int × Int=>zcu s x.1 x.2) (fun i (o:List Int)=>(o,i)) (fun(o:List Int) x=>o++ [x]) (fun o=>some o) (fun i o=>o.length=i)
  (fun i hi o ho=>by
   refine⟨?_,by simp [ho]⟩
   obtain⟨y,tb,k,x,e1,e2,e3,e4,e5⟩:=hs i hi
   show zcu s o i=_
   unfold zcu
   have hq:((((o).length:Int)+(([x.fStage]:List Int).length:Int))*8≤140737488355328∧((o).length:Int)+(([x.fStage]:List Int).length:Int)≤140737488355328):=by rw [List.length_singleton];omega
   rw [if_pos (by simp;omega),e1,Option.bind_some,e2,Option.bind_some,e3,Option.bind_some,e4,Option.bind_some,zae hq,zaE hi (by omega),e5])
  (fun o ho=>by
   show zcu s o st.length=_
   unfold zcu
   rw [if_neg (by simp [hn])]) (s:=([]:List Int)) rfl
 have h3:=h1.1
 rw [show(fun(o:List Int) x=>o++ [x])=(fun o x=>o++ [id x])from rfl,zoq,List.map_id,List.nil_append]at h3
 exact h3
theorem zEa {s:zaf} {st:List Int} (hn:st.length=s.fAt.length) (hl:st.length≤2000000) (hs: ∀(i:Nat) (hi:i<st.length),∃y tb k x,zaA s.fAt i=some y∧zaA s.fWays y=some tb∧zbx tb s.fName=some k∧zaA tb.fIdxs k=some x∧x.fStage=st[i]):zh4 s=some (zGp st):=by
 unfold zh4 zGp
 rw [zzK hn hl hs,Option.bind_some,zz6 hl,Option.bind_some,zz6 hl,Option.bind_some]
 split<;>(try split)<;>rfl
end Go.Proofs.YtfkblfjloegahaaGreatDoor
end
section
namespace Go.Proofs.YtfkblfjloegahaaGreatDoor
open Go.RowKit
set_option maxRecDepth 100000
theorem zwr {α:Type} {xs:List α} {i:Int} {x:α} (h:zaA xs i=some x):0≤i∧xs[i.toNat]?=some x∧i<xs.length:=by
 unfold zaA at h
 split at h
 ·rename_i h0
  have:=(List.getElem?_eq_some_iff.1 h).1
  exact⟨h0,h,by omega⟩
 ·cases h
def znF (t:zab) (k c:Int):zab:=⟨t.fName,t.fCols,t.fIdxs.set k.toNat {((t.fIdxs[k.toNat]?).getD ⟨[],0,0⟩)with fStage:=c}⟩
def zhl (a b:Int):Int:=if a<b then a+1 else a-1
def zpJ:Nat→Int→Int→List Int
 |0,_,_=> []
 |f+1,a,b=>if a=b then []else zhl a b::zpJ f (zhl a b) b
def way (t:zab) (k a b:Int):List zab:=t::(zpJ 3 a b).map (znF t k)
theorem zxP: ∀(f:Nat) {a b:Int},0≤a→a≤3→0≤b→b≤3→ ∀c∈zpJ f a b,0≤c∧c≤3
 |0,_,_,_,_,_,_,c,hc=>by simp [zpJ]at hc
 |f+1,a,b,h1,h2,h3,h4,c,hc=>by
  unfold zpJ at hc
  split at hc
  ·simp at hc
  ·have hn:0≤zhl a b∧zhl a b≤3:=by unfold zhl;split<;>omega
   rcases List.mem_cons.1 hc with rfl|hc
   ·exact hn
   ·exact zxP f hn.1 hn.2 h3 h4 c hc
theorem zzm: ∀(f:Nat) (a b:Int),(zpJ f a b).length≤f
 |0,_,_=>by simp [zpJ]
 |f+1,a,b=>by
  unfold zpJ
  split
  ·simp
  ·have:=zzm f (zhl a b) b
   simp;omega
theorem ztC {t:zab} {k b:Int} {body:Int × List zab→Option ((Int × List zab) ⊕ Option (List zab))} (hb0:0≤b) (hb3:b≤3)
  (hs: ∀a o,0≤a→a≤3→a≠b→o.length≤100→body (a,o)=some (.inl (zhl a b,o++ [znF t k (zhl a b)]))) (he: ∀o,body (b,o)=some (.inr (some o))):
  ∀(f:Nat) (a:Int) (o:List zab),0≤a→a≤3→(a-b).natAbs≤f→o.length+f≤100→zak body (a,o)=some (o++(zpJ f a b).map (znF t k))
 |0,a,o,_,_,hf,_=>by
  have:a=b:=by omega
  subst this
  rw [zaR,he];simp [zpJ]
 |f+1,a,o,h0,h3,hf,ho=>by
  by_cases hab:a=b
  ·subst hab
   rw [zaR,he];simp [zpJ]
  ·rw [zaR,hs a o h0 h3 hab (by omega)]
   have hn:0≤zhl a b∧zhl a b≤3∧(zhl a b-b).natAbs≤f:=by unfold zhl;split<;>omega
   have:=ztC hb0 hb3 hs he f (zhl a b) (o++ [znF t k (zhl a b)]) hn.1 hn.2.1 hn.2.2 (by simp;omega)
   simp only [this,zpJ,if_neg hab,List.map_cons,List.append_assoc,List.singleton_append]
theorem zAJ {t:zab} (h:zc9 t):zfK t=some t:=by
 unfold zfK
 have h1:=h.cols
 have h2:=h.idxs
 rw [zae (by simp;omega),zae (by simp;omega)]
theorem zwP {t:zab} (h:zc9 t):zdP t=some t:=by
 unfold zdP za0 zbW
 have h1:=h.cols
 have h2:=h.idxs
 rw [zmw (by omega) (by omega),Option.bind_some,zmw (by omega) (by omega),Option.bind_some]
theorem zCH {t:zab} {n:Str} {x:zbK} {c:Int} (h:zc9 t) (hx:zig t n x):zgV t n c=some (znF t (zix (fun y:zbK=>y.fName==n) t.fIdxs) c):=by
 unfold zgV znF
 rw [zAJ h,Option.bind_some,zq2 h,Option.bind_some,hx.at_,Option.bind_some,(zwr hx.at_).2.1]
 rfl
theorem zDb {t:zab} {n:Str} {x:zbK} {c:Int} (h:zc9 t) (hx:zig t n x):zb4 t n c=some (znF t (zix (fun y:zbK=>y.fName==n) t.fIdxs) c):=by
 unfold zb4 znF
 rw [zwP h,Option.bind_some,zvf h,Option.bind_some,hx.at_,Option.bind_some,(zwr hx.at_).2.1]
 rfl
theorem zFY {t:zab} {n:Str} {x:zbK} {b:Int} (h:zc9 t) (hx:zig t n x) (h0:0≤x.fStage) (h3:x.fStage≤3) (hb0:0≤b) (hb3:b≤3):zje t n b=some (way t (zix (fun y:zbK=>y.fName==n) t.fIdxs) x.fStage b):=by
 unfold zje
 rw [zAJ h,Option.bind_some,zq2 h,Option.bind_some,hx.at_,Option.bind_some]
 refine(ztC (t:=t) (k:=zix (fun y:zbK=>y.fName==n) t.fIdxs) hb0 hb3 ?_ ?_ 3 x.fStage [t] h0 h3 (by omega) (by simp)).trans (by simp [way])
 ·intro a o ha0 ha3 hab ho
  show zeW t n b a o=_
  unfold zeW
  rw [if_pos (by simpa using hab)]
  have w1:IntKind.i64.wrap (a+1)=a+1:=zaC (by omega) (by omega)
  have w2:IntKind.i64.wrap (a-1)=a-1:=zaC (by omega) (by omega)
  by_cases hlt:a<b
  ·rw [if_pos (by simpa using hlt),w1,zCH h hx,Option.bind_some,zae (by simp;omega)]
   simp [zhl,hlt]
  ·rw [if_neg (by simpa using hlt),w2,zCH h hx,Option.bind_some,zae (by simp;omega)]
   simp [zhl,hlt]
 ·intro o
  show zeW t n b b o=_
  unfold zeW
  rw [if_neg (by simp)]
theorem zEU {t:zab} {n:Str} {x:zbK} {b:Int} (h:zc9 t) (hx:zig t n x) (h0:0≤x.fStage) (h3:x.fStage≤3) (hb0:0≤b) (hb3:b≤3):zea t n b=some (way t (zix (fun y:zbK=>y.fName==n) t.fIdxs) x.fStage b):=by
 unfold zea zbF
 rw [zvf h,Option.bind_some,hx.at_,Option.bind_some,Option.bind_some,zwP h,Option.bind_some]
 refine(ztC (t:=t) (k:=zix (fun y:zbK=>y.fName==n) t.fIdxs) hb0 hb3 ?_ ?_ 3 x.fStage [t] h0 h3 (by omega) (by simp)).trans (by simp [way])
 ·intro a o ha0 ha3 hab ho
  show zb9 t n b a o=_
  unfold zb9
  rw [if_pos (by simpa using hab)]
  have w1:IntKind.i64.wrap (a+1)=a+1:=zaC (by omega) (by omega)
  have w2:IntKind.i64.wrap (a-1)=a-1:=zaC (by omega) (by omega)
  by_cases hlt:a<b
  ·rw [if_pos (by simpa using hlt),w1,zDb h hx,Option.bind_some,zae (by simp;omega)]
   simp [zhl,hlt]
  ·rw [if_neg (by simpa using hlt),w2,zDb h hx,Option.bind_some,zae (by simp;omega)]
   simp [zhl,hlt]
 ·intro o
  show zb9 t n b b o=_
  unfold zb9
  rw [if_neg (by simp)]
theorem zkv {α β:Type} {xs ys:List α} (hl:xs.length=ys.length) {body:Int→Option (Int ⊕ Option β)} (p:α→α→Bool) (b:β) (fin:Option β)
  (hs: ∀(i:Nat) (hi:i<xs.length) (hj:i<ys.length),body i=some (if p xs[i] ys[i]=true then .inl ((i+1:Nat):Int)else .inr (some b))) (he:body xs.length=some (.inr fin)):zak body 0=if((xs.zip ys).all fun z=>p z.1 z.2)=true then fin else some b:=by
 have hz:(xs.zip ys).length=xs.length:=by simp [hl]
 have h1:=zof (xs:=xs.zip ys) (body:=body) (fun i (_:Unit)=>i) (fun z _=>some (if p z.1 z.2=true then .inl ()else .inr (some b))) (fun _=>fin)
  (fun i hi s=>by
   have hi1:i<xs.length:=by omega
   have hi2:i<ys.length:=by omega
   rw [hs i hi1 hi2,List.getElem_zip]
   cases p xs[i] ys[i]<;>simp [zuC]) (fun s=>by rw [hz];exact he) ()
 rw [zwk (fun z:α × α=>p z.1 z.2) b fun x _ s=>rfl]at h1
 exact h1
theorem znC {α γ:Type} {p:α→α→Bool} {f:α→γ} (h: ∀x y,p x y=true↔f x=f y): ∀{xs ys:List α},xs.length=ys.length→(((xs.zip ys).all fun z=>p z.1 z.2)=true↔xs.map f=ys.map f)
 | [], [],_=>by simp
 | [],_::_,h=>by simp at h
 |_::_, [],h=>by simp at h
 |x::xs,y::ys,hl=>by
  have:=znC h (xs:=xs) (ys:=ys) (by simpa using hl)
  simp only [List.zip_cons_cons,List.all_cons,Bool.and_eq_true,List.map_cons,List.cons.injEq,this,h]
def nc (x:zbK):Str × Int:=(x.fName,x.fCol)
theorem zAY {x y:zbK} (h1:nc x=nc y) (h2:x.fStage=y.fStage):x=y:=by
 cases x;cases y
 simp [nc]at h1 h2
 simp [h1,h2]
theorem zup: ∀{xs ys:List zbK},xs.map nc=ys.map nc→xs.map (·.fStage)=ys.map (·.fStage)→xs=ys
 | [], [],_,_=>rfl
 | [],_::_,h,_=>by simp at h
 |_::_, [],h,_=>by simp at h
 |x::xs,y::ys,h1,h2=>by
  simp only [List.map_cons,List.cons.injEq]at h1 h2
  rw [zAY h1.1 h2.1,zup h1.2 h2.2]
theorem zqx {a b:zab} (h1:a.fName=b.fName) (h2:a.fCols=b.fCols) (h3:a.fIdxs=b.fIdxs):a=b:=by
 cases a;cases b;simp at h1 h2 h3;simp [h1,h2,h3]
theorem zyd {a b:zab} (ha:zc9 a): ∃r,zfm a b=some r∧(r=true↔a.fName=b.fName∧a.fCols=b.fCols∧a.fIdxs.map nc=b.fIdxs.map nc):=by
 unfold zfm
 by_cases h0:(((a.fName !=b.fName)||((a.fCols.length:Int) !=(b.fCols.length:Int)))||((a.fIdxs.length:Int) !=(b.fIdxs.length:Int)))=true
 ·rw [if_pos h0]
  refine⟨_,rfl,by simp, ?_⟩
  rintro⟨h1,h2,h3⟩
  have h4:=congrArg List.length h3
  simp only [List.length_map]at h4
  rw [h1,h2,h4]at h0
  simp at h0
 ·rw [if_neg h0]
  simp only [Bool.or_eq_true,bne_iff_ne,ne_eq,not_or,Decidable.not_not,Int.natCast_inj]at h0
  obtain⟨⟨h1,h2⟩,h3⟩:=h0
  have hc:=ha.cols
  have hi:=ha.idxs
  rw [zkv (xs:=a.fCols) (ys:=b.fCols) h2 (fun x y=>x==y) false (zdU a b) ?_ ?_]
  ·have hk:zdU a b=some ((a.fIdxs.zip b.fIdxs).all fun z=>nc z.1==nc z.2):=by
    unfold zdU
    rw [zkv (xs:=a.fIdxs) (ys:=b.fIdxs) h3 (fun x y=>nc x==nc y) false (some true) ?_ ?_]
    ·cases((a.fIdxs.zip b.fIdxs).all fun z=>nc z.1==nc z.2)<;>rfl
    ·intro i hi1 hj1
     show zcC a b i=_
     unfold zcC
     rw [if_pos (by simpa using hi1),zac hi1,Option.bind_some,zac hj1,Option.bind_some,zaE hi1 (by omega)]
     by_cases hq:nc a.fIdxs[i]=nc b.fIdxs[i]
     ·have hq2:=hq
      simp only [nc,Prod.mk.injEq]at hq2
      rw [if_neg (by simp [hq2.1,hq2.2]),if_pos (by simpa using hq)]
     ·have hq2:=hq
      simp only [nc,Prod.mk.injEq,not_and]at hq2
      rw [if_pos (by simp only [Bool.or_eq_true,bne_iff_ne,ne_eq];by_cases hz:a.fIdxs[i].fName=b.fIdxs[i].fName;exact .inr (hq2 hz);exact .inl hz),if_neg (by simpa using hq)]
    ·show zcC a b a.fIdxs.length=_
     unfold zcC
     rw [if_neg (by simp)]
   have z1:=znC (p:=fun x y:Str=>x==y) (f:=id) (by simp) h2
   have z2:=znC (p:=fun x y:zbK=>nc x==nc y) (f:=nc) (by simp) h3
   rw [List.map_id,List.map_id]at z1
   rw [hk]
   by_cases hz:((a.fCols.zip b.fCols).all fun z=>z.1==z.2)=true
   ·rw [if_pos hz]
    exact⟨_,rfl,by rw [z2];exact⟨fun h=>⟨h1,z1.1 hz,h⟩,fun h=>h.2.2⟩⟩
   ·rw [if_neg hz]
    exact⟨_,rfl,by simp,fun h=>absurd (z1.2 h.2.1) hz⟩
  ·intro i hi1 hj1
   show zcK a b i=_
   unfold zcK
   rw [if_pos (by simpa using hi1),zac hi1,Option.bind_some,zac hj1,Option.bind_some,zaE hi1 (by omega)]
   by_cases hq:a.fCols[i]=b.fCols[i]
   ·rw [if_neg (by simp [hq]),if_pos (by simpa using hq)]
   ·rw [if_pos (by simpa using hq),if_neg (by simpa using hq)]
  ·show zcK a b a.fCols.length=_
   unfold zcK
   rw [if_neg (by simp)]
structure zCV (t:zab):Prop where
 len:t.fIdxs.length≤3
 stg: ∀x∈t.fIdxs,0≤x.fStage∧x.fStage≤3
theorem zxR: ∀(l:List (zbK × zbK)) (s:Int),0≤s→(l.foldl (fun s z=>s+((z.1.fStage-z.2.fStage).natAbs:Int)) s=0↔s=0∧ ∀z∈l,z.1.fStage=z.2.fStage)
 | [],s,_=>by simp
 |z::l,s,h=>by
  rw [List.foldl_cons,zxR l _ (by omega)]
  constructor
  ·rintro⟨h1,h2⟩
   exact⟨by omega,fun y hy=>by
    rcases List.mem_cons.1 hy with rfl|hy
    ·omega
    ·exact h2 y hy⟩
  ·rintro⟨h1,h2⟩
   have:=h2 z (by simp)
   exact⟨by omega,fun y hy=>h2 y (by simp [hy])⟩
theorem zvy: ∀{xs ys:List zbK},xs.length=ys.length→((∀z∈xs.zip ys,z.1.fStage=z.2.fStage)↔xs.map (·.fStage)=ys.map (·.fStage))
 | [], [],_=>by simp
 | [],_::_,h=>by simp at h
 |_::_, [],h=>by simp at h
 |x::xs,y::ys,hl=>by
  have:=zvy (xs:=xs) (ys:=ys) (by simpa using hl)
  simp only [List.zip_cons_cons,List.forall_mem_cons,this,List.map_cons,List.cons.injEq]
theorem zFo (d:Int) (h1: -3≤d) (h2:d≤3):zi2 d (IntKind.i64.wrap (0-d))=some (d.natAbs:Int):=by
 rw [zaC (by omega) (by omega)]
 unfold zi2
 by_cases h:d>0-d
 ·rw [if_pos (by simpa using h)];congr 1;omega
 ·rw [if_neg (by simpa using h)];congr 1;omega
theorem zHi {a b:zab} (ha:zCV a) (hb:zCV b) (hl:a.fIdxs.length=b.fIdxs.length): ∃v,ziX a b=some v∧(v=0↔a.fIdxs.map (·.fStage)=b.fIdxs.map (·.fStage)):=by
 unfold ziX
 have h3:=ha.len
 have hz:(a.fIdxs.zip b.fIdxs).length=a.fIdxs.length:=by simp [hl]
 have h1:=zb0 (xs:=a.fIdxs.zip b.fIdxs) (body:=fun s:Int × Int=>zdR a b s.1 s.2) (fun i (s:Int)=>(s,i)) (fun(s:Int) z=>s+((z.1.fStage-z.2.fStage).natAbs:Int)) (fun s=>some s) (fun i s=>0≤s∧s≤3*(i:Int))
  (fun i hi s hs=>by
   have hi1:i<a.fIdxs.length:=by omega
   have hi2:i<b.fIdxs.length:=by omega
   have ga:=ha.stg a.fIdxs[i] (List.getElem_mem hi1)
   have gb:=hb.stg b.fIdxs[i] (List.getElem_mem hi2)
   rw [List.getElem_zip]
   refine⟨?_, ?_, ?_⟩
   ·show zdR a b s i=_
    unfold zdR
    rw [if_pos (by simpa using hi1),zac hi1,Option.bind_some,zac hi2,Option.bind_some,zaC (n:=a.fIdxs[i].fStage-b.fIdxs[i].fStage) (by omega) (by omega),zFo _ (by omega) (by omega),Option.bind_some,zaE hi1 (by omega),zaC (by omega) (by omega)]
   ·dsimp only;omega
   ·dsimp only;push_cast;omega)
  (fun s hs=>by
   show zdR a b s ((a.fIdxs.zip b.fIdxs).length:Int)=_
   unfold zdR
   rw [hz,if_neg (by simp)]) (s:=0) ⟨by omega,by omega⟩
 refine⟨_,h1.1, ?_⟩
 rw [zxR _ _ (by omega),←zvy hl]
 simp
def eqT (a b:zab):Bool:=a.fName==b.fName&&(a.fCols==b.fCols&&(a.fIdxs.map nc==b.fIdxs.map nc&&a.fIdxs.map (·.fStage)==b.fIdxs.map (·.fStage)))
theorem zoU {a b:zab}:eqT a b=true↔a=b:=by
 unfold eqT
 simp only [Bool.and_eq_true,beq_iff_eq]
 constructor
 ·rintro⟨h1,h2,h3,h4⟩;exact zqx h1 h2 (zup h3 h4)
 ·rintro rfl;simp
theorem zCi {a b:zab} (ha:zc9 a):zcj a b=some (eqT a b):=by
 have key: ∃r,zcj a b=some r∧(r=true↔a=b):=by
  unfold zcj
  by_cases h1:(a.fName==b.fName)=true
  ·rw [if_pos h1]
   have h1':a.fName=b.fName:=by simpa using h1
   have e1: ∃r,zbw a.fCols b.fCols=some r∧(r=true↔a.fCols=b.fCols):=by
    unfold zbw
    by_cases h2:((a.fCols.length:Int) !=(b.fCols.length:Int))=true
    ·rw [if_pos h2]
     exact⟨_,rfl,by simp,fun h=>by rw [h]at h2;simp at h2⟩
    ·rw [if_neg h2]
     have h2':a.fCols.length=b.fCols.length:=by
      have:(a.fCols.length:Int)=b.fCols.length:=by simpa using h2
      omega
     rw [zkv (xs:=a.fCols) (ys:=b.fCols) h2' (fun x y=>x==y) false (some true) ?_ ?_]
     ·have z1:=znC (p:=fun x y:Str=>x==y) (f:=id) (by simp) h2'
      rw [List.map_id,List.map_id]at z1
      rw [←z1]
      cases hz:((a.fCols.zip b.fCols).all fun z=>z.1==z.2)<;>exact⟨_,rfl,by simp⟩
     ·intro i hi1 hj1
      show zaK a.fCols b.fCols i=_
      unfold zaK
      have:=ha.cols
      rw [if_pos (by simpa using hi1),zac hi1,Option.bind_some,zac hj1,Option.bind_some,zaE hi1 (by omega)]
      by_cases hq:a.fCols[i]=b.fCols[i]
      ·rw [if_neg (by simp [hq]),if_pos (by simpa using hq)]
      ·rw [if_pos (by simpa using hq),if_neg (by simpa using hq)]
     ·show zaK a.fCols b.fCols a.fCols.length=_
      unfold zaK
      rw [if_neg (by simp)]
   obtain⟨r1,e1,f1⟩:=e1
   rw [e1,Option.bind_some]
   by_cases h2:r1=true
   ·rw [if_pos h2]
    have h2':=f1.1 h2
    have e2: ∃r,za7 a.fIdxs b.fIdxs=some r∧(r=true↔a.fIdxs=b.fIdxs):=by
     unfold za7
     by_cases h3:((a.fIdxs.length:Int) !=(b.fIdxs.length:Int))=true
     ·rw [if_pos h3]
      exact⟨_,rfl,by simp,fun h=>by rw [h]at h3;simp at h3⟩
     ·rw [if_neg h3]
      have h3':a.fIdxs.length=b.fIdxs.length:=by
       have:(a.fIdxs.length:Int)=b.fIdxs.length:=by simpa using h3
       omega
      rw [zkv (xs:=a.fIdxs) (ys:=b.fIdxs) h3' (fun x y=>x.fName==y.fName&&(x.fCol==y.fCol&&(x.fStage==y.fStage))) false (some true) ?_ ?_]
      ·have z1:=znC (p:=fun x y:zbK=>x.fName==y.fName&&(x.fCol==y.fCol&&(x.fStage==y.fStage))) (f:=id) (fun x y=>by
        simp only [Bool.and_eq_true,beq_iff_eq,id]
        constructor
        ·rintro⟨k1,k2,k3⟩;exact zAY (by simp [nc,k1,k2]) k3
        ·rintro rfl;simp) h3'
       rw [List.map_id,List.map_id]at z1
       rw [←z1]
       cases((a.fIdxs.zip b.fIdxs).all fun z=>z.1.fName==z.2.fName&&(z.1.fCol==z.2.fCol&&(z.1.fStage==z.2.fStage)))<;>exact⟨_,rfl,by simp⟩
      ·intro i hi1 hj1
       show zaB a.fIdxs b.fIdxs i=_
       unfold zaB
       have:=ha.idxs
       rw [if_pos (by simpa using hi1),zac hi1,Option.bind_some,zac hj1,Option.bind_some,zaE hi1 (by omega)]
       cases(a.fIdxs[i].fName==b.fIdxs[i].fName&&(a.fIdxs[i].fCol==b.fIdxs[i].fCol&&(a.fIdxs[i].fStage==b.fIdxs[i].fStage)))<;>rfl
      ·show zaB a.fIdxs b.fIdxs a.fIdxs.length=_
       unfold zaB
       rw [if_neg (by simp)]
    obtain⟨r2,e2,f2⟩:=e2
    rw [e2,Option.bind_some]
    exact⟨_,rfl,by rw [f2];exact⟨fun h=>zqx h1' h2' h,fun h=>by rw [h]⟩⟩
   ·rw [if_neg h2]
    exact⟨_,rfl,by simp,fun h=>absurd (f1.2 (by rw [h])) h2⟩
  ·rw [if_neg h1]
   exact⟨_,rfl,by simp,fun h=>by rw [h]at h1;simp at h1⟩
 obtain⟨r,e,f⟩:=key
 rw [e];congr 1
 rw [Bool.eq_iff_iff,f,zoU]
end Go.Proofs.YtfkblfjloegahaaGreatDoor
end
section
namespace Go.Proofs.YtfkblfjloegahaaGreatDoor
open Go.RowKit
set_option maxRecDepth 100000
structure zkk (s:zaf):Prop where
 name:s.fName.length≤2000000
 ways:s.fWays.length≤2000000
 way: ∀t∈s.fWays,zc9 t
 at_:s.fAt.length≤2000000
 store:zpk s.fStore
theorem zzF {t:zab} (h:zau t=true):zCV t:=by
 unfold zau at h
 simp only [Bool.and_eq_true,decide_eq_true_eq]at h
 refine⟨by omega,fun x hx=> ?_⟩
 obtain⟨i,hi,rfl⟩:=List.mem_iff_getElem.1 hx
 have h1:=List.all_eq_true.1 h.2 i (List.mem_range.2 hi)
 unfold zox at h1
 simp only [Bool.and_eq_true,List.getElem?_eq_getElem hi,Option.getD_some]at h1
 exact zbo.1 h1.1.2
theorem zxr {α γ:Type} (f:α→γ): ∀(l:List α) (k:Nat) (d y:α),f y=f ((l[k]?).getD d)→(l.set k y).map f=l.map f
 | [],k,d,y,_=>rfl
 |x::l,0,d,y,h=>by
  simp only [List.getElem?_cons_zero,Option.getD_some]at h
  simp [h]
 |x::l,k+1,d,y,h=>by
  simp only [List.getElem?_cons_succ]at h
  simp [zxr f l k d y h]
theorem zqV (t:zab) (k c:Int):(znF t k c).fIdxs.map (·.fName)=t.fIdxs.map (·.fName):=zxr _ _ _ ⟨[],0,0⟩ _ rfl
theorem zAc {t:zab} {k c:Int} (h:zCV t) (h0:0≤c) (h3:c≤3):zCV (znF t k c):=by
 refine⟨by unfold znF;simpa using h.len,fun x hx=> ?_⟩
 rcases List.mem_or_eq_of_mem_set hx with hx|rfl
 ·exact h.stg x hx
 ·exact⟨h0,h3⟩
theorem zwQ {t:zab} {k c:Int} (h:zc9 t):zc9 (znF t k c):=by
 refine⟨h.name,h.cols,h.col,by unfold znF;simpa using h.idxs,fun x hx=> ?_⟩
 have h1:x.fName∈(znF t k c).fIdxs.map (·.fName):=List.mem_map.2 ⟨x,hx,rfl⟩
 rw [zqV]at h1
 obtain⟨y,hy,e⟩:=List.mem_map.1 h1
 rw [←e];exact h.idx y hy
theorem zDU {t:zab} {k a b:Int} (hS:zc9 t) (h:zCV t) (ha0:0≤a) (ha3:a≤3) (hb0:0≤b) (hb3:b≤3): ∀w∈way t k a b,w.fIdxs.map (·.fName)=t.fIdxs.map (·.fName)∧zCV w∧zc9 w:=by
 intro w hw
 rcases List.mem_cons.1 hw with rfl|hw
 ·exact⟨rfl,h,hS⟩
 ·obtain⟨c,hc,rfl⟩:=List.mem_map.1 hw
  have:=zxP 3 ha0 ha3 hb0 hb3 c hc
  exact⟨zqV t k c,zAc h this.1 this.2,zwQ hS⟩
theorem zAx {xs ys:List zbK} {n:Str} (h:xs.map (·.fName)=ys.map (·.fName)):decide (zix (fun x:zbK=>x.fName==n) xs≥0)=decide (zix (fun x:zbK=>x.fName==n) ys≥0):=by
 rw [zmg,zmg]
 have e: ∀l:List zbK,(l.any fun x=>x.fName==n)=(l.map (·.fName)).any (· ==n):=fun l=>by rw [List.any_map];rfl
 rw [e,e,h]
def noT:zab:=⟨[], [], []⟩
def zeH (s:zaf):zab:=(s.fWays[0]?).getD noT
def znL (s:zaf):zab:=(s.fWays[s.fWays.length-1]?).getD noT
def kOf (t:zab) (n:Str):Int:=zix (fun y:zbK=>y.fName==n) t.fIdxs
def zui (t:zab) (n:Str):Int:=((t.fIdxs[(kOf t n).toNat]?).getD ⟨[],0,0⟩).fStage
def zi6 (s:zaf):List zab:=way (zeH s) (kOf (zeH s) s.fName) (zui (zeH s) s.fName) (zui (znL s) s.fName)
theorem zBM {t:zab} {n:Str} {x:zbK} (h:zig t n x):zui t n=x.fStage:=by
 unfold zui kOf
 rw [(zwr h.at_).2.1];rfl
theorem zrn {s:zaf} (h:1≤s.fWays.length):zaA s.fWays 0=some (zeH s)∧zeH s∈s.fWays:=by
 have h0:0<s.fWays.length:=by omega
 have e:zeH s=s.fWays[0]:=by unfold zeH;rw [List.getElem?_eq_getElem h0];rfl
 rw [e]
 exact⟨zac h0,List.getElem_mem h0⟩
theorem zxe {s:zaf} (h:1≤s.fWays.length) (h4:s.fWays.length≤4):zaA s.fWays (IntKind.i64.wrap ((s.fWays.length:Int)-1))=some (znL s)∧znL s∈s.fWays:=by
 have h0:s.fWays.length-1<s.fWays.length:=by omega
 have e:znL s=s.fWays[s.fWays.length-1]:=by unfold znL;rw [List.getElem?_eq_getElem h0];rfl
 have w:IntKind.i64.wrap ((s.fWays.length:Int)-1)=((s.fWays.length-1:Nat):Int):=by rw [zaC (by omega) (by omega)];omega
 rw [e,w]
 exact⟨zac h0,List.getElem_mem h0⟩
theorem zqE {t:zab} {n:Str} (h:znM t n=true): ∃x,zig t n x∧zui t n=x.fStage∧0≤x.fStage∧x.fStage≤3∧zau t=true:=by
 obtain⟨x,hx,_⟩:=zCT h
 have hg:zau t=true:=by
  unfold znM at h
  simp only [Bool.and_eq_true]at h
  exact h.1
 have:=(zzF hg).stg x (zCl hx.at_)
 exact⟨x,hx,zBM hx,this.1,this.2,hg⟩
theorem zEj {s:zaf} (hS:zkk s) (h1:1≤s.fWays.length) (h4:s.fWays.length≤4): ∃sw,zfa s=some sw∧(sw=true↔(∀t∈s.fWays,znM t s.fName=true)∧s.fWays=zi6 s):=by
 unfold zfa
 obtain⟨e0,m0⟩:=zrn h1
 obtain⟨e1,m1⟩:=zxe h1 h4
 have S0:=hS.way _ m0
 have S1:=hS.way _ m1
 rw [zlI,Option.bind_some,if_pos (zbo.2 ⟨by omega,by omega⟩),e0,Option.bind_some,znZ S0,Option.bind_some]
 have no: ∀{t:zab},t∈s.fWays→znM t s.fName≠true→(false=true↔(∀t∈s.fWays,znM t s.fName=true)∧s.fWays=zi6 s):=fun ht hn=>⟨by simp,fun h=>absurd (h.1 _ ht) hn⟩
 by_cases g0:zau (zeH s)=true
 ·rw [if_pos g0,zq2 S0,Option.bind_some]
  by_cases k0:zix (fun x:zbK=>x.fName==s.fName) (zeH s).fIdxs<0
  ·rw [if_pos (by simpa using k0)]
   exact⟨_,rfl,no m0 (by unfold znM;intro hq;rw [Bool.and_eq_true,decide_eq_true_eq]at hq;omega)⟩
  ·rw [if_neg (by simpa using k0),e1,Option.bind_some,znZ S1,Option.bind_some]
   by_cases g1:zau (znL s)=true
   ·rw [if_pos g1,zq2 S1,Option.bind_some]
    by_cases k1:zix (fun x:zbK=>x.fName==s.fName) (znL s).fIdxs<0
    ·rw [if_pos (by simpa using k1)]
     exact⟨_,rfl,no m1 (by unfold znM;intro hq;rw [Bool.and_eq_true,decide_eq_true_eq]at hq;omega)⟩
    ·rw [if_neg (by simpa using k1),Option.bind_some]
     have H0:znM (zeH s) s.fName=true:=by unfold znM;simp only [Bool.and_eq_true,decide_eq_true_eq];exact⟨g0,by omega⟩
     have H1:znM (znL s) s.fName=true:=by unfold znM;simp only [Bool.and_eq_true,decide_eq_true_eq];exact⟨g1,by omega⟩
     obtain⟨x,hx,sx,x0,x3,_⟩:=zqE H0
     obtain⟨y,hy,sy,y0,y3,_⟩:=zqE H1
     rw [hy.at_,Option.bind_some,zFY S0 hx x0 x3 y0 y3,Option.bind_some]
     have hW:way (zeH s) (zix (fun y:zbK=>y.fName==s.fName) (zeH s).fIdxs) x.fStage y.fStage=zi6 s:=by unfold zi6 kOf;rw [sx,sy]
     rw [hW]
     have hM:=zDU (t:=zeH s) (k:=kOf (zeH s) s.fName) (a:=zui (zeH s) s.fName) (b:=zui (znL s) s.fName) S0 (zzF g0) (by omega) (by omega) (by omega) (by omega)
     have hM: ∀w∈zi6 s,w.fIdxs.map (·.fName)=(zeH s).fIdxs.map (·.fName)∧zCV w∧zc9 w:=hM
     by_cases hl:((zi6 s).length:Int) !=(s.fWays.length:Int)
     ·rw [if_pos hl]
      exact⟨_,rfl,by simp,fun h=>by rw [←h.2]at hl;simp at hl⟩
     ·rw [if_neg hl]
      have hl':(zi6 s).length=s.fWays.length:=by
       have:((zi6 s).length:Int)=(s.fWays.length:Int):=by simpa using hl
       omega
      rw [zkv (xs:=zi6 s) (ys:=s.fWays) hl' (fun w y=>zau y&&eqT w y) false (some true) ?_ ?_]
      ·have z1:=znC (p:=eqT) (f:=id) (fun x y=>zoU) hl'
       rw [List.map_id,List.map_id]at z1
       have z2:((zi6 s).zip s.fWays).all (fun z=>zau z.2)=s.fWays.all zau:=by
        have:=List.map_snd_zip (l₁:=zi6 s) (l₂:=s.fWays) (by omega)
        conv=>rhs;rw [←this]
        rw [List.all_map];rfl
       have z3:(((zi6 s).zip s.fWays).all fun z=>zau z.2&&eqT z.1 z.2)=(s.fWays.all zau&&((zi6 s).zip s.fWays).all fun z=>eqT z.1 z.2):=by
        rw [←z2]
        rw [Bool.eq_iff_iff]
        simp only [List.all_eq_true,Bool.and_eq_true]
        exact⟨fun h=>⟨fun z hz=>(h z hz).1,fun z hz=>(h z hz).2⟩,fun h z hz=>⟨h.1 z hz,h.2 z hz⟩⟩
       have key:(((zi6 s).zip s.fWays).all fun z=>zau z.2&&eqT z.1 z.2)=true↔(∀t∈s.fWays,znM t s.fName=true)∧s.fWays=zi6 s:=by
        rw [z3,Bool.and_eq_true,z1]
        constructor
        ·rintro⟨a1,a2⟩
         refine⟨fun t ht=> ?_,a2.symm⟩
         have q1:=List.all_eq_true.1 a1 t ht
         rw [←a2]at ht
         have q2:=zAx (n:=s.fName) (hM t ht).1
         unfold znM at H0 ⊢
         simp only [Bool.and_eq_true]at H0 ⊢
         exact⟨q1,by rw [q2];exact H0.2⟩
        ·rintro⟨a1,a2⟩
         exact⟨List.all_eq_true.2 fun t ht=>by have:=a1 t ht;unfold znM at this;simp only [Bool.and_eq_true]at this;exact this.1,a2.symm⟩
       by_cases hz:(((zi6 s).zip s.fWays).all fun z=>zau z.2&&eqT z.1 z.2)=true
       ·rw [if_pos hz];exact⟨_,rfl,fun _=>key.1 hz,fun _=>rfl⟩
       ·rw [if_neg hz];exact⟨_,rfl,by simp,fun h=>absurd (key.2 h) hz⟩
      ·intro i hi hj
       show zeq s (zi6 s) i=_
       unfold zeq
       have Sj:=hS.way _ (List.getElem_mem hj)
       obtain⟨_,Ti,Si⟩:=hM _ (List.getElem_mem hi)
       rw [if_pos (by simpa using hi),zac hj,Option.bind_some,znZ Sj,Option.bind_some]
       by_cases gj:zau s.fWays[i]=true
       ·rw [if_pos gj,zac hi,Option.bind_some]
        obtain⟨r,er,fr⟩:=zyd (a:=(zi6 s)[i]) (b:=s.fWays[i]) Si
        rw [er,Option.bind_some]
        by_cases hr:r=true
        ·rw [if_pos hr]
         obtain⟨c1,c2,c3⟩:=fr.1 hr
         have c4:=congrArg List.length c3
         simp only [List.length_map]at c4
         obtain⟨v,ev,fv⟩:=zHi Ti (zzF gj) c4
         rw [ev,Option.bind_some,zaE hi (by omega)]
         by_cases hv:v=0
         ·have:=zoU.2 (zqx c1 c2 (zup c3 (fv.1 hv)))
          rw [if_neg (by simp [hv]),if_pos (by rw [gj,this];rfl)]
         ·rw [if_pos (by simpa using hv),if_neg (by
           simp only [Bool.and_eq_true,not_and]
           intro _ h
           rw [zoU.1 h]at fv
           exact hv (fv.2 rfl))]
        ·rw [if_neg hr,if_neg (by
          simp only [Bool.and_eq_true,not_and]
          intro _ h
          rw [zoU.1 h]at fr
          exact hr (fr.2 ⟨rfl,rfl,rfl⟩))]
       ·rw [if_neg gj,if_neg (by simp [gj])]
      ·show zeq s (zi6 s) (zi6 s).length=_
       unfold zeq
       rw [if_neg (by simp)]
   ·rw [if_neg g1]
    exact⟨_,rfl,no m1 (by unfold znM;simp [g1])⟩
 ·rw [if_neg g0]
  exact⟨_,rfl,no m0 (by unfold znM;simp [g0])⟩
theorem zEc {xs:List Int} {a b:Int} (h:xs.length≤2000000):zjT xs a b=some (xs.all fun y=>inB y a b):=by
 unfold zjT
 have h1:=zof (xs:=xs) (body:=fun s:Int=>zec xs a b s) (fun i (_:Unit)=>i) (fun y _=>some (if inB y a b=true then .inl ()else .inr (some false))) (fun _=>some true)
  (fun i hi s=>by
   show zec xs a b i=_
   unfold zec
   rw [if_pos (by simpa using hi),zac hi,Option.bind_some,zlI,Option.bind_some,zaE hi (by omega)]
   cases inB xs[i] a b<;>simp [zuC]) (fun s=>by
   show zec xs a b xs.length=_
   unfold zec
   rw [if_neg (by simp)]) ()
 rw [zwk (fun y=>inB y a b) false fun x _ s=>rfl]at h1
 refine h1.trans ?_
 cases(xs.all fun y=>inB y a b)<;>rfl
def zpR (s:zaf):Prop:=1≤s.fWays.length∧s.fWays.length≤4∧(∀t∈s.fWays,znM t s.fName=true)∧s.fWays=zi6 s∧inB s.fAt.length 1 3=true∧(∀y∈s.fAt,0≤y∧y≤(s.fWays.length:Int)-1)∧zdh s.fStore=true
theorem zCR {s:zaf}:(s.fAt.all fun y=>inB y 0 ((s.fWays.length:Int)-1))=true↔ ∀y∈s.fAt,0≤y∧y≤(s.fWays.length:Int)-1:=by
 rw [List.all_eq_true]
 exact⟨fun h y hy=>zbo.1 (h y hy),fun h y hy=>zbo.2 (h y hy)⟩
theorem zDm {s:zaf} (hS:zkk s): ∃g,zeY s=some g∧(g=true↔zpR s):=by
 unfold zeY
 by_cases h:1≤s.fWays.length∧s.fWays.length≤4
 ·obtain⟨sw,e,f⟩:=zEj hS h.1 h.2
  rw [e,Option.bind_some]
  have w:IntKind.i64.wrap ((s.fWays.length:Int)-1)=(s.fWays.length:Int)-1:=zaC (by omega) (by omega)
  by_cases hw:sw=true
  ·rw [if_pos hw,zlI,Option.bind_some]
   by_cases h2:inB s.fAt.length 1 3=true
   ·rw [if_pos h2,w,zEc hS.at_,Option.bind_some]
    by_cases h3:(s.fAt.all fun y=>inB y 0 ((s.fWays.length:Int)-1))=true
    ·rw [if_pos h3,zrl hS.store,Option.bind_some]
     exact⟨_,rfl,fun h5=>⟨h.1,h.2,(f.1 hw).1,(f.1 hw).2,h2,zCR.1 h3,h5⟩,fun h5=>h5.2.2.2.2.2.2⟩
    ·rw [if_neg h3];exact⟨_,rfl,by simp,fun h5=>absurd (zCR.2 h5.2.2.2.2.2.1) h3⟩
   ·rw [if_neg h2];exact⟨_,rfl,by simp,fun h5=>absurd h5.2.2.2.2.1 h2⟩
  ·rw [if_neg hw];exact⟨_,rfl,by simp,fun h5=>absurd (f.2 ⟨h5.2.2.1,h5.2.2.2.1⟩) hw⟩
 ·have e:zfa s=some false:=by
   unfold zfa
   rw [zlI,Option.bind_some,if_neg (by rw [zbo];omega)]
  rw [e,Option.bind_some,if_neg (by simp)]
  exact⟨_,rfl,by simp,fun h5=>absurd ⟨h5.1,h5.2.1⟩ h⟩
theorem zzi {xs ys:List zab} (h: ∀t∈xs,zc9 t) (hl:xs.length≤2000000): ∃r,zal xs ys (fun a b=>zcj a b)=some r∧(r=true↔xs=ys):=by
 unfold zal
 by_cases h3:((xs.length:Int) !=(ys.length:Int))=true
 ·rw [if_pos h3]
  exact⟨_,rfl,by simp,fun h=>by rw [h]at h3;simp at h3⟩
 ·rw [if_neg h3]
  have h3':xs.length=ys.length:=by
   have:(xs.length:Int)=ys.length:=by simpa using h3
   omega
  rw [zkv (xs:=xs) (ys:=ys) h3' eqT false (some true) ?_ ?_]
  ·have z1:=znC (p:=eqT) (f:=id) (fun x y=>zoU) h3'
   rw [List.map_id,List.map_id]at z1
   rw [←z1]
   cases((xs.zip ys).all fun z=>eqT z.1 z.2)<;>exact⟨_,rfl,by simp⟩
  ·intro i hi1 hj1
   show zah xs ys (fun a b=>zcj a b) i=_
   unfold zah
   rw [if_pos (by simpa using hi1),zac hi1,Option.bind_some,zac hj1,Option.bind_some,zaE hi1 (by omega)]
   dsimp only
   rw [zCi (h _ (List.getElem_mem hi1)),Option.bind_some]
   cases eqT xs[i] ys[i]<;>rfl
  ·show zah xs ys (fun a b=>zcj a b) xs.length=_
   unfold zah
   rw [if_neg (by simp)]
theorem zxU {s:zaf} {t:zab} {x:zbK} (h:zc9 t) (hx:zig t s.fName x):zbH s t=some x.fStage:=by
 unfold zbH zbF
 rw [zvf h,Option.bind_some,hx.at_,Option.bind_some,Option.bind_some]
theorem zDR {s:zaf} (hS:zkk s): ∃g,zeU s=some g∧(g=true↔zpR s):=by
 unfold zeU
 rw [zhW,Option.bind_some]
 by_cases hb:inB s.fWays.length 1 4=true
 ·have h:=zbo.1 hb
  rw [if_pos hb,zhW,Option.bind_some]
  by_cases h2:inB s.fAt.length 1 3=true
  ·rw [if_pos h2,zDE hS.store,Option.bind_some]
   by_cases h3:zdh s.fStore=true
   ·rw [if_neg (by simp [h3]),zqD (fun t=> !znM t s.fName) (fun t ht=>by unfold zgI;rw [zEq (hS.way t ht),Option.bind_some]) (by omega),Option.bind_some]
    by_cases h4:(s.fWays.any fun t=> !znM t s.fName)=true
    ·rw [if_pos h4]
     refine⟨_,rfl,by simp,fun h5=> ?_⟩
     obtain⟨t,ht,hn⟩:=List.any_eq_true.1 h4
     rw [h5.2.2.1 t ht]at hn
     simp at hn
    ·have hA: ∀t∈s.fWays,znM t s.fName=true:=fun t ht=>by
      cases hq:znM t s.fName with
      |true=>rfl
      |false=>exact absurd (List.any_eq_true.2 ⟨t,ht,by simp [hq]⟩) h4
     have w:IntKind.i64.wrap ((s.fWays.length:Int)-1)=(s.fWays.length:Int)-1:=zaC (by omega) (by omega)
     have hat:=hS.at_
     rw [if_neg h4,zqD (fun y=> !inB y 0 ((s.fWays.length:Int)-1)) (fun y hy=>by unfold zg3;rw [w,zhW,Option.bind_some]) (by omega),Option.bind_some]
     by_cases h5:(s.fAt.any fun y=> !inB y 0 ((s.fWays.length:Int)-1))=true
     ·rw [if_pos h5]
      refine⟨_,rfl,by simp,fun h6=> ?_⟩
      obtain⟨y,hy,hn⟩:=List.any_eq_true.1 h5
      rw [zbo.2 (h6.2.2.2.2.2.1 y hy)]at hn
      simp at hn
     ·have hB: ∀y∈s.fAt,0≤y∧y≤(s.fWays.length:Int)-1:=fun y hy=>by
       cases hq:inB y 0 ((s.fWays.length:Int)-1)with
       |true=>exact zbo.1 hq
       |false=>exact absurd (List.any_eq_true.2 ⟨y,hy,by simp [hq]⟩) h5
      obtain⟨e0,m0⟩:=zrn (s:=s) (by omega)
      obtain⟨e1,m1⟩:=zxe (s:=s) (by omega) (by omega)
      obtain⟨x,hx,sx,x0,x3,_⟩:=zqE (hA _ m0)
      obtain⟨y,hy,sy,y0,y3,_⟩:=zqE (hA _ m1)
      rw [if_neg h5,e0,Option.bind_some,e1,Option.bind_some,zxU (hS.way _ m1) hy,Option.bind_some,zEU (hS.way _ m0) hx x0 x3 y0 y3,Option.bind_some]
      have hW:way (zeH s) (zix (fun y:zbK=>y.fName==s.fName) (zeH s).fIdxs) x.fStage y.fStage=zi6 s:=by unfold zi6 kOf;rw [sx,sy]
      rw [hW]
      obtain⟨r,er,fr⟩:=zzi (xs:=s.fWays) (ys:=zi6 s) hS.way hS.ways
      rw [er,Option.bind_some]
      exact⟨_,rfl,fun hr=>⟨by omega,by omega,hA,fr.1 hr,h2,hB,h3⟩,fun h6=>fr.2 h6.2.2.2.1⟩
   ·rw [if_pos (by simp [h3])];exact⟨_,rfl,by simp,fun h5=>absurd h5.2.2.2.2.2.2 h3⟩
  ·rw [if_neg h2];exact⟨_,rfl,by simp,fun h5=>absurd h5.2.2.2.2.1 h2⟩
 ·rw [if_neg hb];exact⟨_,rfl,by simp,fun h5=>absurd (zbo.2 ⟨by have:=h5.1;omega,by have:=h5.2.1;omega⟩) hb⟩
theorem zzn {s:zaf} (hS:zkk s) (hg:zpR s): ∃r,zhM s=some r∧zdV s=some r:=by
 obtain⟨h1,h4,hA,_,h3,hB,hR⟩:=hg
 have h3:=zbo.1 h3
 obtain⟨e0,m0⟩:=zrn (s:=s) h1
 obtain⟨x,hx,k1,k2,k3⟩:=zCT (hA _ m0)
 have hT:=zDT hR
 have hW:=hS.store
 have hst: ∀y∈s.fAt,∃tb x,zaA s.fWays y=some tb∧tb∈s.fWays∧zig tb s.fName x∧zui tb s.fName=x.fStage:=fun y hy=>by
  obtain⟨tb,q1,q2,_⟩:=zo3 (hB y hy).1 (by have:=(hB y hy).2;omega:y<s.fWays.length)
  obtain⟨x,q3,q4,_⟩:=zqE (hA tb q2)
  exact⟨tb,x,q1,q2,q3,q4⟩
 let st:List Int:=s.fAt.map fun y=>zui ((zaA s.fWays y).getD noT) s.fName
 have hn:st.length=s.fAt.length:=by simp [st]
 have hl:st.length≤2000000:=by have:=hS.at_;omega
 have n1:=zEa (s:=s) (st:=st) hn hl fun i hi=>by
  have hi':i<s.fAt.length:=by omega
  obtain⟨tb,x,q1,q2,q3,q4⟩:=hst _ (List.getElem_mem hi')
  refine⟨s.fAt[i],tb,_,x,zac hi',q1,zq2 (hS.way _ q2),q3.at_, ?_⟩
  simp only [st,List.getElem_map,q1,Option.getD_some,q4]
 have n2:=zDs (s:=s) (st:=st) hn hl fun i hi=>by
  have hi':i<s.fAt.length:=by omega
  obtain⟨tb,x,q1,q2,q3,q4⟩:=hst _ (List.getElem_mem hi')
  refine⟨tb, ?_, ?_⟩
  ·unfold zaJ
   rw [zac hi',Option.bind_some,q1,Option.bind_some]
  ·rw [zxU (hS.way _ q2) q3]
   simp only [st,List.getElem_map,q1,Option.getD_some,q4]
 unfold zhM zdV
 have S0:=hS.way _ m0
 have hnm:=hS.name
 have hask:zdA (zeH s) s.fName s.fStore=some true:=by
  rw [zBh S0 hW];unfold zDo;rw [hA _ m0,hR];rfl
 rw [e0,Option.bind_some,Option.bind_some,n1,n2,Option.bind_some,Option.bind_some,zCh S0 (by omega) hnm hx hW.1 hT hask,zBD S0 k1 hnm k3 hx hW.1 hT]
 exact⟨_,rfl,rfl⟩
end Go.Proofs.YtfkblfjloegahaaGreatDoor
end
section
namespace Go.Proofs.YtfkblfjloegahaaGreatDoor
open Go.RowKit
abbrev bl (a b:List UInt8):Bool:=Op.bytesLess a b
theorem zjt: ∀a:List UInt8,bl a a=false
 | []=>rfl
 |x::a=>by
  have h: ¬x<x:=fun h=>by have:=UInt8.lt_iff_toNat_lt.1 h;omega
  show Op.bytesLess (x::a) (x::a)=false
  simp only [Op.bytesLess,h,decide_false,Bool.false_or,beq_self_eq_true,Bool.true_and]
  exact zjt a
theorem zwV (x y:UInt8) (a b:List UInt8):bl (x::a) (y::b)=true↔x.toNat<y.toNat∨x=y∧bl a b=true:=by
 show Op.bytesLess (x::a) (y::b)=true↔_
 simp only [Op.bytesLess,Bool.or_eq_true,decide_eq_true_eq,Bool.and_eq_true,beq_iff_eq,UInt8.lt_iff_toNat_lt]
theorem zgN: ∀{a b c:List UInt8},bl a b=true→bl b c=true→bl a c=true
 | [],_, [],_,h=>by rename_i b _;cases b<;>cases h
 | [],_,_::_,_,_=>rfl
 |_::_, [],_,h,_=>by cases h
 |_::_,_::_, [],_,h=>by cases h
 |x::a,y::b,z::c,h1,h2=>by
  rw [zwV]at*
  rcases h1 with h1|⟨rfl,h1⟩<;>rcases h2 with h2|⟨rfl,h2⟩
  ·exact .inl (by omega)
  ·exact .inl h1
  ·exact .inl h2
  ·exact .inr ⟨rfl,zgN h1 h2⟩
theorem zC3: ∀a b:List UInt8,bl a b=true∨a=b∨bl b a=true
 | [], []=> .inr (.inl rfl)
 | [],_::_=> .inl rfl
 |_::_, []=> .inr (.inr rfl)
 |x::a,y::b=>by
  rw [zwV,zwV]
  rcases Nat.lt_trichotomy x.toNat y.toNat with h|h|h
  ·exact .inl (.inl h)
  ·have h0:x=y:=UInt8.toNat_inj.1 h
   subst h0
   rcases zC3 a b with h1|h1|h1
   ·exact .inl (.inr ⟨rfl,h1⟩)
   ·exact .inr (.inl (by rw [h1]))
   ·exact .inr (.inr (.inr ⟨rfl,h1⟩))
  ·exact .inr (.inr (.inl h))
theorem zp9 {a b:List UInt8} (h:bl a b=true):bl b a=false:=by
 cases h2:bl b a with
 |false=>rfl
 |true=>have:=zgN h h2;rw [zjt]at this;cases this
theorem zpM {a b:List UInt8} (h:bl a b=true):a≠b:=by
 rintro rfl;rw [zjt]at h;cases h
theorem zlS {a b:List UInt8} (h:bl a b=false) (hn:a≠b):bl b a=true:=by
 rcases zC3 a b with h1|h1|h1
 ·rw [h]at h1;cases h1
 ·exact absurd h1 hn
 ·exact h1
section
variable {α:Type} (key:α→List UInt8)
def zp6 (l:List α):Prop:=l.Pairwise fun a b=>bl (key a) (key b)=true
def zmm (x:α):List α→List α
 | []=> [x]
 |y::l=>if bl (key x) (key y)=true then x::y::l else if key x=key y then x::l else y::zmm x l
variable {key}
theorem zp6.nodupKey {l:List α} (h:zp6 key l) {a b:α} (ha:a∈l) (hb:b∈l) (e:key a=key b):a=b:=by
 induction l with
 |nil=>cases ha
 |cons y l ih=>
  have h1:=List.pairwise_cons.1 h
  rcases List.mem_cons.1 ha with q1|q1<;>rcases List.mem_cons.1 hb with q2|q2
  ·rw [q1,q2]
  ·exact absurd (q1▸e) (zpM (h1.1 _ q2))
  ·exact absurd (q2▸e.symm) (zpM (h1.1 _ q1))
  ·exact ih h1.2 q1 q2
theorem zmC {x:α}: ∀{l:List α},zp6 key l→ ∀y,y∈zmm key x l↔y=x∨y∈l∧key y≠key x
 | [],_,y=>by simp [zmm]
 |z::l,h,y=>by
  have h1:=List.pairwise_cons.1 h
  unfold zmm
  split
  ·rename_i hb
   constructor
   ·intro hy
    rcases List.mem_cons.1 hy with rfl|hy
    ·exact .inl rfl
    ·refine .inr ⟨hy, ?_⟩
     rcases List.mem_cons.1 hy with rfl|hy
     ·exact(zpM hb).symm
     ·exact(zpM (zgN hb (h1.1 _ hy))).symm
   ·rintro(rfl|⟨hy,_⟩)
    ·simp
    ·exact List.mem_cons_of_mem _ hy
  ·rename_i hb
   split
   ·rename_i he
    constructor
    ·intro hy
     rcases List.mem_cons.1 hy with rfl|hy
     ·exact .inl rfl
     ·exact .inr ⟨List.mem_cons_of_mem _ hy,fun e=>zpM (h1.1 _ hy) (by rw [e,he])⟩
    ·rintro(rfl|⟨hy,hn⟩)
     ·simp
     ·rcases List.mem_cons.1 hy with rfl|hy
      ·exact absurd he.symm hn
      ·exact List.mem_cons_of_mem _ hy
   ·rename_i he
    rw [List.mem_cons,zmC h1.2]
    constructor
    ·rintro(rfl|rfl|⟨hy,hn⟩)
     ·exact .inr ⟨by simp,fun e=>he e.symm⟩
     ·exact .inl rfl
     ·exact .inr ⟨List.mem_cons_of_mem _ hy,hn⟩
    ·rintro(rfl|⟨hy,hn⟩)
     ·exact .inr (.inl rfl)
     ·rcases List.mem_cons.1 hy with rfl|hy
      ·exact .inl rfl
      ·exact .inr (.inr ⟨hy,hn⟩)
theorem zlD {x:α}: ∀{l:List α},zp6 key l→zp6 key (zmm key x l)
 | [],_=>by simp [zmm,zp6]
 |z::l,h=>by
  have h1:=List.pairwise_cons.1 h
  unfold zmm
  split
  ·rename_i hb
   refine List.pairwise_cons.2 ⟨fun y hy=> ?_,h⟩
   rcases List.mem_cons.1 hy with rfl|hy
   ·exact hb
   ·exact zgN hb (h1.1 _ hy)
  ·rename_i hb
   split
   ·rename_i he
    exact List.pairwise_cons.2 ⟨fun y hy=>by rw [he];exact h1.1 _ hy,h1.2⟩
   ·rename_i he
    refine List.pairwise_cons.2 ⟨fun y hy=> ?_,zlD h1.2⟩
    rcases(zmC h1.2 y).1 hy with rfl|⟨hy,_⟩
    ·exact zlS (by simpa using hb) he
    ·exact h1.1 _ hy
theorem zp6.ext: ∀{a b:List α},zp6 key a→zp6 key b→(∀x,x∈a↔x∈b)→a=b
 | [], [],_,_,_=>rfl
 | [],y::b,_,_,h=>absurd ((h y).2 (by simp)) (by simp)
 |x::a, [],_,_,h=>absurd ((h x).1 (by simp)) (by simp)
 |x::a,y::b,ha,hb,h=>by
  have h1:=List.pairwise_cons.1 ha
  have h2:=List.pairwise_cons.1 hb
  have e:x=y:=by
   rcases List.mem_cons.1 ((h x).1 (by simp))with e|hx
   ·exact e
   ·rcases List.mem_cons.1 ((h y).2 (by simp))with e|hy
    ·exact e.symm
    ·have:=zgN (h1.1 _ hy) (h2.1 _ hx)
     rw [zjt]at this;cases this
  subst e
  rw [zp6.ext h1.2 h2.2 fun z=> ?_]
  constructor
  ·intro hz
   rcases List.mem_cons.1 ((h z).1 (List.mem_cons_of_mem _ hz))with rfl|hz2
   ·have:=h1.1 _ hz;rw [zjt]at this;cases this
   ·exact hz2
  ·intro hz
   rcases List.mem_cons.1 ((h z).2 (List.mem_cons_of_mem _ hz))with rfl|hz2
   ·have:=h2.1 _ hz;rw [zjt]at this;cases this
   ·exact hz2
theorem zp6.filter {l:List α} (h:zp6 key l) (p:α→Bool):zp6 key (l.filter p):=List.Pairwise.filter p h
theorem zp6.sub {a b:List α} (h:zp6 key b) (hs:a.Sublist b):zp6 key a:=List.Pairwise.sublist hs h
theorem zx1 {x:α}: ∀(l:List α),(zmm key x l).length≤l.length+1
 | []=>by simp [zmm]
 |y::l=>by
  unfold zmm
  have:=zx1 (x:=x) l
  split
  ·simp
  ·split
   ·simp
   ·simp only [List.length_cons];omega
end
end Go.Proofs.YtfkblfjloegahaaGreatDoor
end
section
namespace Go.Proofs.YtfkblfjloegahaaGreatDoor
open Go.RowKit
set_option maxRecDepth 100000
def zia {α:Type} (r:α→α→Bool):List α→Bool
 | []=>true
 | [_]=>true
 |x::y::l=>r x y&&zia r (y::l)
theorem zn4 {α:Type} {r:α→α→Bool} (ht: ∀a b c,r a b=true→r b c=true→r a c=true): ∀{l:List α},zia r l=true↔l.Pairwise fun a b=>r a b=true
 | []=>by simp [zia]
 | [_]=>by simp [zia]
 |x::y::l=>by
  rw [zia,Bool.and_eq_true,zn4 ht]
  constructor
  ·rintro⟨h1,h2⟩
   refine List.pairwise_cons.2 ⟨fun z hz=> ?_,h2⟩
   rcases List.mem_cons.1 hz with rfl|hz
   ·exact h1
   ·exact ht _ _ _ h1 ((List.pairwise_cons.1 h2).1 z hz)
  ·intro h
   have h:=List.pairwise_cons.1 h
   exact⟨h.1 y (by simp),h.2⟩
theorem zru {α:Type} {r:α→α→Bool} {l:List α} {q:Nat} (h:q+1<l.length):zia r (l.drop q)=(r l[q] l[q+1]&&zia r (l.drop (q+1))):=by
 rw [List.drop_eq_getElem_cons (show q<l.length by omega),List.drop_eq_getElem_cons h,zia]
theorem zGr {α β:Type} {xs:List α} {body:Int→Option (Int ⊕ Option β)} (p:α→Bool) (r:α→α→Bool) (b:β) (fin:Option β)
  (h0: ∀h:0<xs.length,body 0=some (if p xs[0]=true then .inl 1 else .inr (some b)))
  (hs: ∀i (h:i+1<xs.length),body ((i+1:Nat):Int)=some (if(p xs[i+1]&&r xs[i] xs[i+1])=true then .inl ((i+2:Nat):Int)else .inr (some b)))
  (he:body xs.length=some (.inr fin)):zak body 0=if(xs.all p&&zia r xs)=true then fin else some b:=by
 have key: ∀n q,q+1+n=xs.length→zak body ((q+1:Nat):Int)=if((xs.drop (q+1)).all p&&zia r (xs.drop q))=true then fin else some b:=by
  intro n
  induction n with
  |zero=>
   intro q hq
   rw [show((q+1:Nat):Int)=(xs.length:Int) by omega,zaR,he]
   have e1:xs.drop (q+1)= []:=List.drop_eq_nil_of_le (by omega)
   have e2:xs.drop q= [xs[q]]:=by rw [List.drop_eq_getElem_cons (by omega),e1]
   rw [e1,e2]
   simp [zia]
  |succ n ih=>
   intro q hq
   rw [zaR,hs q (by omega),zru (by omega),List.drop_eq_getElem_cons (show q+1<xs.length by omega),List.all_cons]
   have ih:=ih (q+1) (by omega)
   by_cases hp:(p xs[q+1]&&r xs[q] xs[q+1])=true
   ·rw [if_pos hp]
    simp only [Bool.and_eq_true]at hp
    simp only [hp.1,hp.2,Bool.true_and]
    rw [←List.drop_eq_getElem_cons (show q+1<xs.length by omega)]
    exact ih
   ·rw [if_neg hp]
    rw [if_neg]
    intro h
    simp only [Bool.and_eq_true]at h hp
    exact hp ⟨h.1.1,h.2.1⟩
 by_cases hz:0<xs.length
 ·rw [zaR,h0 hz]
  have:=key (xs.length-1) 0 (by omega)
  rw [List.drop_zero]at this
  have e:xs=xs[0]::xs.drop 1:=by rw [←List.drop_eq_getElem_cons hz,List.drop_zero]
  by_cases hp:p xs[0]=true
  ·rw [if_pos hp]
   show zak body ((0+1:Nat):Int)=_
   rw [this]
   have:xs.all p=(xs.drop 1).all p:=by rw [e,List.all_cons,hp,Bool.true_and];simp
   rw [this]
  ·rw [if_neg hp,if_neg]
   intro h
   simp only [Bool.and_eq_true,List.all_eq_true]at h
   exact hp (h.1 _ (List.getElem_mem hz))
 ·have:xs= []:=by cases xs with|nil=>rfl|cons=>simp at hz
  subst this
  rw [zaR,show(0:Int)=(([]:List α).length:Int)from rfl,he]
  simp [zia]
def ziT {α:Type} (lt:α→Bool) (l:List α):Nat:=(l.takeWhile lt).length
theorem zo8 {α:Type} (lt:α→Bool): ∀l:List α,ziT lt l≤l.length
 | []=>by simp [ziT]
 |x::l=>by
  have:=zo8 lt l
  unfold ziT at this ⊢
  rw [List.takeWhile_cons]
  split<;>simp<;>omega
theorem zwU {α:Type} {lt:α→Bool}: ∀{l:List α} {i:Nat} (h:i<ziT lt l),lt (l[i]'(Nat.lt_of_lt_of_le h (zo8 lt l)))=true
 |x::l,i,h=>by
  unfold ziT at h
  rw [List.takeWhile_cons]at h
  split at h
  ·rename_i hx
   cases i with
   |zero=>exact hx
   |succ i=>exact zwU (l:=l) (i:=i) (by unfold ziT;simpa using h)
  ·simp at h
theorem zAf {α:Type} {lt:α→Bool}: ∀{l:List α} (h:ziT lt l<l.length),lt l[ziT lt l]=false
 |x::l,h=>by
  by_cases hx:lt x=true
  ·have e:ziT lt (x::l)=ziT lt l+1:=by unfold ziT;rw [List.takeWhile_cons,if_pos hx];rfl
   have:=zAf (l:=l) (lt:=lt) (by rw [e]at h;simpa using h)
   simp only [e,List.getElem_cons_succ]
   exact this
  ·have e:ziT lt (x::l)=0:=by unfold ziT;rw [List.takeWhile_cons,if_neg hx];rfl
   simp only [e,List.getElem_cons_zero]
   simpa using hx
theorem zDF {α β:Type} {xs:List α} {body:Int × Int→Option ((Int × Int) ⊕ Option β)} {fin:Int→Option β} (lt:α→Bool) (hm: ∀i j (hj:j<xs.length) (hi:i≤j),lt xs[j]=true→lt xs[i]=true)
  (hs: ∀i j:Nat,i<j→j≤xs.length→(h:(i+j)/2<xs.length)→body ((i:Int),(j:Int))=some (.inl (if lt xs[(i+j)/2]=true then((((i+j)/2+1:Nat):Int),(j:Int))else((i:Int),(((i+j)/2:Nat):Int)))))
  (he: ∀i:Nat,i≤xs.length→body ((i:Int),(i:Int))=some (.inr (fin i))):zak body (0,(xs.length:Int))=fin (ziT lt xs):=by
 have key: ∀n i j:Nat,j-i≤n→i≤ziT lt xs→ziT lt xs≤j→j≤xs.length→zak body ((i:Int),(j:Int))=fin (ziT lt xs):=by
  intro n
  induction n with
  |zero=>
   intro i j h1 h2 h3 h4
   have:i=j:=by omega
   subst this
   have:i=ziT lt xs:=by omega
   rw [zaR,he i h4,this]
  |succ n ih=>
   intro i j h1 h2 h3 h4
   by_cases hij:i=j
   ·subst hij
    have:i=ziT lt xs:=by omega
    rw [zaR,he i h4,this]
   ·have hlt:(i+j)/2<xs.length:=by omega
    rw [zaR,hs i j (by omega) h4 hlt]
    by_cases hc:lt xs[(i+j)/2]=true
    ·rw [if_pos hc]
     refine ih _ _ (by omega) ?_ h3 h4
     by_cases hp:(i+j)/2<ziT lt xs
     ·omega
     ·have h5:ziT lt xs<xs.length:=by omega
      have:=zAf h5
      rw [hm _ _ hlt (by omega) hc]at this
      cases this
    ·rw [if_neg hc]
     refine ih _ _ (by omega) h2 ?_ (by omega)
     by_cases hp:(i+j)/2<ziT lt xs
     ·exact absurd (zwU hp) hc
     ·omega
 exact key xs.length 0 xs.length (by omega) (by omega) (zo8 lt xs) (Nat.le_refl _)
theorem zxY {α:Type} {key:α→List UInt8} {x:α}: ∀{l:List α},zp6 key l→zmm key x l=(match l[ziT (fun y=>bl (key y) (key x)) l]? with
  |some y=>if key y=key x then l.set (ziT (fun y=>bl (key y) (key x)) l) x else l.take (ziT (fun y=>bl (key y) (key x)) l)++ [x]++l.drop (ziT (fun y=>bl (key y) (key x)) l)
  |none=>l.take (ziT (fun y=>bl (key y) (key x)) l)++ [x]++l.drop (ziT (fun y=>bl (key y) (key x)) l))
 | [],_=>by simp [zmm,ziT]
 |y::l,h=>by
  have h1:=List.pairwise_cons.1 h
  unfold zmm
  by_cases hb:bl (key x) (key y)=true
  ·have e:ziT (fun z=>bl (key z) (key x)) (y::l)=0:=by unfold ziT;rw [List.takeWhile_cons,if_neg (by rw [zp9 hb];simp)];rfl
   rw [if_pos hb,e]
   simp [(zpM hb).symm]
  ·rw [if_neg hb]
   by_cases hk:key x=key y
   ·have e:ziT (fun z=>bl (key z) (key x)) (y::l)=0:=by unfold ziT;rw [List.takeWhile_cons,if_neg (by rw [hk,zjt];simp)];rfl
    rw [if_pos hk,e]
    simp [hk]
   ·have hyx:=zlS (by simpa using hb) hk
    have e:ziT (fun z=>bl (key z) (key x)) (y::l)=ziT (fun z=>bl (key z) (key x)) l+1:=by unfold ziT;rw [List.takeWhile_cons,if_pos hyx];rfl
    rw [if_neg hk,e,zxY h1.2]
    simp only [List.getElem?_cons_succ]
    split
    ·split<;>simp
    ·simp
theorem zD6 {α:Type} {key:α→List UInt8} {x:α} {l:List α} (h:zp6 key l) (p:α→Bool):(zmm key x l).filter p=if p x=true then zmm key x (l.filter p)else(l.filter p).filter fun y=>decide (key y≠key x):=by
 split
 ·rename_i hp
  refine zp6.ext ((zlD h).filter p) (zlD (h.filter p)) fun y=> ?_
  rw [List.mem_filter,zmC h,zmC (h.filter p),List.mem_filter]
  constructor
  ·rintro⟨rfl|⟨h1,h2⟩,h3⟩
   ·exact .inl rfl
   ·exact .inr ⟨⟨h1,h3⟩,h2⟩
  ·rintro(rfl|⟨⟨h1,h3⟩,h2⟩)
   ·exact⟨.inl rfl,hp⟩
   ·exact⟨.inr ⟨h1,h2⟩,h3⟩
 ·rename_i hp
  refine zp6.ext ((zlD h).filter p) ((h.filter p).filter _) fun y=> ?_
  rw [List.mem_filter,zmC h,List.mem_filter,List.mem_filter]
  simp only [decide_eq_true_eq]
  constructor
  ·rintro⟨rfl|⟨h1,h2⟩,h3⟩
   ·exact absurd h3 hp
   ·exact⟨⟨h1,h3⟩,h2⟩
  ·rintro⟨⟨h1,h3⟩,h2⟩
   exact⟨.inr ⟨h1,h2⟩,h3⟩
end Go.Proofs.YtfkblfjloegahaaGreatDoor
end
section
namespace Go.Proofs.YtfkblfjloegahaaGreatDoor
open Go.RowKit
set_option maxRecDepth 100000
theorem zE6 (s:Str):(s !=s)=false:=by simp
def zDn (a b:Str):Int:=if bl a b=true then-1 else if a=b then 0 else 1
@[simp] theorem zB8 (a:Str):zdB a=some false:=by simp [zdB]
@[simp] theorem zHD (a b:Str):zdT a b=some (zDn a b):=by
 unfold zdT zDn
 simp only [zB8,Option.bind_some,Bool.false_eq_true,if_false]
 by_cases h:bl a b=true
 ·have:Op.bytesLess a b=true:=h
  simp [this]
 ·have h1:Op.bytesLess a b=false:=by simpa using h
  by_cases he:a=b
  ·subst he;simp [h1]
  ·simp [h1,he]
def zIp (a b:Int):Int:=if a<b then-1 else if a=b then 0 else 1
theorem zDC {a b:Str}:decide (zDn a b<0)=bl a b:=by
 unfold zDn
 cases h:bl a b with
 |true=>simp
 |false=>by_cases he:a=b<;>simp [he]
theorem zEo {a b:Str}:(zDn a b==0)=decide (a=b):=by
 unfold zDn
 cases h:bl a b with
 |true=>simp [zpM h]
 |false=>by_cases he:a=b<;>simp [he]
theorem zFD {i j:Nat} (h:i≤j) (hj:j≤2000000):IntKind.i64.wrap (Int.fdiv (IntKind.u64.wrap (IntKind.i64.wrap ((i:Int)+(j:Int)))) (2^(min ((1:Int)).toNat (IntKind.bits .u64))))=(((i+j)/2:Nat):Int):=by
 have e1:IntKind.i64.wrap ((i:Int)+(j:Int))=((i+j:Nat):Int):=by rw [zaC (by omega) (by omega)];simp
 have e2:IntKind.u64.wrap ((i+j:Nat):Int)=((i+j:Nat):Int):=by
  simp only [IntKind.wrap,IntKind.bits,IntKind.signed]
  simp
  omega
 have e3:(2:Int)^(min ((1:Int)).toNat (IntKind.bits .u64))=((2:Nat):Int):=rfl
 rw [e1,e2,e3,Int.fdiv_eq_ediv_of_nonneg _ (by omega),←Int.natCast_ediv,zaC (by omega) (by omega)]
theorem zEN {i:Nat} (h:i≤2000000):IntKind.i64.wrap ((i:Int)+1)=((i+1:Nat):Int):=by rw [zaC (by omega) (by omega)];simp
abbrev zlT (l:List zaa):Prop:=zp6 (fun w:zaa=>w.fKey) l
abbrev ziU (l:List zaa) (k:Str):Nat:=ziT (fun w:zaa=>bl w.fKey k) l
theorem zFO {l:List zaa} {k:Str} (hl:l.length≤2000000) (hr:zlT l):zck l k=some (((ziU l k:Nat):Int),(match l[ziU l k]? with|some w=>decide (w.fKey=k)|none=>false)):=by
 unfold zck zay
 have hc: ∀w:zaa,zcV w k=some (zDn w.fKey k):=fun w=>by simp [zcV]
 have h:=zDF (xs:=l) (body:=fun s:Int × Int=>zai l k (fun y0_ y1_=>zcV y0_ y1_) s.1 s.2) (fin:=fun i=>zav l k (fun y0_ y1_=>zcV y0_ y1_) i) (fun w:zaa=>bl w.fKey k)
  (fun i j hj hi h=>by
   rcases Nat.lt_or_ge i j with hij|hij
   ·exact zgN ((List.pairwise_iff_getElem.1 hr) i j (by omega) hj hij) h
   ·have:i=j:=by omega
    subst this;exact h)
  (fun i j hij hj hmid=>by
   show zai l k _ (i:Int) (j:Int)=_
   unfold zai
   rw [if_pos (by simpa using hij),zFD (by omega) (by omega),zac hmid,Option.bind_some]
   simp only [hc,Option.bind_some,zDC,zEN (show(i+j)/2≤2000000 by omega)]
   cases bl l[(i+j)/2].fKey k<;>rfl)
  (fun i hi=>by
   show zai l k _ (i:Int) (i:Int)=_
   unfold zai
   rw [if_neg (by simp)])
 rw [h]
 unfold zav
 show Option.bind (if decide (((ziU l k:Nat):Int)<l.length)=true then _ else _) _=_
 by_cases hp:ziU l k<l.length
 ·rw [if_pos (by simpa using hp),zac hp,Option.bind_some]
  simp only [hc,Option.bind_some,zEo,List.getElem?_eq_getElem hp]
 ·rw [if_neg (by simpa using hp),List.getElem?_eq_none (by omega)]
  rfl
theorem zo1 {l:List zaa} {w:zaa} (hl:l.length≤2000000) (hr:zlT l):zdE l w=some (zmm (fun w:zaa=>w.fKey) w l):=by
 unfold zdE
 rw [zFO hl hr,Option.bind_some,zxY hr]
 show(if(match l[ziU l w.fKey]? with|some w'=>decide (w'.fKey=w.fKey)|none=>false)=true then _ else _)=_
 have hle:ziU l w.fKey≤l.length:=zo8 _ _
 have hI:zqd l ((ziU l w.fKey:Nat):Int) [w]=some (l.take (ziU l w.fKey)++ [w]++l.drop (ziU l w.fKey)):=zae ⟨by omega,by omega,by simp,by simp only [List.length_singleton];omega⟩
 by_cases hp:ziU l w.fKey<l.length
 ·rw [List.getElem?_eq_getElem hp]
  by_cases hk:(l[ziU l w.fKey]).fKey=w.fKey
  ·simp only [hk,decide_true,if_true,zac hp,Option.bind_some]
   rfl
  ·simp only [hk,decide_false,Bool.false_eq_true,if_false]
   rw [hI];rfl
 ·rw [List.getElem?_eq_none (by omega)]
  simp only [Bool.false_eq_true,if_false]
  rw [hI];rfl
theorem znu (ks:List Str):zm0 ks=zia bl ks:=by
 have key: ∀n q,q+n+1=ks.length→(List.range' (q+1) n).all (zf6 ks)=zia bl (ks.drop q):=by
  intro n
  induction n with
  |zero=>
   intro q hq
   rw [List.drop_eq_getElem_cons (show q<ks.length by omega),List.drop_eq_nil_of_le (show ks.length≤q+1 by omega)]
   rfl
  |succ n ih=>
   intro q hq
   rw [List.range'_succ,List.all_cons,ih (q+1) (by omega),zru (show q+1<ks.length by omega)]
   congr 1
   unfold zf6
   have hb:(q+1==0)=false:=rfl
   rw [hb,Bool.false_or,Nat.add_sub_cancel,List.getElem?_eq_getElem (show q<ks.length by omega),List.getElem?_eq_getElem (show q+1<ks.length by omega)]
   rfl
 cases ks with
 |nil=>rfl
 |cons k l=>
  unfold zm0
  rw [List.length_cons,List.range_eq_range',List.range'_succ,List.all_cons]
  have:=key l.length 0 (by simp)
  rw [List.drop_zero]at this
  rw [Nat.zero_add]at this
  rw [show 0+1=1 from rfl,this]
  rfl
theorem zms {α β:Type} (f:α→β) (r:β→β→Bool): ∀l:List α,zia r (l.map f)=zia (fun a b=>r (f a) (f b)) l
 | []=>rfl
 | [_]=>rfl
 |x::y::l=>by
  have:=zms f r (y::l)
  simp only [List.map_cons,zia]at this ⊢
  rw [this]
theorem zqB {l:List zaa} (h:zed l=true):zlT l:=by
 unfold zed at h
 simp only [Bool.and_eq_true]at h
 have h1:=h.2.2
 rw [znu,zms]at h1
 exact(zn4 (r:=fun a b:zaa=>bl a.fKey b.fKey) fun a b c p q=>zgN p q).1 h1
end Go.Proofs.YtfkblfjloegahaaGreatDoor
end
section
namespace Go.Proofs.YtfkblfjloegahaaGreatDoor
open Go.RowKit
set_option maxRecDepth 100000
theorem zBS {t:zab} (h:zau t=true):zp6 (fun x:zbK=>x.fName) t.fIdxs:=by
 unfold zau at h
 simp only [Bool.and_eq_true]at h
 have h1:=h.2
 have h2:zm0 (t.fIdxs.map (·.fName))=true:=by
  unfold zm0
  rw [List.length_map,List.all_eq_true]
  intro i hi
  have h3:=List.all_eq_true.1 h1 i hi
  unfold zox at h3
  simp only [Bool.and_eq_true]at h3
  have hi':i<t.fIdxs.length:=List.mem_range.1 hi
  have e: ∀j:Nat,(((t.fIdxs.map (·.fName))[j]?).getD [])=((t.fIdxs[j]?).getD ⟨[],0,0⟩).fName:=by
   intro j
   rw [List.getElem?_map]
   cases t.fIdxs[j]?<;>rfl
  unfold zf6
  rw [e,e]
  exact h3.2
 rw [znu,zms]at h2
 exact(zn4 (r:=fun a b:zbK=>bl a.fName b.fName) fun a b c p q=>zgN p q).1 h2
theorem zxk {t:zab} {x:zbK} (h:zau t=true) (hx:x∈t.fIdxs):zig t x.fName x:=by
 have h1:zix (fun y:zbK=>y.fName==x.fName) t.fIdxs≥0:=by
  have:=zmg (fun y:zbK=>y.fName==x.fName) t.fIdxs
  rw [show(t.fIdxs.any fun y=>y.fName==x.fName)=true from List.any_eq_true.2 ⟨x,hx,by simp⟩]at this
  exact of_decide_eq_true this
 obtain⟨y,h2,h3,h4⟩:=zxc h1
 have h5:y=x:=(zBS h).nodupKey h4 hx (by simpa using h3)
 subst h5
 have h6:=zbo.1 (ztY h hx).2
 exact⟨h2,rfl,h6.1,h6.2⟩
theorem zkO {t:zab} (h:zau t=true):2≤t.fCols.length∧t.fCols.length≤4∧t.fIdxs.length≤3:=by
 unfold zau at h
 simp only [Bool.and_eq_true,decide_eq_true_eq]at h
 have h1:=zbo.1 h.1.1.2.2
 have h2:=h.1.2
 omega
theorem zpg {t:zab} {r:zdC} (hs:Small r.fVals) (h:zbD t r=true):zuS t r:=by
 unfold zbD at h
 simp only [Bool.and_eq_true,beq_iff_eq]at h
 exact⟨by have:=h.1;omega,hs⟩
theorem ztT {t:zab} {r:zdC} (hc:1≤t.fCols.length) (h:zuS t r):zaA r.fVals 0=some (zkr r 0):=(zqK h (by omega) (by omega)).1
theorem zro {t:zab} {r:zdC} (hc:1≤t.fCols.length) (h:zuS t r):r.fVals≠ []:=by
 intro e
 have:=h.len
 rw [e]at this
 simp at this
 omega
def zle (a:zat):Prop:=Small a.fOld.fVals∧Small a.fNew.fVals
def zjC (t:zab) (a:zat):Bool:=
 if a.fKind=1 then(a.fOld.fVals.length:Int)==0&&zbD t a.fNew else
 if a.fKind=2 then zbD t a.fOld&&(a.fNew.fVals.length:Int)==0 else
 if a.fKind=3 then zbD t a.fOld&&(zbD t a.fNew&&zkr a.fOld 0==zkr a.fNew 0)else false
theorem zs6 {t:zab} {a:zat} (hc:1≤t.fCols.length) (h:zle a):zfZ t a=some (zjC t a):=by
 unfold zfZ zjC
 by_cases h1:a.fKind=1
 ·rw [if_pos (by simpa using h1),if_pos h1,zkE h.2,Option.bind_some]
  cases((a.fOld.fVals.length:Int)==0)<;>simp
 rw [if_neg (by simpa using h1),if_neg h1]
 by_cases h2:a.fKind=2
 ·rw [if_pos (by simpa using h2),if_pos h2,zkE h.1,Option.bind_some]
  cases((a.fNew.fVals.length:Int)==0)<;>simp
 rw [if_neg (by simpa using h2),if_neg h2]
 by_cases h3:a.fKind=3
 ·rw [if_pos (by simpa using h3),if_pos h3,zkE h.1,zkE h.2,Option.bind_some,Option.bind_some]
  cases e1:zbD t a.fOld with
  |false=>simp
  |true=>
   cases e2:zbD t a.fNew with
   |false=>simp
   |true=>simp [ztT hc (zpg h.1 e1),ztT hc (zpg h.2 e2)]
 rw [if_neg (by simpa using h3),if_neg h3]
theorem zx6 {t:zab} {a:zat} (hc:1≤t.fCols.length) (h:zle a):zdg t a=some (zjC t a):=by
 unfold zdg zjC
 by_cases h1:a.fKind=1
 ·rw [if_pos (by simpa using h1),if_pos h1,zko h.2,Option.bind_some]
  cases((a.fOld.fVals.length:Int)==0)<;>simp
 rw [if_neg (by simpa using h1),if_neg h1]
 by_cases h2:a.fKind=2
 ·rw [if_pos (by simpa using h2),if_pos h2,zko h.1,Option.bind_some]
 rw [if_neg (by simpa using h2),if_neg h2]
 by_cases h3:a.fKind=3
 ·rw [if_pos (by simpa using h3),if_pos h3,zko h.1,zko h.2,Option.bind_some,Option.bind_some]
  cases e1:zbD t a.fOld with
  |false=>simp
  |true=>
   cases e2:zbD t a.fNew with
   |false=>simp
   |true=>simp [ztT hc (zpg h.1 e1),ztT hc (zpg h.2 e2)]
 rw [if_neg (by simpa using h3),if_neg h3]
structure zAO (t:zab) (a:zat):Prop where
 old:a.fKind≠1→zuS t a.fOld
 new:a.fKind≠2→zuS t a.fNew
 kind:a.fKind=1∨a.fKind=2∨a.fKind=3
 same:a.fKind=3→zkr a.fOld 0=zkr a.fNew 0
theorem zFg {t:zab} {a:zat} (h:zle a) (hg:zjC t a=true):zAO t a:=by
 unfold zjC at hg
 by_cases h1:a.fKind=1
 ·rw [if_pos h1,Bool.and_eq_true]at hg
  exact⟨fun k=>absurd h1 k,fun _=>zpg h.2 hg.2, .inl h1,fun k=>by omega⟩
 rw [if_neg h1]at hg
 by_cases h2:a.fKind=2
 ·rw [if_pos h2,Bool.and_eq_true]at hg
  exact⟨fun _=>zpg h.1 hg.1,fun k=>absurd h2 k, .inr (.inl h2),fun k=>by omega⟩
 rw [if_neg h2]at hg
 by_cases h3:a.fKind=3
 ·rw [if_pos h3,Bool.and_eq_true,Bool.and_eq_true,beq_iff_eq]at hg
  exact⟨fun _=>zpg h.1 hg.1,fun _=>zpg h.2 hg.2.1, .inr (.inr h3),fun _=>hg.2.2⟩
 rw [if_neg h3]at hg
 cases hg
def zCv (t:zab) (a:zat) (x:zbK):Str:=if a.fKind=1 then []else zlw t x.fName x.fCol a.fOld
def zA1 (t:zab) (a:zat) (x:zbK):Str:=if a.fKind=2 then []else zlw t x.fName x.fCol a.fNew
def zpl (k n:Str) (x:zbK):List DOp:=if k≠ []∧k≠n∧x.fStage≥1 then [⟨3,k, [],0⟩]else []
def zsh (n:Str) (x:zbK):List DOp:=if n≠ []∧x.fStage≥2 then [⟨2,n, [],0⟩]else []
def zph (t:zab) (a:zat) (x:zbK):List DOp:=zpl (zCv t a x) (zA1 t a x) x++zsh (zA1 t a x) x
def zk9 (t:zab) (a:zat):List DOp:=
 if a.fKind=1 then [⟨6,(zlp t a.fNew).fKey, [],0⟩,⟨2,(zlp t a.fNew).fKey,(zlp t a.fNew).fVal,0⟩]else
 if a.fKind=2 then [⟨7,(zlp t a.fOld).fKey,(zlp t a.fOld).fVal,0⟩,⟨3,(zlp t a.fOld).fKey, [],0⟩]else
 [⟨7,(zlp t a.fOld).fKey,(zlp t a.fOld).fVal,0⟩,⟨2,(zlp t a.fOld).fKey,(zlp t a.fNew).fVal,0⟩]
def ztS (t:zab) (a:zat):List DOp:=t.fIdxs.foldl (fun o x=>o++zph t a x) (zk9 t a)
theorem zB9 (k n:Str) (x:zbK):(zpl k n x).length≤1:=by unfold zpl;split<;>simp
theorem zDP (n:Str) (x:zbK):(zsh n x).length≤1:=by unfold zsh;split<;>simp
theorem zpa (t:zab) (a:zat) (x:zbK):(zph t a x).length≤2:=by
 unfold zph
 have:=zB9 (zCv t a x) (zA1 t a x) x
 have:=zDP (zA1 t a x) x
 rw [List.length_append];omega
theorem zno (t:zab) (a:zat):(zk9 t a).length=2:=by unfold zk9;split<;>(try split)<;>rfl
theorem ztD {o p:List DOp} (h:o.length≤5000000) (hn:p.length≤5000000):((o.length:Int)+(p.length:Int))*48≤140737488355328∧(o.length:Int)+(p.length:Int)≤140737488355328:=by omega
theorem zAA {t:zab} {a:zat} {x:zbK} (ht:t.fName.length≤2000000) (hn:x.fName.length≤2000000) (hx:zig t x.fName x) (ha:zAO t a):zgP t x a=some (zph t a x):=by
 have e1:zgP t x a=zgb t x a (zCv t a x):=by
  unfold zgP zCv
  by_cases h1:a.fKind=1
  ·rw [if_neg (by simp [h1]),if_pos h1];rfl
  ·rw [if_pos (by simpa using h1),if_neg h1,zul ht hn hx (ha.old h1)];rfl
 have e2: ∀k,zgb t x a k=zeQ x k (zA1 t a x):=by
  intro k
  unfold zgb zA1
  by_cases h1:a.fKind=2
  ·rw [if_neg (by simp [h1]),if_pos h1]
  ·rw [if_pos (by simpa using h1),if_neg h1,zul ht hn hx (ha.new h1)];rfl
 have e3: ∀(n:Str) (o:List DOp),o.length≤5→zgd x n o=some (o++zsh n x):=by
  intro n o ho
  unfold zgd zsh
  by_cases h1:n≠ []∧x.fStage≥2
  ·rw [if_pos (by simpa using h1),if_pos h1,zae (ztD (by omega) (by simp))]
  ·rw [if_neg (by simpa using h1),if_neg h1,List.append_nil]
 have e4: ∀(k n:Str),zeQ x k n=some (zpl k n x++zsh n x):=by
  intro k n
  unfold zeQ zpl
  by_cases h1:k≠ []∧k≠n∧x.fStage≥1
  ·rw [if_pos (by simpa [and_assoc]using h1),if_pos h1,zae (ztD (by simp) (by simp)),e3 _ _ (by simp)]
  ·rw [if_neg (by simpa [and_assoc]using h1),if_neg h1,e3 _ _ (by simp)]
 rw [e1,e2,e4];rfl
theorem zyh {t:zab} {a:zat} (hc:1≤t.fCols.length) (ht:t.fName.length≤2000000) (ha:zAO t a):zhU t a=some (zk9 t a):=by
 unfold zhU zk9
 by_cases h1:a.fKind=1
 ·have hr:=ha.new (by omega)
  rw [if_pos (by simpa using h1),if_pos h1,zuJ ht hr.small (zro hc hr)];rfl
 have hr:=ha.old h1
 rw [if_neg (by simpa using h1),if_neg h1,zuJ ht hr.small (zro hc hr),Option.bind_some]
 by_cases h2:a.fKind=2
 ·rw [if_pos (by simpa using h2),if_pos h2]
 have hr:=ha.new h2
 rw [if_neg (by simpa using h2),if_neg h2,zuJ ht hr.small (zro hc hr)];rfl
theorem zFA {t:zab} {a:zat} (hS:zc9 t) (hg:zau t=true) (ha:zAO t a):zi7 t a=some (ztS t a):=by
 have hc:=zkO hg
 unfold zi7
 rw [zyh (by omega) hS.name ha,Option.bind_some]
 have hl:=zno t a
 exact(zb0 (xs:=t.fIdxs) (body:=fun s:Int × List DOp=>zdN t a s.1 s.2) (fun i (o:List DOp)=>(i,o)) (fun o x=>o++zph t a x) (fun o=>some o) (fun i o=>o.length≤2+2*i)
  (fun i hi o hI=>by
   have hI:o.length≤2+2*i:=hI
   have hw:=zaE hi (by omega)
   have hk:=zpa t a t.fIdxs[i]
   have hm:=List.getElem_mem hi
   refine⟨?_,by show List.length _≤_;rw [List.length_append];omega⟩
   show zdN t a i o=_
   unfold zdN
   rw [if_pos (by simpa using hi),zac hi,Option.bind_some,zAA hS.name (hS.idx _ hm) (zxk hg hm) ha,Option.bind_some,zae (ztD (by omega) (by omega)),hw])
  (fun o _=>by
   show zdN t a t.fIdxs.length o=_
   unfold zdN
   rw [if_neg (by simp)]) (s:=zk9 t a) (by omega)).1
theorem zwc {k:Int} {w:zaa} {o:List DOp} (h:o.length≤5000000):zax k w o=some ((),o++ [⟨k,w.fKey,w.fVal,0⟩]):=by
 unfold zax
 rw [zae (ztD h (by simp))]
theorem zE5 {t:zab} {a:zat} (hS:zc9 t) (hg:zau t=true) (ha:zAO t a):zdY t a=some (ztS t a):=by
 have hc:=zkO hg
 have hl:=zno t a
 have h7: ∀(i:Int) (x:zbK) (n:Str) (o:List DOp),o.length≤100→zbn i x n o=some (.inl (IntKind.i64.wrap (i+1),o++zsh n x)):=by
  intro i x n o ho
  unfold zbn zsh zj1
  by_cases h1:n= []
  ·rw [if_neg (by simp [h1]),if_neg (by simp [h1]),List.append_nil]
  rw [if_pos (by simpa using h1),Option.bind_some]
  by_cases h2:x.fStage≥2
  ·rw [if_pos (by simpa using h2),if_pos ⟨h1,h2⟩,zwc (by omega)];rfl
  ·rw [if_neg (by simpa using h2),if_neg (fun h=>h2 h.2),List.append_nil]
 have h6: ∀(i:Int) (x:zbK) (k n:Str) (o:List DOp),o.length≤99→zaZ i o x k n=some (.inl (IntKind.i64.wrap (i+1),o++(zpl k n x++zsh n x))):=by
  intro i x k n o ho
  unfold zaZ zpl zkd
  by_cases h1:k= []
  ·rw [if_neg (by simp [h1]),if_neg (by simp [h1]),h7 _ _ _ _ (by omega)];rfl
  rw [if_pos (by simpa using h1)]
  by_cases h2:k=n
  ·rw [if_neg (by simp [h2]),if_neg (by simp [h2]),h7 _ _ _ _ (by omega)];rfl
  rw [if_pos (by simpa using h2),Option.bind_some]
  by_cases h3:x.fStage≥1
  ·rw [if_pos (by simpa using h3),if_pos ⟨h1,h2,h3⟩,zwc (by omega),Option.bind_some,h7 _ _ _ _ (by rw [List.length_append,List.length_singleton];omega),List.append_assoc]
  ·rw [if_neg (by simpa using h3),if_neg (fun h=>h3 h.2.2),h7 _ _ _ _ (by omega)];rfl
 have hloop: ∀o:List DOp,o.length=2→zbm t a o=some (t.fIdxs.foldl (fun o x=>o++zph t a x) o):=by
  intro o ho
  unfold zbm
  exact(zb0 (xs:=t.fIdxs) (body:=fun s:Int × List DOp=>zbl t a s.1 s.2) (fun i (o:List DOp)=>(i,o)) (fun o x=>o++zph t a x) (fun o=>some o) (fun i o=>o.length≤2+2*i)
   (fun i hi o hI=>by
    have hI:o.length≤2+2*i:=hI
    have hw:=zaE hi (by omega)
    have hk:=zpa t a t.fIdxs[i]
    have hm:=List.getElem_mem hi
    have hx:=zxk hg hm
    refine⟨?_,by show List.length _≤_;rw [List.length_append];omega⟩
    show zbl t a i o=_
    unfold zbl
    rw [if_pos (by simpa using hi),zac hi,Option.bind_some]
    have e1:(if(a.fKind !=1)=true then(za6 t t.fIdxs[i].fName a.fOld).bind fun v20=>some (Sum.inl v20)else some (Sum.inl ([]:List UInt8)):Option (List UInt8 ⊕ Option ((Int × List DOp) ⊕ Option (List DOp))))=some (.inl (zCv t a t.fIdxs[i])):=by
     unfold zCv
     by_cases h1:a.fKind=1
     ·rw [if_neg (by simp [h1]),if_pos h1]
     ·rw [if_pos (by simpa using h1),if_neg h1,zuu hS (hS.idx _ hm) hx (ha.old h1)];rfl
    rw [e1]
    show zet t a i o t.fIdxs[i] (zCv t a t.fIdxs[i])=_
    unfold zet
    have e2: ∀k,(if(a.fKind !=2)=true then(za6 t t.fIdxs[i].fName a.fNew).bind fun v19=>zaZ i o t.fIdxs[i] k v19 else zaZ i o t.fIdxs[i] k ([]:List UInt8))=zaZ i o t.fIdxs[i] k (zA1 t a t.fIdxs[i]):=by
     intro k
     unfold zA1
     by_cases h1:a.fKind=2
     ·rw [if_neg (by simp [h1]),if_pos h1]
     ·rw [if_pos (by simpa using h1),if_neg h1,zuu hS (hS.idx _ hm) hx (ha.new h1)];rfl
    rw [e2,h6 _ _ _ _ _ (by omega),hw]
    rfl)
   (fun o _=>by
    show zbl t a t.fIdxs.length o=_
    unfold zbl
    rw [if_neg (by simp)]) (s:=o) (by omega)).1
 have hn:t.fName.length≤2000000:=hS.name
 unfold zdY ztS zk9
 rcases ha.kind with h1|h1|h1
 ·have hr:=ha.new (by omega)
  rw [if_neg (by simp [h1]),if_pos h1]
  show zaY t a [] [] false []=_
  unfold zaY
  rw [if_pos (by simp [h1]),zqJ hn hr.small (zro (by omega) hr),Option.bind_some]
  unfold zb2
  rw [if_pos (by simp [h1]),zwc (by simp),Option.bind_some,zwc (by simp),Option.bind_some,hloop _ (by simp)]
  rfl
 ·have hr:=ha.old (by omega)
  rw [if_pos (by simp [h1]),if_neg (by omega),if_pos h1,zqJ hn hr.small (zro (by omega) hr),Option.bind_some,zwc (by simp),Option.bind_some]
  show zaY t a (zlp t a.fOld).fKey (zlp t a.fOld).fVal (zlp t a.fOld).fGone _=_
  unfold zaY
  rw [if_neg (by simp [h1])]
  unfold zb2
  rw [if_neg (by simp [h1]),if_pos (by simp [h1]),zwc (by simp),Option.bind_some,hloop _ (by simp)]
  rfl
 ·have hr:=ha.old (by omega)
  have hr2:=ha.new (by omega)
  have hk:(zlp t a.fOld).fKey=(zlp t a.fNew).fKey:=by
   have:=ha.same h1
   unfold zkr at this
   unfold zlp
   rw [List.head?_eq_getElem?,List.head?_eq_getElem?]
   exact congrArg (fun z=>t.fName++ [47]++z) this
  rw [if_pos (by simp [h1]),if_neg (by omega),if_neg (by omega),zqJ hn hr.small (zro (by omega) hr),Option.bind_some,zwc (by simp),Option.bind_some]
  show zaY t a (zlp t a.fOld).fKey (zlp t a.fOld).fVal (zlp t a.fOld).fGone _=_
  unfold zaY
  rw [if_pos (by simp [h1]),zqJ hn hr2.small (zro (by omega) hr2),Option.bind_some]
  unfold zb2
  rw [if_neg (by simp [h1]),if_neg (by simp [h1]),if_pos (by simp [h1]),zwc (by simp),Option.bind_some,hloop _ (by simp),hk]
  rfl
end Go.Proofs.YtfkblfjloegahaaGreatDoor
end
section
namespace Go.Proofs.YtfkblfjloegahaaGreatDoor
open Go.RowKit
set_option maxRecDepth 100000
abbrev wk (w:zaa):Str:=w.fKey
theorem zoi {α β:Type} {xs:List α} {body:Int→Option (Int ⊕ Option β)} (p:α→Bool) (hit:α→Option β) (fin:Option β)
  (hs: ∀(i:Nat) (hi:i<xs.length),body i=some (if p xs[i]=true then .inr (hit xs[i])else .inl ((i+1:Nat):Int))) (he:body xs.length=some (.inr fin)):
  zak body 0=match xs.find? p with|some x=>hit x|none=>fin:=by
 have key: ∀n q,q+n=xs.length→zak body (q:Nat)=match(xs.drop q).find? p with|some x=>hit x|none=>fin:=by
  intro n
  induction n with
  |zero=>
   intro q hq
   have:q=xs.length:=by omega
   subst this
   rw [List.drop_length]
   exact zcq he
  |succ n ih=>
   intro q hq
   have hlt:q<xs.length:=by omega
   rw [List.drop_eq_getElem_cons hlt,List.find?_cons]
   have h1:=hs q hlt
   cases hp:p xs[q]with
   |true=>
    rw [hp,if_pos rfl]at h1
    exact zcq h1
   |false=>
    rw [hp,if_neg (by simp)]at h1
    rw [zc8 h1]
    exact ih (q+1) (by omega)
 have:=key xs.length 0 (by omega)
 rw [List.drop_zero]at this
 exact this
def zyE (got:List zhm) (k:Str):Str × Bool × Bool:=match got.find? (fun g=>g.fKey==k)with|some g=>(g.fVal,g.fThere,true)|none=>([],false,false)
def zdI (ws:List zaa) (got:List zhm) (k:Str):Str × Bool × Bool:=match ws.find? (fun w=>w.fKey==k)with|some w=>(w.fVal, !w.fGone,true)|none=>zyE got k
def zkB (rows:List zaa) (k:Str):zhm:=match rows.find? (fun w=>w.fKey==k)with|some w=>⟨k,w.fVal,true⟩|none=>⟨k, [],false⟩
theorem zqT {ws:List zaa} {got:List zhm} {k:Str} (hw:ws.length≤2000000) (hg:got.length≤2000000):zgT ws got k=some (zdI ws got k):=by
 have h2:zfn got k=some (zyE got k):=by
  unfold zfn zyE
  rw [zoi (xs:=got) (body:=fun s:Int=>zcW got k s) (fun g=>g.fKey==k) (fun g=>some (g.fVal,g.fThere,true)) (some ([],false,false)) (fun i hi=>by
   show zcW got k i=_
   unfold zcW
   rw [if_pos (by simpa using hi),zac hi,Option.bind_some,zaE hi (by omega)]
   split<;>rfl) (by
   show zcW got k got.length=_
   unfold zcW
   rw [if_neg (by simp)])]
  cases got.find? (fun g=>g.fKey==k)<;>rfl
 unfold zgT zdI
 rw [zoi (xs:=ws) (body:=fun s:Int=>zcO ws got k s) (fun w=>w.fKey==k) (fun w=>some (w.fVal, !w.fGone,true)) (zfn got k) (fun i hi=>by
  show zcO ws got k i=_
  unfold zcO
  rw [if_pos (by simpa using hi),zac hi,Option.bind_some,zaE hi (by omega)]
  split<;>rfl) (by
  show zcO ws got k ws.length=_
  unfold zcO
  rw [if_neg (by simp)]),h2]
 cases ws.find? (fun w=>w.fKey==k)<;>rfl
theorem zDq {rows:List zaa} {k:Str} (hw:rows.length≤2000000):zi5 rows k=some (zkB rows k):=by
 unfold zi5 zkB
 rw [zoi (xs:=rows) (body:=fun s:Int=>zdM rows k s) (fun w=>w.fKey==k) (fun w=>some ⟨k,w.fVal,true⟩) (zlc k) (fun i hi=>by
  show zdM rows k i=_
  unfold zdM
  rw [if_pos (by simpa using hi),zac hi,Option.bind_some,zaE hi (by omega)]
  split<;>rfl) (by
  show zdM rows k rows.length=_
  unfold zdM
  rw [if_neg (by simp)])]
 cases rows.find? (fun w=>w.fKey==k)<;>rfl
theorem znX {α:Type} (lt:α→Bool) (x:α) (l:List α):ziT lt (x::l)=if lt x=true then ziT lt l+1 else 0:=by
 unfold ziT
 rw [List.takeWhile_cons]
 split<;>rfl
theorem zqm {x:zaa} {l:List zaa} (h:zlT (x::l)):(∀y∈l,bl x.fKey y.fKey=true)∧zlT l:=by
 unfold zlT zp6 at h
 rw [List.pairwise_cons]at h
 exact h
theorem zz9 {l:List zaa} {k:Str} (h: ∀y∈l,bl k y.fKey=true):l.find? (fun w=>w.fKey==k)=none:=by
 rw [List.find?_eq_none]
 intro y hy
 have:=zpM (h y hy)
 simpa using fun e=>this e.symm
theorem zsV {k:Str}: ∀{l:List zaa},zlT l→l.find? (fun w=>w.fKey==k)=match l[ziU l k]? with|some w=>if w.fKey=k then some w else none|none=>none
 | [],_=>by simp
 |x::l,h=>by
  obtain⟨h1,h2⟩:=zqm h
  have ih:=zsV (k:=k) h2
  rw [ziU,znX,List.find?_cons]
  by_cases hb:bl x.fKey k=true
  ·have hne:(x.fKey==k)=false:=by simpa using zpM hb
   rw [if_pos hb,hne,List.getElem?_cons_succ]
   exact ih
  ·rw [if_neg hb,List.getElem?_cons_zero]
   by_cases he:x.fKey=k
   ·rw [show(x.fKey==k)=true by simpa using he];simp [he]
   ·rw [show(x.fKey==k)=false by simpa using he]
    simp only [he,if_false]
    have hk:bl k x.fKey=true:=zlS (by simpa using hb) he
    exact zz9 fun y hy=>zgN hk (h1 y hy)
theorem zAm {l:List zaa} {k:Str} (hl:l.length≤2000000) (hr:zlT l): ∃i:Int,(zck l k=some (i,true)∧ ∃w,zaA l i=some w∧l.find? (fun w=>w.fKey==k)=some w)∨(zck l k=some (i,false)∧l.find? (fun w=>w.fKey==k)=none):=by
 refine⟨(ziU l k:Nat), ?_⟩
 rw [zFO hl hr,zsV hr]
 by_cases hp:ziU l k<l.length
 ·rw [List.getElem?_eq_getElem hp]
  by_cases hk:(l[ziU l k]).fKey=k
  ·left
   simp only [hk,decide_true,if_true]
   exact⟨trivial,_,zac hp,rfl⟩
  ·right
   simp only [hk,decide_false,if_false]
   exact⟨trivial,trivial⟩
 ·rw [List.getElem?_eq_none (by omega)]
  right
  exact⟨rfl,rfl⟩
theorem zyb {ws:List zaa} {got:List zhm} {k:Str} (hw:ws.length≤2000000) (hg:got.length≤2000000) (hr:zlT ws):zhO k ws got=some (zdI ws got k):=by
 unfold zhO zdI
 obtain⟨i,⟨e,w,e2,e3⟩|⟨e,e3⟩⟩:=zAm (k:=k) hw hr
 ·rw [e,e3,Option.bind_some,if_pos rfl,e2];rfl
 ·rw [e,e3,Option.bind_some,if_neg (by simp)]
  unfold zyE
  rw [zoi (xs:=got) (body:=fun s:Int=>zdt k got s) (fun g=>g.fKey==k) (fun g=>some (g.fVal,g.fThere,true)) (some ([],false,false)) (fun i hi=>by
   show zdt k got i=_
   unfold zdt
   rw [if_pos (by simpa using hi),zac hi,Option.bind_some,zaE hi (by omega)]
   split<;>rfl) (by
   show zdt k got got.length=_
   unfold zdt
   rw [if_neg (by simp)])]
  cases got.find? (fun g=>g.fKey==k)<;>rfl
theorem zBn {rows:List zaa} {k:Str} (hw:rows.length≤2000000) (hr:zlT rows):zjU rows k=some (zkB rows k):=by
 unfold zjU zkB
 obtain⟨i,⟨e,w,e2,e3⟩|⟨e,e3⟩⟩:=zAm (k:=k) hw hr
 ·rw [e,e3,Option.bind_some,if_neg (by simp),e2];rfl
 ·rw [e,e3,Option.bind_some,if_pos (by simp)]
def leW (k:Str) (w:zaa):Bool:=bl w.fKey k||w.fKey==k
def zCG (l:List zaa) (w:zaa) (q:Nat):List zaa:=
 match(if q=0 then none else l[q-1]?)with
 |some y=>if y.fKey=w.fKey then l.set (q-1) w else l.take q++ [w]++l.drop q
 |none=>l.take q++ [w]++l.drop q
theorem zzb {w:Str} {l:List zaa} (h: ∀y∈l,bl w y.fKey=true):ziT (leW w) l=0:=by
 cases l with
 |nil=>rfl
 |cons y l=>
  rw [znX,if_neg]
  have h1:=h y (by simp)
  have h2:=zp9 h1
  have h3:=zpM h1
  unfold leW
  rw [h2]
  simpa using fun e=>h3 e.symm
theorem zxF {w:zaa}: ∀{l:List zaa},zlT l→zCG l w (ziT (leW w.fKey) l)=zmm wk w l
 | [],_=>by simp [zCG,zmm,ziT]
 |x::l,h=>by
  obtain⟨h1,h2⟩:=zqm h
  have ih:=zxF (w:=w) h2
  rw [znX,zmm]
  by_cases ha:bl (wk w) (wk x)=true
  ·have hl:leW w.fKey x=false:=by
    have h3:=zp9 ha
    have h4:=zpM ha
    unfold leW
    rw [h3]
    simpa using fun e=>h4 e.symm
   rw [if_pos ha,hl,if_neg (by simp)]
   simp [zCG]
  rw [if_neg ha]
  by_cases he:wk w=wk x
  ·have hl:leW w.fKey x=true:=by unfold leW;rw [show(x.fKey==w.fKey)=true by simpa using he.symm];simp
   have hz:ziT (leW w.fKey) l=0:=zzb fun y hy=>by rw [show w.fKey=x.fKey from he];exact h1 y hy
   rw [if_pos he,hl,if_pos rfl,hz]
   simp [zCG,show x.fKey=w.fKey from he.symm]
  ·have hb:bl x.fKey w.fKey=true:=zlS (by simpa using ha) he
   have hl:leW w.fKey x=true:=by unfold leW;rw [hb];rfl
   rw [if_neg he,hl,if_pos rfl,←ih]
   have hle:=zo8 (leW w.fKey) l
   generalize ziT (leW w.fKey) l=q at hle
   unfold zCG
   rw [if_neg (by omega),Nat.add_sub_cancel]
   cases q with
   |zero=>
    simp only [List.getElem?_cons_zero,if_true]
    rw [if_neg (fun e=>he e.symm)]
    simp
   |succ q=>
    rw [if_neg (by omega),Nat.add_sub_cancel,List.getElem?_cons_succ,List.getElem?_eq_getElem (by omega)]
    simp only
    split
    ·simp
    ·simp
theorem zAj {w:Str}: ∀{l:List zaa},zlT l→ ∀(j:Nat) (hj:j<l.length),ziT (leW w) l≤j→leW w l[j]=false
 | [],_,j,hj,_=>by simp at hj
 |x::l,h,j,hj,hq=>by
  obtain⟨h1,h2⟩:=zqm h
  rw [znX]at hq
  by_cases hx:leW w x=true
  ·rw [if_pos hx]at hq
   cases j with
   |zero=>omega
   |succ j=>exact zAj h2 j (by simpa using hj) (by omega)
  ·have hx':leW w x=false:=by simpa using hx
   cases j with
   |zero=>exact hx'
   |succ j=>
    have hm:l[j]'(by simpa using hj)∈l:=List.getElem_mem _
    have h3:=h1 _ hm
    show leW w (l[j]'(by simpa using hj))=false
    unfold leW at hx' ⊢
    simp only [Bool.or_eq_false_iff,beq_eq_false_iff_ne]at hx' ⊢
    have h4:bl w x.fKey=true:=zlS hx'.1 hx'.2
    have h5:=zgN h4 h3
    exact⟨zp9 h5,fun e=>zpM h5 e.symm⟩
theorem zzY {i:Nat} (h0:0<i) (h:i≤2000000):IntKind.i64.wrap ((i:Int)-1)=((i-1:Nat):Int):=by rw [zaC (by omega) (by omega)];omega
theorem zw2 {l:List zaa} {w:zaa} (hl:l.length≤2000000) (hr:zlT l):zdX l w=some (zmm wk w l):=by
 have hk: ∀q:Nat,q≤l.length→zf7 l w (q:Int)=some (zCG l w q):=by
  intro q hq
  have r1:0≤(q:Int)∧(q:Int)≤(l.length:Int)∧(l.length:Int)≤(l.length:Int):=by omega
  have hw1:(zfV l (q:Int) (l.length:Int))=l.drop q:=by rw [show(l.length:Int)=((l.length:Nat):Int)from rfl,zD5,List.take_length]
  have hw2:(zfV l 0 (q:Int))=l.take q:=zDG l q
  have r2:((([]:List zaa).length:Int)+((l.drop q).length:Int))*40≤140737488355328∧(([]:List zaa).length:Int)+((l.drop q).length:Int)≤140737488355328:=by
   rw [List.length_nil,List.length_drop];omega
  have r3:0≤(0:Int)∧(0:Int)≤(q:Int)∧(q:Int)≤(l.length:Int):=by omega
  have r4:((([]:List zaa).length:Int)+((l.take q).length:Int))*40≤140737488355328∧(([]:List zaa).length:Int)+((l.take q).length:Int)≤140737488355328:=by
   rw [List.length_nil,List.length_take];omega
  have r5:(((l.take q).length:Int)+(([w]:List zaa).length:Int))*40≤140737488355328∧((l.take q).length:Int)+(([w]:List zaa).length:Int)≤140737488355328:=by
   rw [List.length_singleton,List.length_take];omega
  have r6:(((l.take q++ [w]).length:Int)+((l.drop q).length:Int))*40≤140737488355328∧((l.take q++ [w]).length:Int)+((l.drop q).length:Int)≤140737488355328:=by
   rw [List.length_append,List.length_singleton,List.length_take,List.length_drop];omega
  have r7:((([]:List zaa).length:Int)+((l).length:Int))*40≤140737488355328∧(([]:List zaa).length:Int)+((l).length:Int)≤140737488355328:=by
   rw [List.length_nil];omega
  unfold zf7 zCG
  by_cases h0:q=0
  ·subst h0
   rw [if_neg (by simp),if_pos rfl]
   rw [zae r1,hw1,zae r2,zae r3,hw2,zae r4,zae r5,zae r6]
  ·have hq1:q-1<l.length:=by omega
   rw [if_pos (by simp;omega),if_neg h0,zzY (by omega) (by omega),zac hq1,Option.bind_some,List.getElem?_eq_getElem hq1]
   simp only
   by_cases he:(l[q-1]).fKey=w.fKey
   ·rw [if_pos (by simpa using he),if_pos he,zae r7,Option.bind_some]
    rfl
   ·rw [if_neg (by simpa using he),if_neg he]
    rw [zae r1,hw1,zae r2,zae r3,hw2,zae r4,zae r5,zae r6]
 have hle:=zo8 (leW w.fKey) l
 have key: ∀n j:Nat,j=ziT (leW w.fKey) l+n→j≤l.length→zak (fun s:Int=>zc2 l w s) (j:Int)=some (zCG l w (ziT (leW w.fKey) l)):=by
  intro n
  induction n with
  |zero=>
   intro j hj hjl
   have hj':j=ziT (leW w.fKey) l:=by omega
   refine(zcq ?_).trans (hk _ hle)
   show zc2 l w (j:Int)=_
   unfold zc2
   by_cases h0:j=0
   ·rw [if_neg (by simp [h0]),hj']
   ·have hq1:j-1<l.length:=by omega
    have ht:=zwU (lt:=leW w.fKey) (l:=l) (i:=j-1) (by omega)
    rw [if_pos (by simp;omega),zzY (by omega) (by omega),zac hq1,Option.bind_some,if_neg,hj']
    unfold leW at ht
    have ht:(bl l[j-1].fKey w.fKey||l[j-1].fKey==w.fKey)=true:=ht
    show¬(!(bl l[j-1].fKey w.fKey||l[j-1].fKey==w.fKey))=true
    rw [ht];simp
  |succ n ih=>
   intro j hj hjl
   have hq1:j-1<l.length:=by omega
   have ht:=zAj (w:=w.fKey) hr (j-1) hq1 (by omega)
   have e:zc2 l w (j:Int)=some (.inl ((j-1:Nat):Int)):=by
    unfold zc2
    rw [if_pos (by simp;omega),zzY (by omega) (by omega),zac hq1,Option.bind_some,if_pos]
    have ht:(bl l[j-1].fKey w.fKey||l[j-1].fKey==w.fKey)=false:=ht
    show(!(bl l[j-1].fKey w.fKey||l[j-1].fKey==w.fKey))=true
    rw [ht];rfl
   rw [zc8 (body:=fun s:Int=>zc2 l w s) e]
   exact ih (j-1) (by omega) (by omega)
 unfold zdX
 rw [key (l.length-ziT (leW w.fKey) l) l.length (by omega) (Nat.le_refl _),zxF hr]
end Go.Proofs.YtfkblfjloegahaaGreatDoor
end
section
namespace Go.Proofs.YtfkblfjloegahaaGreatDoor
open Go.RowKit
set_option maxRecDepth 100000
structure OkO (o:DOp):Prop where
 key:zcJ o.fKey=true
 val:zg7 o.fVal=true
 by_:o.fBy=0
 kind:o.fKind=2∨o.fKind=3∨o.fKind=6∨o.fKind=7
 none:o.fKind=3∨o.fKind=6→o.fVal= []
theorem zu5 {s:Str} (h:zg7 s=true):s.length≤24:=by
 unfold zg7 at h
 simp only [Bool.and_eq_true,decide_eq_true_eq]at h
 omega
theorem zva {s:Str} (h:zcJ s=true):s.length≤12:=by
 unfold zcJ at h
 simp only [Bool.and_eq_true]at h
 have:=zbo.1 h.1
 omega
theorem zvS (s:Str) (h:s.length≤2000000): ∃r,zg0 s=some r:=by
 unfold zg0
 rw [zlI,Option.bind_some]
 cases hb:inB s.length 1 6 with
 |false=>exact⟨_,rfl⟩
 |true=>
  have h1:=zbo.1 hb
  obtain⟨x,e,_,_⟩:=zo3 (xs:=s) (i:=0) (by omega) (by omega)
  rw [if_pos rfl,e,Option.bind_some]
  split
  ·exact⟨_,rfl⟩
  ·have key: ∀(n q:Nat) (v:Int),q+n=s.length→ ∃r,zak (fun s_:Int × Int=>zbP s s_.1 s_.2) (v,(q:Int))=some r:=by
    intro n
    induction n with
    |zero=>
     intro q v hq
     refine⟨v,zcq ?_⟩
     show zbP s v q=_
     unfold zbP
     rw [if_neg (by simp;omega)]
    |succ n ih=>
     intro q v hq
     have hlt:q<s.length:=by omega
     by_cases hd:((decide (((s[q]).toNat:Int)<48))||(decide (((s[q]).toNat:Int)>57)))=true
     ·refine⟨-1,zcq ?_⟩
      show zbP s v q=_
      unfold zbP
      rw [if_pos (by simpa using hlt),zac hlt,Option.bind_some,if_pos hd]
     ·have e:zbP s v q=some (.inl ((IntKind.i64.wrap ((IntKind.i64.wrap ((10:Int)*v))+(IntKind.i64.wrap (IntKind.u8.wrap (((s[q]).toNat:Int)-48))))),((q+1:Nat):Int))):=by
       unfold zbP
       rw [if_pos (by simpa using hlt),zac hlt,Option.bind_some,if_neg hd,zaE hlt (by omega)]
      obtain⟨r,hr⟩:=ih (q+1) _ (by omega)
      exact⟨r,(zc8 (body:=fun s_:Int × Int=>zbP s s_.1 s_.2) e).trans hr⟩
   exact key s.length 0 0 (by omega)
theorem zBs (s:Str) (h:s.length≤2000000): ∃r,ziw s=some r:=by
 have hj1: ∀(y:UInt8) (v:Str),v.length≤2000000→ ∃r,zg1 y v=some r:=by
  intro y v hv
  obtain⟨r,e⟩:=zvS v hv
  unfold zg1
  rw [e,Option.bind_some]
  split
  ·exact⟨_,rfl⟩
  ·split<;>exact⟨_,rfl⟩
 unfold ziw
 by_cases h0:(s.length:Int)>0
 ·obtain⟨x,e,_,_⟩:=zo3 (xs:=s) (i:=0) (by omega) (by omega)
  rw [if_pos (by simpa using h0),e,Option.bind_some]
  split
  ·rw [zae (by omega)]
   exact hj1 _ _ (by rw [zHd,List.length_tail];omega)
  ·exact hj1 _ _ h
 ·rw [if_neg (by simpa using h0)]
  unfold zlJ
  obtain⟨r,e⟩:=zvS s h
  rw [e,Option.bind_some]
  split<;>exact⟨_,rfl⟩
def zzA (o:DOp) (val:Str) (there:Bool):Bool:=if o.fKind=6 then !there else there&&val==o.fVal
def zka (got:List zhm):List DOp→List zaa→Int × Str × List zaa
 | [],ws=>(3, [],ws)
 |o::l,ws=>
  if o.fKind=2 then zka got l (zmm wk ⟨o.fKey,o.fVal,false⟩ ws)else
  if o.fKind=3 then zka got l (zmm wk ⟨o.fKey, [],true⟩ ws)else
  if(zdI ws got o.fKey).2.2=true then(if zzA o (zdI ws got o.fKey).1 (zdI ws got o.fKey).2.1=true then zka got l ws else(2, [], []))
  else(1,o.fKey, [])
structure zsj (n:Nat) (ws:List zaa):Prop where
 rise:zlT ws
 len:ws.length≤n
 good: ∀w∈ws,zij w=true
theorem zjf {n:Nat} {ws:List zaa} {w:zaa} (h:zsj n ws) (hw:zij w=true):zsj (n+1) (zmm wk w ws):=by
 refine⟨zlD h.rise,Nat.le_trans (zx1 _) (by have:=h.len;omega),fun y hy=> ?_⟩
 rcases(zmC (key:=wk) h.rise y).1 hy with rfl|hy
 ·exact hw
 ·exact h.good y hy.1
theorem zrA {o:DOp} (h:OkO o):zij ⟨o.fKey,o.fVal,false⟩=true:=by
 unfold zij zkz
 simp [h.key,h.val]
theorem zo5 {o:DOp} (h:OkO o):zij ⟨o.fKey, [],true⟩=true:=by
 unfold zij zkz
 rw [h.key]
 rfl
theorem znY {w:zaa} (h:zij w=true):w.fVal.length≤24:=by
 unfold zij zkz at h
 simp only [Bool.and_eq_true]at h
 exact zu5 h.2.1
theorem zvJ {w:zaa} (h:zij w=true):w.fKey.length≤12:=by
 unfold zij at h
 simp only [Bool.and_eq_true]at h
 exact zva h.1
theorem zsR {ws:List zaa} {got:List zhm} {k:Str} (hw: ∀w∈ws,zij w=true) (hg: ∀g∈got,g.fVal.length≤2000):(zdI ws got k).1.length≤2000:=by
 unfold zdI
 cases e:ws.find? (fun w=>w.fKey==k)with
 |some w=>
  have:=znY (hw w (List.mem_of_find?_eq_some e))
  show w.fVal.length≤2000
  omega
 |none=>
  unfold zyE
  cases e2:got.find? (fun g=>g.fKey==k)with
  |some g=>exact hg g (List.mem_of_find?_eq_some e2)
  |none=>simp
theorem zAU {o:DOp} (h:OkO o) (hk2:o.fKind≠2) (hk3:o.fKind≠3) {val:Str} {there:Bool} (hv:val.length≤2000):zfH o val there=some (zzA o val there):=by
 have e: ∃r,zfw val=some r:=by
  unfold zfw zhZ
  rw [zae (by omega)]
  exact⟨_,rfl⟩
 obtain⟨r,e⟩:=e
 unfold zfH zzA
 rw [e,Option.bind_some]
 rcases h.kind with h1|h1|h1|h1
 ·exact absurd h1 hk2
 ·exact absurd h1 hk3
 ·rw [h1];rfl
 ·rw [h1];rfl
theorem zBV {o:DOp} (h:OkO o) {val:Str} {there:Bool} (hv:val.length≤2000):zh0 o val there=some (if o.fKind=2∨o.fKind=3 then false else !zzA o val there):=by
 obtain⟨r,e⟩:=zBs val (by omega)
 unfold zh0 zzA
 rw [e,Option.bind_some]
 rcases h.kind with h1|h1|h1|h1
 ·rw [h1];rfl
 ·rw [h1];rfl
 ·rw [h1];cases there<;>rfl
 ·rw [h1]
  show some (!there||val !=o.fVal)=some (!(there&&val==o.fVal))
  cases there<;>simp [bne]
theorem zDL {ops:List DOp} {got:List zhm} (hl:ops.length≤1000) (ho: ∀o∈ops,OkO o) (hg:got.length≤2000) (hv: ∀g∈got,g.fVal.length≤2000):zj4 ops got=some (zka got ops []):=by
 have key: ∀(n q:Nat) (ws:List zaa),q+n=ops.length→zsj q ws→zak (fun s:Int × List zaa=>zaF ops got s.1 s.2) ((q:Int),ws)=some (zka got (ops.drop q) ws):=by
  intro n
  induction n with
  |zero=>
   intro q ws hq hw
   rw [List.drop_eq_nil_of_le (by omega),zka]
   refine zcq ?_
   show zaF ops got q ws=_
   unfold zaF
   rw [if_neg (by simp;omega)]
  |succ n ih=>
   intro q ws hq hw
   have hlt:q<ops.length:=by omega
   have hok:=ho _ (List.getElem_mem hlt)
   have hwl:=hw.len
   have hwr:=zaE hlt (by omega)
   rw [List.drop_eq_getElem_cons hlt,zka]
   by_cases h2:(ops[q]).fKind=2
   ·rw [if_pos h2]
    have e:zaF ops got q ws=some (.inl (((q+1:Nat):Int),zmm wk ⟨(ops[q]).fKey,(ops[q]).fVal,false⟩ ws)):=by
     unfold zaF
     rw [if_pos (by simpa using hlt),zac hlt,Option.bind_some,if_pos (by simpa using h2),zo1 (by omega) hw.rise,Option.bind_some,hwr]
    rw [zc8 (body:=fun s:Int × List zaa=>zaF ops got s.1 s.2) e]
    exact ih (q+1) _ (by omega) (zjf hw (zrA hok))
   rw [if_neg h2]
   by_cases h3:(ops[q]).fKind=3
   ·rw [if_pos h3]
    have e:zaF ops got q ws=some (.inl (((q+1:Nat):Int),zmm wk ⟨(ops[q]).fKey, [],true⟩ ws)):=by
     unfold zaF
     rw [if_pos (by simpa using hlt),zac hlt,Option.bind_some,if_neg (by simpa using h2),if_pos (by simpa using h3),zo1 (by omega) hw.rise,Option.bind_some,hwr]
    rw [zc8 (body:=fun s:Int × List zaa=>zaF ops got s.1 s.2) e]
    exact ih (q+1) _ (by omega) (zjf hw (zo5 hok))
   rw [if_neg h3]
   have hsl:=zsR (k:=(ops[q]).fKey) hw.good hv
   have hb:zaF ops got q ws=if(zdI ws got (ops[q]).fKey).2.2=true then(if zzA ops[q] (zdI ws got (ops[q]).fKey).1 (zdI ws got (ops[q]).fKey).2.1=true then some (.inl (((q+1:Nat):Int),ws))else some (.inr (some (2, [], []))))else some (.inr (some (1,(ops[q]).fKey, []))):=by
    unfold zaF
    rw [if_pos (by simpa using hlt),zac hlt,Option.bind_some,if_neg (by simpa using h2),if_neg (by simpa using h3),zyb (by omega) (by omega) hw.rise,Option.bind_some]
    cases hs:(zdI ws got (ops[q]).fKey).2.2 with
    |false=>rw [if_pos (by simp),if_neg (by simp)]
    |true=>
     rw [if_neg (by simp),if_pos rfl,zAU hok h2 h3 hsl,Option.bind_some]
     have h4: ¬(ops[q]).fKind=4:=by rcases hok.kind with h|h|h|h<;>omega
     cases zzA ops[q] (zdI ws got (ops[q]).fKey).1 (zdI ws got (ops[q]).fKey).2.1 with
     |false=>rfl
     |true=>rw [if_neg (by simp),if_neg (by simpa using h4),if_pos rfl,hwr]
   by_cases hs:(zdI ws got (ops[q]).fKey).2.2=true
   ·rw [if_pos hs]at hb ⊢
    by_cases hk:zzA ops[q] (zdI ws got (ops[q]).fKey).1 (zdI ws got (ops[q]).fKey).2.1=true
    ·rw [if_pos hk]at hb ⊢
     rw [zc8 (body:=fun s:Int × List zaa=>zaF ops got s.1 s.2) hb]
     exact ih (q+1) _ (by omega) ⟨hw.rise,by omega,hw.good⟩
    ·rw [if_neg hk]at hb ⊢
     exact zcq hb
   ·rw [if_neg hs]at hb ⊢
    exact zcq hb
 exact key ops.length 0 [] (by omega) ⟨List.Pairwise.nil,Nat.le_refl _,by simp⟩
theorem zDV {ops:List DOp} {got:List zhm} (hl:ops.length≤1000) (ho: ∀o∈ops,OkO o) (hg:got.length≤2000) (hv: ∀g∈got,g.fVal.length≤2000):zkK ops got=some (zka got ops []):=by
 have key: ∀(n q:Nat) (ws:List zaa),q+n=ops.length→zsj q ws→zak (fun s:List zaa × Int=>zaP ops got s.1 s.2) (ws,(q:Int))=some (zka got (ops.drop q) ws):=by
  intro n
  induction n with
  |zero=>
   intro q ws hq hw
   rw [List.drop_eq_nil_of_le (by omega),zka]
   refine zcq ?_
   show zaP ops got ws q=_
   unfold zaP
   rw [if_neg (by simp;omega)]
  |succ n ih=>
   intro q ws hq hw
   have hlt:q<ops.length:=by omega
   have hok:=ho _ (List.getElem_mem hlt)
   have hwl:=hw.len
   have hwr:=zaE hlt (by omega)
   have hsl:=zsR (k:=(ops[q]).fKey) hw.good hv
   have hgv:=zBV hok (val:=(zdI ws got (ops[q]).fKey).1) (there:=(zdI ws got (ops[q]).fKey).2.1) hsl
   rw [List.drop_eq_getElem_cons hlt,zka]
   by_cases h2:(ops[q]).fKind=2
   ·rw [if_pos h2]
    rw [if_pos (.inl h2)]at hgv
    have e:zaP ops got ws q=some (.inl (zmm wk ⟨(ops[q]).fKey,(ops[q]).fVal,false⟩ ws,((q+1:Nat):Int))):=by
     unfold zaP
     rw [if_pos (by simpa using hlt),zac hlt,Option.bind_some,zqT (by omega) (by omega),Option.bind_some,if_neg (by simp [h2]),hgv,Option.bind_some,if_neg (by simp),if_pos (by simpa using h2),zw2 (by omega) hw.rise,Option.bind_some,hwr]
    rw [zc8 (body:=fun s:List zaa × Int=>zaP ops got s.1 s.2) e]
    exact ih (q+1) _ (by omega) (zjf hw (zrA hok))
   rw [if_neg h2]
   by_cases h3:(ops[q]).fKind=3
   ·rw [if_pos h3]
    rw [if_pos (.inr h3)]at hgv
    have e:zaP ops got ws q=some (.inl (zmm wk ⟨(ops[q]).fKey, [],true⟩ ws,((q+1:Nat):Int))):=by
     unfold zaP
     rw [if_pos (by simpa using hlt),zac hlt,Option.bind_some,zqT (by omega) (by omega),Option.bind_some,if_neg (by simp [h3]),hgv,Option.bind_some,if_neg (by simp),if_neg (by simpa using h2),if_pos (by simpa using h3),zw2 (by omega) hw.rise,Option.bind_some,hwr]
    rw [zc8 (body:=fun s:List zaa × Int=>zaP ops got s.1 s.2) e]
    exact ih (q+1) _ (by omega) (zjf hw (zo5 hok))
   rw [if_neg h3]
   rw [if_neg (by simp [h2,h3])]at hgv
   have hb:zaP ops got ws q=if(zdI ws got (ops[q]).fKey).2.2=true then(if zzA ops[q] (zdI ws got (ops[q]).fKey).1 (zdI ws got (ops[q]).fKey).2.1=true then some (.inl (ws,((q+1:Nat):Int)))else some (.inr (some (2, [], []))))else some (.inr (some (1,(ops[q]).fKey, []))):=by
    unfold zaP
    rw [if_pos (by simpa using hlt),zac hlt,Option.bind_some,zqT (by omega) (by omega),Option.bind_some]
    cases hs:(zdI ws got (ops[q]).fKey).2.2 with
    |false=>rw [if_pos (by simp [h2,h3]),if_neg (by simp)]
    |true=>
     rw [if_neg (by simp),if_pos rfl,hgv,Option.bind_some]
     have h4: ¬(ops[q]).fKind=4:=by rcases hok.kind with h|h|h|h<;>omega
     cases zzA ops[q] (zdI ws got (ops[q]).fKey).1 (zdI ws got (ops[q]).fKey).2.1 with
     |false=>rfl
     |true=>rw [if_neg (by simp),if_neg (by simpa using h2),if_neg (by simpa using h3),if_neg (by simpa using h4),if_pos rfl,hwr]
   by_cases hs:(zdI ws got (ops[q]).fKey).2.2=true
   ·rw [if_pos hs]at hb ⊢
    by_cases hk:zzA ops[q] (zdI ws got (ops[q]).fKey).1 (zdI ws got (ops[q]).fKey).2.1=true
    ·rw [if_pos hk]at hb ⊢
     rw [zc8 (body:=fun s:List zaa × Int=>zaP ops got s.1 s.2) hb]
     exact ih (q+1) _ (by omega) ⟨hw.rise,by omega,hw.good⟩
    ·rw [if_neg hk]at hb ⊢
     exact zcq hb
   ·rw [if_neg hs]at hb ⊢
    exact zcq hb
 exact key ops.length 0 [] (by omega) ⟨List.Pairwise.nil,Nat.le_refl _,by simp⟩
theorem zmz {got:List zhm}: ∀(l:List DOp) {n:Nat} {ws:List zaa},(∀o∈l,OkO o)→zsj n ws→zsj (n+l.length) (zka got l ws).2.2∧((zka got l ws).1=1→ ∃o∈l,o.fKey=(zka got l ws).2.1∧ ∀g∈got,g.fKey≠o.fKey)
 | [],n,ws,_,hw=>⟨hw,fun h=>by simp [zka]at h⟩
 |o::l,n,ws,ho,hw=>by
  have hok:=ho o (by simp)
  have hl: ∀o∈l,OkO o:=fun x hx=>ho x (by simp [hx])
  have up: ∀{w:List zaa},zsj (n+l.length) w→zsj (n+(o::l).length) w:=fun h=>⟨h.rise,by have:=h.len;rw [List.length_cons];omega,h.good⟩
  rw [zka]
  split
  ·obtain⟨a,b⟩:=zmz (got:=got) l hl (zjf hw (zrA hok))
   refine⟨⟨a.rise,by have:=a.len;rw [List.length_cons];omega,a.good⟩,fun h=> ?_⟩
   obtain⟨x,hx,h1,h2⟩:=b h
   exact⟨x,by simp [hx],h1,h2⟩
  ·split
   ·obtain⟨a,b⟩:=zmz (got:=got) l hl (zjf hw (zo5 hok))
    refine⟨⟨a.rise,by have:=a.len;rw [List.length_cons];omega,a.good⟩,fun h=> ?_⟩
    obtain⟨x,hx,h1,h2⟩:=b h
    exact⟨x,by simp [hx],h1,h2⟩
   ·split
    ·split
     ·obtain⟨a,b⟩:=zmz (got:=got) l hl hw
      refine⟨up a,fun h=> ?_⟩
      obtain⟨x,hx,h1,h2⟩:=b h
      exact⟨x,by simp [hx],h1,h2⟩
     ·exact⟨⟨List.Pairwise.nil,by simp,by simp⟩,fun h=>by simp at h⟩
    ·rename_i hs
     refine⟨⟨List.Pairwise.nil,by simp,by simp⟩,fun _=>⟨o,by simp,rfl,fun g hg e=> ?_⟩⟩
     apply hs
     unfold zdI
     cases e1:ws.find? (fun w=>w.fKey==o.fKey)with
     |some w=>rfl
     |none=>
      unfold zyE
      cases e2:got.find? (fun g=>g.fKey==o.fKey)with
      |some g=>rfl
      |none=>
       rw [List.find?_eq_none]at e2
       exact absurd (by simpa using e) (e2 g hg)
def mu (ops:List DOp) (got:List zhm):Nat:=(ops.filter fun o=>got.all fun g=>g.fKey !=o.fKey).length
theorem zFC {ops:List DOp} {got:List zhm} {g:zhm} {o:DOp} (ho:o∈ops) (hk:o.fKey=g.fKey) (hn: ∀x∈got,x.fKey≠o.fKey):mu ops (got++ [g])<mu ops got:=by
 unfold mu
 have e:(fun o:DOp=>(got++ [g]).all fun x=>x.fKey !=o.fKey)=fun o=>(got.all fun x=>x.fKey !=o.fKey)&&(g.fKey !=o.fKey):=by
  funext x
  rw [List.all_append]
  simp
 have e2:ops.filter (fun o:DOp=>(got++ [g]).all fun x=>x.fKey !=o.fKey)=(ops.filter fun o=>got.all fun x=>x.fKey !=o.fKey).filter fun o=>g.fKey !=o.fKey:=by
  rw [e,List.filter_filter]
  congr 1
  funext x
  rw [Bool.and_comm]
 rw [e2]
 have hm:o∈ops.filter fun o=>got.all fun x=>x.fKey !=o.fKey:=List.mem_filter.2 ⟨ho,List.all_eq_true.2 fun x hx=>by simpa using hn x hx⟩
 generalize ops.filter (fun o=>got.all fun x=>x.fKey !=o.fKey)=l at hm
 have hlt: ∀(l:List DOp),o∈l→(l.filter fun o=>g.fKey !=o.fKey).length<l.length:=by
  intro l
  induction l with
  |nil=>intro h;simp at h
  |cons y l ih=>
   intro h
   rw [List.filter_cons]
   rcases List.mem_cons.1 h with rfl|h
   ·rw [if_neg (by simp [hk])]
    have:=List.length_filter_le (fun o:DOp=>g.fKey !=o.fKey) l
    rw [List.length_cons];omega
   ·have:=ih h
    split
    ·rw [List.length_cons,List.length_cons];omega
    ·rw [List.length_cons];omega
 exact hlt l hm
theorem zGN (ops:List DOp) (got:List zhm):mu ops got≤ops.length:=List.length_filter_le _ _
def zEz (rows:List zaa) (ops:List DOp):Nat→List zhm→List zaa × Bool
 |0,_=>([],false)
 |n+1,got=>if(zka got ops []).1=1 then zEz rows ops n (got++ [zkB rows (zka got ops []).2.1])else((zka got ops []).2.2,(zka got ops []).1==3)
structure zrZ (rows:List zaa):Prop where
 rise:zlT rows
 len:rows.length≤24
 good: ∀w∈rows,zij w=true
theorem zBa {rows:List zaa} {k:Str} (h:zrZ rows):(zkB rows k).fVal.length≤2000∧(zkB rows k).fKey=k:=by
 unfold zkB
 cases e:rows.find? (fun w=>w.fKey==k)with
 |some w=>
  have:=znY (h.good w (List.mem_of_find?_eq_some e))
  exact⟨by show w.fVal.length≤2000;omega,rfl⟩
 |none=>exact⟨by simp,rfl⟩
theorem zxL {rows:List zaa} {ops:List DOp} (hl:ops.length≤8) (ho: ∀o∈ops,OkO o) (hr:zrZ rows): ∀(n:Nat) (got:List zhm),mu ops got<n→got.length+n≤1000→(∀g∈got,g.fVal.length≤2000)→
  (∃g,zak (fun s:List zhm=>zca rows ops s) got=some (g,zEz rows ops n got))∧(∃g,zak (fun s:List zhm=>zcs rows ops s) got=some (g,zEz rows ops n got))∧zsj 8 (zEz rows ops n got).1
 |0,got,hm,_,_=>by omega
 |n+1,got,hm,hg,hv=>by
  have hi:=zDL (got:=got) (by omega) ho (by omega) hv
  have hs:=zDV (got:=got) (by omega) ho (by omega) hv
  obtain⟨ga,gb⟩:=zmz (got:=got) ops (n:=0) (ws:= []) ho ⟨List.Pairwise.nil,Nat.le_refl _,by simp⟩
  have hrl:=hr.len
  rw [zEz]
  generalize zka got ops []=r at hi hs ga gb
  by_cases h1:r.1=1
  ·rw [if_pos h1]
   obtain⟨o,hom,hok,hon⟩:=gb h1
   obtain⟨t1,t2⟩:=zBa (k:=r.2.1) hr
   have hq:(((got).length:Int)+(([zkB rows r.2.1]:List zhm).length:Int))*40≤140737488355328∧((got).length:Int)+(([zkB rows r.2.1]:List zhm).length:Int)≤140737488355328:=by
    rw [List.length_singleton];omega
   have ei:zca rows ops got=some (.inl (got++ [zkB rows r.2.1])):=by
    unfold zca
    rw [hi,Option.bind_some,if_neg (by simp [h1]),zBn (by omega) hr.rise,Option.bind_some,zae hq]
   have es:zcs rows ops got=some (.inl (got++ [zkB rows r.2.1])):=by
    unfold zcs
    rw [hs,Option.bind_some,if_neg (by simp [h1]),zDq (by omega),Option.bind_some,zae hq]
   rw [zc8 (body:=fun s:List zhm=>zca rows ops s) ei,zc8 (body:=fun s:List zhm=>zcs rows ops s) es]
   refine zxL hl ho hr n _ ?_ (by rw [List.length_append,List.length_singleton];omega) fun g hg'=> ?_
   ·have:=zFC (g:=zkB rows r.2.1) hom (hok.trans t2.symm) hon
    omega
   ·rcases List.mem_append.1 hg' with h|h
    ·exact hv g h
    ·rw [List.mem_singleton]at h;subst h;exact t1
  ·rw [if_neg h1]
   refine⟨⟨got,zcq ?_⟩,⟨got,zcq ?_⟩,ga.rise,by have:=ga.len;show r.2.2.length≤8;omega,ga.good⟩
   ·show zca rows ops got=_
    unfold zca
    rw [hi,Option.bind_some,if_pos (by simpa using h1)]
   ·show zcs rows ops got=_
    unfold zcs
    rw [hs,Option.bind_some,if_pos (by simpa using h1)]
def znr (rows:List zaa) (ops:List DOp):List zaa × Bool:=zEz rows ops 9 []
theorem zwp {rows:List zaa} {ops:List DOp} (hl:ops.length≤8) (ho: ∀o∈ops,OkO o) (hr:zrZ rows):(∃g,zjD rows ops=some (g,znr rows ops))∧(∃g,zkc rows ops=some (g,znr rows ops))∧zsj 8 (znr rows ops).1:=by
 have:=zGN ops []
 exact zxL hl ho hr 9 [] (by omega) (by simp) (by simp)
end Go.Proofs.YtfkblfjloegahaaGreatDoor
end
section
namespace Go.Proofs.YtfkblfjloegahaaGreatDoor
open Go.RowKit
set_option maxRecDepth 100000
theorem zwa {s:Str} (h:field s=true):s.length≤3:=by
 unfold field at h
 simp only [Bool.and_eq_true]at h
 have:=zbo.1 h.1
 omega
theorem zw3 {t:zab} {r:zdC} (h:zbD t r=true) (c:Int):(zkr r c).length≤3:=by
 unfold zbD at h
 simp only [Bool.and_eq_true]at h
 unfold zkr
 cases e:r.fVals[c.toNat]? with
 |none=>simp
 |some s=>exact zwa (List.all_eq_true.1 h.2 s (List.mem_of_getElem? e))
theorem zvi {k:Nat}: ∀{xs:List Str},(∀s∈xs,s.length≤k)→zeu xs≤k*xs.length
 | [],_=>by simp [zeu]
 |s::xs,h=>by
  have h1:=h s (by simp)
  have h2:=zvi (k:=k) (xs:=xs) fun y hy=>h y (by simp [hy])
  simp only [zeu,List.length_cons,Nat.mul_add,Nat.mul_one]
  omega
theorem zB3 {t:zab} {r:zdC} (hg:zau t=true) (h:zbD t r=true):(zlp t r).fKey.length≤5∧(zlp t r).fVal.length≤20:=by
 have hn:=zjE (zl0 hg)
 have hc:=zkO hg
 have hv:=zw3 h 0
 have h':=h
 unfold zbD at h'
 simp only [Bool.and_eq_true,beq_iff_eq]at h'
 have hall: ∀s∈r.fVals,s.length≤3:=fun s hs=>zwa (List.all_eq_true.1 h'.2 s hs)
 constructor
 ·unfold zlp
  have e:(r.fVals.head?).getD []=zkr r 0:=by unfold zkr;rw [List.head?_eq_getElem?];rfl
  simp only [e,List.length_append,List.length_singleton]
  omega
 ·have h1:=zuR r.fVals.tail [44]
  have h2:=zvi (k:=3) (xs:=r.fVals.tail) fun s hs=>hall s (List.mem_of_mem_tail hs)
  have h3:r.fVals.tail.length≤3:=by rw [List.length_tail];omega
  rw [List.length_singleton]at h1
  show(Lib.join r.fVals.tail [44]).length≤20
  omega
theorem zAW {t:zab} {n:Str} {c:Int} {r:zdC} (hg:zau t=true) (hn:n.length=1) (h:zbD t r=true):(zlw t n c r).length≤11:=by
 have h1:=zjE (zl0 hg)
 have h2:=zw3 h c
 have h3:=zw3 h 0
 unfold zlw head
 simp only [List.length_append,List.length_singleton]
 omega
theorem zxJ {α β:Type} {P:β→Prop} {f:α→List β}: ∀(xs:List α) (a:List β),(∀x∈xs,∀o∈f x,P o)→(∀o∈a,P o)→ ∀o∈xs.foldl (fun a x=>a++f x) a,P o
 | [],a,_,h=>h
 |x::xs,a,hf,h=>zxJ xs (a++f x) (fun y hy=>hf y (by simp [hy])) fun o ho=>by
  rcases List.mem_append.1 ho with ho|ho
  ·exact h o ho
  ·exact hf x (by simp) o ho
theorem zvX {α β:Type} {f:α→List β} (hf: ∀x,(f x).length≤2): ∀(xs:List α) (a:List β),(xs.foldl (fun a x=>a++f x) a).length≤a.length+2*xs.length
 | [],a=>by simp
 |x::xs,a=>by
  have h1:=zvX hf xs (a++f x)
  have h2:=hf x
  rw [List.length_append]at h1
  rw [List.foldl_cons,List.length_cons]
  omega
def zC5 (s:Str):Prop:= ∀b∈s,(zf1 b||([46,47]:Str).contains b)=true
def zHn (s:Str):Prop:= ∀b∈s,(zf1 b||([46,45,44,95]:Str).contains b)=true
theorem zzU {s:Str} (h:field s=true): ∀b∈s,zf1 b=true:=by
 unfold field zjx at h
 simp only [Bool.and_eq_true]at h
 intro b hb
 have:=List.all_eq_true.1 h.2 b hb
 simpa using this
theorem zm2 {s:Str} {k:Int} (h:zcG s k=true): ∀b∈s,zf1 b=true:=by
 unfold zcG at h
 simp only [Bool.and_eq_true]at h
 intro b hb
 have:=List.all_eq_true.1 h.1 b hb
 unfold small at this
 unfold zf1
 simp only [Bool.not_eq_true',Bool.or_eq_false_iff,decide_eq_false_iff_not]at this
 simp only [Bool.or_eq_true,Bool.and_eq_true,decide_eq_true_eq]
 left
 omega
theorem zjn {s:Str} (h: ∀b∈s,zf1 b=true):zC5 s:=fun b hb=>by rw [h b hb];rfl
theorem zC5.app {s u:Str} (h:zC5 s) (k:zC5 u):zC5 (s++u):=fun b hb=>by
 rcases List.mem_append.1 hb with hb|hb
 ·exact h b hb
 ·exact k b hb
theorem zHj:zC5 [46]:=fun b hb=>by rw [List.mem_singleton]at hb;subst hb;decide
theorem zDv:zC5 [47]:=fun b hb=>by rw [List.mem_singleton]at hb;subst hb;decide
theorem zs5 {s:Str} (h1:1≤s.length) (h2:s.length≤12) (h:zC5 s):zcJ s=true:=by
 unfold zcJ zjx
 rw [zbo.2 ⟨by omega,by omega⟩,List.all_eq_true.2 h]
 rfl
theorem zx7 {s:Str} (h2:s.length≤24) (h:zHn s):zg7 s=true:=by
 unfold zg7 zjx
 rw [show decide ((s.length:Int)≤24)=true by simp;omega,List.all_eq_true.2 h]
 rfl
theorem zB0 {xs:List Str} (h: ∀x∈xs,∀b∈x,zf1 b=true):zHn (Lib.join xs [44]):=by
 cases xs with
 |nil=>intro b hb;simp [Lib.join_nil]at hb
 |cons x r=>
  intro b hb
  rw [Lib.join_cons]at hb
  rcases List.mem_append.1 hb with hb|hb
  ·rw [h x (by simp) b hb];rfl
  ·unfold Lib.joinTail at hb
   obtain⟨l,hl,hbl⟩:=List.mem_flatten.1 hb
   obtain⟨y,hy,rfl⟩:=List.mem_map.1 hl
   rcases List.mem_append.1 hbl with hb|hb
   ·rw [List.mem_singleton]at hb;subst hb;decide
   ·rw [h y (by simp [hy]) b hb];rfl
theorem ztb {t:zab} {r:zdC} (h:zbD t r=true): ∀x∈r.fVals,∀b∈x,zf1 b=true:=by
 unfold zbD at h
 simp only [Bool.and_eq_true]at h
 exact fun x hx=>zzU (List.all_eq_true.1 h.2 x hx)
theorem zwv {t:zab} {r:zdC} (h:zbD t r=true) (c:Int): ∀b∈zkr r c,zf1 b=true:=by
 unfold zkr
 cases e:r.fVals[c.toNat]? with
 |none=>simp
 |some s=>exact ztb h s (List.mem_of_getElem? e)
theorem zqn {t:zab} {r:zdC} (hg:zau t=true) (h:zbD t r=true):zcJ (zlp t r).fKey=true∧zg7 (zlp t r).fVal=true:=by
 have hl:=zB3 hg h
 have e:(zlp t r).fKey=t.fName++ [47]++zkr r 0:=by
  unfold zlp zkr
  rw [List.head?_eq_getElem?]
  rfl
 refine⟨zs5 ?_ (by omega) ?_,zx7 (by omega) ?_⟩
 ·rw [e];simp;omega
 ·rw [e]
  exact((zjn (zm2 (zl0 hg))).app zDv).app (zjn (zwv h 0))
 ·exact zB0 fun x hx=>ztb h x (List.mem_of_mem_tail hx)
theorem ztn {t:zab} {n:Str} {c:Int} {r:zdC} (hg:zau t=true) (hn:zcG n 1=true) (h:zbD t r=true):zcJ (zlw t n c r)=true:=by
 have hl:=zAW (c:=c) hg (zjE hn) h
 refine zs5 ?_ (by omega) ?_
 ·unfold zlw;simp;omega
 ·unfold zlw head
  exact((((((zjn (zm2 (zl0 hg))).app zHj).app (zjn (zm2 hn))).app zDv).app (zjn (zwv h c))).app zDv).app (zjn (zwv h 0))
end Go.Proofs.YtfkblfjloegahaaGreatDoor
end
section
namespace Go.Proofs.YtfkblfjloegahaaGreatDoor
open Go.RowKit
set_option maxRecDepth 100000
theorem zBF {t:zab} {a:zat} (hg:zau t=true) (h:zjC t a=true):(ztS t a).length≤8∧ ∀o∈ztS t a,OkO o:=by
 have ho:a.fKind≠1→zbD t a.fOld=true:=fun h1=>by
  unfold zjC at h
  rw [if_neg h1]at h
  by_cases h2:a.fKind=2
  ·rw [if_pos h2,Bool.and_eq_true]at h;exact h.1
  rw [if_neg h2]at h
  by_cases h3:a.fKind=3
  ·rw [if_pos h3,Bool.and_eq_true]at h;exact h.1
  rw [if_neg h3]at h;cases h
 have hn:a.fKind≠2→zbD t a.fNew=true:=fun h2=>by
  unfold zjC at h
  by_cases h1:a.fKind=1
  ·rw [if_pos h1,Bool.and_eq_true]at h;exact h.2
  rw [if_neg h1,if_neg h2]at h
  by_cases h3:a.fKind=3
  ·rw [if_pos h3,Bool.and_eq_true,Bool.and_eq_true]at h;exact h.2.1
  rw [if_neg h3]at h;cases h
 have hc:=zkO hg
 have v0:zg7 ([]:Str)=true:=by decide
 constructor
 ·have h1:=zvX (zpa t a) t.fIdxs (zk9 t a)
  rw [zno]at h1
  unfold ztS
  omega
 ·refine zxJ _ _ (fun x hx o hm=> ?_) (fun o hm=> ?_)
  ·have hx1:=(ztY hg hx).1
   unfold zph zpl zsh at hm
   rcases List.mem_append.1 hm with hm|hm
   ·split at hm
    ·rename_i q
     rw [List.mem_singleton]at hm
     subst hm
     refine⟨?_,v0,rfl,by simp,fun _=>rfl⟩
     show zcJ (zCv t a x)=true
     unfold zCv at q ⊢
     by_cases h1:a.fKind=1
     ·rw [if_pos h1]at q;exact absurd rfl q.1
     ·rw [if_neg h1];exact ztn hg hx1 (ho h1)
    ·simp at hm
   ·split at hm
    ·rename_i q
     rw [List.mem_singleton]at hm
     subst hm
     refine⟨?_,v0,rfl,by simp,fun _=>rfl⟩
     show zcJ (zA1 t a x)=true
     unfold zA1 at q ⊢
     by_cases h1:a.fKind=2
     ·rw [if_pos h1]at q;exact absurd rfl q.1
     ·rw [if_neg h1];exact ztn hg hx1 (hn h1)
    ·simp at hm
  ·unfold zk9 at hm
   split at hm
   ·rename_i q
    have w:=zqn hg (hn (by omega))
    simp only [List.mem_cons,List.not_mem_nil,or_false]at hm
    rcases hm with rfl|rfl
    ·exact⟨w.1,v0,rfl,by simp,fun _=>rfl⟩
    ·exact⟨w.1,w.2,rfl,by simp,fun k=>by simp at k⟩
   ·rename_i q1
    have w1:=zqn hg (ho q1)
    split at hm
    ·simp only [List.mem_cons,List.not_mem_nil,or_false]at hm
     rcases hm with rfl|rfl
     ·exact⟨w1.1,w1.2,rfl,by simp,fun k=>by simp at k⟩
     ·exact⟨w1.1,v0,rfl,by simp,fun _=>rfl⟩
    ·rename_i q2
     have w2:=zqn hg (hn q2)
     simp only [List.mem_cons,List.not_mem_nil,or_false]at hm
     rcases hm with rfl|rfl
     ·exact⟨w1.1,w1.2,rfl,by simp,fun k=>by simp at k⟩
     ·exact⟨w1.1,w2.2,rfl,by simp,fun k=>by simp at k⟩
theorem zlV {l:List zaa} (h:zdh l=true):zrZ l∧ ∀w∈l,w.fGone=false:=by
 unfold zdh at h
 rw [Bool.and_eq_true]at h
 have hr:=zqB h.1
 have h1:=h.1
 unfold zed at h1
 simp only [Bool.and_eq_true,decide_eq_true_eq]at h1
 exact⟨⟨hr,by omega,List.all_eq_true.1 h1.2.1⟩,fun w hw=>by simpa using List.all_eq_true.1 h.2 w hw⟩
theorem zq8 {l:List zaa} (hr:zlT l) (hg: ∀w∈l,zij w=true) (hn: ∀w∈l,w.fGone=false):zdh l=decide ((l.length:Int)≤24):=by
 have h1:zm0 (l.map (·.fKey))=true:=by
  rw [znu,zms]
  exact(zn4 (r:=fun a b:zaa=>bl a.fKey b.fKey) fun a b c p q=>zgN p q).2 hr
 unfold zdh zed
 rw [h1,List.all_eq_true.2 hg,show(l.all fun w=> !w.fGone)=true from List.all_eq_true.2 fun w hw=>by rw [hn w hw];rfl]
 simp
theorem zk7 {l:List zaa} (hl:l.length≤2000000) (hg: ∀w∈l,zij w=true):zpk l:=
 ⟨hl,fun w hw=>⟨by have:=zvJ (hg w hw);omega,by have:=znY (hg w hw);omega⟩⟩
def zgs (rows ws:List zaa):List zaa:=(ws.foldl (fun o w=>zmm wk w o) rows).filter fun w=> !w.fGone
theorem zAM: ∀(ws:List zaa) {n:Nat} {rows:List zaa},zsj n rows→(∀w∈ws,zij w=true)→zsj (n+ws.length) (ws.foldl (fun o w=>zmm wk w o) rows)
 | [],n,rows,h,_=>h
 |w::ws,n,rows,h,hw=>by
  have:=zAM ws (zjf h (hw w (by simp))) fun y hy=>hw y (by simp [hy])
  exact⟨this.rise,by have:=this.len;rw [List.length_cons];rw [List.foldl_cons];omega,this.good⟩
theorem zvC {rows ws:List zaa} (hr:zrZ rows) (hw:zsj 8 ws):zlT (zgs rows ws)∧(zgs rows ws).length≤32∧(∀w∈zgs rows ws,zij w=true)∧ ∀w∈zgs rows ws,w.fGone=false:=by
 have h:=zAM ws (n:=24) (rows:=rows) ⟨hr.rise,hr.len,hr.good⟩ hw.good
 have hl:=hw.len
 unfold zgs
 refine⟨zp6.filter h.rise _,Nat.le_trans (List.length_filter_le _ _) (by have:=h.len;omega),fun w hm=>h.good w (List.mem_filter.1 hm).1,fun w hm=>by simpa using(List.mem_filter.1 hm).2⟩
theorem zx9 {rows ws:List zaa} (hr:zrZ rows) (hw:zsj 8 ws):zh5 rows ws=some (if(zgs rows ws).length>24 then([],false)else(zgs rows ws,true)):=by
 have hrl:=hr.len
 have hwl:=hw.len
 have hc:zaz rows=some rows:=zmw (by omega) (by omega)
 unfold zh5
 rw [hc,Option.bind_some]
 have h1:=zb0 (xs:=ws) (body:=fun s:Int × List zaa=>zdu ws s.1 s.2) (fun i (o:List zaa)=>(i,o)) (fun o w=>zmm wk w o) (fun o=>zhG o) (fun i o=>zsj (24+i) o)
  (fun i hi o hI=>by
   have hI:zsj (24+i) o:=hI
   have hol:=hI.len
   refine⟨?_,zjf hI (hw.good _ (List.getElem_mem hi))⟩
   show zdu ws i o=_
   unfold zdu
   rw [if_pos (by simpa using hi),zac hi,Option.bind_some,zo1 (by omega) hI.rise,Option.bind_some,zaE hi (by omega)])
  (fun o hI=>by
   show zdu ws ws.length o=_
   unfold zdu
   rw [if_neg (by simp)]) (s:=rows) ⟨hr.rise,hr.len,hr.good⟩
 rw [h1.1]
 have hK:zsj (24+ws.length) (ws.foldl (fun o w=>zmm wk w o) rows):=h1.2
 have hkl:=hK.len
 unfold zhG zfs
 rw [zae (by omega),zoK (p:=fun y0_=>ziD y0_) (fun w:zaa=>w.fGone) (fun w _=>rfl),Option.bind_some]
 show(if decide (((zgs rows ws).length:Int)>24)=true then _ else _)=_
 by_cases hq:(zgs rows ws).length>24
 ·rw [if_pos (decide_eq_true (by omega)),if_pos hq]
 ·rw [if_neg (by rw [decide_eq_true_eq];omega),if_neg hq];rfl
theorem zyM {rows ws:List zaa} (hr:zrZ rows) (hw:zsj 8 ws):zf9 rows ws=some (zgs rows ws):=by
 have hrl:=hr.len
 have hwl:=hw.len
 have hq:((([]:List zaa).length:Int)+((rows).length:Int))*40≤140737488355328∧(([]:List zaa).length:Int)+((rows).length:Int)≤140737488355328:=by
  rw [List.length_nil];omega
 unfold zf9
 rw [zae hq]
 have h1:=zb0 (xs:=ws) (body:=fun s:Int × List zaa=>zcw ws s.1 s.2) (fun i (o:List zaa)=>(i,o)) (fun o w=>zmm wk w o) (fun o=>zgg o) (fun i o=>zsj (24+i) o)
  (fun i hi o hI=>by
   have hI:zsj (24+i) o:=hI
   have hol:=hI.len
   refine⟨?_,zjf hI (hw.good _ (List.getElem_mem hi))⟩
   show zcw ws i o=_
   unfold zcw
   rw [if_pos (by simpa using hi),zac hi,Option.bind_some,zw2 (by omega) hI.rise,Option.bind_some,zaE hi (by omega)])
  (fun o hI=>by
   show zcw ws ws.length o=_
   unfold zcw
   rw [if_neg (by simp)]) (s:=rows) ⟨hr.rise,hr.len,hr.good⟩
 rw [h1.1]
 have hK:zsj (24+ws.length) (ws.foldl (fun o w=>zmm wk w o) rows):=h1.2
 have hkl:=hK.len
 unfold zgs
 generalize ws.foldl (fun o w=>zmm wk w o) rows=l at hkl
 unfold zgg
 have h2:=zb0 (xs:=l) (body:=fun s:List zaa × Int=>zcr l s.1 s.2) (fun i (o:List zaa)=>(o,i)) (fun o w=>if(!w.fGone)=true then o++ [id w]else o) (fun o=>some o) (fun i o=>o.length≤i)
  (fun i hi o hI=>by
   have hI:o.length≤i:=hI
   have hr:(((o).length:Int)+(([l[i]]:List zaa).length:Int))*40≤140737488355328∧((o).length:Int)+(([l[i]]:List zaa).length:Int)≤140737488355328:=by
    rw [List.length_singleton];omega
   refine⟨?_,by show List.length _≤_;split;rw [List.length_append,List.length_singleton];omega;omega⟩
   show zcr l o i=_
   unfold zcr
   rw [if_pos (by simpa using hi),zac hi,Option.bind_some,zaE hi (by omega)]
   cases(!(l[i]).fGone)with
   |false=>rfl
   |true=>rw [if_pos rfl,zae hr];rfl)
  (fun o _=>by
   show zcr l o l.length=_
   unfold zcr
   rw [if_neg (by simp)]) (s:= []) (Nat.le_refl _)
 refine h2.1.trans ?_
 rw [zjm (fun w:zaa=> !w.fGone) id l []]
 simp
def zoL (st:List zaa) (ops:List DOp):List zaa × Bool:=if(znr st ops).2=true∧(zgs st (znr st ops).1).length≤24 then(zgs st (znr st ops).1,true)else(st,false)
theorem zAK {st:List zaa} {ops:List DOp} (hl:ops.length≤8) (ho: ∀o∈ops,OkO o) (hg:zdh st=true):zjb st ops=some (zoL st ops):=by
 obtain⟨hr,_⟩:=zlV hg
 obtain⟨⟨g,e⟩,_,hw⟩:=zwp hl ho hr
 have hrl:=hr.len
 have hq:((([]:List zaa).length:Int)+((st).length:Int))*40≤140737488355328∧(([]:List zaa).length:Int)+((st).length:Int)≤140737488355328:=by
  rw [List.length_nil];omega
 unfold zjb zoL
 rw [e,Option.bind_some,zx9 hr hw,Option.bind_some]
 cases h1:(znr st ops).2 with
 |false=>rw [if_pos (by simp),zae hq,if_neg (by simp)]
 |true=>
  by_cases h2:(zgs st (znr st ops).1).length>24
  ·rw [if_pos h2,if_pos (by simp),zae hq,if_neg (by omega)]
  ·rw [if_neg h2,if_neg (by simp),if_pos ⟨rfl,by omega⟩]
theorem zyK {ops:List DOp} (hl:ops.length≤8) (ho: ∀o∈ops,OkO o):zjc ops=some true:=by
 have h1: ∀o:DOp,OkO o→zkP o=some true:=by
  intro o h
  have hk:=zva h.key
  have hv:=zu5 h.val
  unfold zkP zj6
  rw [zCK (by omega),Option.bind_some,h.key,if_neg (by simp)]
  rcases h.kind with k|k|k|k
  ·rw [k];simp [zAQ (s:=o.fVal) (by omega),h.val,h.by_]
  ·have:=h.none (.inl k);rw [k];simp [this,h.by_]
  ·have:=h.none (.inr k);rw [k];simp [this,h.by_]
  ·rw [k];simp [zAQ (s:=o.fVal) (by omega),h.val,h.by_]
 unfold zjc
 rw [ziW (xs:=ops) (body:=fun s:Int=>zdO ops s) (fun _=>true) false (ziJ ops) (fun i hi=>by
  show zdO ops i=_
  unfold zdO
  rw [if_pos (by simpa using hi),zac hi,Option.bind_some,h1 _ (ho _ (List.getElem_mem hi)),Option.bind_some,if_neg (by simp),zaE hi (by omega),if_pos rfl]) (by
  show zdO ops ops.length=_
  unfold zdO
  rw [if_neg (by simp)]),if_pos (List.all_eq_true.2 fun _ _=>rfl)]
 unfold ziJ
 simp;omega
theorem zG8 {st:List zaa} {ops:List DOp} (hl:ops.length≤8) (ho: ∀o∈ops,OkO o) (hg:zdh st=true):zjV st ops=some (zoL st ops):=by
 obtain⟨hr,_⟩:=zlV hg
 obtain⟨_,⟨g,e⟩,hw⟩:=zwp hl ho hr
 have hrl:=hr.len
 have hq:((([]:List zaa).length:Int)+((st).length:Int))*40≤140737488355328∧(([]:List zaa).length:Int)+((st).length:Int)≤140737488355328:=by
  rw [List.length_nil];omega
 have hqb: ∀b:Bool,((([]:List Bool).length:Int)+(([b]:List Bool).length:Int))*1≤140737488355328∧(([]:List Bool).length:Int)+(([b]:List Bool).length:Int)≤140737488355328:=by
  intro b;rw [List.length_nil,List.length_singleton];omega
 obtain⟨p1,p2,p3,p4⟩:=zvC hr hw
 have hv7:zdc (zgs st (znr st ops).1)=some (decide (((zgs st (znr st ops).1).length:Int)≤24)):=by
  rw [zrl (zk7 (by omega) p3),zq8 p1 p3 p4]
 have hw1:IntKind.i64.wrap ((0:Int)+1)=1:=by decide
 have key:zf8 st [ops]=some ((zoL st ops).1, [(zoL st ops).2],true):=by
  unfold zf8
  rw [zrl (zk7 (by omega) hr.good),Option.bind_some,hg,if_neg (by simp)]
  have b0:zbU st [ops] 0=some (.inl 1):=by
   unfold zbU
   rw [if_pos (by simp),show zaA [ops] 0=some ops from rfl,Option.bind_some,zyK hl ho,Option.bind_some,if_neg (by simp),hw1]
  have b1:zbU st [ops] 1=some (.inr (zgq st [ops])):=by
   unfold zbU
   rw [if_neg (by simp)]
  rw [zc8 (body:=fun s:Int=>zbU st [ops] s) b0,zcq (body:=fun s:Int=>zbU st [ops] s) b1]
  unfold zgq
  rw [zae hq]
  have c0:zbX [ops] [] 0 st=some (.inl ([(zoL st ops).2],1,(zoL st ops).1)):=by
   unfold zbX zoL
   rw [if_pos (by simp),show zaA [ops] 0=some ops from rfl,Option.bind_some,e,Option.bind_some,zyM hr hw,Option.bind_some]
   cases h1:(znr st ops).2 with
   |false=>rw [if_neg (by simp),zae (hqb _),if_neg (by simp),hw1];rfl
   |true=>
    rw [if_pos rfl,hv7,Option.bind_some]
    by_cases h2:(zgs st (znr st ops).1).length≤24
    ·have h3:decide (((zgs st (znr st ops).1).length:Int)≤24)=true:=by simp;omega
     rw [h3,if_pos rfl,zae (hqb _),if_pos ⟨rfl,h2⟩,hw1];rfl
    ·have h3:decide (((zgs st (znr st ops).1).length:Int)≤24)=false:=by simp;omega
     rw [h3,if_neg (by simp),zae (hqb _),if_neg (by omega),hw1];rfl
  have c1: ∀(bs:List Bool) (l:List zaa),zbX [ops] bs 1 l=some (.inr (some (l,bs,true))):=by
   intro bs l
   unfold zbX
   rw [if_neg (by simp)]
  rw [zc8 (body:=fun s:List Bool × Int × List zaa=>zbX [ops] s.1 s.2.1 s.2.2) c0,zcq (body:=fun s:List Bool × Int × List zaa=>zbX [ops] s.1 s.2.1 s.2.2) (c1 _ _)]
 unfold zjV
 rw [key,Option.bind_some,if_pos (by simp)]
 rfl
theorem zCx {st:List zaa} {ops:List DOp} (hl:ops.length≤8) (ho: ∀o∈ops,OkO o) (hg:zdh st=true):zdh (zoL st ops).1=true:=by
 obtain⟨hr,_⟩:=zlV hg
 obtain⟨_,_,hw⟩:=zwp hl ho hr
 obtain⟨p1,p2,p3,p4⟩:=zvC hr hw
 unfold zoL
 split
 ·rename_i h
  show zdh (zgs st (znr st ops).1)=true
  rw [zq8 p1 p3 p4]
  have:=h.2
  simp;omega
 ·exact hg
end Go.Proofs.YtfkblfjloegahaaGreatDoor
end
section
namespace Go.Proofs.YtfkblfjloegahaaGreatDoor
open Go.RowKit
set_option maxRecDepth 100000
theorem zoY {α:Type}: ∀(xs a:List α),xs.foldl (fun o x=>o++ [x]) a=a++xs
 | [],a=>by simp
 |x::xs,a=>by rw [List.foldl_cons,zoY xs (a++ [x])];simp
theorem zCI {o p:List zab} (h:o.length≤2000001) (hn:p.length≤5):((o.length:Int)+(p.length:Int))*64≤140737488355328∧(o.length:Int)+(p.length:Int)≤140737488355328:=by omega
theorem zBc {s:zaf} (hS:zkk s):zeS s=some s:=by
 have h1:=hS.at_
 have h2:=hS.store.1
 have h3:=hS.ways
 have c1:zd4 s.fAt=some s.fAt:=zmw (by omega) (by omega)
 have c2:zaz s.fStore=some s.fStore:=zmw (by omega) (by omega)
 unfold zeS
 rw [c1,c2,Option.bind_some,Option.bind_some]
 have h:=zb0 (xs:=s.fWays) (body:=fun q:Int × List zab=>zcx s s.fAt s.fStore q.1 q.2) (fun i (o:List zab)=>(i,o)) (fun o t=>o++ [t]) (fun o=>some ⟨s.fName,o,s.fAt,s.fStore⟩) (fun i o=>o.length=i)
  (fun i hi o hI=>by
   have hI:o.length=i:=hI
   refine⟨?_,by show List.length _=_;rw [List.length_append,List.length_singleton];omega⟩
   show zcx s s.fAt s.fStore i o=_
   unfold zcx
   rw [if_pos (by simpa using hi),zac hi,Option.bind_some,zwP (hS.way _ (List.getElem_mem hi)),Option.bind_some,zae (zCI (by omega) (by simp)),zaE hi (by omega)])
  (fun o _=>by
   show zcx s s.fAt s.fStore s.fWays.length o=_
   unfold zcx
   rw [if_neg (by simp)]) (s:= []) rfl
 rw [zoY]at h
 exact h.1
theorem zEh {s:zaf} (hS:zkk s):zg2 s=some s:=by
 have h1:=hS.at_
 have h2:=hS.store.1
 have h3:=hS.ways
 have c1:zjY s.fAt=some s.fAt:=by
  unfold zjY
  rw [zae (by rw [List.length_nil];omega)]
 have hq:((([]:List zaa).length:Int)+((s.fStore).length:Int))*40≤140737488355328∧(([]:List zaa).length:Int)+((s.fStore).length:Int)≤140737488355328:=by
  rw [List.length_nil];omega
 unfold zg2
 rw [c1,Option.bind_some,zae hq]
 have h:=zb0 (xs:=s.fWays) (body:=fun q:Int × List zab=>zdQ s s.fAt q.1 q.2) (fun i (o:List zab)=>(i,o)) (fun o t=>o++ [t]) (fun o=>some ⟨s.fName,o,s.fAt,s.fStore⟩) (fun i o=>o.length=i)
  (fun i hi o hI=>by
   have hI:o.length=i:=hI
   refine⟨?_,by show List.length _=_;rw [List.length_append,List.length_singleton];omega⟩
   show zdQ s s.fAt i o=_
   unfold zdQ
   rw [if_pos (by simpa using hi),zac hi,Option.bind_some,zAJ (hS.way _ (List.getElem_mem hi)),Option.bind_some,zae (zCI (by omega) (by simp)),zaE hi (by omega)])
  (fun o _=>by
   show zdQ s s.fAt s.fWays.length o=_
   unfold zdQ
   rw [if_neg (by simp)]) (s:= []) rfl
 rw [zoY]at h
 exact h.1
def zHZ (a:zat):Bool:=((a.fKind==0)&&((a.fOld.fVals.length:Int)==0))&&((a.fNew.fVals.length:Int)==0)
structure zFG (s:zaf) (a:zad):Prop where
 srv:0≤a.fServer∧a.fServer≤(s.fAt.length:Int)-1
 step:a.fStep=0∨a.fStep=1∨a.fStep= -1
 act:a.fStep=0→ ∃y t,zaA s.fAt a.fServer=some y∧zaA s.fWays y=some t∧t∈s.fWays∧zjC t a.fAct=true
theorem zoP {t:zab} {n:Str} (h:znM t n=true):zau t=true:=by
 unfold znM at h
 simp only [Bool.and_eq_true]at h
 exact h.1
theorem zw9 {s:zaf} (hg:zpR s) {i:Int} (h:0≤i∧i≤(s.fAt.length:Int)-1): ∃y t,zaA s.fAt i=some y∧zaA s.fWays y=some t∧t∈s.fWays∧0≤y∧y≤(s.fWays.length:Int)-1:=by
 obtain⟨y,e1,hy,_⟩:=zo3 (xs:=s.fAt) h.1 (by omega)
 have hb:=hg.2.2.2.2.2.1 y hy
 obtain⟨t,e2,ht,_⟩:=zo3 (xs:=s.fWays) hb.1 (by omega)
 exact⟨y,t,e1,e2,ht,hb.1,hb.2⟩
def zmh (s:zaf) (t:zab) (a:zad):Bool:=
 inB a.fServer 0 ((s.fAt.length:Int)-1)&&(if a.fStep=0 then zjC t a.fAct else if a.fStep=1∨a.fStep= -1 then zHZ a.fAct else false)
def ztv (s:zaf) (i:Int):zab:=(zaA s.fWays ((zaA s.fAt i).getD 0)).getD noT
theorem zx5 {s:zaf} {a:zad} (hg:zpR s) (hA:zle a.fAct):ze5 s a=some (zmh s (ztv s a.fServer) a):=by
 have h3:=zbo.1 hg.2.2.2.2.1
 have w:IntKind.i64.wrap ((s.fAt.length:Int)-1)=(s.fAt.length:Int)-1:=zaC (by omega) (by omega)
 unfold ze5 zmh
 rw [w,zlI,Option.bind_some]
 cases hv:inB a.fServer 0 ((s.fAt.length:Int)-1)with
 |false=>rfl
 |true=>
  obtain⟨y,t,e1,e2,ht,_,_⟩:=zw9 hg (zbo.1 hv)
  have hc:=zkO (zoP (hg.2.2.1 t ht))
  have et:ztv s a.fServer=t:=by unfold ztv;rw [e1,Option.getD_some,e2];rfl
  rw [et,if_neg (by simp),Bool.true_and]
  by_cases h0:a.fStep=0
  ·rw [if_neg (by simp [h0]),if_pos (by simpa using h0),if_pos h0,e1,Option.bind_some,e2,Option.bind_some,zs6 (by omega) hA];rfl
  ·rw [if_neg h0]
   by_cases h1:a.fStep=1∨a.fStep= -1
   ·rw [if_pos (by simpa using h1),if_pos h1];rfl
   ·rw [if_neg (by simpa using h1),if_neg h1,if_neg (by simpa using h0)]
theorem zyH {s:zaf} {a:zad} (hg:zpR s) (hA:zle a.fAct):zbc s a=some (zmh s (ztv s a.fServer) a):=by
 have h3:=zbo.1 hg.2.2.2.2.1
 have w:IntKind.i64.wrap ((s.fAt.length:Int)-1)=(s.fAt.length:Int)-1:=zaC (by omega) (by omega)
 unfold zbc zmh
 rw [w,zhW,Option.bind_some]
 cases hv:inB a.fServer 0 ((s.fAt.length:Int)-1)with
 |false=>rfl
 |true=>
  obtain⟨y,t,e1,e2,ht,_,_⟩:=zw9 hg (zbo.1 hv)
  have hc:=zkO (zoP (hg.2.2.1 t ht))
  have et:ztv s a.fServer=t:=by unfold ztv;rw [e1,Option.getD_some,e2];rfl
  have ht2:zaJ s a.fServer=some t:=by
   unfold zaJ
   rw [e1,Option.bind_some,e2];rfl
  rw [et,if_neg (by simp),Bool.true_and]
  by_cases h0:a.fStep=0
  ·rw [if_pos (by simpa using h0),if_pos h0,ht2,Option.bind_some,zx6 (by omega) hA];rfl
  ·rw [if_neg (by simpa using h0),if_neg h0]
   by_cases h1:a.fStep=1
   ·rw [if_pos (by simpa using h1),if_pos (.inl h1)];rfl
   ·rw [if_neg (by simpa using h1)]
    by_cases h2:a.fStep= -1
    ·rw [if_pos (by simpa using h2),if_pos (.inr h2)];rfl
    ·rw [if_neg (by simpa using h2),if_neg (by simp [h1,h2])]
theorem zFl {s:zaf} {a:zad} (hg:zpR s) (h:zmh s (ztv s a.fServer) a=true):zFG s a:=by
 unfold zmh at h
 rw [Bool.and_eq_true]at h
 have hv:=zbo.1 h.1
 obtain⟨y,t,e1,e2,ht,_,_⟩:=zw9 hg hv
 have et:ztv s a.fServer=t:=by unfold ztv;rw [e1,Option.getD_some,e2];rfl
 have h2:=h.2
 rw [et]at h2
 by_cases h0:a.fStep=0
 ·rw [if_pos h0]at h2
  exact⟨hv, .inl h0,fun _=>⟨y,t,e1,e2,ht,h2⟩⟩
 ·rw [if_neg h0]at h2
  by_cases h1:a.fStep=1∨a.fStep= -1
  ·exact⟨hv, .inr h1,fun h=>absurd h h0⟩
  ·rw [if_neg h1]at h2;cases h2
theorem zvK {s:zaf} {a:zad} (hg:zpR s) (hA:zle a.fAct): ∃r,ze5 s a=some r∧zbc s a=some r∧(r=true→zFG s a):=
 ⟨_,zx5 hg hA,zyH hg hA,zFl hg⟩
structure zCm (s r:zaf):Prop where
 good:zpR r
 small:zkk r
 name:r.fName=s.fName
 ways:r.fWays=s.fWays
 at_:r.fAt.length=s.fAt.length
theorem zvW {s:zaf} {a:zad} (hS:zkk s) (hg:zpR s) (hA:zle a.fAct) (hact:zFG s a): ∃r:zaf × Bool,zeB s a=some r∧zbr s a=some r∧zCm s r.1:=by
 obtain⟨y,t,e1,e2,ht,hy0,hy1⟩:=zw9 hg hact.srv
 have h1:=hg.1
 have h4:=hg.2.1
 have w:IntKind.i64.wrap ((s.fWays.length:Int)-1)=(s.fWays.length:Int)-1:=zaC (by omega) (by omega)
 unfold zeB zbr
 rw [zEh hS,zBc hS,Option.bind_some,Option.bind_some,w]
 by_cases h0:a.fStep=0
 ·obtain⟨y',t',q1,q2,q3,hga⟩:=hact.act h0
  rw [e1]at q1
  cases q1
  rw [e2]at q2
  cases q2
  have hI:=hg.2.2.1 t ht
  have hgt:=zoP hI
  have hc:=zkO hgt
  have hSt:=hS.way t ht
  have hai:=zFg hA hga
  have hR:=hg.2.2.2.2.2.2
  obtain⟨ol,oo⟩:=zBF hgt hga
  have ht2:zaJ s a.fServer=some t:=by
   unfold zaJ
   rw [e1,Option.bind_some,e2];rfl
  have hD:zjO t s.fStore a.fAct=some ((zoL s.fStore (ztS t a.fAct)).1,(zoL s.fStore (ztS t a.fAct)).2,true):=by
   have hGA:zh8 t a.fAct=some true:=by
    unfold zh8
    rw [znZ hSt,Option.bind_some,hgt,if_pos rfl,zs6 (by omega) hA,hga];rfl
   unfold zjO
   rw [hGA,Option.bind_some,if_pos rfl,zrl hS.store,Option.bind_some,hR,if_neg (by simp),zFA hSt hgt hai,Option.bind_some,zG8 ol oo hR];rfl
  have hgo:=zCx ol oo hR
  rw [if_neg (by simp [h0]),if_neg (by simp [h0]),e1,Option.bind_some,e2,Option.bind_some,hD,ht2,Option.bind_some,Option.bind_some,zE5 hSt hgt hai,Option.bind_some,zAK ol oo hR,Option.bind_some]
  refine⟨_,rfl,rfl,⟨⟨hg.1,hg.2.1,hg.2.2.1,hg.2.2.2.1,hg.2.2.2.2.1,hg.2.2.2.2.2.1,hgo⟩,⟨hS.name,hS.ways,hS.way,hS.at_, ?_⟩,rfl,rfl,rfl⟩⟩
  have hr:=(zlV hgo).1
  have hrl:=hr.len
  exact zk7 (by show(zoL s.fStore (ztS t a.fAct)).1.length≤2000000;omega) hr.good
 ·have hst:a.fStep=1∨a.fStep= -1:=by rcases hact.step with h|h|h;exact absurd h h0;exact .inl h;exact .inr h
  have w2:IntKind.i64.wrap (y+a.fStep)=y+a.fStep:=zaC (by omega) (by omega)
  rw [if_pos (by simpa using h0),if_pos (by simpa using h0)]
  simp only [e1,Option.bind_some,w2,zlI,zhW]
  cases hv:inB (y+a.fStep) 0 ((s.fWays.length:Int)-1)with
  |false=>exact⟨_,rfl,rfl,⟨hg,hS,rfl,rfl,rfl⟩⟩
  |true=>
   have hv2:=zbo.1 hv
   refine⟨_,rfl,rfl,⟨⟨hg.1,hg.2.1,hg.2.2.1,hg.2.2.2.1, ?_,fun z hz=> ?_,hg.2.2.2.2.2.2⟩,⟨hS.name,hS.ways,hS.way, ?_,hS.store⟩,rfl,rfl,List.length_set⟩⟩
   ·show inB (((s.fAt.set (a.fServer).toNat (y+a.fStep)).length:Nat):Int) 1 3=true
    rw [List.length_set];exact hg.2.2.2.2.1
   ·rcases List.mem_or_eq_of_mem_set hz with hz|rfl
    ·exact hg.2.2.2.2.2.1 z hz
    ·exact hv2
   ·show(s.fAt.set (a.fServer).toNat (y+a.fStep)).length≤2000000
    rw [List.length_set];exact hS.at_
def zEn:zaf:=⟨[], [], [], []⟩
theorem zpu {s:zaf} {a:zad} (hS:zkk s) (hA:zle a.fAct): ∃r,zdy s a=some r∧zdx s a=some r∧(r=true→zpR s∧zFG s a):=by
 obtain⟨g1,e1,f1⟩:=zDm hS
 obtain⟨g2,e2,f2⟩:=zDR hS
 have hg:g1=g2:=by rw [Bool.eq_iff_iff,f1,f2]
 subst hg
 unfold zdy zdx
 rw [e1,e2,Option.bind_some,Option.bind_some]
 by_cases h:g1=true
 ·obtain⟨r,k1,k2,k3⟩:=zvK (f1.1 h) hA
  rw [if_pos h,if_pos h,k1,k2]
  exact⟨r,rfl,rfl,fun hr=>⟨f1.1 h,k3 hr⟩⟩
 ·rw [if_neg h,if_neg h]
  exact⟨_,rfl,rfl,by simp⟩
theorem zsE {s:zaf} {a:zad} (hS:zkk s) (hA:zle a.fAct): ∃r,zf4 s a=some r∧zeX s a=some r∧(r.1=zEn∨zCm s r.1):=by
 obtain⟨g,e1,e2,f⟩:=zpu hS hA
 unfold zf4 zeX
 rw [e1,e2,Option.bind_some,Option.bind_some]
 by_cases h:g=true
 ·obtain⟨hg,ha⟩:=f h
  obtain⟨r,k1,k2,k3⟩:=zvW hS hg hA ha
  rw [if_neg (by simp [h]),if_neg (by simp [h]),k1,k2]
  exact⟨_,rfl,rfl, .inr k3⟩
 ·rw [if_pos (by simpa using h),if_pos (by simpa using h)]
  exact⟨_,rfl,rfl, .inl rfl⟩
end Go.Proofs.YtfkblfjloegahaaGreatDoor
end
section
namespace Go.Proofs.YtfkblfjloegahaaGreatDoor
open Go.RowKit
set_option maxRecDepth 100000
theorem zz2 {α:Type} {f:α→Nat} {n:Nat}: ∀{l:List α},(∀x∈l,f x≤n)→(l.map f).sum≤n*l.length
 | [],_=>by simp
 |x::l,h=>by
  have h1:=h x (by simp)
  have h2:=zz2 (f:=f) (n:=n) (l:=l) fun y hy=>h y (by simp [hy])
  rw [List.map_cons,List.sum_cons,List.length_cons,Nat.mul_add];omega
theorem zoM {xs:List Str} (h:zba xs≤2000000):Small xs:=by
 have e: ∀l:List Str,zeu l=(l.map (fun x:List UInt8=>x.length)).sum:=by
  intro l
  induction l with
  |nil=>rfl
  |cons s l ih=>simp only [zeu,List.map_cons,List.sum_cons,ih]
 unfold zba at h
 exact⟨by omega,by rw [e];omega⟩
theorem zyc {t:zab} (h:zbg t≤2000000):zc9 t:=by
 unfold zbg zeF at h
 have hs:=zoM (xs:=t.fCols) (by omega)
 refine⟨by omega,by have:=hs.1;omega,hs.each,by omega,fun x hx=> ?_⟩
 have h1:=zfg (tot:=ziI) hx
 have e:ziI x=x.fName.length:=rfl
 omega
theorem zu4 {s:zaf} (h:za1 s≤2000000):zkk s:=by
 unfold za1 at h
 have h1:zbM s.fWays≤2000000:=by omega
 have h2:zfi s.fAt≤2000000:=by omega
 have h3:zbJ s.fStore≤2000000:=by omega
 refine⟨by omega,by unfold zbM at h1;omega,fun t ht=>zyc ?_,by unfold zfi at h2;omega,by unfold zbJ at h3;omega,fun w hw=> ?_⟩
 ·have:=zfg (tot:=zbg) ht
  unfold zbM at h1
  omega
 ·have:=zfg (tot:=zdZ) hw
  have e:zdZ w=w.fKey.length+w.fVal.length:=rfl
  unfold zbJ at h3
  omega
theorem zv2 {a:zad} (h:zao a≤2000000):zle a.fAct:=by
 unfold zao zbI zfT at h
 exact⟨zoM (by omega),zoM (by omega)⟩
theorem zCj {l:List zaa} (h:zdh l=true):zbJ l≤2000:=by
 obtain⟨hr,_⟩:=zlV h
 have hl:=hr.len
 have:=zz2 (f:=zdZ) (n:=36) (l:=l) fun w hw=>by
  have h1:=zvJ (hr.good w hw)
  have h2:=znY (hr.good w hw)
  unfold zdZ
  omega
 unfold zbJ
 omega
theorem zCk {s r:zaf} (h:zCm s r):za1 r≤za1 s+2000:=by
 have h1:=zCj h.good.2.2.2.2.2.2
 have h2:=h.at_
 unfold za1
 rw [h.name,h.ways]
 unfold zfi
 omega
theorem zCd {s r:zaf} (h:r=zEn∨zCm s r):za1 r≤za1 s+2000:=by
 rcases h with rfl|h
 ·have:za1 zEn=0:=rfl
  omega
 ·exact zCk h
theorem zyy (a0:zaf) (a1:zad) (h0:zuz a0) (h1:zjo a1):zde a0 a1=some true:=by
 unfold zde
 obtain⟨b0,e0,g0,r0⟩:=zxp (x:=a0) (a:=1048576) (by omega) (by omega) h0
 rw [e0,Option.bind_some]
 by_cases q0:b0<0
 ·rw [if_pos (by simpa using q0)]
 rw [if_neg (by simpa using q0)]
 have s0:=r0 (by omega)
 obtain⟨b1,e1,g1,r1⟩:=zm7 (x:=a1) (a:=b0) (by omega) (by omega) h1
 rw [e1,Option.bind_some]
 by_cases q1:b1<0
 ·rw [if_pos (by simpa using q1)]
 rw [if_neg (by simpa using q1)]
 have s1:=r1 (by omega)
 have t0:za1 a0≤2000000:=by omega
 have t1:zao a1≤2000000:=by omega
 obtain⟨w,vs,vi,hw⟩:=zsE (s:=a0) (a:=a1) (zu4 t0) (zv2 t1)
 have tw:=zCd hw
 have tw2:za1 w.1≤2000000:=by omega
 have c0:=zrs a0
 have c1:=zr9 a1
 have c2:=zrs w.1
 obtain⟨x0,x1,x2,m0,n0⟩:=zsX (x:=a0) (k:=1) (by omega) (by omega) t0
 obtain⟨y0,y1,m1⟩:=zuw (x:=a1) (k:=1+(zef a0:Nat)) (by omega) (by omega) t1
 obtain⟨z0,z1,z2,m2,n2⟩:=zsX (x:=w.1) (k:=1) (by omega) (by omega) tw2
 have p1:decide ((1:Int)+(zef a0:Nat)+(zeA a1:Nat)<0)=false:=by simp;omega
 have p2:decide ((1:Int)+(zef w.1:Nat)<0)=false:=by simp;omega
 simp only [zxC t0,znn t1,vs,vi,ztH t0,zna t1,ztH tw2,m0,m1,m2,n2,p1,p2,bne_self_eq_false,Option.bind_some,Bool.not_true,Bool.or_false,Bool.false_eq_true,if_false]
end Go.Proofs.YtfkblfjloegahaaGreatDoor
end
section
namespace Go.Proofs.YtfkblfjloegahaaGreatDoor
open Go.RowKit
set_option maxRecDepth 100000
def zwe (l:List Int):Bool:=l.all fun x=>l.all fun y=> !decide (x-y>1)
theorem zB2 {l:List Int} (hl:l.length≤2000000) (hb: ∀y∈l,0≤y∧y≤3):zg4 l=some (zwe l):=by
 unfold zg4
 have hin: ∀(i:Nat) (hi:i<l.length),zak (fun s:Int=>zcd l i l[i] s) 0=some (if(l.all fun y=> !decide (l[i]-y>1))=true then .inl ((i+1:Nat):Int)else .inr (some false)):=by
  intro i hi
  have hx:=hb _ (List.getElem_mem hi)
  rw [ziW (xs:=l) (body:=fun s:Int=>zcd l i l[i] s) (fun y=> !decide (l[i]-y>1)) (.inr (some false)) (zgK i) (fun j hj=>by
   have hy:=hb _ (List.getElem_mem hj)
   have w:IntKind.i64.wrap (l[i]-l[j])=l[i]-l[j]:=zaC (by omega) (by omega)
   show zcd l i l[i] j=_
   unfold zcd
   rw [if_pos (by simpa using hj),zac hj,Option.bind_some,w,zaE hj (by omega)]
   cases decide (l[i]-l[j]>1)<;>rfl) (by
   show zcd l i l[i] l.length=_
   unfold zcd
   rw [if_neg (by simp)])]
  unfold zgK
  rw [zaE hi (by omega)]
  split<;>rfl
 rw [ziW (xs:=l) (body:=fun s:Int=>zcY l s) (fun x=>l.all fun y=> !decide (x-y>1)) false (some true) (fun i hi=>by
  show zcY l i=_
  unfold zcY
  rw [if_pos (by simpa using hi),zac hi,Option.bind_some]
  exact hin i hi) (by
  show zcY l l.length=_
  unfold zcY
  rw [if_neg (by simp)])]
 unfold zwe
 cases(l.all fun x=>l.all fun y=> !decide (x-y>1))<;>rfl
def zCA (a:Int) (l:List Int):Int:=l.foldl (fun m y=>bif decide (y>m)then y else m) a
def zB6 (a:Int) (l:List Int):Int:=l.foldl (fun m y=>bif decide (y<m)then y else m) a
theorem zzT: ∀(l:List Int) (a:Int),zCA a l∈a::l∧ ∀x∈a::l,x≤zCA a l
 | [],a=>by simp [zCA]
 |y::l,a=>by
  obtain⟨h1,h2⟩:=zzT l (bif decide (y>a)then y else a)
  have e:zCA a (y::l)=zCA (bif decide (y>a)then y else a) l:=rfl
  rw [e]
  have ha:a≤(bif decide (y>a)then y else a)∧y≤(bif decide (y>a)then y else a):=by
   by_cases h:y>a
   ·rw [decide_eq_true h];exact⟨by simp;omega,by simp⟩
   ·rw [decide_eq_false h];exact⟨by simp,by simp;omega⟩
  have hm:=h2 _ (List.mem_cons_self)
  refine⟨?_,fun x hx=> ?_⟩
  ·rcases List.mem_cons.1 h1 with h|h
   ·rw [h]
    by_cases hc:y>a
    ·rw [decide_eq_true hc];simp
    ·rw [decide_eq_false hc];simp
   ·simp [h]
  ·rcases List.mem_cons.1 hx with rfl|hx
   ·omega
   ·rcases List.mem_cons.1 hx with rfl|hx
    ·omega
    ·exact h2 x (by simp [hx])
theorem zzj: ∀(l:List Int) (a:Int),zB6 a l∈a::l∧ ∀x∈a::l,zB6 a l≤x
 | [],a=>by simp [zB6]
 |y::l,a=>by
  obtain⟨h1,h2⟩:=zzj l (bif decide (y<a)then y else a)
  have e:zB6 a (y::l)=zB6 (bif decide (y<a)then y else a) l:=rfl
  rw [e]
  have ha:(bif decide (y<a)then y else a)≤a∧(bif decide (y<a)then y else a)≤y:=by
   by_cases h:y<a
   ·rw [decide_eq_true h];exact⟨by simp;omega,by simp⟩
   ·rw [decide_eq_false h];exact⟨by simp,by simp;omega⟩
  have hm:=h2 _ (List.mem_cons_self)
  refine⟨?_,fun x hx=> ?_⟩
  ·rcases List.mem_cons.1 h1 with h|h
   ·rw [h]
    by_cases hc:y<a
    ·rw [decide_eq_true hc];simp
    ·rw [decide_eq_false hc];simp
   ·simp [h]
  ·rcases List.mem_cons.1 hx with rfl|hx
   ·omega
   ·rcases List.mem_cons.1 hx with rfl|hx
    ·omega
    ·exact h2 x (by simp [hx])
theorem zFT {l:List Int} {a:Int} (hl:l.length≤2000000):zdd (a::l)=some (zCA a l):=by
 have key: ∀(n q:Nat) (m:Int),q+n=(a::l).length→zak (fun s:Int × Int=>zaN (a::l) s.1 s.2) (m,(q:Int))=some (zCA m ((a::l).drop q)):=by
  intro n
  induction n with
  |zero=>
   intro q m hq
   rw [List.drop_eq_nil_of_le (by omega)]
   refine zcq ?_
   show zaN (a::l) m q=_
   unfold zaN
   rw [if_neg (by rw [decide_eq_true_eq];omega)]
   rfl
  |succ n ih=>
   intro q m hq
   have hlt:q<(a::l).length:=by omega
   have hll:(a::l).length=l.length+1:=List.length_cons
   have e:zaN (a::l) m q=some (.inl ((bif decide ((a::l)[q]>m)then(a::l)[q]else m),((q+1:Nat):Int))):=by
    unfold zaN
    rw [if_pos (decide_eq_true (by omega)),zac hlt,Option.bind_some,zaE hlt (by omega)]
   rw [zc8 (body:=fun s:Int × Int=>zaN (a::l) s.1 s.2) e,ih (q+1) _ (by omega),List.drop_eq_getElem_cons hlt]
   rfl
 unfold zdd
 rw [if_neg (by rw [decide_eq_true_eq,List.length_cons];omega),show zaA (a::l) 0=some a from rfl,Option.bind_some]
 exact key l.length 1 a (by rw [List.length_cons];omega)
theorem zF0 {l:List Int} {a:Int} (hl:l.length≤2000000):zdi (a::l)=some (zB6 a l):=by
 have key: ∀(n q:Nat) (m:Int),q+n=(a::l).length→zak (fun s:Int × Int=>zaM (a::l) s.1 s.2) (m,(q:Int))=some (zB6 m ((a::l).drop q)):=by
  intro n
  induction n with
  |zero=>
   intro q m hq
   rw [List.drop_eq_nil_of_le (by omega)]
   refine zcq ?_
   show zaM (a::l) m q=_
   unfold zaM
   rw [if_neg (by rw [decide_eq_true_eq];omega)]
   rfl
  |succ n ih=>
   intro q m hq
   have hlt:q<(a::l).length:=by omega
   have hll:(a::l).length=l.length+1:=List.length_cons
   have e:zaM (a::l) m q=some (.inl ((bif decide ((a::l)[q]<m)then(a::l)[q]else m),((q+1:Nat):Int))):=by
    unfold zaM
    rw [if_pos (decide_eq_true (by omega)),zac hlt,Option.bind_some,zaE hlt (by omega)]
   rw [zc8 (body:=fun s:Int × Int=>zaM (a::l) s.1 s.2) e,ih (q+1) _ (by omega),List.drop_eq_getElem_cons hlt]
   rfl
 unfold zdi
 rw [if_neg (by rw [decide_eq_true_eq,List.length_cons];omega),show zaA (a::l) 0=some a from rfl,Option.bind_some]
 exact key l.length 1 a (by rw [List.length_cons];omega)
theorem zBj {s:zaf} (hl:s.fAt.length≤2000000) (h1:1≤s.fAt.length) (hb: ∀y∈s.fAt,0≤y∧y≤3):zdb s=some (zwe s.fAt):=by
 unfold zdb
 generalize s.fAt=l at hl h1 hb
 cases l with
 |nil=>simp at h1
 |cons a l=>
  rw [List.length_cons]at hl
  rw [zFT (by omega),zF0 (by omega),Option.bind_some,Option.bind_some]
  obtain⟨x1,x2⟩:=zzT l a
  obtain⟨n1,n2⟩:=zzj l a
  have b1:=hb _ x1
  have b2:=hb _ n1
  have w:IntKind.i64.wrap (zCA a l-zB6 a l)=zCA a l-zB6 a l:=zaC (by omega) (by omega)
  rw [w]
  congr 1
  unfold zwe
  rw [Bool.eq_iff_iff]
  simp only [decide_eq_true_eq,List.all_eq_true,Bool.not_eq_true',decide_eq_false_iff_not]
  constructor
  ·intro h x hx y hy
   have:=x2 x hx
   have:=n2 y hy
   omega
  ·intro h
   have:=h _ x1 _ n1
   omega
theorem zBB {s:zaf} {a:zad} (hS:zkk s) (hg:zpR s) (hA:zle a.fAct) (hact:zFG s a): ∃r,zg6 s a=some r∧zdW s a=some r:=by
 obtain⟨r,k1,k2,hn⟩:=zvW hS hg hA hact
 unfold zg6 zdW
 rw [k1,k2,Option.bind_some,Option.bind_some]
 by_cases h:r.2=true
 ·rw [if_pos h,if_pos h]
  have h3:=zbo.1 hn.good.2.2.2.2.1
  have hw:=hn.good.2.1
  have hb: ∀y∈r.1.fAt,0≤y∧y≤3:=fun y hy=>by
   have:=hn.good.2.2.2.2.2.1 y hy
   omega
  have hl:=hn.small.at_
  rw [zB2 hl hb,zBj hl (by omega) hb,Option.bind_some,Option.bind_some]
  obtain⟨q,q1,q2⟩:=zzn hn.small hn.good
  by_cases hc:zwe r.1.fAt=true
  ·rw [if_pos hc,if_pos hc,q1,q2]
   exact⟨q,rfl,rfl⟩
  ·rw [if_neg hc,if_neg hc]
   exact⟨_,rfl,rfl⟩
 ·rw [if_neg h,if_neg h]
  exact⟨_,rfl,rfl⟩
theorem zvY {s:zaf} {a:zad} (hS:zkk s) (hA:zle a.fAct): ∃r,zhQ s a=some r∧zhS s a=some r:=by
 obtain⟨g,e1,e2,f⟩:=zpu hS hA
 unfold zhQ zhS
 rw [e1,e2,Option.bind_some,Option.bind_some]
 by_cases h:((!g)||(a.fStep==0))=true
 ·rw [if_pos h,if_pos h]
  exact⟨_,rfl,rfl⟩
 ·rw [if_neg h,if_neg h]
  have hg:g=true:=by
   cases g with
   |true=>rfl
   |false=>simp at h
  obtain⟨h1,h2⟩:=f hg
  obtain⟨r,k1,k2⟩:=zBB hS h1 hA h2
  rw [k1,k2]
  exact⟨_,rfl,rfl⟩
end Go.Proofs.YtfkblfjloegahaaGreatDoor
end
section
namespace Go.Proofs.YtfkblfjloegahaaGreatDoor
open Go.RowKit
set_option maxRecDepth 100000
theorem zq6 (a0:zaf) (a1:zad) (h0:zuz a0) (h1:zjo a1):zdS a0 a1=some true:=by
 unfold zdS
 obtain⟨b0,e0,g0,r0⟩:=zxp (x:=a0) (a:=1048576) (by omega) (by omega) h0
 rw [e0,Option.bind_some]
 by_cases q0:b0<0
 ·rw [if_pos (by simpa using q0)]
 rw [if_neg (by simpa using q0)]
 have s0:=r0 (by omega)
 obtain⟨b1,e1,g1,r1⟩:=zm7 (x:=a1) (a:=b0) (by omega) (by omega) h1
 rw [e1,Option.bind_some]
 by_cases q1:b1<0
 ·rw [if_pos (by simpa using q1)]
 rw [if_neg (by simpa using q1)]
 have s1:=r1 (by omega)
 have t0:za1 a0≤2000000:=by omega
 have t1:zao a1≤2000000:=by omega
 obtain⟨w,vs,vi⟩:=zvY (s:=a0) (a:=a1) (zu4 t0) (zv2 t1)
 simp only [zxC t0,znn t1,vs,vi,ztH t0,zna t1,bne_self_eq_false,Option.bind_some,Bool.not_true,Bool.or_false,Bool.false_eq_true,if_false]
end Go.Proofs.YtfkblfjloegahaaGreatDoor
end

/- Parts of a proof, joined: N15, N16, N17, N18, N19, N20, N21, N22, PK, NK, NP, NQ, NS, NT, NV, NU, NW, LK, PL, FFnExactStepShift. -/
import Derived.Test.YtfkblfjloegahaaGreatDoorS9
import Derived.Lib.LaidTab
import Derived.LaidSub
import Derived.Test.YtfkblfjloegahaaGreatDoorRows
import Derived.WalkKit
import Derived.ProofKit
import Derived.OpenShut
import Derived.ShutString
import Derived.ChangeOld
import Derived.Below
import Derived.Lay
import Derived.MakeChecks
import Derived.LaidLaws
import Derived.Stop.Joined
import Derived.SevenTiedAt
import Derived.Test.YtfkblfjloegahaaGreatDoorCards
import Derived.Test.YtfkblfjloegahaaGreatDoorTie
section
namespace Go.Proofs.YtfkblfjloegahaaGreatDoor
open Go.RowKit
set_option maxRecDepth 100000
def holds (t:zab) (n:Str) (x:zbI) (lv:Int) (l:List zaa):Bool:=
 if lv==0 then((ziy t n l).length:Int)==0
 else(((zFh (ziy t n l) (wanted t n x l)).length:Int)==0)&&((lv==1)||(((zFh (wanted t n x l) (ziy t n l)).length:Int)==0))
theorem zrf (t:zab) (n:Str) (l:List zaa):(ziy t n l).length≤l.length:=by
 unfold ziy;rw [List.length_map];exact List.length_filter_le _ _
theorem ztb (t:zab) (n:Str) (x:zbI) (l:List zaa):(wanted t n x l).length≤l.length:=by
 unfold wanted;rw [List.length_map];exact zuH t l
theorem zB7 {t:zab} {n:Str} {x:zbI} {lv:Int} {l:List zaa} (hS:zc3 t) (ht:t.fName.length≤2000000) (hn:n.length≤2000000) (hx:zh7 t n x) (hl:l.length≤2000000) (h: ∀w∈l,zo4 w) (ha:zds t n l=some true):zgx t n lv l=some (holds t n x lv l):=by
 have hE:=zyq ht hn hl h
 have hW:=zzq hS hn hx hl h
 have e1:=zrf t n l
 have e2:=ztb t n x l
 have h1:=zAH (a:=ziy t n l) (b:=wanted t n x l) (by omega) (by omega)
 have h2:=zAH (a:=wanted t n x l) (b:=ziy t n l) (by omega) (by omega)
 unfold zgx holds
 by_cases h0:(lv==0)=true
 ·rw [if_pos h0,if_pos h0,hE,Option.bind_some]
 ·rw [if_neg h0,if_neg h0]
  unfold ziC zjQ
  rw [ha,hE,hW]
  simp only [Option.bind_some,h1,h2,Bool.not_true,Bool.false_eq_true,if_false]
theorem zBu {t:zab} {n:Str} {x:zbI} {lv:Int} {l:List zaa} (hS:zc3 t) (ht:t.fName.length=1) (hn:n.length≤2000000) (hh: ∀b∈head t n,b≠47) (hx:zh7 t n x) (hl:l.length≤2000000) (h: ∀w∈l,zo4 w):zdx t n lv l=some (holds t n x lv l):=by
 have hE:=zyk (t:=t) (by omega) hn hh hl h
 have hW:=zzF hS ht hn hx hl h
 have e1:=zrf t n l
 have e2:=ztb t n x l
 have h1:=zzL (a:=ziy t n l) (b:=wanted t n x l) (by omega) (by omega)
 have h2:=zzL (a:=wanted t n x l) (b:=ziy t n l) (by omega) (by omega)
 unfold zdx holds
 by_cases h0:(lv==0)=true
 ·rw [if_pos h0,if_pos h0,hE,Option.bind_some]
 ·rw [if_neg h0,if_neg h0]
  unfold zcP ze5
  rw [hE,hW]
  simp only [Option.bind_some,h1,h2]
  by_cases h3:(lv==1)=true
  ·rw [if_pos h3,h3,Bool.true_or,Bool.and_true]
  ·rw [if_neg h3,Bool.eq_false_iff.2 h3,Bool.false_or]
   by_cases h4:(((zFh (ziy t n l) (wanted t n x l)).length:Int)==0)=true
   ·rw [if_pos h4,h4,Bool.true_and]
   ·rw [if_neg h4,Bool.eq_false_iff.2 h4,Bool.false_and]
end Go.Proofs.YtfkblfjloegahaaGreatDoor
end
section
namespace Go.Proofs.YtfkblfjloegahaaGreatDoor
open Go.RowKit
set_option maxRecDepth 100000
def znG (t:zab) (n:Str):Bool:=zau t&&decide (zio (fun x:zbI=>x.fName==n) t.fIdxs≥0)
def zDd (t:zab) (n:Str) (l:List zaa):Bool:=znG t n&&zda l
theorem zEf {t:zab} {n:Str} (hS:zc3 t):zi6 t n=some (znG t n):=by
 unfold zi6 znG
 rw [zBp hS,Option.bind_some,zvb hS,Option.bind_some]
 cases zau t<;>simp
theorem zA9 {t:zab} {n:Str} {l:List zaa} (hS:zc3 t) (hW:zpi l):zds t n l=some (zDd t n l):=by
 unfold zds zDd znG
 rw [znU hS,Option.bind_some,zq0 hS,Option.bind_some,zrk hW,Option.bind_some]
 cases zau t<;>cases decide (zio (fun x:zbI=>x.fName==n) t.fIdxs≥0)<;>simp
theorem zDI {l:List zaa} (h:zda l=true): ∀w∈l,zo4 w:=by
 intro w hw
 unfold zda zd4 at h
 simp only [Bool.and_eq_true]at h
 have h1:=List.all_eq_true.1 h.1.2.1 w hw
 unfold zia zcF zkp zgZ at h1
 simp only [Bool.and_eq_true,decide_eq_true_eq]at h1
 have h2:=zbs.1 h1.1.1
 have h3:=h1.2.1.1
 exact⟨by omega,by omega⟩
theorem zrh {s:Str} {k:Int} (h:zcC s k=true):(s.length:Int)≤k∧ ∀b∈s,b≠47:=by
 unfold zcC at h
 simp only [Bool.and_eq_true]at h
 refine⟨(zbs.1 h.2).2,fun b hb e=> ?_⟩
 have h1:=List.all_eq_true.1 h.1 b hb
 subst e
 exact absurd h1 (by decide)
theorem zjt {s:Str} (h:zcC s 1=true):s.length=1:=by
 unfold zcC at h
 simp only [Bool.and_eq_true]at h
 have:=zbs.1 h.2
 omega
theorem zlT {t:zab} (h:zau t=true):zcC t.fName 1=true:=by
 unfold zau at h
 simp only [Bool.and_eq_true]at h
 exact h.1.1.1
theorem ztW {t:zab} (h:zau t=true) {x:zbI} (hx:x∈t.fIdxs):zcC x.fName 1=true∧inB x.fCol 1 ((t.fCols.length:Int)-1)=true:=by
 unfold zau at h
 simp only [Bool.and_eq_true]at h
 obtain⟨i,hi,rfl⟩:=List.mem_iff_getElem.1 hx
 have h1:=List.all_eq_true.1 h.2 i (List.mem_range.2 hi)
 unfold zou at h1
 simp only [Bool.and_eq_true,List.getElem?_eq_getElem hi,Option.getD_some]at h1
 exact⟨h1.1.1.1,h1.1.1.2⟩
theorem zCI {t:zab} {n:Str} (h:znG t n=true): ∃x,zh7 t n x∧t.fName.length=1∧n.length=1∧ ∀b∈head t n,b≠47:=by
 unfold znG at h
 simp only [Bool.and_eq_true,decide_eq_true_eq]at h
 obtain⟨x,h1,h2,h3⟩:=zw6 h.2
 have h4:=ztW h.1 h3
 have h5:=zbs.1 h4.2
 have h6:x.fName=n:=by simpa using h2
 have h7:=zlT h.1
 have h8:=h6▸h4.1
 refine⟨x,⟨h1,h6,h5.1,h5.2⟩,zjt h7,zjt h8,fun b hb=> ?_⟩
 unfold head at hb
 simp only [List.mem_append,List.mem_singleton]at hb
 rcases hb with(hb|hb)|hb
 ·exact(zrh h7).2 b hb
 ·subst hb;decide
 ·exact(zrh h8).2 b hb
end Go.Proofs.YtfkblfjloegahaaGreatDoor
end
section
namespace Go.Proofs.YtfkblfjloegahaaGreatDoor
open Go.RowKit
set_option maxRecDepth 100000
theorem zwv {xs:List Str} (h:xs.length≤2000000):zc0 xs=some xs:=by
 unfold zc0
 rw [zae (by omega)]
 exact zn7 (fun i hi v hv=>by
  show za7 xs i v=_
  unfold za7
  rw [if_pos (by simpa using hi),zac hi,Option.bind_some,zac (by omega),Option.bind_some,zaI hi (by omega)];rfl) (fun v=>by
  show za7 xs _ v=_
  unfold za7
  rw [if_neg (by simp)])
theorem zB6 {xs:List zbI} (h:xs.length≤2000000):zfx xs=some xs:=by
 unfold zfx
 rw [zae (by omega)]
 exact zn7 (fun i hi v hv=>by
  show zbP xs i v=_
  unfold zbP zjD
  rw [if_pos (by simpa using hi),zac hi,Option.bind_some,Option.bind_some,zac (by omega),Option.bind_some,zaI hi (by omega)];rfl) (fun v=>by
  show zbP xs _ v=_
  unfold zbP
  rw [if_neg (by simp)])
theorem zEq {xs:List zaa} (h:xs.length≤2000000):zd9 xs=some xs:=by
 unfold zd9
 rw [zae (by omega)]
 exact zn7 (fun i hi v hv=>by
  show zbd xs i v=_
  unfold zbd zhW
  rw [if_pos (by simpa using hi),zac hi,Option.bind_some,Option.bind_some,zac (by omega),Option.bind_some,zaI hi (by omega)];rfl) (fun v=>by
  show zbd xs _ v=_
  unfold zbd
  rw [if_neg (by simp)])
theorem zFz {t:zab} (h:zc3 t):zeR t=some t:=by
 unfold zeR
 rw [zwv h.cols,Option.bind_some,zB6 h.idxs,Option.bind_some]
theorem zwz {xs:List Str} (h:xs.length≤2000000):zcZ xs xs=some true:=by
 unfold zcZ
 rw [if_neg (by simp)]
 exact zmY (n:=xs.length) (fun i hi=>by
  show za6 xs xs i=_
  unfold za6
  rw [if_pos (by simpa using hi),zac hi,Option.bind_some,Option.bind_some,if_neg (by simp),zaI hi (by omega)]) (by
  show za6 xs xs _=_
  unfold za6
  rw [if_neg (by simp)])
theorem zBO {xs:List zbI} (h:xs.length≤2000000):zfA xs xs=some true:=by
 unfold zfA
 rw [if_neg (by simp)]
 exact zmY (n:=xs.length) (fun i hi=>by
  show zbO xs xs i=_
  unfold zbO
  have e: ∀x:zbI,zgi x x=some true:=fun x=>by simp [zgi]
  rw [if_pos (by simpa using hi),zac hi,Option.bind_some,Option.bind_some,e,Option.bind_some,if_neg (by simp),zaI hi (by omega)]) (by
  show zbO xs xs _=_
  unfold zbO
  rw [if_neg (by simp)])
theorem zEy {xs:List zaa} (h:xs.length≤2000000):zeo xs xs=some true:=by
 unfold zeo
 rw [if_neg (by simp)]
 exact zmY (n:=xs.length) (fun i hi=>by
  show zbg xs xs i=_
  unfold zbg
  have e: ∀x:zaa,zeS x x=some true:=fun x=>by simp [zeS]
  rw [if_pos (by simpa using hi),zac hi,Option.bind_some,Option.bind_some,e,Option.bind_some,if_neg (by simp),zaI hi (by omega)]) (by
  show zbg xs xs _=_
  unfold zbg
  rw [if_neg (by simp)])
theorem zFC {t:zab} (h:zc3 t):zeX t t=some true:=by
 unfold zeX
 rw [if_neg (by simp),zwz h.cols,Option.bind_some,if_neg (by simp),zBO h.idxs,Option.bind_some,if_neg (by simp)]
end Go.Proofs.YtfkblfjloegahaaGreatDoor
end
section
namespace Go.Proofs.YtfkblfjloegahaaGreatDoor
open Go.RowKit
set_option maxRecDepth 100000
theorem zwQ {xs:List Str} {a:Int} (h0:0≤a) (h1:a≤1048576) (hn:xs.length≤9223372036854775807) (hx: ∀x∈xs,x.length≤9223372036854775807): ∃v,zcW xs a=some v∧v≤a∧(0≤v→xs.length≤2000000∧ ∀x∈xs,x.length≤2000000):=by
 unfold zcW
 rw [zcL h0 h1 (by omega)]
 by_cases h2:a-(xs.length:Int)<0
 ·rw [if_pos (by simpa using h2)];exact⟨-1,rfl,by omega,by omega⟩
 ·rw [if_neg (by simpa using h2)]
  obtain⟨v,e1,e2,e3⟩:=zGq (xs:=xs) (body:=fun s:Int × Int=>zaH xs s.1 s.2) (fun x=>x.length≤2000000) (a:=a-xs.length) (by omega) (by omega) (fun i hi b hb0 hb1=>by
   refine⟨b-(xs[i].length:Int),by omega,fun h=>by show xs[i].length≤2000000;omega, ?_⟩
   show zaH xs b i=_
   unfold zaH
   rw [if_pos (by simpa using hi),zac hi,Option.bind_some,zcL hb0 hb1 (hx _ (List.getElem_mem hi)),zaI hi (by omega)]
   by_cases h3:b-(xs[i].length:Int)<0
   ·rw [if_pos (by simpa using h3),if_pos h3]
   ·rw [if_neg (by simpa using h3),if_neg h3]) (fun b=>by
   show zaH xs b _=_
   unfold zaH
   rw [if_neg (by simp)])
  exact⟨v,e1,by omega,fun hv=>⟨by omega,e3 hv⟩⟩
theorem zBd {xs:List zbI} {a:Int} (h0:0≤a) (h1:a≤1048576) (hn:xs.length≤9223372036854775807) (hx: ∀x∈xs,x.fName.length≤9223372036854775807): ∃v,zfw xs a=some v∧v≤a∧(0≤v→xs.length≤2000000∧ ∀x∈xs,x.fName.length≤2000000):=by
 unfold zfw
 rw [zcL h0 h1 (by omega)]
 by_cases h2:a-(xs.length:Int)<0
 ·rw [if_pos (by simpa using h2)];exact⟨-1,rfl,by omega,by omega⟩
 ·rw [if_neg (by simpa using h2)]
  obtain⟨v,e1,e2,e3⟩:=zGq (xs:=xs) (body:=fun s:Int × Int=>zaM xs s.1 s.2) (fun x=>x.fName.length≤2000000) (a:=a-xs.length) (by omega) (by omega) (fun i hi b hb0 hb1=>by
   have hb2:=zcL hb0 hb1 (hx _ (List.getElem_mem hi))
   by_cases h3:b-(xs[i].fName.length:Int)<0
   ·refine⟨-1,by omega,by omega, ?_⟩
    show zaM xs b i=_
    unfold zaM zgm
    rw [if_pos (by simpa using hi),zac hi,Option.bind_some,hb2,if_pos (by simpa using h3),Option.bind_some,if_pos (by simp),if_pos (by omega)]
   ·refine⟨b-(xs[i].fName.length:Int),by omega,fun h=>by show xs[i].fName.length≤2000000;omega, ?_⟩
    show zaM xs b i=_
    unfold zaM zgm
    rw [if_pos (by simpa using hi),zac hi,Option.bind_some,hb2,if_neg (by simpa using h3),Option.bind_some,if_neg (by simpa using h3),if_neg h3,zaI hi (by omega)]) (fun b=>by
   show zaM xs b _=_
   unfold zaM
   rw [if_neg (by simp)])
  exact⟨v,e1,by omega,fun hv=>⟨by omega,e3 hv⟩⟩
theorem zAj {x:zaa} {a:Int} (h0:0≤a) (h1:a≤1048576) (hk:x.fKey.length≤9223372036854775807) (hv:x.fVal.length≤9223372036854775807): ∃r,zeU x a=some r∧r≤a∧(0≤r→x.fKey.length≤2000000∧x.fVal.length≤2000000):=by
 unfold zeU
 rw [zcL h0 h1 hk]
 by_cases h2:a-(x.fKey.length:Int)<0
 ·rw [if_pos (by simpa using h2)];exact⟨-1,rfl,by omega,by omega⟩
 ·rw [if_neg (by simpa using h2),zcL (by omega) (by omega) hv]
  by_cases h3:a-(x.fKey.length:Int)-(x.fVal.length:Int)<0
  ·rw [if_pos (by simpa using h3)];exact⟨-1,rfl,by omega,by omega⟩
  ·rw [if_neg (by simpa using h3)];exact⟨_,rfl,by omega,fun _=>by omega⟩
theorem zEj {xs:List zaa} {a:Int} (h0:0≤a) (h1:a≤1048576) (hn:xs.length≤9223372036854775807) (hx: ∀x∈xs,x.fKey.length≤9223372036854775807∧x.fVal.length≤9223372036854775807): ∃v,zd7 xs a=some v∧v≤a∧(0≤v→zpi xs):=by
 unfold zd7
 rw [zcL h0 h1 (by omega)]
 by_cases h2:a-(xs.length:Int)<0
 ·rw [if_pos (by simpa using h2)];exact⟨-1,rfl,by omega,by omega⟩
 ·rw [if_neg (by simpa using h2)]
  obtain⟨v,e1,e2,e3⟩:=zGq (xs:=xs) (body:=fun s:Int × Int=>zaR xs s.1 s.2) (fun x=>x.fKey.length≤2000000∧x.fVal.length≤2000000) (a:=a-xs.length) (by omega) (by omega) (fun i hi b hb0 hb1=>by
   obtain⟨r,f1,f2,f3⟩:=zAj hb0 hb1 (hx _ (List.getElem_mem hi)).1 (hx _ (List.getElem_mem hi)).2
   refine⟨r,f2,f3, ?_⟩
   show zaR xs b i=_
   unfold zaR
   rw [if_pos (by simpa using hi),zac hi,Option.bind_some,f1,Option.bind_some,zaI hi (by omega)]
   by_cases h3:r<0
   ·rw [if_pos (by simpa using h3),if_pos h3]
   ·rw [if_neg (by simpa using h3),if_neg h3]) (fun b=>by
   show zaR xs b _=_
   unfold zaR
   rw [if_neg (by simp)])
  exact⟨v,e1,by omega,fun hv=>⟨by omega,e3 hv⟩⟩
structure zHX (t:zab):Prop where
 name:t.fName.length≤9223372036854775807
 cols:t.fCols.length≤9223372036854775807
 col: ∀c∈t.fCols,c.length≤9223372036854775807
 idxs:t.fIdxs.length≤9223372036854775807
 idx: ∀x∈t.fIdxs,x.fName.length≤9223372036854775807
theorem zEP {t:zab} {a:Int} (h0:0≤a) (h1:a≤1048576) (h:zHX t): ∃v,ze2 t a=some v∧v≤a∧(0≤v→zc3 t):=by
 unfold ze2
 rw [zcL h0 h1 h.name]
 by_cases h2:a-(t.fName.length:Int)<0
 ·rw [if_pos (by simpa using h2)];exact⟨-1,rfl,by omega,by omega⟩
 ·rw [if_neg (by simpa using h2)]
  obtain⟨v,e1,e2,e3⟩:=zwQ (xs:=t.fCols) (a:=a-t.fName.length) (by omega) (by omega) h.cols h.col
  rw [e1,Option.bind_some]
  by_cases h3:v<0
  ·rw [if_pos (by simpa using h3)];exact⟨-1,rfl,by omega,by omega⟩
  ·rw [if_neg (by simpa using h3)]
   obtain⟨u,f1,f2,f3⟩:=zBd (xs:=t.fIdxs) (a:=v) (by omega) (by omega) h.idxs h.idx
   rw [f1,Option.bind_some]
   by_cases h4:u<0
   ·rw [if_pos (by simpa using h4)];exact⟨-1,rfl,by omega,by omega⟩
   ·rw [if_neg (by simpa using h4)]
    have g1:=e3 (by omega)
    have g2:=f3 (by omega)
    exact⟨u,rfl,by omega,fun _=>⟨by omega,g1.1,g1.2,g2.1,g2.2⟩⟩
end Go.Proofs.YtfkblfjloegahaaGreatDoor
end
section
namespace Go.Proofs.YtfkblfjloegahaaGreatDoor
open Go.RowKit
set_option maxRecDepth 100000
def zGd (st:List Int):Int:=if st.contains 3 then 2 else if st.contains 0 then 0 else 1
theorem zzW {xs:List Int} {k:Int} (h:xs.length≤2000000):zig xs k=some (xs.contains k):=by
 have key: ∀(n q:Nat),q+n=xs.length→zal (fun s:Int=>zee xs k s) (q:Int)=some ((xs.drop q).contains k):=by
  intro n
  induction n with
  |zero=>
   intro q hq
   have:q=xs.length:=by omega
   subst this
   rw [zaP]
   have e:zee xs k xs.length=some (.inr (some false)):=by
    unfold zee
    rw [if_neg (by simp)]
   rw [e]
   simp
  |succ n ih=>
   intro q hq
   have hlt:q<xs.length:=by omega
   have ih2:=ih (q+1) (by omega)
   rw [zaP,List.drop_eq_getElem_cons hlt,List.contains_cons]
   have e:zee xs k q=some (if(xs[q]==k)=true then .inr (some true)else .inl ((q+1:Nat):Int)):=by
    unfold zee
    rw [if_pos (by simpa using hlt),zac hlt,Option.bind_some,zaI hlt (by omega)]
    cases(xs[q]==k)<;>rfl
   rw [e]
   by_cases h1:(xs[q]==k)=true
   ·have h2:xs[q]=k:=by simpa using h1
    rw [if_pos h1];simp [h2]
   ·have h2:(k==xs[q])=false:=by
     rw [Bool.eq_false_iff];intro h3;exact h1 (by simp at h3 ⊢;omega)
    rw [if_neg h1,h2,Bool.false_or];exact ih2
 have:=key xs.length 0 (by omega)
 unfold zig
 simpa using this
theorem zDh {s:zaf} {st:List Int} (hn:st.length=s.fAt.length) (hl:st.length≤2000000) (hs: ∀(i:Nat) (hi:i<st.length),∃tb,zaJ s i=some tb∧zbF s tb=some st[i]):zeA s=some (zGd st):=by
 have key: ∀(n q:Nat) (v:Int),q+n=st.length→zal (fun x:Int × Int=>zbJ s x.1 x.2) (v,(q:Int))=some (if(st.drop q).contains 3 then 2 else if(st.drop q).contains 0 then 0 else v):=by
  intro n
  induction n with
  |zero=>
   intro q v hq
   have:q=st.length:=by omega
   subst this
   have e:zbJ s v st.length=some (.inr (some v)):=by
    unfold zbJ
    rw [if_neg (by simp [hn])]
   rw [zaP]
   dsimp only
   rw [e]
   simp
  |succ n ih=>
   intro q v hq
   have hlt:q<st.length:=by omega
   obtain⟨tb,e1,e2⟩:=hs q hlt
   have e:zbJ s v q=some (if(st[q]==3)=true then .inr (some 2)else if(st[q]==0)=true then .inl (0,((q+1:Nat):Int))else .inl (v,((q+1:Nat):Int))):=by
    unfold zbJ
    rw [if_pos (by simp;omega),e1,Option.bind_some,e2,Option.bind_some,zaI hlt (by omega)]
    cases(st[q]==3)<;>cases(st[q]==0)<;>rfl
   rw [zaP,List.drop_eq_getElem_cons hlt,List.contains_cons,List.contains_cons]
   dsimp only
   rw [e]
   by_cases h1:st[q]=3
   ·simp [h1]
   ·have i0:=ih (q+1) 0 (by omega)
    have iv:=ih (q+1) v (by omega)
    have h1a:(st[q]==3)=false:=by simpa using h1
    have h1b:((3:Int)==st[q])=false:=by simp;omega
    rw [h1a,h1b,Bool.false_or]
    by_cases h2:st[q]=0
    ·simp only [h2,beq_self_eq_true,Bool.true_or,if_true,Bool.false_eq_true,if_false]
     rw [i0];split<;>(try split)<;>rfl
    ·have h2a:(st[q]==0)=false:=by simpa using h2
     have h2b:((0:Int)==st[q])=false:=by simp;omega
     rw [h2a,h2b,Bool.false_or]
     exact iv
 have:=key st.length 0 1 (by omega)
 unfold zeA
 simpa [zGd]using this
end Go.Proofs.YtfkblfjloegahaaGreatDoor
end
section
namespace Go.Proofs.YtfkblfjloegahaaGreatDoor
open Go.RowKit
set_option maxRecDepth 100000
theorem zzB {s:zaf} {st:List Int} (hn:st.length=s.fAt.length) (hl:st.length≤2000000) (hs: ∀(i:Nat) (hi:i<st.length),∃y tb k x,zaA s.fAt i=some y∧zaA s.fWays y=some tb∧zbv tb s.fName=some k∧zaA tb.fIdxs k=some x∧x.fStage=st[i]):zf6 s=some st:=by
 unfold zf6
 have h1:=zbY (xs:=st) (body:=fun x:List Int × Int=>zcq s x.1 x.2) (fun i (o:List Int)=>(o,i)) (fun(o:List Int) x=>o++ [x]) (fun o=>some o) (fun i o=>o.length=i)
  (fun i hi o ho=>by
   refine⟨?_,by simp [ho]⟩
   obtain⟨y,tb,k,x,e1,e2,e3,e4,e5⟩:=hs i hi
   show zcq s o i=_
   unfold zcq
   have hq:((((o).length:Int)+(([x.fStage]:List Int).length:Int))*8≤140737488355328∧((o).length:Int)+(([x.fStage]:List Int).length:Int)≤140737488355328):=by rw [List.length_singleton];omega
   rw [if_pos (by simp;omega),e1,Option.bind_some,e2,Option.bind_some,e3,Option.bind_some,e4,Option.bind_some,zae hq,zaI hi (by omega),e5])
  (fun o ho=>by
   show zcq s o st.length=_
   unfold zcq
   rw [if_neg (by simp [hn])]) (s:=([]:List Int)) rfl
 have h3:=h1.1
 rw [show(fun(o:List Int) x=>o++ [x])=(fun o x=>o++ [id x])from rfl,zon,List.map_id,List.nil_append]at h3
 exact h3
theorem zDZ {s:zaf} {st:List Int} (hn:st.length=s.fAt.length) (hl:st.length≤2000000) (hs: ∀(i:Nat) (hi:i<st.length),∃y tb k x,zaA s.fAt i=some y∧zaA s.fWays y=some tb∧zbv tb s.fName=some k∧zaA tb.fIdxs k=some x∧x.fStage=st[i]):zhU s=some (zGd st):=by
 unfold zhU zGd
 rw [zzB hn hl hs,Option.bind_some,zzW hl,Option.bind_some,zzW hl,Option.bind_some]
 split<;>(try split)<;>rfl
end Go.Proofs.YtfkblfjloegahaaGreatDoor
end
section
namespace Go.Proofs.YtfkblfjloegahaaGreatDoor
open Go.RowKit
set_option maxRecDepth 100000
theorem zwk {α:Type} {xs:List α} {i:Int} {x:α} (h:zaA xs i=some x):0≤i∧xs[i.toNat]?=some x∧i<xs.length:=by
 unfold zaA at h
 split at h
 ·rename_i h0
  have:=(List.getElem?_eq_some_iff.1 h).1
  exact⟨h0,h,by omega⟩
 ·cases h
def znz (t:zab) (k c:Int):zab:=⟨t.fName,t.fCols,t.fIdxs.set k.toNat {((t.fIdxs[k.toNat]?).getD ⟨[],0,0⟩)with fStage:=c}⟩
def zhd (a b:Int):Int:=if a<b then a+1 else a-1
def zpG:Nat→Int→Int→List Int
 |0,_,_=> []
 |f+1,a,b=>if a=b then []else zhd a b::zpG f (zhd a b) b
def way (t:zab) (k a b:Int):List zab:=t::(zpG 3 a b).map (znz t k)
theorem zxI: ∀(f:Nat) {a b:Int},0≤a→a≤3→0≤b→b≤3→ ∀c∈zpG f a b,0≤c∧c≤3
 |0,_,_,_,_,_,_,c,hc=>by simp [zpG]at hc
 |f+1,a,b,h1,h2,h3,h4,c,hc=>by
  unfold zpG at hc
  split at hc
  ·simp at hc
  ·have hn:0≤zhd a b∧zhd a b≤3:=by unfold zhd;split<;>omega
   rcases List.mem_cons.1 hc with rfl|hc
   ·exact hn
   ·exact zxI f hn.1 hn.2 h3 h4 c hc
theorem zze: ∀(f:Nat) (a b:Int),(zpG f a b).length≤f
 |0,_,_=>by simp [zpG]
 |f+1,a,b=>by
  unfold zpG
  split
  ·simp
  ·have:=zze f (zhd a b) b
   simp;omega
theorem ztB {t:zab} {k b:Int} {body:Int × List zab→Option ((Int × List zab) ⊕ Option (List zab))} (hb0:0≤b) (hb3:b≤3)
  (hs: ∀a o,0≤a→a≤3→a≠b→o.length≤100→body (a,o)=some (.inl (zhd a b,o++ [znz t k (zhd a b)]))) (he: ∀o,body (b,o)=some (.inr (some o))):
  ∀(f:Nat) (a:Int) (o:List zab),0≤a→a≤3→(a-b).natAbs≤f→o.length+f≤100→zal body (a,o)=some (o++(zpG f a b).map (znz t k))
 |0,a,o,_,_,hf,_=>by
  have:a=b:=by omega
  subst this
  rw [zaP,he];simp [zpG]
 |f+1,a,o,h0,h3,hf,ho=>by
  by_cases hab:a=b
  ·subst hab
   rw [zaP,he];simp [zpG]
  ·rw [zaP,hs a o h0 h3 hab (by omega)]
   have hn:0≤zhd a b∧zhd a b≤3∧(zhd a b-b).natAbs≤f:=by unfold zhd;split<;>omega
   have:=ztB hb0 hb3 hs he f (zhd a b) (o++ [znz t k (zhd a b)]) hn.1 hn.2.1 hn.2.2 (by simp;omega)
   simp only [this,zpG,if_neg hab,List.map_cons,List.append_assoc,List.singleton_append]
theorem zAB {t:zab} (h:zc3 t):zfB t=some t:=by
 unfold zfB
 have h1:=h.cols
 have h2:=h.idxs
 rw [zae (by simp;omega),zae (by simp;omega)]
theorem zwI {t:zab} (h:zc3 t):zdH t=some t:=by
 unfold zdH zaY zbU
 have h1:=h.cols
 have h2:=h.idxs
 rw [zmq (by omega) (by omega),Option.bind_some,zmq (by omega) (by omega),Option.bind_some]
theorem zCw {t:zab} {n:Str} {x:zbI} {c:Int} (h:zc3 t) (hx:zh7 t n x):zgN t n c=some (znz t (zio (fun y:zbI=>y.fName==n) t.fIdxs) c):=by
 unfold zgN znz
 rw [zAB h,Option.bind_some,zq0 h,Option.bind_some,hx.at_,Option.bind_some,(zwk hx.at_).2.1]
 rfl
theorem zC0 {t:zab} {n:Str} {x:zbI} {c:Int} (h:zc3 t) (hx:zh7 t n x):zb2 t n c=some (znz t (zio (fun y:zbI=>y.fName==n) t.fIdxs) c):=by
 unfold zb2 znz
 rw [zwI h,Option.bind_some,zvb h,Option.bind_some,hx.at_,Option.bind_some,(zwk hx.at_).2.1]
 rfl
theorem zFM {t:zab} {n:Str} {x:zbI} {b:Int} (h:zc3 t) (hx:zh7 t n x) (h0:0≤x.fStage) (h3:x.fStage≤3) (hb0:0≤b) (hb3:b≤3):zi4 t n b=some (way t (zio (fun y:zbI=>y.fName==n) t.fIdxs) x.fStage b):=by
 unfold zi4
 rw [zAB h,Option.bind_some,zq0 h,Option.bind_some,hx.at_,Option.bind_some]
 refine(ztB (t:=t) (k:=zio (fun y:zbI=>y.fName==n) t.fIdxs) hb0 hb3 ?_ ?_ 3 x.fStage [t] h0 h3 (by omega) (by simp)).trans (by simp [way])
 ·intro a o ha0 ha3 hab ho
  show zeN t n b a o=_
  unfold zeN
  rw [if_pos (by simpa using hab)]
  have w1:IntKind.i64.wrap (a+1)=a+1:=zaD (by omega) (by omega)
  have w2:IntKind.i64.wrap (a-1)=a-1:=zaD (by omega) (by omega)
  by_cases hlt:a<b
  ·rw [if_pos (by simpa using hlt),w1,zCw h hx,Option.bind_some,zae (by simp;omega)]
   simp [zhd,hlt]
  ·rw [if_neg (by simpa using hlt),w2,zCw h hx,Option.bind_some,zae (by simp;omega)]
   simp [zhd,hlt]
 ·intro o
  show zeN t n b b o=_
  unfold zeN
  rw [if_neg (by simp)]
theorem zEJ {t:zab} {n:Str} {x:zbI} {b:Int} (h:zc3 t) (hx:zh7 t n x) (h0:0≤x.fStage) (h3:x.fStage≤3) (hb0:0≤b) (hb3:b≤3):zd1 t n b=some (way t (zio (fun y:zbI=>y.fName==n) t.fIdxs) x.fStage b):=by
 unfold zd1 zbD
 rw [zvb h,Option.bind_some,hx.at_,Option.bind_some,Option.bind_some,zwI h,Option.bind_some]
 refine(ztB (t:=t) (k:=zio (fun y:zbI=>y.fName==n) t.fIdxs) hb0 hb3 ?_ ?_ 3 x.fStage [t] h0 h3 (by omega) (by simp)).trans (by simp [way])
 ·intro a o ha0 ha3 hab ho
  show zb7 t n b a o=_
  unfold zb7
  rw [if_pos (by simpa using hab)]
  have w1:IntKind.i64.wrap (a+1)=a+1:=zaD (by omega) (by omega)
  have w2:IntKind.i64.wrap (a-1)=a-1:=zaD (by omega) (by omega)
  by_cases hlt:a<b
  ·rw [if_pos (by simpa using hlt),w1,zC0 h hx,Option.bind_some,zae (by simp;omega)]
   simp [zhd,hlt]
  ·rw [if_neg (by simpa using hlt),w2,zC0 h hx,Option.bind_some,zae (by simp;omega)]
   simp [zhd,hlt]
 ·intro o
  show zb7 t n b b o=_
  unfold zb7
  rw [if_neg (by simp)]
theorem zkl {α β:Type} {xs ys:List α} (hl:xs.length=ys.length) {body:Int→Option (Int ⊕ Option β)} (p:α→α→Bool) (b:β) (fin:Option β)
  (hs: ∀(i:Nat) (hi:i<xs.length) (hj:i<ys.length),body i=some (if p xs[i] ys[i]=true then .inl ((i+1:Nat):Int)else .inr (some b))) (he:body xs.length=some (.inr fin)):zal body 0=if((xs.zip ys).all fun z=>p z.1 z.2)=true then fin else some b:=by
 have hz:(xs.zip ys).length=xs.length:=by simp [hl]
 have h1:=zob (xs:=xs.zip ys) (body:=body) (fun i (_:Unit)=>i) (fun z _=>some (if p z.1 z.2=true then .inl ()else .inr (some b))) (fun _=>fin)
  (fun i hi s=>by
   have hi1:i<xs.length:=by omega
   have hi2:i<ys.length:=by omega
   rw [hs i hi1 hi2,List.getElem_zip]
   cases p xs[i] ys[i]<;>simp [zuy]) (fun s=>by rw [hz];exact he) ()
 rw [zwd (fun z:α × α=>p z.1 z.2) b fun x _ s=>rfl]at h1
 exact h1
theorem znw {α γ:Type} {p:α→α→Bool} {f:α→γ} (h: ∀x y,p x y=true↔f x=f y): ∀{xs ys:List α},xs.length=ys.length→(((xs.zip ys).all fun z=>p z.1 z.2)=true↔xs.map f=ys.map f)
 | [], [],_=>by simp
 | [],_::_,h=>by simp at h
 |_::_, [],h=>by simp at h
 |x::xs,y::ys,hl=>by
  have:=znw h (xs:=xs) (ys:=ys) (by simpa using hl)
  simp only [List.zip_cons_cons,List.all_cons,Bool.and_eq_true,List.map_cons,List.cons.injEq,this,h]
def nc (x:zbI):Str × Int:=(x.fName,x.fCol)
theorem zAQ {x y:zbI} (h1:nc x=nc y) (h2:x.fStage=y.fStage):x=y:=by
 cases x;cases y
 simp [nc]at h1 h2
 simp [h1,h2]
theorem zum: ∀{xs ys:List zbI},xs.map nc=ys.map nc→xs.map (·.fStage)=ys.map (·.fStage)→xs=ys
 | [], [],_,_=>rfl
 | [],_::_,h,_=>by simp at h
 |_::_, [],h,_=>by simp at h
 |x::xs,y::ys,h1,h2=>by
  simp only [List.map_cons,List.cons.injEq]at h1 h2
  rw [zAQ h1.1 h2.1,zum h1.2 h2.2]
theorem zqt {a b:zab} (h1:a.fName=b.fName) (h2:a.fCols=b.fCols) (h3:a.fIdxs=b.fIdxs):a=b:=by
 cases a;cases b;simp at h1 h2 h3;simp [h1,h2,h3]
theorem zx6 {a b:zab} (ha:zc3 a): ∃r,zfd a b=some r∧(r=true↔a.fName=b.fName∧a.fCols=b.fCols∧a.fIdxs.map nc=b.fIdxs.map nc):=by
 unfold zfd
 by_cases h0:(((a.fName !=b.fName)||((a.fCols.length:Int) !=(b.fCols.length:Int)))||((a.fIdxs.length:Int) !=(b.fIdxs.length:Int)))=true
 ·rw [if_pos h0]
  refine⟨_,rfl,by simp, ?_⟩
  rintro⟨h1,h2,h3⟩
  have h4:=congrArg List.length h3
  simp only [List.length_map]at h4
  rw [h1,h2,h4]at h0
  simp at h0
 ·rw [if_neg h0]
  simp only [Bool.or_eq_true,bne_iff_ne,ne_eq,not_or,Decidable.not_not,Int.natCast_inj]at h0
  obtain⟨⟨h1,h2⟩,h3⟩:=h0
  have hc:=ha.cols
  have hi:=ha.idxs
  rw [zkl (xs:=a.fCols) (ys:=b.fCols) h2 (fun x y=>x==y) false (zdM a b) ?_ ?_]
  ·have hk:zdM a b=some ((a.fIdxs.zip b.fIdxs).all fun z=>nc z.1==nc z.2):=by
    unfold zdM
    rw [zkl (xs:=a.fIdxs) (ys:=b.fIdxs) h3 (fun x y=>nc x==nc y) false (some true) ?_ ?_]
    ·cases((a.fIdxs.zip b.fIdxs).all fun z=>nc z.1==nc z.2)<;>rfl
    ·intro i hi1 hj1
     show zcy a b i=_
     unfold zcy
     rw [if_pos (by simpa using hi1),zac hi1,Option.bind_some,zac hj1,Option.bind_some,zaI hi1 (by omega)]
     by_cases hq:nc a.fIdxs[i]=nc b.fIdxs[i]
     ·have hq2:=hq
      simp only [nc,Prod.mk.injEq]at hq2
      rw [if_neg (by simp [hq2.1,hq2.2]),if_pos (by simpa using hq)]
     ·have hq2:=hq
      simp only [nc,Prod.mk.injEq,not_and]at hq2
      rw [if_pos (by simp only [Bool.or_eq_true,bne_iff_ne,ne_eq];by_cases hz:a.fIdxs[i].fName=b.fIdxs[i].fName;exact .inr (hq2 hz);exact .inl hz),if_neg (by simpa using hq)]
    ·show zcy a b a.fIdxs.length=_
     unfold zcy
     rw [if_neg (by simp)]
   have z1:=znw (p:=fun x y:Str=>x==y) (f:=id) (by simp) h2
   have z2:=znw (p:=fun x y:zbI=>nc x==nc y) (f:=nc) (by simp) h3
   rw [List.map_id,List.map_id]at z1
   rw [hk]
   by_cases hz:((a.fCols.zip b.fCols).all fun z=>z.1==z.2)=true
   ·rw [if_pos hz]
    exact⟨_,rfl,by rw [z2];exact⟨fun h=>⟨h1,z1.1 hz,h⟩,fun h=>h.2.2⟩⟩
   ·rw [if_neg hz]
    exact⟨_,rfl,by simp,fun h=>absurd (z1.2 h.2.1) hz⟩
  ·intro i hi1 hj1
   show zcG a b i=_
   unfold zcG
   rw [if_pos (by simpa using hi1),zac hi1,Option.bind_some,zac hj1,Option.bind_some,zaI hi1 (by omega)]
   by_cases hq:a.fCols[i]=b.fCols[i]
   ·rw [if_neg (by simp [hq]),if_pos (by simpa using hq)]
   ·rw [if_pos (by simpa using hq),if_neg (by simpa using hq)]
  ·show zcG a b a.fCols.length=_
   unfold zcG
   rw [if_neg (by simp)]
structure zCK (t:zab):Prop where
 len:t.fIdxs.length≤3
 stg: ∀x∈t.fIdxs,0≤x.fStage∧x.fStage≤3
theorem zxK: ∀(l:List (zbI × zbI)) (s:Int),0≤s→(l.foldl (fun s z=>s+((z.1.fStage-z.2.fStage).natAbs:Int)) s=0↔s=0∧ ∀z∈l,z.1.fStage=z.2.fStage)
 | [],s,_=>by simp
 |z::l,s,h=>by
  rw [List.foldl_cons,zxK l _ (by omega)]
  constructor
  ·rintro⟨h1,h2⟩
   exact⟨by omega,fun y hy=>by
    rcases List.mem_cons.1 hy with rfl|hy
    ·omega
    ·exact h2 y hy⟩
  ·rintro⟨h1,h2⟩
   have:=h2 z (by simp)
   exact⟨by omega,fun y hy=>h2 y (by simp [hy])⟩
theorem zvu: ∀{xs ys:List zbI},xs.length=ys.length→((∀z∈xs.zip ys,z.1.fStage=z.2.fStage)↔xs.map (·.fStage)=ys.map (·.fStage))
 | [], [],_=>by simp
 | [],_::_,h=>by simp at h
 |_::_, [],h=>by simp at h
 |x::xs,y::ys,hl=>by
  have:=zvu (xs:=xs) (ys:=ys) (by simpa using hl)
  simp only [List.zip_cons_cons,List.forall_mem_cons,this,List.map_cons,List.cons.injEq]
theorem zFe (d:Int) (h1: -3≤d) (h2:d≤3):ziS d (IntKind.i64.wrap (0-d))=some (d.natAbs:Int):=by
 rw [zaD (by omega) (by omega)]
 unfold ziS
 by_cases h:d>0-d
 ·rw [if_pos (by simpa using h)];congr 1;omega
 ·rw [if_neg (by simpa using h)];congr 1;omega
theorem zG6 {a b:zab} (ha:zCK a) (hb:zCK b) (hl:a.fIdxs.length=b.fIdxs.length): ∃v,ziN a b=some v∧(v=0↔a.fIdxs.map (·.fStage)=b.fIdxs.map (·.fStage)):=by
 unfold ziN
 have h3:=ha.len
 have hz:(a.fIdxs.zip b.fIdxs).length=a.fIdxs.length:=by simp [hl]
 have h1:=zbY (xs:=a.fIdxs.zip b.fIdxs) (body:=fun s:Int × Int=>zdJ a b s.1 s.2) (fun i (s:Int)=>(s,i)) (fun(s:Int) z=>s+((z.1.fStage-z.2.fStage).natAbs:Int)) (fun s=>some s) (fun i s=>0≤s∧s≤3*(i:Int))
  (fun i hi s hs=>by
   have hi1:i<a.fIdxs.length:=by omega
   have hi2:i<b.fIdxs.length:=by omega
   have ga:=ha.stg a.fIdxs[i] (List.getElem_mem hi1)
   have gb:=hb.stg b.fIdxs[i] (List.getElem_mem hi2)
   rw [List.getElem_zip]
   refine⟨?_, ?_, ?_⟩
   ·show zdJ a b s i=_
    unfold zdJ
    rw [if_pos (by simpa using hi1),zac hi1,Option.bind_some,zac hi2,Option.bind_some,zaD (n:=a.fIdxs[i].fStage-b.fIdxs[i].fStage) (by omega) (by omega),zFe _ (by omega) (by omega),Option.bind_some,zaI hi1 (by omega),zaD (by omega) (by omega)]
   ·dsimp only;omega
   ·dsimp only;push_cast;omega)
  (fun s hs=>by
   show zdJ a b s ((a.fIdxs.zip b.fIdxs).length:Int)=_
   unfold zdJ
   rw [hz,if_neg (by simp)]) (s:=0) ⟨by omega,by omega⟩
 refine⟨_,h1.1, ?_⟩
 rw [zxK _ _ (by omega),←zvu hl]
 simp
def eqT (a b:zab):Bool:=a.fName==b.fName&&(a.fCols==b.fCols&&(a.fIdxs.map nc==b.fIdxs.map nc&&a.fIdxs.map (·.fStage)==b.fIdxs.map (·.fStage)))
theorem zoR {a b:zab}:eqT a b=true↔a=b:=by
 unfold eqT
 simp only [Bool.and_eq_true,beq_iff_eq]
 constructor
 ·rintro⟨h1,h2,h3,h4⟩;exact zqt h1 h2 (zum h3 h4)
 ·rintro rfl;simp
theorem zB8 {a b:zab} (ha:zc3 a):zcg a b=some (eqT a b):=by
 have key: ∃r,zcg a b=some r∧(r=true↔a=b):=by
  unfold zcg
  by_cases h1:(a.fName==b.fName)=true
  ·rw [if_pos h1]
   have h1':a.fName=b.fName:=by simpa using h1
   have e1: ∃r,zbu a.fCols b.fCols=some r∧(r=true↔a.fCols=b.fCols):=by
    unfold zbu
    by_cases h2:((a.fCols.length:Int) !=(b.fCols.length:Int))=true
    ·rw [if_pos h2]
     exact⟨_,rfl,by simp,fun h=>by rw [h]at h2;simp at h2⟩
    ·rw [if_neg h2]
     have h2':a.fCols.length=b.fCols.length:=by
      have:(a.fCols.length:Int)=b.fCols.length:=by simpa using h2
      omega
     rw [zkl (xs:=a.fCols) (ys:=b.fCols) h2' (fun x y=>x==y) false (some true) ?_ ?_]
     ·have z1:=znw (p:=fun x y:Str=>x==y) (f:=id) (by simp) h2'
      rw [List.map_id,List.map_id]at z1
      rw [←z1]
      cases hz:((a.fCols.zip b.fCols).all fun z=>z.1==z.2)<;>exact⟨_,rfl,by simp⟩
     ·intro i hi1 hj1
      show zaK a.fCols b.fCols i=_
      unfold zaK
      have:=ha.cols
      rw [if_pos (by simpa using hi1),zac hi1,Option.bind_some,zac hj1,Option.bind_some,zaI hi1 (by omega)]
      by_cases hq:a.fCols[i]=b.fCols[i]
      ·rw [if_neg (by simp [hq]),if_pos (by simpa using hq)]
      ·rw [if_pos (by simpa using hq),if_neg (by simpa using hq)]
     ·show zaK a.fCols b.fCols a.fCols.length=_
      unfold zaK
      rw [if_neg (by simp)]
   obtain⟨r1,e1,f1⟩:=e1
   rw [e1,Option.bind_some]
   by_cases h2:r1=true
   ·rw [if_pos h2]
    have h2':=f1.1 h2
    have e2: ∃r,za5 a.fIdxs b.fIdxs=some r∧(r=true↔a.fIdxs=b.fIdxs):=by
     unfold za5
     by_cases h3:((a.fIdxs.length:Int) !=(b.fIdxs.length:Int))=true
     ·rw [if_pos h3]
      exact⟨_,rfl,by simp,fun h=>by rw [h]at h3;simp at h3⟩
     ·rw [if_neg h3]
      have h3':a.fIdxs.length=b.fIdxs.length:=by
       have:(a.fIdxs.length:Int)=b.fIdxs.length:=by simpa using h3
       omega
      rw [zkl (xs:=a.fIdxs) (ys:=b.fIdxs) h3' (fun x y=>x.fName==y.fName&&(x.fCol==y.fCol&&(x.fStage==y.fStage))) false (some true) ?_ ?_]
      ·have z1:=znw (p:=fun x y:zbI=>x.fName==y.fName&&(x.fCol==y.fCol&&(x.fStage==y.fStage))) (f:=id) (fun x y=>by
        simp only [Bool.and_eq_true,beq_iff_eq,id]
        constructor
        ·rintro⟨k1,k2,k3⟩;exact zAQ (by simp [nc,k1,k2]) k3
        ·rintro rfl;simp) h3'
       rw [List.map_id,List.map_id]at z1
       rw [←z1]
       cases((a.fIdxs.zip b.fIdxs).all fun z=>z.1.fName==z.2.fName&&(z.1.fCol==z.2.fCol&&(z.1.fStage==z.2.fStage)))<;>exact⟨_,rfl,by simp⟩
      ·intro i hi1 hj1
       show zaB a.fIdxs b.fIdxs i=_
       unfold zaB
       have:=ha.idxs
       rw [if_pos (by simpa using hi1),zac hi1,Option.bind_some,zac hj1,Option.bind_some,zaI hi1 (by omega)]
       cases(a.fIdxs[i].fName==b.fIdxs[i].fName&&(a.fIdxs[i].fCol==b.fIdxs[i].fCol&&(a.fIdxs[i].fStage==b.fIdxs[i].fStage)))<;>rfl
      ·show zaB a.fIdxs b.fIdxs a.fIdxs.length=_
       unfold zaB
       rw [if_neg (by simp)]
    obtain⟨r2,e2,f2⟩:=e2
    rw [e2,Option.bind_some]
    exact⟨_,rfl,by rw [f2];exact⟨fun h=>zqt h1' h2' h,fun h=>by rw [h]⟩⟩
   ·rw [if_neg h2]
    exact⟨_,rfl,by simp,fun h=>absurd (f1.2 (by rw [h])) h2⟩
  ·rw [if_neg h1]
   exact⟨_,rfl,by simp,fun h=>by rw [h]at h1;simp at h1⟩
 obtain⟨r,e,f⟩:=key
 rw [e];congr 1
 rw [Bool.eq_iff_iff,f,zoR]
end Go.Proofs.YtfkblfjloegahaaGreatDoor
end
section
namespace Go.Proofs.YtfkblfjloegahaaGreatDoor
open Go.RowKit
set_option maxRecDepth 100000
structure zlv (s:zaf):Prop where
 name:s.fName.length≤2000000
 ways:s.fWays.length≤2000000
 way: ∀t∈s.fWays,zc3 t
 at_:s.fAt.length≤2000000
 store:zpi s.fStore
theorem zzw {t:zab} (h:zau t=true):zCK t:=by
 unfold zau at h
 simp only [Bool.and_eq_true,decide_eq_true_eq]at h
 refine⟨by omega,fun x hx=> ?_⟩
 obtain⟨i,hi,rfl⟩:=List.mem_iff_getElem.1 hx
 have h1:=List.all_eq_true.1 h.2 i (List.mem_range.2 hi)
 unfold zou at h1
 simp only [Bool.and_eq_true,List.getElem?_eq_getElem hi,Option.getD_some]at h1
 exact zbs.1 h1.1.2
theorem zxl {α γ:Type} (f:α→γ): ∀(l:List α) (k:Nat) (d y:α),f y=f ((l[k]?).getD d)→(l.set k y).map f=l.map f
 | [],k,d,y,_=>rfl
 |x::l,0,d,y,h=>by
  simp only [List.getElem?_cons_zero,Option.getD_some]at h
  simp [h]
 |x::l,k+1,d,y,h=>by
  simp only [List.getElem?_cons_succ]at h
  simp [zxl f l k d y h]
theorem zqT (t:zab) (k c:Int):(znz t k c).fIdxs.map (·.fName)=t.fIdxs.map (·.fName):=zxl _ _ _ ⟨[],0,0⟩ _ rfl
theorem zz2 {t:zab} {k c:Int} (h:zCK t) (h0:0≤c) (h3:c≤3):zCK (znz t k c):=by
 refine⟨by unfold znz;simpa using h.len,fun x hx=> ?_⟩
 rcases List.mem_or_eq_of_mem_set hx with hx|rfl
 ·exact h.stg x hx
 ·exact⟨h0,h3⟩
theorem zwK {t:zab} {k c:Int} (h:zc3 t):zc3 (znz t k c):=by
 refine⟨h.name,h.cols,h.col,by unfold znz;simpa using h.idxs,fun x hx=> ?_⟩
 have h1:x.fName∈(znz t k c).fIdxs.map (·.fName):=List.mem_map.2 ⟨x,hx,rfl⟩
 rw [zqT]at h1
 obtain⟨y,hy,e⟩:=List.mem_map.1 h1
 rw [←e];exact h.idx y hy
theorem zDJ {t:zab} {k a b:Int} (hS:zc3 t) (h:zCK t) (ha0:0≤a) (ha3:a≤3) (hb0:0≤b) (hb3:b≤3): ∀w∈way t k a b,w.fIdxs.map (·.fName)=t.fIdxs.map (·.fName)∧zCK w∧zc3 w:=by
 intro w hw
 rcases List.mem_cons.1 hw with rfl|hw
 ·exact⟨rfl,h,hS⟩
 ·obtain⟨c,hc,rfl⟩:=List.mem_map.1 hw
  have:=zxI 3 ha0 ha3 hb0 hb3 c hc
  exact⟨zqT t k c,zz2 h this.1 this.2,zwK hS⟩
theorem zAo {xs ys:List zbI} {n:Str} (h:xs.map (·.fName)=ys.map (·.fName)):decide (zio (fun x:zbI=>x.fName==n) xs≥0)=decide (zio (fun x:zbI=>x.fName==n) ys≥0):=by
 rw [zma,zma]
 have e: ∀l:List zbI,(l.any fun x=>x.fName==n)=(l.map (·.fName)).any (· ==n):=fun l=>by rw [List.any_map];rfl
 rw [e,e,h]
def noT:zab:=⟨[], [], []⟩
def zey (s:zaf):zab:=(s.fWays[0]?).getD noT
def znF (s:zaf):zab:=(s.fWays[s.fWays.length-1]?).getD noT
def kOf (t:zab) (n:Str):Int:=zio (fun y:zbI=>y.fName==n) t.fIdxs
def zug (t:zab) (n:Str):Int:=((t.fIdxs[(kOf t n).toNat]?).getD ⟨[],0,0⟩).fStage
def ziW (s:zaf):List zab:=way (zey s) (kOf (zey s) s.fName) (zug (zey s) s.fName) (zug (znF s) s.fName)
theorem zBD {t:zab} {n:Str} {x:zbI} (h:zh7 t n x):zug t n=x.fStage:=by
 unfold zug kOf
 rw [(zwk h.at_).2.1];rfl
theorem zrm {s:zaf} (h:1≤s.fWays.length):zaA s.fWays 0=some (zey s)∧zey s∈s.fWays:=by
 have h0:0<s.fWays.length:=by omega
 have e:zey s=s.fWays[0]:=by unfold zey;rw [List.getElem?_eq_getElem h0];rfl
 rw [e]
 exact⟨zac h0,List.getElem_mem h0⟩
theorem zw8 {s:zaf} (h:1≤s.fWays.length) (h4:s.fWays.length≤4):zaA s.fWays (IntKind.i64.wrap ((s.fWays.length:Int)-1))=some (znF s)∧znF s∈s.fWays:=by
 have h0:s.fWays.length-1<s.fWays.length:=by omega
 have e:znF s=s.fWays[s.fWays.length-1]:=by unfold znF;rw [List.getElem?_eq_getElem h0];rfl
 have w:IntKind.i64.wrap ((s.fWays.length:Int)-1)=((s.fWays.length-1:Nat):Int):=by rw [zaD (by omega) (by omega)];omega
 rw [e,w]
 exact⟨zac h0,List.getElem_mem h0⟩
theorem zqB {t:zab} {n:Str} (h:znG t n=true): ∃x,zh7 t n x∧zug t n=x.fStage∧0≤x.fStage∧x.fStage≤3∧zau t=true:=by
 obtain⟨x,hx,_⟩:=zCI h
 have hg:zau t=true:=by
  unfold znG at h
  simp only [Bool.and_eq_true]at h
  exact h.1
 have:=(zzw hg).stg x (zCb hx.at_)
 exact⟨x,hx,zBD hx,this.1,this.2,hg⟩
theorem zD8 {s:zaf} (hS:zlv s) (h1:1≤s.fWays.length) (h4:s.fWays.length≤4): ∃sw,ze1 s=some sw∧(sw=true↔(∀t∈s.fWays,znG t s.fName=true)∧s.fWays=ziW s):=by
 unfold ze1
 obtain⟨e0,m0⟩:=zrm h1
 obtain⟨e1,m1⟩:=zw8 h1 h4
 have S0:=hS.way _ m0
 have S1:=hS.way _ m1
 rw [zlC,Option.bind_some,if_pos (zbs.2 ⟨by omega,by omega⟩),e0,Option.bind_some,znU S0,Option.bind_some]
 have no: ∀{t:zab},t∈s.fWays→znG t s.fName≠true→(false=true↔(∀t∈s.fWays,znG t s.fName=true)∧s.fWays=ziW s):=fun ht hn=>⟨by simp,fun h=>absurd (h.1 _ ht) hn⟩
 by_cases g0:zau (zey s)=true
 ·rw [if_pos g0,zq0 S0,Option.bind_some]
  by_cases k0:zio (fun x:zbI=>x.fName==s.fName) (zey s).fIdxs<0
  ·rw [if_pos (by simpa using k0)]
   exact⟨_,rfl,no m0 (by unfold znG;intro hq;rw [Bool.and_eq_true,decide_eq_true_eq]at hq;omega)⟩
  ·rw [if_neg (by simpa using k0),e1,Option.bind_some,znU S1,Option.bind_some]
   by_cases g1:zau (znF s)=true
   ·rw [if_pos g1,zq0 S1,Option.bind_some]
    by_cases k1:zio (fun x:zbI=>x.fName==s.fName) (znF s).fIdxs<0
    ·rw [if_pos (by simpa using k1)]
     exact⟨_,rfl,no m1 (by unfold znG;intro hq;rw [Bool.and_eq_true,decide_eq_true_eq]at hq;omega)⟩
    ·rw [if_neg (by simpa using k1),Option.bind_some]
     have H0:znG (zey s) s.fName=true:=by unfold znG;simp only [Bool.and_eq_true,decide_eq_true_eq];exact⟨g0,by omega⟩
     have H1:znG (znF s) s.fName=true:=by unfold znG;simp only [Bool.and_eq_true,decide_eq_true_eq];exact⟨g1,by omega⟩
     obtain⟨x,hx,sx,x0,x3,_⟩:=zqB H0
     obtain⟨y,hy,sy,y0,y3,_⟩:=zqB H1
     rw [hy.at_,Option.bind_some,zFM S0 hx x0 x3 y0 y3,Option.bind_some]
     have hW:way (zey s) (zio (fun y:zbI=>y.fName==s.fName) (zey s).fIdxs) x.fStage y.fStage=ziW s:=by unfold ziW kOf;rw [sx,sy]
     rw [hW]
     have hM:=zDJ (t:=zey s) (k:=kOf (zey s) s.fName) (a:=zug (zey s) s.fName) (b:=zug (znF s) s.fName) S0 (zzw g0) (by omega) (by omega) (by omega) (by omega)
     have hM: ∀w∈ziW s,w.fIdxs.map (·.fName)=(zey s).fIdxs.map (·.fName)∧zCK w∧zc3 w:=hM
     by_cases hl:((ziW s).length:Int) !=(s.fWays.length:Int)
     ·rw [if_pos hl]
      exact⟨_,rfl,by simp,fun h=>by rw [←h.2]at hl;simp at hl⟩
     ·rw [if_neg hl]
      have hl':(ziW s).length=s.fWays.length:=by
       have:((ziW s).length:Int)=(s.fWays.length:Int):=by simpa using hl
       omega
      rw [zkl (xs:=ziW s) (ys:=s.fWays) hl' (fun w y=>zau y&&eqT w y) false (some true) ?_ ?_]
      ·have z1:=znw (p:=eqT) (f:=id) (fun x y=>zoR) hl'
       rw [List.map_id,List.map_id]at z1
       have z2:((ziW s).zip s.fWays).all (fun z=>zau z.2)=s.fWays.all zau:=by
        have:=List.map_snd_zip (l₁:=ziW s) (l₂:=s.fWays) (by omega)
        conv=>rhs;rw [←this]
        rw [List.all_map];rfl
       have z3:(((ziW s).zip s.fWays).all fun z=>zau z.2&&eqT z.1 z.2)=(s.fWays.all zau&&((ziW s).zip s.fWays).all fun z=>eqT z.1 z.2):=by
        rw [←z2]
        rw [Bool.eq_iff_iff]
        simp only [List.all_eq_true,Bool.and_eq_true]
        exact⟨fun h=>⟨fun z hz=>(h z hz).1,fun z hz=>(h z hz).2⟩,fun h z hz=>⟨h.1 z hz,h.2 z hz⟩⟩
       have key:(((ziW s).zip s.fWays).all fun z=>zau z.2&&eqT z.1 z.2)=true↔(∀t∈s.fWays,znG t s.fName=true)∧s.fWays=ziW s:=by
        rw [z3,Bool.and_eq_true,z1]
        constructor
        ·rintro⟨a1,a2⟩
         refine⟨fun t ht=> ?_,a2.symm⟩
         have q1:=List.all_eq_true.1 a1 t ht
         rw [←a2]at ht
         have q2:=zAo (n:=s.fName) (hM t ht).1
         unfold znG at H0 ⊢
         simp only [Bool.and_eq_true]at H0 ⊢
         exact⟨q1,by rw [q2];exact H0.2⟩
        ·rintro⟨a1,a2⟩
         exact⟨List.all_eq_true.2 fun t ht=>by have:=a1 t ht;unfold znG at this;simp only [Bool.and_eq_true]at this;exact this.1,a2.symm⟩
       by_cases hz:(((ziW s).zip s.fWays).all fun z=>zau z.2&&eqT z.1 z.2)=true
       ·rw [if_pos hz];exact⟨_,rfl,fun _=>key.1 hz,fun _=>rfl⟩
       ·rw [if_neg hz];exact⟨_,rfl,by simp,fun h=>absurd (key.2 h) hz⟩
      ·intro i hi hj
       show zeh s (ziW s) i=_
       unfold zeh
       have Sj:=hS.way _ (List.getElem_mem hj)
       obtain⟨_,Ti,Si⟩:=hM _ (List.getElem_mem hi)
       rw [if_pos (by simpa using hi),zac hj,Option.bind_some,znU Sj,Option.bind_some]
       by_cases gj:zau s.fWays[i]=true
       ·rw [if_pos gj,zac hi,Option.bind_some]
        obtain⟨r,er,fr⟩:=zx6 (a:=(ziW s)[i]) (b:=s.fWays[i]) Si
        rw [er,Option.bind_some]
        by_cases hr:r=true
        ·rw [if_pos hr]
         obtain⟨c1,c2,c3⟩:=fr.1 hr
         have c4:=congrArg List.length c3
         simp only [List.length_map]at c4
         obtain⟨v,ev,fv⟩:=zG6 Ti (zzw gj) c4
         rw [ev,Option.bind_some,zaI hi (by omega)]
         by_cases hv:v=0
         ·have:=zoR.2 (zqt c1 c2 (zum c3 (fv.1 hv)))
          rw [if_neg (by simp [hv]),if_pos (by rw [gj,this];rfl)]
         ·rw [if_pos (by simpa using hv),if_neg (by
           simp only [Bool.and_eq_true,not_and]
           intro _ h
           rw [zoR.1 h]at fv
           exact hv (fv.2 rfl))]
        ·rw [if_neg hr,if_neg (by
          simp only [Bool.and_eq_true,not_and]
          intro _ h
          rw [zoR.1 h]at fr
          exact hr (fr.2 ⟨rfl,rfl,rfl⟩))]
       ·rw [if_neg gj,if_neg (by simp [gj])]
      ·show zeh s (ziW s) (ziW s).length=_
       unfold zeh
       rw [if_neg (by simp)]
   ·rw [if_neg g1]
    exact⟨_,rfl,no m1 (by unfold znG;simp [g1])⟩
 ·rw [if_neg g0]
  exact⟨_,rfl,no m0 (by unfold znG;simp [g0])⟩
theorem zD1 {xs:List Int} {a b:Int} (h:xs.length≤2000000):zjK xs a b=some (xs.all fun y=>inB y a b):=by
 unfold zjK
 have h1:=zob (xs:=xs) (body:=fun s:Int=>zd3 xs a b s) (fun i (_:Unit)=>i) (fun y _=>some (if inB y a b=true then .inl ()else .inr (some false))) (fun _=>some true)
  (fun i hi s=>by
   show zd3 xs a b i=_
   unfold zd3
   rw [if_pos (by simpa using hi),zac hi,Option.bind_some,zlC,Option.bind_some,zaI hi (by omega)]
   cases inB xs[i] a b<;>simp [zuy]) (fun s=>by
   show zd3 xs a b xs.length=_
   unfold zd3
   rw [if_neg (by simp)]) ()
 rw [zwd (fun y=>inB y a b) false fun x _ s=>rfl]at h1
 refine h1.trans ?_
 cases(xs.all fun y=>inB y a b)<;>rfl
def zq4 (s:zaf):Prop:=1≤s.fWays.length∧s.fWays.length≤4∧(∀t∈s.fWays,znG t s.fName=true)∧s.fWays=ziW s∧inB s.fAt.length 1 3=true∧(∀y∈s.fAt,0≤y∧y≤(s.fWays.length:Int)-1)∧zda s.fStore=true
theorem zCG {s:zaf}:(s.fAt.all fun y=>inB y 0 ((s.fWays.length:Int)-1))=true↔ ∀y∈s.fAt,0≤y∧y≤(s.fWays.length:Int)-1:=by
 rw [List.all_eq_true]
 exact⟨fun h y hy=>zbs.1 (h y hy),fun h y hy=>zbs.2 (h y hy)⟩
theorem zDb {s:zaf} (hS:zlv s): ∃g,zeP s=some g∧(g=true↔zq4 s):=by
 unfold zeP
 by_cases h:1≤s.fWays.length∧s.fWays.length≤4
 ·obtain⟨sw,e,f⟩:=zD8 hS h.1 h.2
  rw [e,Option.bind_some]
  have w:IntKind.i64.wrap ((s.fWays.length:Int)-1)=(s.fWays.length:Int)-1:=zaD (by omega) (by omega)
  by_cases hw:sw=true
  ·rw [if_pos hw,zlC,Option.bind_some]
   by_cases h2:inB s.fAt.length 1 3=true
   ·rw [if_pos h2,w,zD1 hS.at_,Option.bind_some]
    by_cases h3:(s.fAt.all fun y=>inB y 0 ((s.fWays.length:Int)-1))=true
    ·rw [if_pos h3,zrk hS.store,Option.bind_some]
     exact⟨_,rfl,fun h5=>⟨h.1,h.2,(f.1 hw).1,(f.1 hw).2,h2,zCG.1 h3,h5⟩,fun h5=>h5.2.2.2.2.2.2⟩
    ·rw [if_neg h3];exact⟨_,rfl,by simp,fun h5=>absurd (zCG.2 h5.2.2.2.2.2.1) h3⟩
   ·rw [if_neg h2];exact⟨_,rfl,by simp,fun h5=>absurd h5.2.2.2.2.1 h2⟩
  ·rw [if_neg hw];exact⟨_,rfl,by simp,fun h5=>absurd (f.2 ⟨h5.2.2.1,h5.2.2.2.1⟩) hw⟩
 ·have e:ze1 s=some false:=by
   unfold ze1
   rw [zlC,Option.bind_some,if_neg (by rw [zbs];omega)]
  rw [e,Option.bind_some,if_neg (by simp)]
  exact⟨_,rfl,by simp,fun h5=>absurd ⟨h5.1,h5.2.1⟩ h⟩
theorem zzb {xs ys:List zab} (h: ∀t∈xs,zc3 t) (hl:xs.length≤2000000): ∃r,zak xs ys (fun a b=>zcg a b)=some r∧(r=true↔xs=ys):=by
 unfold zak
 by_cases h3:((xs.length:Int) !=(ys.length:Int))=true
 ·rw [if_pos h3]
  exact⟨_,rfl,by simp,fun h=>by rw [h]at h3;simp at h3⟩
 ·rw [if_neg h3]
  have h3':xs.length=ys.length:=by
   have:(xs.length:Int)=ys.length:=by simpa using h3
   omega
  rw [zkl (xs:=xs) (ys:=ys) h3' eqT false (some true) ?_ ?_]
  ·have z1:=znw (p:=eqT) (f:=id) (fun x y=>zoR) h3'
   rw [List.map_id,List.map_id]at z1
   rw [←z1]
   cases((xs.zip ys).all fun z=>eqT z.1 z.2)<;>exact⟨_,rfl,by simp⟩
  ·intro i hi1 hj1
   show zah xs ys (fun a b=>zcg a b) i=_
   unfold zah
   rw [if_pos (by simpa using hi1),zac hi1,Option.bind_some,zac hj1,Option.bind_some,zaI hi1 (by omega)]
   dsimp only
   rw [zB8 (h _ (List.getElem_mem hi1)),Option.bind_some]
   cases eqT xs[i] ys[i]<;>rfl
  ·show zah xs ys (fun a b=>zcg a b) xs.length=_
   unfold zah
   rw [if_neg (by simp)]
theorem zxN {s:zaf} {t:zab} {x:zbI} (h:zc3 t) (hx:zh7 t s.fName x):zbF s t=some x.fStage:=by
 unfold zbF zbD
 rw [zvb h,Option.bind_some,hx.at_,Option.bind_some,Option.bind_some]
theorem zDG {s:zaf} (hS:zlv s): ∃g,zeL s=some g∧(g=true↔zq4 s):=by
 unfold zeL
 rw [zhM,Option.bind_some]
 by_cases hb:inB s.fWays.length 1 4=true
 ·have h:=zbs.1 hb
  rw [if_pos hb,zhM,Option.bind_some]
  by_cases h2:inB s.fAt.length 1 3=true
  ·rw [if_pos h2,zDt hS.store,Option.bind_some]
   by_cases h3:zda s.fStore=true
   ·rw [if_neg (by simp [h3]),zqA (fun t=> !znG t s.fName) (fun t ht=>by unfold zgA;rw [zEf (hS.way t ht),Option.bind_some]) (by omega),Option.bind_some]
    by_cases h4:(s.fWays.any fun t=> !znG t s.fName)=true
    ·rw [if_pos h4]
     refine⟨_,rfl,by simp,fun h5=> ?_⟩
     obtain⟨t,ht,hn⟩:=List.any_eq_true.1 h4
     rw [h5.2.2.1 t ht]at hn
     simp at hn
    ·have hA: ∀t∈s.fWays,znG t s.fName=true:=fun t ht=>by
      cases hq:znG t s.fName with
      |true=>rfl
      |false=>exact absurd (List.any_eq_true.2 ⟨t,ht,by simp [hq]⟩) h4
     have w:IntKind.i64.wrap ((s.fWays.length:Int)-1)=(s.fWays.length:Int)-1:=zaD (by omega) (by omega)
     have hat:=hS.at_
     rw [if_neg h4,zqA (fun y=> !inB y 0 ((s.fWays.length:Int)-1)) (fun y hy=>by unfold zgX;rw [w,zhM,Option.bind_some]) (by omega),Option.bind_some]
     by_cases h5:(s.fAt.any fun y=> !inB y 0 ((s.fWays.length:Int)-1))=true
     ·rw [if_pos h5]
      refine⟨_,rfl,by simp,fun h6=> ?_⟩
      obtain⟨y,hy,hn⟩:=List.any_eq_true.1 h5
      rw [zbs.2 (h6.2.2.2.2.2.1 y hy)]at hn
      simp at hn
     ·have hB: ∀y∈s.fAt,0≤y∧y≤(s.fWays.length:Int)-1:=fun y hy=>by
       cases hq:inB y 0 ((s.fWays.length:Int)-1)with
       |true=>exact zbs.1 hq
       |false=>exact absurd (List.any_eq_true.2 ⟨y,hy,by simp [hq]⟩) h5
      obtain⟨e0,m0⟩:=zrm (s:=s) (by omega)
      obtain⟨e1,m1⟩:=zw8 (s:=s) (by omega) (by omega)
      obtain⟨x,hx,sx,x0,x3,_⟩:=zqB (hA _ m0)
      obtain⟨y,hy,sy,y0,y3,_⟩:=zqB (hA _ m1)
      rw [if_neg h5,e0,Option.bind_some,e1,Option.bind_some,zxN (hS.way _ m1) hy,Option.bind_some,zEJ (hS.way _ m0) hx x0 x3 y0 y3,Option.bind_some]
      have hW:way (zey s) (zio (fun y:zbI=>y.fName==s.fName) (zey s).fIdxs) x.fStage y.fStage=ziW s:=by unfold ziW kOf;rw [sx,sy]
      rw [hW]
      obtain⟨r,er,fr⟩:=zzb (xs:=s.fWays) (ys:=ziW s) hS.way hS.ways
      rw [er,Option.bind_some]
      exact⟨_,rfl,fun hr=>⟨by omega,by omega,hA,fr.1 hr,h2,hB,h3⟩,fun h6=>fr.2 h6.2.2.2.1⟩
   ·rw [if_pos (by simp [h3])];exact⟨_,rfl,by simp,fun h5=>absurd h5.2.2.2.2.2.2 h3⟩
  ·rw [if_neg h2];exact⟨_,rfl,by simp,fun h5=>absurd h5.2.2.2.2.1 h2⟩
 ·rw [if_neg hb];exact⟨_,rfl,by simp,fun h5=>absurd (zbs.2 ⟨by have:=h5.1;omega,by have:=h5.2.1;omega⟩) hb⟩
theorem zER {s:zaf} (hS:zlv s) (hg:zq4 s): ∃r,zhE s=some r∧zdN s=some r:=by
 obtain⟨h1,h4,hA,_,h3,hB,hR⟩:=hg
 have h3:=zbs.1 h3
 obtain⟨e0,m0⟩:=zrm (s:=s) h1
 obtain⟨x,hx,k1,k2,k3⟩:=zCI (hA _ m0)
 have hT:=zDI hR
 have hW:=hS.store
 have hst: ∀y∈s.fAt,∃tb x,zaA s.fWays y=some tb∧tb∈s.fWays∧zh7 tb s.fName x∧zug tb s.fName=x.fStage:=fun y hy=>by
  obtain⟨tb,q1,q2,_⟩:=zo1 (hB y hy).1 (by have:=(hB y hy).2;omega:y<s.fWays.length)
  obtain⟨x,q3,q4,_⟩:=zqB (hA tb q2)
  exact⟨tb,x,q1,q2,q3,q4⟩
 let st:List Int:=s.fAt.map fun y=>zug ((zaA s.fWays y).getD noT) s.fName
 have hn:st.length=s.fAt.length:=by simp [st]
 have hl:st.length≤2000000:=by have:=hS.at_;omega
 have n1:=zDZ (s:=s) (st:=st) hn hl fun i hi=>by
  have hi':i<s.fAt.length:=by omega
  obtain⟨tb,x,q1,q2,q3,q4⟩:=hst _ (List.getElem_mem hi')
  refine⟨s.fAt[i],tb,_,x,zac hi',q1,zq0 (hS.way _ q2),q3.at_, ?_⟩
  simp only [st,List.getElem_map,q1,Option.getD_some,q4]
 have n2:=zDh (s:=s) (st:=st) hn hl fun i hi=>by
  have hi':i<s.fAt.length:=by omega
  obtain⟨tb,x,q1,q2,q3,q4⟩:=hst _ (List.getElem_mem hi')
  refine⟨tb, ?_, ?_⟩
  ·unfold zaJ
   rw [zac hi',Option.bind_some,q1,Option.bind_some]
  ·rw [zxN (hS.way _ q2) q3]
   simp only [st,List.getElem_map,q1,Option.getD_some,q4]
 unfold zhE zdN
 have S0:=hS.way _ m0
 have hnm:=hS.name
 have hask:zds (zey s) s.fName s.fStore=some true:=by
  rw [zA9 S0 hW];unfold zDd;rw [hA _ m0,hR];rfl
 rw [e0,Option.bind_some,Option.bind_some,n1,n2,Option.bind_some,Option.bind_some,zB7 S0 (by omega) hnm hx hW.1 hT hask,zBu S0 k1 hnm k3 hx hW.1 hT]
 exact⟨_,rfl,rfl⟩
end Go.Proofs.YtfkblfjloegahaaGreatDoor
end
section
namespace Go.Proofs.YtfkblfjloegahaaGreatDoor
open Go.RowKit
abbrev bl (a b:List UInt8):Bool:=Op.bytesLess a b
theorem zji: ∀a:List UInt8,bl a a=false
 | []=>rfl
 |x::a=>by
  have h: ¬x<x:=fun h=>by have:=UInt8.lt_iff_toNat_lt.1 h;omega
  show Op.bytesLess (x::a) (x::a)=false
  simp only [Op.bytesLess,h,decide_false,Bool.false_or,beq_self_eq_true,Bool.true_and]
  exact zji a
theorem zwP (x y:UInt8) (a b:List UInt8):bl (x::a) (y::b)=true↔x.toNat<y.toNat∨x=y∧bl a b=true:=by
 show Op.bytesLess (x::a) (y::b)=true↔_
 simp only [Op.bytesLess,Bool.or_eq_true,decide_eq_true_eq,Bool.and_eq_true,beq_iff_eq,UInt8.lt_iff_toNat_lt]
theorem zgF: ∀{a b c:List UInt8},bl a b=true→bl b c=true→bl a c=true
 | [],_, [],_,h=>by rename_i b _;cases b<;>cases h
 | [],_,_::_,_,_=>rfl
 |_::_, [],_,h,_=>by cases h
 |_::_,_::_, [],_,h=>by cases h
 |x::a,y::b,z::c,h1,h2=>by
  rw [zwP]at*
  rcases h1 with h1|⟨rfl,h1⟩<;>rcases h2 with h2|⟨rfl,h2⟩
  ·exact .inl (by omega)
  ·exact .inl h1
  ·exact .inl h2
  ·exact .inr ⟨rfl,zgF h1 h2⟩
theorem zCS: ∀a b:List UInt8,bl a b=true∨a=b∨bl b a=true
 | [], []=> .inr (.inl rfl)
 | [],_::_=> .inl rfl
 |_::_, []=> .inr (.inr rfl)
 |x::a,y::b=>by
  rw [zwP,zwP]
  rcases Nat.lt_trichotomy x.toNat y.toNat with h|h|h
  ·exact .inl (.inl h)
  ·have h0:x=y:=UInt8.toNat_inj.1 h
   subst h0
   rcases zCS a b with h1|h1|h1
   ·exact .inl (.inr ⟨rfl,h1⟩)
   ·exact .inr (.inl (by rw [h1]))
   ·exact .inr (.inr (.inr ⟨rfl,h1⟩))
  ·exact .inr (.inr (.inl h))
theorem zp5 {a b:List UInt8} (h:bl a b=true):bl b a=false:=by
 cases h2:bl b a with
 |false=>rfl
 |true=>have:=zgF h h2;rw [zji]at this;cases this
theorem zpJ {a b:List UInt8} (h:bl a b=true):a≠b:=by
 rintro rfl;rw [zji]at h;cases h
theorem zlL {a b:List UInt8} (h:bl a b=false) (hn:a≠b):bl b a=true:=by
 rcases zCS a b with h1|h1|h1
 ·rw [h]at h1;cases h1
 ·exact absurd h1 hn
 ·exact h1
section
variable {α:Type} (key:α→List UInt8)
def zp2 (l:List α):Prop:=l.Pairwise fun a b=>bl (key a) (key b)=true
def zmg (x:α):List α→List α
 | []=> [x]
 |y::l=>if bl (key x) (key y)=true then x::y::l else if key x=key y then x::l else y::zmg x l
variable {key}
theorem zp2.nodupKey {l:List α} (h:zp2 key l) {a b:α} (ha:a∈l) (hb:b∈l) (e:key a=key b):a=b:=by
 induction l with
 |nil=>cases ha
 |cons y l ih=>
  have h1:=List.pairwise_cons.1 h
  rcases List.mem_cons.1 ha with q1|q1<;>rcases List.mem_cons.1 hb with q2|q2
  ·rw [q1,q2]
  ·exact absurd (q1▸e) (zpJ (h1.1 _ q2))
  ·exact absurd (q2▸e.symm) (zpJ (h1.1 _ q1))
  ·exact ih h1.2 q1 q2
theorem zmw {x:α}: ∀{l:List α},zp2 key l→ ∀y,y∈zmg key x l↔y=x∨y∈l∧key y≠key x
 | [],_,y=>by simp [zmg]
 |z::l,h,y=>by
  have h1:=List.pairwise_cons.1 h
  unfold zmg
  split
  ·rename_i hb
   constructor
   ·intro hy
    rcases List.mem_cons.1 hy with rfl|hy
    ·exact .inl rfl
    ·refine .inr ⟨hy, ?_⟩
     rcases List.mem_cons.1 hy with rfl|hy
     ·exact(zpJ hb).symm
     ·exact(zpJ (zgF hb (h1.1 _ hy))).symm
   ·rintro(rfl|⟨hy,_⟩)
    ·simp
    ·exact List.mem_cons_of_mem _ hy
  ·rename_i hb
   split
   ·rename_i he
    constructor
    ·intro hy
     rcases List.mem_cons.1 hy with rfl|hy
     ·exact .inl rfl
     ·exact .inr ⟨List.mem_cons_of_mem _ hy,fun e=>zpJ (h1.1 _ hy) (by rw [e,he])⟩
    ·rintro(rfl|⟨hy,hn⟩)
     ·simp
     ·rcases List.mem_cons.1 hy with rfl|hy
      ·exact absurd he.symm hn
      ·exact List.mem_cons_of_mem _ hy
   ·rename_i he
    rw [List.mem_cons,zmw h1.2]
    constructor
    ·rintro(rfl|rfl|⟨hy,hn⟩)
     ·exact .inr ⟨by simp,fun e=>he e.symm⟩
     ·exact .inl rfl
     ·exact .inr ⟨List.mem_cons_of_mem _ hy,hn⟩
    ·rintro(rfl|⟨hy,hn⟩)
     ·exact .inr (.inl rfl)
     ·rcases List.mem_cons.1 hy with rfl|hy
      ·exact .inl rfl
      ·exact .inr (.inr ⟨hy,hn⟩)
theorem zlx {x:α}: ∀{l:List α},zp2 key l→zp2 key (zmg key x l)
 | [],_=>by simp [zmg,zp2]
 |z::l,h=>by
  have h1:=List.pairwise_cons.1 h
  unfold zmg
  split
  ·rename_i hb
   refine List.pairwise_cons.2 ⟨fun y hy=> ?_,h⟩
   rcases List.mem_cons.1 hy with rfl|hy
   ·exact hb
   ·exact zgF hb (h1.1 _ hy)
  ·rename_i hb
   split
   ·rename_i he
    exact List.pairwise_cons.2 ⟨fun y hy=>by rw [he];exact h1.1 _ hy,h1.2⟩
   ·rename_i he
    refine List.pairwise_cons.2 ⟨fun y hy=> ?_,zlx h1.2⟩
    rcases(zmw h1.2 y).1 hy with rfl|⟨hy,_⟩
    ·exact zlL (by simpa using hb) he
    ·exact h1.1 _ hy
theorem zp2.ext: ∀{a b:List α},zp2 key a→zp2 key b→(∀x,x∈a↔x∈b)→a=b
 | [], [],_,_,_=>rfl
 | [],y::b,_,_,h=>absurd ((h y).2 (by simp)) (by simp)
 |x::a, [],_,_,h=>absurd ((h x).1 (by simp)) (by simp)
 |x::a,y::b,ha,hb,h=>by
  have h1:=List.pairwise_cons.1 ha
  have h2:=List.pairwise_cons.1 hb
  have e:x=y:=by
   rcases List.mem_cons.1 ((h x).1 (by simp))with e|hx
   ·exact e
   ·rcases List.mem_cons.1 ((h y).2 (by simp))with e|hy
    ·exact e.symm
    ·have:=zgF (h1.1 _ hy) (h2.1 _ hx)
     rw [zji]at this;cases this
  subst e
  rw [zp2.ext h1.2 h2.2 fun z=> ?_]
  constructor
  ·intro hz
   rcases List.mem_cons.1 ((h z).1 (List.mem_cons_of_mem _ hz))with rfl|hz2
   ·have:=h1.1 _ hz;rw [zji]at this;cases this
   ·exact hz2
  ·intro hz
   rcases List.mem_cons.1 ((h z).2 (List.mem_cons_of_mem _ hz))with rfl|hz2
   ·have:=h2.1 _ hz;rw [zji]at this;cases this
   ·exact hz2
theorem zp2.filter {l:List α} (h:zp2 key l) (p:α→Bool):zp2 key (l.filter p):=List.Pairwise.filter p h
theorem zp2.sub {a b:List α} (h:zp2 key b) (hs:a.Sublist b):zp2 key a:=List.Pairwise.sublist hs h
theorem zxU {x:α}: ∀(l:List α),(zmg key x l).length≤l.length+1
 | []=>by simp [zmg]
 |y::l=>by
  unfold zmg
  have:=zxU (x:=x) l
  split
  ·simp
  ·split
   ·simp
   ·simp only [List.length_cons];omega
end
end Go.Proofs.YtfkblfjloegahaaGreatDoor
end
section
namespace Go.Proofs.YtfkblfjloegahaaGreatDoor
open Go.RowKit
set_option maxRecDepth 100000
def zh1 {α:Type} (r:α→α→Bool):List α→Bool
 | []=>true
 | [_]=>true
 |x::y::l=>r x y&&zh1 r (y::l)
theorem znZ {α:Type} {r:α→α→Bool} (ht: ∀a b c,r a b=true→r b c=true→r a c=true): ∀{l:List α},zh1 r l=true↔l.Pairwise fun a b=>r a b=true
 | []=>by simp [zh1]
 | [_]=>by simp [zh1]
 |x::y::l=>by
  rw [zh1,Bool.and_eq_true,znZ ht]
  constructor
  ·rintro⟨h1,h2⟩
   refine List.pairwise_cons.2 ⟨fun z hz=> ?_,h2⟩
   rcases List.mem_cons.1 hz with rfl|hz
   ·exact h1
   ·exact ht _ _ _ h1 ((List.pairwise_cons.1 h2).1 z hz)
  ·intro h
   have h:=List.pairwise_cons.1 h
   exact⟨h.1 y (by simp),h.2⟩
theorem zrt {α:Type} {r:α→α→Bool} {l:List α} {q:Nat} (h:q+1<l.length):zh1 r (l.drop q)=(r l[q] l[q+1]&&zh1 r (l.drop (q+1))):=by
 rw [List.drop_eq_getElem_cons (show q<l.length by omega),List.drop_eq_getElem_cons h,zh1]
theorem zGf {α β:Type} {xs:List α} {body:Int→Option (Int ⊕ Option β)} (p:α→Bool) (r:α→α→Bool) (b:β) (fin:Option β)
  (h0: ∀h:0<xs.length,body 0=some (if p xs[0]=true then .inl 1 else .inr (some b)))
  (hs: ∀i (h:i+1<xs.length),body ((i+1:Nat):Int)=some (if(p xs[i+1]&&r xs[i] xs[i+1])=true then .inl ((i+2:Nat):Int)else .inr (some b)))
  (he:body xs.length=some (.inr fin)):zal body 0=if(xs.all p&&zh1 r xs)=true then fin else some b:=by
 have key: ∀n q,q+1+n=xs.length→zal body ((q+1:Nat):Int)=if((xs.drop (q+1)).all p&&zh1 r (xs.drop q))=true then fin else some b:=by
  intro n
  induction n with
  |zero=>
   intro q hq
   rw [show((q+1:Nat):Int)=(xs.length:Int) by omega,zaP,he]
   have e1:xs.drop (q+1)= []:=List.drop_eq_nil_of_le (by omega)
   have e2:xs.drop q= [xs[q]]:=by rw [List.drop_eq_getElem_cons (by omega),e1]
   rw [e1,e2]
   simp [zh1]
  |succ n ih=>
   intro q hq
   rw [zaP,hs q (by omega),zrt (by omega),List.drop_eq_getElem_cons (show q+1<xs.length by omega),List.all_cons]
   have ih:=ih (q+1) (by omega)
   by_cases hp:(p xs[q+1]&&r xs[q] xs[q+1])=true
   ·rw [if_pos hp]
    simp only [Bool.and_eq_true]at hp
    simp only [hp.1,hp.2,Bool.true_and]
    rw [←List.drop_eq_getElem_cons (show q+1<xs.length by omega)]
    exact ih
   ·rw [if_neg hp]
    rw [if_neg]
    intro h
    simp only [Bool.and_eq_true]at h hp
    exact hp ⟨h.1.1,h.2.1⟩
 by_cases hz:0<xs.length
 ·rw [zaP,h0 hz]
  have:=key (xs.length-1) 0 (by omega)
  rw [List.drop_zero]at this
  have e:xs=xs[0]::xs.drop 1:=by rw [←List.drop_eq_getElem_cons hz,List.drop_zero]
  by_cases hp:p xs[0]=true
  ·rw [if_pos hp]
   show zal body ((0+1:Nat):Int)=_
   rw [this]
   have:xs.all p=(xs.drop 1).all p:=by rw [e,List.all_cons,hp,Bool.true_and];simp
   rw [this]
  ·rw [if_neg hp,if_neg]
   intro h
   simp only [Bool.and_eq_true,List.all_eq_true]at h
   exact hp (h.1 _ (List.getElem_mem hz))
 ·have:xs= []:=by cases xs with|nil=>rfl|cons=>simp at hz
  subst this
  rw [zaP,show(0:Int)=(([]:List α).length:Int)from rfl,he]
  simp [zh1]
def ziK {α:Type} (lt:α→Bool) (l:List α):Nat:=(l.takeWhile lt).length
theorem zo6 {α:Type} (lt:α→Bool): ∀l:List α,ziK lt l≤l.length
 | []=>by simp [ziK]
 |x::l=>by
  have:=zo6 lt l
  unfold ziK at this ⊢
  rw [List.takeWhile_cons]
  split<;>simp<;>omega
theorem zwO {α:Type} {lt:α→Bool}: ∀{l:List α} {i:Nat} (h:i<ziK lt l),lt (l[i]'(Nat.lt_of_lt_of_le h (zo6 lt l)))=true
 |x::l,i,h=>by
  unfold ziK at h
  rw [List.takeWhile_cons]at h
  split at h
  ·rename_i hx
   cases i with
   |zero=>exact hx
   |succ i=>exact zwO (l:=l) (i:=i) (by unfold ziK;simpa using h)
  ·simp at h
theorem zz5 {α:Type} {lt:α→Bool}: ∀{l:List α} (h:ziK lt l<l.length),lt l[ziK lt l]=false
 |x::l,h=>by
  by_cases hx:lt x=true
  ·have e:ziK lt (x::l)=ziK lt l+1:=by unfold ziK;rw [List.takeWhile_cons,if_pos hx];rfl
   have:=zz5 (l:=l) (lt:=lt) (by rw [e]at h;simpa using h)
   simp only [e,List.getElem_cons_succ]
   exact this
  ·have e:ziK lt (x::l)=0:=by unfold ziK;rw [List.takeWhile_cons,if_neg hx];rfl
   simp only [e,List.getElem_cons_zero]
   simpa using hx
theorem zDu {α β:Type} {xs:List α} {body:Int × Int→Option ((Int × Int) ⊕ Option β)} {fin:Int→Option β} (lt:α→Bool) (hm: ∀i j (hj:j<xs.length) (hi:i≤j),lt xs[j]=true→lt xs[i]=true)
  (hs: ∀i j:Nat,i<j→j≤xs.length→(h:(i+j)/2<xs.length)→body ((i:Int),(j:Int))=some (.inl (if lt xs[(i+j)/2]=true then((((i+j)/2+1:Nat):Int),(j:Int))else((i:Int),(((i+j)/2:Nat):Int)))))
  (he: ∀i:Nat,i≤xs.length→body ((i:Int),(i:Int))=some (.inr (fin i))):zal body (0,(xs.length:Int))=fin (ziK lt xs):=by
 have key: ∀n i j:Nat,j-i≤n→i≤ziK lt xs→ziK lt xs≤j→j≤xs.length→zal body ((i:Int),(j:Int))=fin (ziK lt xs):=by
  intro n
  induction n with
  |zero=>
   intro i j h1 h2 h3 h4
   have:i=j:=by omega
   subst this
   have:i=ziK lt xs:=by omega
   rw [zaP,he i h4,this]
  |succ n ih=>
   intro i j h1 h2 h3 h4
   by_cases hij:i=j
   ·subst hij
    have:i=ziK lt xs:=by omega
    rw [zaP,he i h4,this]
   ·have hlt:(i+j)/2<xs.length:=by omega
    rw [zaP,hs i j (by omega) h4 hlt]
    by_cases hc:lt xs[(i+j)/2]=true
    ·rw [if_pos hc]
     refine ih _ _ (by omega) ?_ h3 h4
     by_cases hp:(i+j)/2<ziK lt xs
     ·omega
     ·have h5:ziK lt xs<xs.length:=by omega
      have:=zz5 h5
      rw [hm _ _ hlt (by omega) hc]at this
      cases this
    ·rw [if_neg hc]
     refine ih _ _ (by omega) h2 ?_ (by omega)
     by_cases hp:(i+j)/2<ziK lt xs
     ·exact absurd (zwO hp) hc
     ·omega
 exact key xs.length 0 xs.length (by omega) (by omega) (zo6 lt xs) (Nat.le_refl _)
theorem zxR {α:Type} {key:α→List UInt8} {x:α}: ∀{l:List α},zp2 key l→zmg key x l=(match l[ziK (fun y=>bl (key y) (key x)) l]? with
  |some y=>if key y=key x then l.set (ziK (fun y=>bl (key y) (key x)) l) x else l.take (ziK (fun y=>bl (key y) (key x)) l)++ [x]++l.drop (ziK (fun y=>bl (key y) (key x)) l)
  |none=>l.take (ziK (fun y=>bl (key y) (key x)) l)++ [x]++l.drop (ziK (fun y=>bl (key y) (key x)) l))
 | [],_=>by simp [zmg,ziK]
 |y::l,h=>by
  have h1:=List.pairwise_cons.1 h
  unfold zmg
  by_cases hb:bl (key x) (key y)=true
  ·have e:ziK (fun z=>bl (key z) (key x)) (y::l)=0:=by unfold ziK;rw [List.takeWhile_cons,if_neg (by rw [zp5 hb];simp)];rfl
   rw [if_pos hb,e]
   simp [(zpJ hb).symm]
  ·rw [if_neg hb]
   by_cases hk:key x=key y
   ·have e:ziK (fun z=>bl (key z) (key x)) (y::l)=0:=by unfold ziK;rw [List.takeWhile_cons,if_neg (by rw [hk,zji];simp)];rfl
    rw [if_pos hk,e]
    simp [hk]
   ·have hyx:=zlL (by simpa using hb) hk
    have e:ziK (fun z=>bl (key z) (key x)) (y::l)=ziK (fun z=>bl (key z) (key x)) l+1:=by unfold ziK;rw [List.takeWhile_cons,if_pos hyx];rfl
    rw [if_neg hk,e,zxR h1.2]
    simp only [List.getElem?_cons_succ]
    split
    ·split<;>simp
    ·simp
theorem zDV {α:Type} {key:α→List UInt8} {x:α} {l:List α} (h:zp2 key l) (p:α→Bool):(zmg key x l).filter p=if p x=true then zmg key x (l.filter p)else(l.filter p).filter fun y=>decide (key y≠key x):=by
 split
 ·rename_i hp
  refine zp2.ext ((zlx h).filter p) (zlx (h.filter p)) fun y=> ?_
  rw [List.mem_filter,zmw h,zmw (h.filter p),List.mem_filter]
  constructor
  ·rintro⟨rfl|⟨h1,h2⟩,h3⟩
   ·exact .inl rfl
   ·exact .inr ⟨⟨h1,h3⟩,h2⟩
  ·rintro(rfl|⟨⟨h1,h3⟩,h2⟩)
   ·exact⟨.inl rfl,hp⟩
   ·exact⟨.inr ⟨h1,h2⟩,h3⟩
 ·rename_i hp
  refine zp2.ext ((zlx h).filter p) ((h.filter p).filter _) fun y=> ?_
  rw [List.mem_filter,zmw h,List.mem_filter,List.mem_filter]
  simp only [decide_eq_true_eq]
  constructor
  ·rintro⟨rfl|⟨h1,h2⟩,h3⟩
   ·exact absurd h3 hp
   ·exact⟨⟨h1,h3⟩,h2⟩
  ·rintro⟨⟨h1,h3⟩,h2⟩
   exact⟨.inr ⟨h1,h2⟩,h3⟩
end Go.Proofs.YtfkblfjloegahaaGreatDoor
end
section
namespace Go.Proofs.YtfkblfjloegahaaGreatDoor
open Go.RowKit
set_option maxRecDepth 100000
theorem zEW (s:Str):(s !=s)=false:=by simp
def zDc (a b:Str):Int:=if bl a b=true then-1 else if a=b then 0 else 1
@[simp] theorem zBY (a:Str):zdt a=some false:=by simp [zdt]
@[simp] theorem zHr (a b:Str):zdL a b=some (zDc a b):=by
 unfold zdL zDc
 simp only [zBY,Option.bind_some,Bool.false_eq_true,if_false]
 by_cases h:bl a b=true
 ·have:Op.bytesLess a b=true:=h
  simp [this]
 ·have h1:Op.bytesLess a b=false:=by simpa using h
  by_cases he:a=b
  ·subst he;simp [h1]
  ·simp [h1,he]
def zId (a b:Int):Int:=if a<b then-1 else if a=b then 0 else 1
theorem zDr {a b:Str}:decide (zDc a b<0)=bl a b:=by
 unfold zDc
 cases h:bl a b with
 |true=>simp
 |false=>by_cases he:a=b<;>simp [he]
theorem zEd {a b:Str}:(zDc a b==0)=decide (a=b):=by
 unfold zDc
 cases h:bl a b with
 |true=>simp [zpJ h]
 |false=>by_cases he:a=b<;>simp [he]
theorem zFt {i j:Nat} (h:i≤j) (hj:j≤2000000):IntKind.i64.wrap (Int.fdiv (IntKind.u64.wrap (IntKind.i64.wrap ((i:Int)+(j:Int)))) (2^(min ((1:Int)).toNat (IntKind.bits .u64))))=(((i+j)/2:Nat):Int):=by
 have e1:IntKind.i64.wrap ((i:Int)+(j:Int))=((i+j:Nat):Int):=by rw [zaD (by omega) (by omega)];simp
 have e2:IntKind.u64.wrap ((i+j:Nat):Int)=((i+j:Nat):Int):=by
  simp only [IntKind.wrap,IntKind.bits,IntKind.signed]
  simp
  omega
 have e3:(2:Int)^(min ((1:Int)).toNat (IntKind.bits .u64))=((2:Nat):Int):=rfl
 rw [e1,e2,e3,Int.fdiv_eq_ediv_of_nonneg _ (by omega),←Int.natCast_ediv,zaD (by omega) (by omega)]
theorem zEC {i:Nat} (h:i≤2000000):IntKind.i64.wrap ((i:Int)+1)=((i+1:Nat):Int):=by rw [zaD (by omega) (by omega)];simp
abbrev zlM (l:List zaa):Prop:=zp2 (fun w:zaa=>w.fKey) l
abbrev ziL (l:List zaa) (k:Str):Nat:=ziK (fun w:zaa=>bl w.fKey k) l
theorem zFD {l:List zaa} {k:Str} (hl:l.length≤2000000) (hr:zlM l):zch l k=some (((ziL l k:Nat):Int),(match l[ziL l k]? with|some w=>decide (w.fKey=k)|none=>false)):=by
 unfold zch zay
 have hc: ∀w:zaa,zcR w k=some (zDc w.fKey k):=fun w=>by simp [zcR]
 have h:=zDu (xs:=l) (body:=fun s:Int × Int=>zai l k (fun y0_ y1_=>zcR y0_ y1_) s.1 s.2) (fin:=fun i=>zav l k (fun y0_ y1_=>zcR y0_ y1_) i) (fun w:zaa=>bl w.fKey k)
  (fun i j hj hi h=>by
   rcases Nat.lt_or_ge i j with hij|hij
   ·exact zgF ((List.pairwise_iff_getElem.1 hr) i j (by omega) hj hij) h
   ·have:i=j:=by omega
    subst this;exact h)
  (fun i j hij hj hmid=>by
   show zai l k _ (i:Int) (j:Int)=_
   unfold zai
   rw [if_pos (by simpa using hij),zFt (by omega) (by omega),zac hmid,Option.bind_some]
   simp only [hc,Option.bind_some,zDr,zEC (show(i+j)/2≤2000000 by omega)]
   cases bl l[(i+j)/2].fKey k<;>rfl)
  (fun i hi=>by
   show zai l k _ (i:Int) (i:Int)=_
   unfold zai
   rw [if_neg (by simp)])
 rw [h]
 unfold zav
 show Option.bind (if decide (((ziL l k:Nat):Int)<l.length)=true then _ else _) _=_
 by_cases hp:ziL l k<l.length
 ·rw [if_pos (by simpa using hp),zac hp,Option.bind_some]
  simp only [hc,Option.bind_some,zEd,List.getElem?_eq_getElem hp]
 ·rw [if_neg (by simpa using hp),List.getElem?_eq_none (by omega)]
  rfl
theorem zoZ {l:List zaa} {w:zaa} (hl:l.length≤2000000) (hr:zlM l):zdw l w=some (zmg (fun w:zaa=>w.fKey) w l):=by
 unfold zdw
 rw [zFD hl hr,Option.bind_some,zxR hr]
 show(if(match l[ziL l w.fKey]? with|some w'=>decide (w'.fKey=w.fKey)|none=>false)=true then _ else _)=_
 have hle:ziL l w.fKey≤l.length:=zo6 _ _
 have hI:zp9 l ((ziL l w.fKey:Nat):Int) [w]=some (l.take (ziL l w.fKey)++ [w]++l.drop (ziL l w.fKey)):=zae ⟨by omega,by omega,by simp,by simp only [List.length_singleton];omega⟩
 by_cases hp:ziL l w.fKey<l.length
 ·rw [List.getElem?_eq_getElem hp]
  by_cases hk:(l[ziL l w.fKey]).fKey=w.fKey
  ·simp only [hk,decide_true,if_true,zac hp,Option.bind_some]
   rfl
  ·simp only [hk,decide_false,Bool.false_eq_true,if_false]
   rw [hI];rfl
 ·rw [List.getElem?_eq_none (by omega)]
  simp only [Bool.false_eq_true,if_false]
  rw [hI];rfl
theorem zno (ks:List Str):zmX ks=zh1 bl ks:=by
 have key: ∀n q,q+n+1=ks.length→(List.range' (q+1) n).all (zfX ks)=zh1 bl (ks.drop q):=by
  intro n
  induction n with
  |zero=>
   intro q hq
   rw [List.drop_eq_getElem_cons (show q<ks.length by omega),List.drop_eq_nil_of_le (show ks.length≤q+1 by omega)]
   rfl
  |succ n ih=>
   intro q hq
   rw [List.range'_succ,List.all_cons,ih (q+1) (by omega),zrt (show q+1<ks.length by omega)]
   congr 1
   unfold zfX
   have hb:(q+1==0)=false:=rfl
   rw [hb,Bool.false_or,Nat.add_sub_cancel,List.getElem?_eq_getElem (show q<ks.length by omega),List.getElem?_eq_getElem (show q+1<ks.length by omega)]
   rfl
 cases ks with
 |nil=>rfl
 |cons k l=>
  unfold zmX
  rw [List.length_cons,List.range_eq_range',List.range'_succ,List.all_cons]
  have:=key l.length 0 (by simp)
  rw [List.drop_zero]at this
  rw [Nat.zero_add]at this
  rw [show 0+1=1 from rfl,this]
  rfl
theorem zmm {α β:Type} (f:α→β) (r:β→β→Bool): ∀l:List α,zh1 r (l.map f)=zh1 (fun a b=>r (f a) (f b)) l
 | []=>rfl
 | [_]=>rfl
 |x::y::l=>by
  have:=zmm f r (y::l)
  simp only [List.map_cons,zh1]at this ⊢
  rw [this]
theorem zqx {l:List zaa} (h:zd4 l=true):zlM l:=by
 unfold zd4 at h
 simp only [Bool.and_eq_true]at h
 have h1:=h.2.2
 rw [zno,zmm]at h1
 exact(znZ (r:=fun a b:zaa=>bl a.fKey b.fKey) fun a b c p q=>zgF p q).1 h1
end Go.Proofs.YtfkblfjloegahaaGreatDoor
end
section
namespace Go.Proofs.YtfkblfjloegahaaGreatDoor
open Go.RowKit
set_option maxRecDepth 100000
theorem zBJ {t:zab} (h:zau t=true):zp2 (fun x:zbI=>x.fName) t.fIdxs:=by
 unfold zau at h
 simp only [Bool.and_eq_true]at h
 have h1:=h.2
 have h2:zmX (t.fIdxs.map (·.fName))=true:=by
  unfold zmX
  rw [List.length_map,List.all_eq_true]
  intro i hi
  have h3:=List.all_eq_true.1 h1 i hi
  unfold zou at h3
  simp only [Bool.and_eq_true]at h3
  have hi':i<t.fIdxs.length:=List.mem_range.1 hi
  have e: ∀j:Nat,(((t.fIdxs.map (·.fName))[j]?).getD [])=((t.fIdxs[j]?).getD ⟨[],0,0⟩).fName:=by
   intro j
   rw [List.getElem?_map]
   cases t.fIdxs[j]?<;>rfl
  unfold zfX
  rw [e,e]
  exact h3.2
 rw [zno,zmm]at h2
 exact(znZ (r:=fun a b:zbI=>bl a.fName b.fName) fun a b c p q=>zgF p q).1 h2
theorem zxf {t:zab} {x:zbI} (h:zau t=true) (hx:x∈t.fIdxs):zh7 t x.fName x:=by
 have h1:zio (fun y:zbI=>y.fName==x.fName) t.fIdxs≥0:=by
  have:=zma (fun y:zbI=>y.fName==x.fName) t.fIdxs
  rw [show(t.fIdxs.any fun y=>y.fName==x.fName)=true from List.any_eq_true.2 ⟨x,hx,by simp⟩]at this
  exact of_decide_eq_true this
 obtain⟨y,h2,h3,h4⟩:=zw6 h1
 have h5:y=x:=(zBJ h).nodupKey h4 hx (by simpa using h3)
 subst h5
 have h6:=zbs.1 (ztW h hx).2
 exact⟨h2,rfl,h6.1,h6.2⟩
theorem zkG {t:zab} (h:zau t=true):2≤t.fCols.length∧t.fCols.length≤4∧t.fIdxs.length≤3:=by
 unfold zau at h
 simp only [Bool.and_eq_true,decide_eq_true_eq]at h
 have h1:=zbs.1 h.1.1.2.2
 have h2:=h.1.2
 omega
theorem zpe {t:zab} {r:zdu} (hs:Small r.fVals) (h:zbB t r=true):zuO t r:=by
 unfold zbB at h
 simp only [Bool.and_eq_true,beq_iff_eq]at h
 exact⟨by have:=h.1;omega,hs⟩
theorem ztR {t:zab} {r:zdu} (hc:1≤t.fCols.length) (h:zuO t r):zaA r.fVals 0=some (zkh r 0):=(zqH h (by omega) (by omega)).1
theorem zrn {t:zab} {r:zdu} (hc:1≤t.fCols.length) (h:zuO t r):r.fVals≠ []:=by
 intro e
 have:=h.len
 rw [e]at this
 simp at this
 omega
def zmN (a:zat):Prop:=Small a.fOld.fVals∧Small a.fNew.fVals
def zjr (t:zab) (a:zat):Bool:=
 if a.fKind=1 then(a.fOld.fVals.length:Int)==0&&zbB t a.fNew else
 if a.fKind=2 then zbB t a.fOld&&(a.fNew.fVals.length:Int)==0 else
 if a.fKind=3 then zbB t a.fOld&&(zbB t a.fNew&&zkh a.fOld 0==zkh a.fNew 0)else false
theorem zs5 {t:zab} {a:zat} (hc:1≤t.fCols.length) (h:zmN a):zfQ t a=some (zjr t a):=by
 unfold zfQ zjr
 by_cases h1:a.fKind=1
 ·rw [if_pos (by simpa using h1),if_pos h1,zkv h.2,Option.bind_some]
  cases((a.fOld.fVals.length:Int)==0)<;>simp
 rw [if_neg (by simpa using h1),if_neg h1]
 by_cases h2:a.fKind=2
 ·rw [if_pos (by simpa using h2),if_pos h2,zkv h.1,Option.bind_some]
  cases((a.fNew.fVals.length:Int)==0)<;>simp
 rw [if_neg (by simpa using h2),if_neg h2]
 by_cases h3:a.fKind=3
 ·rw [if_pos (by simpa using h3),if_pos h3,zkv h.1,zkv h.2,Option.bind_some,Option.bind_some]
  cases e1:zbB t a.fOld with
  |false=>simp
  |true=>
   cases e2:zbB t a.fNew with
   |false=>simp
   |true=>simp [ztR hc (zpe h.1 e1),ztR hc (zpe h.2 e2)]
 rw [if_neg (by simpa using h3),if_neg h3]
theorem zxZ {t:zab} {a:zat} (hc:1≤t.fCols.length) (h:zmN a):zc9 t a=some (zjr t a):=by
 unfold zc9 zjr
 by_cases h1:a.fKind=1
 ·rw [if_pos (by simpa using h1),if_pos h1,zke h.2,Option.bind_some]
  cases((a.fOld.fVals.length:Int)==0)<;>simp
 rw [if_neg (by simpa using h1),if_neg h1]
 by_cases h2:a.fKind=2
 ·rw [if_pos (by simpa using h2),if_pos h2,zke h.1,Option.bind_some]
 rw [if_neg (by simpa using h2),if_neg h2]
 by_cases h3:a.fKind=3
 ·rw [if_pos (by simpa using h3),if_pos h3,zke h.1,zke h.2,Option.bind_some,Option.bind_some]
  cases e1:zbB t a.fOld with
  |false=>simp
  |true=>
   cases e2:zbB t a.fNew with
   |false=>simp
   |true=>simp [ztR hc (zpe h.1 e1),ztR hc (zpe h.2 e2)]
 rw [if_neg (by simpa using h3),if_neg h3]
structure zAG (t:zab) (a:zat):Prop where
 old:a.fKind≠1→zuO t a.fOld
 new:a.fKind≠2→zuO t a.fNew
 kind:a.fKind=1∨a.fKind=2∨a.fKind=3
 same:a.fKind=3→zkh a.fOld 0=zkh a.fNew 0
theorem zE6 {t:zab} {a:zat} (h:zmN a) (hg:zjr t a=true):zAG t a:=by
 unfold zjr at hg
 by_cases h1:a.fKind=1
 ·rw [if_pos h1,Bool.and_eq_true]at hg
  exact⟨fun k=>absurd h1 k,fun _=>zpe h.2 hg.2, .inl h1,fun k=>by omega⟩
 rw [if_neg h1]at hg
 by_cases h2:a.fKind=2
 ·rw [if_pos h2,Bool.and_eq_true]at hg
  exact⟨fun _=>zpe h.1 hg.1,fun k=>absurd h2 k, .inr (.inl h2),fun k=>by omega⟩
 rw [if_neg h2]at hg
 by_cases h3:a.fKind=3
 ·rw [if_pos h3,Bool.and_eq_true,Bool.and_eq_true,beq_iff_eq]at hg
  exact⟨fun _=>zpe h.1 hg.1,fun _=>zpe h.2 hg.2.1, .inr (.inr h3),fun _=>hg.2.2⟩
 rw [if_neg h3]at hg
 cases hg
def zCl (t:zab) (a:zat) (x:zbI):Str:=if a.fKind=1 then []else zlp t x.fName x.fCol a.fOld
def zAT (t:zab) (a:zat) (x:zbI):Str:=if a.fKind=2 then []else zlp t x.fName x.fCol a.fNew
def zpj (k n:Str) (x:zbI):List DOp:=if k≠ []∧k≠n∧x.fStage≥1 then [⟨3,k, [],0⟩]else []
def zsg (n:Str) (x:zbI):List DOp:=if n≠ []∧x.fStage≥2 then [⟨2,n, [],0⟩]else []
def zpf (t:zab) (a:zat) (x:zbI):List DOp:=zpj (zCl t a x) (zAT t a x) x++zsg (zAT t a x) x
def zk3 (t:zab) (a:zat):List DOp:=
 if a.fKind=1 then [⟨6,(zli t a.fNew).fKey, [],0⟩,⟨2,(zli t a.fNew).fKey,(zli t a.fNew).fVal,0⟩]else
 if a.fKind=2 then [⟨7,(zli t a.fOld).fKey,(zli t a.fOld).fVal,0⟩,⟨3,(zli t a.fOld).fKey, [],0⟩]else
 [⟨7,(zli t a.fOld).fKey,(zli t a.fOld).fVal,0⟩,⟨2,(zli t a.fOld).fKey,(zli t a.fNew).fVal,0⟩]
def ztQ (t:zab) (a:zat):List DOp:=t.fIdxs.foldl (fun o x=>o++zpf t a x) (zk3 t a)
theorem zBZ (k n:Str) (x:zbI):(zpj k n x).length≤1:=by unfold zpj;split<;>simp
theorem zDE (n:Str) (x:zbI):(zsg n x).length≤1:=by unfold zsg;split<;>simp
theorem zo8 (t:zab) (a:zat) (x:zbI):(zpf t a x).length≤2:=by
 unfold zpf
 have:=zBZ (zCl t a x) (zAT t a x) x
 have:=zDE (zAT t a x) x
 rw [List.length_append];omega
theorem zni (t:zab) (a:zat):(zk3 t a).length=2:=by unfold zk3;split<;>(try split)<;>rfl
theorem ztC {o p:List DOp} (h:o.length≤5000000) (hn:p.length≤5000000):((o.length:Int)+(p.length:Int))*48≤140737488355328∧(o.length:Int)+(p.length:Int)≤140737488355328:=by omega
theorem zAr {t:zab} {a:zat} {x:zbI} (ht:t.fName.length≤2000000) (hn:x.fName.length≤2000000) (hx:zh7 t x.fName x) (ha:zAG t a):zgH t x a=some (zpf t a x):=by
 have e1:zgH t x a=zf2 t x a (zCl t a x):=by
  unfold zgH zCl
  by_cases h1:a.fKind=1
  ·rw [if_neg (by simp [h1]),if_pos h1];rfl
  ·rw [if_pos (by simpa using h1),if_neg h1,zui ht hn hx (ha.old h1)];rfl
 have e2: ∀k,zf2 t x a k=zeH x k (zAT t a x):=by
  intro k
  unfold zf2 zAT
  by_cases h1:a.fKind=2
  ·rw [if_neg (by simp [h1]),if_pos h1]
  ·rw [if_pos (by simpa using h1),if_neg h1,zui ht hn hx (ha.new h1)];rfl
 have e3: ∀(n:Str) (o:List DOp),o.length≤5→zf4 x n o=some (o++zsg n x):=by
  intro n o ho
  unfold zf4 zsg
  by_cases h1:n≠ []∧x.fStage≥2
  ·rw [if_pos (by simpa using h1),if_pos h1,zae (ztC (by omega) (by simp))]
  ·rw [if_neg (by simpa using h1),if_neg h1,List.append_nil]
 have e4: ∀(k n:Str),zeH x k n=some (zpj k n x++zsg n x):=by
  intro k n
  unfold zeH zpj
  by_cases h1:k≠ []∧k≠n∧x.fStage≥1
  ·rw [if_pos (by simpa [and_assoc]using h1),if_pos h1,zae (ztC (by simp) (by simp)),e3 _ _ (by simp)]
  ·rw [if_neg (by simpa [and_assoc]using h1),if_neg h1,e3 _ _ (by simp)]
 rw [e1,e2,e4];rfl
theorem zya {t:zab} {a:zat} (hc:1≤t.fCols.length) (ht:t.fName.length≤2000000) (ha:zAG t a):zhK t a=some (zk3 t a):=by
 unfold zhK zk3
 by_cases h1:a.fKind=1
 ·have hr:=ha.new (by omega)
  rw [if_pos (by simpa using h1),if_pos h1,zuF ht hr.small (zrn hc hr)];rfl
 have hr:=ha.old h1
 rw [if_neg (by simpa using h1),if_neg h1,zuF ht hr.small (zrn hc hr),Option.bind_some]
 by_cases h2:a.fKind=2
 ·rw [if_pos (by simpa using h2),if_pos h2]
 have hr:=ha.new h2
 rw [if_neg (by simpa using h2),if_neg h2,zuF ht hr.small (zrn hc hr)];rfl
theorem zFq {t:zab} {a:zat} (hS:zc3 t) (hg:zau t=true) (ha:zAG t a):ziX t a=some (ztQ t a):=by
 have hc:=zkG hg
 unfold ziX
 rw [zya (by omega) hS.name ha,Option.bind_some]
 have hl:=zni t a
 exact(zbY (xs:=t.fIdxs) (body:=fun s:Int × List DOp=>zdF t a s.1 s.2) (fun i (o:List DOp)=>(i,o)) (fun o x=>o++zpf t a x) (fun o=>some o) (fun i o=>o.length≤2+2*i)
  (fun i hi o hI=>by
   have hI:o.length≤2+2*i:=hI
   have hw:=zaI hi (by omega)
   have hk:=zo8 t a t.fIdxs[i]
   have hm:=List.getElem_mem hi
   refine⟨?_,by show List.length _≤_;rw [List.length_append];omega⟩
   show zdF t a i o=_
   unfold zdF
   rw [if_pos (by simpa using hi),zac hi,Option.bind_some,zAr hS.name (hS.idx _ hm) (zxf hg hm) ha,Option.bind_some,zae (ztC (by omega) (by omega)),hw])
  (fun o _=>by
   show zdF t a t.fIdxs.length o=_
   unfold zdF
   rw [if_neg (by simp)]) (s:=zk3 t a) (by omega)).1
theorem zv6 {k:Int} {w:zaa} {o:List DOp} (h:o.length≤5000000):zax k w o=some ((),o++ [⟨k,w.fKey,w.fVal,0⟩]):=by
 unfold zax
 rw [zae (ztC h (by simp))]
theorem zEV {t:zab} {a:zat} (hS:zc3 t) (hg:zau t=true) (ha:zAG t a):zdP t a=some (ztQ t a):=by
 have hc:=zkG hg
 have hl:=zni t a
 have h7: ∀(i:Int) (x:zbI) (n:Str) (o:List DOp),o.length≤100→zbl i x n o=some (.inl (IntKind.i64.wrap (i+1),o++zsg n x)):=by
  intro i x n o ho
  unfold zbl zsg zjS
  by_cases h1:n= []
  ·rw [if_neg (by simp [h1]),if_neg (by simp [h1]),List.append_nil]
  rw [if_pos (by simpa using h1),Option.bind_some]
  by_cases h2:x.fStage≥2
  ·rw [if_pos (by simpa using h2),if_pos ⟨h1,h2⟩,zv6 (by omega)];rfl
  ·rw [if_neg (by simpa using h2),if_neg (fun h=>h2 h.2),List.append_nil]
 have h6: ∀(i:Int) (x:zbI) (k n:Str) (o:List DOp),o.length≤99→zaX i o x k n=some (.inl (IntKind.i64.wrap (i+1),o++(zpj k n x++zsg n x))):=by
  intro i x k n o ho
  unfold zaX zpj zj4
  by_cases h1:k= []
  ·rw [if_neg (by simp [h1]),if_neg (by simp [h1]),h7 _ _ _ _ (by omega)];rfl
  rw [if_pos (by simpa using h1)]
  by_cases h2:k=n
  ·rw [if_neg (by simp [h2]),if_neg (by simp [h2]),h7 _ _ _ _ (by omega)];rfl
  rw [if_pos (by simpa using h2),Option.bind_some]
  by_cases h3:x.fStage≥1
  ·rw [if_pos (by simpa using h3),if_pos ⟨h1,h2,h3⟩,zv6 (by omega),Option.bind_some,h7 _ _ _ _ (by rw [List.length_append,List.length_singleton];omega),List.append_assoc]
  ·rw [if_neg (by simpa using h3),if_neg (fun h=>h3 h.2.2),h7 _ _ _ _ (by omega)];rfl
 have hloop: ∀o:List DOp,o.length=2→zbk t a o=some (t.fIdxs.foldl (fun o x=>o++zpf t a x) o):=by
  intro o ho
  unfold zbk
  exact(zbY (xs:=t.fIdxs) (body:=fun s:Int × List DOp=>zbj t a s.1 s.2) (fun i (o:List DOp)=>(i,o)) (fun o x=>o++zpf t a x) (fun o=>some o) (fun i o=>o.length≤2+2*i)
   (fun i hi o hI=>by
    have hI:o.length≤2+2*i:=hI
    have hw:=zaI hi (by omega)
    have hk:=zo8 t a t.fIdxs[i]
    have hm:=List.getElem_mem hi
    have hx:=zxf hg hm
    refine⟨?_,by show List.length _≤_;rw [List.length_append];omega⟩
    show zbj t a i o=_
    unfold zbj
    rw [if_pos (by simpa using hi),zac hi,Option.bind_some]
    have e1:(if(a.fKind !=1)=true then(za3 t t.fIdxs[i].fName a.fOld).bind fun v20=>some (Sum.inl v20)else some (Sum.inl ([]:List UInt8)):Option (List UInt8 ⊕ Option ((Int × List DOp) ⊕ Option (List DOp))))=some (.inl (zCl t a t.fIdxs[i])):=by
     unfold zCl
     by_cases h1:a.fKind=1
     ·rw [if_neg (by simp [h1]),if_pos h1]
     ·rw [if_pos (by simpa using h1),if_neg h1,zur hS (hS.idx _ hm) hx (ha.old h1)];rfl
    rw [e1]
    show zek t a i o t.fIdxs[i] (zCl t a t.fIdxs[i])=_
    unfold zek
    have e2: ∀k,(if(a.fKind !=2)=true then(za3 t t.fIdxs[i].fName a.fNew).bind fun v19=>zaX i o t.fIdxs[i] k v19 else zaX i o t.fIdxs[i] k ([]:List UInt8))=zaX i o t.fIdxs[i] k (zAT t a t.fIdxs[i]):=by
     intro k
     unfold zAT
     by_cases h1:a.fKind=2
     ·rw [if_neg (by simp [h1]),if_pos h1]
     ·rw [if_pos (by simpa using h1),if_neg h1,zur hS (hS.idx _ hm) hx (ha.new h1)];rfl
    rw [e2,h6 _ _ _ _ _ (by omega),hw]
    rfl)
   (fun o _=>by
    show zbj t a t.fIdxs.length o=_
    unfold zbj
    rw [if_neg (by simp)]) (s:=o) (by omega)).1
 have hn:t.fName.length≤2000000:=hS.name
 unfold zdP ztQ zk3
 rcases ha.kind with h1|h1|h1
 ·have hr:=ha.new (by omega)
  rw [if_neg (by simp [h1]),if_pos h1]
  show zaW t a [] [] false []=_
  unfold zaW
  rw [if_pos (by simp [h1]),zqG hn hr.small (zrn (by omega) hr),Option.bind_some]
  unfold zb0
  rw [if_pos (by simp [h1]),zv6 (by simp),Option.bind_some,zv6 (by simp),Option.bind_some,hloop _ (by simp)]
  rfl
 ·have hr:=ha.old (by omega)
  rw [if_pos (by simp [h1]),if_neg (by omega),if_pos h1,zqG hn hr.small (zrn (by omega) hr),Option.bind_some,zv6 (by simp),Option.bind_some]
  show zaW t a (zli t a.fOld).fKey (zli t a.fOld).fVal (zli t a.fOld).fGone _=_
  unfold zaW
  rw [if_neg (by simp [h1])]
  unfold zb0
  rw [if_neg (by simp [h1]),if_pos (by simp [h1]),zv6 (by simp),Option.bind_some,hloop _ (by simp)]
  rfl
 ·have hr:=ha.old (by omega)
  have hr2:=ha.new (by omega)
  have hk:(zli t a.fOld).fKey=(zli t a.fNew).fKey:=by
   have:=ha.same h1
   unfold zkh at this
   unfold zli
   rw [List.head?_eq_getElem?,List.head?_eq_getElem?]
   exact congrArg (fun z=>t.fName++ [47]++z) this
  rw [if_pos (by simp [h1]),if_neg (by omega),if_neg (by omega),zqG hn hr.small (zrn (by omega) hr),Option.bind_some,zv6 (by simp),Option.bind_some]
  show zaW t a (zli t a.fOld).fKey (zli t a.fOld).fVal (zli t a.fOld).fGone _=_
  unfold zaW
  rw [if_pos (by simp [h1]),zqG hn hr2.small (zrn (by omega) hr2),Option.bind_some]
  unfold zb0
  rw [if_neg (by simp [h1]),if_neg (by simp [h1]),if_pos (by simp [h1]),zv6 (by simp),Option.bind_some,hloop _ (by simp),hk]
  rfl
end Go.Proofs.YtfkblfjloegahaaGreatDoor
end
section
namespace Go.Proofs.YtfkblfjloegahaaGreatDoor
open Go.RowKit
set_option maxRecDepth 100000
abbrev wk (w:zaa):Str:=w.fKey
theorem zoe {α β:Type} {xs:List α} {body:Int→Option (Int ⊕ Option β)} (p:α→Bool) (hit:α→Option β) (fin:Option β)
  (hs: ∀(i:Nat) (hi:i<xs.length),body i=some (if p xs[i]=true then .inr (hit xs[i])else .inl ((i+1:Nat):Int))) (he:body xs.length=some (.inr fin)):
  zal body 0=match xs.find? p with|some x=>hit x|none=>fin:=by
 have key: ∀n q,q+n=xs.length→zal body (q:Nat)=match(xs.drop q).find? p with|some x=>hit x|none=>fin:=by
  intro n
  induction n with
  |zero=>
   intro q hq
   have:q=xs.length:=by omega
   subst this
   rw [List.drop_length]
   exact zc4 he
  |succ n ih=>
   intro q hq
   have hlt:q<xs.length:=by omega
   rw [List.drop_eq_getElem_cons hlt,List.find?_cons]
   have h1:=hs q hlt
   cases hp:p xs[q]with
   |true=>
    rw [hp,if_pos rfl]at h1
    exact zc4 h1
   |false=>
    rw [hp,if_neg (by simp)]at h1
    rw [zdK h1]
    exact ih (q+1) (by omega)
 have:=key xs.length 0 (by omega)
 rw [List.drop_zero]at this
 exact this
def zyw (got:List zhe) (k:Str):Str × Bool × Bool:=match got.find? (fun g=>g.fKey==k)with|some g=>(g.fVal,g.fThere,true)|none=>([],false,false)
def zdA (ws:List zaa) (got:List zhe) (k:Str):Str × Bool × Bool:=match ws.find? (fun w=>w.fKey==k)with|some w=>(w.fVal, !w.fGone,true)|none=>zyw got k
def zkr (rows:List zaa) (k:Str):zhe:=match rows.find? (fun w=>w.fKey==k)with|some w=>⟨k,w.fVal,true⟩|none=>⟨k, [],false⟩
theorem zqR {ws:List zaa} {got:List zhe} {k:Str} (hw:ws.length≤2000000) (hg:got.length≤2000000):zgL ws got k=some (zdA ws got k):=by
 have h2:zfe got k=some (zyw got k):=by
  unfold zfe zyw
  rw [zoe (xs:=got) (body:=fun s:Int=>zcS got k s) (fun g=>g.fKey==k) (fun g=>some (g.fVal,g.fThere,true)) (some ([],false,false)) (fun i hi=>by
   show zcS got k i=_
   unfold zcS
   rw [if_pos (by simpa using hi),zac hi,Option.bind_some,zaI hi (by omega)]
   split<;>rfl) (by
   show zcS got k got.length=_
   unfold zcS
   rw [if_neg (by simp)])]
  cases got.find? (fun g=>g.fKey==k)<;>rfl
 unfold zgL zdA
 rw [zoe (xs:=ws) (body:=fun s:Int=>zcK ws got k s) (fun w=>w.fKey==k) (fun w=>some (w.fVal, !w.fGone,true)) (zfe got k) (fun i hi=>by
  show zcK ws got k i=_
  unfold zcK
  rw [if_pos (by simpa using hi),zac hi,Option.bind_some,zaI hi (by omega)]
  split<;>rfl) (by
  show zcK ws got k ws.length=_
  unfold zcK
  rw [if_neg (by simp)]),h2]
 cases ws.find? (fun w=>w.fKey==k)<;>rfl
theorem zDf {rows:List zaa} {k:Str} (hw:rows.length≤2000000):ziV rows k=some (zkr rows k):=by
 unfold ziV zkr
 rw [zoe (xs:=rows) (body:=fun s:Int=>zdE rows k s) (fun w=>w.fKey==k) (fun w=>some ⟨k,w.fVal,true⟩) (zk6 k) (fun i hi=>by
  show zdE rows k i=_
  unfold zdE
  rw [if_pos (by simpa using hi),zac hi,Option.bind_some,zaI hi (by omega)]
  split<;>rfl) (by
  show zdE rows k rows.length=_
  unfold zdE
  rw [if_neg (by simp)])]
 cases rows.find? (fun w=>w.fKey==k)<;>rfl
theorem znS {α:Type} (lt:α→Bool) (x:α) (l:List α):ziK lt (x::l)=if lt x=true then ziK lt l+1 else 0:=by
 unfold ziK
 rw [List.takeWhile_cons]
 split<;>rfl
theorem zqi {x:zaa} {l:List zaa} (h:zlM (x::l)):(∀y∈l,bl x.fKey y.fKey=true)∧zlM l:=by
 unfold zlM zp2 at h
 rw [List.pairwise_cons]at h
 exact h
theorem zzZ {l:List zaa} {k:Str} (h: ∀y∈l,bl k y.fKey=true):l.find? (fun w=>w.fKey==k)=none:=by
 rw [List.find?_eq_none]
 intro y hy
 have:=zpJ (h y hy)
 simpa using fun e=>this e.symm
theorem zsU {k:Str}: ∀{l:List zaa},zlM l→l.find? (fun w=>w.fKey==k)=match l[ziL l k]? with|some w=>if w.fKey=k then some w else none|none=>none
 | [],_=>by simp
 |x::l,h=>by
  obtain⟨h1,h2⟩:=zqi h
  have ih:=zsU (k:=k) h2
  rw [ziL,znS,List.find?_cons]
  by_cases hb:bl x.fKey k=true
  ·have hne:(x.fKey==k)=false:=by simpa using zpJ hb
   rw [if_pos hb,hne,List.getElem?_cons_succ]
   exact ih
  ·rw [if_neg hb,List.getElem?_cons_zero]
   by_cases he:x.fKey=k
   ·rw [show(x.fKey==k)=true by simpa using he];simp [he]
   ·rw [show(x.fKey==k)=false by simpa using he]
    simp only [he,if_false]
    have hk:bl k x.fKey=true:=zlL (by simpa using hb) he
    exact zzZ fun y hy=>zgF hk (h1 y hy)
theorem zAc {l:List zaa} {k:Str} (hl:l.length≤2000000) (hr:zlM l): ∃i:Int,(zch l k=some (i,true)∧ ∃w,zaA l i=some w∧l.find? (fun w=>w.fKey==k)=some w)∨(zch l k=some (i,false)∧l.find? (fun w=>w.fKey==k)=none):=by
 refine⟨(ziL l k:Nat), ?_⟩
 rw [zFD hl hr,zsU hr]
 by_cases hp:ziL l k<l.length
 ·rw [List.getElem?_eq_getElem hp]
  by_cases hk:(l[ziL l k]).fKey=k
  ·left
   simp only [hk,decide_true,if_true]
   exact⟨trivial,_,zac hp,rfl⟩
  ·right
   simp only [hk,decide_false,if_false]
   exact⟨trivial,trivial⟩
 ·rw [List.getElem?_eq_none (by omega)]
  right
  exact⟨rfl,rfl⟩
theorem zx4 {ws:List zaa} {got:List zhe} {k:Str} (hw:ws.length≤2000000) (hg:got.length≤2000000) (hr:zlM ws):zhG k ws got=some (zdA ws got k):=by
 unfold zhG zdA
 obtain⟨i,⟨e,w,e2,e3⟩|⟨e,e3⟩⟩:=zAc (k:=k) hw hr
 ·rw [e,e3,Option.bind_some,if_pos rfl,e2];rfl
 ·rw [e,e3,Option.bind_some,if_neg (by simp)]
  unfold zyw
  rw [zoe (xs:=got) (body:=fun s:Int=>zdl k got s) (fun g=>g.fKey==k) (fun g=>some (g.fVal,g.fThere,true)) (some ([],false,false)) (fun i hi=>by
   show zdl k got i=_
   unfold zdl
   rw [if_pos (by simpa using hi),zac hi,Option.bind_some,zaI hi (by omega)]
   split<;>rfl) (by
   show zdl k got got.length=_
   unfold zdl
   rw [if_neg (by simp)])]
  cases got.find? (fun g=>g.fKey==k)<;>rfl
theorem zBe {rows:List zaa} {k:Str} (hw:rows.length≤2000000) (hr:zlM rows):zjL rows k=some (zkr rows k):=by
 unfold zjL zkr
 obtain⟨i,⟨e,w,e2,e3⟩|⟨e,e3⟩⟩:=zAc (k:=k) hw hr
 ·rw [e,e3,Option.bind_some,if_neg (by simp),e2];rfl
 ·rw [e,e3,Option.bind_some,if_pos (by simp)]
def leW (k:Str) (w:zaa):Bool:=bl w.fKey k||w.fKey==k
def zCv (l:List zaa) (w:zaa) (q:Nat):List zaa:=
 match(if q=0 then none else l[q-1]?)with
 |some y=>if y.fKey=w.fKey then l.set (q-1) w else l.take q++ [w]++l.drop q
 |none=>l.take q++ [w]++l.drop q
theorem zy3 {w:Str} {l:List zaa} (h: ∀y∈l,bl w y.fKey=true):ziK (leW w) l=0:=by
 cases l with
 |nil=>rfl
 |cons y l=>
  rw [znS,if_neg]
  have h1:=h y (by simp)
  have h2:=zp5 h1
  have h3:=zpJ h1
  unfold leW
  rw [h2]
  simpa using fun e=>h3 e.symm
theorem zxy {w:zaa}: ∀{l:List zaa},zlM l→zCv l w (ziK (leW w.fKey) l)=zmg wk w l
 | [],_=>by simp [zCv,zmg,ziK]
 |x::l,h=>by
  obtain⟨h1,h2⟩:=zqi h
  have ih:=zxy (w:=w) h2
  rw [znS,zmg]
  by_cases ha:bl (wk w) (wk x)=true
  ·have hl:leW w.fKey x=false:=by
    have h3:=zp5 ha
    have h4:=zpJ ha
    unfold leW
    rw [h3]
    simpa using fun e=>h4 e.symm
   rw [if_pos ha,hl,if_neg (by simp)]
   simp [zCv]
  rw [if_neg ha]
  by_cases he:wk w=wk x
  ·have hl:leW w.fKey x=true:=by unfold leW;rw [show(x.fKey==w.fKey)=true by simpa using he.symm];simp
   have hz:ziK (leW w.fKey) l=0:=zy3 fun y hy=>by rw [show w.fKey=x.fKey from he];exact h1 y hy
   rw [if_pos he,hl,if_pos rfl,hz]
   simp [zCv,show x.fKey=w.fKey from he.symm]
  ·have hb:bl x.fKey w.fKey=true:=zlL (by simpa using ha) he
   have hl:leW w.fKey x=true:=by unfold leW;rw [hb];rfl
   rw [if_neg he,hl,if_pos rfl,←ih]
   have hle:=zo6 (leW w.fKey) l
   generalize ziK (leW w.fKey) l=q at hle
   unfold zCv
   rw [if_neg (by omega),Nat.add_sub_cancel]
   cases q with
   |zero=>
    simp only [List.getElem?_cons_zero,if_true]
    rw [if_neg (fun e=>he e.symm)]
    simp
   |succ q=>
    rw [if_neg (by omega),Nat.add_sub_cancel,List.getElem?_cons_succ,List.getElem?_eq_getElem (by omega)]
    simp only
    split
    ·simp
    ·simp
theorem zz9 {w:Str}: ∀{l:List zaa},zlM l→ ∀(j:Nat) (hj:j<l.length),ziK (leW w) l≤j→leW w l[j]=false
 | [],_,j,hj,_=>by simp at hj
 |x::l,h,j,hj,hq=>by
  obtain⟨h1,h2⟩:=zqi h
  rw [znS]at hq
  by_cases hx:leW w x=true
  ·rw [if_pos hx]at hq
   cases j with
   |zero=>omega
   |succ j=>exact zz9 h2 j (by simpa using hj) (by omega)
  ·have hx':leW w x=false:=by simpa using hx
   cases j with
   |zero=>exact hx'
   |succ j=>
    have hm:l[j]'(by simpa using hj)∈l:=List.getElem_mem _
    have h3:=h1 _ hm
    show leW w (l[j]'(by simpa using hj))=false
    unfold leW at hx' ⊢
    simp only [Bool.or_eq_false_iff,beq_eq_false_iff_ne]at hx' ⊢
    have h4:bl w x.fKey=true:=zlL hx'.1 hx'.2
    have h5:=zgF h4 h3
    exact⟨zp5 h5,fun e=>zpJ h5 e.symm⟩
theorem zzO {i:Nat} (h0:0<i) (h:i≤2000000):IntKind.i64.wrap ((i:Int)-1)=((i-1:Nat):Int):=by rw [zaD (by omega) (by omega)];omega
theorem zwW {l:List zaa} {w:zaa} (hl:l.length≤2000000) (hr:zlM l):zdO l w=some (zmg wk w l):=by
 have hk: ∀q:Nat,q≤l.length→zfY l w (q:Int)=some (zCv l w q):=by
  intro q hq
  have r1:0≤(q:Int)∧(q:Int)≤(l.length:Int)∧(l.length:Int)≤(l.length:Int):=by omega
  have hw1:(zfM l (q:Int) (l.length:Int))=l.drop q:=by rw [show(l.length:Int)=((l.length:Nat):Int)from rfl,zDU,List.take_length]
  have hw2:(zfM l 0 (q:Int))=l.take q:=zDv l q
  have r2:((([]:List zaa).length:Int)+((l.drop q).length:Int))*40≤140737488355328∧(([]:List zaa).length:Int)+((l.drop q).length:Int)≤140737488355328:=by
   rw [List.length_nil,List.length_drop];omega
  have r3:0≤(0:Int)∧(0:Int)≤(q:Int)∧(q:Int)≤(l.length:Int):=by omega
  have r4:((([]:List zaa).length:Int)+((l.take q).length:Int))*40≤140737488355328∧(([]:List zaa).length:Int)+((l.take q).length:Int)≤140737488355328:=by
   rw [List.length_nil,List.length_take];omega
  have r5:(((l.take q).length:Int)+(([w]:List zaa).length:Int))*40≤140737488355328∧((l.take q).length:Int)+(([w]:List zaa).length:Int)≤140737488355328:=by
   rw [List.length_singleton,List.length_take];omega
  have r6:(((l.take q++ [w]).length:Int)+((l.drop q).length:Int))*40≤140737488355328∧((l.take q++ [w]).length:Int)+((l.drop q).length:Int)≤140737488355328:=by
   rw [List.length_append,List.length_singleton,List.length_take,List.length_drop];omega
  have r7:((([]:List zaa).length:Int)+((l).length:Int))*40≤140737488355328∧(([]:List zaa).length:Int)+((l).length:Int)≤140737488355328:=by
   rw [List.length_nil];omega
  unfold zfY zCv
  by_cases h0:q=0
  ·subst h0
   rw [if_neg (by simp),if_pos rfl]
   rw [zae r1,hw1,zae r2,zae r3,hw2,zae r4,zae r5,zae r6]
  ·have hq1:q-1<l.length:=by omega
   rw [if_pos (by simp;omega),if_neg h0,zzO (by omega) (by omega),zac hq1,Option.bind_some,List.getElem?_eq_getElem hq1]
   simp only
   by_cases he:(l[q-1]).fKey=w.fKey
   ·rw [if_pos (by simpa using he),if_pos he,zae r7,Option.bind_some]
    rfl
   ·rw [if_neg (by simpa using he),if_neg he]
    rw [zae r1,hw1,zae r2,zae r3,hw2,zae r4,zae r5,zae r6]
 have hle:=zo6 (leW w.fKey) l
 have key: ∀n j:Nat,j=ziK (leW w.fKey) l+n→j≤l.length→zal (fun s:Int=>zcX l w s) (j:Int)=some (zCv l w (ziK (leW w.fKey) l)):=by
  intro n
  induction n with
  |zero=>
   intro j hj hjl
   have hj':j=ziK (leW w.fKey) l:=by omega
   refine(zc4 ?_).trans (hk _ hle)
   show zcX l w (j:Int)=_
   unfold zcX
   by_cases h0:j=0
   ·rw [if_neg (by simp [h0]),hj']
   ·have hq1:j-1<l.length:=by omega
    have ht:=zwO (lt:=leW w.fKey) (l:=l) (i:=j-1) (by omega)
    rw [if_pos (by simp;omega),zzO (by omega) (by omega),zac hq1,Option.bind_some,if_neg,hj']
    unfold leW at ht
    have ht:(bl l[j-1].fKey w.fKey||l[j-1].fKey==w.fKey)=true:=ht
    show¬(!(bl l[j-1].fKey w.fKey||l[j-1].fKey==w.fKey))=true
    rw [ht];simp
  |succ n ih=>
   intro j hj hjl
   have hq1:j-1<l.length:=by omega
   have ht:=zz9 (w:=w.fKey) hr (j-1) hq1 (by omega)
   have e:zcX l w (j:Int)=some (.inl ((j-1:Nat):Int)):=by
    unfold zcX
    rw [if_pos (by simp;omega),zzO (by omega) (by omega),zac hq1,Option.bind_some,if_pos]
    have ht:(bl l[j-1].fKey w.fKey||l[j-1].fKey==w.fKey)=false:=ht
    show(!(bl l[j-1].fKey w.fKey||l[j-1].fKey==w.fKey))=true
    rw [ht];rfl
   rw [zdK (body:=fun s:Int=>zcX l w s) e]
   exact ih (j-1) (by omega) (by omega)
 unfold zdO
 rw [key (l.length-ziK (leW w.fKey) l) l.length (by omega) (Nat.le_refl _),zxy hr]
end Go.Proofs.YtfkblfjloegahaaGreatDoor
end
section
namespace Go.Proofs.YtfkblfjloegahaaGreatDoor
open Go.RowKit
set_option maxRecDepth 100000
structure OkO (o:DOp):Prop where
 key:zcF o.fKey=true
 val:zgZ o.fVal=true
 by_:o.fBy=0
 kind:o.fKind=2∨o.fKind=3∨o.fKind=6∨o.fKind=7
 none:o.fKind=3∨o.fKind=6→o.fVal= []
theorem zu0 {s:Str} (h:zgZ s=true):s.length≤24:=by
 unfold zgZ at h
 simp only [Bool.and_eq_true,decide_eq_true_eq]at h
 omega
theorem zu6 {s:Str} (h:zcF s=true):s.length≤12:=by
 unfold zcF at h
 simp only [Bool.and_eq_true]at h
 have:=zbs.1 h.1
 omega
theorem zvO (s:Str) (h:s.length≤2000000): ∃r,zgU s=some r:=by
 unfold zgU
 rw [zlC,Option.bind_some]
 cases hb:inB s.length 1 6 with
 |false=>exact⟨_,rfl⟩
 |true=>
  have h1:=zbs.1 hb
  obtain⟨x,e,_,_⟩:=zo1 (xs:=s) (i:=0) (by omega) (by omega)
  rw [if_pos rfl,e,Option.bind_some]
  split
  ·exact⟨_,rfl⟩
  ·have key: ∀(n q:Nat) (v:Int),q+n=s.length→ ∃r,zal (fun s_:Int × Int=>zbN s s_.1 s_.2) (v,(q:Int))=some r:=by
    intro n
    induction n with
    |zero=>
     intro q v hq
     refine⟨v,zc4 ?_⟩
     show zbN s v q=_
     unfold zbN
     rw [if_neg (by simp;omega)]
    |succ n ih=>
     intro q v hq
     have hlt:q<s.length:=by omega
     by_cases hd:((decide (((s[q]).toNat:Int)<48))||(decide (((s[q]).toNat:Int)>57)))=true
     ·refine⟨-1,zc4 ?_⟩
      show zbN s v q=_
      unfold zbN
      rw [if_pos (by simpa using hlt),zac hlt,Option.bind_some,if_pos hd]
     ·have e:zbN s v q=some (.inl ((IntKind.i64.wrap ((IntKind.i64.wrap ((10:Int)*v))+(IntKind.i64.wrap (IntKind.u8.wrap (((s[q]).toNat:Int)-48))))),((q+1:Nat):Int))):=by
       unfold zbN
       rw [if_pos (by simpa using hlt),zac hlt,Option.bind_some,if_neg hd,zaI hlt (by omega)]
      obtain⟨r,hr⟩:=ih (q+1) _ (by omega)
      exact⟨r,(zdK (body:=fun s_:Int × Int=>zbN s s_.1 s_.2) e).trans hr⟩
   exact key s.length 0 0 (by omega)
theorem zBj (s:Str) (h:s.length≤2000000): ∃r,zin s=some r:=by
 have hj1: ∀(y:UInt8) (v:Str),v.length≤2000000→ ∃r,zgV y v=some r:=by
  intro y v hv
  obtain⟨r,e⟩:=zvO v hv
  unfold zgV
  rw [e,Option.bind_some]
  split
  ·exact⟨_,rfl⟩
  ·split<;>exact⟨_,rfl⟩
 unfold zin
 by_cases h0:(s.length:Int)>0
 ·obtain⟨x,e,_,_⟩:=zo1 (xs:=s) (i:=0) (by omega) (by omega)
  rw [if_pos (by simpa using h0),e,Option.bind_some]
  split
  ·rw [zae (by omega)]
   exact hj1 _ _ (by rw [zG1,List.length_tail];omega)
  ·exact hj1 _ _ h
 ·rw [if_neg (by simpa using h0)]
  unfold zlD
  obtain⟨r,e⟩:=zvO s h
  rw [e,Option.bind_some]
  split<;>exact⟨_,rfl⟩
def zzr (o:DOp) (val:Str) (there:Bool):Bool:=if o.fKind=6 then !there else there&&val==o.fVal
def zj1 (got:List zhe):List DOp→List zaa→Int × Str × List zaa
 | [],ws=>(3, [],ws)
 |o::l,ws=>
  if o.fKind=2 then zj1 got l (zmg wk ⟨o.fKey,o.fVal,false⟩ ws)else
  if o.fKind=3 then zj1 got l (zmg wk ⟨o.fKey, [],true⟩ ws)else
  if(zdA ws got o.fKey).2.2=true then(if zzr o (zdA ws got o.fKey).1 (zdA ws got o.fKey).2.1=true then zj1 got l ws else(2, [], []))
  else(1,o.fKey, [])
structure zsi (n:Nat) (ws:List zaa):Prop where
 rise:zlM ws
 len:ws.length≤n
 good: ∀w∈ws,zia w=true
theorem zi5 {n:Nat} {ws:List zaa} {w:zaa} (h:zsi n ws) (hw:zia w=true):zsi (n+1) (zmg wk w ws):=by
 refine⟨zlx h.rise,Nat.le_trans (zxU _) (by have:=h.len;omega),fun y hy=> ?_⟩
 rcases(zmw (key:=wk) h.rise y).1 hy with rfl|hy
 ·exact hw
 ·exact h.good y hy.1
theorem zrz {o:DOp} (h:OkO o):zia ⟨o.fKey,o.fVal,false⟩=true:=by
 unfold zia zkp
 simp [h.key,h.val]
theorem zo3 {o:DOp} (h:OkO o):zia ⟨o.fKey, [],true⟩=true:=by
 unfold zia zkp
 rw [h.key]
 rfl
theorem znT {w:zaa} (h:zia w=true):w.fVal.length≤24:=by
 unfold zia zkp at h
 simp only [Bool.and_eq_true]at h
 exact zu0 h.2.1
theorem zvF {w:zaa} (h:zia w=true):w.fKey.length≤12:=by
 unfold zia at h
 simp only [Bool.and_eq_true]at h
 exact zu6 h.1
theorem zsQ {ws:List zaa} {got:List zhe} {k:Str} (hw: ∀w∈ws,zia w=true) (hg: ∀g∈got,g.fVal.length≤2000):(zdA ws got k).1.length≤2000:=by
 unfold zdA
 cases e:ws.find? (fun w=>w.fKey==k)with
 |some w=>
  have:=znT (hw w (List.mem_of_find?_eq_some e))
  show w.fVal.length≤2000
  omega
 |none=>
  unfold zyw
  cases e2:got.find? (fun g=>g.fKey==k)with
  |some g=>exact hg g (List.mem_of_find?_eq_some e2)
  |none=>simp
theorem zAM {o:DOp} (h:OkO o) (hk2:o.fKind≠2) (hk3:o.fKind≠3) {val:Str} {there:Bool} (hv:val.length≤2000):zfy o val there=some (zzr o val there):=by
 have e: ∃r,zfn val=some r:=by
  unfold zfn zhP
  rw [zae (by omega)]
  exact⟨_,rfl⟩
 obtain⟨r,e⟩:=e
 unfold zfy zzr
 rw [e,Option.bind_some]
 rcases h.kind with h1|h1|h1|h1
 ·exact absurd h1 hk2
 ·exact absurd h1 hk3
 ·rw [h1];rfl
 ·rw [h1];rfl
theorem zBM {o:DOp} (h:OkO o) {val:Str} {there:Bool} (hv:val.length≤2000):zhQ o val there=some (if o.fKind=2∨o.fKind=3 then false else !zzr o val there):=by
 obtain⟨r,e⟩:=zBj val (by omega)
 unfold zhQ zzr
 rw [e,Option.bind_some]
 rcases h.kind with h1|h1|h1|h1
 ·rw [h1];rfl
 ·rw [h1];rfl
 ·rw [h1];cases there<;>rfl
 ·rw [h1]
  show some (!there||val !=o.fVal)=some (!(there&&val==o.fVal))
  cases there<;>simp [bne]
theorem zDA {ops:List DOp} {got:List zhe} (hl:ops.length≤1000) (ho: ∀o∈ops,OkO o) (hg:got.length≤2000) (hv: ∀g∈got,g.fVal.length≤2000):zjV ops got=some (zj1 got ops []):=by
 have key: ∀(n q:Nat) (ws:List zaa),q+n=ops.length→zsi q ws→zal (fun s:Int × List zaa=>zaE ops got s.1 s.2) ((q:Int),ws)=some (zj1 got (ops.drop q) ws):=by
  intro n
  induction n with
  |zero=>
   intro q ws hq hw
   rw [List.drop_eq_nil_of_le (by omega),zj1]
   refine zc4 ?_
   show zaE ops got q ws=_
   unfold zaE
   rw [if_neg (by simp;omega)]
  |succ n ih=>
   intro q ws hq hw
   have hlt:q<ops.length:=by omega
   have hok:=ho _ (List.getElem_mem hlt)
   have hwl:=hw.len
   have hwr:=zaI hlt (by omega)
   rw [List.drop_eq_getElem_cons hlt,zj1]
   by_cases h2:(ops[q]).fKind=2
   ·rw [if_pos h2]
    have e:zaE ops got q ws=some (.inl (((q+1:Nat):Int),zmg wk ⟨(ops[q]).fKey,(ops[q]).fVal,false⟩ ws)):=by
     unfold zaE
     rw [if_pos (by simpa using hlt),zac hlt,Option.bind_some,if_pos (by simpa using h2),zoZ (by omega) hw.rise,Option.bind_some,hwr]
    rw [zdK (body:=fun s:Int × List zaa=>zaE ops got s.1 s.2) e]
    exact ih (q+1) _ (by omega) (zi5 hw (zrz hok))
   rw [if_neg h2]
   by_cases h3:(ops[q]).fKind=3
   ·rw [if_pos h3]
    have e:zaE ops got q ws=some (.inl (((q+1:Nat):Int),zmg wk ⟨(ops[q]).fKey, [],true⟩ ws)):=by
     unfold zaE
     rw [if_pos (by simpa using hlt),zac hlt,Option.bind_some,if_neg (by simpa using h2),if_pos (by simpa using h3),zoZ (by omega) hw.rise,Option.bind_some,hwr]
    rw [zdK (body:=fun s:Int × List zaa=>zaE ops got s.1 s.2) e]
    exact ih (q+1) _ (by omega) (zi5 hw (zo3 hok))
   rw [if_neg h3]
   have hsl:=zsQ (k:=(ops[q]).fKey) hw.good hv
   have hb:zaE ops got q ws=if(zdA ws got (ops[q]).fKey).2.2=true then(if zzr ops[q] (zdA ws got (ops[q]).fKey).1 (zdA ws got (ops[q]).fKey).2.1=true then some (.inl (((q+1:Nat):Int),ws))else some (.inr (some (2, [], []))))else some (.inr (some (1,(ops[q]).fKey, []))):=by
    unfold zaE
    rw [if_pos (by simpa using hlt),zac hlt,Option.bind_some,if_neg (by simpa using h2),if_neg (by simpa using h3),zx4 (by omega) (by omega) hw.rise,Option.bind_some]
    cases hs:(zdA ws got (ops[q]).fKey).2.2 with
    |false=>rw [if_pos (by simp),if_neg (by simp)]
    |true=>
     rw [if_neg (by simp),if_pos rfl,zAM hok h2 h3 hsl,Option.bind_some]
     have h4: ¬(ops[q]).fKind=4:=by rcases hok.kind with h|h|h|h<;>omega
     cases zzr ops[q] (zdA ws got (ops[q]).fKey).1 (zdA ws got (ops[q]).fKey).2.1 with
     |false=>rfl
     |true=>rw [if_neg (by simp),if_neg (by simpa using h4),if_pos rfl,hwr]
   by_cases hs:(zdA ws got (ops[q]).fKey).2.2=true
   ·rw [if_pos hs]at hb ⊢
    by_cases hk:zzr ops[q] (zdA ws got (ops[q]).fKey).1 (zdA ws got (ops[q]).fKey).2.1=true
    ·rw [if_pos hk]at hb ⊢
     rw [zdK (body:=fun s:Int × List zaa=>zaE ops got s.1 s.2) hb]
     exact ih (q+1) _ (by omega) ⟨hw.rise,by omega,hw.good⟩
    ·rw [if_neg hk]at hb ⊢
     exact zc4 hb
   ·rw [if_neg hs]at hb ⊢
    exact zc4 hb
 exact key ops.length 0 [] (by omega) ⟨List.Pairwise.nil,Nat.le_refl _,by simp⟩
theorem zDK {ops:List DOp} {got:List zhe} (hl:ops.length≤1000) (ho: ∀o∈ops,OkO o) (hg:got.length≤2000) (hv: ∀g∈got,g.fVal.length≤2000):zkC ops got=some (zj1 got ops []):=by
 have key: ∀(n q:Nat) (ws:List zaa),q+n=ops.length→zsi q ws→zal (fun s:List zaa × Int=>zaN ops got s.1 s.2) (ws,(q:Int))=some (zj1 got (ops.drop q) ws):=by
  intro n
  induction n with
  |zero=>
   intro q ws hq hw
   rw [List.drop_eq_nil_of_le (by omega),zj1]
   refine zc4 ?_
   show zaN ops got ws q=_
   unfold zaN
   rw [if_neg (by simp;omega)]
  |succ n ih=>
   intro q ws hq hw
   have hlt:q<ops.length:=by omega
   have hok:=ho _ (List.getElem_mem hlt)
   have hwl:=hw.len
   have hwr:=zaI hlt (by omega)
   have hsl:=zsQ (k:=(ops[q]).fKey) hw.good hv
   have hgv:=zBM hok (val:=(zdA ws got (ops[q]).fKey).1) (there:=(zdA ws got (ops[q]).fKey).2.1) hsl
   rw [List.drop_eq_getElem_cons hlt,zj1]
   by_cases h2:(ops[q]).fKind=2
   ·rw [if_pos h2]
    rw [if_pos (.inl h2)]at hgv
    have e:zaN ops got ws q=some (.inl (zmg wk ⟨(ops[q]).fKey,(ops[q]).fVal,false⟩ ws,((q+1:Nat):Int))):=by
     unfold zaN
     rw [if_pos (by simpa using hlt),zac hlt,Option.bind_some,zqR (by omega) (by omega),Option.bind_some,if_neg (by simp [h2]),hgv,Option.bind_some,if_neg (by simp),if_pos (by simpa using h2),zwW (by omega) hw.rise,Option.bind_some,hwr]
    rw [zdK (body:=fun s:List zaa × Int=>zaN ops got s.1 s.2) e]
    exact ih (q+1) _ (by omega) (zi5 hw (zrz hok))
   rw [if_neg h2]
   by_cases h3:(ops[q]).fKind=3
   ·rw [if_pos h3]
    rw [if_pos (.inr h3)]at hgv
    have e:zaN ops got ws q=some (.inl (zmg wk ⟨(ops[q]).fKey, [],true⟩ ws,((q+1:Nat):Int))):=by
     unfold zaN
     rw [if_pos (by simpa using hlt),zac hlt,Option.bind_some,zqR (by omega) (by omega),Option.bind_some,if_neg (by simp [h3]),hgv,Option.bind_some,if_neg (by simp),if_neg (by simpa using h2),if_pos (by simpa using h3),zwW (by omega) hw.rise,Option.bind_some,hwr]
    rw [zdK (body:=fun s:List zaa × Int=>zaN ops got s.1 s.2) e]
    exact ih (q+1) _ (by omega) (zi5 hw (zo3 hok))
   rw [if_neg h3]
   rw [if_neg (by simp [h2,h3])]at hgv
   have hb:zaN ops got ws q=if(zdA ws got (ops[q]).fKey).2.2=true then(if zzr ops[q] (zdA ws got (ops[q]).fKey).1 (zdA ws got (ops[q]).fKey).2.1=true then some (.inl (ws,((q+1:Nat):Int)))else some (.inr (some (2, [], []))))else some (.inr (some (1,(ops[q]).fKey, []))):=by
    unfold zaN
    rw [if_pos (by simpa using hlt),zac hlt,Option.bind_some,zqR (by omega) (by omega),Option.bind_some]
    cases hs:(zdA ws got (ops[q]).fKey).2.2 with
    |false=>rw [if_pos (by simp [h2,h3]),if_neg (by simp)]
    |true=>
     rw [if_neg (by simp),if_pos rfl,hgv,Option.bind_some]
     have h4: ¬(ops[q]).fKind=4:=by rcases hok.kind with h|h|h|h<;>omega
     cases zzr ops[q] (zdA ws got (ops[q]).fKey).1 (zdA ws got (ops[q]).fKey).2.1 with
     |false=>rfl
     |true=>rw [if_neg (by simp),if_neg (by simpa using h2),if_neg (by simpa using h3),if_neg (by simpa using h4),if_pos rfl,hwr]
   by_cases hs:(zdA ws got (ops[q]).fKey).2.2=true
   ·rw [if_pos hs]at hb ⊢
    by_cases hk:zzr ops[q] (zdA ws got (ops[q]).fKey).1 (zdA ws got (ops[q]).fKey).2.1=true
    ·rw [if_pos hk]at hb ⊢
     rw [zdK (body:=fun s:List zaa × Int=>zaN ops got s.1 s.2) hb]
     exact ih (q+1) _ (by omega) ⟨hw.rise,by omega,hw.good⟩
    ·rw [if_neg hk]at hb ⊢
     exact zc4 hb
   ·rw [if_neg hs]at hb ⊢
    exact zc4 hb
 exact key ops.length 0 [] (by omega) ⟨List.Pairwise.nil,Nat.le_refl _,by simp⟩
theorem zmt {got:List zhe}: ∀(l:List DOp) {n:Nat} {ws:List zaa},(∀o∈l,OkO o)→zsi n ws→zsi (n+l.length) (zj1 got l ws).2.2∧((zj1 got l ws).1=1→ ∃o∈l,o.fKey=(zj1 got l ws).2.1∧ ∀g∈got,g.fKey≠o.fKey)
 | [],n,ws,_,hw=>⟨hw,fun h=>by simp [zj1]at h⟩
 |o::l,n,ws,ho,hw=>by
  have hok:=ho o (by simp)
  have hl: ∀o∈l,OkO o:=fun x hx=>ho x (by simp [hx])
  have up: ∀{w:List zaa},zsi (n+l.length) w→zsi (n+(o::l).length) w:=fun h=>⟨h.rise,by have:=h.len;rw [List.length_cons];omega,h.good⟩
  rw [zj1]
  split
  ·obtain⟨a,b⟩:=zmt (got:=got) l hl (zi5 hw (zrz hok))
   refine⟨⟨a.rise,by have:=a.len;rw [List.length_cons];omega,a.good⟩,fun h=> ?_⟩
   obtain⟨x,hx,h1,h2⟩:=b h
   exact⟨x,by simp [hx],h1,h2⟩
  ·split
   ·obtain⟨a,b⟩:=zmt (got:=got) l hl (zi5 hw (zo3 hok))
    refine⟨⟨a.rise,by have:=a.len;rw [List.length_cons];omega,a.good⟩,fun h=> ?_⟩
    obtain⟨x,hx,h1,h2⟩:=b h
    exact⟨x,by simp [hx],h1,h2⟩
   ·split
    ·split
     ·obtain⟨a,b⟩:=zmt (got:=got) l hl hw
      refine⟨up a,fun h=> ?_⟩
      obtain⟨x,hx,h1,h2⟩:=b h
      exact⟨x,by simp [hx],h1,h2⟩
     ·exact⟨⟨List.Pairwise.nil,by simp,by simp⟩,fun h=>by simp at h⟩
    ·rename_i hs
     refine⟨⟨List.Pairwise.nil,by simp,by simp⟩,fun _=>⟨o,by simp,rfl,fun g hg e=> ?_⟩⟩
     apply hs
     unfold zdA
     cases e1:ws.find? (fun w=>w.fKey==o.fKey)with
     |some w=>rfl
     |none=>
      unfold zyw
      cases e2:got.find? (fun g=>g.fKey==o.fKey)with
      |some g=>rfl
      |none=>
       rw [List.find?_eq_none]at e2
       exact absurd (by simpa using e) (e2 g hg)
def mu (ops:List DOp) (got:List zhe):Nat:=(ops.filter fun o=>got.all fun g=>g.fKey !=o.fKey).length
theorem zFs {ops:List DOp} {got:List zhe} {g:zhe} {o:DOp} (ho:o∈ops) (hk:o.fKey=g.fKey) (hn: ∀x∈got,x.fKey≠o.fKey):mu ops (got++ [g])<mu ops got:=by
 unfold mu
 have e:(fun o:DOp=>(got++ [g]).all fun x=>x.fKey !=o.fKey)=fun o=>(got.all fun x=>x.fKey !=o.fKey)&&(g.fKey !=o.fKey):=by
  funext x
  rw [List.all_append]
  simp
 have e2:ops.filter (fun o:DOp=>(got++ [g]).all fun x=>x.fKey !=o.fKey)=(ops.filter fun o=>got.all fun x=>x.fKey !=o.fKey).filter fun o=>g.fKey !=o.fKey:=by
  rw [e,List.filter_filter]
  congr 1
  funext x
  rw [Bool.and_comm]
 rw [e2]
 have hm:o∈ops.filter fun o=>got.all fun x=>x.fKey !=o.fKey:=List.mem_filter.2 ⟨ho,List.all_eq_true.2 fun x hx=>by simpa using hn x hx⟩
 generalize ops.filter (fun o=>got.all fun x=>x.fKey !=o.fKey)=l at hm
 have hlt: ∀(l:List DOp),o∈l→(l.filter fun o=>g.fKey !=o.fKey).length<l.length:=by
  intro l
  induction l with
  |nil=>intro h;simp at h
  |cons y l ih=>
   intro h
   rw [List.filter_cons]
   rcases List.mem_cons.1 h with rfl|h
   ·rw [if_neg (by simp [hk])]
    have:=List.length_filter_le (fun o:DOp=>g.fKey !=o.fKey) l
    rw [List.length_cons];omega
   ·have:=ih h
    split
    ·rw [List.length_cons,List.length_cons];omega
    ·rw [List.length_cons];omega
 exact hlt l hm
theorem zGB (ops:List DOp) (got:List zhe):mu ops got≤ops.length:=List.length_filter_le _ _
def zEo (rows:List zaa) (ops:List DOp):Nat→List zhe→List zaa × Bool
 |0,_=>([],false)
 |n+1,got=>if(zj1 got ops []).1=1 then zEo rows ops n (got++ [zkr rows (zj1 got ops []).2.1])else((zj1 got ops []).2.2,(zj1 got ops []).1==3)
structure zrY (rows:List zaa):Prop where
 rise:zlM rows
 len:rows.length≤24
 good: ∀w∈rows,zia w=true
theorem zA2 {rows:List zaa} {k:Str} (h:zrY rows):(zkr rows k).fVal.length≤2000∧(zkr rows k).fKey=k:=by
 unfold zkr
 cases e:rows.find? (fun w=>w.fKey==k)with
 |some w=>
  have:=znT (h.good w (List.mem_of_find?_eq_some e))
  exact⟨by show w.fVal.length≤2000;omega,rfl⟩
 |none=>exact⟨by simp,rfl⟩
theorem zxE {rows:List zaa} {ops:List DOp} (hl:ops.length≤8) (ho: ∀o∈ops,OkO o) (hr:zrY rows): ∀(n:Nat) (got:List zhe),mu ops got<n→got.length+n≤1000→(∀g∈got,g.fVal.length≤2000)→
  (∃g,zal (fun s:List zhe=>zb8 rows ops s) got=some (g,zEo rows ops n got))∧(∃g,zal (fun s:List zhe=>zco rows ops s) got=some (g,zEo rows ops n got))∧zsi 8 (zEo rows ops n got).1
 |0,got,hm,_,_=>by omega
 |n+1,got,hm,hg,hv=>by
  have hi:=zDA (got:=got) (by omega) ho (by omega) hv
  have hs:=zDK (got:=got) (by omega) ho (by omega) hv
  obtain⟨ga,gb⟩:=zmt (got:=got) ops (n:=0) (ws:= []) ho ⟨List.Pairwise.nil,Nat.le_refl _,by simp⟩
  have hrl:=hr.len
  rw [zEo]
  generalize zj1 got ops []=r at hi hs ga gb
  by_cases h1:r.1=1
  ·rw [if_pos h1]
   obtain⟨o,hom,hok,hon⟩:=gb h1
   obtain⟨t1,t2⟩:=zA2 (k:=r.2.1) hr
   have hq:(((got).length:Int)+(([zkr rows r.2.1]:List zhe).length:Int))*40≤140737488355328∧((got).length:Int)+(([zkr rows r.2.1]:List zhe).length:Int)≤140737488355328:=by
    rw [List.length_singleton];omega
   have ei:zb8 rows ops got=some (.inl (got++ [zkr rows r.2.1])):=by
    unfold zb8
    rw [hi,Option.bind_some,if_neg (by simp [h1]),zBe (by omega) hr.rise,Option.bind_some,zae hq]
   have es:zco rows ops got=some (.inl (got++ [zkr rows r.2.1])):=by
    unfold zco
    rw [hs,Option.bind_some,if_neg (by simp [h1]),zDf (by omega),Option.bind_some,zae hq]
   rw [zdK (body:=fun s:List zhe=>zb8 rows ops s) ei,zdK (body:=fun s:List zhe=>zco rows ops s) es]
   refine zxE hl ho hr n _ ?_ (by rw [List.length_append,List.length_singleton];omega) fun g hg'=> ?_
   ·have:=zFs (g:=zkr rows r.2.1) hom (hok.trans t2.symm) hon
    omega
   ·rcases List.mem_append.1 hg' with h|h
    ·exact hv g h
    ·rw [List.mem_singleton]at h;subst h;exact t1
  ·rw [if_neg h1]
   refine⟨⟨got,zc4 ?_⟩,⟨got,zc4 ?_⟩,ga.rise,by have:=ga.len;show r.2.2.length≤8;omega,ga.good⟩
   ·show zb8 rows ops got=_
    unfold zb8
    rw [hi,Option.bind_some,if_pos (by simpa using h1)]
   ·show zco rows ops got=_
    unfold zco
    rw [hs,Option.bind_some,if_pos (by simpa using h1)]
def znl (rows:List zaa) (ops:List DOp):List zaa × Bool:=zEo rows ops 9 []
theorem zwi {rows:List zaa} {ops:List DOp} (hl:ops.length≤8) (ho: ∀o∈ops,OkO o) (hr:zrY rows):(∃g,zjs rows ops=some (g,znl rows ops))∧(∃g,zj3 rows ops=some (g,znl rows ops))∧zsi 8 (znl rows ops).1:=by
 have:=zGB ops []
 exact zxE hl ho hr 9 [] (by omega) (by simp) (by simp)
end Go.Proofs.YtfkblfjloegahaaGreatDoor
end
section
namespace Go.Proofs.YtfkblfjloegahaaGreatDoor
open Go.RowKit
set_option maxRecDepth 100000
theorem zv4 {s:Str} (h:field s=true):s.length≤3:=by
 unfold field at h
 simp only [Bool.and_eq_true]at h
 have:=zbs.1 h.1
 omega
theorem zwX {t:zab} {r:zdu} (h:zbB t r=true) (c:Int):(zkh r c).length≤3:=by
 unfold zbB at h
 simp only [Bool.and_eq_true]at h
 unfold zkh
 cases e:r.fVals[c.toNat]? with
 |none=>simp
 |some s=>exact zv4 (List.all_eq_true.1 h.2 s (List.mem_of_getElem? e))
theorem zve {k:Nat}: ∀{xs:List Str},(∀s∈xs,s.length≤k)→zel xs≤k*xs.length
 | [],_=>by simp [zel]
 |s::xs,h=>by
  have h1:=h s (by simp)
  have h2:=zve (k:=k) (xs:=xs) fun y hy=>h y (by simp [hy])
  simp only [zel,List.length_cons,Nat.mul_add,Nat.mul_one]
  omega
theorem zBT {t:zab} {r:zdu} (hg:zau t=true) (h:zbB t r=true):(zli t r).fKey.length≤5∧(zli t r).fVal.length≤20:=by
 have hn:=zjt (zlT hg)
 have hc:=zkG hg
 have hv:=zwX h 0
 have h':=h
 unfold zbB at h'
 simp only [Bool.and_eq_true,beq_iff_eq]at h'
 have hall: ∀s∈r.fVals,s.length≤3:=fun s hs=>zv4 (List.all_eq_true.1 h'.2 s hs)
 constructor
 ·unfold zli
  have e:(r.fVals.head?).getD []=zkh r 0:=by unfold zkh;rw [List.head?_eq_getElem?];rfl
  simp only [e,List.length_append,List.length_singleton]
  omega
 ·have h1:=zuN r.fVals.tail [44]
  have h2:=zve (k:=3) (xs:=r.fVals.tail) fun s hs=>hall s (List.mem_of_mem_tail hs)
  have h3:r.fVals.tail.length≤3:=by rw [List.length_tail];omega
  rw [List.length_singleton]at h1
  show(Lib.join r.fVals.tail [44]).length≤20
  omega
theorem zAO {t:zab} {n:Str} {c:Int} {r:zdu} (hg:zau t=true) (hn:n.length=1) (h:zbB t r=true):(zlp t n c r).length≤11:=by
 have h1:=zjt (zlT hg)
 have h2:=zwX h c
 have h3:=zwX h 0
 unfold zlp head
 simp only [List.length_append,List.length_singleton]
 omega
theorem zxC {α β:Type} {P:β→Prop} {f:α→List β}: ∀(xs:List α) (a:List β),(∀x∈xs,∀o∈f x,P o)→(∀o∈a,P o)→ ∀o∈xs.foldl (fun a x=>a++f x) a,P o
 | [],a,_,h=>h
 |x::xs,a,hf,h=>zxC xs (a++f x) (fun y hy=>hf y (by simp [hy])) fun o ho=>by
  rcases List.mem_append.1 ho with ho|ho
  ·exact h o ho
  ·exact hf x (by simp) o ho
theorem zvS {α β:Type} {f:α→List β} (hf: ∀x,(f x).length≤2): ∀(xs:List α) (a:List β),(xs.foldl (fun a x=>a++f x) a).length≤a.length+2*xs.length
 | [],a=>by simp
 |x::xs,a=>by
  have h1:=zvS hf xs (a++f x)
  have h2:=hf x
  rw [List.length_append]at h1
  rw [List.foldl_cons,List.length_cons]
  omega
def zCU (s:Str):Prop:= ∀b∈s,(zfS b||([46,47]:Str).contains b)=true
def zHb (s:Str):Prop:= ∀b∈s,(zfS b||([46,45,44,95]:Str).contains b)=true
theorem zzK {s:Str} (h:field s=true): ∀b∈s,zfS b=true:=by
 unfold field zjm at h
 simp only [Bool.and_eq_true]at h
 intro b hb
 have:=List.all_eq_true.1 h.2 b hb
 simpa using this
theorem zmZ {s:Str} {k:Int} (h:zcC s k=true): ∀b∈s,zfS b=true:=by
 unfold zcC at h
 simp only [Bool.and_eq_true]at h
 intro b hb
 have:=List.all_eq_true.1 h.1 b hb
 unfold small at this
 unfold zfS
 simp only [Bool.not_eq_true',Bool.or_eq_false_iff,decide_eq_false_iff_not]at this
 simp only [Bool.or_eq_true,Bool.and_eq_true,decide_eq_true_eq]
 left
 omega
theorem zjd {s:Str} (h: ∀b∈s,zfS b=true):zCU s:=fun b hb=>by rw [h b hb];rfl
theorem zCU.app {s u:Str} (h:zCU s) (k:zCU u):zCU (s++u):=fun b hb=>by
 rcases List.mem_append.1 hb with hb|hb
 ·exact h b hb
 ·exact k b hb
theorem zG7:zCU [46]:=fun b hb=>by rw [List.mem_singleton]at hb;subst hb;decide
theorem zDk:zCU [47]:=fun b hb=>by rw [List.mem_singleton]at hb;subst hb;decide
theorem zs4 {s:Str} (h1:1≤s.length) (h2:s.length≤12) (h:zCU s):zcF s=true:=by
 unfold zcF zjm
 rw [zbs.2 ⟨by omega,by omega⟩,List.all_eq_true.2 h]
 rfl
theorem zx0 {s:Str} (h2:s.length≤24) (h:zHb s):zgZ s=true:=by
 unfold zgZ zjm
 rw [show decide ((s.length:Int)≤24)=true by simp;omega,List.all_eq_true.2 h]
 rfl
theorem zBR {xs:List Str} (h: ∀x∈xs,∀b∈x,zfS b=true):zHb (Lib.join xs [44]):=by
 cases xs with
 |nil=>intro b hb;simp [Lib.join_nil]at hb
 |cons x r=>
  intro b hb
  rw [Lib.join_cons]at hb
  rcases List.mem_append.1 hb with hb|hb
  ·rw [h x (by simp) b hb];rfl
  ·unfold Lib.joinTail at hb
   obtain⟨l,hl,hbl⟩:=List.mem_flatten.1 hb
   obtain⟨y,hy,rfl⟩:=List.mem_map.1 hl
   rcases List.mem_append.1 hbl with hb|hb
   ·rw [List.mem_singleton]at hb;subst hb;decide
   ·rw [h y (by simp [hy]) b hb];rfl
theorem zta {t:zab} {r:zdu} (h:zbB t r=true): ∀x∈r.fVals,∀b∈x,zfS b=true:=by
 unfold zbB at h
 simp only [Bool.and_eq_true]at h
 exact fun x hx=>zzK (List.all_eq_true.1 h.2 x hx)
theorem zwo {t:zab} {r:zdu} (h:zbB t r=true) (c:Int): ∀b∈zkh r c,zfS b=true:=by
 unfold zkh
 cases e:r.fVals[c.toNat]? with
 |none=>simp
 |some s=>exact zta h s (List.mem_of_getElem? e)
theorem zqj {t:zab} {r:zdu} (hg:zau t=true) (h:zbB t r=true):zcF (zli t r).fKey=true∧zgZ (zli t r).fVal=true:=by
 have hl:=zBT hg h
 have e:(zli t r).fKey=t.fName++ [47]++zkh r 0:=by
  unfold zli zkh
  rw [List.head?_eq_getElem?]
  rfl
 refine⟨zs4 ?_ (by omega) ?_,zx0 (by omega) ?_⟩
 ·rw [e];simp;omega
 ·rw [e]
  exact((zjd (zmZ (zlT hg))).app zDk).app (zjd (zwo h 0))
 ·exact zBR fun x hx=>zta h x (List.mem_of_mem_tail hx)
theorem ztm {t:zab} {n:Str} {c:Int} {r:zdu} (hg:zau t=true) (hn:zcC n 1=true) (h:zbB t r=true):zcF (zlp t n c r)=true:=by
 have hl:=zAO (c:=c) hg (zjt hn) h
 refine zs4 ?_ (by omega) ?_
 ·unfold zlp;simp;omega
 ·unfold zlp head
  exact((((((zjd (zmZ (zlT hg))).app zG7).app (zjd (zmZ hn))).app zDk).app (zjd (zwo h c))).app zDk).app (zjd (zwo h 0))
end Go.Proofs.YtfkblfjloegahaaGreatDoor
end
section
namespace Go.Proofs.YtfkblfjloegahaaGreatDoor
open Go.RowKit
set_option maxRecDepth 100000
theorem zBw {t:zab} {a:zat} (hg:zau t=true) (h:zjr t a=true):(ztQ t a).length≤8∧ ∀o∈ztQ t a,OkO o:=by
 have ho:a.fKind≠1→zbB t a.fOld=true:=fun h1=>by
  unfold zjr at h
  rw [if_neg h1]at h
  by_cases h2:a.fKind=2
  ·rw [if_pos h2,Bool.and_eq_true]at h;exact h.1
  rw [if_neg h2]at h
  by_cases h3:a.fKind=3
  ·rw [if_pos h3,Bool.and_eq_true]at h;exact h.1
  rw [if_neg h3]at h;cases h
 have hn:a.fKind≠2→zbB t a.fNew=true:=fun h2=>by
  unfold zjr at h
  by_cases h1:a.fKind=1
  ·rw [if_pos h1,Bool.and_eq_true]at h;exact h.2
  rw [if_neg h1,if_neg h2]at h
  by_cases h3:a.fKind=3
  ·rw [if_pos h3,Bool.and_eq_true,Bool.and_eq_true]at h;exact h.2.1
  rw [if_neg h3]at h;cases h
 have hc:=zkG hg
 have v0:zgZ ([]:Str)=true:=by decide
 constructor
 ·have h1:=zvS (zo8 t a) t.fIdxs (zk3 t a)
  rw [zni]at h1
  unfold ztQ
  omega
 ·refine zxC _ _ (fun x hx o hm=> ?_) (fun o hm=> ?_)
  ·have hx1:=(ztW hg hx).1
   unfold zpf zpj zsg at hm
   rcases List.mem_append.1 hm with hm|hm
   ·split at hm
    ·rename_i q
     rw [List.mem_singleton]at hm
     subst hm
     refine⟨?_,v0,rfl,by simp,fun _=>rfl⟩
     show zcF (zCl t a x)=true
     unfold zCl at q ⊢
     by_cases h1:a.fKind=1
     ·rw [if_pos h1]at q;exact absurd rfl q.1
     ·rw [if_neg h1];exact ztm hg hx1 (ho h1)
    ·simp at hm
   ·split at hm
    ·rename_i q
     rw [List.mem_singleton]at hm
     subst hm
     refine⟨?_,v0,rfl,by simp,fun _=>rfl⟩
     show zcF (zAT t a x)=true
     unfold zAT at q ⊢
     by_cases h1:a.fKind=2
     ·rw [if_pos h1]at q;exact absurd rfl q.1
     ·rw [if_neg h1];exact ztm hg hx1 (hn h1)
    ·simp at hm
  ·unfold zk3 at hm
   split at hm
   ·rename_i q
    have w:=zqj hg (hn (by omega))
    simp only [List.mem_cons,List.not_mem_nil,or_false]at hm
    rcases hm with rfl|rfl
    ·exact⟨w.1,v0,rfl,by simp,fun _=>rfl⟩
    ·exact⟨w.1,w.2,rfl,by simp,fun k=>by simp at k⟩
   ·rename_i q1
    have w1:=zqj hg (ho q1)
    split at hm
    ·simp only [List.mem_cons,List.not_mem_nil,or_false]at hm
     rcases hm with rfl|rfl
     ·exact⟨w1.1,w1.2,rfl,by simp,fun k=>by simp at k⟩
     ·exact⟨w1.1,v0,rfl,by simp,fun _=>rfl⟩
    ·rename_i q2
     have w2:=zqj hg (hn q2)
     simp only [List.mem_cons,List.not_mem_nil,or_false]at hm
     rcases hm with rfl|rfl
     ·exact⟨w1.1,w1.2,rfl,by simp,fun k=>by simp at k⟩
     ·exact⟨w1.1,w2.2,rfl,by simp,fun k=>by simp at k⟩
theorem zlO {l:List zaa} (h:zda l=true):zrY l∧ ∀w∈l,w.fGone=false:=by
 unfold zda at h
 rw [Bool.and_eq_true]at h
 have hr:=zqx h.1
 have h1:=h.1
 unfold zd4 at h1
 simp only [Bool.and_eq_true,decide_eq_true_eq]at h1
 exact⟨⟨hr,by omega,List.all_eq_true.1 h1.2.1⟩,fun w hw=>by simpa using List.all_eq_true.1 h.2 w hw⟩
theorem zq6 {l:List zaa} (hr:zlM l) (hg: ∀w∈l,zia w=true) (hn: ∀w∈l,w.fGone=false):zda l=decide ((l.length:Int)≤24):=by
 have h1:zmX (l.map (·.fKey))=true:=by
  rw [zno,zmm]
  exact(znZ (r:=fun a b:zaa=>bl a.fKey b.fKey) fun a b c p q=>zgF p q).2 hr
 unfold zda zd4
 rw [h1,List.all_eq_true.2 hg,show(l.all fun w=> !w.fGone)=true from List.all_eq_true.2 fun w hw=>by rw [hn w hw];rfl]
 simp
theorem zk0 {l:List zaa} (hl:l.length≤2000000) (hg: ∀w∈l,zia w=true):zpi l:=
 ⟨hl,fun w hw=>⟨by have:=zvF (hg w hw);omega,by have:=znT (hg w hw);omega⟩⟩
def zgj (rows ws:List zaa):List zaa:=(ws.foldl (fun o w=>zmg wk w o) rows).filter fun w=> !w.fGone
theorem zAE: ∀(ws:List zaa) {n:Nat} {rows:List zaa},zsi n rows→(∀w∈ws,zia w=true)→zsi (n+ws.length) (ws.foldl (fun o w=>zmg wk w o) rows)
 | [],n,rows,h,_=>h
 |w::ws,n,rows,h,hw=>by
  have:=zAE ws (zi5 h (hw w (by simp))) fun y hy=>hw y (by simp [hy])
  exact⟨this.rise,by have:=this.len;rw [List.length_cons];rw [List.foldl_cons];omega,this.good⟩
theorem zvy {rows ws:List zaa} (hr:zrY rows) (hw:zsi 8 ws):zlM (zgj rows ws)∧(zgj rows ws).length≤32∧(∀w∈zgj rows ws,zia w=true)∧ ∀w∈zgj rows ws,w.fGone=false:=by
 have h:=zAE ws (n:=24) (rows:=rows) ⟨hr.rise,hr.len,hr.good⟩ hw.good
 have hl:=hw.len
 unfold zgj
 refine⟨zp2.filter h.rise _,Nat.le_trans (List.length_filter_le _ _) (by have:=h.len;omega),fun w hm=>h.good w (List.mem_filter.1 hm).1,fun w hm=>by simpa using(List.mem_filter.1 hm).2⟩
theorem zx2 {rows ws:List zaa} (hr:zrY rows) (hw:zsi 8 ws):zhV rows ws=some (if(zgj rows ws).length>24 then([],false)else(zgj rows ws,true)):=by
 have hrl:=hr.len
 have hwl:=hw.len
 have hc:zaz rows=some rows:=zmq (by omega) (by omega)
 unfold zhV
 rw [hc,Option.bind_some]
 have h1:=zbY (xs:=ws) (body:=fun s:Int × List zaa=>zdm ws s.1 s.2) (fun i (o:List zaa)=>(i,o)) (fun o w=>zmg wk w o) (fun o=>zhy o) (fun i o=>zsi (24+i) o)
  (fun i hi o hI=>by
   have hI:zsi (24+i) o:=hI
   have hol:=hI.len
   refine⟨?_,zi5 hI (hw.good _ (List.getElem_mem hi))⟩
   show zdm ws i o=_
   unfold zdm
   rw [if_pos (by simpa using hi),zac hi,Option.bind_some,zoZ (by omega) hI.rise,Option.bind_some,zaI hi (by omega)])
  (fun o hI=>by
   show zdm ws ws.length o=_
   unfold zdm
   rw [if_neg (by simp)]) (s:=rows) ⟨hr.rise,hr.len,hr.good⟩
 rw [h1.1]
 have hK:zsi (24+ws.length) (ws.foldl (fun o w=>zmg wk w o) rows):=h1.2
 have hkl:=hK.len
 unfold zhy zfj
 rw [zae (by omega),zoH (p:=fun y0_=>ziu y0_) (fun w:zaa=>w.fGone) (fun w _=>rfl),Option.bind_some]
 show(if decide (((zgj rows ws).length:Int)>24)=true then _ else _)=_
 by_cases hq:(zgj rows ws).length>24
 ·rw [if_pos (decide_eq_true (by omega)),if_pos hq]
 ·rw [if_neg (by rw [decide_eq_true_eq];omega),if_neg hq];rfl
theorem zyE {rows ws:List zaa} (hr:zrY rows) (hw:zsi 8 ws):zf0 rows ws=some (zgj rows ws):=by
 have hrl:=hr.len
 have hwl:=hw.len
 have hq:((([]:List zaa).length:Int)+((rows).length:Int))*40≤140737488355328∧(([]:List zaa).length:Int)+((rows).length:Int)≤140737488355328:=by
  rw [List.length_nil];omega
 unfold zf0
 rw [zae hq]
 have h1:=zbY (xs:=ws) (body:=fun s:Int × List zaa=>zcs ws s.1 s.2) (fun i (o:List zaa)=>(i,o)) (fun o w=>zmg wk w o) (fun o=>zf7 o) (fun i o=>zsi (24+i) o)
  (fun i hi o hI=>by
   have hI:zsi (24+i) o:=hI
   have hol:=hI.len
   refine⟨?_,zi5 hI (hw.good _ (List.getElem_mem hi))⟩
   show zcs ws i o=_
   unfold zcs
   rw [if_pos (by simpa using hi),zac hi,Option.bind_some,zwW (by omega) hI.rise,Option.bind_some,zaI hi (by omega)])
  (fun o hI=>by
   show zcs ws ws.length o=_
   unfold zcs
   rw [if_neg (by simp)]) (s:=rows) ⟨hr.rise,hr.len,hr.good⟩
 rw [h1.1]
 have hK:zsi (24+ws.length) (ws.foldl (fun o w=>zmg wk w o) rows):=h1.2
 have hkl:=hK.len
 unfold zgj
 generalize ws.foldl (fun o w=>zmg wk w o) rows=l at hkl
 unfold zf7
 have h2:=zbY (xs:=l) (body:=fun s:List zaa × Int=>zcn l s.1 s.2) (fun i (o:List zaa)=>(o,i)) (fun o w=>if(!w.fGone)=true then o++ [id w]else o) (fun o=>some o) (fun i o=>o.length≤i)
  (fun i hi o hI=>by
   have hI:o.length≤i:=hI
   have hr:(((o).length:Int)+(([l[i]]:List zaa).length:Int))*40≤140737488355328∧((o).length:Int)+(([l[i]]:List zaa).length:Int)≤140737488355328:=by
    rw [List.length_singleton];omega
   refine⟨?_,by show List.length _≤_;split;rw [List.length_append,List.length_singleton];omega;omega⟩
   show zcn l o i=_
   unfold zcn
   rw [if_pos (by simpa using hi),zac hi,Option.bind_some,zaI hi (by omega)]
   cases(!(l[i]).fGone)with
   |false=>rfl
   |true=>rw [if_pos rfl,zae hr];rfl)
  (fun o _=>by
   show zcn l o l.length=_
   unfold zcn
   rw [if_neg (by simp)]) (s:= []) (Nat.le_refl _)
 refine h2.1.trans ?_
 rw [zjc (fun w:zaa=> !w.fGone) id l []]
 simp
def zoI (st:List zaa) (ops:List DOp):List zaa × Bool:=if(znl st ops).2=true∧(zgj st (znl st ops).1).length≤24 then(zgj st (znl st ops).1,true)else(st,false)
theorem zAC {st:List zaa} {ops:List DOp} (hl:ops.length≤8) (ho: ∀o∈ops,OkO o) (hg:zda st=true):zi1 st ops=some (zoI st ops):=by
 obtain⟨hr,_⟩:=zlO hg
 obtain⟨⟨g,e⟩,_,hw⟩:=zwi hl ho hr
 have hrl:=hr.len
 have hq:((([]:List zaa).length:Int)+((st).length:Int))*40≤140737488355328∧(([]:List zaa).length:Int)+((st).length:Int)≤140737488355328:=by
  rw [List.length_nil];omega
 unfold zi1 zoI
 rw [e,Option.bind_some,zx2 hr hw,Option.bind_some]
 cases h1:(znl st ops).2 with
 |false=>rw [if_pos (by simp),zae hq,if_neg (by simp)]
 |true=>
  by_cases h2:(zgj st (znl st ops).1).length>24
  ·rw [if_pos h2,if_pos (by simp),zae hq,if_neg (by omega)]
  ·rw [if_neg h2,if_neg (by simp),if_pos ⟨rfl,by omega⟩]
theorem zyC {ops:List DOp} (hl:ops.length≤8) (ho: ∀o∈ops,OkO o):zi2 ops=some true:=by
 have h1: ∀o:DOp,OkO o→zkH o=some true:=by
  intro o h
  have hk:=zu6 h.key
  have hv:=zu0 h.val
  unfold zkH zjX
  rw [zCz (by omega),Option.bind_some,h.key,if_neg (by simp)]
  rcases h.kind with k|k|k|k
  ·rw [k];simp [zAI (s:=o.fVal) (by omega),h.val,h.by_]
  ·have:=h.none (.inl k);rw [k];simp [this,h.by_]
  ·have:=h.none (.inr k);rw [k];simp [this,h.by_]
  ·rw [k];simp [zAI (s:=o.fVal) (by omega),h.val,h.by_]
 unfold zi2
 rw [zkz (xs:=ops) (body:=fun s:Int=>zdG ops s) (fun _=>true) false (ziA ops) (fun i hi=>by
  show zdG ops i=_
  unfold zdG
  rw [if_pos (by simpa using hi),zac hi,Option.bind_some,h1 _ (ho _ (List.getElem_mem hi)),Option.bind_some,if_neg (by simp),zaI hi (by omega),if_pos rfl]) (by
  show zdG ops ops.length=_
  unfold zdG
  rw [if_neg (by simp)]),if_pos (List.all_eq_true.2 fun _ _=>rfl)]
 unfold ziA
 simp;omega
theorem zGW {st:List zaa} {ops:List DOp} (hl:ops.length≤8) (ho: ∀o∈ops,OkO o) (hg:zda st=true):zjM st ops=some (zoI st ops):=by
 obtain⟨hr,_⟩:=zlO hg
 obtain⟨_,⟨g,e⟩,hw⟩:=zwi hl ho hr
 have hrl:=hr.len
 have hq:((([]:List zaa).length:Int)+((st).length:Int))*40≤140737488355328∧(([]:List zaa).length:Int)+((st).length:Int)≤140737488355328:=by
  rw [List.length_nil];omega
 have hqb: ∀b:Bool,((([]:List Bool).length:Int)+(([b]:List Bool).length:Int))*1≤140737488355328∧(([]:List Bool).length:Int)+(([b]:List Bool).length:Int)≤140737488355328:=by
  intro b;rw [List.length_nil,List.length_singleton];omega
 obtain⟨p1,p2,p3,p4⟩:=zvy hr hw
 have hv7:zc6 (zgj st (znl st ops).1)=some (decide (((zgj st (znl st ops).1).length:Int)≤24)):=by
  rw [zrk (zk0 (by omega) p3),zq6 p1 p3 p4]
 have hw1:IntKind.i64.wrap ((0:Int)+1)=1:=by decide
 have key:zfZ st [ops]=some ((zoI st ops).1, [(zoI st ops).2],true):=by
  unfold zfZ
  rw [zrk (zk0 (by omega) hr.good),Option.bind_some,hg,if_neg (by simp)]
  have b0:zbS st [ops] 0=some (.inl 1):=by
   unfold zbS
   rw [if_pos (by simp),show zaA [ops] 0=some ops from rfl,Option.bind_some,zyC hl ho,Option.bind_some,if_neg (by simp),hw1]
  have b1:zbS st [ops] 1=some (.inr (zgh st [ops])):=by
   unfold zbS
   rw [if_neg (by simp)]
  rw [zdK (body:=fun s:Int=>zbS st [ops] s) b0,zc4 (body:=fun s:Int=>zbS st [ops] s) b1]
  unfold zgh
  rw [zae hq]
  have c0:zbV [ops] [] 0 st=some (.inl ([(zoI st ops).2],1,(zoI st ops).1)):=by
   unfold zbV zoI
   rw [if_pos (by simp),show zaA [ops] 0=some ops from rfl,Option.bind_some,e,Option.bind_some,zyE hr hw,Option.bind_some]
   cases h1:(znl st ops).2 with
   |false=>rw [if_neg (by simp),zae (hqb _),if_neg (by simp),hw1];rfl
   |true=>
    rw [if_pos rfl,hv7,Option.bind_some]
    by_cases h2:(zgj st (znl st ops).1).length≤24
    ·have h3:decide (((zgj st (znl st ops).1).length:Int)≤24)=true:=by simp;omega
     rw [h3,if_pos rfl,zae (hqb _),if_pos ⟨rfl,h2⟩,hw1];rfl
    ·have h3:decide (((zgj st (znl st ops).1).length:Int)≤24)=false:=by simp;omega
     rw [h3,if_neg (by simp),zae (hqb _),if_neg (by omega),hw1];rfl
  have c1: ∀(bs:List Bool) (l:List zaa),zbV [ops] bs 1 l=some (.inr (some (l,bs,true))):=by
   intro bs l
   unfold zbV
   rw [if_neg (by simp)]
  rw [zdK (body:=fun s:List Bool × Int × List zaa=>zbV [ops] s.1 s.2.1 s.2.2) c0,zc4 (body:=fun s:List Bool × Int × List zaa=>zbV [ops] s.1 s.2.1 s.2.2) (c1 _ _)]
 unfold zjM
 rw [key,Option.bind_some,if_pos (by simp)]
 rfl
theorem zCn {st:List zaa} {ops:List DOp} (hl:ops.length≤8) (ho: ∀o∈ops,OkO o) (hg:zda st=true):zda (zoI st ops).1=true:=by
 obtain⟨hr,_⟩:=zlO hg
 obtain⟨_,_,hw⟩:=zwi hl ho hr
 obtain⟨p1,p2,p3,p4⟩:=zvy hr hw
 unfold zoI
 split
 ·rename_i h
  show zda (zgj st (znl st ops).1)=true
  rw [zq6 p1 p3 p4]
  have:=h.2
  simp;omega
 ·exact hg
end Go.Proofs.YtfkblfjloegahaaGreatDoor
end
section
namespace Go.Proofs.YtfkblfjloegahaaGreatDoor
open Go.RowKit
set_option maxRecDepth 100000
theorem zoV {α:Type}: ∀(xs a:List α),xs.foldl (fun o x=>o++ [x]) a=a++xs
 | [],a=>by simp
 |x::xs,a=>by rw [List.foldl_cons,zoV xs (a++ [x])];simp
theorem zCx {o p:List zab} (h:o.length≤2000001) (hn:p.length≤5):((o.length:Int)+(p.length:Int))*64≤140737488355328∧(o.length:Int)+(p.length:Int)≤140737488355328:=by omega
theorem zA4 {s:zaf} (hS:zlv s):zeJ s=some s:=by
 have h1:=hS.at_
 have h2:=hS.store.1
 have h3:=hS.ways
 have c1:zdV s.fAt=some s.fAt:=zmq (by omega) (by omega)
 have c2:zaz s.fStore=some s.fStore:=zmq (by omega) (by omega)
 unfold zeJ
 rw [c1,c2,Option.bind_some,Option.bind_some]
 have h:=zbY (xs:=s.fWays) (body:=fun q:Int × List zab=>zct s s.fAt s.fStore q.1 q.2) (fun i (o:List zab)=>(i,o)) (fun o t=>o++ [t]) (fun o=>some ⟨s.fName,o,s.fAt,s.fStore⟩) (fun i o=>o.length=i)
  (fun i hi o hI=>by
   have hI:o.length=i:=hI
   refine⟨?_,by show List.length _=_;rw [List.length_append,List.length_singleton];omega⟩
   show zct s s.fAt s.fStore i o=_
   unfold zct
   rw [if_pos (by simpa using hi),zac hi,Option.bind_some,zwI (hS.way _ (List.getElem_mem hi)),Option.bind_some,zae (zCx (by omega) (by simp)),zaI hi (by omega)])
  (fun o _=>by
   show zct s s.fAt s.fStore s.fWays.length o=_
   unfold zct
   rw [if_neg (by simp)]) (s:= []) rfl
 rw [zoV]at h
 exact h.1
theorem zD6 {s:zaf} (hS:zlv s):zgW s=some s:=by
 have h1:=hS.at_
 have h2:=hS.store.1
 have h3:=hS.ways
 have c1:zjP s.fAt=some s.fAt:=by
  unfold zjP
  rw [zae (by rw [List.length_nil];omega)]
 have hq:((([]:List zaa).length:Int)+((s.fStore).length:Int))*40≤140737488355328∧(([]:List zaa).length:Int)+((s.fStore).length:Int)≤140737488355328:=by
  rw [List.length_nil];omega
 unfold zgW
 rw [c1,Option.bind_some,zae hq]
 have h:=zbY (xs:=s.fWays) (body:=fun q:Int × List zab=>zdI s s.fAt q.1 q.2) (fun i (o:List zab)=>(i,o)) (fun o t=>o++ [t]) (fun o=>some ⟨s.fName,o,s.fAt,s.fStore⟩) (fun i o=>o.length=i)
  (fun i hi o hI=>by
   have hI:o.length=i:=hI
   refine⟨?_,by show List.length _=_;rw [List.length_append,List.length_singleton];omega⟩
   show zdI s s.fAt i o=_
   unfold zdI
   rw [if_pos (by simpa using hi),zac hi,Option.bind_some,zAB (hS.way _ (List.getElem_mem hi)),Option.bind_some,zae (zCx (by omega) (by simp)),zaI hi (by omega)])
  (fun o _=>by
   show zdI s s.fAt s.fWays.length o=_
   unfold zdI
   rw [if_neg (by simp)]) (s:= []) rfl
 rw [zoV]at h
 exact h.1
def zHN (a:zat):Bool:=((a.fKind==0)&&((a.fOld.fVals.length:Int)==0))&&((a.fNew.fVals.length:Int)==0)
structure zGa (s:zaf) (a:zad):Prop where
 srv:0≤a.fServer∧a.fServer≤(s.fAt.length:Int)-1
 step:a.fStep=0∨a.fStep=1∨a.fStep= -1
 act:a.fStep=0→ ∃y t,zaA s.fAt a.fServer=some y∧zaA s.fWays y=some t∧t∈s.fWays∧zjr t a.fAct=true
theorem zoM {t:zab} {n:Str} (h:znG t n=true):zau t=true:=by
 unfold znG at h
 simp only [Bool.and_eq_true]at h
 exact h.1
theorem zw3 {s:zaf} (hg:zq4 s) {i:Int} (h:0≤i∧i≤(s.fAt.length:Int)-1): ∃y t,zaA s.fAt i=some y∧zaA s.fWays y=some t∧t∈s.fWays∧0≤y∧y≤(s.fWays.length:Int)-1:=by
 obtain⟨y,e1,hy,_⟩:=zo1 (xs:=s.fAt) h.1 (by omega)
 have hb:=hg.2.2.2.2.2.1 y hy
 obtain⟨t,e2,ht,_⟩:=zo1 (xs:=s.fWays) hb.1 (by omega)
 exact⟨y,t,e1,e2,ht,hb.1,hb.2⟩
def zmb (s:zaf) (t:zab) (a:zad):Bool:=
 inB a.fServer 0 ((s.fAt.length:Int)-1)&&(if a.fStep=0 then zjr t a.fAct else if a.fStep=1∨a.fStep= -1 then zHN a.fAct else false)
def ztu (s:zaf) (i:Int):zab:=(zaA s.fWays ((zaA s.fAt i).getD 0)).getD noT
theorem zxY {s:zaf} {a:zad} (hg:zq4 s) (hA:zmN a.fAct):zeW s a=some (zmb s (ztu s a.fServer) a):=by
 have h3:=zbs.1 hg.2.2.2.2.1
 have w:IntKind.i64.wrap ((s.fAt.length:Int)-1)=(s.fAt.length:Int)-1:=zaD (by omega) (by omega)
 unfold zeW zmb
 rw [w,zlC,Option.bind_some]
 cases hv:inB a.fServer 0 ((s.fAt.length:Int)-1)with
 |false=>rfl
 |true=>
  obtain⟨y,t,e1,e2,ht,_,_⟩:=zw3 hg (zbs.1 hv)
  have hc:=zkG (zoM (hg.2.2.1 t ht))
  have et:ztu s a.fServer=t:=by unfold ztu;rw [e1,Option.getD_some,e2];rfl
  rw [et,if_neg (by simp),Bool.true_and]
  by_cases h0:a.fStep=0
  ·rw [if_neg (by simp [h0]),if_pos (by simpa using h0),if_pos h0,e1,Option.bind_some,e2,Option.bind_some,zs5 (by omega) hA];rfl
  ·rw [if_neg h0]
   by_cases h1:a.fStep=1∨a.fStep= -1
   ·rw [if_pos (by simpa using h1),if_pos h1];rfl
   ·rw [if_neg (by simpa using h1),if_neg h1,if_neg (by simpa using h0)]
theorem zyz {s:zaf} {a:zad} (hg:zq4 s) (hA:zmN a.fAct):zba s a=some (zmb s (ztu s a.fServer) a):=by
 have h3:=zbs.1 hg.2.2.2.2.1
 have w:IntKind.i64.wrap ((s.fAt.length:Int)-1)=(s.fAt.length:Int)-1:=zaD (by omega) (by omega)
 unfold zba zmb
 rw [w,zhM,Option.bind_some]
 cases hv:inB a.fServer 0 ((s.fAt.length:Int)-1)with
 |false=>rfl
 |true=>
  obtain⟨y,t,e1,e2,ht,_,_⟩:=zw3 hg (zbs.1 hv)
  have hc:=zkG (zoM (hg.2.2.1 t ht))
  have et:ztu s a.fServer=t:=by unfold ztu;rw [e1,Option.getD_some,e2];rfl
  have ht2:zaJ s a.fServer=some t:=by
   unfold zaJ
   rw [e1,Option.bind_some,e2];rfl
  rw [et,if_neg (by simp),Bool.true_and]
  by_cases h0:a.fStep=0
  ·rw [if_pos (by simpa using h0),if_pos h0,ht2,Option.bind_some,zxZ (by omega) hA];rfl
  ·rw [if_neg (by simpa using h0),if_neg h0]
   by_cases h1:a.fStep=1
   ·rw [if_pos (by simpa using h1),if_pos (.inl h1)];rfl
   ·rw [if_neg (by simpa using h1)]
    by_cases h2:a.fStep= -1
    ·rw [if_pos (by simpa using h2),if_pos (.inr h2)];rfl
    ·rw [if_neg (by simpa using h2),if_neg (by simp [h1,h2])]
theorem zFb {s:zaf} {a:zad} (hg:zq4 s) (h:zmb s (ztu s a.fServer) a=true):zGa s a:=by
 unfold zmb at h
 rw [Bool.and_eq_true]at h
 have hv:=zbs.1 h.1
 obtain⟨y,t,e1,e2,ht,_,_⟩:=zw3 hg hv
 have et:ztu s a.fServer=t:=by unfold ztu;rw [e1,Option.getD_some,e2];rfl
 have h2:=h.2
 rw [et]at h2
 by_cases h0:a.fStep=0
 ·rw [if_pos h0]at h2
  exact⟨hv, .inl h0,fun _=>⟨y,t,e1,e2,ht,h2⟩⟩
 ·rw [if_neg h0]at h2
  by_cases h1:a.fStep=1∨a.fStep= -1
  ·exact⟨hv, .inr h1,fun h=>absurd h h0⟩
  ·rw [if_neg h1]at h2;cases h2
theorem zvG {s:zaf} {a:zad} (hg:zq4 s) (hA:zmN a.fAct): ∃r,zeW s a=some r∧zba s a=some r∧(r=true→zGa s a):=
 ⟨_,zxY hg hA,zyz hg hA,zFb hg⟩
structure zCc (s r:zaf):Prop where
 good:zq4 r
 small:zlv r
 name:r.fName=s.fName
 ways:r.fWays=s.fWays
 at_:r.fAt.length=s.fAt.length
theorem zAk {s:zaf} {a:zad} (hS:zlv s) (hg:zq4 s) (hA:zmN a.fAct) (hact:zGa s a): ∃r:zaf × Bool,zes s a=some r∧zbo s a=some r∧zCc s r.1:=by
 obtain⟨y,t,e1,e2,ht,hy0,hy1⟩:=zw3 hg hact.srv
 have h1:=hg.1
 have h4:=hg.2.1
 have w:IntKind.i64.wrap ((s.fWays.length:Int)-1)=(s.fWays.length:Int)-1:=zaD (by omega) (by omega)
 unfold zes zbo
 rw [zD6 hS,zA4 hS,Option.bind_some,Option.bind_some,w]
 by_cases h0:a.fStep=0
 ·obtain⟨y',t',q1,q2,q3,hga⟩:=hact.act h0
  rw [e1]at q1
  cases q1
  rw [e2]at q2
  cases q2
  have hI:=hg.2.2.1 t ht
  have hgt:=zoM hI
  have hc:=zkG hgt
  have hSt:=hS.way t ht
  have hai:=zE6 hA hga
  have hR:=hg.2.2.2.2.2.2
  obtain⟨ol,oo⟩:=zBw hgt hga
  have ht2:zaJ s a.fServer=some t:=by
   unfold zaJ
   rw [e1,Option.bind_some,e2];rfl
  have hD:zjF t s.fStore a.fAct=some ((zoI s.fStore (ztQ t a.fAct)).1,(zoI s.fStore (ztQ t a.fAct)).2,true):=by
   have hGA:zhY t a.fAct=some true:=by
    unfold zhY
    rw [znU hSt,Option.bind_some,hgt,if_pos rfl,zs5 (by omega) hA,hga];rfl
   unfold zjF
   rw [hGA,Option.bind_some,if_pos rfl,zrk hS.store,Option.bind_some,hR,if_neg (by simp),zFq hSt hgt hai,Option.bind_some,zGW ol oo hR];rfl
  have hgo:=zCn ol oo hR
  rw [if_neg (by simp [h0]),if_neg (by simp [h0]),e1,Option.bind_some,e2,Option.bind_some,hD,ht2,Option.bind_some,Option.bind_some,zEV hSt hgt hai,Option.bind_some,zAC ol oo hR,Option.bind_some]
  refine⟨_,rfl,rfl,⟨⟨hg.1,hg.2.1,hg.2.2.1,hg.2.2.2.1,hg.2.2.2.2.1,hg.2.2.2.2.2.1,hgo⟩,⟨hS.name,hS.ways,hS.way,hS.at_, ?_⟩,rfl,rfl,rfl⟩⟩
  have hr:=(zlO hgo).1
  have hrl:=hr.len
  exact zk0 (by show(zoI s.fStore (ztQ t a.fAct)).1.length≤2000000;omega) hr.good
 ·have hst:a.fStep=1∨a.fStep= -1:=by rcases hact.step with h|h|h;exact absurd h h0;exact .inl h;exact .inr h
  have w2:IntKind.i64.wrap (y+a.fStep)=y+a.fStep:=zaD (by omega) (by omega)
  rw [if_pos (by simpa using h0),if_pos (by simpa using h0)]
  simp only [e1,Option.bind_some,w2,zlC,zhM]
  cases hv:inB (y+a.fStep) 0 ((s.fWays.length:Int)-1)with
  |false=>exact⟨_,rfl,rfl,⟨hg,hS,rfl,rfl,rfl⟩⟩
  |true=>
   have hv2:=zbs.1 hv
   refine⟨_,rfl,rfl,⟨⟨hg.1,hg.2.1,hg.2.2.1,hg.2.2.2.1, ?_,fun z hz=> ?_,hg.2.2.2.2.2.2⟩,⟨hS.name,hS.ways,hS.way, ?_,hS.store⟩,rfl,rfl,List.length_set⟩⟩
   ·show inB (((s.fAt.set (a.fServer).toNat (y+a.fStep)).length:Nat):Int) 1 3=true
    rw [List.length_set];exact hg.2.2.2.2.1
   ·rcases List.mem_or_eq_of_mem_set hz with hz|rfl
    ·exact hg.2.2.2.2.2.1 z hz
    ·exact hv2
   ·show(s.fAt.set (a.fServer).toNat (y+a.fStep)).length≤2000000
    rw [List.length_set];exact hS.at_
def zEc:zaf:=⟨[], [], [], []⟩
theorem zvU {s:zaf} {a:zad} (hS:zlv s) (hA:zmN a.fAct): ∃r,zdq s a=some r∧zdp s a=some r∧(r=true→zq4 s∧zGa s a):=by
 obtain⟨g1,e1,f1⟩:=zDb hS
 obtain⟨g2,e2,f2⟩:=zDG hS
 have hg:g1=g2:=by rw [Bool.eq_iff_iff,f1,f2]
 subst hg
 unfold zdq zdp
 rw [e1,e2,Option.bind_some,Option.bind_some]
 by_cases h:g1=true
 ·obtain⟨r,k1,k2,k3⟩:=zvG (f1.1 h) hA
  rw [if_pos h,if_pos h,k1,k2]
  exact⟨r,rfl,rfl,fun hr=>⟨f1.1 h,k3 hr⟩⟩
 ·rw [if_neg h,if_neg h]
  exact⟨_,rfl,rfl,by simp⟩
theorem zsD {s:zaf} {a:zad} (hS:zlv s) (hA:zmN a.fAct): ∃r,zfV s a=some r∧zeO s a=some r∧(r.1=zEc∨zCc s r.1):=by
 obtain⟨g,e1,e2,f⟩:=zvU hS hA
 unfold zfV zeO
 rw [e1,e2,Option.bind_some,Option.bind_some]
 by_cases h:g=true
 ·obtain⟨hg,ha⟩:=f h
  obtain⟨r,k1,k2,k3⟩:=zAk hS hg hA ha
  rw [if_neg (by simp [h]),if_neg (by simp [h]),k1,k2]
  exact⟨_,rfl,rfl, .inr k3⟩
 ·rw [if_pos (by simpa using h),if_pos (by simpa using h)]
  exact⟨_,rfl,rfl, .inl rfl⟩
end Go.Proofs.YtfkblfjloegahaaGreatDoor
end
section
namespace Go.Proofs.YtfkblfjloegahaaGreatDoor
open Go.RowKit
set_option maxRecDepth 100000
theorem zzS {α:Type} {f:α→Nat} {n:Nat}: ∀{l:List α},(∀x∈l,f x≤n)→(l.map f).sum≤n*l.length
 | [],_=>by simp
 |x::l,h=>by
  have h1:=h x (by simp)
  have h2:=zzS (f:=f) (n:=n) (l:=l) fun y hy=>h y (by simp [hy])
  rw [List.map_cons,List.sum_cons,List.length_cons,Nat.mul_add];omega
theorem zoJ {xs:List Str} (h:za8 xs≤2000000):Small xs:=by
 have e: ∀l:List Str,zel l=(l.map (fun x:List UInt8=>x.length)).sum:=by
  intro l
  induction l with
  |nil=>rfl
  |cons s l ih=>simp only [zel,List.map_cons,List.sum_cons,ih]
 unfold za8 at h
 exact⟨by omega,by rw [e];omega⟩
theorem zx5 {t:zab} (h:zbe t≤2000000):zc3 t:=by
 unfold zbe zew at h
 have hs:=zoJ (xs:=t.fCols) (by omega)
 refine⟨by omega,by have:=hs.1;omega,hs.each,by omega,fun x hx=> ?_⟩
 have h1:=ze7 (tot:=ziz) hx
 have e:ziz x=x.fName.length:=rfl
 omega
theorem zy6 {s:zaf} (h:za4 s≤2000000):zlv s:=by
 unfold za4 at h
 have h1:zbK s.fWays≤2000000:=by omega
 have h2:ze9 s.fAt≤2000000:=by omega
 have h3:zbH s.fStore≤2000000:=by omega
 refine⟨by omega,by unfold zbK at h1;omega,fun t ht=>zx5 ?_,by unfold ze9 at h2;omega,by unfold zbH at h3;omega,fun w hw=> ?_⟩
 ·have:=ze7 (tot:=zbe) ht
  unfold zbK at h1
  omega
 ·have:=ze7 (tot:=zdQ) hw
  have e:zdQ w=w.fKey.length+w.fVal.length:=rfl
  unfold zbH at h3
  omega
theorem zAv {a:zad} (h:zaq a≤2000000):zmN a.fAct:=by
 unfold zaq zbG zfK at h
 exact⟨zoJ (by omega),zoJ (by omega)⟩
theorem zB9 {l:List zaa} (h:zda l=true):zbH l≤2000:=by
 obtain⟨hr,_⟩:=zlO h
 have hl:=hr.len
 have:=zzS (f:=zdQ) (n:=36) (l:=l) fun w hw=>by
  have h1:=zvF (hr.good w hw)
  have h2:=znT (hr.good w hw)
  unfold zdQ
  omega
 unfold zbH
 omega
theorem zCa {s r:zaf} (h:zCc s r):za4 r≤za4 s+2000:=by
 have h1:=zB9 h.good.2.2.2.2.2.2
 have h2:=h.at_
 unfold za4
 rw [h.name,h.ways]
 unfold ze9
 omega
theorem zB3 {s r:zaf} (h:r=zEc∨zCc s r):za4 r≤za4 s+2000:=by
 rcases h with rfl|h
 ·have:za4 zEc=0:=rfl
  omega
 ·exact zCa h
theorem zoW (a0:zaf) (a1:zad) (h0:zwJ a0) (h1:zks a1):zc7 a0 a1=some true:=by
 unfold zc7
 obtain⟨b0,e0,g0,r0⟩:=zBk (x:=a0) (a:=1048576) (by omega) (by omega) h0
 rw [e0,Option.bind_some]
 by_cases q0:b0<0
 ·rw [if_pos (by simpa using q0)]
 rw [if_neg (by simpa using q0)]
 have s0:=r0 (by omega)
 obtain⟨b1,e1,g1,r1⟩:=zqy (x:=a1) (a:=b0) (by omega) (by omega) h1
 rw [e1,Option.bind_some]
 by_cases q1:b1<0
 ·rw [if_pos (by simpa using q1)]
 rw [if_neg (by simpa using q1)]
 have s1:=r1 (by omega)
 have t0:za4 a0≤2000000:=by omega
 have t1:zaq a1≤2000000:=by omega
 obtain⟨w,vs,vi,hw⟩:=zsD (s:=a0) (a:=a1) (zy6 t0) (zAv t1)
 have tw:=zB3 hw
 have tw2:za4 w.1≤2000000:=by omega
 have c0:=zrr a0
 have c1:=zr8 a1
 have c2:=zrr w.1
 obtain⟨x0,x1,x2,m0,n0⟩:=zsW (x:=a0) (k:=1) (by omega) (by omega) t0
 obtain⟨y0,y1,m1⟩:=zut (x:=a1) (k:=1+(zd6 a0:Nat)) (by omega) (by omega) t1
 obtain⟨z0,z1,z2,m2,n2⟩:=zsW (x:=w.1) (k:=1) (by omega) (by omega) tw2
 have p1:decide ((1:Int)+(zd6 a0:Nat)+(zer a1:Nat)<0)=false:=by simp;omega
 have p2:decide ((1:Int)+(zd6 w.1:Nat)<0)=false:=by simp;omega
 simp only [zBU t0,zq7 t1,vs,vi,zxc t0,zqI t1,zxc tw2,m0,m1,m2,n2,p1,p2,bne_self_eq_false,Option.bind_some,Bool.not_true,Bool.or_false,Bool.false_eq_true,if_false]
end Go.Proofs.YtfkblfjloegahaaGreatDoor
end
section
namespace Go.Proofs.YtfkblfjloegahaaGreatDoor
open Go.RowKit
set_option maxRecDepth 100000
theorem zwH {H:Type} {enc:TypeId × Value→H} {P:Program} {w:World} {base:Nat} {sp:Nat→Bool} {held:Bool} {fuel:Nat} {t:TypeId} {cs:List Value} {n:String} {d:DataW H} {p:List MemPlace} {u:TypeDesc}
  (ht:P.underlying t=some u) (hu:(match u with| .interface _=>true|_=>false)=true) (h:DataW.trod enc P w base sp held fuel t cs=some (.iface n d,p)): ∃a v,cs= [.iface a v]:=by
 cases fuel with
 |zero=>simp [DataW.trod]at h
 |succ fuel=>
  cases u<;>first|(cases hu;done)|skip
  simp only [DataW.trod,ht]at h
  split at h<;>first|(exact⟨_,_,rfl⟩)|(simp at h;done)|(simp_all;done)
noncomputable def zFI (s:String):Bool:=match(Tryz.prog.globalNamed s).bind (fun g=>(Tryz.prog.globals[g]?).map (·.type))with
 |some t=>(match Tryz.prog.underlying t with|some (.interface _)=>true|_=>false)
 |none=>false
noncomputable def zCV (s:String):Bool:=match(Tryz.prog.globalNamed s).bind (fun g=>(Tryz.prog.globals[g]?).map (·.type))with
 |some t=>(match Tryz.prog.underlying t with
  |some (.array n e)=>(match Tryz.prog.underlying e with|some (.int .u64)=>true|_=>false)&&Tryz.prog.cellsOf e==1&&Tryz.prog.cellsOf t==n
  |_=>false)
 |none=>false
theorem zxS {s:String} {D:DataW Unit} {W:World} (h:laidMet Tryz.prog [(s,D)] W) (hc:zFI s=true) (hd: ∃n d,D= .iface n d): ∃t p,W.var? Tryz.prog s=some #[.iface t p]:=by
 obtain⟨ps,⟨g,t,cs,fuel,p,q,hg,ht,hvar,htr,_,_⟩,_⟩:=h
 obtain⟨n,d,rfl⟩:=hd
 unfold zFI at hc
 rw [hg,Option.bind_some,ht]at hc
 simp only at hc
 cases hu:Tryz.prog.underlying t with
 |none=>rw [hu]at hc;cases hc
 |some u=>
  obtain⟨a,v,e⟩:=zwH hu (by rw [hu]at hc;cases u<;>first|rfl|cases hc) htr
  refine⟨a,v, ?_⟩
  rw [hvar]
  congr 1
  apply Array.ext'
  rw [e]
theorem zE0 {s:String} {W:World} (h:laidMet Tryz.prog [(s,Lib.tabData .u64 Lib.pow10Tab)] W) (hc:zCV s=true):Lib.TabIs Tryz.prog W s .u64 Lib.pow10Tab:=by
 have h0:=h
 obtain⟨ps,⟨g,t,cs,fuel,p,q,hg,ht,hvar,htr,_,_⟩,_⟩:=h
 unfold zCV at hc
 rw [hg,Option.bind_some,ht]at hc
 simp only at hc
 split at hc
 ·rename_i n e hu
  simp only [Bool.and_eq_true,beq_iff_eq]at hc
  obtain⟨⟨h1,h2⟩,h3⟩:=hc
  split at h1
  ·rename_i he
   exact Lib.tabIs_of_head hg ht hu he h2 h3 h0
  ·cases h1
 ·cases hc
theorem zDl {laid:List (String × DataW Unit)} {D1 D2 D3:DataW Unit} {W:World} (h:laidMet Tryz.prog laid W)
  (e1:(laid.filter fun x=>x.1== "strconv.ErrSyntax")= [("strconv.ErrSyntax",D1)]) (i1: ∃n d,D1= .iface n d)
  (e2:(laid.filter fun x=>x.1== "strconv.ErrRange")= [("strconv.ErrRange",D2)]) (i2: ∃n d,D2= .iface n d)
  (e3:(laid.filter fun x=>x.1== "internal/strconv.uint64pow10")= [("internal/strconv.uint64pow10",D3)]) (i3:D3=Lib.tabData .u64 Lib.pow10Tab):pkW.n≤W.heap.size∧pkW.K W:=by
 have h1:=h.filter fun x=>x.1== "strconv.ErrSyntax"
 have h2:=h.filter fun x=>x.1== "strconv.ErrRange"
 have h3:=h.filter fun x=>x.1== "internal/strconv.uint64pow10"
 rw [e1]at h1
 rw [e2]at h2
 rw [e3,i3]at h3
 have k:pkK W:=⟨zxS h1 (by kernel_rfl) i1,zxS h2 (by kernel_rfl) i2,(zE0 h3 (by kernel_rfl)).trans (by kernel_rfl)⟩
 exact⟨zEE k,k⟩
end Go.Proofs.YtfkblfjloegahaaGreatDoor
end
section
namespace Go.Proofs.YtfkblfjloegahaaGreatDoor.fnExactStepShiftDone
open Go.ChangeShapes Go.WideShapes Go.ChangeAt Go.RowKit
open Go.Proofs.YtfkblfjloegahaaGreatDoor
set_option linter.unusedVariables false
theorem own:ownKnob Tryz.prog.godebug=none:=by kernel_rfl
theorem zzj:laidOutB Tryz.prog=true:=by kernel_rfl
theorem sig:sgs 3=some {modes:= [],res:= [false],dp:=true}:=by kernel_rfl
set_option maxRecDepth 100000 in
theorem zEX (os:Os) (started:os.Started) (H:Type) (enc:TypeId × Value→H):
  ReturnsInHanded {} Tryz.checked os 3 .any (fun w args=>(Rows.fnExactStepShiftSpec.pre enc Tryz.prog Tryz.f3 [] false w args∧laidMetH Tryz.prog Rows.fnExactStepShiftRow.laid w)∧sizedMet enc Tryz.prog Tryz.f3 (OpenSpec.ofChange Rows.fnExactStepShiftSpec) false w args)
   (Rows.fnExactStepShiftSpec.post enc Tryz.prog Tryz.f3 false true false false):=by
 refine returnsInHanded_of_change_and (C:=Tryz.checked) (X:=fun w _=>laidMetH Tryz.prog Rows.fnExactStepShiftRow.laid w) (fun _ _ _ hh h=>h.of_heap hh) own started (by kernel_rfl) Tryz.func3
  (ChangeSpec.witness_shaped (enc:=enc) (C:=Tryz.checked) (os:=os) (X:=fun w _=>laidMetH Tryz.prog Rows.fnExactStepShiftRow.laid w) false (World.laidAll Tryz.prog os Rows.fnExactStepShiftRow.laid) #[.agg #[.string ByteArray.empty, .slice none 0 0, .slice none 0 0, .slice none 0 0], .agg #[.int .i64 0, .int .i64 0, .int .i64 0, .slice none 0 0, .slice none 0 0]] 8 (World.laidAll_os _ _ _)
   (World.shaped_of_ZipB (by kernel_rfl) (by kernel_rfl)) (by kernel_rfl) (by kernel_rfl) (by kernel_rfl)
   (by rw [MakeChecks.laidMetH_plain _ _ _ (by kernel_rfl)];exact laidMet_laidAll _ (by kernel_rfl) (by kernel_rfl))) ?_
 intro W base args ds gs before hval0 hW _ _ hL _
 have hval: ∀(j:Nat) t v,Tryz.f3.params[j]?=some t→args[j]?=some v→Value.okWide Tryz.prog W .any base t v:=hval0
 have hW':=hW
 obtain⟨p,q,hA0,hV,rfl,hfz,hnd⟩:=hW
 have hA:DataW.TrodAll enc Tryz.prog W 0 (fun _=>true) true Tryz.f3.params.toList args.toList ds p:=hA0
 rw [Tryz.params3]at hA hval
 obtain⟨v0,vs0,d0,ds0,p0,q0,hargs,rfl,rfl,h0,r0⟩:=trodAll_cons hA
 obtain⟨v1,vs1,d1,ds1,p1,q1,rfl,rfl,rfl,h1,r1⟩:=trodAll_cons r0
 obtain⟨rfl,rfl,rfl⟩:=trodAll_nil r1
 obtain rfl:args= #[v0,v1]:=by cases args;simp_all
 obtain⟨rfl,rfl⟩:=trodVars_none hV
 obtain⟨_,f0,a0,x0,k0,e0⟩:=zs9 op0 Tryz.underlying26 (hval 0 26 v0 rfl rfl) h0
 rw [e0]at a0
 obtain⟨_,f1,a1,x1,k1,e1⟩:=zs9 zHf Tryz.underlying33 (hval 1 33 v1 rfl rfl) h1
 rw [e1]at a1
 have m0:=h0
 have lt0: ∀x∈p0,x.block<W.heap.size:=by obtain⟨m,hm⟩:=m0;exact DataW.trod_lt m _ _ _ hm
 have m1:=h1
 have lt1: ∀x∈p1,x.block<W.heap.size:=by obtain⟨m,hm⟩:=m1;exact DataW.trod_lt m _ _ _ hm
 have hpk:pkW.n≤W.heap.size∧pkW.K W:=zDl (laid:=Rows.fnExactStepShiftRow.laid) (D1:=Rows.laid_strconv_ErrSyntax) (D2:=Rows.laid_strconv_ErrRange) (D3:=Rows.laid_internal_strconv_uint64pow10) (W:=W) (by rw [MakeChecks.laidMetH_plain _ _ _ (by kernel_rfl)]at hL;exact hL) (by kernel_rfl) ⟨_,_,rfl⟩ (by kernel_rfl) ⟨_,_,rfl⟩ (by kernel_rfl) (by kernel_rfl)
 clear hA0 hval0
 refine(zBF (zkP x0 x1 true (zoW x0 x1 k0 k1)) (by decide) sig rfl (by simp) (by kernel_rfl) Tryz.func3 (t:=4) rfl (vs:= [v0,v1]) (w:=W) (by
  rw [Tryz.params3]
  exact zvs a0 (zvs a1 zBA)) hpk).mono fun e W' ⟨he,bel⟩=> ?_
 subst he
 exact⟨_,rfl,_,_,_, [],_, [],hW',trodAll_mk1 (shut_bool Tryz.underlying4 _),(trodAll_cons_mk (Below.trod zzj (by kernel_rfl) (of_decide_eq_true (by kernel_rfl)) m0 bel lt0) (trodAll_cons_mk (Below.trod zzj (by kernel_rfl) (of_decide_eq_true (by kernel_rfl)) m1 bel lt1) trodAll_mk0)),rfl,bel.frame _,fun h=>by cases h⟩
set_option maxHeartbeats 20000000 in
theorem zGL:joinedFacts Tryz.prog 3 Tryz.f3 Rows.fnExactStepShiftSpec Rows.fnExactStepShiftRow=true:=by
 unfold joinedFacts
 repeat' with_reducible refine zFr ?_ ?_
 all_goals decide+kernel
theorem zEQ:Tryz.prog.funcNamed "loop.example/g00850/laws.FnExactStepShift" =some 3:=by kernel_rfl
theorem zHQ:Rows.fnExactStepShiftRow.holds Tryz.pinned (OpenSpec.ofChange Rows.fnExactStepShiftSpec):=
 OpenClaim.holds_of_wide 3 Tryz.f3 rfl rfl rfl rfl rfl rfl rfl ⟨rfl,rfl,rfl,rfl,rfl⟩ rfl rfl rfl rfl rfl zEQ Tryz.func3 zGL
  (of_decide_eq_true (by kernel_rfl)) (by unfold Func.isWrapper;first|(rw [if_pos (by decide+kernel)];kernel_rfl)|(rw [if_neg (by decide+kernel)];exact⟨rfl,rfl⟩))
  (fun os started H enc _=>zEX os started H enc)
theorem cwf:Rows.fnExactStepShiftRow.wfByText (OpenSpec.ofChange Rows.fnExactStepShiftSpec)=true:=by decide+kernel
theorem zGw:Tryz.prog.mainIs=some (true, "e7adbfe4239e50b433ceff0411c615cc0111931567e4fa82d5141c28b841db8f".toList):=by kernel_rfl
theorem zFw:true=Tryz.prog.looks []:=by kernel_rfl
theorem zGn:false=Rows.fnExactStepShiftRow.goesBy Tryz.prog:=by kernel_rfl
theorem zFH:([26,33].all fun u=> !Tryz.prog.wantsStandIn u)=true:=by kernel_rfl
theorem card:Rows.FnExactStepShiftCardSaid:=
 Claim7.holds_tied_plain_at .later [] [.data, .data, .data, .sentinel, .sentinel] true (true, "e7adbfe4239e50b433ceff0411c615cc0111931567e4fa82d5141c28b841db8f") true zHQ (fun _ h=>by cases h) cwf (fun _ h=>by cases h) fnExactStepShift_row_tie rfl ⟨rfl,rfl⟩ zGw rfl
  (fun f fn hf hfn=>by
   obtain rfl:f=3:=Option.some.inj (zEQ.symm.trans hf)|>.symm
   obtain rfl:fn=Tryz.f3:=(Option.some.inj (Tryz.func3.symm.trans hfn)).symm
   exact⟨zFw,fun j t ht=>by
    rw [Tryz.params3]at ht
    have hm:t∈ [26,33]:=by simpa [or_assoc]using Array.mem_of_getElem? ht
    exact(show Tryz.prog.wantsStandIn t=false by simpa using List.all_eq_true.1 zFH t hm)⟩)
  zGn
end Go.Proofs.YtfkblfjloegahaaGreatDoor.fnExactStepShiftDone
namespace Go.Proofs.YtfkblfjloegahaaGreatDoor
theorem fnExactStepShiftProved:Rows.FnExactStepShiftCardSaid:=fnExactStepShiftDone.card
#print axioms fnExactStepShiftProved
end Go.Proofs.YtfkblfjloegahaaGreatDoor
end

/- Parts of a proof, joined: QE, QT, TF, QF1, QF2, QF3, QF4, QF5, QR, N5, N6, N7, N8, N9, N10, N11, N12, N13, N14. -/
import Derived.Test.YtfkblfjloegahaaGreatDoorS8
section
namespace Go.Proofs.YtfkblfjloegahaaGreatDoor
open Go.RowKit
set_option maxRecDepth 100000
theorem zcl {α:Type} {xs:List α} {i:Nat} {x:α} (h:xs[i]?=some x):zaA xs (i:Int)=some x:=by simp [zaA,h]
noncomputable def mt (n:Int):List UInt8:=(zaF n).getD []
theorem ze4 {n:Int} (h:n≤4611686018427387904):zaF n=some (mt n):=by
 have key: ∃t,zaF n=some t:=by
  unfold zaF
  by_cases h0:n≤0
  ·rw [if_pos (by simpa using h0)];exact⟨_,rfl⟩
  ·rw [if_neg (by simpa using h0)]
   have go: ∀(f:Nat) (n:Int) (s:List UInt8),n.toNat≤f→0≤n→n+s.length≤4611686018427387905→ ∃t,zal (fun s:Int × List UInt8=>zbE s.1 s.2) (n,s)=some t:=by
    intro f
    have stop: ∀(n:Int) (s:List UInt8),¬n>0→s.length≤4611686018427387905→zal (fun s:Int × List UInt8=>zbE s.1 s.2) (n,s)=some ([109]++s):=fun n s hz hs=>by
     refine zc4 (?_:zbE n s=_)
     unfold zbE
     rw [if_neg (by simpa using hz)]
     unfold zjI
     rw [zae (by rw [List.length_singleton];omega)]
    induction f with
    |zero=>
     intro n s hf hn hs
     exact⟨_,stop n s (by omega) (by omega)⟩
    |succ f ih=>
     intro n s hf hn hs
     by_cases hz:n>0
     ·have hd:Int.tdiv n 10<n∧0≤Int.tdiv n 10:=by
       rw [Int.tdiv_eq_ediv_of_nonneg hn];omega
      obtain⟨t,ht⟩:=ih (Int.tdiv n 10) ([(IntKind.u8.wrap (IntKind.i64.wrap ((48:Int)+(Int.tmod n 10))))].map (fun n=>UInt8.ofNat n.toNat)++s) (by omega) (by omega) (by simp only [List.length_append,List.length_map,List.length_singleton];omega)
      have e:zbE n s=some (.inl (Int.tdiv n 10, [(IntKind.u8.wrap (IntKind.i64.wrap ((48:Int)+(Int.tmod n 10))))].map (fun n=>UInt8.ofNat n.toNat)++s)):=by
       unfold zbE
       rw [if_pos (by simpa using hz),zae (by simp),zae (by rw [List.length_map,List.length_singleton];omega),zaD (n:=Int.tdiv n 10) (by omega) (by omega)]
      exact⟨t,(zdK (body:=fun s:Int × List UInt8=>zbE s.1 s.2) e).trans ht⟩
     ·exact⟨_,stop n s hz (by omega)⟩
   exact go n.toNat n [] (Nat.le_refl _) (by omega) (by simp;omega)
 obtain⟨t,ht⟩:=key
 rw [mt,ht];rfl
def za8 (l:List (List UInt8)):Nat:=l.length+(l.map (fun x:List UInt8=>x.length)).sum
theorem zsY {xs:List (List UInt8)} (h:za8 xs≤2000000):zc0 xs=some xs:=by
 have hl:xs.length≤2000000:=by unfold za8 at h;omega
 have hx: ∀x∈xs,x.length≤2000000:=fun x hx=>by have:=ze7 (tot:=(fun x:List UInt8=>x.length)) hx;unfold za8 at h;omega
 unfold zc0
 rw [zae (by omega)]
 exact zn7 (fun i hi v hv=>by
  show za7 xs i v=_
  unfold za7
  rw [if_pos (by simpa using hi),zac hi,Option.bind_some,zac (by omega),Option.bind_some,zaI hi (by omega)];rfl) (fun v=>by
  show za7 xs _ v=_
  unfold za7
  rw [if_neg (by simp)])
theorem ztg {xs:List (List UInt8)} (h:za8 xs≤2000000):zcZ xs xs=some true:=by
 have hl:xs.length≤2000000:=by unfold za8 at h;omega
 have hx: ∀x∈xs,x.length≤2000000:=fun x hx=>by have:=ze7 (tot:=(fun x:List UInt8=>x.length)) hx;unfold za8 at h;omega
 unfold zcZ
 rw [if_neg (by simp)]
 exact zmY (n:=xs.length) (fun i hi=>by
  show za6 xs xs i=_
  unfold za6
  rw [if_pos (by simpa using hi),zac hi,Option.bind_some,Option.bind_some,if_neg (by simp),zaI hi (by omega)]) (by
  show za6 xs xs _=_
  unfold za6
  rw [if_neg (by simp)])
theorem zs6 {xs:List (List UInt8)} {a:Int} (h0:0≤a) (h1:a≤1048576) (h:(okL zrS) xs): ∃v,zcW xs a=some v∧v≤a∧(0≤v→(za8 xs:Int)=a-v):=by
 have hl:xs.length≤9223372036854775807:=h.1
 unfold zcW za8
 rw [zcL h0 h1 hl]
 by_cases h2:a-(xs.length:Int)<0
 ·rw [if_pos (by simpa using h2)];exact⟨-1,rfl,by omega,by omega⟩
 ·rw [if_neg (by simpa using h2)]
  obtain⟨v,e1,e2,e3⟩:=szL (xs:=xs) (body:=fun s:Int × Int=>zaH xs s.1 s.2) (fun x:List UInt8=>x.length) (a:=a-xs.length) (by omega) (by omega) (fun x hx b hb0 hb1=>by
   refine⟨b-(x.length:Int),by omega,fun _=>by show(x.length:Int)=_;omega,fun i hi=> ?_⟩
   have hi':=(List.getElem?_eq_some_iff.1 hi).1
   show zaH xs b i=_
   unfold zaH
   rw [if_pos (by simpa using hi'),zcl hi,Option.bind_some,zcL hb0 hb1 (h.2 _ hx),zaI hi' (by omega)]
   by_cases h3:b-(x.length:Int)<0
   ·rw [if_pos (by simpa using h3),if_pos h3]
   ·rw [if_neg (by simpa using h3),if_neg h3]) (fun b=>by
   show zaH xs b _=_
   unfold zaH
   rw [if_neg (by simp)])
  exact⟨v,e1,by omega,fun hv=>by have:=e3 hv;omega⟩
def zaC (l:List (List UInt8)):Nat:=(l.map fun x=>1).sum
theorem zi3 (l:List (List UInt8)):zaC l≤64*za8 l:=by
 unfold zaC za8
 rw [zls];omega
set_option maxHeartbeats 1000000 in
theorem zjO {xs:List (List UInt8)} {k:Int} (h0:0≤k) (hk:k+(zaC xs:Nat)≤4611686018427387904) (h:za8 xs≤2000000): ∃ys,ys.length=xs.length∧zcM xs k=some (k+(zaC xs:Nat),ys)∧zgP ys k=some (k+(zaC xs:Nat)):=by
 have hl:xs.length≤2000000:=by unfold za8 at h;omega
 refine zoL (cnt:=fun x:(List UInt8)=>1) (mb:=fun s:Int × Int × List (List UInt8)=>zbW s.1 s.2.1 s.2.2) (hb:=fun ys s=>zb1 ys s.1 s.2) 4611686018427387904 h0 hk (fun x hx k h0 hB=> ?_) (fun k v hv=> ?_) (fun k ys hy=> ?_)
 ·have hB:k+((1:Nat):Int)≤4611686018427387904:=hB
  have fin:k+1=k+(((1:Nat)):Int):=by omega
  refine⟨?y,fun i v hv hi=> ?_,fun i ys hy hi=> ?_⟩
  rotate_left
  ·have hi':=(List.getElem?_eq_some_iff.1 hv).1
   show zbW k i v=_
   unfold zbW
   rw [if_pos (by simpa using hi')]
   simp only [zcl hv,zaI hi (by omega:xs.length≤_),Int.toNat_natCast,List.set_set,Option.bind_some,(show IntKind.i64.wrap (k+1)=k+1 from zaD (by omega) (by omega)),ze4 (n:=k) (by omega)]
   rw [fin]
  ·have hi':=(List.getElem?_eq_some_iff.1 hy).1
   show zb1 ys k i=_
   unfold zb1
   rw [if_pos (by simpa using hi')]
   simp only [zcl hy,zaI hi (by omega:xs.length≤_),bne_self_eq_false,Bool.false_eq_true,if_false,Option.bind_some,(show IntKind.i64.wrap (k+1)=k+1 from zaD (by omega) (by omega)),ze4 (n:=k) (by omega)]
   rw [fin]
 ·show zbW k _ v=_
  unfold zbW
  rw [if_neg (by simp [hv])]
 ·show zb1 ys k _=_
  unfold zb1
  rw [if_neg (by simp [hy])]
def ziz (x:zbI):Nat:=x.fName.length
theorem zFo {x:zbI} (h:ziz x≤2000000):zjD x=some x:=rfl
theorem zEU {x:zbI} (h:ziz x≤2000000):zgi x x=some true:=by
 unfold zgi
 simp []
theorem zFp {x:zbI} {a:Int} (h0:0≤a) (h1:a≤1048576) (h:zz6 x): ∃v,zgm x a=some v∧v≤a∧(0≤v→(ziz x:Int)=a-v):=by
 unfold zgm ziz
 rw [zcL (a:=a) (by omega) (by omega) h.1]
 by_cases q0:a-(x.fName.length:Int)<0
 ·rw [if_pos (by simpa using q0)];exact⟨-1,rfl,by omega,by omega⟩
 rw [if_neg (by simpa using q0)]
 exact⟨(a-(x.fName.length:Int)),rfl,by omega,fun _=>by omega⟩
def zew (l:List zbI):Nat:=l.length+(l.map ziz).sum
theorem zDo {xs:List zbI} (h:zew xs≤2000000):zfx xs=some xs:=by
 have hl:xs.length≤2000000:=by unfold zew at h;omega
 have hx: ∀x∈xs,ziz x≤2000000:=fun x hx=>by have:=ze7 (tot:=ziz) hx;unfold zew at h;omega
 unfold zfx
 rw [zae (by omega)]
 exact zn7 (fun i hi v hv=>by
  show zbP xs i v=_
  unfold zbP
  rw [if_pos (by simpa using hi),zac hi,Option.bind_some,zFo (hx _ (List.getElem_mem hi)),Option.bind_some,zac (by omega),Option.bind_some,zaI hi (by omega)];rfl) (fun v=>by
  show zbP xs _ v=_
  unfold zbP
  rw [if_neg (by simp)])
theorem zEg {xs:List zbI} (h:zew xs≤2000000):zfA xs xs=some true:=by
 have hl:xs.length≤2000000:=by unfold zew at h;omega
 have hx: ∀x∈xs,ziz x≤2000000:=fun x hx=>by have:=ze7 (tot:=ziz) hx;unfold zew at h;omega
 unfold zfA
 rw [if_neg (by simp)]
 exact zmY (n:=xs.length) (fun i hi=>by
  show zbO xs xs i=_
  unfold zbO
  rw [if_pos (by simpa using hi),zac hi,Option.bind_some,Option.bind_some,zEU (hx _ (List.getElem_mem hi)),Option.bind_some,if_neg (by simp),zaI hi (by omega)]) (by
  show zbO xs xs _=_
  unfold zbO
  rw [if_neg (by simp)])
theorem zC9 {xs:List zbI} {a:Int} (h0:0≤a) (h1:a≤1048576) (h:(okL zz6) xs): ∃v,zfw xs a=some v∧v≤a∧(0≤v→(zew xs:Int)=a-v):=by
 have hl:xs.length≤9223372036854775807:=h.1
 unfold zfw zew
 rw [zcL h0 h1 hl]
 by_cases h2:a-(xs.length:Int)<0
 ·rw [if_pos (by simpa using h2)];exact⟨-1,rfl,by omega,by omega⟩
 ·rw [if_neg (by simpa using h2)]
  obtain⟨v,e1,e2,e3⟩:=szL (xs:=xs) (body:=fun s:Int × Int=>zaM xs s.1 s.2) ziz (a:=a-xs.length) (by omega) (by omega) (fun x hx b hb0 hb1=>by
   obtain⟨r,e1,e2,e3⟩:=zFp (x:=x) hb0 hb1 (h.2 _ hx)
   refine⟨r,e2,e3,fun i hi=> ?_⟩
   have hi':=(List.getElem?_eq_some_iff.1 hi).1
   show zaM xs b i=_
   unfold zaM
   rw [if_pos (by simpa using hi'),zcl hi,Option.bind_some,e1,Option.bind_some,zaI hi' (by omega)]
   by_cases h3:r<0
   ·rw [if_pos (by simpa using h3),if_pos h3]
   ·rw [if_neg (by simpa using h3),if_neg h3]) (fun b=>by
   show zaM xs b _=_
   unfold zaM
   rw [if_neg (by simp)])
  exact⟨v,e1,by omega,fun hv=>by have:=e3 hv;omega⟩
def zhO (l:List zbI):Nat:=(l.map fun x=>3).sum
theorem zyu (l:List zbI):zhO l≤64*zew l:=by
 unfold zhO zew
 rw [zls];omega
set_option maxHeartbeats 1000000 in
theorem zAR {xs:List zbI} {k:Int} (h0:0≤k) (hk:k+(zhO xs:Nat)≤4611686018427387904) (h:zew xs≤2000000): ∃ys,ys.length=xs.length∧zjp xs k=some (k+(zhO xs:Nat),ys)∧zjw ys k=some (k+(zhO xs:Nat)):=by
 have hl:xs.length≤2000000:=by unfold zew at h;omega
 refine zoL (cnt:=fun x:zbI=>3) (mb:=fun s:Int × Int × List zbI=>zcQ s.1 s.2.1 s.2.2) (hb:=fun ys s=>zcT ys s.1 s.2) 4611686018427387904 h0 hk (fun x hx k h0 hB=> ?_) (fun k v hv=> ?_) (fun k ys hy=> ?_)
 ·have hB:k+((3:Nat):Int)≤4611686018427387904:=hB
  have fin:k+1+1+1=k+(((3:Nat)):Int):=by omega
  refine⟨?y,fun i v hv hi=> ?_,fun i ys hy hi=> ?_⟩
  rotate_left
  ·have hi':=(List.getElem?_eq_some_iff.1 hv).1
   show zcQ k i v=_
   unfold zcQ
   rw [if_pos (by simpa using hi')]
   simp only [zcl hv,zaI hi (by omega:xs.length≤_),Int.toNat_natCast,List.set_set,Option.bind_some,(show IntKind.i64.wrap (k+1)=k+1 from zaD (by omega) (by omega)),(show IntKind.i64.wrap (k+1+1)=k+1+1 from zaD (by omega) (by omega)),(show IntKind.i64.wrap (k+1+1+1)=k+1+1+1 from zaD (by omega) (by omega)),ze4 (n:=k) (by omega)]
   rw [fin]
  ·have hi':=(List.getElem?_eq_some_iff.1 hy).1
   show zcT ys k i=_
   unfold zcT
   rw [if_pos (by simpa using hi')]
   simp only [zcl hy,zaI hi (by omega:xs.length≤_),bne_self_eq_false,Bool.false_eq_true,if_false,Option.bind_some,(show IntKind.i64.wrap (k+1)=k+1 from zaD (by omega) (by omega)),(show IntKind.i64.wrap (k+1+1)=k+1+1 from zaD (by omega) (by omega)),(show IntKind.i64.wrap (k+1+1+1)=k+1+1+1 from zaD (by omega) (by omega)),ze4 (n:=k) (by omega)]
   rw [fin]
 ·show zcQ k _ v=_
  unfold zcQ
  rw [if_neg (by simp [hv])]
 ·show zcT ys k _=_
  unfold zcT
  rw [if_neg (by simp [hy])]
def zbe (x:zab):Nat:=x.fName.length+za8 x.fCols+zew x.fIdxs
theorem zBN {x:zab} (h:zbe x≤2000000):zeR x=some x:=by
 unfold zeR
 simp only [zsY (xs:=x.fCols) (by unfold zbe at h;omega),zDo (xs:=x.fIdxs) (by unfold zbe at h;omega),Option.bind_some]
theorem zCp {x:zab} (h:zbe x≤2000000):zeX x x=some true:=by
 unfold zeX
 simp [ztg (xs:=x.fCols) (by unfold zbe at h;omega),zEg (xs:=x.fIdxs) (by unfold zbe at h;omega)]
theorem zB4 {x:zab} {a:Int} (h0:0≤a) (h1:a≤1048576) (h:zq3 x): ∃v,ze2 x a=some v∧v≤a∧(0≤v→(zbe x:Int)=a-v):=by
 unfold ze2 zbe
 rw [zcL (a:=a) (by omega) (by omega) h.1]
 by_cases q0:a-(x.fName.length:Int)<0
 ·rw [if_pos (by simpa using q0)];exact⟨-1,rfl,by omega,by omega⟩
 rw [if_neg (by simpa using q0)]
 obtain⟨b1,e1,g1,r1⟩:=zs6 (xs:=x.fCols) (a:=(a-(x.fName.length:Int))) (by omega) (by omega) h.2.1
 rw [e1,Option.bind_some]
 by_cases q1:b1<0
 ·rw [if_pos (by simpa using q1)];exact⟨-1,rfl,by omega,by omega⟩
 rw [if_neg (by simpa using q1)]
 have s1:=r1 (by omega)
 obtain⟨b2,e2,g2,r2⟩:=zC9 (xs:=x.fIdxs) (a:=b1) (by omega) (by omega) h.2.2
 rw [e2,Option.bind_some]
 by_cases q2:b2<0
 ·rw [if_pos (by simpa using q2)];exact⟨-1,rfl,by omega,by omega⟩
 rw [if_neg (by simpa using q2)]
 have s2:=r2 (by omega)
 exact⟨b2,rfl,by omega,fun _=>by omega⟩
def zbK (l:List zab):Nat:=l.length+(l.map zbe).sum
theorem zAn {xs:List zab} (h:zbK xs≤2000000):zgM xs=some xs:=by
 have hl:xs.length≤2000000:=by unfold zbK at h;omega
 have hx: ∀x∈xs,zbe x≤2000000:=fun x hx=>by have:=ze7 (tot:=zbe) hx;unfold zbK at h;omega
 unfold zgM
 rw [zae (by omega)]
 exact zn7 (fun i hi v hv=>by
  show zdR xs i v=_
  unfold zdR
  rw [if_pos (by simpa using hi),zac hi,Option.bind_some,zBN (hx _ (List.getElem_mem hi)),Option.bind_some,zac (by omega),Option.bind_some,zaI hi (by omega)];rfl) (fun v=>by
  show zdR xs _ v=_
  unfold zdR
  rw [if_neg (by simp)])
theorem zAx {xs:List zab} (h:zbK xs≤2000000):zgp xs xs=some true:=by
 have hl:xs.length≤2000000:=by unfold zbK at h;omega
 have hx: ∀x∈xs,zbe x≤2000000:=fun x hx=>by have:=ze7 (tot:=zbe) hx;unfold zbK at h;omega
 unfold zgp
 rw [if_neg (by simp)]
 exact zmY (n:=xs.length) (fun i hi=>by
  show zdT xs xs i=_
  unfold zdT
  rw [if_pos (by simpa using hi),zac hi,Option.bind_some,Option.bind_some,zCp (hx _ (List.getElem_mem hi)),Option.bind_some,if_neg (by simp),zaI hi (by omega)]) (by
  show zdT xs xs _=_
  unfold zdT
  rw [if_neg (by simp)])
theorem zAq {xs:List zab} {a:Int} (h0:0≤a) (h1:a≤1048576) (h:(okL zq3) xs): ∃v,zgw xs a=some v∧v≤a∧(0≤v→(zbK xs:Int)=a-v):=by
 have hl:xs.length≤9223372036854775807:=h.1
 unfold zgw zbK
 rw [zcL h0 h1 hl]
 by_cases h2:a-(xs.length:Int)<0
 ·rw [if_pos (by simpa using h2)];exact⟨-1,rfl,by omega,by omega⟩
 ·rw [if_neg (by simpa using h2)]
  obtain⟨v,e1,e2,e3⟩:=szL (xs:=xs) (body:=fun s:Int × Int=>zcU xs s.1 s.2) zbe (a:=a-xs.length) (by omega) (by omega) (fun x hx b hb0 hb1=>by
   obtain⟨r,e1,e2,e3⟩:=zB4 (x:=x) hb0 hb1 (h.2 _ hx)
   refine⟨r,e2,e3,fun i hi=> ?_⟩
   have hi':=(List.getElem?_eq_some_iff.1 hi).1
   show zcU xs b i=_
   unfold zcU
   rw [if_pos (by simpa using hi'),zcl hi,Option.bind_some,e1,Option.bind_some,zaI hi' (by omega)]
   by_cases h3:r<0
   ·rw [if_pos (by simpa using h3),if_pos h3]
   ·rw [if_neg (by simpa using h3),if_neg h3]) (fun b=>by
   show zcU xs b _=_
   unfold zcU
   rw [if_neg (by simp)])
  exact⟨v,e1,by omega,fun hv=>by have:=e3 hv;omega⟩
def zfz (l:List zab):Nat:=(l.map fun x=>1+zaC x.fCols+zhO x.fIdxs).sum
theorem zvC (l:List zab):zfz l≤64*zbK l:=by
 unfold zfz zbK
 induction l with
 |nil=>simp
 |cons x l ih=>
  rw [List.map_cons,List.sum_cons,List.length_cons,List.map_cons,List.sum_cons]
  have h0:=zi3 x.fCols
  have h1:=zyu x.fIdxs
  unfold zbe at*
  omega
set_option maxHeartbeats 1000000 in
theorem zwn {xs:List zab} {k:Int} (h0:0≤k) (hk:k+(zfz xs:Nat)≤4611686018427387904) (h:zbK xs≤2000000): ∃ys,ys.length=xs.length∧zhz xs k=some (k+(zfz xs:Nat),ys)∧zhh ys k=some (k+(zfz xs:Nat)):=by
 have hl:xs.length≤2000000:=by unfold zbK at h;omega
 refine zoL (cnt:=fun x:zab=>1+zaC x.fCols+zhO x.fIdxs) (mb:=fun s:Int × Int × List zab=>zce s.1 s.2.1 s.2.2) (hb:=fun ys s=>zcd ys s.1 s.2) 4611686018427387904 h0 hk (fun x hx k h0 hB=> ?_) (fun k v hv=> ?_) (fun k ys hy=> ?_)
 ·have hB:k+((1+zaC x.fCols+zhO x.fIdxs:Nat):Int)≤4611686018427387904:=hB
  obtain⟨r0, -,m0,g0⟩:=zjO (xs:=x.fCols) (k:=k+1) (by omega) (by omega) (by have:=ze7 (tot:=zbe) hx;unfold zbK at h;have e_:za8 x.fCols≤zbe x:=(by unfold zbe;omega);omega)
  obtain⟨r1, -,m1,g1⟩:=zAR (xs:=x.fIdxs) (k:=k+1+((zaC x.fCols:Nat):Int)) (by omega) (by omega) (by have:=ze7 (tot:=zbe) hx;unfold zbK at h;have e_:zew x.fIdxs≤zbe x:=(by unfold zbe;omega);omega)
  have fin:k+1+((zaC x.fCols:Nat):Int)+((zhO x.fIdxs:Nat):Int)=k+(((1+zaC x.fCols+zhO x.fIdxs:Nat)):Int):=by omega
  refine⟨?y,fun i v hv hi=> ?_,fun i ys hy hi=> ?_⟩
  rotate_left
  ·have hi':=(List.getElem?_eq_some_iff.1 hv).1
   show zce k i v=_
   unfold zce
   rw [if_pos (by simpa using hi')]
   simp only [zcl hv,zaI hi (by omega:xs.length≤_),Int.toNat_natCast,List.set_set,Option.bind_some,(show IntKind.i64.wrap (k+1)=k+1 from zaD (by omega) (by omega)),ze4 (n:=k) (by omega),m0,m1]
   rw [fin]
  ·have hi':=(List.getElem?_eq_some_iff.1 hy).1
   show zcd ys k i=_
   unfold zcd
   rw [if_pos (by simpa using hi')]
   simp only [zcl hy,zaI hi (by omega:xs.length≤_),bne_self_eq_false,Bool.false_eq_true,if_false,Option.bind_some,(show IntKind.i64.wrap (k+1)=k+1 from zaD (by omega) (by omega)),ze4 (n:=k) (by omega),g0,g1]
   rw [if_neg (by simp;omega),if_neg (by simp;omega),fin]
 ·show zce k _ v=_
  unfold zce
  rw [if_neg (by simp [hv])]
 ·show zcd ys k _=_
  unfold zcd
  rw [if_neg (by simp [hy])]
def ze9 (l:List Int):Nat:=l.length
theorem zDD {xs:List Int} (h:ze9 xs≤2000000):ziY xs=some xs:=by
 have hl:xs.length≤2000000:=by unfold ze9 at h;omega
 unfold ziY
 rw [zae (by omega)]
 exact zn7 (fun i hi v hv=>by
  show zeK xs i v=_
  unfold zeK
  rw [if_pos (by simpa using hi),zac hi,Option.bind_some,zac (by omega),Option.bind_some,zaI hi (by omega)];rfl) (fun v=>by
  show zeK xs _ v=_
  unfold zeK
  rw [if_neg (by simp)])
theorem zDm {xs:List Int} (h:ze9 xs≤2000000):ziQ xs xs=some true:=by
 have hl:xs.length≤2000000:=by unfold ze9 at h;omega
 unfold ziQ
 rw [if_neg (by simp)]
 exact zmY (n:=xs.length) (fun i hi=>by
  show zeQ xs xs i=_
  unfold zeQ
  rw [if_pos (by simpa using hi),zac hi,Option.bind_some,Option.bind_some,if_neg (by simp),zaI hi (by omega)]) (by
  show zeQ xs xs _=_
  unfold zeQ
  rw [if_neg (by simp)])
theorem zEi {xs:List Int} {a:Int} (h0:0≤a) (h1:a≤1048576) (h:(okL zpL) xs): ∃v,ziU xs a=some v∧v≤a∧(0≤v→(ze9 xs:Int)=a-v):=by
 have hl:xs.length≤9223372036854775807:=h.1
 unfold ziU ze9
 rw [zcL h0 h1 hl]
 by_cases h2:a-(xs.length:Int)<0
 ·rw [if_pos (by simpa using h2)];exact⟨-1,rfl,by omega,by omega⟩
 ·rw [if_neg (by simpa using h2)]
  exact⟨_,rfl,by omega,fun _=>by omega⟩
def zjH (l:List Int):Nat:=(l.map fun x=>1).sum
theorem zyy (l:List Int):zjH l≤64*ze9 l:=by
 unfold zjH ze9
 rw [zls];omega
set_option maxHeartbeats 1000000 in
theorem zyW {xs:List Int} {k:Int} (h0:0≤k) (hk:k+(zjH xs:Nat)≤4611686018427387904) (h:ze9 xs≤2000000): ∃ys,ys.length=xs.length∧zjf xs k=some (k+(zjH xs:Nat),ys)∧zjv ys k=some (k+(zjH xs:Nat)):=by
 have hl:xs.length≤2000000:=by unfold ze9 at h;omega
 refine zoL (cnt:=fun x:Int=>1) (mb:=fun s:Int × Int × List Int=>zcN s.1 s.2.1 s.2.2) (hb:=fun ys s=>zcV ys s.1 s.2) 4611686018427387904 h0 hk (fun x hx k h0 hB=> ?_) (fun k v hv=> ?_) (fun k ys hy=> ?_)
 ·have hB:k+((1:Nat):Int)≤4611686018427387904:=hB
  have fin:k+1=k+(((1:Nat)):Int):=by omega
  refine⟨?y,fun i v hv hi=> ?_,fun i ys hy hi=> ?_⟩
  rotate_left
  ·have hi':=(List.getElem?_eq_some_iff.1 hv).1
   show zcN k i v=_
   unfold zcN
   rw [if_pos (by simpa using hi')]
   simp only [zcl hv,zaI hi (by omega:xs.length≤_),Int.toNat_natCast,List.set_set,Option.bind_some,(show IntKind.i64.wrap (k+1)=k+1 from zaD (by omega) (by omega))]
   rw [fin]
  ·have hi':=(List.getElem?_eq_some_iff.1 hy).1
   show zcV ys k i=_
   unfold zcV
   rw [if_pos (by simpa using hi')]
   simp only [zcl hy,zaI hi (by omega:xs.length≤_),bne_self_eq_false,Bool.false_eq_true,if_false,Option.bind_some,(show IntKind.i64.wrap (k+1)=k+1 from zaD (by omega) (by omega))]
   rw [fin]
 ·show zcN k _ v=_
  unfold zcN
  rw [if_neg (by simp [hv])]
 ·show zcV ys k _=_
  unfold zcV
  rw [if_neg (by simp [hy])]
def zdQ (x:zaa):Nat:=x.fKey.length+x.fVal.length
theorem zBP {x:zaa} (h:zdQ x≤2000000):zhW x=some x:=rfl
theorem zBs {x:zaa} (h:zdQ x≤2000000):zeS x x=some true:=by
 unfold zeS
 simp []
theorem zBv {x:zaa} {a:Int} (h0:0≤a) (h1:a≤1048576) (h:zqL x): ∃v,zeU x a=some v∧v≤a∧(0≤v→(zdQ x:Int)=a-v):=by
 unfold zeU zdQ
 rw [zcL (a:=a) (by omega) (by omega) h.1]
 by_cases q0:a-(x.fKey.length:Int)<0
 ·rw [if_pos (by simpa using q0)];exact⟨-1,rfl,by omega,by omega⟩
 rw [if_neg (by simpa using q0)]
 rw [zcL (a:=(a-(x.fKey.length:Int))) (by omega) (by omega) h.2.1]
 by_cases q1:(a-(x.fKey.length:Int))-(x.fVal.length:Int)<0
 ·rw [if_pos (by simpa using q1)];exact⟨-1,rfl,by omega,by omega⟩
 rw [if_neg (by simpa using q1)]
 exact⟨((a-(x.fKey.length:Int))-(x.fVal.length:Int)),rfl,by omega,fun _=>by omega⟩
def zbH (l:List zaa):Nat:=l.length+(l.map zdQ).sum
theorem zza {xs:List zaa} (h:zbH xs≤2000000):zd9 xs=some xs:=by
 have hl:xs.length≤2000000:=by unfold zbH at h;omega
 have hx: ∀x∈xs,zdQ x≤2000000:=fun x hx=>by have:=ze7 (tot:=zdQ) hx;unfold zbH at h;omega
 unfold zd9
 rw [zae (by omega)]
 exact zn7 (fun i hi v hv=>by
  show zbd xs i v=_
  unfold zbd
  rw [if_pos (by simpa using hi),zac hi,Option.bind_some,zBP (hx _ (List.getElem_mem hi)),Option.bind_some,zac (by omega),Option.bind_some,zaI hi (by omega)];rfl) (fun v=>by
  show zbd xs _ v=_
  unfold zbd
  rw [if_neg (by simp)])
theorem zzh {xs:List zaa} (h:zbH xs≤2000000):zeo xs xs=some true:=by
 have hl:xs.length≤2000000:=by unfold zbH at h;omega
 have hx: ∀x∈xs,zdQ x≤2000000:=fun x hx=>by have:=ze7 (tot:=zdQ) hx;unfold zbH at h;omega
 unfold zeo
 rw [if_neg (by simp)]
 exact zmY (n:=xs.length) (fun i hi=>by
  show zbg xs xs i=_
  unfold zbg
  rw [if_pos (by simpa using hi),zac hi,Option.bind_some,Option.bind_some,zBs (hx _ (List.getElem_mem hi)),Option.bind_some,if_neg (by simp),zaI hi (by omega)]) (by
  show zbg xs xs _=_
  unfold zbg
  rw [if_neg (by simp)])
theorem zAm {xs:List zaa} {a:Int} (h0:0≤a) (h1:a≤1048576) (h:(okL zqL) xs): ∃v,zd7 xs a=some v∧v≤a∧(0≤v→(zbH xs:Int)=a-v):=by
 have hl:xs.length≤9223372036854775807:=h.1
 unfold zd7 zbH
 rw [zcL h0 h1 hl]
 by_cases h2:a-(xs.length:Int)<0
 ·rw [if_pos (by simpa using h2)];exact⟨-1,rfl,by omega,by omega⟩
 ·rw [if_neg (by simpa using h2)]
  obtain⟨v,e1,e2,e3⟩:=szL (xs:=xs) (body:=fun s:Int × Int=>zaR xs s.1 s.2) zdQ (a:=a-xs.length) (by omega) (by omega) (fun x hx b hb0 hb1=>by
   obtain⟨r,e1,e2,e3⟩:=zBv (x:=x) hb0 hb1 (h.2 _ hx)
   refine⟨r,e2,e3,fun i hi=> ?_⟩
   have hi':=(List.getElem?_eq_some_iff.1 hi).1
   show zaR xs b i=_
   unfold zaR
   rw [if_pos (by simpa using hi'),zcl hi,Option.bind_some,e1,Option.bind_some,zaI hi' (by omega)]
   by_cases h3:r<0
   ·rw [if_pos (by simpa using h3),if_pos h3]
   ·rw [if_neg (by simpa using h3),if_neg h3]) (fun b=>by
   show zaR xs b _=_
   unfold zaR
   rw [if_neg (by simp)])
  exact⟨v,e1,by omega,fun hv=>by have:=e3 hv;omega⟩
def zht (l:List zaa):Nat:=(l.map fun x=>3).sum
theorem zuU (l:List zaa):zht l≤64*zbH l:=by
 unfold zht zbH
 rw [zls];omega
set_option maxHeartbeats 1000000 in
theorem zwL {xs:List zaa} {k:Int} (h0:0≤k) (hk:k+(zht xs:Nat)≤4611686018427387904) (h:zbH xs≤2000000): ∃ys,ys.length=xs.length∧zho xs k=some (k+(zht xs:Nat),ys)∧zhA ys k=some (k+(zht xs:Nat)):=by
 have hl:xs.length≤2000000:=by unfold zbH at h;omega
 refine zoL (cnt:=fun x:zaa=>3) (mb:=fun s:Int × Int × List zaa=>zcb s.1 s.2.1 s.2.2) (hb:=fun ys s=>zcc ys s.1 s.2) 4611686018427387904 h0 hk (fun x hx k h0 hB=> ?_) (fun k v hv=> ?_) (fun k ys hy=> ?_)
 ·have hB:k+((3:Nat):Int)≤4611686018427387904:=hB
  have fin:k+1+1+1=k+(((3:Nat)):Int):=by omega
  refine⟨?y,fun i v hv hi=> ?_,fun i ys hy hi=> ?_⟩
  rotate_left
  ·have hi':=(List.getElem?_eq_some_iff.1 hv).1
   show zcb k i v=_
   unfold zcb
   rw [if_pos (by simpa using hi')]
   simp only [zcl hv,zaI hi (by omega:xs.length≤_),Int.toNat_natCast,List.set_set,Option.bind_some,(show IntKind.i64.wrap (k+1)=k+1 from zaD (by omega) (by omega)),(show IntKind.i64.wrap (k+1+1)=k+1+1 from zaD (by omega) (by omega)),(show IntKind.i64.wrap (k+1+1+1)=k+1+1+1 from zaD (by omega) (by omega)),ze4 (n:=k) (by omega),ze4 (n:=k+1) (by omega)]
   rw [fin]
  ·have hi':=(List.getElem?_eq_some_iff.1 hy).1
   show zcc ys k i=_
   unfold zcc
   rw [if_pos (by simpa using hi')]
   simp only [zcl hy,zaI hi (by omega:xs.length≤_),bne_self_eq_false,Bool.false_eq_true,if_false,Option.bind_some,(show IntKind.i64.wrap (k+1)=k+1 from zaD (by omega) (by omega)),(show IntKind.i64.wrap (k+1+1)=k+1+1 from zaD (by omega) (by omega)),(show IntKind.i64.wrap (k+1+1+1)=k+1+1+1 from zaD (by omega) (by omega)),ze4 (n:=k) (by omega),ze4 (n:=k+1) (by omega)]
   rw [fin]
 ·show zcb k _ v=_
  unfold zcb
  rw [if_neg (by simp [hv])]
 ·show zcc ys k _=_
  unfold zcc
  rw [if_neg (by simp [hy])]
def za4 (x:zaf):Nat:=x.fName.length+zbK x.fWays+ze9 x.fAt+zbH x.fStore
theorem zBU {x:zaf} (h:za4 x≤2000000):za1 x=some x:=by
 unfold za1
 simp only [zAn (xs:=x.fWays) (by unfold za4 at h;omega),zDD (xs:=x.fAt) (by unfold za4 at h;omega),zza (xs:=x.fStore) (by unfold za4 at h;omega),Option.bind_some]
theorem zxc {x:zaf} (h:za4 x≤2000000):zbr x x=some true:=by
 unfold zbr
 simp [zAx (xs:=x.fWays) (by unfold za4 at h;omega),zDm (xs:=x.fAt) (by unfold za4 at h;omega),zzh (xs:=x.fStore) (by unfold za4 at h;omega)]
theorem zBk {x:zaf} {a:Int} (h0:0≤a) (h1:a≤1048576) (h:zwJ x): ∃v,ze0 x a=some v∧v≤a∧(0≤v→(za4 x:Int)=a-v):=by
 unfold ze0 za4
 rw [zcL (a:=a) (by omega) (by omega) h.1]
 by_cases q0:a-(x.fName.length:Int)<0
 ·rw [if_pos (by simpa using q0)];exact⟨-1,rfl,by omega,by omega⟩
 rw [if_neg (by simpa using q0)]
 obtain⟨b1,e1,g1,r1⟩:=zAq (xs:=x.fWays) (a:=(a-(x.fName.length:Int))) (by omega) (by omega) h.2.1
 rw [e1,Option.bind_some]
 by_cases q1:b1<0
 ·rw [if_pos (by simpa using q1)];exact⟨-1,rfl,by omega,by omega⟩
 rw [if_neg (by simpa using q1)]
 have s1:=r1 (by omega)
 obtain⟨b2,e2,g2,r2⟩:=zEi (xs:=x.fAt) (a:=b1) (by omega) (by omega) h.2.2.1
 rw [e2,Option.bind_some]
 by_cases q2:b2<0
 ·rw [if_pos (by simpa using q2)];exact⟨-1,rfl,by omega,by omega⟩
 rw [if_neg (by simpa using q2)]
 have s2:=r2 (by omega)
 obtain⟨b3,e3,g3,r3⟩:=zAm (xs:=x.fStore) (a:=b2) (by omega) (by omega) h.2.2.2
 rw [e3,Option.bind_some]
 by_cases q3:b3<0
 ·rw [if_pos (by simpa using q3)];exact⟨-1,rfl,by omega,by omega⟩
 rw [if_neg (by simpa using q3)]
 have s3:=r3 (by omega)
 exact⟨b3,rfl,by omega,fun _=>by omega⟩
def zd6 (x:zaf):Nat:=zfz x.fWays+zjH x.fAt+zht x.fStore
theorem zrr (x:zaf):zd6 x≤64*za4 x:=by
 have h0:=zvC x.fWays
 have h1:=zyy x.fAt
 have h2:=zuU x.fStore
 unfold zd6 za4
 omega
theorem zsW {x:zaf} {k:Int} (h0:0≤k) (hk:k+(zd6 x:Nat)≤4611686018427387904) (h:za4 x≤2000000): ∃r0:List zab,∃r1:List Int,∃r2:List zaa,zcY x k=some (k+(zd6 x:Nat),⟨x.fName,r0,r1,r2⟩)∧zc1 ⟨x.fName,r0,r1,r2⟩ k=some (k+(zd6 x:Nat)):=by
 obtain⟨r0, -,m0,g0⟩:=zwn (xs:=x.fWays) (k:=k) (by omega) (by unfold zd6 at hk;omega) (by unfold za4 at h;omega)
 obtain⟨r1, -,m1,g1⟩:=zyW (xs:=x.fAt) (k:=k+((zfz x.fWays:Nat):Int)) (by omega) (by unfold zd6 at hk;omega) (by unfold za4 at h;omega)
 obtain⟨r2, -,m2,g2⟩:=zwL (xs:=x.fStore) (k:=k+((zfz x.fWays:Nat):Int)+((zjH x.fAt:Nat):Int)) (by omega) (by unfold zd6 at hk;omega) (by unfold za4 at h;omega)
 have fin:k+((zfz x.fWays:Nat):Int)+((zjH x.fAt:Nat):Int)+((zht x.fStore:Nat):Int)=k+(zd6 x:Nat):=by unfold zd6;omega
 refine⟨r0,r1,r2, ?_, ?_⟩
 ·unfold zcY
  simp only [m0,m1,m2,Option.bind_some]
  rw [fin]
 ·unfold zc1
  simp only [g0,g1,g2,Option.bind_some]
  rw [if_neg (by simp;omega)]
  rw [if_neg (by simp;omega)]
  rw [if_neg (by simp;omega)]
  rw [fin]
def zfK (x:zdu):Nat:=za8 x.fVals
theorem zCP {x:zdu} (h:zfK x≤2000000):zih x=some x:=by
 unfold zih
 simp only [zsY (xs:=x.fVals) (by unfold zfK at h;omega),Option.bind_some]
theorem zCQ {x:zdu} (h:zfK x≤2000000):zim x x=some true:=by
 unfold zim
 simp [ztg (xs:=x.fVals) (by unfold zfK at h;omega)]
theorem zCY {x:zdu} {a:Int} (h0:0≤a) (h1:a≤1048576) (h:zBh x): ∃v,zil x a=some v∧v≤a∧(0≤v→(zfK x:Int)=a-v):=by
 unfold zil zfK
 obtain⟨b0,e0,g0,r0⟩:=zs6 (xs:=x.fVals) (a:=a) (by omega) (by omega) h
 rw [e0,Option.bind_some]
 by_cases q0:b0<0
 ·rw [if_pos (by simpa using q0)];exact⟨-1,rfl,by omega,by omega⟩
 rw [if_neg (by simpa using q0)]
 have s0:=r0 (by omega)
 exact⟨b0,rfl,by omega,fun _=>by omega⟩
def zir (x:zdu):Nat:=zaC x.fVals
theorem zvi (x:zdu):zir x≤64*zfK x:=by
 have h0:=zi3 x.fVals
 unfold zir zfK
 omega
theorem zxT {x:zdu} {k:Int} (h0:0≤k) (hk:k+(zir x:Nat)≤4611686018427387904) (h:zfK x≤2000000): ∃r0:List (List UInt8),zfO x k=some (k+(zir x:Nat),⟨r0⟩):=by
 obtain⟨r0, -,m0,g0⟩:=zjO (xs:=x.fVals) (k:=k) (by omega) (by unfold zir at hk;omega) (by unfold zfK at h;omega)
 have fin:k+((zaC x.fVals:Nat):Int)=k+(zir x:Nat):=by unfold zir;omega
 refine⟨r0, ?_⟩
 ·unfold zfO
  simp only [m0,Option.bind_some]
  rw [fin]
def zbG (x:zat):Nat:=zfK x.fOld+zfK x.fNew
theorem zyS {x:zat} (h:zbG x≤2000000):zgs x=some x:=by
 unfold zgs
 simp only [zCP (x:=x.fOld) (by unfold zbG at h;omega),zCP (x:=x.fNew) (by unfold zbG at h;omega),Option.bind_some]
theorem zzG {x:zat} (h:zbG x≤2000000):zgo x x=some true:=by
 unfold zgo
 simp [zCQ (x:=x.fOld) (by unfold zbG at h;omega),zCQ (x:=x.fNew) (by unfold zbG at h;omega)]
theorem zy9 {x:zat} {a:Int} (h0:0≤a) (h1:a≤1048576) (h:ztI x): ∃v,zgD x a=some v∧v≤a∧(0≤v→(zbG x:Int)=a-v):=by
 unfold zgD zbG
 obtain⟨b1,e1,g1,r1⟩:=zCY (x:=x.fOld) (a:=a) (by omega) (by omega) h.2.1
 rw [e1,Option.bind_some]
 by_cases q1:b1<0
 ·rw [if_pos (by simpa using q1)];exact⟨-1,rfl,by omega,by omega⟩
 rw [if_neg (by simpa using q1)]
 have s1:=r1 (by omega)
 obtain⟨b2,e2,g2,r2⟩:=zCY (x:=x.fNew) (a:=b1) (by omega) (by omega) h.2.2
 rw [e2,Option.bind_some]
 by_cases q2:b2<0
 ·rw [if_pos (by simpa using q2)];exact⟨-1,rfl,by omega,by omega⟩
 rw [if_neg (by simpa using q2)]
 have s2:=r2 (by omega)
 exact⟨b2,rfl,by omega,fun _=>by omega⟩
def zeV (x:zat):Nat:=zir x.fOld+zir x.fNew
theorem zuX (x:zat):zeV x≤64*zbG x:=by
 have h0:=zvi x.fOld
 have h1:=zvi x.fNew
 unfold zeV zbG
 omega
theorem zwp {x:zat} {k:Int} (h0:0≤k) (hk:k+(zeV x:Nat)≤4611686018427387904) (h:zbG x≤2000000): ∃r0:List (List UInt8),∃r1:List (List UInt8),zfC x k=some (k+(zeV x:Nat),⟨x.fKind,⟨r0⟩,⟨r1⟩⟩):=by
 obtain⟨r0,m0⟩:=zxT (x:=x.fOld) (k:=k) (by omega) (by unfold zeV at hk;omega) (by unfold zbG at h;omega)
 obtain⟨r1,m1⟩:=zxT (x:=x.fNew) (k:=k+((zir x.fOld:Nat):Int)) (by omega) (by unfold zeV at hk;omega) (by unfold zbG at h;omega)
 have fin:k+((zir x.fOld:Nat):Int)+((zir x.fNew:Nat):Int)=k+(zeV x:Nat):=by unfold zeV;omega
 refine⟨r0,r1, ?_⟩
 ·unfold zfC
  simp only [m0,m1,Option.bind_some]
  rw [fin]
def zaq (x:zad):Nat:=zbG x.fAct
theorem zq7 {x:zad} (h:zaq x≤2000000):zaZ x=some x:=by
 unfold zaZ
 simp only [zyS (x:=x.fAct) (by unfold zaq at h;omega),Option.bind_some]
theorem zqI {x:zad} (h:zaq x≤2000000):zde x x=some true:=by
 unfold zde
 simp [zzG (x:=x.fAct) (by unfold zaq at h;omega)]
theorem zqy {x:zad} {a:Int} (h0:0≤a) (h1:a≤1048576) (h:zks x): ∃v,zdk x a=some v∧v≤a∧(0≤v→(zaq x:Int)=a-v):=by
 unfold zdk zaq
 obtain⟨b2,e2,g2,r2⟩:=zy9 (x:=x.fAct) (a:=a) (by omega) (by omega) h.2.2
 rw [e2,Option.bind_some]
 by_cases q2:b2<0
 ·rw [if_pos (by simpa using q2)];exact⟨-1,rfl,by omega,by omega⟩
 rw [if_neg (by simpa using q2)]
 have s2:=r2 (by omega)
 exact⟨b2,rfl,by omega,fun _=>by omega⟩
def zer (x:zad):Nat:=zeV x.fAct
theorem zr8 (x:zad):zer x≤64*zaq x:=by
 have h0:=zuX x.fAct
 unfold zer zaq
 omega
theorem zut {x:zad} {k:Int} (h0:0≤k) (hk:k+(zer x:Nat)≤4611686018427387904) (h:zaq x≤2000000): ∃r0:List (List UInt8),∃r1:List (List UInt8),zex x k=some (k+(zer x:Nat),⟨x.fServer,x.fStep,⟨x.fAct.fKind,⟨r0⟩,⟨r1⟩⟩⟩):=by
 obtain⟨r0,r1,m0⟩:=zwp (x:=x.fAct) (k:=k) (by omega) (by unfold zer at hk;omega) (by unfold zaq at h;omega)
 have fin:k+((zeV x.fAct:Nat):Int)=k+(zer x:Nat):=by unfold zer;omega
 refine⟨r0,r1, ?_⟩
 ·unfold zex
  simp only [m0,Option.bind_some]
  rw [fin]
def zbf (l:List zad):Nat:=l.length+(l.map zaq).sum
theorem zC5 {xs:List zad} (h:zbf xs≤2000000):zb9 xs=some xs:=by
 have hl:xs.length≤2000000:=by unfold zbf at h;omega
 have hx: ∀x∈xs,zaq x≤2000000:=fun x hx=>by have:=ze7 (tot:=zaq) hx;unfold zbf at h;omega
 unfold zb9
 rw [zae (by omega)]
 exact zn7 (fun i hi v hv=>by
  show zcH xs i v=_
  unfold zcH
  rw [if_pos (by simpa using hi),zac hi,Option.bind_some,zq7 (hx _ (List.getElem_mem hi)),Option.bind_some,zac (by omega),Option.bind_some,zaI hi (by omega)];rfl) (fun v=>by
  show zcH xs _ v=_
  unfold zcH
  rw [if_neg (by simp)])
theorem zCC {xs:List zad} (h:zbf xs≤2000000):zfa xs xs=some true:=by
 have hl:xs.length≤2000000:=by unfold zbf at h;omega
 have hx: ∀x∈xs,zaq x≤2000000:=fun x hx=>by have:=ze7 (tot:=zaq) hx;unfold zbf at h;omega
 unfold zfa
 rw [if_neg (by simp)]
 exact zmY (n:=xs.length) (fun i hi=>by
  show zcB xs xs i=_
  unfold zcB
  rw [if_pos (by simpa using hi),zac hi,Option.bind_some,Option.bind_some,zqI (hx _ (List.getElem_mem hi)),Option.bind_some,if_neg (by simp),zaI hi (by omega)]) (by
  show zcB xs xs _=_
  unfold zcB
  rw [if_neg (by simp)])
theorem zC3 {xs:List zad} {a:Int} (h0:0≤a) (h1:a≤1048576) (h:(okL zks) xs): ∃v,zfc xs a=some v∧v≤a∧(0≤v→(zbf xs:Int)=a-v):=by
 have hl:xs.length≤9223372036854775807:=h.1
 unfold zfc zbf
 rw [zcL h0 h1 hl]
 by_cases h2:a-(xs.length:Int)<0
 ·rw [if_pos (by simpa using h2)];exact⟨-1,rfl,by omega,by omega⟩
 ·rw [if_neg (by simpa using h2)]
  obtain⟨v,e1,e2,e3⟩:=szL (xs:=xs) (body:=fun s:Int × Int=>zbX xs s.1 s.2) zaq (a:=a-xs.length) (by omega) (by omega) (fun x hx b hb0 hb1=>by
   obtain⟨r,e1,e2,e3⟩:=zqy (x:=x) hb0 hb1 (h.2 _ hx)
   refine⟨r,e2,e3,fun i hi=> ?_⟩
   have hi':=(List.getElem?_eq_some_iff.1 hi).1
   show zbX xs b i=_
   unfold zbX
   rw [if_pos (by simpa using hi'),zcl hi,Option.bind_some,e1,Option.bind_some,zaI hi' (by omega)]
   by_cases h3:r<0
   ·rw [if_pos (by simpa using h3),if_pos h3]
   ·rw [if_neg (by simpa using h3),if_neg h3]) (fun b=>by
   show zbX xs b _=_
   unfold zbX
   rw [if_neg (by simp)])
  exact⟨v,e1,by omega,fun hv=>by have:=e3 hv;omega⟩
def zi0 (l:List zad):Nat:=(l.map fun x=>3+zaC x.fAct.fOld.fVals+zaC x.fAct.fNew.fVals).sum
theorem zz0 (l:List zad):zi0 l≤64*zbf l:=by
 unfold zi0 zbf
 induction l with
 |nil=>simp
 |cons x l ih=>
  rw [List.map_cons,List.sum_cons,List.length_cons,List.map_cons,List.sum_cons]
  have h0:=zi3 x.fAct.fOld.fVals
  have h1:=zi3 x.fAct.fNew.fVals
  unfold zaq zbG zfK at*
  omega
set_option maxHeartbeats 1000000 in
theorem zAV {xs:List zad} {k:Int} (h0:0≤k) (hk:k+(zi0 xs:Nat)≤4611686018427387904) (h:zbf xs≤2000000): ∃ys,ys.length=xs.length∧zfF xs k=some (k+(zi0 xs:Nat),ys):=by
 have hl:xs.length≤2000000:=by unfold zbf at h;omega
 refine zz3 (cnt:=fun x:zad=>3+zaC x.fAct.fOld.fVals+zaC x.fAct.fNew.fVals) (mb:=fun s:Int × Int × List zad=>zbx s.1 s.2.1 s.2.2) 4611686018427387904 h0 hk (fun x hx k h0 hB=> ?_) (fun k v hv=> ?_)
 ·have hB:k+((3+zaC x.fAct.fOld.fVals+zaC x.fAct.fNew.fVals:Nat):Int)≤4611686018427387904:=hB
  obtain⟨r0, -,m0,g0⟩:=zjO (xs:=x.fAct.fOld.fVals) (k:=k+1+1+1) (by omega) (by omega) (by have:=ze7 (tot:=zaq) hx;unfold zbf at h;have e_:za8 x.fAct.fOld.fVals≤zaq x:=(by unfold zaq zbG zfK;omega);omega)
  obtain⟨r1, -,m1,g1⟩:=zjO (xs:=x.fAct.fNew.fVals) (k:=k+1+1+1+((zaC x.fAct.fOld.fVals:Nat):Int)) (by omega) (by omega) (by have:=ze7 (tot:=zaq) hx;unfold zbf at h;have e_:za8 x.fAct.fNew.fVals≤zaq x:=(by unfold zaq zbG zfK;omega);omega)
  have fin:k+1+1+1+((zaC x.fAct.fOld.fVals:Nat):Int)+((zaC x.fAct.fNew.fVals:Nat):Int)=k+(((3+zaC x.fAct.fOld.fVals+zaC x.fAct.fNew.fVals:Nat)):Int):=by omega
  refine⟨?y,fun i v hv hi=> ?_⟩
  rotate_left
  ·have hi':=(List.getElem?_eq_some_iff.1 hv).1
   show zbx k i v=_
   unfold zbx
   rw [if_pos (by simpa using hi')]
   simp only [zcl hv,zaI hi (by omega:xs.length≤_),Int.toNat_natCast,List.set_set,Option.bind_some,(show IntKind.i64.wrap (k+1)=k+1 from zaD (by omega) (by omega)),(show IntKind.i64.wrap (k+1+1)=k+1+1 from zaD (by omega) (by omega)),(show IntKind.i64.wrap (k+1+1+1)=k+1+1+1 from zaD (by omega) (by omega)),m0,m1]
   rw [fin]
 ·show zbx k _ v=_
  unfold zbx
  rw [if_neg (by simp [hv])]
def zkk (l:List Bool):Nat:=l.length
theorem zFW {xs:List Bool} (h:zkk xs≤2000000):zeY xs xs=some true:=by
 have hl:xs.length≤2000000:=by unfold zkk at h;omega
 unfold zeY
 rw [if_neg (by simp)]
 exact zmY (n:=xs.length) (fun i hi=>by
  show zeb xs xs i=_
  unfold zeb
  rw [if_pos (by simpa using hi),zac hi,Option.bind_some,Option.bind_some,if_neg (by simp),zaI hi (by omega)]) (by
  show zeb xs xs _=_
  unfold zeb
  rw [if_neg (by simp)])
def zlr (l:List Bool):Nat:=(l.map fun x=>1).sum
theorem zD5 (l:List Bool):zlr l≤64*zkk l:=by
 unfold zlr zkk
 rw [zls];omega
set_option maxHeartbeats 1000000 in
theorem zEn {xs:List Bool} {k:Int} (h0:0≤k) (hk:k+(zlr xs:Nat)≤4611686018427387904) (h:zkk xs≤2000000): ∃ys,ys.length=xs.length∧zit xs k=some (k+(zlr xs:Nat),ys)∧zf1 ys k=some (k+(zlr xs:Nat)):=by
 have hl:xs.length≤2000000:=by unfold zkk at h;omega
 refine zoL (cnt:=fun x:Bool=>1) (mb:=fun s:Int × Int × List Bool=>zcp s.1 s.2.1 s.2.2) (hb:=fun ys s=>zcr ys s.1 s.2) 4611686018427387904 h0 hk (fun x hx k h0 hB=> ?_) (fun k v hv=> ?_) (fun k ys hy=> ?_)
 ·have hB:k+((1:Nat):Int)≤4611686018427387904:=hB
  have fin:k+1=k+(((1:Nat)):Int):=by omega
  refine⟨?y,fun i v hv hi=> ?_,fun i ys hy hi=> ?_⟩
  rotate_left
  ·have hi':=(List.getElem?_eq_some_iff.1 hv).1
   show zcp k i v=_
   unfold zcp
   rw [if_pos (by simpa using hi')]
   simp only [zcl hv,zaI hi (by omega:xs.length≤_),Int.toNat_natCast,List.set_set,Option.bind_some,(show IntKind.i64.wrap (k+1)=k+1 from zaD (by omega) (by omega))]
   rw [fin]
  ·have hi':=(List.getElem?_eq_some_iff.1 hy).1
   show zcr ys k i=_
   unfold zcr
   rw [if_pos (by simpa using hi')]
   simp only [zcl hy,zaI hi (by omega:xs.length≤_),bne_self_eq_false,Bool.false_eq_true,if_false,Option.bind_some,(show IntKind.i64.wrap (k+1)=k+1 from zaD (by omega) (by omega))]
   rw [fin]
 ·show zcp k _ v=_
  unfold zcp
  rw [if_neg (by simp [hv])]
 ·show zcr ys k _=_
  unfold zcr
  rw [if_neg (by simp [hy])]
end Go.Proofs.YtfkblfjloegahaaGreatDoor
end
section
namespace Go.Proofs.YtfkblfjloegahaaGreatDoor
open Go.RowKit
set_option maxRecDepth 100000
abbrev RtS:Nat→List AV→AV→Prop:=Rts Tryz.prog sgs
@[reducible] def zEk:Nat→Type
 |0=>zaa
 |1=>zbI
 |2=>zab
 |3=>zaf
 |4=>zdu
 |5=>zat
 |6=>zad
 |7=>DOp
 |8=>zhe
 |_+9=>Unit
@[reducible] def zFX:Nat→List Ty
 |0=> [.s, .s, .b]
 |1=> [.s, .i .i64, .i .i64]
 |2=> [.s, .l .s, .l (.st 1)]
 |3=> [.s, .l (.st 2), .l (.i .i64), .l (.st 0)]
 |4=> [.l .s]
 |5=> [.i .i64, .l .s, .l .s]
 |6=> [.i .i64, .i .i64, .i .i64, .l .s, .l .s]
 |7=> [.i .i64, .s, .s, .i .i64]
 |8=> [.s, .s, .b]
 |_+9=> []
def tAv: ∀n,zEk n→AV
 |0,x=>zt0 x
 |1,x=>zCk x
 |2,x=>zuG x
 |3,x=>zqX x
 |4,x=>zFL x
 |5,x=>zxV x
 |6,x=>zja x
 |7,x=>zH8 x
 |8,x=>zGj x
 |_+9,_=> .agg []
def zG4: ∀n,zEk n→HL zEk (zFX n)
 |0,x=>(x.fKey,x.fVal,x.fGone,())
 |1,x=>(x.fName,x.fCol,x.fStage,())
 |2,x=>(x.fName,x.fCols,x.fIdxs,())
 |3,x=>(x.fName,x.fWays,x.fAt,x.fStore,())
 |4,x=>(x.fVals,())
 |5,x=>(x.fKind,x.fOld.fVals,x.fNew.fVals,())
 |6,x=>(x.fServer,x.fStep,x.fAct.fKind,x.fAct.fOld.fVals,x.fAct.fNew.fVals,())
 |7,x=>(x.fKind,x.fKey,x.fVal,x.fBy,())
 |8,x=>(x.fKey,x.fVal,x.fThere,())
 |_+9,_=>()
def tMk: ∀n,HL zEk (zFX n)→zEk n
 |0,x=>⟨x.1,x.2.1,x.2.2.1⟩
 |1,x=>⟨x.1,x.2.1,x.2.2.1⟩
 |2,x=>⟨x.1,x.2.1,x.2.2.1⟩
 |3,x=>⟨x.1,x.2.1,x.2.2.1,x.2.2.2.1⟩
 |4,x=>⟨x.1⟩
 |5,x=>⟨x.1,⟨x.2.1⟩,⟨x.2.2.1⟩⟩
 |6,x=>⟨x.1,x.2.1,⟨x.2.2.1,⟨x.2.2.2.1⟩,⟨x.2.2.2.2.1⟩⟩⟩
 |7,x=>⟨x.1,x.2.1,x.2.2.1,x.2.2.2.1⟩
 |8,x=>⟨x.1,x.2.1,x.2.2.1⟩
 |_+9,_=>()
theorem zET: ∀n x,tAv n x= .agg (zxx tAv (zFX n) (zG4 n x))
 |0,_=>rfl
 |1,_=>rfl
 |2,_=>rfl
 |3,_=>rfl
 |4,_=>rfl
 |5,_=>rfl
 |6,_=>rfl
 |7,_=>rfl
 |8,_=>rfl
 |_+9,_=>rfl
theorem zDj: ∀n h,zG4 n (tMk n h)=h
 |0,_=>rfl
 |1,_=>rfl
 |2,_=>rfl
 |3,_=>rfl
 |4,_=>rfl
 |5,_=>rfl
 |6,_=>rfl
 |7,_=>rfl
 |8,_=>rfl
 |_+9,_=>rfl
@[reducible] def tab:Tab:=⟨RtS,zEk,tAv,zFX,zG4,tMk,zET,zDj⟩
end Go.Proofs.YtfkblfjloegahaaGreatDoor
end
section
namespace Go.Proofs.YtfkblfjloegahaaGreatDoor
open Go.RowKit
abbrev FS:=FN tab
noncomputable def tev (tb:List FS) (hs:List JM) (o:Option Tr) (ps:List PT) (r:RT) (xs:HP tab.car ps) (hp:zwc tab ps xs):Option (RTI tab.car r):=match o with
 |some t=>zdY tb 100000 (toR r) t hs (vPs ps xs hp) [] []
 |none=>none
theorem zEL {f:Nat} {ps:List PT} {r:RT} {φ:HP tab.car ps→Option (RTI tab.car r)} (tb:List FS) (hs:List JM) (h: ∀xs hp,tev tb hs (zFc Tryz.prog sgs f) ps r xs hp=φ xs) (hk: ∀xs y,zF3 Tryz.prog sgs f (zll tab ps xs) (zuP tab r y)=true) (xs:HP tab.car ps) (y:RTI tab.car r) (hp:zwc tab ps xs) (e:φ xs=some y):tab.Rt f (zll tab ps xs) (zuP tab r y):=by
 rw [←h xs hp]at e
 unfold tev at e
 split at e
 ·rename_i t ht
  refine ziH ht (hk xs y) ?_
  unfold Den
  rw [←zzT ps xs hp]
  exact zbp tb 100000 (fa:= []) (fun _ h=>nomatch h) (fun _ h=>nomatch h) (fun v hv=>zw0 r hv) .nil e
 ·cases e
noncomputable def mkF (f:Nat) (ps:List PT) (r:RT) (φ:HP tab.car ps→Option (RTI tab.car r)) (tb:List FS) (hs:List JM) (h: ∀xs hp,tev tb hs (zFc Tryz.prog sgs f) ps r xs hp=φ xs) (hk: ∀xs y,zF3 Tryz.prog sgs f (zll tab ps xs) (zuP tab r y)=true):FS:=
 ⟨f,ps,r,φ,fun xs y hp e=>zEL tb hs h hk xs y hp e,false,fun h=>by cases h⟩
noncomputable def mkP (d:FS) (h: ∀y,zyY d.f (zuP tab d.r y)=true):FS:=
 ⟨d.f,d.ps,d.r,d.φ,d.ok,true,fun _ xs y hx e=>zzi (d.ok xs y hx e) (h y)⟩
noncomputable def mkH (f:Nat) (ps:List PT) (r:RT) (φ:HP tab.car ps→Option (RTI tab.car r)) (ok: ∀xs y,zwc tab ps xs→φ xs=some y→tab.Rt f (zll tab ps xs) (zuP tab r y)):FS:=⟨f,ps,r,φ,ok,false,fun h=>by cases h⟩
end Go.Proofs.YtfkblfjloegahaaGreatDoor
end
section
namespace Go.Proofs.YtfkblfjloegahaaGreatDoor
open Go.RowKit
set_option maxRecDepth 100000
set_option maxHeartbeats 4000000
noncomputable def zfb:FS:=mkH 268 [.v .s, .v .s] (.v (.i .i64)) (fun x=>zaV x.1 x.2.1) fun x r _ h=>ziM x.1 x.2.1 r h
noncomputable def zha:FS:=mkH 257 [.v .s, .v (.i .u8)] (.v (.i .i64)) (fun x=>zbm x.1 x.2.1) fun x r _ h=>zg7 x.1 x.2.1 r h
noncomputable def zsl:FS:=mkH 225 [.v .s, .v (.i .i64), .v (.i .i64)] (.tu (.cons (.v (.i .i64)) (.cons (.v .b) .nil))) (fun x=>zhP x.1 x.2.1 x.2.2.1) fun x r _ h=>zr6 x.1 x.2.1 x.2.2.1 r h
noncomputable def zsP:FS:=mkH 198 [.v (.i .i64)] (.v .s) (fun x=>zjW x.1) fun x r _ h=>zsL x.1 r h
noncomputable def zrw:FS:=mkH 292 [.v .s, .v .s] (.v (.i .i64)) (fun x=>zgt x.1 x.2.1) fun x r _ h=>zrW x.1 x.2.1 r h
noncomputable def zr5:FS:=mkH 160 [.v (.l .s), .v .s] (.v .s) (fun x=>zhZ x.1 x.2.1) fun x r _ h=>zsB x.1 x.2.1 r h
noncomputable def zoX:FS:=mkH 291 [.v .s, .v (.i .i64)] (.v (.l .s)) (fun x=>zhu x.1 x.2.1) fun x r _ h=>zoK x.1 x.2.1 r h
noncomputable def zfi:FS:=mkH 200 [.v (.l (.st 0)), .v (.i .i64), .v (.l (.st 0))] (.v (.l (.st 0))) (fun x=>zp9 x.1 x.2.1 x.2.2.1) fun x r hp h=>zD7 (t:=37) (it:=3) (el:=108) (K:=3) (by kernel_rfl) (fun _=>by kernel_rfl) zAK h
noncomputable def zlf:FS:=mkF 105 [.v (.l .s), .v (.i .i64)] (.v (.i .i64)) (fun x=>zcW x.1 x.2.1) [] [.sp [.i .i64, .i .i64]] (fun _ _=>by kernel_rfl) (fun _ _=>by kernel_rfl)
noncomputable def zu9:FS:=mkF 149 [.v (.st 1), .v (.i .i64)] (.v (.i .i64)) (fun x=>zgm x.1 x.2.1) [] [] (fun _ _=>by kernel_rfl) (fun _ _=>by kernel_rfl)
noncomputable def ztF:FS:=mkF 106 [.v (.l (.st 1)), .v (.i .i64)] (.v (.i .i64)) (fun x=>zfw x.1 x.2.1) [zu9] [.sp [.i .i64, .i .i64]] (fun _ _=>by kernel_rfl) (fun _ _=>by kernel_rfl)
noncomputable def zsf:FS:=mkF 60 [.v (.st 2), .v (.i .i64)] (.v (.i .i64)) (fun x=>ze2 x.1 x.2.1) [zlf,ztF] [] (fun _ _=>by kernel_rfl) (fun _ _=>by kernel_rfl)
noncomputable def zrT:FS:=mkF 28 [.v (.l (.st 2)), .v (.i .i64)] (.v (.i .i64)) (fun x=>zgw x.1 x.2.1) [zsf] [.sp [.i .i64, .i .i64]] (fun _ _=>by kernel_rfl) (fun _ _=>by kernel_rfl)
noncomputable def zuu:FS:=mkF 29 [.v (.l (.i .i64)), .v (.i .i64)] (.v (.i .i64)) (fun x=>ziU x.1 x.2.1) [] [] (fun _ _=>by kernel_rfl) (fun _ _=>by kernel_rfl)
noncomputable def zsn:FS:=mkF 61 [.v (.st 0), .v (.i .i64)] (.v (.i .i64)) (fun x=>zeU x.1 x.2.1) [] [] (fun _ _=>by kernel_rfl) (fun _ _=>by kernel_rfl)
noncomputable def zrK:FS:=mkF 30 [.v (.l (.st 0)), .v (.i .i64)] (.v (.i .i64)) (fun x=>zd7 x.1 x.2.1) [zsn] [.sp [.i .i64, .i .i64]] (fun _ _=>by kernel_rfl) (fun _ _=>by kernel_rfl)
noncomputable def zj0:FS:=mkF 6 [.v (.st 3), .v (.i .i64)] (.v (.i .i64)) (fun x=>ze0 x.1 x.2.1) [zrT,zuu,zrK] [] (fun _ _=>by kernel_rfl) (fun _ _=>by kernel_rfl)
noncomputable def zvM:FS:=mkF 62 [.v (.st 4), .v (.i .i64)] (.v (.i .i64)) (fun x=>zil x.1 x.2.1) [zlf] [] (fun _ _=>by kernel_rfl) (fun _ _=>by kernel_rfl)
noncomputable def zqz:FS:=mkF 31 [.v (.st 5), .v (.i .i64)] (.v (.i .i64)) (fun x=>zgD x.1 x.2.1) [zvM] [] (fun _ _=>by kernel_rfl) (fun _ _=>by kernel_rfl)
noncomputable def zhi:FS:=mkF 7 [.v (.st 6), .v (.i .i64)] (.v (.i .i64)) (fun x=>zdk x.1 x.2.1) [zqz] [] (fun _ _=>by kernel_rfl) (fun _ _=>by kernel_rfl)
noncomputable def zlc:FS:=mkF 112 [.v (.l .s)] (.v (.l .s)) (fun x=>zc0 x.1) [] [.sp [.i .i64, .l .s]] (fun _ _=>by kernel_rfl) (fun _ _=>by kernel_rfl)
noncomputable def zvI:FS:=mkF 154 [.v (.st 1)] (.v (.st 1)) (fun x=>zjD x.1) [] [] (fun _ _=>by kernel_rfl) (fun _ _=>by kernel_rfl)
noncomputable def zt1:FS:=mkF 113 [.v (.l (.st 1))] (.v (.l (.st 1))) (fun x=>zfx x.1) [zvI] [.sp [.i .i64, .l (.st 1)]] (fun _ _=>by kernel_rfl) (fun _ _=>by kernel_rfl)
noncomputable def zr7:FS:=mkF 66 [.v (.st 2)] (.v (.st 2)) (fun x=>zeR x.1) [zlc,zt1] [] (fun _ _=>by kernel_rfl) (fun _ _=>by kernel_rfl)
noncomputable def zqp:FS:=mkF 34 [.v (.l (.st 2))] (.v (.l (.st 2))) (fun x=>zgM x.1) [zr7] [.sp [.i .i64, .l (.st 2)]] (fun _ _=>by kernel_rfl) (fun _ _=>by kernel_rfl)
noncomputable def ztK:FS:=mkF 35 [.v (.l (.i .i64))] (.v (.l (.i .i64))) (fun x=>ziY x.1) [] [.sp [.i .i64, .l (.i .i64)]] (fun _ _=>by kernel_rfl) (fun _ _=>by kernel_rfl)
noncomputable def zr3:FS:=mkF 67 [.v (.st 0)] (.v (.st 0)) (fun x=>zhW x.1) [] [] (fun _ _=>by kernel_rfl) (fun _ _=>by kernel_rfl)
noncomputable def zrD:FS:=mkF 36 [.v (.l (.st 0))] (.v (.l (.st 0))) (fun x=>zd9 x.1) [zr3] [.sp [.i .i64, .l (.st 0)]] (fun _ _=>by kernel_rfl) (fun _ _=>by kernel_rfl)
noncomputable def zj8:FS:=mkF 9 [.v (.st 3)] (.v (.st 3)) (fun x=>za1 x.1) [zqp,ztK,zrD] [] (fun _ _=>by kernel_rfl) (fun _ _=>by kernel_rfl)
noncomputable def zvn:FS:=mkF 68 [.v (.st 4)] (.v (.st 4)) (fun x=>zih x.1) [zlc] [] (fun _ _=>by kernel_rfl) (fun _ _=>by kernel_rfl)
noncomputable def zqU:FS:=mkF 37 [.v (.st 5)] (.v (.st 5)) (fun x=>zgs x.1) [zvn] [] (fun _ _=>by kernel_rfl) (fun _ _=>by kernel_rfl)
noncomputable def zhg:FS:=mkF 10 [.v (.st 6)] (.v (.st 6)) (fun x=>zaZ x.1) [zqU] [] (fun _ _=>by kernel_rfl) (fun _ _=>by kernel_rfl)
noncomputable def zc2:FS:=mkF 64 [.v (.i .i64), .v (.i .i64), .v (.i .i64)] (.v .b) (fun x=>zbC x.1 x.2.1 x.2.2.1) [] [] (fun _ _=>by kernel_rfl) (fun _ _=>by kernel_rfl)
noncomputable def zko:FS:=mkF 171 [.v .s, .v (.i .i64)] (.v .b) (fun x=>zdf x.1 x.2.1) [] [.sp [.i .i64]] (fun _ _=>by kernel_rfl) (fun _ _=>by kernel_rfl)
noncomputable def zpx:FS:=mkF 211 [.v (.l .s), .v .s] (.v (.i .i64)) (fun x=>zh2 x.1 x.2.1) [] [.sp [.i .i64]] (fun _ _=>by kernel_rfl) (fun _ _=>by kernel_rfl)
noncomputable def zss:FS:=mkF 172 [.v (.l .s)] (.v .b) (fun x=>zhT x.1) [zc2,zko,zpx] [.sp [.i .i64]] (fun _ _=>by kernel_rfl) (fun _ _=>by kernel_rfl)
noncomputable def ziv:FS:=mkF 129 [.v (.st 2)] (.v .b) (fun x=>zci x.1) [zko,zss,zc2] [.sp [.i .i64]] (fun _ _=>by kernel_rfl) (fun _ _=>by kernel_rfl)
noncomputable def zfv:FS:=mkF 130 [.v (.st 2), .v .s] (.v (.i .i64)) (fun x=>zbv x.1 x.2.1) [] [.sp [.i .i64]] (fun _ _=>by kernel_rfl) (fun _ _=>by kernel_rfl)
noncomputable def zk4:FS:=mkF 89 [.v (.st 2)] (.v (.st 2)) (fun x=>zfB x.1) [] [] (fun _ _=>by kernel_rfl) (fun _ _=>by kernel_rfl)
noncomputable def zuz:FS:=mkF 173 [.v (.st 2), .v .s, .v (.i .i64)] (.v (.st 2)) (fun x=>zgN x.1 x.2.1 x.2.2.1) [zk4,zfv] [] (fun _ _=>by kernel_rfl) (fun _ _=>by kernel_rfl)
noncomputable def zuc:FS:=mkF 131 [.v (.st 2), .v .s, .v (.i .i64)] (.v (.l (.st 2))) (fun x=>zi4 x.1 x.2.1 x.2.2.1) [zk4,zfv,zuz] [.sp [.i .i64, .l (.st 2)], .inl] (fun _ _=>by kernel_rfl) (fun _ _=>by kernel_rfl)
noncomputable def znB:FS:=mkF 132 [.v (.st 2), .v (.st 2)] (.v .b) (fun x=>zfd x.1 x.2.1) [] [.sp [.i .i64], .sp [.i .i64]] (fun _ _=>by kernel_rfl) (fun _ _=>by kernel_rfl)
noncomputable def ztw:FS:=mkF 174 [.v (.i .i64), .v (.i .i64)] (.v (.i .i64)) (fun x=>ziS x.1 x.2.1) [] [] (fun _ _=>by kernel_rfl) (fun _ _=>by kernel_rfl)
noncomputable def zuw:FS:=mkF 133 [.v (.st 2), .v (.st 2)] (.v (.i .i64)) (fun x=>ziN x.1 x.2.1) [ztw] [.sp [.i .i64, .i .i64]] (fun _ _=>by kernel_rfl) (fun _ _=>by kernel_rfl)
noncomputable def zsy:FS:=mkF 85 [.v (.st 3)] (.v .b) (fun x=>ze1 x.1) [zc2,ziv,zfv,zuc,znB,zuw] [.sp [.i .i64]] (fun _ _=>by kernel_rfl) (fun _ _=>by kernel_rfl)
noncomputable def zvj:FS:=mkF 86 [.v (.l (.i .i64)), .v (.i .i64), .v (.i .i64)] (.v .b) (fun x=>zjK x.1 x.2.1 x.2.2.1) [zc2] [.sp [.i .i64]] (fun _ _=>by kernel_rfl) (fun _ _=>by kernel_rfl)
noncomputable def zj5:FS:=mkF 219 [.v .s, .v .s] (.v .b) (fun x=>zeZ x.1 x.2.1) [] [.sp [.i .i64], .sp [.b, .i .i64]] (fun _ _=>by kernel_rfl) (fun _ _=>by kernel_rfl)
noncomputable def zpn:FS:=mkF 212 [.v .s] (.v .b) (fun x=>zid x.1) [zc2,zj5] [] (fun _ _=>by kernel_rfl) (fun _ _=>by kernel_rfl)
noncomputable def zpq:FS:=mkF 213 [.v .s] (.v .b) (fun x=>zh6 x.1) [zj5] [] (fun _ _=>by kernel_rfl) (fun _ _=>by kernel_rfl)
noncomputable def zsF:FS:=mkF 175 [.v .s, .v .s, .v .b] (.v .b) (fun x=>zhI x.1 x.2.1 x.2.2.1) [zpn,zpq] [] (fun _ _=>by kernel_rfl) (fun _ _=>by kernel_rfl)
noncomputable def zqZ:FS:=mkF 134 [.v (.l (.st 0))] (.v .b) (fun x=>zgz x.1) [zsF] [.sp [.i .i64]] (fun _ _=>by kernel_rfl) (fun _ _=>by kernel_rfl)
noncomputable def ziZ:FS:=mkF 87 [.v (.l (.st 0))] (.v .b) (fun x=>zc6 x.1) [zqZ] [.sp [.i .i64]] (fun _ _=>by kernel_rfl) (fun _ _=>by kernel_rfl)
noncomputable def zld:FS:=mkF 53 [.v (.st 3)] (.v .b) (fun x=>zeP x.1) [zsy,zc2,zvj,ziZ] [] (fun _ _=>by kernel_rfl) (fun _ _=>by kernel_rfl)
noncomputable def zqO:FS:=mkF 107 [.v (.st 5)] (.v .b) (fun x=>zl4 x.1) [] [] (fun _ _=>by kernel_rfl) (fun _ _=>by kernel_rfl)
noncomputable def zly:FS:=mkF 189 [.v .s] (.v .b) (fun x=>zef x.1) [zc2,zj5] [] (fun _ _=>by kernel_rfl) (fun _ _=>by kernel_rfl)
noncomputable def zmP:FS:=mkF 150 [.v (.st 2), .v (.st 4)] (.v .b) (fun x=>zdb x.1 x.2.1) [zly] [.sp [.i .i64]] (fun _ _=>by kernel_rfl) (fun _ _=>by kernel_rfl)
noncomputable def zmW:FS:=mkF 108 [.v (.st 2), .v (.st 5)] (.v .b) (fun x=>zfQ x.1 x.2.1) [zmP] [] (fun _ _=>by kernel_rfl) (fun _ _=>by kernel_rfl)
noncomputable def zmR:FS:=mkF 63 [.v (.st 3), .v (.st 6)] (.v .b) (fun x=>zeW x.1 x.2.1) [zc2,zqO,zmW] [] (fun _ _=>by kernel_rfl) (fun _ _=>by kernel_rfl)
noncomputable def zjj:FS:=mkF 32 [.v (.st 3), .v (.st 6)] (.v .b) (fun x=>zdq x.1 x.2.1) [zld,zmR] [] (fun _ _=>by kernel_rfl) (fun _ _=>by kernel_rfl)
noncomputable def zv0:FS:=mkF 88 [.v (.l (.i .i64))] (.v (.l (.i .i64))) (fun x=>zjP x.1) [] [] (fun _ _=>by kernel_rfl) (fun _ _=>by kernel_rfl)
noncomputable def znK:FS:=mkF 55 [.v (.st 3)] (.v (.st 3)) (fun x=>zgW x.1) [zv0,zk4] [.sp [.i .i64, .l (.st 2)]] (fun _ _=>by kernel_rfl) (fun _ _=>by kernel_rfl)
noncomputable def zsa:FS:=mkF 109 [.v (.st 2), .v (.st 5)] (.v .b) (fun x=>zhY x.1 x.2.1) [ziv,zmW] [] (fun _ _=>by kernel_rfl) (fun _ _=>by kernel_rfl)
noncomputable def zsj:FS:=mkF 224 [.v (.l .s), .v .s] (.v .s) (fun x=>zj9 x.1 x.2.1) [] [.sp [.s, .i .i64], .inl] (fun _ _=>by kernel_rfl) (fun _ _=>by kernel_rfl)
noncomputable def zlA:FS:=mkF 193 [.v (.st 2), .v (.st 4)] (.v (.st 0)) (fun x=>zdo x.1 x.2.1) [zsj] [] (fun _ _=>by kernel_rfl) (fun _ _=>by kernel_rfl)
noncomputable def zsK:FS:=mkF 152 [.v (.st 2), .v (.st 5)] (.v (.l (.st 7))) (fun x=>zhK x.1 x.2.1) [zlA] [] (fun _ _=>by kernel_rfl) (fun _ _=>by kernel_rfl)
noncomputable def zlt:FS:=mkF 194 [.v (.st 2), .v (.st 1), .v (.st 4)] (.v .s) (fun x=>zej x.1 x.2.1 x.2.2.1) [] [] (fun _ _=>by kernel_rfl) (fun _ _=>by kernel_rfl)
noncomputable def zuL:FS:=mkF 153 [.v (.st 2), .v (.st 1), .v (.st 5)] (.v (.l (.st 7))) (fun x=>zgH x.1 x.2.1 x.2.2.1) [zlt] [.sp [.s], .pt, .pt, .inl] (fun _ _=>by kernel_rfl) (fun _ _=>by kernel_rfl)
end Go.Proofs.YtfkblfjloegahaaGreatDoor
end
section
namespace Go.Proofs.YtfkblfjloegahaaGreatDoor
open Go.RowKit
set_option maxRecDepth 100000
set_option maxHeartbeats 4000000
noncomputable def ztO:FS:=mkF 111 [.v (.st 2), .v (.st 5)] (.v (.l (.st 7))) (fun x=>ziX x.1 x.2.1) [zsK,zuL] [.sp [.i .i64, .l (.st 7)]] (fun _ _=>by kernel_rfl) (fun _ _=>by kernel_rfl)
noncomputable def zwj:FS:=mkF 220 [.v (.st 7)] (.v .b) (fun x=>zkH x.1) [zpn,zpq,zc2] [.pt, .inl] (fun _ _=>by kernel_rfl) (fun _ _=>by kernel_rfl)
noncomputable def zt5:FS:=mkF 190 [.v (.l (.st 7))] (.v .b) (fun x=>zi2 x.1) [zwj] [.sp [.i .i64]] (fun _ _=>by kernel_rfl) (fun _ _=>by kernel_rfl)
noncomputable def zqP:FS:=mkF 243 [.v (.l (.st 0)), .v (.l (.st 8)), .v .s] (.tu (.cons (.v .s) (.cons (.v .b) (.cons (.v .b) .nil)))) (fun x=>zgL x.1 x.2.1 x.2.2.1) [] [.sp [.i .i64], .sp [.i .i64]] (fun _ _=>by kernel_rfl) (fun _ _=>by kernel_rfl)
noncomputable def zt9:FS:=mkF 258 [.v .s] (.v (.i .i64)) (fun x=>zgU x.1) [zc2] [.sp [.i .i64, .i .i64]] (fun _ _=>by kernel_rfl) (fun _ _=>by kernel_rfl)
noncomputable def zpp:FS:=mkF 245 [.v .s] (.tu (.cons (.v (.i .i64)) (.cons (.v .b) .nil))) (fun x=>zin x.1) [zt9] [.pt] (fun _ _=>by kernel_rfl) (fun _ _=>by kernel_rfl)
noncomputable def zsC:FS:=mkF 244 [.v (.st 7), .v .s, .v .b] (.v .b) (fun x=>zhQ x.1 x.2.1 x.2.2.1) [zpp,zc2] [] (fun _ _=>by kernel_rfl) (fun _ _=>by kernel_rfl)
noncomputable def zoo:FS:=mkF 223 [.v (.l (.st 0)), .v (.st 0)] (.v (.l (.st 0))) (fun x=>zdO x.1 x.2.1) [] [.sp [.i .i64]] (fun _ _=>by kernel_rfl) (fun _ _=>by kernel_rfl)
theorem zpt: ∀(n:Nat) (xs:HP tab.car [.v (.i .i64)]) (y:RTI tab.car (.v .s)),zwc tab [.v (.i .i64)] xs→((fun x=>zfN n x.1):HP tab.car [.v (.i .i64)]→Option (RTI tab.car (.v .s))) xs=some y→tab.Rt 259 (zll tab [.v (.i .i64)] xs) (zuP tab (.v .s) y)
 |0,_,_,_,h=>nomatch h
 |n+1,xs,y,hp,h=>zEL (ps:= [.v (.i .i64)]) (r:=(.v .s)) [mkH 259 [.v (.i .i64)] (.v .s) (fun x=>zfN n x.1) (zpt n)] [] (φ:=(fun x=>zfN (n+1) x.1)) (fun _ _=>by kernel_rfl) (fun _ _=>by kernel_rfl) xs y hp h
noncomputable def zu7:FS:=mkH 259 [.v (.i .i64)] (.v .s) (fun x=>zl7 x.1) (zpt zDT)
noncomputable def zuq:FS:=mkF 246 [.v (.i .i64)] (.v .s) (fun x=>zkL x.1) [zu7] [] (fun _ _=>by kernel_rfl) (fun _ _=>by kernel_rfl)
noncomputable def ztM:FS:=mkF 221 [.v (.l (.st 7)), .v (.l (.st 8))] (.tu (.cons (.v (.i .i64)) (.cons (.v .s) (.cons (.v (.l (.st 0))) .nil)))) (fun x=>zkC x.1 x.2.1) [zqP,zsC,zoo,zpp,zuq] [.sp [.l (.st 0), .i .i64], .inl, .inl] (fun _ _=>by kernel_rfl) (fun _ _=>by kernel_rfl)
noncomputable def zt4:FS:=mkF 222 [.v (.l (.st 0)), .v .s] (.v (.st 8)) (fun x=>ziV x.1 x.2.1) [] [.sp [.i .i64]] (fun _ _=>by kernel_rfl) (fun _ _=>by kernel_rfl)
noncomputable def zsA:FS:=mkF 191 [.v (.l (.st 0)), .v (.l (.st 7))] (.tu (.cons (.v (.l (.st 8))) (.cons (.v (.l (.st 0))) (.cons (.v .b) .nil)))) (fun x=>zj3 x.1 x.2.1) [ztM,zt4] [.sp [.l (.st 8)]] (fun _ _=>by kernel_rfl) (fun _ _=>by kernel_rfl)
noncomputable def zpD:FS:=mkF 192 [.v (.l (.st 0)), .v (.l (.st 0))] (.v (.l (.st 0))) (fun x=>zf0 x.1 x.2.1) [zoo] [.sp [.i .i64, .l (.st 0)], .sp [.l (.st 0), .i .i64], .inl] (fun _ _=>by kernel_rfl) (fun _ _=>by kernel_rfl)
noncomputable def zpS:FS:=mkF 151 [.v (.l (.st 0)), .v (.l (.l (.st 7)))] (.tu (.cons (.v (.l (.st 0))) (.cons (.v (.l .b)) (.cons (.v .b) .nil)))) (fun x=>zfZ x.1 x.2.1) [ziZ,zsA,zpD,zt5] [.sp [.i .i64], .sp [.l .b, .i .i64, .l (.st 0)], .inl] (fun _ _=>by kernel_rfl) (fun _ _=>by kernel_rfl)
noncomputable def zuZ:FS:=mkF 110 [.v (.l (.st 0)), .v (.l (.st 7))] (.tu (.cons (.v (.l (.st 0))) (.cons (.v .b) .nil))) (fun x=>zjM x.1 x.2.1) [zpS] [] (fun _ _=>by kernel_rfl) (fun _ _=>by kernel_rfl)
noncomputable def zu5:FS:=mkF 65 [.v (.st 2), .v (.l (.st 0)), .v (.st 5)] (.tu (.cons (.v (.l (.st 0))) (.cons (.v .b) (.cons (.v .b) .nil)))) (fun x=>zjF x.1 x.2.1 x.2.2.1) [zsa,ziZ,ztO,zuZ] [] (fun _ _=>by kernel_rfl) (fun _ _=>by kernel_rfl)
noncomputable def zlN:FS:=mkF 33 [.v (.st 3), .v (.st 6)] (.tu (.cons (.v (.st 3)) (.cons (.v .b) .nil))) (fun x=>zes x.1 x.2.1) [znK,zc2,zu5] [] (fun _ _=>by kernel_rfl) (fun _ _=>by kernel_rfl)
noncomputable def zpQ:FS:=mkF 8 [.v (.st 3), .v (.st 6)] (.tu (.cons (.v (.st 3)) (.cons (.v .b) (.cons (.v .b) .nil)))) (fun x=>zfV x.1 x.2.1) [zjj,zlN] [] (fun _ _=>by kernel_rfl) (fun _ _=>by kernel_rfl)
noncomputable def zcx:FS:=mkF 69 [.v (.i .i64), .v (.i .i64), .v (.i .i64)] (.v .b) (fun x=>zbc x.1 x.2.1 x.2.2.1) [] [] (fun _ _=>by kernel_rfl) (fun _ _=>by kernel_rfl)
noncomputable def zpZ:FS:=mkF 177 [.v (.l (.st 0))] (.v (.l .s)) (fun x=>zf3 x.1) [] [.sp [.i .i64, .l .s]] (fun _ _=>by kernel_rfl) (fun _ _=>by kernel_rfl)
noncomputable def zlW:FS:=mkF 241 [.v (.i .u8)] (.v .b) (fun x=>zfp x.1) [] [] (fun _ _=>by kernel_rfl) (fun _ _=>by kernel_rfl)
noncomputable def zm1:FS:=mkF 242 [.v .s, .v (.i .u8)] (.v (.i .i64)) (fun x=>zgf x.1 x.2.1) [zha] [] (fun _ _=>by kernel_rfl) (fun _ _=>by kernel_rfl)
noncomputable def zjl:FS:=mkF 218 [.v .s, .v .s] (.v .b) (fun x=>zed x.1 x.2.1) [zlW,zm1] [.sp [.i .i64]] (fun _ _=>by kernel_rfl) (fun _ _=>by kernel_rfl)
noncomputable def zsI:FS:=mkF 214 [.v .s] (.v .b) (fun x=>zhL x.1) [zcx,zjl] [] (fun _ _=>by kernel_rfl) (fun _ _=>by kernel_rfl)
noncomputable def zpV:FS:=mkF 176 [.v (.l .s)] (.v .b) (fun x=>zf5 x.1) [zsI] [.sp [.i .i64]] (fun _ _=>by kernel_rfl) (fun _ _=>by kernel_rfl)
noncomputable def zb6:FS:=mkH 180 [.v (.l (.st 0)), .fn [.st 0] .b] (.v (.i .i64)) (fun x=>zbq x.1 (fun y=>x.2.1.φ (y,()))) fun x r hp h=>ziH (f:=180) (t:=zy8 3) (by kernel_rfl) (by kernel_rfl) (zwR (av:=(zif tab.av (.st 0))) (cn:=3) (fun _=>⟨_,rfl,rfl⟩) h (fun y b hb=>hp.2.1 (y,()) b hb))
noncomputable def zbQ:FS:=mkH 136 [.v (.l (.st 0)), .fn [.st 0] .b] (.v .b) (fun x=>zaT x.1 (fun y=>x.2.1.φ (y,()))) fun x r hp h=>ziH (f:=136) (t:=zxX 180) (by kernel_rfl) (by kernel_rfl) (ztA h fun r hr=>zb6.ok x r hp hr)
noncomputable def zso:FS:=mkF 215 [.v .s] (.v .b) (fun x=>zhJ x.1) [zjl] [] (fun _ _=>by kernel_rfl) (fun _ _=>by kernel_rfl)
noncomputable def zrP:FS:=mkF 179 [.v .s, .v .b] (.v .b) (fun x=>zgE x.1 x.2.1) [zso] [] (fun _ _=>by kernel_rfl) (fun _ _=>by kernel_rfl)
noncomputable def znr:FS:=mkF 178 [.v (.st 0)] (.v .b) (fun x=>zet x.1) [zrP] [] (fun _ _=>by kernel_rfl) (fun _ _=>by kernel_rfl)
noncomputable def zmy:FS:=mkP znr fun _=>by kernel_rfl
noncomputable def zox:FS:=mkF 135 [.v (.l (.st 0))] (.v .b) (fun x=>zfs x.1) [zpZ,zpV,zbQ,zmy] [] (fun _ _=>by kernel_rfl) (fun _ _=>by kernel_rfl)
noncomputable def zq2:FS:=mkF 137 [.v (.st 0)] (.v .b) (fun x=>zgR x.1) [] [] (fun _ _=>by kernel_rfl) (fun _ _=>by kernel_rfl)
noncomputable def zpT:FS:=mkP zq2 fun _=>by kernel_rfl
noncomputable def zuE:FS:=mkF 90 [.v (.l (.st 0))] (.v .b) (fun x=>zi7 x.1) [zox,zbQ,zpT] [] (fun _ _=>by kernel_rfl) (fun _ _=>by kernel_rfl)
noncomputable def zeD:FS:=mkH 138 [.v (.l (.st 2)), .fn [.st 2] .b] (.v (.i .i64)) (fun x=>zbq x.1 (fun y=>x.2.1.φ (y,()))) fun x r hp h=>ziH (f:=138) (t:=zy8 3) (by kernel_rfl) (by kernel_rfl) (zwR (av:=(zif tab.av (.st 2))) (cn:=3) (fun _=>⟨_,rfl,rfl⟩) h (fun y b hb=>hp.2.1 (y,()) b hb))
noncomputable def zdZ:FS:=mkH 91 [.v (.l (.st 2)), .fn [.st 2] .b] (.v .b) (fun x=>zaT x.1 (fun y=>x.2.1.φ (y,()))) fun x r hp h=>ziH (f:=91) (t:=zxX 138) (by kernel_rfl) (by kernel_rfl) (ztA h fun r hr=>zeD.ok x r hp hr)
noncomputable def zoS:FS:=mkF 181 [.v .s, .v (.i .i64)] (.v .b) (fun x=>zdd x.1 x.2.1) [zcx] [.sp [.i .i64]] (fun _ _=>by kernel_rfl) (fun _ _=>by kernel_rfl)
noncomputable def zhx:FS:=mkF 216 [.v (.l .s), .v .s] (.v (.i .i64)) (fun x=>zbw x.1 x.2.1) [] [.sp [.i .i64]] (fun _ _=>by kernel_rfl) (fun _ _=>by kernel_rfl)
noncomputable def zdB:FS:=mkF 182 [.v (.l .s), .v .s] (.v .b) (fun x=>zaL x.1 x.2.1) [zhx] [] (fun _ _=>by kernel_rfl) (fun _ _=>by kernel_rfl)
noncomputable def zsu:FS:=mkF 183 [.v (.i .i64)] (.v .b) (fun x=>zjY x.1) [zcx] [] (fun _ _=>by kernel_rfl) (fun _ _=>by kernel_rfl)
noncomputable def zpE:FS:=mkF 139 [.v (.st 2)] (.v .b) (fun x=>zfW x.1) [zoS,zcx,zsu,zdB] [.sp [.i .i64], .sp [.i .i64]] (fun _ _=>by kernel_rfl) (fun _ _=>by kernel_rfl)
noncomputable def zfq:FS:=mkH 184 [.v (.l (.st 1)), .fn [.st 1] .b] (.v (.i .i64)) (fun x=>zbq x.1 (fun y=>x.2.1.φ (y,()))) fun x r hp h=>ziH (f:=184) (t:=zy8 3) (by kernel_rfl) (by kernel_rfl) (zwR (av:=(zif tab.av (.st 1))) (cn:=3) (fun _=>⟨_,rfl,rfl⟩) h (fun y b hb=>hp.2.1 (y,()) b hb))
noncomputable def zkc:FS:=mkF 185 [.v (.st 1), .rf .s] (.v .b) (fun x=>zen x.1 x.2.1) [] [] (fun _ _=>by kernel_rfl) (fun _ _=>by kernel_rfl)
noncomputable def zj6:FS:=mkP zkc fun _=>by kernel_rfl
noncomputable def ze8:FS:=mkF 140 [.v (.st 2), .v .s] (.v (.i .i64)) (fun x=>zbL x.1 x.2.1) [zfq,zj6] [] (fun _ _=>by kernel_rfl) (fun _ _=>by kernel_rfl)
noncomputable def ztU:FS:=mkF 93 [.v (.st 2), .v .s] (.v .b) (fun x=>zi6 x.1 x.2.1) [zpE,ze8] [] (fun _ _=>by kernel_rfl) (fun _ _=>by kernel_rfl)
noncomputable def zog:FS:=mkF 92 [.v (.st 2), .rf (.st 3)] (.v .b) (fun x=>zgA x.1 x.2.1) [ztU] [] (fun _ _=>by kernel_rfl) (fun _ _=>by kernel_rfl)
noncomputable def znc:FS:=mkP zog fun _=>by kernel_rfl
noncomputable def ziB:FS:=mkH 141 [.v (.l (.i .i64)), .fn [.i .i64] .b] (.v (.i .i64)) (fun x=>zbq x.1 (fun y=>x.2.1.φ (y,()))) fun x r hp h=>ziH (f:=141) (t:=zxo) (by kernel_rfl) (by kernel_rfl) (zxH (av:=(zif tab.av (.i .i64))) (fun _=>rfl) h (fun y b hb=>hp.2.1 (y,()) b hb))
noncomputable def zg9:FS:=mkH 94 [.v (.l (.i .i64)), .fn [.i .i64] .b] (.v .b) (fun x=>zaT x.1 (fun y=>x.2.1.φ (y,()))) fun x r hp h=>ziH (f:=94) (t:=zxX 141) (by kernel_rfl) (by kernel_rfl) (ztA h fun r hr=>ziB.ok x r hp hr)
noncomputable def znI:FS:=mkF 95 [.v (.i .i64), .rf (.st 3)] (.v .b) (fun x=>zgX x.1 x.2.1) [zcx] [] (fun _ _=>by kernel_rfl) (fun _ _=>by kernel_rfl)
noncomputable def zny:FS:=mkP znI fun _=>by kernel_rfl
noncomputable def zg5:FS:=mkF 142 [.v (.st 2), .v .s] (.v (.st 1)) (fun x=>zbD x.1 x.2.1) [ze8] [] (fun _ _=>by kernel_rfl) (fun _ _=>by kernel_rfl)
noncomputable def zhc:FS:=mkF 98 [.v (.st 3), .v (.st 2)] (.v (.i .i64)) (fun x=>zbF x.1 x.2.1) [zg5] [] (fun _ _=>by kernel_rfl) (fun _ _=>by kernel_rfl)
noncomputable def zd8:FS:=mkH 146 [.v (.l .s)] (.v (.l .s)) (fun x=>zaY x.1) fun x r hp h=>ziH (f:=146) (t:=zs3 16 1) (by kernel_rfl) (by kernel_rfl) (zn8 (bytes:=16) (sz:=1) (av:=(zif tab.av .s)) (fun x=>⟨zl2 _ x,zgk (by kernel_rfl) x⟩) h)
noncomputable def zgg:FS:=mkH 147 [.v (.l (.st 1))] (.v (.l (.st 1))) (fun x=>zbU x.1) fun x r hp h=>ziH (f:=147) (t:=zs3 32 3) (by kernel_rfl) (by kernel_rfl) (zn8 (bytes:=32) (sz:=3) (av:=(zif tab.av (.st 1))) (fun x=>⟨zl2 _ x,zgk (by kernel_rfl) x⟩) h)
noncomputable def zip:FS:=mkF 102 [.v (.st 2)] (.v (.st 2)) (fun x=>zdH x.1) [zd8,zgg] [] (fun _ _=>by kernel_rfl) (fun _ _=>by kernel_rfl)
noncomputable def zkw:FS:=mkF 143 [.v (.st 2), .v .s, .v (.i .i64)] (.v (.st 2)) (fun x=>zb2 x.1 x.2.1 x.2.2.1) [zip,ze8] [] (fun _ _=>by kernel_rfl) (fun _ _=>by kernel_rfl)
noncomputable def zmC:FS:=mkF 97 [.v (.st 2), .v .s, .v (.i .i64)] (.v (.l (.st 2))) (fun x=>zd1 x.1 x.2.1 x.2.2.1) [zg5,zip,zkw] [.sp [.i .i64, .l (.st 2)], .inl] (fun _ _=>by kernel_rfl) (fun _ _=>by kernel_rfl)
noncomputable def zbT:FS:=mkF 96 [.v (.l (.st 2)), .v (.l (.st 2)), .fn [.st 2, .st 2] .b] (.v .b) (fun x=>zak x.1 x.2.1 (fun y0 y1=>x.2.2.1.φ (y0,y1,()))) [] [.sp [.i .i64]] (fun _ _=>by kernel_rfl) (fun _ _=>by kernel_rfl)
noncomputable def zhw:FS:=mkF 144 [.v (.l .s), .v (.l .s)] (.v .b) (fun x=>zbu x.1 x.2.1) [] [.sp [.i .i64]] (fun _ _=>by kernel_rfl) (fun _ _=>by kernel_rfl)
noncomputable def zga:FS:=mkF 145 [.v (.l (.st 1)), .v (.l (.st 1))] (.v .b) (fun x=>za5 x.1 x.2.1) [] [.sp [.i .i64]] (fun _ _=>by kernel_rfl) (fun _ _=>by kernel_rfl)
noncomputable def zpU:FS:=mkF 99 [.v (.st 2), .v (.st 2)] (.v .b) (fun x=>zcg x.1 x.2.1) [zhw,zga] [] (fun _ _=>by kernel_rfl) (fun _ _=>by kernel_rfl)
noncomputable def zow:FS:=mkP zpU fun _=>by kernel_rfl
end Go.Proofs.YtfkblfjloegahaaGreatDoor
end
section
namespace Go.Proofs.YtfkblfjloegahaaGreatDoor
open Go.RowKit
set_option maxRecDepth 100000
set_option maxHeartbeats 4000000
noncomputable def zk7:FS:=mkF 56 [.v (.st 3)] (.v .b) (fun x=>zeL x.1) [zcx,zuE,zdZ,znc,zg9,zny,zhc,zmC,zbT,zow] [] (fun _ _=>by kernel_rfl) (fun _ _=>by kernel_rfl)
noncomputable def zfH:FS:=mkF 71 [.v (.st 3), .v (.i .i64)] (.v (.st 2)) (fun x=>zaJ x.1 x.2.1) [] [] (fun _ _=>by kernel_rfl) (fun _ _=>by kernel_rfl)
noncomputable def zdr:FS:=mkH 217 [.v (.l .s), .fn [.s] .b] (.v (.i .i64)) (fun x=>zbq x.1 (fun y=>x.2.1.φ (y,()))) fun x r hp h=>ziH (f:=217) (t:=zxo) (by kernel_rfl) (by kernel_rfl) (zxH (av:=(zif tab.av .s)) (fun _=>rfl) h (fun y b hb=>hp.2.1 (y,()) b hb))
noncomputable def zft:FS:=mkH 186 [.v (.l .s), .fn [.s] .b] (.v .b) (fun x=>zaT x.1 (fun y=>x.2.1.φ (y,()))) fun x r hp h=>ziH (f:=186) (t:=zxX 217) (by kernel_rfl) (by kernel_rfl) (ztA h fun r hr=>zdr.ok x r hp hr)
noncomputable def zmS:FS:=mkF 188 [.v .s] (.v .b) (fun x=>zeT x.1) [zcx,zjl] [] (fun _ _=>by kernel_rfl) (fun _ _=>by kernel_rfl)
noncomputable def zlh:FS:=mkF 187 [.v .s] (.v .b) (fun x=>zdz x.1) [zmS] [] (fun _ _=>by kernel_rfl) (fun _ _=>by kernel_rfl)
noncomputable def zkJ:FS:=mkP zlh fun _=>by kernel_rfl
noncomputable def ziI:FS:=mkF 148 [.v (.st 2), .v (.st 4)] (.v .b) (fun x=>zbb x.1 x.2.1) [zft,zkJ] [] (fun _ _=>by kernel_rfl) (fun _ _=>by kernel_rfl)
noncomputable def zkY:FS:=mkF 103 [.v (.st 2), .v (.st 5)] (.v .b) (fun x=>zc9 x.1 x.2.1) [ziI] [] (fun _ _=>by kernel_rfl) (fun _ _=>by kernel_rfl)
noncomputable def zuo:FS:=mkF 104 [.v (.st 5)] (.v .b) (fun x=>zkS x.1) [] [] (fun _ _=>by kernel_rfl) (fun _ _=>by kernel_rfl)
noncomputable def zfP:FS:=mkF 58 [.v (.st 3), .v (.st 6)] (.v .b) (fun x=>zba x.1 x.2.1) [zcx,zfH,zkY,zuo] [] (fun _ _=>by kernel_rfl) (fun _ _=>by kernel_rfl)
noncomputable def zjg:FS:=mkF 38 [.v (.st 3), .v (.st 6)] (.v .b) (fun x=>zdp x.1 x.2.1) [zk7,zfP] [] (fun _ _=>by kernel_rfl) (fun _ _=>by kernel_rfl)
noncomputable def zj7:FS:=mkH 100 [.v (.l (.i .i64))] (.v (.l (.i .i64))) (fun x=>zdV x.1) fun x r hp h=>ziH (f:=100) (t:=zs3 8 1) (by kernel_rfl) (by kernel_rfl) (zn8 (bytes:=8) (sz:=1) (av:=(zif tab.av (.i .i64))) (fun x=>⟨zl2 _ x,zgk (by kernel_rfl) x⟩) h)
noncomputable def zcD:FS:=mkH 101 [.v (.l (.st 0))] (.v (.l (.st 0))) (fun x=>zaz x.1) fun x r hp h=>ziH (f:=101) (t:=zs3 40 3) (by kernel_rfl) (by kernel_rfl) (zn8 (bytes:=40) (sz:=3) (av:=(zif tab.av (.st 0))) (fun x=>⟨zl2 _ x,zgk (by kernel_rfl) x⟩) h)
noncomputable def zlg:FS:=mkF 57 [.v (.st 3)] (.v (.st 3)) (fun x=>zeJ x.1) [zj7,zcD,zip] [.sp [.i .i64, .l (.st 2)]] (fun _ _=>by kernel_rfl) (fun _ _=>by kernel_rfl)
noncomputable def zgJ:FS:=mkF 117 [.v (.st 2), .v (.st 4)] (.v (.st 0)) (fun x=>zbt x.1 x.2.1) [zr5] [] (fun _ _=>by kernel_rfl) (fun _ _=>by kernel_rfl)
noncomputable def zkU:FS:=mkF 116 [.v (.i .i64), .v (.st 0), .rf (.l (.st 7))] (.tu (.cons (.tu .nil) (.cons (.bo (.l (.st 7))) .nil))) (fun x=>zax x.1 x.2.1 x.2.2.1) [] [] (fun _ _=>by kernel_rfl) (fun _ _=>by kernel_rfl)
noncomputable def zhb:FS:=mkF 161 [.v (.st 2), .v .s] (.v .s) (fun x=>zcm x.1 x.2.1) [] [] (fun _ _=>by kernel_rfl) (fun _ _=>by kernel_rfl)
noncomputable def zh3:FS:=mkF 118 [.v (.st 2), .v .s, .v (.st 4)] (.v .s) (fun x=>za3 x.1 x.2.1 x.2.2.1) [zhb,zg5] [] (fun _ _=>by kernel_rfl) (fun _ _=>by kernel_rfl)
noncomputable def zr2:FS:=mkF 119 [.v (.i .i64)] (.v .b) (fun x=>zj4 x.1) [] [] (fun _ _=>by kernel_rfl) (fun _ _=>by kernel_rfl)
noncomputable def zr4:FS:=mkF 120 [.v (.i .i64)] (.v .b) (fun x=>zjS x.1) [] [] (fun _ _=>by kernel_rfl) (fun _ _=>by kernel_rfl)
noncomputable def zlI:FS:=mkF 72 [.v (.st 2), .v (.st 5)] (.v (.l (.st 7))) (fun x=>zdP x.1 x.2.1) [zr4,zkU,zr2,zh3,zgJ] [.sp [.s, .s, .b, .l (.st 7)], .pt, .pt, .sp [.i .i64, .l (.st 7)], .inl, .sp [.s], .pt, .pt] (fun _ _=>by kernel_rfl) (fun _ _=>by kernel_rfl)
noncomputable def zcz:FS:=mkF 227 [.v (.l (.st 0)), .v .s, .fn [.st 0, .s] (.i .i64)] (.tu (.cons (.v (.i .i64)) (.cons (.v .b) .nil))) (fun x=>zay x.1 x.2.1 (fun y0 y1=>x.2.2.1.φ (y0,y1,()))) [] [.sp [.i .i64, .i .i64]] (fun _ _=>by kernel_rfl) (fun _ _=>by kernel_rfl)
noncomputable def zna:FS:=mkF 249 [.v .s] (.v .b) (fun x=>zdt x.1) [] [] (fun _ _=>by kernel_rfl) (fun _ _=>by kernel_rfl)
noncomputable def zlQ:FS:=mkF 229 [.v .s, .v .s] (.v (.i .i64)) (fun x=>zdL x.1 x.2.1) [zna] [] (fun _ _=>by kernel_rfl) (fun _ _=>by kernel_rfl)
noncomputable def zn0:FS:=mkF 228 [.v (.st 0), .v .s] (.v (.i .i64)) (fun x=>zcR x.1 x.2.1) [zlQ] [] (fun _ _=>by kernel_rfl) (fun _ _=>by kernel_rfl)
noncomputable def zne:FS:=mkP zn0 fun _=>by kernel_rfl
noncomputable def ziE:FS:=mkF 199 [.v (.l (.st 0)), .v .s] (.tu (.cons (.v (.i .i64)) (.cons (.v .b) .nil))) (fun x=>zch x.1 x.2.1) [zcz,zne] [] (fun _ _=>by kernel_rfl) (fun _ _=>by kernel_rfl)
noncomputable def zlX:FS:=mkF 157 [.v (.l (.st 0)), .v (.st 0)] (.v (.l (.st 0))) (fun x=>zdw x.1 x.2.1) [ziE,zfi] [] (fun _ _=>by kernel_rfl) (fun _ _=>by kernel_rfl)
noncomputable def zsJ:FS:=mkF 195 [.v .s, .v (.l (.st 0)), .v (.l (.st 8))] (.tu (.cons (.v .s) (.cons (.v .b) (.cons (.v .b) .nil)))) (fun x=>zhG x.1 x.2.1 x.2.2.1) [ziE] [.sp [.i .i64]] (fun _ _=>by kernel_rfl) (fun _ _=>by kernel_rfl)
noncomputable def zl6:FS:=mkF 197 [.v .s] (.tu (.cons (.v (.i .i64)) (.cons (.v .b) .nil))) (fun x=>zfn x.1) [zsl] [] (fun _ _=>by kernel_rfl) (fun _ _=>by kernel_rfl)
noncomputable def zoG:FS:=mkF 196 [.v (.st 7), .v .s, .v .b] (.v .b) (fun x=>zfy x.1 x.2.1 x.2.2.1) [zl6,zcx] [] (fun _ _=>by kernel_rfl) (fun _ _=>by kernel_rfl)
noncomputable def zsq:FS:=mkF 155 [.v (.l (.st 7)), .v (.l (.st 8))] (.tu (.cons (.v (.i .i64)) (.cons (.v .s) (.cons (.v (.l (.st 0))) .nil)))) (fun x=>zjV x.1 x.2.1) [zlX,zsJ,zoG,zl6,zsP] [.sp [.i .i64, .l (.st 0)], .inl] (fun _ _=>by kernel_rfl) (fun _ _=>by kernel_rfl)
noncomputable def zvD:FS:=mkF 156 [.v (.l (.st 0)), .v .s] (.v (.st 8)) (fun x=>zjL x.1 x.2.1) [ziE] [] (fun _ _=>by kernel_rfl) (fun _ _=>by kernel_rfl)
noncomputable def zrL:FS:=mkF 114 [.v (.l (.st 0)), .v (.l (.st 7))] (.tu (.cons (.v (.l (.st 8))) (.cons (.v (.l (.st 0))) (.cons (.v .b) .nil)))) (fun x=>zjs x.1 x.2.1) [zsq,zvD] [.sp [.l (.st 8)]] (fun _ _=>by kernel_rfl) (fun _ _=>by kernel_rfl)
noncomputable def zeq:FS:=mkH 158 [.v (.l (.st 0)), .fn [.st 0] .b] (.v (.l (.st 0))) (fun x=>zfj x.1 (fun y=>x.2.1.φ (y,()))) fun x r hp h=>ziH (f:=158) (t:=zBG 180 3 true (.mk (.cons (.fld (.fld (.idx (.var 5) (.var 4)) 0 3 true) 0 1 false) (.cons (.fld (.fld (.idx (.var 5) (.var 4)) 0 3 true) 1 1 false) (.cons (.fld (.fld (.idx (.var 5) (.var 4)) 0 3 true) 2 1 false) .nil)))) [(.agg (.fld (.idx (.var 5) (.var 4)) 0 3 true) 3)] (.mk (.cons (.str (ByteArray.mk #[])) (.cons (.str (ByteArray.mk #[])) (.cons (.bool false) .nil))))) (by kernel_rfl) (by kernel_rfl) (zyV (av:=(zif tab.av (.st 0))) (fun x=>⟨zl2 _ x,zgk (by kernel_rfl) x,fun _=>⟨_,rfl⟩,fun e=>by cases e⟩) (by decide) (fun a b c d j ys x tl hj=>by simp [AV.nth,hj,zif,tAv]) (fun a b c d j ys x hj=>by simp [AV.nth,hj,zif,tAv]) h (fun i hi=>zb6.ok x i hp hi) (fun y b hb=>hp.2.1 (y,()) b hb))
noncomputable def zpY:FS:=mkF 159 [.v (.st 0)] (.v .b) (fun x=>ziu x.1) [] [] (fun _ _=>by kernel_rfl) (fun _ _=>by kernel_rfl)
noncomputable def zoA:FS:=mkP zpY fun _=>by kernel_rfl
noncomputable def zsc:FS:=mkF 115 [.v (.l (.st 0)), .v (.l (.st 0))] (.tu (.cons (.v (.l (.st 0))) (.cons (.v .b) .nil))) (fun x=>zhV x.1 x.2.1) [zcD,zeq,zoA,zlX] [.sp [.i .i64, .l (.st 0)]] (fun _ _=>by kernel_rfl) (fun _ _=>by kernel_rfl)
noncomputable def zuK:FS:=mkF 70 [.v (.l (.st 0)), .v (.l (.st 7))] (.tu (.cons (.v (.l (.st 0))) (.cons (.v .b) .nil))) (fun x=>zi1 x.1 x.2.1) [zrL,zsc] [] (fun _ _=>by kernel_rfl) (fun _ _=>by kernel_rfl)
noncomputable def zgd:FS:=mkF 39 [.v (.st 3), .v (.st 6)] (.tu (.cons (.v (.st 3)) (.cons (.v .b) .nil))) (fun x=>zbo x.1 x.2.1) [zlg,zcx,zfH,zlI,zuK] [] (fun _ _=>by kernel_rfl) (fun _ _=>by kernel_rfl)
noncomputable def zpz:FS:=mkF 11 [.v (.st 3), .v (.st 6)] (.tu (.cons (.v (.st 3)) (.cons (.v .b) (.cons (.v .b) .nil)))) (fun x=>zeO x.1 x.2.1) [zjg,zgd] [] (fun _ _=>by kernel_rfl) (fun _ _=>by kernel_rfl)
noncomputable def zlb:FS:=mkF 121 [.v (.l .s), .v (.l .s)] (.v .b) (fun x=>zcZ x.1 x.2.1) [] [.sp [.i .i64]] (fun _ _=>by kernel_rfl) (fun _ _=>by kernel_rfl)
noncomputable def zvk:FS:=mkF 162 [.v (.st 1), .v (.st 1)] (.v .b) (fun x=>zgi x.1 x.2.1) [] [] (fun _ _=>by kernel_rfl) (fun _ _=>by kernel_rfl)
noncomputable def zub:FS:=mkF 122 [.v (.l (.st 1)), .v (.l (.st 1))] (.v .b) (fun x=>zfA x.1 x.2.1) [zvk] [.sp [.i .i64]] (fun _ _=>by kernel_rfl) (fun _ _=>by kernel_rfl)
noncomputable def zsN:FS:=mkF 73 [.v (.st 2), .v (.st 2)] (.v .b) (fun x=>zeX x.1 x.2.1) [zlb,zub] [] (fun _ _=>by kernel_rfl) (fun _ _=>by kernel_rfl)
noncomputable def zrs:FS:=mkF 40 [.v (.l (.st 2)), .v (.l (.st 2))] (.v .b) (fun x=>zgp x.1 x.2.1) [zsN] [.sp [.i .i64]] (fun _ _=>by kernel_rfl) (fun _ _=>by kernel_rfl)
noncomputable def ztY:FS:=mkF 41 [.v (.l (.i .i64)), .v (.l (.i .i64))] (.v .b) (fun x=>ziQ x.1 x.2.1) [] [.sp [.i .i64]] (fun _ _=>by kernel_rfl) (fun _ _=>by kernel_rfl)
noncomputable def zsO:FS:=mkF 74 [.v (.st 0), .v (.st 0)] (.v .b) (fun x=>zeS x.1 x.2.1) [] [] (fun _ _=>by kernel_rfl) (fun _ _=>by kernel_rfl)
noncomputable def zqw:FS:=mkF 42 [.v (.l (.st 0)), .v (.l (.st 0))] (.v .b) (fun x=>zeo x.1 x.2.1) [zsO] [.sp [.i .i64]] (fun _ _=>by kernel_rfl) (fun _ _=>by kernel_rfl)
noncomputable def zj2:FS:=mkF 12 [.v (.st 3), .v (.st 3)] (.v .b) (fun x=>zbr x.1 x.2.1) [zrs,ztY,zqw] [] (fun _ _=>by kernel_rfl) (fun _ _=>by kernel_rfl)
noncomputable def zv8:FS:=mkF 75 [.v (.st 4), .v (.st 4)] (.v .b) (fun x=>zim x.1 x.2.1) [zlb] [] (fun _ _=>by kernel_rfl) (fun _ _=>by kernel_rfl)
noncomputable def zrH:FS:=mkF 43 [.v (.st 5), .v (.st 5)] (.v .b) (fun x=>zgo x.1 x.2.1) [zv8] [] (fun _ _=>by kernel_rfl) (fun _ _=>by kernel_rfl)
noncomputable def zhn:FS:=mkF 13 [.v (.st 6), .v (.st 6)] (.v .b) (fun x=>zde x.1 x.2.1) [zrH] [] (fun _ _=>by kernel_rfl) (fun _ _=>by kernel_rfl)
noncomputable def zcE:FS:=mkF 76 [.v (.i .i64)] (.v .s) (fun x=>zaF x.1) [] [.sp [.i .i64, .s]] (fun _ _=>by kernel_rfl) (fun _ _=>by kernel_rfl)
noncomputable def zg2:FS:=mkF 59 [.v (.l .s), .v (.i .i64)] (.tu (.cons (.v (.i .i64)) (.cons (.v (.l .s)) .nil))) (fun x=>zcM x.1 x.2.1) [zcE] [.sp [.i .i64, .i .i64, .l .s]] (fun _ _=>by kernel_rfl) (fun _ _=>by kernel_rfl)
noncomputable def zq8:FS:=mkF 77 [.v (.l (.st 1)), .v (.i .i64)] (.tu (.cons (.v (.i .i64)) (.cons (.v (.l (.st 1))) .nil))) (fun x=>zjp x.1 x.2.1) [zcE] [.sp [.i .i64, .i .i64, .l (.st 1)]] (fun _ _=>by kernel_rfl) (fun _ _=>by kernel_rfl)
noncomputable def zo5:FS:=mkF 44 [.v (.l (.st 2)), .v (.i .i64)] (.tu (.cons (.v (.i .i64)) (.cons (.v (.l (.st 2))) .nil))) (fun x=>zhz x.1 x.2.1) [zcE,zg2,zq8] [.sp [.i .i64, .i .i64, .l (.st 2)]] (fun _ _=>by kernel_rfl) (fun _ _=>by kernel_rfl)
noncomputable def zrX:FS:=mkF 45 [.v (.l (.i .i64)), .v (.i .i64)] (.tu (.cons (.v (.i .i64)) (.cons (.v (.l (.i .i64))) .nil))) (fun x=>zjf x.1 x.2.1) [] [.sp [.i .i64, .i .i64, .l (.i .i64)]] (fun _ _=>by kernel_rfl) (fun _ _=>by kernel_rfl)
noncomputable def zo2:FS:=mkF 46 [.v (.l (.st 0)), .v (.i .i64)] (.tu (.cons (.v (.i .i64)) (.cons (.v (.l (.st 0))) .nil))) (fun x=>zho x.1 x.2.1) [zcE] [.sp [.i .i64, .i .i64, .l (.st 0)]] (fun _ _=>by kernel_rfl) (fun _ _=>by kernel_rfl)
noncomputable def zle:FS:=mkF 14 [.v (.st 3), .v (.i .i64)] (.tu (.cons (.v (.i .i64)) (.cons (.v (.st 3)) .nil))) (fun x=>zcY x.1 x.2.1) [zo5,zrX,zo2] [] (fun _ _=>by kernel_rfl) (fun _ _=>by kernel_rfl)
noncomputable def zsm:FS:=mkF 78 [.v (.st 4), .v (.i .i64)] (.tu (.cons (.v (.i .i64)) (.cons (.v (.st 4)) .nil))) (fun x=>zfO x.1 x.2.1) [zg2] [] (fun _ _=>by kernel_rfl) (fun _ _=>by kernel_rfl)
noncomputable def zoC:FS:=mkF 47 [.v (.st 5), .v (.i .i64)] (.tu (.cons (.v (.i .i64)) (.cons (.v (.st 5)) .nil))) (fun x=>zfC x.1 x.2.1) [zsm] [] (fun _ _=>by kernel_rfl) (fun _ _=>by kernel_rfl)
end Go.Proofs.YtfkblfjloegahaaGreatDoor
end
section
namespace Go.Proofs.YtfkblfjloegahaaGreatDoor
open Go.RowKit
set_option maxRecDepth 100000
set_option maxHeartbeats 4000000
noncomputable def znh:FS:=mkF 15 [.v (.st 6), .v (.i .i64)] (.tu (.cons (.v (.i .i64)) (.cons (.v (.st 6)) .nil))) (fun x=>zex x.1 x.2.1) [zoC] [] (fun _ _=>by kernel_rfl) (fun _ _=>by kernel_rfl)
noncomputable def znX:FS:=mkF 79 [.v (.l .s), .v (.i .i64)] (.v (.i .i64)) (fun x=>zgP x.1 x.2.1) [zcE] [.sp [.i .i64, .i .i64]] (fun _ _=>by kernel_rfl) (fun _ _=>by kernel_rfl)
noncomputable def zro:FS:=mkF 80 [.v (.l (.st 1)), .v (.i .i64)] (.v (.i .i64)) (fun x=>zjw x.1 x.2.1) [zcE] [.sp [.i .i64, .i .i64]] (fun _ _=>by kernel_rfl) (fun _ _=>by kernel_rfl)
noncomputable def zoT:FS:=mkF 48 [.v (.l (.st 2)), .v (.i .i64)] (.v (.i .i64)) (fun x=>zhh x.1 x.2.1) [zcE,znX,zro] [.sp [.i .i64, .i .i64]] (fun _ _=>by kernel_rfl) (fun _ _=>by kernel_rfl)
noncomputable def zq5:FS:=mkF 49 [.v (.l (.i .i64)), .v (.i .i64)] (.v (.i .i64)) (fun x=>zjv x.1 x.2.1) [] [.sp [.i .i64, .i .i64]] (fun _ _=>by kernel_rfl) (fun _ _=>by kernel_rfl)
noncomputable def zpc:FS:=mkF 50 [.v (.l (.st 0)), .v (.i .i64)] (.v (.i .i64)) (fun x=>zhA x.1 x.2.1) [zcE] [.sp [.i .i64, .i .i64]] (fun _ _=>by kernel_rfl) (fun _ _=>by kernel_rfl)
noncomputable def zla:FS:=mkF 16 [.v (.st 3), .v (.i .i64)] (.v (.i .i64)) (fun x=>zc1 x.1 x.2.1) [zoT,zq5,zpc] [] (fun _ _=>by kernel_rfl) (fun _ _=>by kernel_rfl)
noncomputable def zgr:FS:=mkF 3 [.v (.st 3), .v (.st 6)] (.v .b) (fun x=>zc7 x.1 x.2.1) [zj0,zhi,zj8,zhg,zpQ,zpz,zj2,zhn,zle,znh,zla] [] (fun _ _=>by kernel_rfl) (fun _ _=>by kernel_rfl)
noncomputable def zrE:FS:=mkF 81 [.v (.l (.i .i64))] (.v .b) (fun x=>zl1 x.1) [] [.sp [.i .i64], .sp [.i .i64]] (fun _ _=>by kernel_rfl) (fun _ _=>by kernel_rfl)
noncomputable def zp0:FS:=mkF 166 [.v (.st 3)] (.v (.l (.i .i64))) (fun x=>zf6 x.1) [zfv] [.sp [.l (.i .i64), .i .i64]] (fun _ _=>by kernel_rfl) (fun _ _=>by kernel_rfl)
noncomputable def zvH:FS:=mkF 167 [.v (.l (.i .i64)), .v (.i .i64)] (.v .b) (fun x=>zig x.1 x.2.1) [] [.sp [.i .i64]] (fun _ _=>by kernel_rfl) (fun _ _=>by kernel_rfl)
noncomputable def zse:FS:=mkF 124 [.v (.st 3)] (.v (.i .i64)) (fun x=>zhU x.1) [zp0,zvH] [] (fun _ _=>by kernel_rfl) (fun _ _=>by kernel_rfl)
noncomputable def zmV:FS:=mkF 234 [.v .s, .v (.i .u8)] (.v (.l .s)) (fun x=>zdX x.1 x.2.1) [] [.sp [.l .s, .i .i64, .i .i64], .inl] (fun _ _=>by kernel_rfl) (fun _ _=>by kernel_rfl)
noncomputable def zng:FS:=mkF 204 [.v (.st 2), .v .s, .v .s] (.tu (.cons (.v .s) (.cons (.v .s) (.cons (.v .b) .nil)))) (fun x=>zeB x.1 x.2.1 x.2.2.1) [zmV,zly] [] (fun _ _=>by kernel_rfl) (fun _ _=>by kernel_rfl)
noncomputable def zhB:FS:=mkF 163 [.v (.st 2), .v .s, .v (.l (.st 0))] (.v (.l .s)) (fun x=>zeg x.1 x.2.1 x.2.2.1) [zng] [.sp [.l .s, .i .i64], .inl] (fun _ _=>by kernel_rfl) (fun _ _=>by kernel_rfl)
noncomputable def zlK:FS:=mkF 205 [.v (.st 2), .v .s, .v (.l (.st 0))] (.v .b) (fun x=>zds x.1 x.2.1 x.2.2.1) [ziv,zfv,ziZ] [] (fun _ _=>by kernel_rfl) (fun _ _=>by kernel_rfl)
noncomputable def zsz:FS:=mkF 253 [.v (.st 2), .v (.st 0)] (.tu (.cons (.v (.st 4)) (.cons (.v .b) .nil))) (fun x=>zhH x.1 x.2.1) [zmV,zmP,zlA] [] (fun _ _=>by kernel_rfl) (fun _ _=>by kernel_rfl)
noncomputable def zr9:FS:=mkF 235 [.v (.st 2), .v (.l (.st 0))] (.v (.l (.st 4))) (fun x=>zjR x.1 x.2.1) [zsz] [.sp [.l (.st 4), .i .i64], .inl] (fun _ _=>by kernel_rfl) (fun _ _=>by kernel_rfl)
noncomputable def zk9:FS:=mkF 207 [.v (.st 2), .v .s, .v (.l (.st 0))] (.v (.l .s)) (fun x=>zeM x.1 x.2.1 x.2.2.1) [zr9,zfv,zlt] [.sp [.l .s, .i .i64]] (fun _ _=>by kernel_rfl) (fun _ _=>by kernel_rfl)
noncomputable def zmL:FS:=mkF 206 [.v (.l .s), .v (.l .s)] (.v (.l .s)) (fun x=>zhS x.1 x.2.1) [zpx] [.sp [.l .s, .i .i64], .inl] (fun _ _=>by kernel_rfl) (fun _ _=>by kernel_rfl)
noncomputable def zpB:FS:=mkF 164 [.v (.st 2), .v .s, .v (.l (.st 0))] (.tu (.cons (.v (.l .s)) (.cons (.v .b) .nil))) (fun x=>ziC x.1 x.2.1 x.2.2.1) [zlK,zhB,zk9,zmL] [] (fun _ _=>by kernel_rfl) (fun _ _=>by kernel_rfl)
noncomputable def zsh:FS:=mkF 165 [.v (.st 2), .v .s, .v (.l (.st 0))] (.tu (.cons (.v (.l .s)) (.cons (.v .b) .nil))) (fun x=>zjQ x.1 x.2.1 x.2.2.1) [zlK,zk9,zhB,zmL] [] (fun _ _=>by kernel_rfl) (fun _ _=>by kernel_rfl)
noncomputable def zrF:FS:=mkF 123 [.v (.st 2), .v .s, .v (.i .i64), .v (.l (.st 0))] (.v .b) (fun x=>zgx x.1 x.2.1 x.2.2.1 x.2.2.2.1) [zhB,zpB,zsh] [] (fun _ _=>by kernel_rfl) (fun _ _=>by kernel_rfl)
noncomputable def zsH:FS:=mkF 82 [.v (.st 3)] (.v .b) (fun x=>zhE x.1) [zse,zrF] [] (fun _ _=>by kernel_rfl) (fun _ _=>by kernel_rfl)
noncomputable def zom:FS:=mkF 51 [.v (.st 3), .v (.st 6)] (.v .b) (fun x=>zk1 x.1 x.2.1) [zlN,zrE,zsH] [] (fun _ _=>by kernel_rfl) (fun _ _=>by kernel_rfl)
noncomputable def zsE:FS:=mkF 17 [.v (.st 3), .v (.st 6)] (.tu (.cons (.v .b) (.cons (.v .b) .nil))) (fun x=>zmF x.1 x.2.1) [zjj,zom] [] (fun _ _=>by kernel_rfl) (fun _ _=>by kernel_rfl)
noncomputable def zkR:FS:=mkF 125 [.v (.l (.i .i64))] (.v (.i .i64)) (fun x=>zgC x.1) [] [.sp [.i .i64, .i .i64]] (fun _ _=>by kernel_rfl) (fun _ _=>by kernel_rfl)
noncomputable def zkB:FS:=mkF 126 [.v (.l (.i .i64))] (.v (.i .i64)) (fun x=>zgT x.1) [] [.sp [.i .i64, .i .i64]] (fun _ _=>by kernel_rfl) (fun _ _=>by kernel_rfl)
noncomputable def zkM:FS:=mkF 83 [.v (.st 3)] (.v .b) (fun x=>zgu x.1) [zkR,zkB] [] (fun _ _=>by kernel_rfl) (fun _ _=>by kernel_rfl)
noncomputable def znj:FS:=mkF 128 [.v (.st 3)] (.v (.i .i64)) (fun x=>zeA x.1) [zfH,zhc] [.sp [.i .i64, .i .i64], .inl] (fun _ _=>by kernel_rfl) (fun _ _=>by kernel_rfl)
noncomputable def zg8:FS:=mkF 267 [.v .s, .v .s] (.v .b) (fun x=>zbn x.1 x.2.1) [] [] (fun _ _=>by kernel_rfl) (fun _ _=>by kernel_rfl)
noncomputable def zg6:FS:=mkF 254 [.v .s, .v .s] (.tu (.cons (.v .s) (.cons (.v .b) .nil))) (fun x=>zcj x.1 x.2.1) [zg8] [] (fun _ _=>by kernel_rfl) (fun _ _=>by kernel_rfl)
noncomputable def zjq:FS:=mkF 236 [.v .s, .v .s] (.tu (.cons (.v .s) (.cons (.v .b) .nil))) (fun x=>zdv x.1 x.2.1) [zg6] [] (fun _ _=>by kernel_rfl) (fun _ _=>by kernel_rfl)
noncomputable def zjA:FS:=mkF 255 [.v .s, .v .s] (.tu (.cons (.v .s) (.cons (.v .s) (.cons (.v .b) .nil)))) (fun x=>zck x.1 x.2.1) [zfb] [] (fun _ _=>by kernel_rfl) (fun _ _=>by kernel_rfl)
noncomputable def zuI:FS:=mkF 237 [.v .s, .v .s] (.tu (.cons (.v .s) (.cons (.v .s) (.cons (.v .b) .nil)))) (fun x=>zfu x.1 x.2.1) [zjA] [] (fun _ _=>by kernel_rfl) (fun _ _=>by kernel_rfl)
noncomputable def zjT:FS:=mkF 208 [.v (.st 2), .v .s, .v .s] (.tu (.cons (.v .s) (.cons (.v .s) (.cons (.v .b) .nil)))) (fun x=>zcw x.1 x.2.1 x.2.2.1) [zhb,zjq,zuI,zmS] [] (fun _ _=>by kernel_rfl) (fun _ _=>by kernel_rfl)
noncomputable def zd5:FS:=mkF 168 [.v (.st 2), .v .s, .v (.l (.st 0))] (.v (.l .s)) (fun x=>zb3 x.1 x.2.1 x.2.2.1) [zjT] [.sp [.i .i64, .l .s], .inl] (fun _ _=>by kernel_rfl) (fun _ _=>by kernel_rfl)
noncomputable def zri:FS:=mkF 293 [.v .s, .v .s] (.v (.i .i64)) (fun x=>zgI x.1 x.2.1) [zfb] [] (fun _ _=>by kernel_rfl) (fun _ _=>by kernel_rfl)
noncomputable def znE:FS:=mkF 284 [.v .s, .v .s, .v (.i .i64), .v (.i .i64)] (.v (.l .s)) (fun x=>zgS x.1 x.2.1 x.2.2.1 x.2.2.2.1) [zoX,zri,zrw] [.pt, .sp [.s, .i .i64, .l .s]] (fun _ _=>by kernel_rfl) (fun _ _=>by kernel_rfl)
noncomputable def zrG:FS:=mkF 269 [.v .s, .v .s] (.v (.l .s)) (fun x=>zfr x.1 x.2.1) [znE] [] (fun _ _=>by kernel_rfl) (fun _ _=>by kernel_rfl)
noncomputable def zlj:FS:=mkF 256 [.v (.st 2), .v (.st 0)] (.tu (.cons (.v (.st 4)) (.cons (.v .b) .nil))) (fun x=>zdy x.1 x.2.1) [zjq,zrG,ziI,zgJ] [] (fun _ _=>by kernel_rfl) (fun _ _=>by kernel_rfl)
noncomputable def zlB:FS:=mkF 240 [.v (.st 2), .v (.l (.st 0))] (.v (.l (.st 4))) (fun x=>zfk x.1 x.2.1) [zlj] [.sp [.i .i64, .l (.st 4)], .inl] (fun _ _=>by kernel_rfl) (fun _ _=>by kernel_rfl)
noncomputable def zik:FS:=mkF 210 [.v (.st 2), .v .s, .v (.l (.st 0))] (.v (.l .s)) (fun x=>zcA x.1 x.2.1 x.2.2.1) [zlB,zh3] [.sp [.i .i64, .l .s]] (fun _ _=>by kernel_rfl) (fun _ _=>by kernel_rfl)
noncomputable def zfT:FS:=mkH 238 [.v (.l .s), .fn [.s] .b] (.v (.l .s)) (fun x=>zfj x.1 (fun y=>x.2.1.φ (y,()))) fun x r hp h=>ziH (f:=238) (t:=zBG 217 1 false (.fld (.idx (.var 5) (.var 4)) 0 1 false) [] (.str (ByteArray.mk #[]))) (by kernel_rfl) (by kernel_rfl) (zyV (av:=(zif tab.av .s)) (fun x=>⟨zl2 _ x,zgk (by kernel_rfl) x,(fun e=>nomatch e),fun _=>rfl⟩) (by decide) (fun a b c d j ys x tl hj=>by simp [AV.nth,hj,zif,tAv]) (fun a b c d j ys x hj=>by simp [AV.nth,hj,zif,tAv]) h (fun i hi=>zdr.ok x i hp hi) (fun y b hb=>hp.2.1 (y,()) b hb))
noncomputable def zpI:FS:=mkF 239 [.v .s, .rf (.l .s)] (.v .b) (fun x=>ziG x.1 x.2.1) [zdB] [] (fun _ _=>by kernel_rfl) (fun _ _=>by kernel_rfl)
noncomputable def zoz:FS:=mkP zpI fun _=>by kernel_rfl
noncomputable def zmO:FS:=mkF 209 [.v (.l .s), .v (.l .s)] (.v (.l .s)) (fun x=>zfR x.1 x.2.1) [zd8,zfT,zoz] [] (fun _ _=>by kernel_rfl) (fun _ _=>by kernel_rfl)
noncomputable def zki:FS:=mkF 169 [.v (.st 2), .v .s, .v (.l (.st 0))] (.v (.l .s)) (fun x=>zcP x.1 x.2.1 x.2.2.1) [zd5,zik,zmO] [] (fun _ _=>by kernel_rfl) (fun _ _=>by kernel_rfl)
noncomputable def zlo:FS:=mkF 170 [.v (.st 2), .v .s, .v (.l (.st 0))] (.v (.l .s)) (fun x=>ze5 x.1 x.2.1 x.2.2.1) [zik,zd5,zmO] [] (fun _ _=>by kernel_rfl) (fun _ _=>by kernel_rfl)
noncomputable def zlk:FS:=mkF 127 [.v (.st 2), .v .s, .v (.i .i64), .v (.l (.st 0))] (.v .b) (fun x=>zdx x.1 x.2.1 x.2.2.1 x.2.2.2.1) [zd5,zki,zlo] [] (fun _ _=>by kernel_rfl) (fun _ _=>by kernel_rfl)
noncomputable def zl3:FS:=mkF 84 [.v (.st 3)] (.v .b) (fun x=>zdN x.1) [znj,zlk] [] (fun _ _=>by kernel_rfl) (fun _ _=>by kernel_rfl)
noncomputable def zjG:FS:=mkF 52 [.v (.st 3), .v (.st 6)] (.v .b) (fun x=>zgO x.1 x.2.1) [zgd,zkM,zl3] [] (fun _ _=>by kernel_rfl) (fun _ _=>by kernel_rfl)
noncomputable def zsk:FS:=mkF 18 [.v (.st 3), .v (.st 6)] (.tu (.cons (.v .b) (.cons (.v .b) .nil))) (fun x=>zmH x.1 x.2.1) [zjg,zjG] [] (fun _ _=>by kernel_rfl) (fun _ _=>by kernel_rfl)
noncomputable def zij:FS:=mkF 4 [.v (.st 3), .v (.st 6)] (.v .b) (fun x=>zh0 x.1 x.2.1) [zj0,zhi,zj8,zhg,zsE,zsk,zj2,zhn] [] (fun _ _=>by kernel_rfl) (fun _ _=>by kernel_rfl)
noncomputable def znV:FS:=mkF 19 [.v (.l (.st 6)), .v (.i .i64)] (.v (.i .i64)) (fun x=>zfc x.1 x.2.1) [zhi] [.sp [.i .i64, .i .i64]] (fun _ _=>by kernel_rfl) (fun _ _=>by kernel_rfl)
noncomputable def znA:FS:=mkF 21 [.v (.l (.st 6))] (.v (.l (.st 6))) (fun x=>zb9 x.1) [zhg] [.sp [.i .i64, .l (.st 6)]] (fun _ _=>by kernel_rfl) (fun _ _=>by kernel_rfl)
noncomputable def zsr:FS:=mkF 54 [.v (.st 3), .v (.l (.st 6)), .v .b] (.tu (.cons (.v (.st 3)) (.cons (.v (.l .b)) .nil))) (fun x=>zmK x.1 x.2.1 x.2.2.1) [zmR,zlN,zom] [.sp [.l .b, .i .i64, .s, .l (.st 2), .l (.i .i64), .l (.st 0)], .inl] (fun _ _=>by kernel_rfl) (fun _ _=>by kernel_rfl)
noncomputable def zpP:FS:=mkF 20 [.v (.st 3), .v (.l (.st 6)), .v .b] (.tu (.cons (.v (.st 3)) (.cons (.v (.l .b)) (.cons (.v .b) .nil)))) (fun x=>zk8 x.1 x.2.1 x.2.2.1) [zld,znK,zsr] [] (fun _ _=>by kernel_rfl) (fun _ _=>by kernel_rfl)
noncomputable def zpF:FS:=mkF 22 [.v (.st 3), .v (.l (.st 6)), .v .b] (.tu (.cons (.v (.st 3)) (.cons (.v (.l .b)) (.cons (.v .b) .nil)))) (fun x=>ziF x.1 x.2.1 x.2.2.1) [zk7,zlg,zfP,zjG,zgd] [.sp [.i .i64, .s, .l (.st 2), .l (.i .i64), .l (.st 0), .l .b], .inl] (fun _ _=>by kernel_rfl) (fun _ _=>by kernel_rfl)
noncomputable def zsx:FS:=mkF 23 [.v (.l .b), .v (.l .b)] (.v .b) (fun x=>zeY x.1 x.2.1) [] [.sp [.i .i64]] (fun _ _=>by kernel_rfl) (fun _ _=>by kernel_rfl)
noncomputable def zn9:FS:=mkF 24 [.v (.l (.st 6)), .v (.l (.st 6))] (.v .b) (fun x=>zfa x.1 x.2.1) [zhn] [.sp [.i .i64]] (fun _ _=>by kernel_rfl) (fun _ _=>by kernel_rfl)
end Go.Proofs.YtfkblfjloegahaaGreatDoor
end
section
namespace Go.Proofs.YtfkblfjloegahaaGreatDoor
open Go.RowKit
set_option maxRecDepth 100000
set_option maxHeartbeats 4000000
noncomputable def zmA:FS:=mkF 25 [.v (.l (.st 6)), .v (.i .i64)] (.tu (.cons (.v (.i .i64)) (.cons (.v (.l (.st 6))) .nil))) (fun x=>zfF x.1 x.2.1) [zg2] [.sp [.i .i64, .i .i64, .l (.st 6)]] (fun _ _=>by kernel_rfl) (fun _ _=>by kernel_rfl)
noncomputable def zpK:FS:=mkF 26 [.v (.l .b), .v (.i .i64)] (.tu (.cons (.v (.i .i64)) (.cons (.v (.l .b)) .nil))) (fun x=>zit x.1 x.2.1) [] [.sp [.i .i64, .i .i64, .l .b]] (fun _ _=>by kernel_rfl) (fun _ _=>by kernel_rfl)
noncomputable def zpX:FS:=mkF 27 [.v (.l .b), .v (.i .i64)] (.v (.i .i64)) (fun x=>zf1 x.1 x.2.1) [] [.sp [.i .i64, .i .i64]] (fun _ _=>by kernel_rfl) (fun _ _=>by kernel_rfl)
noncomputable def zgy:FS:=mkF 5 [.v (.st 3), .v (.l (.st 6)), .v .b] (.v .b) (fun x=>zgG x.1 x.2.1 x.2.2.1) [zj0,znV,zj8,znA,zpP,zpF,zj2,zsx,zn9,zle,zmA,zpK,zla,zpX] [] (fun _ _=>by kernel_rfl) (fun _ _=>by kernel_rfl)
end Go.Proofs.YtfkblfjloegahaaGreatDoor
end
section
namespace Go.Proofs.YtfkblfjloegahaaGreatDoor
open Go.RowKit
set_option maxRecDepth 100000
theorem zkP (a0:zaf) (a1:zad) (r:Bool) (h:zc7 a0 a1=some r):Rts Tryz.prog sgs 3 [zqX a0,zja a1] (.bool r):=zgr.ok (a0,a1,()) r (by simp [zgr,mkF,zwc,zD2]) h
theorem zu4 (a0:zaf) (a1:zad) (r:Bool) (h:zh0 a0 a1=some r):Rts Tryz.prog sgs 4 [zqX a0,zja a1] (.bool r):=zij.ok (a0,a1,()) r (by simp [zij,mkF,zwc,zD2]) h
theorem ztZ (a0:zaf) (a1:List zad) (a2:Bool) (r:Bool) (h:zgG a0 a1 a2=some r):Rts Tryz.prog sgs 5 [zqX a0, .sl (a1.map zja), .bool a2] (.bool r):=zgy.ok (a0,a1,a2,()) r (by simp [zgy,mkF,zwc,zD2]) h
end Go.Proofs.YtfkblfjloegahaaGreatDoor
end
section
namespace Go.Proofs.YtfkblfjloegahaaGreatDoor
open Go.RowKit
set_option maxRecDepth 100000
abbrev Str:=List UInt8
def inB (a b c:Int):Bool:=decide (a≥b)&&decide (a≤c)
theorem zbs {a b c:Int}:inB a b c=true↔b≤a∧a≤c:=by simp [inB]
@[simp] theorem zlC (a b c:Int):zbC a b c=some (inB a b c):=rfl
@[simp] theorem zhM (a b c:Int):zbc a b c=some (inB a b c):=rfl
def zfS (b:UInt8):Bool:=(decide ((b.toNat:Int)≥97)&&decide ((b.toNat:Int)≤122))||(decide ((b.toNat:Int)≥48)&&decide ((b.toNat:Int)≤57))
def zjm (s more:Str):Bool:=s.all fun b=>zfS b||more.contains b
theorem zE5 {a b:UInt8}:((a.toNat:Int)==(b.toNat:Int))=(a==b):=by
 rw [Bool.eq_iff_iff]
 simp only [beq_iff_eq]
 constructor
 ·intro h;exact UInt8.toNat_inj.1 (by omega)
 ·rintro rfl;rfl
theorem zvW {α:Type} (xs:List α) (p:α→Bool) (q:Nat→Bool) (h: ∀(i:Nat) (hi:i<xs.length),q i=p xs[i]):(List.range xs.length).all q=xs.all p:=by
 rw [Bool.eq_iff_iff]
 simp only [List.all_eq_true,List.mem_range]
 constructor
 ·intro hq x hx
  obtain⟨i,hi,rfl⟩:=List.getElem_of_mem hx
  rw [←h i hi];exact hq i hi
 ·intro hp i hi
  rw [h i hi];exact hp _ (List.getElem_mem hi)
theorem zkz {α β:Type} {xs:List α} {body:Int→Option (Int ⊕ Option β)} (p:α→Bool) (b:β) (fin:Option β)
  (hs: ∀(i:Nat) (hi:i<xs.length),body i=some (if p xs[i]=true then .inl ((i+1:Nat):Int)else .inr (some b))) (he:body xs.length=some (.inr fin)):zal body 0=if xs.all p=true then fin else some b:=by
 rw [zic (n:=xs.length) (fun i=>match xs[i]? with|some x=>p x|none=>true) b fin (fun i hi=>by rw [hs i hi];simp [hi]) he,
  zvW xs p _ fun i hi=>by simp [hi]]
theorem zqS {s more:Str} (h1:s.length≤2000000) (h2:more.length≤2000000):zeZ s more=some (zjm s more):=by
 unfold zeZ
 rw [zkz (xs:=s) (fun b=>zfS b||more.contains b) false (some true) ?_ (by simp [zhj])]
 ·unfold zjm
  cases(s.all fun b=>zfS b||more.contains b)<;>rfl
 ·intro i hi
  have hin:zal (fun t:Bool × Int=>zec more i s[i] t.1 t.2) (zfS s[i],0)=some (if(zfS s[i]||more.contains s[i])=true then .inl ((i+1:Nat):Int)else .inr (some false)):=by
   have hl:=zob (xs:=more) (body:=fun t:Bool × Int=>zec more i s[i] t.1 t.2) (fun k (ok:Bool)=>(ok,k)) (fun b ok=>some (.inl (ok||s[i]==b))) (fun ok=>zhD i ok)
    (fun k hk ok=>by
     simp only [zec,Int.ofNat_lt,hk,decide_true,if_true,zac hk,Option.bind_some,zaI hk (by omega:more.length≤_),zE5,zuy]
     cases ok<;>simp) (fun ok=>by simp [zec]) (zfS s[i])
   rw [zA3 (fun ok b=>ok||s[i]==b) (fun _=>True) (fun _ _ _ _=>trivial) (fun _ _ _ _=>rfl) trivial]at hl
   have hf: ∀(l:Str) (ok:Bool),l.foldl (fun ok b=>ok||s[i]==b) ok=(ok||l.contains s[i]):=by
    intro l
    induction l with
    |nil=>intro ok;simp
    |cons c l ih=>intro ok;rw [List.foldl_cons,ih,List.contains_cons,Bool.or_assoc]
   rw [hl,hf]
   unfold zhD
   rw [zaI hi (by omega)]
   cases(zfS s[i]||more.contains s[i])<;>rfl
  simp only [zhj,Int.ofNat_lt,hi,decide_true,if_true,zac hi,Option.bind_some]
  exact hin
theorem ztV (l:Str) (c:UInt8):decide (Lib.indexByte l c<0)= !l.contains c:=by
 induction l with
 |nil=>rfl
 |cons b l ih=>
  unfold Lib.indexByte
  have hge:=Lib.indexByte_ge l c
  rw [List.contains_cons]
  by_cases hb:b=c
  ·subst hb;simp
  ·have h1:(b==c)=false:=by simpa using hb
   have h2:(c==b)=false:=by simpa using fun h=>hb h.symm
   rw [h1,h2]
   simp only [Bool.false_eq_true,if_false,Bool.false_or]
   rw [←ih]
   by_cases hm:Lib.indexByte l c= -1
   ·simp [hm]
   ·have h3:(Lib.indexByte l c== -1)=false:=by simpa using hm
    rw [h3]
    simp only [Bool.false_eq_true,if_false]
    rw [decide_eq_decide]
    omega
theorem zoF {s more:Str} (h1:s.length≤2000000):zed s more=some (zjm s more):=by
 unfold zed
 rw [zkz (xs:=s) (fun b=>zfS b||more.contains b) false (some true) ?_ (by simp [zgv])]
 ·unfold zjm
  cases(s.all fun b=>zfS b||more.contains b)<;>rfl
 ·intro i hi
  have hu:((s[i].toNat:Int)).toNat.toUInt8=s[i]:=by simp
  simp only [zgv,Int.ofNat_lt,hi,decide_true,if_true,zac hi,Option.bind_some,zfp,zgf,zbm,hu,ztV,zaI hi (by omega:s.length≤_)]
  rw [show((decide ((s[i].toNat:Int)≥97)&&decide ((s[i].toNat:Int)≤122))||(decide ((s[i].toNat:Int)≥48)&&decide ((s[i].toNat:Int)≤57)))=zfS s[i]from rfl]
  cases zfS s[i]<;>cases more.contains s[i]<;>rfl
def zcF (s:Str):Bool:=inB s.length 1 12&&zjm s [46,47]
def zgZ (s:Str):Bool:=decide ((s.length:Int)≤24)&&zjm s [46,45,44,95]
theorem zCz {s:Str} (h:s.length≤2000000):zid s=some (zcF s):=by
 simp only [zid,zlC,Option.bind_some,zqS h (more:= [46,47]) (by decide),zcF]
 cases inB s.length 1 12<;>simp
theorem zFy {s:Str} (h:s.length≤2000000):zhL s=some (zcF s):=by
 simp only [zhL,zhM,Option.bind_some,zoF h,zcF]
 cases inB s.length 1 12<;>simp
theorem zAI {s:Str} (h:s.length≤2000000):zh6 s=some (zgZ s):=by
 simp only [zh6,Option.bind_some,zqS h (more:= [46,45,44,95]) (by decide),zgZ]
 by_cases hl:(s.length:Int)≤24<;>simp [hl]
theorem zEN {s:Str} (h:s.length≤2000000):zhJ s=some (zgZ s):=by
 simp only [zhJ,Option.bind_some,zoF h,zgZ]
 by_cases hl:(s.length:Int)≤24<;>simp [hl]
def zkp (v:Str) (zv9:Bool):Bool:=zgZ v&&(!zv9||v== [])
theorem zzu {v:Str} {zv9:Bool} (h:v.length≤2000000):zgE v zv9=some (zkp v zv9):=by
 simp only [zgE,zEN h,Option.bind_some,zkp,bne]
 cases zgZ v<;>cases zv9<;>cases(v== [])<;>rfl
theorem zCu {k v:Str} {zv9:Bool} (hk:k.length≤2000000) (hv:v.length≤2000000):zhI k v zv9=some (zcF k&&zkp v zv9):=by
 simp only [zhI,zCz hk,zAI hv,Option.bind_some,zkp]
 cases zcF k<;>simp
def zfX (ks:List Str) (i:Nat):Bool:=i==0||Op.bytesLess ((ks[i-1]?).getD []) ((ks[i]?).getD [])
def zmX (ks:List Str):Bool:=(List.range ks.length).all (zfX ks)
theorem zuM: ∀(a b:Str),(Op.bytesLess a b||a==b)= !Op.bytesLess b a
 | [], []=>rfl
 | [],_::_=>rfl
 |_::_, []=>rfl
 |x::a,y::b=>by
  have ih:=zuM a b
  simp only [Op.bytesLess]
  rcases Nat.lt_trichotomy x.toNat y.toNat with h|h|h
  ·have h1:x<y:=UInt8.lt_iff_toNat_lt.2 h
   have h2: ¬y<x:=fun h'=>by have:=UInt8.lt_iff_toNat_lt.1 h';omega
   have h3: ¬y=x:=fun h'=>by subst h';omega
   simp [h1,h2,h3]
  ·have h0:x=y:=UInt8.toNat_inj.1 h
   subst h0
   have h1: ¬x<x:=fun h'=>by have:=UInt8.lt_iff_toNat_lt.1 h';omega
   rw [show((x::a)==(x::b))=(a==b) by simp]
   simp only [h1,decide_false,Bool.false_or,beq_self_eq_true,Bool.true_and]
   exact ih
  ·have h1: ¬x<y:=fun h'=>by have:=UInt8.lt_iff_toNat_lt.1 h';omega
   have h2:y<x:=UInt8.lt_iff_toNat_lt.2 h
   have h3: ¬x=y:=fun h'=>by subst h';omega
   simp [h1,h2,h3]
theorem zuA {i:Nat} (h0:0<i) (h:i≤2000000):IntKind.i64.wrap ((i:Int)-1)=((i-1:Nat):Int):=by
 rw [zaD (by omega) (by omega)];omega
theorem zAi {α:Type} (xs:List α) (p:α→Bool) (q r:Nat→Bool) (h: ∀(i:Nat) (hi:i<xs.length),r i=(p xs[i]&&q i)):(List.range xs.length).all r=(xs.all p&&(List.range xs.length).all q):=by
 rw [←zvW xs p (fun i=>match xs[i]? with|some x=>p x|none=>true) fun i hi=>by simp [hi]]
 rw [Bool.eq_iff_iff]
 simp only [Bool.and_eq_true,List.all_eq_true,List.mem_range]
 constructor
 ·intro hr
  exact⟨fun i hi=>by have:=hr i hi;rw [h i hi,Bool.and_eq_true]at this;simpa [hi]using this.1,fun i hi=>by have:=hr i hi;rw [h i hi,Bool.and_eq_true]at this;exact this.2⟩
 ·rintro⟨h1,h2⟩ i hi
  rw [h i hi,Bool.and_eq_true]
  exact⟨by have:=h1 i hi;simpa [hi]using this,h2 i hi⟩
theorem zwq {ks:List Str} (h:ks.length≤2000000) (hk: ∀k∈ks,k.length≤2000000):zf5 ks=some (ks.all zcF&&zmX ks):=by
 unfold zf5 zmX
 rw [zic (n:=ks.length) (fun i=>zcF ((ks[i]?).getD [])&&zfX ks i) false (some true) ?_ (by simp [zf9]),zAi ks zcF (zfX ks) _ fun i hi=>by simp [hi]]
 ·cases(ks.all zcF&&(List.range ks.length).all (zfX ks))<;>rfl
 ·intro i hi
  simp only [zf9,Int.ofNat_lt,hi,decide_true,if_true,zac hi,Option.bind_some,zFy (hk _ (List.getElem_mem hi)),zaI hi (by omega:ks.length≤_),List.getElem?_eq_getElem hi,Option.getD_some,zfX]
  by_cases h0:i=0
  ·subst h0
   cases zcF ks[0]<;>simp
  ·have hp:(i:Int)>0:=by omega
   have hi1:i-1<ks.length:=by omega
   have hb:(i==0)=false:=by simpa using h0
   simp only [hp,decide_true,if_true,zuA (Nat.pos_of_ne_zero h0) (by omega:i≤2000000),zac hi1,Option.bind_some,zuM,List.getElem?_eq_getElem hi1,Option.getD_some,hb,Bool.false_or]
   cases zcF ks[i]<;>cases Op.bytesLess ks[i-1] ks[i]<;>rfl
theorem zwU {l:List zaa} (h:l.length≤2000000):zf3 l=some (l.map (·.fKey)):=by
 have h1:=zbY (xs:=l) (body:=fun s:Int × List Str=>zcv l s.1 s.2) (fun i (o:List Str)=>(i,o)) (fun o w=>o++ [w.fKey]) (fun o=>some o) (fun q o=>o.length=q)
  (fun i hi o hI=>by
   refine⟨?_,by simp [hI]⟩
   show zcv l i o=_
   unfold zcv
   have hr:((o.length:Int)+(([l[i].fKey]:List Str).length:Int))*16≤140737488355328∧(o.length:Int)+(([l[i].fKey]:List Str).length:Int)≤140737488355328:=by
    rw [List.length_singleton,hI];omega
   rw [if_pos (by simpa using hi),zac hi,Option.bind_some,zae hr,zaI hi (by omega)]) (fun o _=>by
   show zcv l l.length o=_
   unfold zcv
   rw [if_neg (by simp)]) (s:= []) rfl
 have hf: ∀(l:List zaa) (o:List Str),l.foldl (fun o w=>o++ [w.fKey]) o=o++l.map (·.fKey):=by
  intro l
  induction l with
  |nil=>intro o;simp
  |cons w l ih=>intro o;rw [List.foldl_cons,ih];simp
 have h2:=h1.1
 rw [hf,List.nil_append]at h2
 unfold zf3
 exact h2
def zia (w:zaa):Bool:=zcF w.fKey&&zkp w.fVal w.fGone
def zd4 (l:List zaa):Bool:=decide ((l.length:Int)≤24)&&(l.all zia&&zmX (l.map (·.fKey)))
def zpi (l:List zaa):Prop:=l.length≤2000000∧ ∀w∈l,w.fKey.length≤2000000∧w.fVal.length≤2000000
theorem zAe {l:List zaa} (h:zpi l):zfs l=some (zd4 l):=by
 have e1:zaT l (fun y0_=>zet y0_)=some (l.any fun w=> !zkp w.fVal w.fGone):=zqA _ (fun w hw=>by simp [zet,zzu (h.2 w hw).2]) (by have:=h.1;omega)
 have e2:=zwq (ks:=l.map (·.fKey)) (by simpa using h.1) (by simp only [List.mem_map];rintro k ⟨w,hw,rfl⟩;exact(h.2 w hw).1)
 simp only [zfs,zwU h.1,e1,e2,Option.bind_some,zd4,←List.not_all_eq_any_not]
 have e3:l.all zia=((l.map (·.fKey)).all zcF&&l.all fun w=>zkp w.fVal w.fGone):=by
  rw [Bool.eq_iff_iff]
  simp only [List.all_eq_true,Bool.and_eq_true,zia,List.mem_map]
  constructor
  ·intro h;exact⟨by rintro k ⟨w,hw,rfl⟩;exact(h w hw).1,fun w hw=>(h w hw).2⟩
  ·rintro⟨h1,h2⟩ w hw;exact⟨h1 _ ⟨w,hw,rfl⟩,h2 w hw⟩
 rw [e3]
 generalize (l.map (·.fKey)).all zcF=b1
 generalize zmX (l.map (·.fKey))=b2
 generalize (l.all fun w=>zkp w.fVal w.fGone)=b3
 by_cases hl:(l.length:Int)≤24<;>cases b1<;>cases b2<;>cases b3<;>simp [hl]
theorem zAs {l:List zaa} (h:zpi l):zgz l=some (zd4 l):=by
 unfold zgz
 have hn:=h.1
 rw [zic (n:=l.length) (fun i=>zia ((l[i]?).getD ⟨[], [],false⟩)&&zfX (l.map (·.fKey)) i) false (zgq l) ?_ (by simp [zg4]),zAi l zia (zfX (l.map (·.fKey))) _ fun i hi=>by simp [hi]]
 ·unfold zgq zd4 zmX
  rw [List.length_map]
  cases(l.all zia&&(List.range l.length).all (zfX (l.map (·.fKey))))<;>simp
 ·intro i hi
  have hm:=h.2 _ (List.getElem_mem hi)
  simp only [zg4,Int.ofNat_lt,hi,decide_true,if_true,zac hi,Option.bind_some,zCu hm.1 hm.2,zaI hi (by omega:l.length≤_),List.getElem?_eq_getElem hi,Option.getD_some,zfX,List.getElem?_map,Option.map_some]
  rw [show(zcF l[i].fKey&&zkp l[i].fVal l[i].fGone)=zia l[i]from rfl]
  by_cases h0:i=0
  ·subst h0
   cases zia l[0]<;>simp
  ·have hp:(i:Int)>0:=by omega
   have hi1:i-1<l.length:=by omega
   have hb:(i==0)=false:=by simpa using h0
   simp only [hp,decide_true,if_true,zuA (Nat.pos_of_ne_zero h0) (by omega:i≤2000000),zac hi1,Option.bind_some,List.getElem?_eq_getElem hi1,Option.map_some,Option.getD_some,hb,Bool.false_or]
   cases zia l[i]<;>cases Op.bytesLess l[i-1].fKey l[i].fKey<;>rfl
def zda (l:List zaa):Bool:=zd4 l&&l.all fun w=> !w.fGone
theorem zDt {l:List zaa} (h:zpi l):zi7 l=some (zda l):=by
 have e1:zaT l (fun y0_=>zgR y0_)=some (l.any fun w=> !!w.fGone):=zqA _ (fun w hw=>by simp [zgR]) (by have:=h.1;omega)
 simp only [zi7,zAe h,e1,Option.bind_some,zda,←List.not_all_eq_any_not]
 cases zd4 l<;>simp
theorem zrk {l:List zaa} (h:zpi l):zc6 l=some (zda l):=by
 have hn:=h.1
 unfold zc6
 rw [zkz (xs:=l) (fun w=> !w.fGone) false (zix l) (fun i hi=>by
  simp only [ziw,Int.ofNat_lt,hi,decide_true,if_true,zac hi,Option.bind_some,zaI hi (by omega:l.length≤_)]
  cases l[i].fGone<;>rfl) (by simp [ziw])]
 simp only [zix,zAs h,Option.bind_some,zda]
 cases(l.all fun w=> !w.fGone)<;>simp
end Go.Proofs.YtfkblfjloegahaaGreatDoor
end
section
namespace Go.Proofs.YtfkblfjloegahaaGreatDoor
open Go.RowKit
set_option maxRecDepth 100000
def small (b:UInt8):Bool:= !(decide ((b.toNat:Int)<97)||decide ((b.toNat:Int)>122))
def zcC (s:Str) (n:Int):Bool:=s.all small&&inB s.length 1 n
theorem zoy {s:Str} {n:Int} (h:s.length≤2000000):zdf s n=some (zcC s n):=by
 unfold zdf
 rw [zkz (xs:=s) small false (zfG s n) (fun i hi=>by
  simp only [zfE,Int.ofNat_lt,hi,decide_true,if_true,zac hi,Option.bind_some,zaI hi (by omega:s.length≤_)]
  rw [show(decide ((s[i].toNat:Int)<97)||decide ((s[i].toNat:Int)>122))= !small s[i] by simp [small]]
  cases small s[i]<;>rfl) (by simp [zfE])]
 unfold zfG zcC inB
 cases s.all small<;>simp
theorem zoU {s:Str} {n:Int} (h:s.length≤2000000):zdd s n=some (zcC s n):=by
 unfold zdd
 rw [zkz (xs:=s) small false (zfI s n) (fun i hi=>by
  simp only [zfJ,Int.ofNat_lt,hi,decide_true,if_true,zac hi,Option.bind_some,zaI hi (by omega:s.length≤_)]
  rw [show(decide ((s[i].toNat:Int)<97)||decide ((s[i].toNat:Int)>122))= !small s[i] by simp [small]]
  cases small s[i]<;>rfl) (by simp [zfJ])]
 simp only [zfI,zhM,Option.bind_some,zcC]
 cases s.all small<;>simp
theorem zEH {xs:List Str} {s:Str} (h:xs.length≤2000000):zh2 xs s=some (zio (· ==s) xs):=by
 unfold zh2
 refine ztG (· ==s) (fun i hi=> ?_) (by simp [zjk])
 simp only [zjk,Int.ofNat_lt,hi,decide_true,if_true,zac hi,Option.bind_some,zaI hi (by omega:xs.length≤_)]
 cases xs[i]==s<;>rfl
theorem zA1 {xs:List Str} {s:Str} (h:xs.length≤2000000):zbw xs s=some (zio (· ==s) xs):=by
 unfold zbw
 refine ztG (· ==s) (fun i hi=> ?_) (by simp [zb4])
 simp only [zb4,Int.ofNat_lt,hi,decide_true,if_true,zac hi,Option.bind_some,zaI hi (by omega:xs.length≤_)]
 rw [show(s==xs[i])=(xs[i]==s)from BEq.comm]
 cases xs[i]==s<;>rfl
theorem zAy (xs:List Str) (s:Str):(xs.any fun x=>x==s)=xs.contains s:=by
 rw [List.contains_eq_any_beq]
 congr 1
 funext x
 exact BEq.comm
theorem zCA {xs:List Str} {s:Str} (h:xs.length≤2000000):zaL xs s=some (xs.contains s):=by
 simp only [zaL,zA1 h,Option.bind_some,zma,zAy]
def zwe (cs:List Str) (i:Nat):Bool:=zcC ((cs[i]?).getD []) 3&& !(cs.take i).contains ((cs[i]?).getD [])
def zrx (cs:List Str):Bool:=(List.range cs.length).all (zwe cs)
def zou (t:zab) (i:Nat):Bool:=
 let x:=(t.fIdxs[i]?).getD ⟨[],0,0⟩
 zcC x.fName 1&&inB x.fCol 1 ((t.fCols.length:Int)-1)&&inB x.fStage 0 3&&(i==0||Op.bytesLess ((t.fIdxs[i-1]?).getD ⟨[],0,0⟩).fName x.fName)
def zau (t:zab):Bool:=zcC t.fName 1&&(zrx t.fCols&&inB t.fCols.length 2 4)&&decide ((t.fIdxs.length:Int)≤3)&&(List.range t.fIdxs.length).all (zou t)
structure zc3 (t:zab):Prop where
 name:t.fName.length≤2000000
 cols:t.fCols.length≤2000000
 col: ∀c∈t.fCols,c.length≤2000000
 idxs:t.fIdxs.length≤2000000
 idx: ∀x∈t.fIdxs,x.fName.length≤2000000
theorem zDv {α:Type} (xs:List α) (i:Nat):zfM xs 0 i=xs.take i:=by simp [zfM]
theorem zDL {cs:List Str} (h:cs.length≤2000000) (hc: ∀c∈cs,c.length≤2000000):zhT cs=some (zrx cs&&inB cs.length 2 4):=by
 unfold zhT
 rw [zic (n:=cs.length) (zwe cs) false (zhs cs) ?_ (by simp [zhv])]
 ·simp only [zhs,zlC,Option.bind_some,zrx]
  cases(List.range cs.length).all (zwe cs)<;>simp
 ·intro i hi
  unfold zhv zwe
  rw [if_pos (by simpa using hi),zac hi,Option.bind_some,zoy (hc _ (List.getElem_mem hi)),Option.bind_some,zae (by omega),zDv,zEH (by rw [List.length_take];omega),Option.bind_some,zma,zAy,zaI hi (by omega)]
  simp only [List.getElem?_eq_getElem hi,Option.getD_some]
  cases zcC cs[i] 3<;>cases(cs.take i).contains cs[i]<;>rfl
theorem znU {t:zab} (h:zc3 t):zci t=some (zau t):=by
 have hw:=zaD (n:=(t.fCols.length:Int)-1) (by omega) (by have:=h.cols;omega)
 have hn:=h.idxs
 have hl:zal (fun s:Int=>zev t s) 0=some ((List.range t.fIdxs.length).all (zou t)):=by
  rw [zic (n:=t.fIdxs.length) (zou t) false (some true) ?_ (by simp [zev])]
  ·cases(List.range t.fIdxs.length).all (zou t)<;>rfl
  ·intro i hi
   unfold zou
   simp only [zev,Int.ofNat_lt,hi,decide_true,if_true,zac hi,Option.bind_some,zoy (h.idx _ (List.getElem_mem hi)),zlC,hw,zaI hi (by omega:t.fIdxs.length≤_),List.getElem?_eq_getElem hi,Option.getD_some]
   by_cases h0:i=0
   ·subst h0
    cases zcC t.fIdxs[0].fName 1<;>cases inB t.fIdxs[0].fCol 1 ((t.fCols.length:Int)-1)<;>cases inB t.fIdxs[0].fStage 0 3<;>rfl
   ·have hp:(i:Int)>0:=by omega
    have hi1:i-1<t.fIdxs.length:=by omega
    have hb:(i==0)=false:=by simpa using h0
    simp only [hp,decide_true,if_true,zuA (Nat.pos_of_ne_zero h0) (by omega:i≤2000000),zac hi1,Option.bind_some,List.getElem?_eq_getElem hi1,Option.getD_some,hb,Bool.false_or]
    cases zcC t.fIdxs[i].fName 1<;>cases inB t.fIdxs[i].fCol 1 ((t.fCols.length:Int)-1)<;>cases inB t.fIdxs[i].fStage 0 3<;>cases Op.bytesLess t.fIdxs[i-1].fName t.fIdxs[i].fName<;>rfl
 unfold zci zau
 rw [zoy h.name,Option.bind_some,zDL h.cols h.col,hl]
 by_cases hk:(t.fIdxs.length:Int)≤3
 ·have hk': ¬(t.fIdxs.length:Int)>3:=by omega
  simp only [hk,hk',decide_true,decide_false,Bool.or_false,Bool.and_true]
  cases zcC t.fName 1<;>cases(zrx t.fCols&&inB t.fCols.length 2 4)<;>simp
 ·have hk':(t.fIdxs.length:Int)>3:=by omega
  simp only [hk,hk',decide_true,decide_false,Bool.or_true,Bool.and_false,Bool.false_and]
  cases zcC t.fName 1<;>simp
theorem zBp {t:zab} (h:zc3 t):zfW t=some (zau t):=by
 have hw:=zaD (n:=(t.fCols.length:Int)-1) (by omega) (by have:=h.cols;omega)
 have hn:=h.idxs
 have hm:=h.cols
 have hl:zal (fun s:Int=>zez t s) 0=some ((List.range t.fIdxs.length).all (zou t)):=by
  rw [zic (n:=t.fIdxs.length) (zou t) false (some true) ?_ (by simp [zez])]
  ·cases(List.range t.fIdxs.length).all (zou t)<;>rfl
  ·intro i hi
   unfold zou
   simp only [zez,zjY,Int.ofNat_lt,hi,decide_true,if_true,zac hi,Option.bind_some,zoU (h.idx _ (List.getElem_mem hi)),zhM,hw,zaI hi (by omega:t.fIdxs.length≤_),List.getElem?_eq_getElem hi,Option.getD_some]
   by_cases h0:i=0
   ·subst h0
    cases zcC t.fIdxs[0].fName 1<;>cases inB t.fIdxs[0].fCol 1 ((t.fCols.length:Int)-1)<;>cases inB t.fIdxs[0].fStage 0 3<;>rfl
   ·have hp:(i:Int)>0:=by omega
    have hi1:i-1<t.fIdxs.length:=by omega
    have hb:(i==0)=false:=by simpa using h0
    simp only [hp,decide_true,if_true,zuA (Nat.pos_of_ne_zero h0) (by omega:i≤2000000),zac hi1,Option.bind_some,List.getElem?_eq_getElem hi1,Option.getD_some,hb,Bool.false_or,zuM]
    cases zcC t.fIdxs[i].fName 1<;>cases inB t.fIdxs[i].fCol 1 ((t.fCols.length:Int)-1)<;>cases inB t.fIdxs[i].fStage 0 3<;>cases Op.bytesLess t.fIdxs[i-1].fName t.fIdxs[i].fName<;>rfl
 have hc:zal (fun s:Int=>zeF t s) 0=some (zrx t.fCols&&(List.range t.fIdxs.length).all (zou t)):=by
  rw [zic (n:=t.fCols.length) (zwe t.fCols) false (zf8 t) ?_ (by simp [zeF])]
  ·unfold zf8 zrx
   rw [hl]
   cases(List.range t.fCols.length).all (zwe t.fCols)<;>simp
  ·intro i hi
   unfold zeF zwe
   rw [if_pos (by simpa using hi),zac hi,Option.bind_some,zoU (h.col _ (List.getElem_mem hi)),Option.bind_some,zae (by omega),zDv,zCA (by rw [List.length_take];omega),Option.bind_some,zaI hi (by omega)]
   simp only [List.getElem?_eq_getElem hi,Option.getD_some]
   cases zcC t.fCols[i] 3<;>cases(t.fCols.take i).contains t.fCols[i]<;>rfl
 unfold zfW zau
 rw [zoU h.name,Option.bind_some,zhM,Option.bind_some,hc]
 by_cases hk:(t.fIdxs.length:Int)≤3
 ·have hk': ¬(t.fIdxs.length:Int)>3:=by omega
  simp only [hk,hk',decide_true,decide_false,Bool.or_false,Bool.and_true]
  cases zcC t.fName 1<;>cases zrx t.fCols<;>cases inB t.fCols.length 2 4<;>simp
 ·have hk':(t.fIdxs.length:Int)>3:=by omega
  simp only [hk,hk',decide_true,decide_false,Bool.or_true,Bool.and_false,Bool.false_and]
  cases zcC t.fName 1<;>simp
theorem zq0 {t:zab} {s:Str} (h:zc3 t):zbv t s=some (zio (fun x:zbI=>x.fName==s) t.fIdxs):=by
 have hn:=h.idxs
 unfold zbv
 refine ztG (fun x:zbI=>x.fName==s) (fun i hi=> ?_) (by simp [zis])
 simp only [zis,Int.ofNat_lt,hi,decide_true,if_true,zac hi,Option.bind_some,zaI hi (by omega:t.fIdxs.length≤_)]
 cases t.fIdxs[i].fName==s<;>rfl
theorem zvb {t:zab} {s:Str} (h:zc3 t):zbL t s=some (zio (fun x:zbI=>x.fName==s) t.fIdxs):=by
 have hn:=h.idxs
 have e:zbq t.fIdxs (fun y0_=>zen y0_ s)=some (zio (fun x:zbI=>x.fName==s) t.fIdxs):=zvZ (fun x:zbI=>x.fName==s) (fun x _=>rfl) (by omega)
 simp only [zbL,e,Option.bind_some]
end Go.Proofs.YtfkblfjloegahaaGreatDoor
end
section
namespace Go.Proofs.YtfkblfjloegahaaGreatDoor
open Go.RowKit
set_option maxRecDepth 100000
def zbz (c:UInt8):Str→List Str
 | []=> [[]]
 |b::s=>if b=c then []::zbz c s else(match zbz c s with| []=> [[b]]|x::xs=>(b::x)::xs)
theorem zqk (c:UInt8) (s:Str):zbz c s≠ []:=by
 cases s with
 |nil=>simp [zbz]
 |cons b s=>simp only [zbz];split;simp;split<;>simp
theorem zhf {c:UInt8}: ∀{s:Str},(∀b∈s,b≠c)→zbz c s= [s]
 | [],_=>rfl
 |b::s,h=>by
  have e:=zhf (c:=c) (s:=s) fun x hx=>h x (List.mem_cons_of_mem _ hx)
  simp only [zbz,if_neg (h b (by simp)),e]
theorem zjo {c:UInt8}: ∀{p q:Str},(∀b∈p,b≠c)→zbz c (p++c::q)=p::zbz c q
 | [],q,_=>by simp [zbz]
 |b::p,q,h=>by
  have e:=zjo (c:=c) (p:=p) (q:=q) fun x hx=>h x (List.mem_cons_of_mem _ hx)
  simp only [List.cons_append,zbz,if_neg (h b (by simp)),e]
theorem zml (c:UInt8) (s:Str):(zbz c s).length=s.count c+1:=by
 induction s with
 |nil=>rfl
 |cons b s ih=>
  simp only [zbz]
  by_cases h:b=c
  ·subst h;simp [ih]
  ·rw [if_neg h,List.count_cons_of_ne h]
   cases hs:zbz c s with
   |nil=>exact absurd hs (zqk c s)
   |cons x xs=>rw [hs]at ih;simpa using ih
theorem zDU {α:Type} (xs:List α) (i j:Nat):zfM xs (i:Int) (j:Int)=(xs.take j).drop i:=by simp [zfM]
def zGc (c:UInt8) (s:Str) (t:List Str × Nat) (i:Nat):List Str × Nat:=if(s[i]?).getD 0=c then(t.1++ [(s.take i).drop t.2],i+1)else t
theorem zxr {s:Str} {c:UInt8} (h:s.length≤2000000):zdX s c.toNat=some (zbz c s):=by
 have h1:=zbY (xs:=List.range s.length) (body:=fun t:List Str × Int × Int=>zdh s c.toNat t.1 t.2.1 t.2.2) (fun i (t:List Str × Nat)=>(t.1,(t.2:Int),i)) (zGc c s) (fun t=>zhk s t.2 t.1)
  (fun i t=>t.2≤i∧(∀b∈(s.take i).drop t.2,b≠c)∧t.1++zbz c (s.drop t.2)=zbz c s∧t.1.length≤i)
  (fun i hi t hI=>by
   rw [List.length_range]at hi
   obtain⟨I1,I2,I3,I4⟩:=hI
   have hw:=zaI hi (by omega:s.length≤_)
   rw [List.getElem_range]
   constructor
   ·show zdh s c.toNat t.1 t.2 i=_
    unfold zdh zGc
    rw [if_pos (by simpa using hi),zac hi,Option.bind_some,zE5,hw,zDU,List.getElem?_eq_getElem hi,Option.getD_some]
    by_cases hc:s[i]=c
    ·have hr:((t.1.length:Int)+(([(s.take i).drop t.2]:List Str).length:Int))*16≤140737488355328∧(t.1.length:Int)+(([(s.take i).drop t.2]:List Str).length:Int)≤140737488355328:=by
      rw [List.length_singleton];omega
     rw [if_pos (by simpa using hc),zae (by omega),zae hr,if_pos hc]
    ·rw [if_neg (by simpa using hc),if_neg hc]
   ·unfold zGc
    rw [List.getElem?_eq_getElem hi,Option.getD_some]
    have htk:s.take (i+1)=s.take i++ [s[i]]:=by rw [List.take_succ_eq_append_getElem hi]
    have hd:(s.take (i+1)).drop t.2=(s.take i).drop t.2++ [s[i]]:=by
     rw [htk,List.drop_append_of_le_length (by rw [List.length_take];omega)]
    by_cases hc:s[i]=c
    ·rw [if_pos hc]
     refine⟨Nat.le_refl _,by simp, ?_,by simp;omega⟩
     have e:s.drop t.2=(s.take i).drop t.2++c::s.drop (i+1):=by
      have e0:s.drop t.2=(s.take i).drop t.2++s.drop i:=by
       conv=>lhs;rw [←List.take_append_drop i s]
       rw [List.drop_append_of_le_length (by rw [List.length_take];omega)]
      rw [e0,List.drop_eq_getElem_cons hi,hc]
     rw [e,zjo I2]at I3
     simpa using I3
    ·rw [if_neg hc]
     refine⟨by omega, ?_,I3,by omega⟩
     rw [hd]
     intro b hb
     rcases List.mem_append.1 hb with hb|hb
     ·exact I2 b hb
     ·simp at hb;subst hb;exact hc)
  (fun t hI=>by
   show zdh s c.toNat t.1 t.2 ((List.range s.length).length:Nat)=_
   unfold zdh
   rw [if_neg (by simp)]) (s:=([],0)) ⟨Nat.le_refl _,by simp,by simp,by simp⟩
 generalize (List.range s.length).foldl (zGc c s) ([],0)=t at h1
 rw [List.length_range]at h1
 obtain⟨h2,I1,I2,I3,I4⟩:=h1
 unfold zdX
 refine Eq.trans h2 ?_
 unfold zhk
 have hw:zfM s (t.2:Int) (s.length:Int)=s.drop t.2:=by rw [zDU,List.take_length]
 have hr:((t.1.length:Int)+(([s.drop t.2]:List Str).length:Int))*16≤140737488355328∧(t.1.length:Int)+(([s.drop t.2]:List Str).length:Int)≤140737488355328:=by
  rw [List.length_singleton];omega
 rw [hw,zae (by omega),zae hr,←I3]
 rw [List.take_length]at I2
 rw [zhf I2]
theorem zg0 (l:Str) (c:UInt8):(Lib.indexByte l c= -1∧ ∀b∈l,b≠c)∨ ∃p q:Str,l=p++c::q∧(∀b∈p,b≠c)∧Lib.indexByte l c=p.length:=by
 induction l with
 |nil=>exact .inl ⟨rfl,by simp⟩
 |cons b l ih=>
  unfold Lib.indexByte
  by_cases hb:b=c
  ·subst hb
   exact .inr ⟨[],l,by simp,by simp,by simp⟩
  ·have h1:(b==c)=false:=by simpa using hb
   rw [h1]
   simp only [Bool.false_eq_true,if_false]
   rcases ih with⟨e,h⟩|⟨p,q,rfl,h,e⟩
   ·refine .inl ⟨by simp [e],fun x hx=> ?_⟩
    rcases List.mem_cons.1 hx with rfl|hx
    ·exact hb
    ·exact h x hx
   ·refine .inr ⟨b::p,q,by simp,fun x hx=> ?_, ?_⟩
    ·rcases List.mem_cons.1 hx with rfl|hx
     ·exact hb
     ·exact h x hx
    ·rw [e]
     have:((p.length:Int)== -1)=false:=by rw [beq_eq_false_iff_ne];omega
     rw [this]
     simp
theorem ztl {c:UInt8} {s:Str} (h: ∀b∈s,b≠c):s.count c=0:=List.count_eq_zero.2 fun hc=>h c hc rfl
theorem zCo {c:UInt8} {p q:Str} (h: ∀b∈p,b≠c):(p++c::q).count c=q.count c+1:=by
 rw [List.count_append,ztl h,List.count_cons_self];omega
theorem zuV {α:Type} {a:List α} {i:Nat} (x:α) (h:i<a.length):(a.set i x).take (i+1)=a.take i++ [x]:=by
 rw [List.take_succ_eq_append_getElem (by simpa using h),List.getElem_set_self,List.take_set,List.set_eq_of_length_le (by rw [List.length_take];omega)]
theorem zFf {a b:Int} (h: ¬a<b):(bif decide (a<b)then a else b)=b:=by simp [h]
theorem zBf {s:Str} {c:UInt8} (h:s.length≤2000000):zfr s [c]=some (zbz c s):=by
 have hcl:s.count c≤s.length:=List.count_le_length
 have hw1:IntKind.i64.wrap ((s.count c:Int)+1)=(s.count c:Int)+1:=zaD (by omega) (by omega)
 have hw2:IntKind.i64.wrap ((s.length:Int)+1)=(s.length:Int)+1:=zaD (by omega) (by omega)
 have hbif:(bif decide ((s.length:Int)+1<(s.count c:Int)+1)then(s.length:Int)+1 else(s.count c:Int)+1)=(s.count c:Int)+1:=zFf (by omega)
 have hw3:IntKind.i64.wrap ((s.count c:Int)+1-1)=(s.count c:Int):=by rw [zaD (by omega) (by omega)];omega
 have key: ∀(n:Nat) (r:Str) (a:List Str) (i:Nat),r.count c=n→r.length≤s.length→a.length=s.count c+1→i+n=s.count c→a.take i++zbz c r=zbz c s→
   zal (fun t:Str × Int × List Str=>zbZ s [c] 0 ((s.count c:Int)+1) t.1 t.2.1 t.2.2) (r,(i:Int),a)=some (zbz c s):=by
  intro n
  induction n with
  |zero=>
   intro r a i hr hl ha hi hI
   have hr0: ∀b∈r,b≠c:=fun b hb e=>by subst e;exact List.count_eq_zero.1 hr hb
   have hia:i<a.length:=by omega
   have hwi:=zaI hia (by omega)
   have hb:zbZ s [c] 0 ((s.count c:Int)+1) r i a=some (.inr (some (zbz c s))):=by
    unfold zbZ
    rw [hw2,hbif,hw3,if_neg (by simp;omega)]
    unfold zfl
    rw [zac hia,Option.bind_some,hwi,Int.toNat_natCast,zae (by rw [List.length_set];omega),zDv,zuV r hia,←hI,zhf hr0]
   rw [zaP]
   dsimp only
   rw [hb]
  |succ n ih=>
   intro r a i hr hl ha hi hI
   rcases zg0 r c with⟨_,h0⟩|⟨p,q,rfl,hp,hx⟩
   ·rw [ztl h0]at hr;omega
   ·rw [zCo hp]at hr
    have hia:i<a.length:=by omega
    have hwi:=zaI hia (by omega)
    simp only [List.length_append,List.length_cons]at hl
    have hv0:IntKind.i64.wrap ((p.length:Int)+0)=(p.length:Int):=by rw [zaD (by omega) (by omega)];omega
    have hv1:IntKind.i64.wrap ((p.length:Int)+(([c]:Str).length:Int))=((p.length+1:Nat):Int):=by rw [List.length_singleton,zaD (by omega) (by omega)];omega
    have hb:zbZ s [c] 0 ((s.count c:Int)+1) (p++c::q) i a=some (.inl (q,((i+1:Nat):Int),a.set i p)):=by
     unfold zbZ
     have hidx:zgI (p++c::q) [c]=some (p.length:Int):=by simp [zgI,zaV,hx]
     rw [hw2,hbif,hw3,if_pos (by simp;omega),hidx,Option.bind_some,if_neg (by simp),hv0,zae (by rw [List.length_append];omega),zac hia,Option.bind_some,hv1,zae (by rw [List.length_append,List.length_cons];omega),hwi,Int.toNat_natCast,zDU,zDv,List.take_length]
     have e1:(p++c::q).drop (p.length+1)=q:=by simp
     have e2:(p++c::q).take p.length=p:=by simp
     rw [e1,e2]
    rw [zaP]
    dsimp only
    rw [hb]
    refine ih q (a.set i p) (i+1) (by omega) (by omega) (by simpa using ha) (by omega) ?_
    rw [zuV p hia,←hI,zjo hp]
    simp
 have hc1:zgt s [c]=some ((s.count c:Nat):Int):=rfl
 have hz:(((-1:Int))==0)=false:=rfl
 have hne:(([c]:Str)==([]:Str))=false:=rfl
 unfold zfr zgS
 rw [hz,hne,if_neg (by simp),if_neg (by simp),if_pos (by simp),hc1,Option.bind_some,hw1]
 unfold zfo
 rw [hw2,hbif,zae (by omega)]
 exact zDe (key (s.count c) s (List.replicate ((s.count c:Int)+1).toNat []) 0 rfl (Nat.le_refl _) (by simp) (by omega) (by simp))
end Go.Proofs.YtfkblfjloegahaaGreatDoor
end
section
namespace Go.Proofs.YtfkblfjloegahaaGreatDoor
open Go.RowKit
set_option maxRecDepth 100000
def field (s:Str):Bool:=inB s.length 1 3&&zjm s []
theorem zuB {s:Str} (h:s.length≤2000000):zef s=some (field s):=by
 simp only [zef,zlC,Option.bind_some,zqS h (more:= []) (by decide),field]
 cases inB s.length 1 3<;>simp
theorem zp3 {s:Str} (h:s.length≤2000000):zeT s=some (field s):=by
 simp only [zeT,zhM,Option.bind_some,zoF h,field]
 cases inB s.length 1 3<;>simp
theorem zyX (sep x y:Str) (r:List Str):Lib.join (x::(r++ [y])) sep=Lib.join (x::r) sep++sep++y:=by
 rw [Lib.join_cons,Lib.join_cons]
 simp [Lib.joinTail]
theorem zzs {xs:List Str} {sep:Str} {i:Nat} (hi:i<xs.length):Lib.join (xs.take (i+1)) sep=if i=0 then xs[i]else Lib.join (xs.take i) sep++sep++xs[i]:=by
 rw [List.take_succ_eq_append_getElem hi]
 cases xs with
 |nil=>simp at hi
 |cons x xs=>
  cases i with
  |zero=>simp [Lib.join_cons,Lib.joinTail]
  |succ i=>
   rw [List.take_succ_cons,List.cons_append,zyX,if_neg (by omega)]
def zel:List Str→Nat
 | []=>0
 |x::xs=>x.length+zel xs
theorem zuN (xs:List Str) (sep:Str):(Lib.join xs sep).length≤zel xs+xs.length*sep.length:=by
 cases xs with
 |nil=>simp [Lib.join_nil]
 |cons x xs=>
  rw [Lib.join_cons,List.length_append]
  have: ∀r:List Str,(Lib.joinTail sep r).length=zel r+r.length*sep.length:=by
   intro r
   induction r with
   |nil=>simp [Lib.joinTail,zel]
   |cons y r ih=>
    have e:Lib.joinTail sep (y::r)=sep++y++Lib.joinTail sep r:=by simp [Lib.joinTail]
    rw [e,List.length_append,List.length_append,ih,zel,List.length_cons,Nat.succ_mul]
    omega
  rw [this,zel,List.length_cons,Nat.succ_mul]
  omega
theorem zwV (xs:List Str) (i:Nat):zel (xs.take i)≤zel xs:=by
 induction xs generalizing i with
 |nil=>simp [zel]
 |cons x xs ih=>
  cases i with
  |zero=>simp [zel]
  |succ i=>simp only [List.take_succ_cons,zel];have:=ih i;omega
theorem zs7 {xs:List Str} {i:Nat} (hi:i<xs.length):xs[i].length≤zel xs:=by
 induction xs generalizing i with
 |nil=>simp at hi
 |cons x xs ih=>
  cases i with
  |zero=>simp [zel]
  |succ i=>simp only [List.getElem_cons_succ,zel];have:=ih (i:=i) (by simpa using hi);omega
def Small (xs:List Str):Prop:=xs.length≤2000000∧zel xs≤2000000
theorem zDX {xs:List Str} {c:UInt8} (h:Small xs):zj9 xs [c]=some (Lib.join xs [c]):=by
 obtain⟨h1,h2⟩:=h
 have hl:=zbY (xs:=List.range xs.length) (body:=fun s:Str × Int=>zdj xs [c] s.1 s.2) (fun i (o:Str)=>(o,i)) (fun o i=>if i=0 then(xs[i]?).getD []else o++ [c]++(xs[i]?).getD []) (fun o=>some o) (fun i o=>o=Lib.join (xs.take i) [c])
  (fun i hi o hI=>by
   rw [List.length_range]at hi
   rw [List.getElem_range]
   have hI:o=Lib.join (xs.take i) [c]:=hI
   have hlen:o.length≤1010000000:=by
    have e1:=zuN (xs.take i) [c]
    have e2:=zwV xs i
    rw [List.length_take,List.length_singleton,Nat.mul_one]at e1
    rw [hI];omega
   have hg:=zs7 hi
   have hw:=zaI hi (by omega:xs.length≤_)
   rw [List.getElem?_eq_getElem hi,Option.getD_some]
   refine⟨?_,by show _=_;rw [zzs hi,hI]⟩
   show zdj xs [c] o i=_
   unfold zdj
   rw [if_pos (by simpa using hi),zac hi,Option.bind_some,hw]
   by_cases h0:i=0
   ·subst h0
    have ho:o= []:=by rw [hI];rfl
    subst ho
    rw [if_neg (by simp),zae (by simp;omega),if_pos rfl];rfl
   ·rw [if_pos (by simp;omega),zae (by rw [List.length_singleton];omega),zae (by rw [List.length_append,List.length_singleton];omega),if_neg h0])
  (fun o _=>by
   show zdj xs [c] o ((List.range xs.length).length:Nat)=_
   unfold zdj
   rw [if_neg (by simp)]) (s:= []) (by simp [Lib.join_nil])
 generalize (List.range xs.length).foldl (fun o i=>if i=0 then(xs[i]?).getD []else o++ [c]++(xs[i]?).getD []) []=o at hl
 obtain⟨h3,h4⟩:=hl
 have h4:o=Lib.join (xs.take (List.range xs.length).length) [c]:=h4
 rw [List.length_range,List.take_length]at h4
 subst h4
 exact h3
theorem zDa {xs:List Str} {c:UInt8} (h:Small xs):zhZ xs [c]=some (Lib.join xs [c]):=by
 obtain⟨h1,h2⟩:=h
 have:=zuN xs [c]
 rw [List.length_singleton,Nat.mul_one]at this
 exact zae ⟨by omega,by omega⟩
end Go.Proofs.YtfkblfjloegahaaGreatDoor
end
section
namespace Go.Proofs.YtfkblfjloegahaaGreatDoor
open Go.RowKit
set_option maxRecDepth 100000
theorem Small.each {xs:List Str} (h:Small xs): ∀x∈xs,x.length≤2000000:=by
 intro x hx
 obtain⟨i,hi,rfl⟩:=List.getElem_of_mem hx
 exact Nat.le_trans (zs7 hi) h.2
def zbB (t:zab) (r:zdu):Bool:=((r.fVals.length:Int)==t.fCols.length)&&r.fVals.all field
theorem zkv {t:zab} {r:zdu} (h:Small r.fVals):zdb t r=some (zbB t r):=by
 have h1:=h.1
 unfold zdb
 rw [zkz (xs:=r.fVals) field false (zhm t r) (fun i hi=>by
  simp only [zhl,Int.ofNat_lt,hi,decide_true,if_true,zac hi,Option.bind_some,zuB (h.each _ (List.getElem_mem hi)),zaI hi (by omega:r.fVals.length≤_)]
  cases field r.fVals[i]<;>rfl) (by simp [zhl])]
 unfold zhm zbB
 cases r.fVals.all field<;>simp
theorem zke {t:zab} {r:zdu} (h:Small r.fVals):zbb t r=some (zbB t r):=by
 have e:zaT r.fVals (fun y0_=>zdz y0_)=some (r.fVals.any fun s=> !field s):=zqA _ (fun s hs=>by simp [zdz,zp3 (h.each s hs)]) (by have:=h.1;omega)
 simp only [zbb,e,Option.bind_some,zbB,←List.not_all_eq_any_not]
 cases((r.fVals.length:Int)==t.fCols.length)<;>simp
def zli (t:zab) (r:zdu):zaa:=⟨t.fName++ [47]++(r.fVals.head?).getD [],Lib.join r.fVals.tail [44],false⟩
theorem zG1 {α:Type} (xs:List α):zfM xs 1 (xs.length:Int)=xs.tail:=by simp [zfM]
theorem Small.tail {xs:List Str} (h:Small xs):Small xs.tail:=by
 cases xs with
 |nil=>exact h
 |cons x xs=>exact⟨by have:=h.1;simp at this ⊢;omega,by have:=h.2;simp only [zel,List.tail_cons]at this ⊢;omega⟩
theorem zuF {t:zab} {r:zdu} (ht:t.fName.length≤2000000) (h:Small r.fVals) (hn:r.fVals≠ []):zdo t r=some (zli t r):=by
 obtain⟨x,xs,hx⟩:=List.exists_cons_of_ne_nil hn
 have hx1:x.length≤2000000:=h.each x (by simp [hx])
 unfold zdo zli
 rw [zae (by rw [List.length_singleton];omega),zG1,zDX h.tail,hx]
 rw [show zaA (x::xs) 0=some x from rfl,Option.bind_some,zae (by rw [List.length_append,List.length_singleton];omega),zae (by simp only [List.length_cons];omega),Option.bind_some]
 rfl
theorem zqG {t:zab} {r:zdu} (ht:t.fName.length≤2000000) (h:Small r.fVals) (hn:r.fVals≠ []):zbt t r=some (zli t r):=by
 obtain⟨x,xs,hx⟩:=List.exists_cons_of_ne_nil hn
 have hx1:x.length≤2000000:=h.each x (by simp [hx])
 unfold zbt zli
 rw [zae (by rw [List.length_singleton];omega),zG1,zDa h.tail,hx]
 rw [show zaA (x::xs) 0=some x from rfl,Option.bind_some,zae (by rw [List.length_append,List.length_singleton];omega),zae (by simp only [List.length_cons];omega),Option.bind_some]
 rfl
theorem zpk (c:UInt8) (s:Str):zel (zbz c s)≤s.length:=by
 induction s with
 |nil=>simp [zbz,zel]
 |cons b s ih=>
  simp only [zbz]
  split
  ·simp only [zel,List.length_nil,List.length_cons];omega
  ·cases hs:zbz c s with
   |nil=>exact absurd hs (zqk c s)
   |cons x xs=>rw [hs]at ih;simp only [zel,List.length_cons]at ih ⊢;omega
theorem zwE {c:UInt8} {s:Str} (h:s.length≤1000000):Small (zbz c s):=by
 have h1:=zml c s
 have h2:s.count c≤s.length:=List.count_le_length
 have h3:=zpk c s
 exact⟨by omega,by omega⟩
theorem zFj {s p:Str} (hs:s.length≤2000000):zdv s p=some (if p.isPrefixOf s=true then(s.drop p.length,true)else(s,false)):=by
 have e:zbn s p=some (p.isPrefixOf s):=by
  unfold zbn
  by_cases hl:p.length≤s.length
  ·rw [if_pos (by simpa using hl),zae (by omega),zDv]
   congr 1
   rw [Bool.eq_iff_iff,beq_iff_eq,List.isPrefixOf_iff_prefix,List.prefix_iff_eq_take]
   exact eq_comm
  ·rw [if_neg (by simpa using hl)]
   congr 1
   symm
   rw [←Bool.not_eq_true,List.isPrefixOf_iff_prefix]
   intro h
   exact hl h.length_le
 unfold zdv zcj
 rw [e,Option.bind_some]
 cases hp:p.isPrefixOf s with
 |false=>simp
 |true=>
  have hl:=(List.isPrefixOf_iff_prefix.1 hp).length_le
  simp only [Bool.not_true,Bool.false_eq_true,if_false,if_true]
  rw [zae (by omega),zDU,List.take_length]
  rfl
end Go.Proofs.YtfkblfjloegahaaGreatDoor
end
section
namespace Go.Proofs.YtfkblfjloegahaaGreatDoor
open Go.RowKit
set_option maxRecDepth 100000
def ztD (a b:zaa):Bool:=a.fKey==b.fKey&&(a.fVal==b.fVal&&(a.fGone==b.fGone))
theorem zyr (a b:zaa):ztD a b=ztD b a:=by
 unfold ztD
 rw [show(a.fKey==b.fKey)=(b.fKey==a.fKey)from BEq.comm,show(a.fVal==b.fVal)=(b.fVal==a.fVal)from BEq.comm,show(a.fGone==b.fGone)=(b.fGone==a.fGone)from BEq.comm]
theorem zzx {a b:zaa} (h:ztD a b=true):a.fKey=b.fKey:=by
 unfold ztD at h
 simp only [Bool.and_eq_true,beq_iff_eq]at h
 exact h.1
def zie (w:zaa):zdu:=⟨w.fKey.drop 2::zbz 44 w.fVal⟩
def zeE (t:zab) (w:zaa):Bool:=zbB t (zie w)&&ztD (zli t (zie w)) w
def zo4 (w:zaa):Prop:=w.fKey.length≤1000∧w.fVal.length≤1000
theorem znd {w:zaa} (h:zo4 w):Small (zie w).fVals:=by
 have h1:=zml 44 w.fVal
 have h2:w.fVal.count 44≤w.fVal.length:=List.count_le_length
 have h3:=zpk 44 w.fVal
 obtain⟨k,v⟩:=h
 refine⟨?_, ?_⟩
 ·show(w.fKey.drop 2::zbz 44 w.fVal).length≤_
  rw [List.length_cons];omega
 ·show zel (w.fKey.drop 2::zbz 44 w.fVal)≤_
  rw [zel,List.length_drop];omega
theorem zzD {t:zab} {w:zaa} (h:zbB t (zie w)=true):3≤w.fKey.length:=by
 unfold zbB zie at h
 simp only [Bool.and_eq_true,List.all_cons,field,zbs,List.length_drop]at h
 omega
theorem zDw {t:zab} {w:zaa} (ht:t.fName.length≤2000000) (h:zo4 w): ∃r,zhH t w=some (r,zeE t w)∧(zeE t w=true→r=zie w):=by
 have hs:=znd h
 have hsp:=zml 44 w.fVal
 have hct:w.fVal.count 44≤w.fVal.length:=List.count_le_length
 obtain⟨hk,hv⟩:=h
 unfold zhH
 by_cases h3:w.fKey.length<3
 ·rw [if_pos (by simp;omega)]
  have:zeE t w=false:=by
   unfold zeE
   cases hg:zbB t (zie w)with
   |false=>rfl
   |true=>have:=zzD hg;omega
  exact⟨_,by rw [this],by rw [this];intro h;cases h⟩
 ·have hw:zfM w.fKey 2 (w.fKey.length:Int)=w.fKey.drop 2:=by
   have:=zDU w.fKey 2 w.fKey.length
   rw [List.take_length]at this
   exact this
  have hsplit:zdX w.fVal 44=some (zbz 44 w.fVal):=zxr (c:=44) (by omega)
  have hr:(([w.fKey.drop 2]:List Str).length+(zbz 44 w.fVal).length:Int)*16≤140737488355328∧(([w.fKey.drop 2]:List Str).length:Int)+(zbz 44 w.fVal).length≤140737488355328:=by
   rw [List.length_singleton];omega
  rw [if_neg (by simp;omega),zae (by omega),hsplit,Option.bind_some,hw,zae hr]
  rw [show(⟨[w.fKey.drop 2]++zbz 44 w.fVal⟩:zdu)=zie w from rfl,zkv hs,Option.bind_some]
  unfold zeE
  cases hg:zbB t (zie w)with
  |false=>exact⟨_,by rw [if_neg (by simp)];rfl,by simp⟩
  |true=>
   rw [if_pos rfl,zuF ht hs (by simp [zie]),Option.bind_some]
   exact⟨zie w,by rw [Bool.true_and];rfl,fun _=>rfl⟩
theorem zEb {t:zab} {w:zaa} (ht:t.fName.length=1) (h:zo4 w): ∃r,zdy t w=some (r,zeE t w)∧(zeE t w=true→r=zie w):=by
 have hs:=znd h
 have hsp:=zml 44 w.fVal
 have hct:w.fVal.count 44≤w.fVal.length:=List.count_le_length
 obtain⟨hk,hv⟩:=h
 unfold zdy
 have hsplit:zfr w.fVal [44]=some (zbz 44 w.fVal):=zBf (by omega)
 rw [zae (by rw [List.length_singleton];omega),zFj (by omega),Option.bind_some,hsplit,Option.bind_some]
 have hr: ∀x:Str,(([x]:List Str).length+(zbz 44 w.fVal).length:Int)*16≤140737488355328∧(([x]:List Str).length:Int)+(zbz 44 w.fVal).length≤140737488355328:=by
  intro x;rw [List.length_singleton];omega
 rw [zae (hr _)]
 cases hp:(t.fName++ [47]).isPrefixOf w.fKey with
 |false=>
  have hno:zeE t w=false:=by
   unfold zeE
   cases hw:ztD (zli t (zie w)) w with
   |false=>simp
   |true=>
    have hkey:=zzx hw
    rw [←Bool.not_eq_true,List.isPrefixOf_iff_prefix]at hp
    exact absurd ⟨_,hkey⟩ hp
  rw [hno]
  exact⟨_,by rw [if_neg (by simp)],by simp⟩
 |true=>
  have hl:(t.fName++ [47]).length=2:=by rw [List.length_append,ht];rfl
  simp only [if_true,hl]
  rw [show(⟨[w.fKey.drop 2]++zbz 44 w.fVal⟩:zdu)=zie w from rfl,zke hs,Option.bind_some]
  unfold zeE
  cases hg:zbB t (zie w)with
  |false=>exact⟨_,by rw [if_neg (by simp)];rfl,by simp⟩
  |true=>
   rw [if_pos rfl,zqG (by omega) hs (by simp [zie]),Option.bind_some]
   rw [show(w.fKey==(zli t (zie w)).fKey&&(w.fVal==(zli t (zie w)).fVal&&w.fGone==(zli t (zie w)).fGone))=ztD w (zli t (zie w))from rfl,zyr]
   cases ztD (zli t (zie w)) w with
   |false=>exact⟨_,by rw [if_pos (by simp)];rfl,by simp⟩
   |true=>exact⟨_,by rw [if_neg (by simp)];rfl,fun _=>rfl⟩
end Go.Proofs.YtfkblfjloegahaaGreatDoor
end
section
namespace Go.Proofs.YtfkblfjloegahaaGreatDoor
open Go.RowKit
set_option maxRecDepth 100000
theorem zjc {α β:Type} (p:α→Bool) (f:α→β) (l:List α) (o:List β):l.foldl (fun o x=>if p x=true then o++ [f x]else o) o=o++(l.filter p).map f:=by
 induction l generalizing o with
 |nil=>simp
 |cons x l ih=>
  rw [List.foldl_cons,ih,List.filter_cons]
  cases p x<;>simp
def rows (t:zab) (l:List zaa):List zdu:=(l.filter (zeE t)).map zie
theorem zBW {t:zab} {l:List zaa} (ht:t.fName.length≤2000000) (hl:l.length≤2000000) (h: ∀w∈l,zo4 w):zjR t l=some (rows t l):=by
 have h1:=zbY (xs:=l) (body:=fun s:List zdu × Int=>zdg t l s.1 s.2) (fun i (o:List zdu)=>(o,i)) (fun o w=>if zeE t w=true then o++ [zie w]else o) (fun o=>some o) (fun i o=>o.length≤i)
  (fun i hi o hI=>by
   have hI:o.length≤i:=hI
   obtain⟨r,e,hr⟩:=zDw ht (h _ (List.getElem_mem hi))
   have hw:=zaI hi (by omega:l.length≤_)
   refine⟨?_,by
    show List.length (if zeE t l[i]=true then o++ [zie l[i]]else o)≤i+1
    split
    ·rw [List.length_append,List.length_singleton];omega
    ·omega⟩
   show zdg t l o i=_
   unfold zdg
   rw [if_pos (by simpa using hi),zac hi,Option.bind_some,e,Option.bind_some,hw]
   cases hb:zeE t l[i]with
   |false=>rfl
   |true=>
    have hq:((o.length:Int)+(([r]:List zdu).length:Int))*24≤140737488355328∧(o.length:Int)+(([r]:List zdu).length:Int)≤140737488355328:=by
     rw [List.length_singleton];omega
    rw [if_pos rfl,zae hq,if_pos rfl,hr hb])
  (fun o _=>by
   show zdg t l o l.length=_
   unfold zdg
   rw [if_neg (by simp)]) (s:= []) (by simp)
 rw [zjc]at h1
 exact h1.1
theorem zBy {t:zab} {l:List zaa} (ht:t.fName.length=1) (hl:l.length≤2000000) (h: ∀w∈l,zo4 w):zfk t l=some (rows t l):=by
 have h1:=zbY (xs:=l) (body:=fun s:Int × List zdu=>zbh t l s.1 s.2) (fun i (o:List zdu)=>(i,o)) (fun o w=>if zeE t w=true then o++ [zie w]else o) (fun o=>some o) (fun i o=>o.length≤i)
  (fun i hi o hI=>by
   have hI:o.length≤i:=hI
   obtain⟨r,e,hr⟩:=zEb ht (h _ (List.getElem_mem hi))
   have hw:=zaI hi (by omega:l.length≤_)
   refine⟨?_,by
    show List.length (if zeE t l[i]=true then o++ [zie l[i]]else o)≤i+1
    split
    ·rw [List.length_append,List.length_singleton];omega
    ·omega⟩
   show zbh t l i o=_
   unfold zbh
   rw [if_pos (by simpa using hi),zac hi,Option.bind_some,e,Option.bind_some,hw]
   cases hb:zeE t l[i]with
   |false=>rfl
   |true=>
    have hq:((o.length:Int)+(([r]:List zdu).length:Int))*24≤140737488355328∧(o.length:Int)+(([r]:List zdu).length:Int)≤140737488355328:=by
     rw [List.length_singleton];omega
    rw [if_pos rfl,zae hq,if_pos rfl,hr hb])
  (fun o _=>by
   show zbh t l l.length o=_
   unfold zbh
   rw [if_neg (by simp)]) (s:= []) (by simp)
 rw [zjc]at h1
 exact h1.1
def head (t:zab) (n:Str):Str:=t.fName++ [46]++n
def zge (t:zab) (n:Str) (k:Str):Bool:=match zbz 47 k with
 | [x,y,z]=>x==head t n&&field y&&field z
 |_=>false
theorem zBo {t:zab} {n k:Str} (ht:t.fName.length≤2000000) (hn:n.length≤2000000) (hk:k.length≤1000000): ∃a b,zeB t n k=some (a,b,zge t n k):=by
 have hsm:=zwE (c:=47) hk
 have he:zdX k 47=some (zbz 47 k):=zxr (c:=47) (by omega)
 unfold zeB zge
 rw [he,Option.bind_some]
 generalize zbz 47 k=ps at hsm
 match ps,hsm with
 | [],_=>exact⟨_,_,by rw [if_pos (by simp)]⟩
 | [_],_=>exact⟨_,_,by rw [if_pos (by simp)]⟩
 | [_,_],_=>exact⟨_,_,by rw [if_pos (by simp)]⟩
 |_::_::_::_::l,_=>exact⟨_,_,by rw [if_pos (by simp;omega)]⟩
 | [x,y,z],hsm=>
  have hy:=hsm.each y (by simp)
  have hz:=hsm.each z (by simp)
  dsimp only
  rw [if_neg (by simp),show zaA [x,y,z] 0=some x from rfl,Option.bind_some,zae (by rw [List.length_singleton];omega),zae (by rw [List.length_append,List.length_singleton];omega)]
  rw [show(t.fName++ [46]++n)=head t n from rfl]
  by_cases hx:x=head t n
  ·rw [if_neg (by simp [hx]),show zaA [x,y,z] 1=some y from rfl,Option.bind_some,zuB hy,Option.bind_some]
   have hx2:(x==head t n)=true:=by simpa using hx
   rw [hx2]
   cases field y with
   |false=>exact⟨_,_,by rw [if_neg (by simp)];rfl⟩
   |true=>
    rw [if_pos rfl,show zaA [x,y,z] 2=some z from rfl,Option.bind_some,zuB hz,Option.bind_some]
    cases field z with
    |false=>exact⟨_,_,by rw [if_pos (by simp)];rfl⟩
    |true=>exact⟨_,_,by rw [if_neg (by simp)];rfl⟩
  ·have hx2:(x==head t n)=false:=by simpa using hx
   rw [hx2]
   exact⟨_,_,by rw [if_pos (by simpa [bne]using hx2)];rfl⟩
end Go.Proofs.YtfkblfjloegahaaGreatDoor
end
section
namespace Go.Proofs.YtfkblfjloegahaaGreatDoor
open Go.RowKit
set_option maxRecDepth 100000
theorem zyh {c:UInt8} {s x y:Str} {r:List Str} (h:zbz c s=x::y::r): ∃q,s=x++c::q:=by
 rcases zg0 s c with⟨_,h0⟩|⟨p,q,rfl,hp,_⟩
 ·rw [zhf h0]at h;simp at h
 ·rw [zjo hp]at h
  obtain⟨rfl,_⟩:=List.cons.inj h
  exact⟨q,rfl⟩
theorem zCW {x:Str} {c:UInt8} (hx:x.length≤2000000):(zfu x [c]=some (x, [],false)∧ ∀b∈x,b≠c)∨ ∃p q,x=p++c::q∧(∀b∈p,b≠c)∧zfu x [c]=some (p,q,true):=by
 have hi:zaV x [c]=some (Lib.indexByte x c):=rfl
 rcases zg0 x c with⟨e,h0⟩|⟨p,q,rfl,hp,e⟩
 ·refine .inl ⟨?_,h0⟩
  unfold zfu zck
  rw [hi,Option.bind_some,e,if_neg (by simp)]
  rfl
 ·refine .inr ⟨p,q,rfl,hp, ?_⟩
  rw [List.length_append,List.length_cons]at hx
  have hw:IntKind.i64.wrap ((p.length:Int)+(([c]:Str).length:Int))=((p.length+1:Nat):Int):=by rw [List.length_singleton,zaD (by omega) (by omega)];omega
  unfold zfu zck
  rw [hi,Option.bind_some,e,if_pos (by simp),zae (by rw [List.length_append,List.length_cons];omega),hw,zae (by rw [List.length_append,List.length_cons];omega),zDv,zDU,List.take_length]
  have e1:(p++c::q).drop (p.length+1)=q:=by simp
  have e2:(p++c::q).take p.length=p:=by simp
  rw [e1,e2]
  rfl
theorem zCi {s:Str} (h:(47:UInt8)∈s):field s=false:=by
 unfold field zjm
 have:(s.all fun b=>zfS b||([]:Str).contains b)=false:=by
  rw [List.all_eq_false]
  exact⟨47,h,by decide⟩
 rw [this,Bool.and_false]
theorem zzR {t:zab} {n:Str} (ht:t.fName.length≤2000000) (hn:n.length≤2000000):zcm t n=some (head t n++ [47]):=by
 unfold zcm head
 rw [zae (by rw [List.length_singleton];omega),zae (by rw [List.length_append,List.length_singleton];omega),zae (by rw [List.length_append,List.length_append,List.length_singleton,List.length_singleton];omega)]
theorem zBK {t:zab} {n k:Str} (ht:t.fName.length≤2000000) (hn:n.length≤2000000) (hk:k.length≤1000000) (hh: ∀b∈head t n,b≠47): ∃a b,zcw t n k=some (a,b,zge t n k):=by
 unfold zcw
 rw [zzR ht hn,Option.bind_some,zFj (by omega),Option.bind_some]
 cases hp:(head t n++ [47]).isPrefixOf k with
 |false=>
  have hno:zge t n k=false:=by
   unfold zge
   split
   ·rename_i x y z hs
    cases hx:x==head t n with
    |false=>simp
    |true=>
     obtain⟨q,hq⟩:=zyh hs
     rw [←Bool.not_eq_true,List.isPrefixOf_iff_prefix]at hp
     refine absurd ⟨q, ?_⟩ hp
     rw [hq,(by simpa using hx:x=head t n)]
     simp
   ·rfl
  rw [hno]
  simp only [Bool.false_eq_true,if_false]
  rcases zCW (x:=k) (c:=47) (by omega)with⟨e,_⟩|⟨p,q,_,_,e⟩
  ·rw [e];exact⟨_,_,rfl⟩
  ·rw [e];exact⟨_,_,rfl⟩
 |true=>
  obtain⟨rest,hrest⟩:=List.isPrefixOf_iff_prefix.1 hp
  have hk2:k=head t n++47::rest:=by rw [←hrest];simp
  have hd:k.drop (head t n++ [47]).length=rest:=by rw [←hrest,List.drop_left]
  have hsp:zbz 47 k=head t n::zbz 47 rest:=by rw [hk2,zjo hh]
  have hlen:rest.length≤1000000:=by
   have:k.length=(head t n).length+(rest.length+1):=by rw [hk2,List.length_append,List.length_cons]
   omega
  simp only [if_true,hd]
  unfold zge
  rw [hsp]
  rcases zCW (x:=rest) (c:=47) (by omega)with⟨e,h0⟩|⟨p,q,rfl,hp2,e⟩
  ·rw [e,zhf h0]
   exact⟨_,_,rfl⟩
  ·rw [e,zjo hp2,Option.bind_some]
   rw [List.length_append,List.length_cons]at hlen
   simp only [if_true]
   rw [zp3 (s:=p) (by omega),Option.bind_some]
   rcases zg0 q 47 with⟨_,h0⟩|⟨p3,q3,rfl,hp3,_⟩
   ·rw [zhf h0]
    dsimp only
    rw [beq_self_eq_true,Bool.true_and]
    cases field p with
    |false=>exact⟨_,_,rfl⟩
    |true=>
     rw [if_pos rfl,zp3 (s:=q) (by omega),Option.bind_some]
     cases field q with
     |false=>exact⟨_,_,rfl⟩
     |true=>exact⟨_,_,rfl⟩
   ·have hf:field (p3++47::q3)=false:=zCi (by simp)
    rw [zjo hp3]
    cases hq:zbz 47 q3 with
    |nil=>exact absurd hq (zqk _ _)
    |cons x xs=>
     dsimp only
     cases field p with
     |false=>exact⟨_,_,rfl⟩
     |true=>
      rw [if_pos rfl,zp3 (by rw [List.length_append,List.length_cons]at hlen ⊢;omega),Option.bind_some,hf]
      exact⟨_,_,rfl⟩
end Go.Proofs.YtfkblfjloegahaaGreatDoor
end
section
namespace Go.Proofs.YtfkblfjloegahaaGreatDoor
open Go.RowKit
set_option maxRecDepth 100000
def ziy (t:zab) (n:Str) (l:List zaa):List Str:=(l.filter fun w=>zge t n w.fKey).map (·.fKey)
theorem zyq {t:zab} {n:Str} {l:List zaa} (ht:t.fName.length≤2000000) (hn:n.length≤2000000) (hl:l.length≤2000000) (h: ∀w∈l,zo4 w):zeg t n l=some (ziy t n l):=by
 have h1:=zbY (xs:=l) (body:=fun s:List Str × Int=>zcf t n l s.1 s.2) (fun i (o:List Str)=>(o,i)) (fun o w=>if zge t n w.fKey=true then o++ [w.fKey]else o) (fun o=>some o) (fun i o=>o.length≤i)
  (fun i hi o hI=>by
   have hI:o.length≤i:=hI
   have htw:=h _ (List.getElem_mem hi)
   obtain⟨a,b,e⟩:=zBo (t:=t) (n:=n) (k:=l[i].fKey) ht hn (by have:=htw.1;omega)
   have hw:=zaI hi (by omega:l.length≤_)
   refine⟨?_,by
    show List.length (if zge t n l[i].fKey=true then o++ [l[i].fKey]else o)≤i+1
    split
    ·rw [List.length_append,List.length_singleton];omega
    ·omega⟩
   show zcf t n l o i=_
   unfold zcf
   rw [if_pos (by simpa using hi),zac hi,Option.bind_some,e,Option.bind_some,hw]
   cases hb:zge t n l[i].fKey with
   |false=>rfl
   |true=>
    have hq:((o.length:Int)+(([l[i].fKey]:List Str).length:Int))*16≤140737488355328∧(o.length:Int)+(([l[i].fKey]:List Str).length:Int)≤140737488355328:=by
     rw [List.length_singleton];omega
    rw [if_pos rfl,zae hq,if_pos rfl])
  (fun o _=>by
   show zcf t n l o l.length=_
   unfold zcf
   rw [if_neg (by simp)]) (s:= []) (by simp)
 rw [zjc (fun w:zaa=>zge t n w.fKey) (fun w=>w.fKey)]at h1
 exact h1.1
theorem zyk {t:zab} {n:Str} {l:List zaa} (ht:t.fName.length≤2000000) (hn:n.length≤2000000) (hh: ∀b∈head t n,b≠47) (hl:l.length≤2000000) (h: ∀w∈l,zo4 w):zb3 t n l=some (ziy t n l):=by
 have h1:=zbY (xs:=l) (body:=fun s:Int × List Str=>za0 t n l s.1 s.2) (fun i (o:List Str)=>(i,o)) (fun o w=>if zge t n w.fKey=true then o++ [w.fKey]else o) (fun o=>some o) (fun i o=>o.length≤i)
  (fun i hi o hI=>by
   have hI:o.length≤i:=hI
   have htw:=h _ (List.getElem_mem hi)
   obtain⟨a,b,e⟩:=zBK (t:=t) (n:=n) (k:=l[i].fKey) ht hn (by have:=htw.1;omega) hh
   have hw:=zaI hi (by omega:l.length≤_)
   refine⟨?_,by
    show List.length (if zge t n l[i].fKey=true then o++ [l[i].fKey]else o)≤i+1
    split
    ·rw [List.length_append,List.length_singleton];omega
    ·omega⟩
   show za0 t n l i o=_
   unfold za0
   rw [if_pos (by simpa using hi),zac hi,Option.bind_some,e,Option.bind_some,hw]
   cases hb:zge t n l[i].fKey with
   |false=>rfl
   |true=>
    have hq:((o.length:Int)+(([l[i].fKey]:List Str).length:Int))*16≤140737488355328∧(o.length:Int)+(([l[i].fKey]:List Str).length:Int)≤140737488355328:=by
     rw [List.length_singleton];omega
    rw [if_pos rfl,zae hq,if_pos rfl])
  (fun o _=>by
   show za0 t n l l.length o=_
   unfold za0
   rw [if_neg (by simp)]) (s:= []) (by simp)
 rw [zjc (fun w:zaa=>zge t n w.fKey) (fun w=>w.fKey)]at h1
 exact h1.1
def zFh (a b:List Str):List Str:=a.filter fun k=> !b.contains k
theorem zAH {a b:List Str} (ha:a.length≤2000000) (hb:b.length≤2000000):zhS a b=some (zFh a b):=by
 have h1:=zbY (xs:=a) (body:=fun s:List Str × Int=>zdi a b s.1 s.2) (fun i (o:List Str)=>(o,i)) (fun o k=>if(!b.contains k)=true then o++ [k]else o) (fun o=>some o) (fun i o=>o.length≤i)
  (fun i hi o hI=>by
   have hI:o.length≤i:=hI
   have hw:=zaI hi (by omega:a.length≤_)
   have hx:decide (zio (fun x=>x==a[i]) b<0)= !b.contains a[i]:=by
    rw [←zAy,←zma,←decide_not]
    rw [decide_eq_decide];omega
   refine⟨?_,by
    show List.length (if(!b.contains a[i])=true then o++ [a[i]]else o)≤i+1
    split
    ·rw [List.length_append,List.length_singleton];omega
    ·omega⟩
   show zdi a b o i=_
   unfold zdi
   rw [if_pos (by simpa using hi),zac hi,Option.bind_some,zEH hb,Option.bind_some,hw,hx]
   cases hc:b.contains a[i]with
   |true=>rfl
   |false=>
    have hq:((o.length:Int)+(([a[i]]:List Str).length:Int))*16≤140737488355328∧(o.length:Int)+(([a[i]]:List Str).length:Int)≤140737488355328:=by
     rw [List.length_singleton];omega
    rw [if_pos (by rfl),zae hq,if_pos (by rfl)])
  (fun o _=>by
   show zdi a b o a.length=_
   unfold zdi
   rw [if_neg (by simp)]) (s:= []) (by simp)
 rw [zjc (fun k:Str=> !b.contains k) (fun k=>k)]at h1
 have h2:=h1.1
 rw [List.nil_append,List.map_id']at h2
 exact h2
theorem zzL {a b:List Str} (ha:a.length≤2000000) (hb:b.length≤2000000):zfR a b=some (zFh a b):=by
 unfold zfR zaY zfj
 rw [zmq (by omega) (by omega),Option.bind_some,zae (by omega),zoH (fun k=>b.contains k) (fun k _=>by simp only [ziG,zCA hb,Option.bind_some])]
 rfl
end Go.Proofs.YtfkblfjloegahaaGreatDoor
end
section
namespace Go.Proofs.YtfkblfjloegahaaGreatDoor
open Go.RowKit
set_option maxRecDepth 100000
structure zh7 (t:zab) (n:Str) (x:zbI):Prop where
 at_:zaA t.fIdxs (zio (fun y:zbI=>y.fName==n) t.fIdxs)=some x
 name:x.fName=n
 c0:1≤x.fCol
 c1:x.fCol≤(t.fCols.length:Int)-1
def zkh (r:zdu) (c:Int):Str:=(r.fVals[c.toNat]?).getD []
def zlp (t:zab) (n:Str) (c:Int) (r:zdu):Str:=head t n++ [47]++zkh r c++ [47]++zkh r 0
structure zuO (t:zab) (r:zdu):Prop where
 len:r.fVals.length=t.fCols.length
 small:Small r.fVals
theorem zz8 {t:zab} {l:List zaa} (h: ∀w∈l,zo4 w): ∀r∈rows t l,zuO t r:=by
 intro r hr
 obtain⟨w,hw,rfl⟩:=List.mem_map.1 hr
 obtain⟨h1,h2⟩:=List.mem_filter.1 hw
 have h3:zeE t w=true:=h2
 unfold zeE zbB at h3
 simp only [Bool.and_eq_true,beq_iff_eq]at h3
 exact⟨by have:=h3.1.1;omega,znd (h w h1)⟩
theorem zqH {t:zab} {r:zdu} (hr:zuO t r) {c:Int} (h0:0≤c) (h1:c≤(t.fCols.length:Int)-1):zaA r.fVals c=some (zkh r c)∧(zkh r c).length≤2000000:=by
 obtain⟨y,e,hm,e2⟩:=zo1 (xs:=r.fVals) h0 (by have:=hr.len;omega)
 have hv:zkh r c=y:=by simp [zkh,e2]
 rw [hv]
 exact⟨e,hr.small.each y hm⟩
theorem zui {t:zab} {n:Str} {x:zbI} {r:zdu} (ht:t.fName.length≤2000000) (hn:n.length≤2000000) (hx:zh7 t n x) (hr:zuO t r):zej t x r=some (zlp t n x.fCol r):=by
 obtain⟨g1,l1⟩:=zqH hr (c:=x.fCol) (by have:=hx.c0;omega) hx.c1
 obtain⟨g2,l2⟩:=zqH hr (c:=0) (by omega) (by have:=hx.c0;have:=hx.c1;omega)
 have e:=hx.name
 subst e
 unfold zej zlp
 rw [zae (by simp only [head,List.length_append,List.length_cons,List.length_nil];omega),zae (by simp only [head,List.length_append,List.length_cons,List.length_nil];omega),zae (by simp only [head,List.length_append,List.length_cons,List.length_nil];omega),g1,Option.bind_some,
  zae (by simp only [head,List.length_append,List.length_cons,List.length_nil];omega),zae (by simp only [head,List.length_append,List.length_cons,List.length_nil];omega),g2,Option.bind_some,
  zae (by simp only [head,List.length_append,List.length_cons,List.length_nil];omega)]
 rfl
theorem zur {t:zab} {n:Str} {x:zbI} {r:zdu} (hS:zc3 t) (hn:n.length≤2000000) (hx:zh7 t n x) (hr:zuO t r):za3 t n r=some (zlp t n x.fCol r):=by
 obtain⟨g1,l1⟩:=zqH hr (c:=x.fCol) (by have:=hx.c0;omega) hx.c1
 obtain⟨g2,l2⟩:=zqH hr (c:=0) (by omega) (by have:=hx.c0;have:=hx.c1;omega)
 have ht:=hS.name
 have hi:zbD t n=some x:=by
  unfold zbD
  rw [zvb hS,Option.bind_some,hx.at_];rfl
 unfold za3 zlp
 rw [zzR ht hn,Option.bind_some,hi,Option.bind_some,g1,Option.bind_some,zae (by simp only [head,List.length_append,List.length_cons,List.length_nil];omega),zae (by simp only [head,List.length_append,List.length_cons,List.length_nil];omega),g2,Option.bind_some,zae (by simp only [head,List.length_append,List.length_cons,List.length_nil];omega)]
def wanted (t:zab) (n:Str) (x:zbI) (l:List zaa):List Str:=(rows t l).map (zlp t n x.fCol)
theorem zuH (t:zab) (l:List zaa):(rows t l).length≤l.length:=by
 unfold rows
 rw [List.length_map]
 exact List.length_filter_le _ _
theorem zzq {t:zab} {n:Str} {x:zbI} {l:List zaa} (hS:zc3 t) (hn:n.length≤2000000) (hx:zh7 t n x) (hl:l.length≤2000000) (h: ∀w∈l,zo4 w):zeM t n l=some (wanted t n x l):=by
 have hin:=zz8 (t:=t) h
 have hrl:=zuH t l
 unfold zeM
 rw [zBW hS.name hl h,Option.bind_some]
 have h1:=zbY (xs:=rows t l) (body:=fun s:List Str × Int=>zcu t n (rows t l) s.1 s.2) (fun i (o:List Str)=>(o,i)) (fun o r=>o++ [zlp t n x.fCol r]) (fun o=>some o) (fun i o=>o.length=i)
  (fun i hi o hI=>by
   have hI:o.length=i:=hI
   have hw:=zaI hi (by omega)
   refine⟨?_,by show List.length _=_;rw [List.length_append,List.length_singleton];omega⟩
   show zcu t n (rows t l) o i=_
   unfold zcu
   have hq:((o.length:Int)+(([zlp t n x.fCol (rows t l)[i]]:List Str).length:Int))*16≤140737488355328∧(o.length:Int)+(([zlp t n x.fCol (rows t l)[i]]:List Str).length:Int)≤140737488355328:=by
    rw [List.length_singleton];omega
   rw [if_pos (by simpa using hi),zac hi,Option.bind_some,zq0 hS,Option.bind_some,hx.at_,Option.bind_some,zui hS.name hn hx (hin _ (List.getElem_mem hi)),Option.bind_some,zae hq,hw])
  (fun o _=>by
   show zcu t n (rows t l) o (rows t l).length=_
   unfold zcu
   rw [if_neg (by simp)]) (s:= []) rfl
 rw [zon]at h1
 exact h1.1
theorem zzF {t:zab} {n:Str} {x:zbI} {l:List zaa} (hS:zc3 t) (ht:t.fName.length=1) (hn:n.length≤2000000) (hx:zh7 t n x) (hl:l.length≤2000000) (h: ∀w∈l,zo4 w):zcA t n l=some (wanted t n x l):=by
 have hin:=zz8 (t:=t) h
 have hrl:=zuH t l
 unfold zcA
 rw [zBy ht hl h,Option.bind_some]
 have h1:=zbY (xs:=rows t l) (body:=fun s:Int × List Str=>zbi t n (rows t l) s.1 s.2) (fun i (o:List Str)=>(i,o)) (fun o r=>o++ [zlp t n x.fCol r]) (fun o=>some o) (fun i o=>o.length=i)
  (fun i hi o hI=>by
   have hI:o.length=i:=hI
   have hw:=zaI hi (by omega)
   refine⟨?_,by show List.length _=_;rw [List.length_append,List.length_singleton];omega⟩
   show zbi t n (rows t l) i o=_
   unfold zbi
   have hq:((o.length:Int)+(([zlp t n x.fCol (rows t l)[i]]:List Str).length:Int))*16≤140737488355328∧(o.length:Int)+(([zlp t n x.fCol (rows t l)[i]]:List Str).length:Int)≤140737488355328:=by
    rw [List.length_singleton];omega
   rw [if_pos (by simpa using hi),zac hi,Option.bind_some,zur hS hn hx (hin _ (List.getElem_mem hi)),Option.bind_some,zae hq,hw])
  (fun o _=>by
   show zbi t n (rows t l) (rows t l).length o=_
   unfold zbi
   rw [if_neg (by simp)]) (s:= []) rfl
 rw [zon]at h1
 exact h1.1
end Go.Proofs.YtfkblfjloegahaaGreatDoor
end

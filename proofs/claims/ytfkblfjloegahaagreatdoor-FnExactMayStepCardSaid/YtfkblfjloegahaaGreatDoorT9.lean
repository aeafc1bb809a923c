/- Parts of a proof, joined: QE, QT, TF, QF1, QF2, QF3, QF4, QF5, QR, N5, N6, N7, N8, N9, N10, N11, N12, N13, N14. -/
import Derived.Test.YtfkblfjloegahaaGreatDoorT8
section
namespace Go.Proofs.YtfkblfjloegahaaGreatDoor
open Go.RowKit
set_option maxRecDepth 100000
theorem zco {α:Type} {xs:List α} {i:Nat} {x:α} (h:xs[i]?=some x):zaA xs (i:Int)=some x:=by simp [zaA,h]
noncomputable def mt (n:Int):List UInt8:=(zaG n).getD []
theorem zfd {n:Int} (h:n≤4611686018427387904):zaG n=some (mt n):=by
 have key: ∃t,zaG n=some t:=by
  unfold zaG
  by_cases h0:n≤0
  ·rw [if_pos (by simpa using h0)];exact⟨_,rfl⟩
  ·rw [if_neg (by simpa using h0)]
   have go: ∀(f:Nat) (n:Int) (s:List UInt8),n.toNat≤f→0≤n→n+s.length≤4611686018427387905→ ∃t,zak (fun s:Int × List UInt8=>zbG s.1 s.2) (n,s)=some t:=by
    intro f
    have stop: ∀(n:Int) (s:List UInt8),¬n>0→s.length≤4611686018427387905→zak (fun s:Int × List UInt8=>zbG s.1 s.2) (n,s)=some ([109]++s):=fun n s hz hs=>by
     refine zcq (?_:zbG n s=_)
     unfold zbG
     rw [if_neg (by simpa using hz)]
     unfold zjR
     rw [zae (by rw [List.length_singleton];omega)]
    induction f with
    |zero=>
     intro n s hf hn hs
     exact⟨_,stop n s (by omega) (by omega)⟩
    |succ f ih=>
     intro n s hf hn hs
     by_cases hz:n>0
     ·have hd:Int.tdiv n 10<n∧0≤Int.tdiv n 10:=by
       rw [Int.tdiv_eq_ediv_of_nonneg hn];omega
      obtain⟨t,ht⟩:=ih (Int.tdiv n 10) ([(IntKind.u8.wrap (IntKind.i64.wrap ((48:Int)+(Int.tmod n 10))))].map (fun n=>UInt8.ofNat n.toNat)++s) (by omega) (by omega) (by simp only [List.length_append,List.length_map,List.length_singleton];omega)
      have e:zbG n s=some (.inl (Int.tdiv n 10, [(IntKind.u8.wrap (IntKind.i64.wrap ((48:Int)+(Int.tmod n 10))))].map (fun n=>UInt8.ofNat n.toNat)++s)):=by
       unfold zbG
       rw [if_pos (by simpa using hz),zae (by simp),zae (by rw [List.length_map,List.length_singleton];omega),zaC (n:=Int.tdiv n 10) (by omega) (by omega)]
      exact⟨t,(zc8 (body:=fun s:Int × List UInt8=>zbG s.1 s.2) e).trans ht⟩
     ·exact⟨_,stop n s hz (by omega)⟩
   exact go n.toNat n [] (Nat.le_refl _) (by omega) (by simp;omega)
 obtain⟨t,ht⟩:=key
 rw [mt,ht];rfl
def zba (l:List (List UInt8)):Nat:=l.length+(l.map (fun x:List UInt8=>x.length)).sum
theorem zsZ {xs:List (List UInt8)} (h:zba xs≤2000000):zc5 xs=some xs:=by
 have hl:xs.length≤2000000:=by unfold zba at h;omega
 have hx: ∀x∈xs,x.length≤2000000:=fun x hx=>by have:=zfg (tot:=(fun x:List UInt8=>x.length)) hx;unfold zba at h;omega
 unfold zc5
 rw [zae (by omega)]
 exact zob (fun i hi v hv=>by
  show za9 xs i v=_
  unfold za9
  rw [if_pos (by simpa using hi),zac hi,Option.bind_some,zac (by omega),Option.bind_some,zaE hi (by omega)];rfl) (fun v=>by
  show za9 xs _ v=_
  unfold za9
  rw [if_neg (by simp)])
theorem zth {xs:List (List UInt8)} (h:zba xs≤2000000):zc4 xs xs=some true:=by
 have hl:xs.length≤2000000:=by unfold zba at h;omega
 have hx: ∀x∈xs,x.length≤2000000:=fun x hx=>by have:=zfg (tot:=(fun x:List UInt8=>x.length)) hx;unfold zba at h;omega
 unfold zc4
 rw [if_neg (by simp)]
 exact zm1 (n:=xs.length) (fun i hi=>by
  show za8 xs xs i=_
  unfold za8
  rw [if_pos (by simpa using hi),zac hi,Option.bind_some,Option.bind_some,if_neg (by simp),zaE hi (by omega)]) (by
  show za8 xs xs _=_
  unfold za8
  rw [if_neg (by simp)])
theorem zs7 {xs:List (List UInt8)} {a:Int} (h0:0≤a) (h1:a≤1048576) (h:(okL zrT) xs): ∃v,zc1 xs a=some v∧v≤a∧(0≤v→(zba xs:Int)=a-v):=by
 have hl:xs.length≤9223372036854775807:=h.1
 unfold zc1 zba
 rw [zcP h0 h1 hl]
 by_cases h2:a-(xs.length:Int)<0
 ·rw [if_pos (by simpa using h2)];exact⟨-1,rfl,by omega,by omega⟩
 ·rw [if_neg (by simpa using h2)]
  obtain⟨v,e1,e2,e3⟩:=szL (xs:=xs) (body:=fun s:Int × Int=>zaI xs s.1 s.2) (fun x:List UInt8=>x.length) (a:=a-xs.length) (by omega) (by omega) (fun x hx b hb0 hb1=>by
   refine⟨b-(x.length:Int),by omega,fun _=>by show(x.length:Int)=_;omega,fun i hi=> ?_⟩
   have hi':=(List.getElem?_eq_some_iff.1 hi).1
   show zaI xs b i=_
   unfold zaI
   rw [if_pos (by simpa using hi'),zco hi,Option.bind_some,zcP hb0 hb1 (h.2 _ hx),zaE hi' (by omega)]
   by_cases h3:b-(x.length:Int)<0
   ·rw [if_pos (by simpa using h3),if_pos h3]
   ·rw [if_neg (by simpa using h3),if_neg h3]) (fun b=>by
   show zaI xs b _=_
   unfold zaI
   rw [if_neg (by simp)])
  exact⟨v,e1,by omega,fun hv=>by have:=e3 hv;omega⟩
def zaD (l:List (List UInt8)):Nat:=(l.map fun x=>1).sum
theorem zjd (l:List (List UInt8)):zaD l≤64*zba l:=by
 unfold zaD zba
 rw [zlz];omega
set_option maxHeartbeats 1000000 in
theorem zjX {xs:List (List UInt8)} {k:Int} (h0:0≤k) (hk:k+(zaD xs:Nat)≤4611686018427387904) (h:zba xs≤2000000): ∃ys,ys.length=xs.length∧zcQ xs k=some (k+(zaD xs:Nat),ys)∧zgW ys k=some (k+(zaD xs:Nat)):=by
 have hl:xs.length≤2000000:=by unfold zba at h;omega
 refine zoO (cnt:=fun x:(List UInt8)=>1) (mb:=fun s:Int × Int × List (List UInt8)=>zbY s.1 s.2.1 s.2.2) (hb:=fun ys s=>zb3 ys s.1 s.2) 4611686018427387904 h0 hk (fun x hx k h0 hB=> ?_) (fun k v hv=> ?_) (fun k ys hy=> ?_)
 ·have hB:k+((1:Nat):Int)≤4611686018427387904:=hB
  have fin:k+1=k+(((1:Nat)):Int):=by omega
  refine⟨?y,fun i v hv hi=> ?_,fun i ys hy hi=> ?_⟩
  rotate_left
  ·have hi':=(List.getElem?_eq_some_iff.1 hv).1
   show zbY k i v=_
   unfold zbY
   rw [if_pos (by simpa using hi')]
   simp only [zco hv,zaE hi (by omega:xs.length≤_),Int.toNat_natCast,List.set_set,Option.bind_some,(show IntKind.i64.wrap (k+1)=k+1 from zaC (by omega) (by omega)),zfd (n:=k) (by omega)]
   rw [fin]
  ·have hi':=(List.getElem?_eq_some_iff.1 hy).1
   show zb3 ys k i=_
   unfold zb3
   rw [if_pos (by simpa using hi')]
   simp only [zco hy,zaE hi (by omega:xs.length≤_),bne_self_eq_false,Bool.false_eq_true,if_false,Option.bind_some,(show IntKind.i64.wrap (k+1)=k+1 from zaC (by omega) (by omega)),zfd (n:=k) (by omega)]
   rw [fin]
 ·show zbY k _ v=_
  unfold zbY
  rw [if_neg (by simp [hv])]
 ·show zb3 ys k _=_
  unfold zb3
  rw [if_neg (by simp [hy])]
def ziI (x:zbK):Nat:=x.fName.length
theorem zFy {x:zbK} (h:ziI x≤2000000):zjM x=some x:=rfl
theorem zE4 {x:zbK} (h:ziI x≤2000000):zgr x x=some true:=by
 unfold zgr
 simp []
theorem zFz {x:zbK} {a:Int} (h0:0≤a) (h1:a≤1048576) (h:zAg x): ∃v,zgv x a=some v∧v≤a∧(0≤v→(ziI x:Int)=a-v):=by
 unfold zgv ziI
 rw [zcP (a:=a) (by omega) (by omega) h.1]
 by_cases q0:a-(x.fName.length:Int)<0
 ·rw [if_pos (by simpa using q0)];exact⟨-1,rfl,by omega,by omega⟩
 rw [if_neg (by simpa using q0)]
 exact⟨(a-(x.fName.length:Int)),rfl,by omega,fun _=>by omega⟩
def zeF (l:List zbK):Nat:=l.length+(l.map ziI).sum
theorem zDz {xs:List zbK} (h:zeF xs≤2000000):zfG xs=some xs:=by
 have hl:xs.length≤2000000:=by unfold zeF at h;omega
 have hx: ∀x∈xs,ziI x≤2000000:=fun x hx=>by have:=zfg (tot:=ziI) hx;unfold zeF at h;omega
 unfold zfG
 rw [zae (by omega)]
 exact zob (fun i hi v hv=>by
  show zbR xs i v=_
  unfold zbR
  rw [if_pos (by simpa using hi),zac hi,Option.bind_some,zFy (hx _ (List.getElem_mem hi)),Option.bind_some,zac (by omega),Option.bind_some,zaE hi (by omega)];rfl) (fun v=>by
  show zbR xs _ v=_
  unfold zbR
  rw [if_neg (by simp)])
theorem zEr {xs:List zbK} (h:zeF xs≤2000000):zfJ xs xs=some true:=by
 have hl:xs.length≤2000000:=by unfold zeF at h;omega
 have hx: ∀x∈xs,ziI x≤2000000:=fun x hx=>by have:=zfg (tot:=ziI) hx;unfold zeF at h;omega
 unfold zfJ
 rw [if_neg (by simp)]
 exact zm1 (n:=xs.length) (fun i hi=>by
  show zbQ xs xs i=_
  unfold zbQ
  rw [if_pos (by simpa using hi),zac hi,Option.bind_some,Option.bind_some,zE4 (hx _ (List.getElem_mem hi)),Option.bind_some,if_neg (by simp),zaE hi (by omega)]) (by
  show zbQ xs xs _=_
  unfold zbQ
  rw [if_neg (by simp)])
theorem zDk {xs:List zbK} {a:Int} (h0:0≤a) (h1:a≤1048576) (h:(okL zAg) xs): ∃v,zfF xs a=some v∧v≤a∧(0≤v→(zeF xs:Int)=a-v):=by
 have hl:xs.length≤9223372036854775807:=h.1
 unfold zfF zeF
 rw [zcP h0 h1 hl]
 by_cases h2:a-(xs.length:Int)<0
 ·rw [if_pos (by simpa using h2)];exact⟨-1,rfl,by omega,by omega⟩
 ·rw [if_neg (by simpa using h2)]
  obtain⟨v,e1,e2,e3⟩:=szL (xs:=xs) (body:=fun s:Int × Int=>zaO xs s.1 s.2) ziI (a:=a-xs.length) (by omega) (by omega) (fun x hx b hb0 hb1=>by
   obtain⟨r,e1,e2,e3⟩:=zFz (x:=x) hb0 hb1 (h.2 _ hx)
   refine⟨r,e2,e3,fun i hi=> ?_⟩
   have hi':=(List.getElem?_eq_some_iff.1 hi).1
   show zaO xs b i=_
   unfold zaO
   rw [if_pos (by simpa using hi'),zco hi,Option.bind_some,e1,Option.bind_some,zaE hi' (by omega)]
   by_cases h3:r<0
   ·rw [if_pos (by simpa using h3),if_pos h3]
   ·rw [if_neg (by simpa using h3),if_neg h3]) (fun b=>by
   show zaO xs b _=_
   unfold zaO
   rw [if_neg (by simp)])
  exact⟨v,e1,by omega,fun hv=>by have:=e3 hv;omega⟩
def zhY (l:List zbK):Nat:=(l.map fun x=>3).sum
theorem zyC (l:List zbK):zhY l≤64*zeF l:=by
 unfold zhY zeF
 rw [zlz];omega
set_option maxHeartbeats 1000000 in
theorem zAZ {xs:List zbK} {k:Int} (h0:0≤k) (hk:k+(zhY xs:Nat)≤4611686018427387904) (h:zeF xs≤2000000): ∃ys,ys.length=xs.length∧zjA xs k=some (k+(zhY xs:Nat),ys)∧zjH ys k=some (k+(zhY xs:Nat)):=by
 have hl:xs.length≤2000000:=by unfold zeF at h;omega
 refine zoO (cnt:=fun x:zbK=>3) (mb:=fun s:Int × Int × List zbK=>zcU s.1 s.2.1 s.2.2) (hb:=fun ys s=>zcX ys s.1 s.2) 4611686018427387904 h0 hk (fun x hx k h0 hB=> ?_) (fun k v hv=> ?_) (fun k ys hy=> ?_)
 ·have hB:k+((3:Nat):Int)≤4611686018427387904:=hB
  have fin:k+1+1+1=k+(((3:Nat)):Int):=by omega
  refine⟨?y,fun i v hv hi=> ?_,fun i ys hy hi=> ?_⟩
  rotate_left
  ·have hi':=(List.getElem?_eq_some_iff.1 hv).1
   show zcU k i v=_
   unfold zcU
   rw [if_pos (by simpa using hi')]
   simp only [zco hv,zaE hi (by omega:xs.length≤_),Int.toNat_natCast,List.set_set,Option.bind_some,(show IntKind.i64.wrap (k+1)=k+1 from zaC (by omega) (by omega)),(show IntKind.i64.wrap (k+1+1)=k+1+1 from zaC (by omega) (by omega)),(show IntKind.i64.wrap (k+1+1+1)=k+1+1+1 from zaC (by omega) (by omega)),zfd (n:=k) (by omega)]
   rw [fin]
  ·have hi':=(List.getElem?_eq_some_iff.1 hy).1
   show zcX ys k i=_
   unfold zcX
   rw [if_pos (by simpa using hi')]
   simp only [zco hy,zaE hi (by omega:xs.length≤_),bne_self_eq_false,Bool.false_eq_true,if_false,Option.bind_some,(show IntKind.i64.wrap (k+1)=k+1 from zaC (by omega) (by omega)),(show IntKind.i64.wrap (k+1+1)=k+1+1 from zaC (by omega) (by omega)),(show IntKind.i64.wrap (k+1+1+1)=k+1+1+1 from zaC (by omega) (by omega)),zfd (n:=k) (by omega)]
   rw [fin]
 ·show zcU k _ v=_
  unfold zcU
  rw [if_neg (by simp [hv])]
 ·show zcX ys k _=_
  unfold zcX
  rw [if_neg (by simp [hy])]
def zbg (x:zab):Nat:=x.fName.length+zba x.fCols+zeF x.fIdxs
theorem zBW {x:zab} (h:zbg x≤2000000):ze0 x=some x:=by
 unfold ze0
 simp only [zsZ (xs:=x.fCols) (by unfold zbg at h;omega),zDz (xs:=x.fIdxs) (by unfold zbg at h;omega),Option.bind_some]
theorem zCz {x:zab} (h:zbg x≤2000000):ze6 x x=some true:=by
 unfold ze6
 simp [zth (xs:=x.fCols) (by unfold zbg at h;omega),zEr (xs:=x.fIdxs) (by unfold zbg at h;omega)]
theorem zCe {x:zab} {a:Int} (h0:0≤a) (h1:a≤1048576) (h:zq5 x): ∃v,zfb x a=some v∧v≤a∧(0≤v→(zbg x:Int)=a-v):=by
 unfold zfb zbg
 rw [zcP (a:=a) (by omega) (by omega) h.1]
 by_cases q0:a-(x.fName.length:Int)<0
 ·rw [if_pos (by simpa using q0)];exact⟨-1,rfl,by omega,by omega⟩
 rw [if_neg (by simpa using q0)]
 obtain⟨b1,e1,g1,r1⟩:=zs7 (xs:=x.fCols) (a:=(a-(x.fName.length:Int))) (by omega) (by omega) h.2.1
 rw [e1,Option.bind_some]
 by_cases q1:b1<0
 ·rw [if_pos (by simpa using q1)];exact⟨-1,rfl,by omega,by omega⟩
 rw [if_neg (by simpa using q1)]
 have s1:=r1 (by omega)
 obtain⟨b2,e2,g2,r2⟩:=zDk (xs:=x.fIdxs) (a:=b1) (by omega) (by omega) h.2.2
 rw [e2,Option.bind_some]
 by_cases q2:b2<0
 ·rw [if_pos (by simpa using q2)];exact⟨-1,rfl,by omega,by omega⟩
 rw [if_neg (by simpa using q2)]
 have s2:=r2 (by omega)
 exact⟨b2,rfl,by omega,fun _=>by omega⟩
def zbM (l:List zab):Nat:=l.length+(l.map zbg).sum
theorem zAw {xs:List zab} (h:zbM xs≤2000000):zgU xs=some xs:=by
 have hl:xs.length≤2000000:=by unfold zbM at h;omega
 have hx: ∀x∈xs,zbg x≤2000000:=fun x hx=>by have:=zfg (tot:=zbg) hx;unfold zbM at h;omega
 unfold zgU
 rw [zae (by omega)]
 exact zob (fun i hi v hv=>by
  show zd0 xs i v=_
  unfold zd0
  rw [if_pos (by simpa using hi),zac hi,Option.bind_some,zBW (hx _ (List.getElem_mem hi)),Option.bind_some,zac (by omega),Option.bind_some,zaE hi (by omega)];rfl) (fun v=>by
  show zd0 xs _ v=_
  unfold zd0
  rw [if_neg (by simp)])
theorem zAF {xs:List zab} (h:zbM xs≤2000000):zgy xs xs=some true:=by
 have hl:xs.length≤2000000:=by unfold zbM at h;omega
 have hx: ∀x∈xs,zbg x≤2000000:=fun x hx=>by have:=zfg (tot:=zbg) hx;unfold zbM at h;omega
 unfold zgy
 rw [if_neg (by simp)]
 exact zm1 (n:=xs.length) (fun i hi=>by
  show zd2 xs xs i=_
  unfold zd2
  rw [if_pos (by simpa using hi),zac hi,Option.bind_some,Option.bind_some,zCz (hx _ (List.getElem_mem hi)),Option.bind_some,if_neg (by simp),zaE hi (by omega)]) (by
  show zd2 xs xs _=_
  unfold zd2
  rw [if_neg (by simp)])
theorem zAz {xs:List zab} {a:Int} (h0:0≤a) (h1:a≤1048576) (h:(okL zq5) xs): ∃v,zgE xs a=some v∧v≤a∧(0≤v→(zbM xs:Int)=a-v):=by
 have hl:xs.length≤9223372036854775807:=h.1
 unfold zgE zbM
 rw [zcP h0 h1 hl]
 by_cases h2:a-(xs.length:Int)<0
 ·rw [if_pos (by simpa using h2)];exact⟨-1,rfl,by omega,by omega⟩
 ·rw [if_neg (by simpa using h2)]
  obtain⟨v,e1,e2,e3⟩:=szL (xs:=xs) (body:=fun s:Int × Int=>zcZ xs s.1 s.2) zbg (a:=a-xs.length) (by omega) (by omega) (fun x hx b hb0 hb1=>by
   obtain⟨r,e1,e2,e3⟩:=zCe (x:=x) hb0 hb1 (h.2 _ hx)
   refine⟨r,e2,e3,fun i hi=> ?_⟩
   have hi':=(List.getElem?_eq_some_iff.1 hi).1
   show zcZ xs b i=_
   unfold zcZ
   rw [if_pos (by simpa using hi'),zco hi,Option.bind_some,e1,Option.bind_some,zaE hi' (by omega)]
   by_cases h3:r<0
   ·rw [if_pos (by simpa using h3),if_pos h3]
   ·rw [if_neg (by simpa using h3),if_neg h3]) (fun b=>by
   show zcZ xs b _=_
   unfold zcZ
   rw [if_neg (by simp)])
  exact⟨v,e1,by omega,fun hv=>by have:=e3 hv;omega⟩
def zfI (l:List zab):Nat:=(l.map fun x=>1+zaD x.fCols+zhY x.fIdxs).sum
theorem zvG (l:List zab):zfI l≤64*zbM l:=by
 unfold zfI zbM
 induction l with
 |nil=>simp
 |cons x l ih=>
  rw [List.map_cons,List.sum_cons,List.length_cons,List.map_cons,List.sum_cons]
  have h0:=zjd x.fCols
  have h1:=zyC x.fIdxs
  unfold zbg at*
  omega
set_option maxHeartbeats 1000000 in
theorem zwu {xs:List zab} {k:Int} (h0:0≤k) (hk:k+(zfI xs:Nat)≤4611686018427387904) (h:zbM xs≤2000000): ∃ys,ys.length=xs.length∧zhH xs k=some (k+(zfI xs:Nat),ys)∧zhp ys k=some (k+(zfI xs:Nat)):=by
 have hl:xs.length≤2000000:=by unfold zbM at h;omega
 refine zoO (cnt:=fun x:zab=>1+zaD x.fCols+zhY x.fIdxs) (mb:=fun s:Int × Int × List zab=>zch s.1 s.2.1 s.2.2) (hb:=fun ys s=>zcg ys s.1 s.2) 4611686018427387904 h0 hk (fun x hx k h0 hB=> ?_) (fun k v hv=> ?_) (fun k ys hy=> ?_)
 ·have hB:k+((1+zaD x.fCols+zhY x.fIdxs:Nat):Int)≤4611686018427387904:=hB
  obtain⟨r0, -,m0,g0⟩:=zjX (xs:=x.fCols) (k:=k+1) (by omega) (by omega) (by have:=zfg (tot:=zbg) hx;unfold zbM at h;have e_:zba x.fCols≤zbg x:=(by unfold zbg;omega);omega)
  obtain⟨r1, -,m1,g1⟩:=zAZ (xs:=x.fIdxs) (k:=k+1+((zaD x.fCols:Nat):Int)) (by omega) (by omega) (by have:=zfg (tot:=zbg) hx;unfold zbM at h;have e_:zeF x.fIdxs≤zbg x:=(by unfold zbg;omega);omega)
  have fin:k+1+((zaD x.fCols:Nat):Int)+((zhY x.fIdxs:Nat):Int)=k+(((1+zaD x.fCols+zhY x.fIdxs:Nat)):Int):=by omega
  refine⟨?y,fun i v hv hi=> ?_,fun i ys hy hi=> ?_⟩
  rotate_left
  ·have hi':=(List.getElem?_eq_some_iff.1 hv).1
   show zch k i v=_
   unfold zch
   rw [if_pos (by simpa using hi')]
   simp only [zco hv,zaE hi (by omega:xs.length≤_),Int.toNat_natCast,List.set_set,Option.bind_some,(show IntKind.i64.wrap (k+1)=k+1 from zaC (by omega) (by omega)),zfd (n:=k) (by omega),m0,m1]
   rw [fin]
  ·have hi':=(List.getElem?_eq_some_iff.1 hy).1
   show zcg ys k i=_
   unfold zcg
   rw [if_pos (by simpa using hi')]
   simp only [zco hy,zaE hi (by omega:xs.length≤_),bne_self_eq_false,Bool.false_eq_true,if_false,Option.bind_some,(show IntKind.i64.wrap (k+1)=k+1 from zaC (by omega) (by omega)),zfd (n:=k) (by omega),g0,g1]
   rw [if_neg (by simp;omega),if_neg (by simp;omega),fin]
 ·show zch k _ v=_
  unfold zch
  rw [if_neg (by simp [hv])]
 ·show zcg ys k _=_
  unfold zcg
  rw [if_neg (by simp [hy])]
def zfi (l:List Int):Nat:=l.length
theorem zDO {xs:List Int} (h:zfi xs≤2000000):zi8 xs=some xs:=by
 have hl:xs.length≤2000000:=by unfold zfi at h;omega
 unfold zi8
 rw [zae (by omega)]
 exact zob (fun i hi v hv=>by
  show zeT xs i v=_
  unfold zeT
  rw [if_pos (by simpa using hi),zac hi,Option.bind_some,zac (by omega),Option.bind_some,zaE hi (by omega)];rfl) (fun v=>by
  show zeT xs _ v=_
  unfold zeT
  rw [if_neg (by simp)])
theorem zDx {xs:List Int} (h:zfi xs≤2000000):zi0 xs xs=some true:=by
 have hl:xs.length≤2000000:=by unfold zfi at h;omega
 unfold zi0
 rw [if_neg (by simp)]
 exact zm1 (n:=xs.length) (fun i hi=>by
  show zeZ xs xs i=_
  unfold zeZ
  rw [if_pos (by simpa using hi),zac hi,Option.bind_some,Option.bind_some,if_neg (by simp),zaE hi (by omega)]) (by
  show zeZ xs xs _=_
  unfold zeZ
  rw [if_neg (by simp)])
theorem zEt {xs:List Int} {a:Int} (h0:0≤a) (h1:a≤1048576) (h:(okL zpO) xs): ∃v,zi4 xs a=some v∧v≤a∧(0≤v→(zfi xs:Int)=a-v):=by
 have hl:xs.length≤9223372036854775807:=h.1
 unfold zi4 zfi
 rw [zcP h0 h1 hl]
 by_cases h2:a-(xs.length:Int)<0
 ·rw [if_pos (by simpa using h2)];exact⟨-1,rfl,by omega,by omega⟩
 ·rw [if_neg (by simpa using h2)]
  exact⟨_,rfl,by omega,fun _=>by omega⟩
def zjQ (l:List Int):Nat:=(l.map fun x=>1).sum
theorem zyG (l:List Int):zjQ l≤64*zfi l:=by
 unfold zjQ zfi
 rw [zlz];omega
set_option maxHeartbeats 1000000 in
theorem zy4 {xs:List Int} {k:Int} (h0:0≤k) (hk:k+(zjQ xs:Nat)≤4611686018427387904) (h:zfi xs≤2000000): ∃ys,ys.length=xs.length∧zjq xs k=some (k+(zjQ xs:Nat),ys)∧zjG ys k=some (k+(zjQ xs:Nat)):=by
 have hl:xs.length≤2000000:=by unfold zfi at h;omega
 refine zoO (cnt:=fun x:Int=>1) (mb:=fun s:Int × Int × List Int=>zcR s.1 s.2.1 s.2.2) (hb:=fun ys s=>zc0 ys s.1 s.2) 4611686018427387904 h0 hk (fun x hx k h0 hB=> ?_) (fun k v hv=> ?_) (fun k ys hy=> ?_)
 ·have hB:k+((1:Nat):Int)≤4611686018427387904:=hB
  have fin:k+1=k+(((1:Nat)):Int):=by omega
  refine⟨?y,fun i v hv hi=> ?_,fun i ys hy hi=> ?_⟩
  rotate_left
  ·have hi':=(List.getElem?_eq_some_iff.1 hv).1
   show zcR k i v=_
   unfold zcR
   rw [if_pos (by simpa using hi')]
   simp only [zco hv,zaE hi (by omega:xs.length≤_),Int.toNat_natCast,List.set_set,Option.bind_some,(show IntKind.i64.wrap (k+1)=k+1 from zaC (by omega) (by omega))]
   rw [fin]
  ·have hi':=(List.getElem?_eq_some_iff.1 hy).1
   show zc0 ys k i=_
   unfold zc0
   rw [if_pos (by simpa using hi')]
   simp only [zco hy,zaE hi (by omega:xs.length≤_),bne_self_eq_false,Bool.false_eq_true,if_false,Option.bind_some,(show IntKind.i64.wrap (k+1)=k+1 from zaC (by omega) (by omega))]
   rw [fin]
 ·show zcR k _ v=_
  unfold zcR
  rw [if_neg (by simp [hv])]
 ·show zc0 ys k _=_
  unfold zc0
  rw [if_neg (by simp [hy])]
def zdZ (x:zaa):Nat:=x.fKey.length+x.fVal.length
theorem zBY {x:zaa} (h:zdZ x≤2000000):zh6 x=some x:=rfl
theorem zBA {x:zaa} (h:zdZ x≤2000000):ze1 x x=some true:=by
 unfold ze1
 simp []
theorem zBE {x:zaa} {a:Int} (h0:0≤a) (h1:a≤1048576) (h:zqN x): ∃v,ze3 x a=some v∧v≤a∧(0≤v→(zdZ x:Int)=a-v):=by
 unfold ze3 zdZ
 rw [zcP (a:=a) (by omega) (by omega) h.1]
 by_cases q0:a-(x.fKey.length:Int)<0
 ·rw [if_pos (by simpa using q0)];exact⟨-1,rfl,by omega,by omega⟩
 rw [if_neg (by simpa using q0)]
 rw [zcP (a:=(a-(x.fKey.length:Int))) (by omega) (by omega) h.2.1]
 by_cases q1:(a-(x.fKey.length:Int))-(x.fVal.length:Int)<0
 ·rw [if_pos (by simpa using q1)];exact⟨-1,rfl,by omega,by omega⟩
 rw [if_neg (by simpa using q1)]
 exact⟨((a-(x.fKey.length:Int))-(x.fVal.length:Int)),rfl,by omega,fun _=>by omega⟩
def zbJ (l:List zaa):Nat:=l.length+(l.map zdZ).sum
theorem zzh {xs:List zaa} (h:zbJ xs≤2000000):zei xs=some xs:=by
 have hl:xs.length≤2000000:=by unfold zbJ at h;omega
 have hx: ∀x∈xs,zdZ x≤2000000:=fun x hx=>by have:=zfg (tot:=zdZ) hx;unfold zbJ at h;omega
 unfold zei
 rw [zae (by omega)]
 exact zob (fun i hi v hv=>by
  show zbf xs i v=_
  unfold zbf
  rw [if_pos (by simpa using hi),zac hi,Option.bind_some,zBY (hx _ (List.getElem_mem hi)),Option.bind_some,zac (by omega),Option.bind_some,zaE hi (by omega)];rfl) (fun v=>by
  show zbf xs _ v=_
  unfold zbf
  rw [if_neg (by simp)])
theorem zzq {xs:List zaa} (h:zbJ xs≤2000000):zex xs xs=some true:=by
 have hl:xs.length≤2000000:=by unfold zbJ at h;omega
 have hx: ∀x∈xs,zdZ x≤2000000:=fun x hx=>by have:=zfg (tot:=zdZ) hx;unfold zbJ at h;omega
 unfold zex
 rw [if_neg (by simp)]
 exact zm1 (n:=xs.length) (fun i hi=>by
  show zbi xs xs i=_
  unfold zbi
  rw [if_pos (by simpa using hi),zac hi,Option.bind_some,Option.bind_some,zBA (hx _ (List.getElem_mem hi)),Option.bind_some,if_neg (by simp),zaE hi (by omega)]) (by
  show zbi xs xs _=_
  unfold zbi
  rw [if_neg (by simp)])
theorem zAv {xs:List zaa} {a:Int} (h0:0≤a) (h1:a≤1048576) (h:(okL zqN) xs): ∃v,zeg xs a=some v∧v≤a∧(0≤v→(zbJ xs:Int)=a-v):=by
 have hl:xs.length≤9223372036854775807:=h.1
 unfold zeg zbJ
 rw [zcP h0 h1 hl]
 by_cases h2:a-(xs.length:Int)<0
 ·rw [if_pos (by simpa using h2)];exact⟨-1,rfl,by omega,by omega⟩
 ·rw [if_neg (by simpa using h2)]
  obtain⟨v,e1,e2,e3⟩:=szL (xs:=xs) (body:=fun s:Int × Int=>zaT xs s.1 s.2) zdZ (a:=a-xs.length) (by omega) (by omega) (fun x hx b hb0 hb1=>by
   obtain⟨r,e1,e2,e3⟩:=zBE (x:=x) hb0 hb1 (h.2 _ hx)
   refine⟨r,e2,e3,fun i hi=> ?_⟩
   have hi':=(List.getElem?_eq_some_iff.1 hi).1
   show zaT xs b i=_
   unfold zaT
   rw [if_pos (by simpa using hi'),zco hi,Option.bind_some,e1,Option.bind_some,zaE hi' (by omega)]
   by_cases h3:r<0
   ·rw [if_pos (by simpa using h3),if_pos h3]
   ·rw [if_neg (by simpa using h3),if_neg h3]) (fun b=>by
   show zaT xs b _=_
   unfold zaT
   rw [if_neg (by simp)])
  exact⟨v,e1,by omega,fun hv=>by have:=e3 hv;omega⟩
def zhB (l:List zaa):Nat:=(l.map fun x=>3).sum
theorem zuY (l:List zaa):zhB l≤64*zbJ l:=by
 unfold zhB zbJ
 rw [zlz];omega
set_option maxHeartbeats 1000000 in
theorem zwR {xs:List zaa} {k:Int} (h0:0≤k) (hk:k+(zhB xs:Nat)≤4611686018427387904) (h:zbJ xs≤2000000): ∃ys,ys.length=xs.length∧zhw xs k=some (k+(zhB xs:Nat),ys)∧zhI ys k=some (k+(zhB xs:Nat)):=by
 have hl:xs.length≤2000000:=by unfold zbJ at h;omega
 refine zoO (cnt:=fun x:zaa=>3) (mb:=fun s:Int × Int × List zaa=>zce s.1 s.2.1 s.2.2) (hb:=fun ys s=>zcf ys s.1 s.2) 4611686018427387904 h0 hk (fun x hx k h0 hB=> ?_) (fun k v hv=> ?_) (fun k ys hy=> ?_)
 ·have hB:k+((3:Nat):Int)≤4611686018427387904:=hB
  have fin:k+1+1+1=k+(((3:Nat)):Int):=by omega
  refine⟨?y,fun i v hv hi=> ?_,fun i ys hy hi=> ?_⟩
  rotate_left
  ·have hi':=(List.getElem?_eq_some_iff.1 hv).1
   show zce k i v=_
   unfold zce
   rw [if_pos (by simpa using hi')]
   simp only [zco hv,zaE hi (by omega:xs.length≤_),Int.toNat_natCast,List.set_set,Option.bind_some,(show IntKind.i64.wrap (k+1)=k+1 from zaC (by omega) (by omega)),(show IntKind.i64.wrap (k+1+1)=k+1+1 from zaC (by omega) (by omega)),(show IntKind.i64.wrap (k+1+1+1)=k+1+1+1 from zaC (by omega) (by omega)),zfd (n:=k) (by omega),zfd (n:=k+1) (by omega)]
   rw [fin]
  ·have hi':=(List.getElem?_eq_some_iff.1 hy).1
   show zcf ys k i=_
   unfold zcf
   rw [if_pos (by simpa using hi')]
   simp only [zco hy,zaE hi (by omega:xs.length≤_),bne_self_eq_false,Bool.false_eq_true,if_false,Option.bind_some,(show IntKind.i64.wrap (k+1)=k+1 from zaC (by omega) (by omega)),(show IntKind.i64.wrap (k+1+1)=k+1+1 from zaC (by omega) (by omega)),(show IntKind.i64.wrap (k+1+1+1)=k+1+1+1 from zaC (by omega) (by omega)),zfd (n:=k) (by omega),zfd (n:=k+1) (by omega)]
   rw [fin]
 ·show zce k _ v=_
  unfold zce
  rw [if_neg (by simp [hv])]
 ·show zcf ys k _=_
  unfold zcf
  rw [if_neg (by simp [hy])]
def za1 (x:zaf):Nat:=x.fName.length+zbM x.fWays+zfi x.fAt+zbJ x.fStore
theorem zxC {x:zaf} (h:za1 x≤2000000):za4 x=some x:=by
 unfold za4
 simp only [zAw (xs:=x.fWays) (by unfold za1 at h;omega),zDO (xs:=x.fAt) (by unfold za1 at h;omega),zzh (xs:=x.fStore) (by unfold za1 at h;omega),Option.bind_some]
theorem ztH {x:zaf} (h:za1 x≤2000000):zbu x x=some true:=by
 unfold zbu
 simp [zAF (xs:=x.fWays) (by unfold za1 at h;omega),zDx (xs:=x.fAt) (by unfold za1 at h;omega),zzq (xs:=x.fStore) (by unfold za1 at h;omega)]
theorem zxp {x:zaf} {a:Int} (h0:0≤a) (h1:a≤1048576) (h:zuz x): ∃v,ze9 x a=some v∧v≤a∧(0≤v→(za1 x:Int)=a-v):=by
 unfold ze9 za1
 rw [zcP (a:=a) (by omega) (by omega) h.1]
 by_cases q0:a-(x.fName.length:Int)<0
 ·rw [if_pos (by simpa using q0)];exact⟨-1,rfl,by omega,by omega⟩
 rw [if_neg (by simpa using q0)]
 obtain⟨b1,e1,g1,r1⟩:=zAz (xs:=x.fWays) (a:=(a-(x.fName.length:Int))) (by omega) (by omega) h.2.1
 rw [e1,Option.bind_some]
 by_cases q1:b1<0
 ·rw [if_pos (by simpa using q1)];exact⟨-1,rfl,by omega,by omega⟩
 rw [if_neg (by simpa using q1)]
 have s1:=r1 (by omega)
 obtain⟨b2,e2,g2,r2⟩:=zEt (xs:=x.fAt) (a:=b1) (by omega) (by omega) h.2.2.1
 rw [e2,Option.bind_some]
 by_cases q2:b2<0
 ·rw [if_pos (by simpa using q2)];exact⟨-1,rfl,by omega,by omega⟩
 rw [if_neg (by simpa using q2)]
 have s2:=r2 (by omega)
 obtain⟨b3,e3,g3,r3⟩:=zAv (xs:=x.fStore) (a:=b2) (by omega) (by omega) h.2.2.2
 rw [e3,Option.bind_some]
 by_cases q3:b3<0
 ·rw [if_pos (by simpa using q3)];exact⟨-1,rfl,by omega,by omega⟩
 rw [if_neg (by simpa using q3)]
 have s3:=r3 (by omega)
 exact⟨b3,rfl,by omega,fun _=>by omega⟩
def zef (x:zaf):Nat:=zfI x.fWays+zjQ x.fAt+zhB x.fStore
theorem zrs (x:zaf):zef x≤64*za1 x:=by
 have h0:=zvG x.fWays
 have h1:=zyG x.fAt
 have h2:=zuY x.fStore
 unfold zef za1
 omega
theorem zsX {x:zaf} {k:Int} (h0:0≤k) (hk:k+(zef x:Nat)≤4611686018427387904) (h:za1 x≤2000000): ∃r0:List zab,∃r1:List Int,∃r2:List zaa,zc3 x k=some (k+(zef x:Nat),⟨x.fName,r0,r1,r2⟩)∧zc6 ⟨x.fName,r0,r1,r2⟩ k=some (k+(zef x:Nat)):=by
 obtain⟨r0, -,m0,g0⟩:=zwu (xs:=x.fWays) (k:=k) (by omega) (by unfold zef at hk;omega) (by unfold za1 at h;omega)
 obtain⟨r1, -,m1,g1⟩:=zy4 (xs:=x.fAt) (k:=k+((zfI x.fWays:Nat):Int)) (by omega) (by unfold zef at hk;omega) (by unfold za1 at h;omega)
 obtain⟨r2, -,m2,g2⟩:=zwR (xs:=x.fStore) (k:=k+((zfI x.fWays:Nat):Int)+((zjQ x.fAt:Nat):Int)) (by omega) (by unfold zef at hk;omega) (by unfold za1 at h;omega)
 have fin:k+((zfI x.fWays:Nat):Int)+((zjQ x.fAt:Nat):Int)+((zhB x.fStore:Nat):Int)=k+(zef x:Nat):=by unfold zef;omega
 refine⟨r0,r1,r2, ?_, ?_⟩
 ·unfold zc3
  simp only [m0,m1,m2,Option.bind_some]
  rw [fin]
 ·unfold zc6
  simp only [g0,g1,g2,Option.bind_some]
  rw [if_neg (by simp;omega)]
  rw [if_neg (by simp;omega)]
  rw [if_neg (by simp;omega)]
  rw [fin]
def zfT (x:zdC):Nat:=zba x.fVals
theorem zC0 {x:zdC} (h:zfT x≤2000000):ziq x=some x:=by
 unfold ziq
 simp only [zsZ (xs:=x.fVals) (by unfold zfT at h;omega),Option.bind_some]
theorem zC1 {x:zdC} (h:zfT x≤2000000):ziv x x=some true:=by
 unfold ziv
 simp [zth (xs:=x.fVals) (by unfold zfT at h;omega)]
theorem zC9 {x:zdC} {a:Int} (h0:0≤a) (h1:a≤1048576) (h:zBq x): ∃v,ziu x a=some v∧v≤a∧(0≤v→(zfT x:Int)=a-v):=by
 unfold ziu zfT
 obtain⟨b0,e0,g0,r0⟩:=zs7 (xs:=x.fVals) (a:=a) (by omega) (by omega) h
 rw [e0,Option.bind_some]
 by_cases q0:b0<0
 ·rw [if_pos (by simpa using q0)];exact⟨-1,rfl,by omega,by omega⟩
 rw [if_neg (by simpa using q0)]
 have s0:=r0 (by omega)
 exact⟨b0,rfl,by omega,fun _=>by omega⟩
def ziA (x:zdC):Nat:=zaD x.fVals
theorem zvm (x:zdC):ziA x≤64*zfT x:=by
 have h0:=zjd x.fVals
 unfold ziA zfT
 omega
theorem zx0 {x:zdC} {k:Int} (h0:0≤k) (hk:k+(ziA x:Nat)≤4611686018427387904) (h:zfT x≤2000000): ∃r0:List (List UInt8),zfX x k=some (k+(ziA x:Nat),⟨r0⟩):=by
 obtain⟨r0, -,m0,g0⟩:=zjX (xs:=x.fVals) (k:=k) (by omega) (by unfold ziA at hk;omega) (by unfold zfT at h;omega)
 have fin:k+((zaD x.fVals:Nat):Int)=k+(ziA x:Nat):=by unfold ziA;omega
 refine⟨r0, ?_⟩
 ·unfold zfX
  simp only [m0,Option.bind_some]
  rw [fin]
def zbI (x:zat):Nat:=zfT x.fOld+zfT x.fNew
theorem zy0 {x:zat} (h:zbI x≤2000000):zgB x=some x:=by
 unfold zgB
 simp only [zC0 (x:=x.fOld) (by unfold zbI at h;omega),zC0 (x:=x.fNew) (by unfold zbI at h;omega),Option.bind_some]
theorem zzP {x:zat} (h:zbI x≤2000000):zgx x x=some true:=by
 unfold zgx
 simp [zC1 (x:=x.fOld) (by unfold zbI at h;omega),zC1 (x:=x.fNew) (by unfold zbI at h;omega)]
theorem zzg {x:zat} {a:Int} (h0:0≤a) (h1:a≤1048576) (h:ztK x): ∃v,zgL x a=some v∧v≤a∧(0≤v→(zbI x:Int)=a-v):=by
 unfold zgL zbI
 obtain⟨b1,e1,g1,r1⟩:=zC9 (x:=x.fOld) (a:=a) (by omega) (by omega) h.2.1
 rw [e1,Option.bind_some]
 by_cases q1:b1<0
 ·rw [if_pos (by simpa using q1)];exact⟨-1,rfl,by omega,by omega⟩
 rw [if_neg (by simpa using q1)]
 have s1:=r1 (by omega)
 obtain⟨b2,e2,g2,r2⟩:=zC9 (x:=x.fNew) (a:=b1) (by omega) (by omega) h.2.2
 rw [e2,Option.bind_some]
 by_cases q2:b2<0
 ·rw [if_pos (by simpa using q2)];exact⟨-1,rfl,by omega,by omega⟩
 rw [if_neg (by simpa using q2)]
 have s2:=r2 (by omega)
 exact⟨b2,rfl,by omega,fun _=>by omega⟩
def ze4 (x:zat):Nat:=ziA x.fOld+ziA x.fNew
theorem zu1 (x:zat):ze4 x≤64*zbI x:=by
 have h0:=zvm x.fOld
 have h1:=zvm x.fNew
 unfold ze4 zbI
 omega
theorem zww {x:zat} {k:Int} (h0:0≤k) (hk:k+(ze4 x:Nat)≤4611686018427387904) (h:zbI x≤2000000): ∃r0:List (List UInt8),∃r1:List (List UInt8),zfL x k=some (k+(ze4 x:Nat),⟨x.fKind,⟨r0⟩,⟨r1⟩⟩):=by
 obtain⟨r0,m0⟩:=zx0 (x:=x.fOld) (k:=k) (by omega) (by unfold ze4 at hk;omega) (by unfold zbI at h;omega)
 obtain⟨r1,m1⟩:=zx0 (x:=x.fNew) (k:=k+((ziA x.fOld:Nat):Int)) (by omega) (by unfold ze4 at hk;omega) (by unfold zbI at h;omega)
 have fin:k+((ziA x.fOld:Nat):Int)+((ziA x.fNew:Nat):Int)=k+(ze4 x:Nat):=by unfold ze4;omega
 refine⟨r0,r1, ?_⟩
 ·unfold zfL
  simp only [m0,m1,Option.bind_some]
  rw [fin]
def zao (x:zad):Nat:=zbI x.fAct
theorem znn {x:zad} (h:zao x≤2000000):za2 x=some x:=by
 unfold za2
 simp only [zy0 (x:=x.fAct) (by unfold zao at h;omega),Option.bind_some]
theorem zna {x:zad} (h:zao x≤2000000):zdm x x=some true:=by
 unfold zdm
 simp [zzP (x:=x.fAct) (by unfold zao at h;omega)]
theorem zm7 {x:zad} {a:Int} (h0:0≤a) (h1:a≤1048576) (h:zjo x): ∃v,zds x a=some v∧v≤a∧(0≤v→(zao x:Int)=a-v):=by
 unfold zds zao
 obtain⟨b2,e2,g2,r2⟩:=zzg (x:=x.fAct) (a:=a) (by omega) (by omega) h.2.2
 rw [e2,Option.bind_some]
 by_cases q2:b2<0
 ·rw [if_pos (by simpa using q2)];exact⟨-1,rfl,by omega,by omega⟩
 rw [if_neg (by simpa using q2)]
 have s2:=r2 (by omega)
 exact⟨b2,rfl,by omega,fun _=>by omega⟩
def zeA (x:zad):Nat:=ze4 x.fAct
theorem zr9 (x:zad):zeA x≤64*zao x:=by
 have h0:=zu1 x.fAct
 unfold zeA zao
 omega
theorem zuw {x:zad} {k:Int} (h0:0≤k) (hk:k+(zeA x:Nat)≤4611686018427387904) (h:zao x≤2000000): ∃r0:List (List UInt8),∃r1:List (List UInt8),zeG x k=some (k+(zeA x:Nat),⟨x.fServer,x.fStep,⟨x.fAct.fKind,⟨r0⟩,⟨r1⟩⟩⟩):=by
 obtain⟨r0,r1,m0⟩:=zww (x:=x.fAct) (k:=k) (by omega) (by unfold zeA at hk;omega) (by unfold zao at h;omega)
 have fin:k+((ze4 x.fAct:Nat):Int)=k+(zeA x:Nat):=by unfold zeA;omega
 refine⟨r0,r1, ?_⟩
 ·unfold zeG
  simp only [m0,Option.bind_some]
  rw [fin]
def zbh (l:List zad):Nat:=l.length+(l.map zao).sum
theorem zDg {xs:List zad} (h:zbh xs≤2000000):zcb xs=some xs:=by
 have hl:xs.length≤2000000:=by unfold zbh at h;omega
 have hx: ∀x∈xs,zao x≤2000000:=fun x hx=>by have:=zfg (tot:=zao) hx;unfold zbh at h;omega
 unfold zcb
 rw [zae (by omega)]
 exact zob (fun i hi v hv=>by
  show zcL xs i v=_
  unfold zcL
  rw [if_pos (by simpa using hi),zac hi,Option.bind_some,znn (hx _ (List.getElem_mem hi)),Option.bind_some,zac (by omega),Option.bind_some,zaE hi (by omega)];rfl) (fun v=>by
  show zcL xs _ v=_
  unfold zcL
  rw [if_neg (by simp)])
theorem zCN {xs:List zad} (h:zbh xs≤2000000):zfj xs xs=some true:=by
 have hl:xs.length≤2000000:=by unfold zbh at h;omega
 have hx: ∀x∈xs,zao x≤2000000:=fun x hx=>by have:=zfg (tot:=zao) hx;unfold zbh at h;omega
 unfold zfj
 rw [if_neg (by simp)]
 exact zm1 (n:=xs.length) (fun i hi=>by
  show zcF xs xs i=_
  unfold zcF
  rw [if_pos (by simpa using hi),zac hi,Option.bind_some,Option.bind_some,zna (hx _ (List.getElem_mem hi)),Option.bind_some,if_neg (by simp),zaE hi (by omega)]) (by
  show zcF xs xs _=_
  unfold zcF
  rw [if_neg (by simp)])
theorem zDe {xs:List zad} {a:Int} (h0:0≤a) (h1:a≤1048576) (h:(okL zjo) xs): ∃v,zfl xs a=some v∧v≤a∧(0≤v→(zbh xs:Int)=a-v):=by
 have hl:xs.length≤9223372036854775807:=h.1
 unfold zfl zbh
 rw [zcP h0 h1 hl]
 by_cases h2:a-(xs.length:Int)<0
 ·rw [if_pos (by simpa using h2)];exact⟨-1,rfl,by omega,by omega⟩
 ·rw [if_neg (by simpa using h2)]
  obtain⟨v,e1,e2,e3⟩:=szL (xs:=xs) (body:=fun s:Int × Int=>zbZ xs s.1 s.2) zao (a:=a-xs.length) (by omega) (by omega) (fun x hx b hb0 hb1=>by
   obtain⟨r,e1,e2,e3⟩:=zm7 (x:=x) hb0 hb1 (h.2 _ hx)
   refine⟨r,e2,e3,fun i hi=> ?_⟩
   have hi':=(List.getElem?_eq_some_iff.1 hi).1
   show zbZ xs b i=_
   unfold zbZ
   rw [if_pos (by simpa using hi'),zco hi,Option.bind_some,e1,Option.bind_some,zaE hi' (by omega)]
   by_cases h3:r<0
   ·rw [if_pos (by simpa using h3),if_pos h3]
   ·rw [if_neg (by simpa using h3),if_neg h3]) (fun b=>by
   show zbZ xs b _=_
   unfold zbZ
   rw [if_neg (by simp)])
  exact⟨v,e1,by omega,fun hv=>by have:=e3 hv;omega⟩
def zja (l:List zad):Nat:=(l.map fun x=>3+zaD x.fAct.fOld.fVals+zaD x.fAct.fNew.fVals).sum
theorem zAa (l:List zad):zja l≤64*zbh l:=by
 unfold zja zbh
 induction l with
 |nil=>simp
 |cons x l ih=>
  rw [List.map_cons,List.sum_cons,List.length_cons,List.map_cons,List.sum_cons]
  have h0:=zjd x.fAct.fOld.fVals
  have h1:=zjd x.fAct.fNew.fVals
  unfold zao zbI zfT at*
  omega
set_option maxHeartbeats 1000000 in
theorem zA3 {xs:List zad} {k:Int} (h0:0≤k) (hk:k+(zja xs:Nat)≤4611686018427387904) (h:zbh xs≤2000000): ∃ys,ys.length=xs.length∧zfO xs k=some (k+(zja xs:Nat),ys):=by
 have hl:xs.length≤2000000:=by unfold zbh at h;omega
 refine zAd (cnt:=fun x:zad=>3+zaD x.fAct.fOld.fVals+zaD x.fAct.fNew.fVals) (mb:=fun s:Int × Int × List zad=>zbz s.1 s.2.1 s.2.2) 4611686018427387904 h0 hk (fun x hx k h0 hB=> ?_) (fun k v hv=> ?_)
 ·have hB:k+((3+zaD x.fAct.fOld.fVals+zaD x.fAct.fNew.fVals:Nat):Int)≤4611686018427387904:=hB
  obtain⟨r0, -,m0,g0⟩:=zjX (xs:=x.fAct.fOld.fVals) (k:=k+1+1+1) (by omega) (by omega) (by have:=zfg (tot:=zao) hx;unfold zbh at h;have e_:zba x.fAct.fOld.fVals≤zao x:=(by unfold zao zbI zfT;omega);omega)
  obtain⟨r1, -,m1,g1⟩:=zjX (xs:=x.fAct.fNew.fVals) (k:=k+1+1+1+((zaD x.fAct.fOld.fVals:Nat):Int)) (by omega) (by omega) (by have:=zfg (tot:=zao) hx;unfold zbh at h;have e_:zba x.fAct.fNew.fVals≤zao x:=(by unfold zao zbI zfT;omega);omega)
  have fin:k+1+1+1+((zaD x.fAct.fOld.fVals:Nat):Int)+((zaD x.fAct.fNew.fVals:Nat):Int)=k+(((3+zaD x.fAct.fOld.fVals+zaD x.fAct.fNew.fVals:Nat)):Int):=by omega
  refine⟨?y,fun i v hv hi=> ?_⟩
  rotate_left
  ·have hi':=(List.getElem?_eq_some_iff.1 hv).1
   show zbz k i v=_
   unfold zbz
   rw [if_pos (by simpa using hi')]
   simp only [zco hv,zaE hi (by omega:xs.length≤_),Int.toNat_natCast,List.set_set,Option.bind_some,(show IntKind.i64.wrap (k+1)=k+1 from zaC (by omega) (by omega)),(show IntKind.i64.wrap (k+1+1)=k+1+1 from zaC (by omega) (by omega)),(show IntKind.i64.wrap (k+1+1+1)=k+1+1+1 from zaC (by omega) (by omega)),m0,m1]
   rw [fin]
 ·show zbz k _ v=_
  unfold zbz
  rw [if_neg (by simp [hv])]
def zku (l:List Bool):Nat:=l.length
theorem zF9 {xs:List Bool} (h:zku xs≤2000000):ze7 xs xs=some true:=by
 have hl:xs.length≤2000000:=by unfold zku at h;omega
 unfold ze7
 rw [if_neg (by simp)]
 exact zm1 (n:=xs.length) (fun i hi=>by
  show zek xs xs i=_
  unfold zek
  rw [if_pos (by simpa using hi),zac hi,Option.bind_some,Option.bind_some,if_neg (by simp),zaE hi (by omega)]) (by
  show zek xs xs _=_
  unfold zek
  rw [if_neg (by simp)])
def zly (l:List Bool):Nat:=(l.map fun x=>1).sum
theorem zEg (l:List Bool):zly l≤64*zku l:=by
 unfold zly zku
 rw [zlz];omega
set_option maxHeartbeats 1000000 in
theorem zEy {xs:List Bool} {k:Int} (h0:0≤k) (hk:k+(zly xs:Nat)≤4611686018427387904) (h:zku xs≤2000000): ∃ys,ys.length=xs.length∧ziC xs k=some (k+(zly xs:Nat),ys)∧zga ys k=some (k+(zly xs:Nat)):=by
 have hl:xs.length≤2000000:=by unfold zku at h;omega
 refine zoO (cnt:=fun x:Bool=>1) (mb:=fun s:Int × Int × List Bool=>zct s.1 s.2.1 s.2.2) (hb:=fun ys s=>zcv ys s.1 s.2) 4611686018427387904 h0 hk (fun x hx k h0 hB=> ?_) (fun k v hv=> ?_) (fun k ys hy=> ?_)
 ·have hB:k+((1:Nat):Int)≤4611686018427387904:=hB
  have fin:k+1=k+(((1:Nat)):Int):=by omega
  refine⟨?y,fun i v hv hi=> ?_,fun i ys hy hi=> ?_⟩
  rotate_left
  ·have hi':=(List.getElem?_eq_some_iff.1 hv).1
   show zct k i v=_
   unfold zct
   rw [if_pos (by simpa using hi')]
   simp only [zco hv,zaE hi (by omega:xs.length≤_),Int.toNat_natCast,List.set_set,Option.bind_some,(show IntKind.i64.wrap (k+1)=k+1 from zaC (by omega) (by omega))]
   rw [fin]
  ·have hi':=(List.getElem?_eq_some_iff.1 hy).1
   show zcv ys k i=_
   unfold zcv
   rw [if_pos (by simpa using hi')]
   simp only [zco hy,zaE hi (by omega:xs.length≤_),bne_self_eq_false,Bool.false_eq_true,if_false,Option.bind_some,(show IntKind.i64.wrap (k+1)=k+1 from zaC (by omega) (by omega))]
   rw [fin]
 ·show zct k _ v=_
  unfold zct
  rw [if_neg (by simp [hv])]
 ·show zcv ys k _=_
  unfold zcv
  rw [if_neg (by simp [hy])]
end Go.Proofs.YtfkblfjloegahaaGreatDoor
end
section
namespace Go.Proofs.YtfkblfjloegahaaGreatDoor
open Go.RowKit
set_option maxRecDepth 100000
abbrev RtS:Nat→List AV→AV→Prop:=Rts Tryz.prog sgs
@[reducible] def zEv:Nat→Type
 |0=>zaa
 |1=>zbK
 |2=>zab
 |3=>zaf
 |4=>zdC
 |5=>zat
 |6=>zad
 |7=>DOp
 |8=>zhm
 |_+9=>Unit
@[reducible] def zGa:Nat→List Ty
 |0=> [.s, .s, .b]
 |1=> [.s, .i .i64, .i .i64]
 |2=> [.s, .l .s, .l (.st 1)]
 |3=> [.s, .l (.st 2), .l (.i .i64), .l (.st 0)]
 |4=> [.l .s]
 |5=> [.i .i64, .l .s, .l .s]
 |6=> [.i .i64, .i .i64, .i .i64, .l .s, .l .s]
 |7=> [.i .i64, .s, .s, .i .i64]
 |8=> [.s, .s, .b]
 |_+9=> []
def tAv: ∀n,zEv n→AV
 |0,x=>zt2 x
 |1,x=>zCu x
 |2,x=>zuK x
 |3,x=>zqZ x
 |4,x=>zFX x
 |5,x=>zx2 x
 |6,x=>zjk x
 |7,x=>zIk x
 |8,x=>zGv x
 |_+9,_=> .agg []
def zHg: ∀n,zEv n→HL zEv (zGa n)
 |0,x=>(x.fKey,x.fVal,x.fGone,())
 |1,x=>(x.fName,x.fCol,x.fStage,())
 |2,x=>(x.fName,x.fCols,x.fIdxs,())
 |3,x=>(x.fName,x.fWays,x.fAt,x.fStore,())
 |4,x=>(x.fVals,())
 |5,x=>(x.fKind,x.fOld.fVals,x.fNew.fVals,())
 |6,x=>(x.fServer,x.fStep,x.fAct.fKind,x.fAct.fOld.fVals,x.fAct.fNew.fVals,())
 |7,x=>(x.fKind,x.fKey,x.fVal,x.fBy,())
 |8,x=>(x.fKey,x.fVal,x.fThere,())
 |_+9,_=>()
def tMk: ∀n,HL zEv (zGa n)→zEv n
 |0,x=>⟨x.1,x.2.1,x.2.2.1⟩
 |1,x=>⟨x.1,x.2.1,x.2.2.1⟩
 |2,x=>⟨x.1,x.2.1,x.2.2.1⟩
 |3,x=>⟨x.1,x.2.1,x.2.2.1,x.2.2.2.1⟩
 |4,x=>⟨x.1⟩
 |5,x=>⟨x.1,⟨x.2.1⟩,⟨x.2.2.1⟩⟩
 |6,x=>⟨x.1,x.2.1,⟨x.2.2.1,⟨x.2.2.2.1⟩,⟨x.2.2.2.2.1⟩⟩⟩
 |7,x=>⟨x.1,x.2.1,x.2.2.1,x.2.2.2.1⟩
 |8,x=>⟨x.1,x.2.1,x.2.2.1⟩
 |_+9,_=>()
theorem zE3: ∀n x,tAv n x= .agg (zxE tAv (zGa n) (zHg n x))
 |0,_=>rfl
 |1,_=>rfl
 |2,_=>rfl
 |3,_=>rfl
 |4,_=>rfl
 |5,_=>rfl
 |6,_=>rfl
 |7,_=>rfl
 |8,_=>rfl
 |_+9,_=>rfl
theorem zDu: ∀n h,zHg n (tMk n h)=h
 |0,_=>rfl
 |1,_=>rfl
 |2,_=>rfl
 |3,_=>rfl
 |4,_=>rfl
 |5,_=>rfl
 |6,_=>rfl
 |7,_=>rfl
 |8,_=>rfl
 |_+9,_=>rfl
@[reducible] def tab:Tab:=⟨RtS,zEv,tAv,zGa,zHg,tMk,zE3,zDu⟩
end Go.Proofs.YtfkblfjloegahaaGreatDoor
end
section
namespace Go.Proofs.YtfkblfjloegahaaGreatDoor
open Go.RowKit
abbrev FS:=FN tab
noncomputable def tev (tb:List FS) (hs:List JM) (o:Option Tr) (ps:List PT) (r:RT) (xs:HP tab.car ps) (hp:zwj tab ps xs):Option (RTI tab.car r):=match o with
 |some t=>zd7 tb 100000 (toR r) t hs (vPs ps xs hp) [] []
 |none=>none
theorem zEW {f:Nat} {ps:List PT} {r:RT} {φ:HP tab.car ps→Option (RTI tab.car r)} (tb:List FS) (hs:List JM) (h: ∀xs hp,tev tb hs (zFm Tryz.prog sgs f) ps r xs hp=φ xs) (hk: ∀xs y,zGg Tryz.prog sgs f (zls tab ps xs) (zuT tab r y)=true) (xs:HP tab.car ps) (y:RTI tab.car r) (hp:zwj tab ps xs) (e:φ xs=some y):tab.Rt f (zls tab ps xs) (zuT tab r y):=by
 rw [←h xs hp]at e
 unfold tev at e
 split at e
 ·rename_i t ht
  refine ziQ ht (hk xs y) ?_
  unfold Den
  rw [←zz3 ps xs hp]
  exact zbs tb 100000 (fa:= []) (fun _ h=>nomatch h) (fun _ h=>nomatch h) (fun v hv=>zw6 r hv) .nil e
 ·cases e
noncomputable def mkF (f:Nat) (ps:List PT) (r:RT) (φ:HP tab.car ps→Option (RTI tab.car r)) (tb:List FS) (hs:List JM) (h: ∀xs hp,tev tb hs (zFm Tryz.prog sgs f) ps r xs hp=φ xs) (hk: ∀xs y,zGg Tryz.prog sgs f (zls tab ps xs) (zuT tab r y)=true):FS:=
 ⟨f,ps,r,φ,fun xs y hp e=>zEW tb hs h hk xs y hp e,false,fun h=>by cases h⟩
noncomputable def mkP (d:FS) (h: ∀y,zy6 d.f (zuT tab d.r y)=true):FS:=
 ⟨d.f,d.ps,d.r,d.φ,d.ok,true,fun _ xs y hx e=>zzr (d.ok xs y hx e) (h y)⟩
noncomputable def mkH (f:Nat) (ps:List PT) (r:RT) (φ:HP tab.car ps→Option (RTI tab.car r)) (ok: ∀xs y,zwj tab ps xs→φ xs=some y→tab.Rt f (zls tab ps xs) (zuT tab r y)):FS:=⟨f,ps,r,φ,ok,false,fun h=>by cases h⟩
end Go.Proofs.YtfkblfjloegahaaGreatDoor
end
section
namespace Go.Proofs.YtfkblfjloegahaaGreatDoor
open Go.RowKit
set_option maxRecDepth 100000
set_option maxHeartbeats 4000000
noncomputable def zfk:FS:=mkH 268 [.v .s, .v .s] (.v (.i .i64)) (fun x=>zaX x.1 x.2.1) fun x r _ h=>ziV x.1 x.2.1 r h
noncomputable def zhi:FS:=mkH 257 [.v .s, .v (.i .u8)] (.v (.i .i64)) (fun x=>zbp x.1 x.2.1) fun x r _ h=>zhf x.1 x.2.1 r h
noncomputable def zsm:FS:=mkH 225 [.v .s, .v (.i .i64), .v (.i .i64)] (.tu (.cons (.v (.i .i64)) (.cons (.v .b) .nil))) (fun x=>zhZ x.1 x.2.1 x.2.2.1) fun x r _ h=>zr7 x.1 x.2.1 x.2.2.1 r h
noncomputable def zsQ:FS:=mkH 198 [.v (.i .i64)] (.v .s) (fun x=>zj5 x.1) fun x r _ h=>zsM x.1 r h
noncomputable def zrx:FS:=mkH 292 [.v .s, .v .s] (.v (.i .i64)) (fun x=>zgC x.1 x.2.1) fun x r _ h=>zrX x.1 x.2.1 r h
noncomputable def zr6:FS:=mkH 160 [.v (.l .s), .v .s] (.v .s) (fun x=>zh9 x.1 x.2.1) fun x r _ h=>zsC x.1 x.2.1 r h
noncomputable def zoZ:FS:=mkH 291 [.v .s, .v (.i .i64)] (.v (.l .s)) (fun x=>zhC x.1 x.2.1) fun x r _ h=>zoN x.1 x.2.1 r h
noncomputable def zfr:FS:=mkH 200 [.v (.l (.st 0)), .v (.i .i64), .v (.l (.st 0))] (.v (.l (.st 0))) (fun x=>zqd x.1 x.2.1 x.2.2.1) fun x r hp h=>zEi (t:=37) (it:=3) (el:=108) (K:=3) (by kernel_rfl) (fun _=>by kernel_rfl) zAS h
noncomputable def zlm:FS:=mkF 105 [.v (.l .s), .v (.i .i64)] (.v (.i .i64)) (fun x=>zc1 x.1 x.2.1) [] [.sp [.i .i64, .i .i64]] (fun _ _=>by kernel_rfl) (fun _ _=>by kernel_rfl)
noncomputable def zvd:FS:=mkF 149 [.v (.st 1), .v (.i .i64)] (.v (.i .i64)) (fun x=>zgv x.1 x.2.1) [] [] (fun _ _=>by kernel_rfl) (fun _ _=>by kernel_rfl)
noncomputable def ztG:FS:=mkF 106 [.v (.l (.st 1)), .v (.i .i64)] (.v (.i .i64)) (fun x=>zfF x.1 x.2.1) [zvd] [.sp [.i .i64, .i .i64]] (fun _ _=>by kernel_rfl) (fun _ _=>by kernel_rfl)
noncomputable def zsg:FS:=mkF 60 [.v (.st 2), .v (.i .i64)] (.v (.i .i64)) (fun x=>zfb x.1 x.2.1) [zlm,ztG] [] (fun _ _=>by kernel_rfl) (fun _ _=>by kernel_rfl)
noncomputable def zrU:FS:=mkF 28 [.v (.l (.st 2)), .v (.i .i64)] (.v (.i .i64)) (fun x=>zgE x.1 x.2.1) [zsg] [.sp [.i .i64, .i .i64]] (fun _ _=>by kernel_rfl) (fun _ _=>by kernel_rfl)
noncomputable def zux:FS:=mkF 29 [.v (.l (.i .i64)), .v (.i .i64)] (.v (.i .i64)) (fun x=>zi4 x.1 x.2.1) [] [] (fun _ _=>by kernel_rfl) (fun _ _=>by kernel_rfl)
noncomputable def zso:FS:=mkF 61 [.v (.st 0), .v (.i .i64)] (.v (.i .i64)) (fun x=>ze3 x.1 x.2.1) [] [] (fun _ _=>by kernel_rfl) (fun _ _=>by kernel_rfl)
noncomputable def zrL:FS:=mkF 30 [.v (.l (.st 0)), .v (.i .i64)] (.v (.i .i64)) (fun x=>zeg x.1 x.2.1) [zso] [.sp [.i .i64, .i .i64]] (fun _ _=>by kernel_rfl) (fun _ _=>by kernel_rfl)
noncomputable def zj9:FS:=mkF 6 [.v (.st 3), .v (.i .i64)] (.v (.i .i64)) (fun x=>ze9 x.1 x.2.1) [zrU,zux,zrL] [] (fun _ _=>by kernel_rfl) (fun _ _=>by kernel_rfl)
noncomputable def zvQ:FS:=mkF 62 [.v (.st 4), .v (.i .i64)] (.v (.i .i64)) (fun x=>ziu x.1 x.2.1) [zlm] [] (fun _ _=>by kernel_rfl) (fun _ _=>by kernel_rfl)
noncomputable def zqC:FS:=mkF 31 [.v (.st 5), .v (.i .i64)] (.v (.i .i64)) (fun x=>zgL x.1 x.2.1) [zvQ] [] (fun _ _=>by kernel_rfl) (fun _ _=>by kernel_rfl)
noncomputable def zhq:FS:=mkF 7 [.v (.st 6), .v (.i .i64)] (.v (.i .i64)) (fun x=>zds x.1 x.2.1) [zqC] [] (fun _ _=>by kernel_rfl) (fun _ _=>by kernel_rfl)
noncomputable def zlj:FS:=mkF 112 [.v (.l .s)] (.v (.l .s)) (fun x=>zc5 x.1) [] [.sp [.i .i64, .l .s]] (fun _ _=>by kernel_rfl) (fun _ _=>by kernel_rfl)
noncomputable def zvM:FS:=mkF 154 [.v (.st 1)] (.v (.st 1)) (fun x=>zjM x.1) [] [] (fun _ _=>by kernel_rfl) (fun _ _=>by kernel_rfl)
noncomputable def zt3:FS:=mkF 113 [.v (.l (.st 1))] (.v (.l (.st 1))) (fun x=>zfG x.1) [zvM] [.sp [.i .i64, .l (.st 1)]] (fun _ _=>by kernel_rfl) (fun _ _=>by kernel_rfl)
noncomputable def zr8:FS:=mkF 66 [.v (.st 2)] (.v (.st 2)) (fun x=>ze0 x.1) [zlj,zt3] [] (fun _ _=>by kernel_rfl) (fun _ _=>by kernel_rfl)
noncomputable def zqt:FS:=mkF 34 [.v (.l (.st 2))] (.v (.l (.st 2))) (fun x=>zgU x.1) [zr8] [.sp [.i .i64, .l (.st 2)]] (fun _ _=>by kernel_rfl) (fun _ _=>by kernel_rfl)
noncomputable def ztM:FS:=mkF 35 [.v (.l (.i .i64))] (.v (.l (.i .i64))) (fun x=>zi8 x.1) [] [.sp [.i .i64, .l (.i .i64)]] (fun _ _=>by kernel_rfl) (fun _ _=>by kernel_rfl)
noncomputable def zr4:FS:=mkF 67 [.v (.st 0)] (.v (.st 0)) (fun x=>zh6 x.1) [] [] (fun _ _=>by kernel_rfl) (fun _ _=>by kernel_rfl)
noncomputable def zrE:FS:=mkF 36 [.v (.l (.st 0))] (.v (.l (.st 0))) (fun x=>zei x.1) [zr4] [.sp [.i .i64, .l (.st 0)]] (fun _ _=>by kernel_rfl) (fun _ _=>by kernel_rfl)
noncomputable def zkh:FS:=mkF 9 [.v (.st 3)] (.v (.st 3)) (fun x=>za4 x.1) [zqt,ztM,zrE] [] (fun _ _=>by kernel_rfl) (fun _ _=>by kernel_rfl)
noncomputable def zvr:FS:=mkF 68 [.v (.st 4)] (.v (.st 4)) (fun x=>ziq x.1) [zlj] [] (fun _ _=>by kernel_rfl) (fun _ _=>by kernel_rfl)
noncomputable def zqW:FS:=mkF 37 [.v (.st 5)] (.v (.st 5)) (fun x=>zgB x.1) [zvr] [] (fun _ _=>by kernel_rfl) (fun _ _=>by kernel_rfl)
noncomputable def zho:FS:=mkF 10 [.v (.st 6)] (.v (.st 6)) (fun x=>za2 x.1) [zqW] [] (fun _ _=>by kernel_rfl) (fun _ _=>by kernel_rfl)
noncomputable def zc7:FS:=mkF 64 [.v (.i .i64), .v (.i .i64), .v (.i .i64)] (.v .b) (fun x=>zbE x.1 x.2.1 x.2.2.1) [] [] (fun _ _=>by kernel_rfl) (fun _ _=>by kernel_rfl)
noncomputable def zky:FS:=mkF 171 [.v .s, .v (.i .i64)] (.v .b) (fun x=>zdn x.1 x.2.1) [] [.sp [.i .i64]] (fun _ _=>by kernel_rfl) (fun _ _=>by kernel_rfl)
noncomputable def zpA:FS:=mkF 211 [.v (.l .s), .v .s] (.v (.i .i64)) (fun x=>zib x.1 x.2.1) [] [.sp [.i .i64]] (fun _ _=>by kernel_rfl) (fun _ _=>by kernel_rfl)
noncomputable def zst:FS:=mkF 172 [.v (.l .s)] (.v .b) (fun x=>zh3 x.1) [zc7,zky,zpA] [.sp [.i .i64]] (fun _ _=>by kernel_rfl) (fun _ _=>by kernel_rfl)
noncomputable def ziE:FS:=mkF 129 [.v (.st 2)] (.v .b) (fun x=>zcl x.1) [zky,zst,zc7] [.sp [.i .i64]] (fun _ _=>by kernel_rfl) (fun _ _=>by kernel_rfl)
noncomputable def zfE:FS:=mkF 130 [.v (.st 2), .v .s] (.v (.i .i64)) (fun x=>zbx x.1 x.2.1) [] [.sp [.i .i64]] (fun _ _=>by kernel_rfl) (fun _ _=>by kernel_rfl)
noncomputable def zla:FS:=mkF 89 [.v (.st 2)] (.v (.st 2)) (fun x=>zfK x.1) [] [] (fun _ _=>by kernel_rfl) (fun _ _=>by kernel_rfl)
noncomputable def zuD:FS:=mkF 173 [.v (.st 2), .v .s, .v (.i .i64)] (.v (.st 2)) (fun x=>zgV x.1 x.2.1 x.2.2.1) [zla,zfE] [] (fun _ _=>by kernel_rfl) (fun _ _=>by kernel_rfl)
noncomputable def zue:FS:=mkF 131 [.v (.st 2), .v .s, .v (.i .i64)] (.v (.l (.st 2))) (fun x=>zje x.1 x.2.1 x.2.2.1) [zla,zfE,zuD] [.sp [.i .i64, .l (.st 2)], .inl] (fun _ _=>by kernel_rfl) (fun _ _=>by kernel_rfl)
noncomputable def znH:FS:=mkF 132 [.v (.st 2), .v (.st 2)] (.v .b) (fun x=>zfm x.1 x.2.1) [] [.sp [.i .i64], .sp [.i .i64]] (fun _ _=>by kernel_rfl) (fun _ _=>by kernel_rfl)
noncomputable def ztx:FS:=mkF 174 [.v (.i .i64), .v (.i .i64)] (.v (.i .i64)) (fun x=>zi2 x.1 x.2.1) [] [] (fun _ _=>by kernel_rfl) (fun _ _=>by kernel_rfl)
noncomputable def zuA:FS:=mkF 133 [.v (.st 2), .v (.st 2)] (.v (.i .i64)) (fun x=>ziX x.1 x.2.1) [ztx] [.sp [.i .i64, .i .i64]] (fun _ _=>by kernel_rfl) (fun _ _=>by kernel_rfl)
noncomputable def zsz:FS:=mkF 85 [.v (.st 3)] (.v .b) (fun x=>zfa x.1) [zc7,ziE,zfE,zue,znH,zuA] [.sp [.i .i64]] (fun _ _=>by kernel_rfl) (fun _ _=>by kernel_rfl)
noncomputable def zvn:FS:=mkF 86 [.v (.l (.i .i64)), .v (.i .i64), .v (.i .i64)] (.v .b) (fun x=>zjT x.1 x.2.1 x.2.2.1) [zc7] [.sp [.i .i64]] (fun _ _=>by kernel_rfl) (fun _ _=>by kernel_rfl)
noncomputable def zke:FS:=mkF 219 [.v .s, .v .s] (.v .b) (fun x=>ze8 x.1 x.2.1) [] [.sp [.i .i64], .sp [.b, .i .i64]] (fun _ _=>by kernel_rfl) (fun _ _=>by kernel_rfl)
noncomputable def zpp:FS:=mkF 212 [.v .s] (.v .b) (fun x=>zim x.1) [zc7,zke] [] (fun _ _=>by kernel_rfl) (fun _ _=>by kernel_rfl)
noncomputable def zps:FS:=mkF 213 [.v .s] (.v .b) (fun x=>zif x.1) [zke] [] (fun _ _=>by kernel_rfl) (fun _ _=>by kernel_rfl)
noncomputable def zsG:FS:=mkF 175 [.v .s, .v .s, .v .b] (.v .b) (fun x=>zhR x.1 x.2.1 x.2.2.1) [zpp,zps] [] (fun _ _=>by kernel_rfl) (fun _ _=>by kernel_rfl)
noncomputable def zq1:FS:=mkF 134 [.v (.l (.st 0))] (.v .b) (fun x=>zgH x.1) [zsG] [.sp [.i .i64]] (fun _ _=>by kernel_rfl) (fun _ _=>by kernel_rfl)
noncomputable def zi9:FS:=mkF 87 [.v (.l (.st 0))] (.v .b) (fun x=>zdc x.1) [zq1] [.sp [.i .i64]] (fun _ _=>by kernel_rfl) (fun _ _=>by kernel_rfl)
noncomputable def zlk:FS:=mkF 53 [.v (.st 3)] (.v .b) (fun x=>zeY x.1) [zsz,zc7,zvn,zi9] [] (fun _ _=>by kernel_rfl) (fun _ _=>by kernel_rfl)
noncomputable def zqQ:FS:=mkF 107 [.v (.st 5)] (.v .b) (fun x=>zma x.1) [] [] (fun _ _=>by kernel_rfl) (fun _ _=>by kernel_rfl)
noncomputable def zlE:FS:=mkF 189 [.v .s] (.v .b) (fun x=>zeo x.1) [zc7,zke] [] (fun _ _=>by kernel_rfl) (fun _ _=>by kernel_rfl)
noncomputable def zmS:FS:=mkF 150 [.v (.st 2), .v (.st 4)] (.v .b) (fun x=>zdj x.1 x.2.1) [zlE] [.sp [.i .i64]] (fun _ _=>by kernel_rfl) (fun _ _=>by kernel_rfl)
noncomputable def zmZ:FS:=mkF 108 [.v (.st 2), .v (.st 5)] (.v .b) (fun x=>zfZ x.1 x.2.1) [zmS] [] (fun _ _=>by kernel_rfl) (fun _ _=>by kernel_rfl)
noncomputable def zmU:FS:=mkF 63 [.v (.st 3), .v (.st 6)] (.v .b) (fun x=>ze5 x.1 x.2.1) [zc7,zqQ,zmZ] [] (fun _ _=>by kernel_rfl) (fun _ _=>by kernel_rfl)
noncomputable def zju:FS:=mkF 32 [.v (.st 3), .v (.st 6)] (.v .b) (fun x=>zdy x.1 x.2.1) [zlk,zmU] [] (fun _ _=>by kernel_rfl) (fun _ _=>by kernel_rfl)
noncomputable def zv6:FS:=mkF 88 [.v (.l (.i .i64))] (.v (.l (.i .i64))) (fun x=>zjY x.1) [] [] (fun _ _=>by kernel_rfl) (fun _ _=>by kernel_rfl)
noncomputable def znQ:FS:=mkF 55 [.v (.st 3)] (.v (.st 3)) (fun x=>zg2 x.1) [zv6,zla] [.sp [.i .i64, .l (.st 2)]] (fun _ _=>by kernel_rfl) (fun _ _=>by kernel_rfl)
noncomputable def zsb:FS:=mkF 109 [.v (.st 2), .v (.st 5)] (.v .b) (fun x=>zh8 x.1 x.2.1) [ziE,zmZ] [] (fun _ _=>by kernel_rfl) (fun _ _=>by kernel_rfl)
noncomputable def zsk:FS:=mkF 224 [.v (.l .s), .v .s] (.v .s) (fun x=>zki x.1 x.2.1) [] [.sp [.s, .i .i64], .inl] (fun _ _=>by kernel_rfl) (fun _ _=>by kernel_rfl)
noncomputable def zlG:FS:=mkF 193 [.v (.st 2), .v (.st 4)] (.v (.st 0)) (fun x=>zdw x.1 x.2.1) [zsk] [] (fun _ _=>by kernel_rfl) (fun _ _=>by kernel_rfl)
noncomputable def zsL:FS:=mkF 152 [.v (.st 2), .v (.st 5)] (.v (.l (.st 7))) (fun x=>zhU x.1 x.2.1) [zlG] [] (fun _ _=>by kernel_rfl) (fun _ _=>by kernel_rfl)
noncomputable def zlA:FS:=mkF 194 [.v (.st 2), .v (.st 1), .v (.st 4)] (.v .s) (fun x=>zes x.1 x.2.1 x.2.2.1) [] [] (fun _ _=>by kernel_rfl) (fun _ _=>by kernel_rfl)
noncomputable def zuP:FS:=mkF 153 [.v (.st 2), .v (.st 1), .v (.st 5)] (.v (.l (.st 7))) (fun x=>zgP x.1 x.2.1 x.2.2.1) [zlA] [.sp [.s], .pt, .pt, .inl] (fun _ _=>by kernel_rfl) (fun _ _=>by kernel_rfl)
end Go.Proofs.YtfkblfjloegahaaGreatDoor
end
section
namespace Go.Proofs.YtfkblfjloegahaaGreatDoor
open Go.RowKit
set_option maxRecDepth 100000
set_option maxHeartbeats 4000000
noncomputable def ztQ:FS:=mkF 111 [.v (.st 2), .v (.st 5)] (.v (.l (.st 7))) (fun x=>zi7 x.1 x.2.1) [zsL,zuP] [.sp [.i .i64, .l (.st 7)]] (fun _ _=>by kernel_rfl) (fun _ _=>by kernel_rfl)
noncomputable def zwq:FS:=mkF 220 [.v (.st 7)] (.v .b) (fun x=>zkP x.1) [zpp,zps,zc7] [.pt, .inl] (fun _ _=>by kernel_rfl) (fun _ _=>by kernel_rfl)
noncomputable def zt7:FS:=mkF 190 [.v (.l (.st 7))] (.v .b) (fun x=>zjc x.1) [zwq] [.sp [.i .i64]] (fun _ _=>by kernel_rfl) (fun _ _=>by kernel_rfl)
noncomputable def zqR:FS:=mkF 243 [.v (.l (.st 0)), .v (.l (.st 8)), .v .s] (.tu (.cons (.v .s) (.cons (.v .b) (.cons (.v .b) .nil)))) (fun x=>zgT x.1 x.2.1 x.2.2.1) [] [.sp [.i .i64], .sp [.i .i64]] (fun _ _=>by kernel_rfl) (fun _ _=>by kernel_rfl)
noncomputable def zub:FS:=mkF 258 [.v .s] (.v (.i .i64)) (fun x=>zg0 x.1) [zc7] [.sp [.i .i64, .i .i64]] (fun _ _=>by kernel_rfl) (fun _ _=>by kernel_rfl)
noncomputable def zpr:FS:=mkF 245 [.v .s] (.tu (.cons (.v (.i .i64)) (.cons (.v .b) .nil))) (fun x=>ziw x.1) [zub] [.pt] (fun _ _=>by kernel_rfl) (fun _ _=>by kernel_rfl)
noncomputable def zsD:FS:=mkF 244 [.v (.st 7), .v .s, .v .b] (.v .b) (fun x=>zh0 x.1 x.2.1 x.2.2.1) [zpr,zc7] [] (fun _ _=>by kernel_rfl) (fun _ _=>by kernel_rfl)
noncomputable def zor:FS:=mkF 223 [.v (.l (.st 0)), .v (.st 0)] (.v (.l (.st 0))) (fun x=>zdX x.1 x.2.1) [] [.sp [.i .i64]] (fun _ _=>by kernel_rfl) (fun _ _=>by kernel_rfl)
theorem zpw: ∀(n:Nat) (xs:HP tab.car [.v (.i .i64)]) (y:RTI tab.car (.v .s)),zwj tab [.v (.i .i64)] xs→((fun x=>zfW n x.1):HP tab.car [.v (.i .i64)]→Option (RTI tab.car (.v .s))) xs=some y→tab.Rt 259 (zls tab [.v (.i .i64)] xs) (zuT tab (.v .s) y)
 |0,_,_,_,h=>nomatch h
 |n+1,xs,y,hp,h=>zEW (ps:= [.v (.i .i64)]) (r:=(.v .s)) [mkH 259 [.v (.i .i64)] (.v .s) (fun x=>zfW n x.1) (zpw n)] [] (φ:=(fun x=>zfW (n+1) x.1)) (fun _ _=>by kernel_rfl) (fun _ _=>by kernel_rfl) xs y hp h
noncomputable def zvb:FS:=mkH 259 [.v (.i .i64)] (.v .s) (fun x=>zmd x.1) (zpw zD4)
noncomputable def zut:FS:=mkF 246 [.v (.i .i64)] (.v .s) (fun x=>zkT x.1) [zvb] [] (fun _ _=>by kernel_rfl) (fun _ _=>by kernel_rfl)
noncomputable def ztO:FS:=mkF 221 [.v (.l (.st 7)), .v (.l (.st 8))] (.tu (.cons (.v (.i .i64)) (.cons (.v .s) (.cons (.v (.l (.st 0))) .nil)))) (fun x=>zkK x.1 x.2.1) [zqR,zsD,zor,zpr,zut] [.sp [.l (.st 0), .i .i64], .inl, .inl] (fun _ _=>by kernel_rfl) (fun _ _=>by kernel_rfl)
noncomputable def zt6:FS:=mkF 222 [.v (.l (.st 0)), .v .s] (.v (.st 8)) (fun x=>zi5 x.1 x.2.1) [] [.sp [.i .i64]] (fun _ _=>by kernel_rfl) (fun _ _=>by kernel_rfl)
noncomputable def zsB:FS:=mkF 191 [.v (.l (.st 0)), .v (.l (.st 7))] (.tu (.cons (.v (.l (.st 8))) (.cons (.v (.l (.st 0))) (.cons (.v .b) .nil)))) (fun x=>zkc x.1 x.2.1) [ztO,zt6] [.sp [.l (.st 8)]] (fun _ _=>by kernel_rfl) (fun _ _=>by kernel_rfl)
noncomputable def zpG:FS:=mkF 192 [.v (.l (.st 0)), .v (.l (.st 0))] (.v (.l (.st 0))) (fun x=>zf9 x.1 x.2.1) [zor] [.sp [.i .i64, .l (.st 0)], .sp [.l (.st 0), .i .i64], .inl] (fun _ _=>by kernel_rfl) (fun _ _=>by kernel_rfl)
noncomputable def zpW:FS:=mkF 151 [.v (.l (.st 0)), .v (.l (.l (.st 7)))] (.tu (.cons (.v (.l (.st 0))) (.cons (.v (.l .b)) (.cons (.v .b) .nil)))) (fun x=>zf8 x.1 x.2.1) [zi9,zsB,zpG,zt7] [.sp [.i .i64], .sp [.l .b, .i .i64, .l (.st 0)], .inl] (fun _ _=>by kernel_rfl) (fun _ _=>by kernel_rfl)
noncomputable def zu3:FS:=mkF 110 [.v (.l (.st 0)), .v (.l (.st 7))] (.tu (.cons (.v (.l (.st 0))) (.cons (.v .b) .nil))) (fun x=>zjV x.1 x.2.1) [zpW] [] (fun _ _=>by kernel_rfl) (fun _ _=>by kernel_rfl)
noncomputable def zu9:FS:=mkF 65 [.v (.st 2), .v (.l (.st 0)), .v (.st 5)] (.tu (.cons (.v (.l (.st 0))) (.cons (.v .b) (.cons (.v .b) .nil)))) (fun x=>zjO x.1 x.2.1 x.2.2.1) [zsb,zi9,ztQ,zu3] [] (fun _ _=>by kernel_rfl) (fun _ _=>by kernel_rfl)
noncomputable def zlU:FS:=mkF 33 [.v (.st 3), .v (.st 6)] (.tu (.cons (.v (.st 3)) (.cons (.v .b) .nil))) (fun x=>zeB x.1 x.2.1) [znQ,zc7,zu9] [] (fun _ _=>by kernel_rfl) (fun _ _=>by kernel_rfl)
noncomputable def zpU:FS:=mkF 8 [.v (.st 3), .v (.st 6)] (.tu (.cons (.v (.st 3)) (.cons (.v .b) (.cons (.v .b) .nil)))) (fun x=>zf4 x.1 x.2.1) [zju,zlU] [] (fun _ _=>by kernel_rfl) (fun _ _=>by kernel_rfl)
noncomputable def zcB:FS:=mkF 69 [.v (.i .i64), .v (.i .i64), .v (.i .i64)] (.v .b) (fun x=>zbe x.1 x.2.1 x.2.2.1) [] [] (fun _ _=>by kernel_rfl) (fun _ _=>by kernel_rfl)
noncomputable def zp3:FS:=mkF 177 [.v (.l (.st 0))] (.v (.l .s)) (fun x=>zgc x.1) [] [.sp [.i .i64, .l .s]] (fun _ _=>by kernel_rfl) (fun _ _=>by kernel_rfl)
noncomputable def zl3:FS:=mkF 241 [.v (.i .u8)] (.v .b) (fun x=>zfy x.1) [] [] (fun _ _=>by kernel_rfl) (fun _ _=>by kernel_rfl)
noncomputable def zm4:FS:=mkF 242 [.v .s, .v (.i .u8)] (.v (.i .i64)) (fun x=>zgo x.1 x.2.1) [zhi] [] (fun _ _=>by kernel_rfl) (fun _ _=>by kernel_rfl)
noncomputable def zjw:FS:=mkF 218 [.v .s, .v .s] (.v .b) (fun x=>zem x.1 x.2.1) [zl3,zm4] [.sp [.i .i64]] (fun _ _=>by kernel_rfl) (fun _ _=>by kernel_rfl)
noncomputable def zsJ:FS:=mkF 214 [.v .s] (.v .b) (fun x=>zhV x.1) [zcB,zjw] [] (fun _ _=>by kernel_rfl) (fun _ _=>by kernel_rfl)
noncomputable def zpZ:FS:=mkF 176 [.v (.l .s)] (.v .b) (fun x=>zge x.1) [zsJ] [.sp [.i .i64]] (fun _ _=>by kernel_rfl) (fun _ _=>by kernel_rfl)
noncomputable def zb8:FS:=mkH 180 [.v (.l (.st 0)), .fn [.st 0] .b] (.v (.i .i64)) (fun x=>zbt x.1 (fun y=>x.2.1.φ (y,()))) fun x r hp h=>ziQ (f:=180) (t:=zzf 3) (by kernel_rfl) (by kernel_rfl) (zwX (av:=(zio tab.av (.st 0))) (cn:=3) (fun _=>⟨_,rfl,rfl⟩) h (fun y b hb=>hp.2.1 (y,()) b hb))
noncomputable def zbS:FS:=mkH 136 [.v (.l (.st 0)), .fn [.st 0] .b] (.v .b) (fun x=>zaV x.1 (fun y=>x.2.1.φ (y,()))) fun x r hp h=>ziQ (f:=136) (t:=zx4 180) (by kernel_rfl) (by kernel_rfl) (ztB h fun r hr=>zb8.ok x r hp hr)
noncomputable def zsp:FS:=mkF 215 [.v .s] (.v .b) (fun x=>zhT x.1) [zjw] [] (fun _ _=>by kernel_rfl) (fun _ _=>by kernel_rfl)
noncomputable def zrQ:FS:=mkF 179 [.v .s, .v .b] (.v .b) (fun x=>zgM x.1 x.2.1) [zsp] [] (fun _ _=>by kernel_rfl) (fun _ _=>by kernel_rfl)
noncomputable def znx:FS:=mkF 178 [.v (.st 0)] (.v .b) (fun x=>zeC x.1) [zrQ] [] (fun _ _=>by kernel_rfl) (fun _ _=>by kernel_rfl)
noncomputable def zmE:FS:=mkP znx fun _=>by kernel_rfl
noncomputable def zoA:FS:=mkF 135 [.v (.l (.st 0))] (.v .b) (fun x=>zfB x.1) [zp3,zpZ,zbS,zmE] [] (fun _ _=>by kernel_rfl) (fun _ _=>by kernel_rfl)
noncomputable def zq4:FS:=mkF 137 [.v (.st 0)] (.v .b) (fun x=>zgY x.1) [] [] (fun _ _=>by kernel_rfl) (fun _ _=>by kernel_rfl)
noncomputable def zpX:FS:=mkP zq4 fun _=>by kernel_rfl
noncomputable def zuI:FS:=mkF 90 [.v (.l (.st 0))] (.v .b) (fun x=>zjh x.1) [zoA,zbS,zpX] [] (fun _ _=>by kernel_rfl) (fun _ _=>by kernel_rfl)
noncomputable def zeM:FS:=mkH 138 [.v (.l (.st 2)), .fn [.st 2] .b] (.v (.i .i64)) (fun x=>zbt x.1 (fun y=>x.2.1.φ (y,()))) fun x r hp h=>ziQ (f:=138) (t:=zzf 3) (by kernel_rfl) (by kernel_rfl) (zwX (av:=(zio tab.av (.st 2))) (cn:=3) (fun _=>⟨_,rfl,rfl⟩) h (fun y b hb=>hp.2.1 (y,()) b hb))
noncomputable def zd8:FS:=mkH 91 [.v (.l (.st 2)), .fn [.st 2] .b] (.v .b) (fun x=>zaV x.1 (fun y=>x.2.1.φ (y,()))) fun x r hp h=>ziQ (f:=91) (t:=zx4 138) (by kernel_rfl) (by kernel_rfl) (ztB h fun r hr=>zeM.ok x r hp hr)
noncomputable def zoV:FS:=mkF 181 [.v .s, .v (.i .i64)] (.v .b) (fun x=>zdl x.1 x.2.1) [zcB] [.sp [.i .i64]] (fun _ _=>by kernel_rfl) (fun _ _=>by kernel_rfl)
noncomputable def zhF:FS:=mkF 216 [.v (.l .s), .v .s] (.v (.i .i64)) (fun x=>zby x.1 x.2.1) [] [.sp [.i .i64]] (fun _ _=>by kernel_rfl) (fun _ _=>by kernel_rfl)
noncomputable def zdJ:FS:=mkF 182 [.v (.l .s), .v .s] (.v .b) (fun x=>zaL x.1 x.2.1) [zhF] [] (fun _ _=>by kernel_rfl) (fun _ _=>by kernel_rfl)
noncomputable def zsv:FS:=mkF 183 [.v (.i .i64)] (.v .b) (fun x=>zj7 x.1) [zcB] [] (fun _ _=>by kernel_rfl) (fun _ _=>by kernel_rfl)
noncomputable def zpH:FS:=mkF 139 [.v (.st 2)] (.v .b) (fun x=>zf5 x.1) [zoV,zcB,zsv,zdJ] [.sp [.i .i64], .sp [.i .i64]] (fun _ _=>by kernel_rfl) (fun _ _=>by kernel_rfl)
noncomputable def zfz:FS:=mkH 184 [.v (.l (.st 1)), .fn [.st 1] .b] (.v (.i .i64)) (fun x=>zbt x.1 (fun y=>x.2.1.φ (y,()))) fun x r hp h=>ziQ (f:=184) (t:=zzf 3) (by kernel_rfl) (by kernel_rfl) (zwX (av:=(zio tab.av (.st 1))) (cn:=3) (fun _=>⟨_,rfl,rfl⟩) h (fun y b hb=>hp.2.1 (y,()) b hb))
noncomputable def zkm:FS:=mkF 185 [.v (.st 1), .rf .s] (.v .b) (fun x=>zew x.1 x.2.1) [] [] (fun _ _=>by kernel_rfl) (fun _ _=>by kernel_rfl)
noncomputable def zkf:FS:=mkP zkm fun _=>by kernel_rfl
noncomputable def zfh:FS:=mkF 140 [.v (.st 2), .v .s] (.v (.i .i64)) (fun x=>zbN x.1 x.2.1) [zfz,zkf] [] (fun _ _=>by kernel_rfl) (fun _ _=>by kernel_rfl)
noncomputable def ztW:FS:=mkF 93 [.v (.st 2), .v .s] (.v .b) (fun x=>zjg x.1 x.2.1) [zpH,zfh] [] (fun _ _=>by kernel_rfl) (fun _ _=>by kernel_rfl)
noncomputable def zok:FS:=mkF 92 [.v (.st 2), .rf (.st 3)] (.v .b) (fun x=>zgI x.1 x.2.1) [ztW] [] (fun _ _=>by kernel_rfl) (fun _ _=>by kernel_rfl)
noncomputable def znh:FS:=mkP zok fun _=>by kernel_rfl
noncomputable def ziK:FS:=mkH 141 [.v (.l (.i .i64)), .fn [.i .i64] .b] (.v (.i .i64)) (fun x=>zbt x.1 (fun y=>x.2.1.φ (y,()))) fun x r hp h=>ziQ (f:=141) (t:=zxu) (by kernel_rfl) (by kernel_rfl) (zxO (av:=(zio tab.av (.i .i64))) (fun _=>rfl) h (fun y b hb=>hp.2.1 (y,()) b hb))
noncomputable def zhh:FS:=mkH 94 [.v (.l (.i .i64)), .fn [.i .i64] .b] (.v .b) (fun x=>zaV x.1 (fun y=>x.2.1.φ (y,()))) fun x r hp h=>ziQ (f:=94) (t:=zx4 141) (by kernel_rfl) (by kernel_rfl) (ztB h fun r hr=>ziK.ok x r hp hr)
noncomputable def znO:FS:=mkF 95 [.v (.i .i64), .rf (.st 3)] (.v .b) (fun x=>zg3 x.1 x.2.1) [zcB] [] (fun _ _=>by kernel_rfl) (fun _ _=>by kernel_rfl)
noncomputable def znE:FS:=mkP znO fun _=>by kernel_rfl
noncomputable def zhd:FS:=mkF 142 [.v (.st 2), .v .s] (.v (.st 1)) (fun x=>zbF x.1 x.2.1) [zfh] [] (fun _ _=>by kernel_rfl) (fun _ _=>by kernel_rfl)
noncomputable def zhk:FS:=mkF 98 [.v (.st 3), .v (.st 2)] (.v (.i .i64)) (fun x=>zbH x.1 x.2.1) [zhd] [] (fun _ _=>by kernel_rfl) (fun _ _=>by kernel_rfl)
noncomputable def zeh:FS:=mkH 146 [.v (.l .s)] (.v (.l .s)) (fun x=>za0 x.1) fun x r hp h=>ziQ (f:=146) (t:=zs4 16 1) (by kernel_rfl) (by kernel_rfl) (zoc (bytes:=16) (sz:=1) (av:=(zio tab.av .s)) (fun x=>⟨zl8 _ x,zgt (by kernel_rfl) x⟩) h)
noncomputable def zgp:FS:=mkH 147 [.v (.l (.st 1))] (.v (.l (.st 1))) (fun x=>zbW x.1) fun x r hp h=>ziQ (f:=147) (t:=zs4 32 3) (by kernel_rfl) (by kernel_rfl) (zoc (bytes:=32) (sz:=3) (av:=(zio tab.av (.st 1))) (fun x=>⟨zl8 _ x,zgt (by kernel_rfl) x⟩) h)
noncomputable def ziy:FS:=mkF 102 [.v (.st 2)] (.v (.st 2)) (fun x=>zdP x.1) [zeh,zgp] [] (fun _ _=>by kernel_rfl) (fun _ _=>by kernel_rfl)
noncomputable def zkF:FS:=mkF 143 [.v (.st 2), .v .s, .v (.i .i64)] (.v (.st 2)) (fun x=>zb4 x.1 x.2.1 x.2.2.1) [ziy,zfh] [] (fun _ _=>by kernel_rfl) (fun _ _=>by kernel_rfl)
noncomputable def zmI:FS:=mkF 97 [.v (.st 2), .v .s, .v (.i .i64)] (.v (.l (.st 2))) (fun x=>zea x.1 x.2.1 x.2.2.1) [zhd,ziy,zkF] [.sp [.i .i64, .l (.st 2)], .inl] (fun _ _=>by kernel_rfl) (fun _ _=>by kernel_rfl)
noncomputable def zbV:FS:=mkF 96 [.v (.l (.st 2)), .v (.l (.st 2)), .fn [.st 2, .st 2] .b] (.v .b) (fun x=>zal x.1 x.2.1 (fun y0 y1=>x.2.2.1.φ (y0,y1,()))) [] [.sp [.i .i64]] (fun _ _=>by kernel_rfl) (fun _ _=>by kernel_rfl)
noncomputable def zhE:FS:=mkF 144 [.v (.l .s), .v (.l .s)] (.v .b) (fun x=>zbw x.1 x.2.1) [] [.sp [.i .i64]] (fun _ _=>by kernel_rfl) (fun _ _=>by kernel_rfl)
noncomputable def zgj:FS:=mkF 145 [.v (.l (.st 1)), .v (.l (.st 1))] (.v .b) (fun x=>za7 x.1 x.2.1) [] [.sp [.i .i64]] (fun _ _=>by kernel_rfl) (fun _ _=>by kernel_rfl)
noncomputable def zpY:FS:=mkF 99 [.v (.st 2), .v (.st 2)] (.v .b) (fun x=>zcj x.1 x.2.1) [zhE,zgj] [] (fun _ _=>by kernel_rfl) (fun _ _=>by kernel_rfl)
noncomputable def zoz:FS:=mkP zpY fun _=>by kernel_rfl
end Go.Proofs.YtfkblfjloegahaaGreatDoor
end
section
namespace Go.Proofs.YtfkblfjloegahaaGreatDoor
open Go.RowKit
set_option maxRecDepth 100000
set_option maxHeartbeats 4000000
noncomputable def zld:FS:=mkF 56 [.v (.st 3)] (.v .b) (fun x=>zeU x.1) [zcB,zuI,zd8,znh,zhh,znE,zhk,zmI,zbV,zoz] [] (fun _ _=>by kernel_rfl) (fun _ _=>by kernel_rfl)
noncomputable def zfQ:FS:=mkF 71 [.v (.st 3), .v (.i .i64)] (.v (.st 2)) (fun x=>zaJ x.1 x.2.1) [] [] (fun _ _=>by kernel_rfl) (fun _ _=>by kernel_rfl)
noncomputable def zdz:FS:=mkH 217 [.v (.l .s), .fn [.s] .b] (.v (.i .i64)) (fun x=>zbt x.1 (fun y=>x.2.1.φ (y,()))) fun x r hp h=>ziQ (f:=217) (t:=zxu) (by kernel_rfl) (by kernel_rfl) (zxO (av:=(zio tab.av .s)) (fun _=>rfl) h (fun y b hb=>hp.2.1 (y,()) b hb))
noncomputable def zfC:FS:=mkH 186 [.v (.l .s), .fn [.s] .b] (.v .b) (fun x=>zaV x.1 (fun y=>x.2.1.φ (y,()))) fun x r hp h=>ziQ (f:=186) (t:=zx4 217) (by kernel_rfl) (by kernel_rfl) (ztB h fun r hr=>zdz.ok x r hp hr)
noncomputable def zmV:FS:=mkF 188 [.v .s] (.v .b) (fun x=>ze2 x.1) [zcB,zjw] [] (fun _ _=>by kernel_rfl) (fun _ _=>by kernel_rfl)
noncomputable def zlo:FS:=mkF 187 [.v .s] (.v .b) (fun x=>zdH x.1) [zmV] [] (fun _ _=>by kernel_rfl) (fun _ _=>by kernel_rfl)
noncomputable def zkR:FS:=mkP zlo fun _=>by kernel_rfl
noncomputable def ziR:FS:=mkF 148 [.v (.st 2), .v (.st 4)] (.v .b) (fun x=>zbd x.1 x.2.1) [zfC,zkR] [] (fun _ _=>by kernel_rfl) (fun _ _=>by kernel_rfl)
noncomputable def zk5:FS:=mkF 103 [.v (.st 2), .v (.st 5)] (.v .b) (fun x=>zdg x.1 x.2.1) [ziR] [] (fun _ _=>by kernel_rfl) (fun _ _=>by kernel_rfl)
noncomputable def zur:FS:=mkF 104 [.v (.st 5)] (.v .b) (fun x=>zkZ x.1) [] [] (fun _ _=>by kernel_rfl) (fun _ _=>by kernel_rfl)
noncomputable def zfY:FS:=mkF 58 [.v (.st 3), .v (.st 6)] (.v .b) (fun x=>zbc x.1 x.2.1) [zcB,zfQ,zk5,zur] [] (fun _ _=>by kernel_rfl) (fun _ _=>by kernel_rfl)
noncomputable def zjr:FS:=mkF 38 [.v (.st 3), .v (.st 6)] (.v .b) (fun x=>zdx x.1 x.2.1) [zld,zfY] [] (fun _ _=>by kernel_rfl) (fun _ _=>by kernel_rfl)
noncomputable def zkg:FS:=mkH 100 [.v (.l (.i .i64))] (.v (.l (.i .i64))) (fun x=>zd4 x.1) fun x r hp h=>ziQ (f:=100) (t:=zs4 8 1) (by kernel_rfl) (by kernel_rfl) (zoc (bytes:=8) (sz:=1) (av:=(zio tab.av (.i .i64))) (fun x=>⟨zl8 _ x,zgt (by kernel_rfl) x⟩) h)
noncomputable def zcH:FS:=mkH 101 [.v (.l (.st 0))] (.v (.l (.st 0))) (fun x=>zaz x.1) fun x r hp h=>ziQ (f:=101) (t:=zs4 40 3) (by kernel_rfl) (by kernel_rfl) (zoc (bytes:=40) (sz:=3) (av:=(zio tab.av (.st 0))) (fun x=>⟨zl8 _ x,zgt (by kernel_rfl) x⟩) h)
noncomputable def zln:FS:=mkF 57 [.v (.st 3)] (.v (.st 3)) (fun x=>zeS x.1) [zkg,zcH,ziy] [.sp [.i .i64, .l (.st 2)]] (fun _ _=>by kernel_rfl) (fun _ _=>by kernel_rfl)
noncomputable def zgR:FS:=mkF 117 [.v (.st 2), .v (.st 4)] (.v (.st 0)) (fun x=>zbv x.1 x.2.1) [zr6] [] (fun _ _=>by kernel_rfl) (fun _ _=>by kernel_rfl)
noncomputable def zk1:FS:=mkF 116 [.v (.i .i64), .v (.st 0), .rf (.l (.st 7))] (.tu (.cons (.tu .nil) (.cons (.bo (.l (.st 7))) .nil))) (fun x=>zax x.1 x.2.1 x.2.2.1) [] [] (fun _ _=>by kernel_rfl) (fun _ _=>by kernel_rfl)
noncomputable def zhj:FS:=mkF 161 [.v (.st 2), .v .s] (.v .s) (fun x=>zcp x.1 x.2.1) [] [] (fun _ _=>by kernel_rfl) (fun _ _=>by kernel_rfl)
noncomputable def zic:FS:=mkF 118 [.v (.st 2), .v .s, .v (.st 4)] (.v .s) (fun x=>za6 x.1 x.2.1 x.2.2.1) [zhj,zhd] [] (fun _ _=>by kernel_rfl) (fun _ _=>by kernel_rfl)
noncomputable def zr3:FS:=mkF 119 [.v (.i .i64)] (.v .b) (fun x=>zkd x.1) [] [] (fun _ _=>by kernel_rfl) (fun _ _=>by kernel_rfl)
noncomputable def zr5:FS:=mkF 120 [.v (.i .i64)] (.v .b) (fun x=>zj1 x.1) [] [] (fun _ _=>by kernel_rfl) (fun _ _=>by kernel_rfl)
noncomputable def zlP:FS:=mkF 72 [.v (.st 2), .v (.st 5)] (.v (.l (.st 7))) (fun x=>zdY x.1 x.2.1) [zr5,zk1,zr3,zic,zgR] [.sp [.s, .s, .b, .l (.st 7)], .pt, .pt, .sp [.i .i64, .l (.st 7)], .inl, .sp [.s], .pt, .pt] (fun _ _=>by kernel_rfl) (fun _ _=>by kernel_rfl)
noncomputable def zcD:FS:=mkF 227 [.v (.l (.st 0)), .v .s, .fn [.st 0, .s] (.i .i64)] (.tu (.cons (.v (.i .i64)) (.cons (.v .b) .nil))) (fun x=>zay x.1 x.2.1 (fun y0 y1=>x.2.2.1.φ (y0,y1,()))) [] [.sp [.i .i64, .i .i64]] (fun _ _=>by kernel_rfl) (fun _ _=>by kernel_rfl)
noncomputable def znf:FS:=mkF 249 [.v .s] (.v .b) (fun x=>zdB x.1) [] [] (fun _ _=>by kernel_rfl) (fun _ _=>by kernel_rfl)
noncomputable def zlX:FS:=mkF 229 [.v .s, .v .s] (.v (.i .i64)) (fun x=>zdT x.1 x.2.1) [znf] [] (fun _ _=>by kernel_rfl) (fun _ _=>by kernel_rfl)
noncomputable def zn5:FS:=mkF 228 [.v (.st 0), .v .s] (.v (.i .i64)) (fun x=>zcV x.1 x.2.1) [zlX] [] (fun _ _=>by kernel_rfl) (fun _ _=>by kernel_rfl)
noncomputable def znj:FS:=mkP zn5 fun _=>by kernel_rfl
noncomputable def ziN:FS:=mkF 199 [.v (.l (.st 0)), .v .s] (.tu (.cons (.v (.i .i64)) (.cons (.v .b) .nil))) (fun x=>zck x.1 x.2.1) [zcD,znj] [] (fun _ _=>by kernel_rfl) (fun _ _=>by kernel_rfl)
noncomputable def zl4:FS:=mkF 157 [.v (.l (.st 0)), .v (.st 0)] (.v (.l (.st 0))) (fun x=>zdE x.1 x.2.1) [ziN,zfr] [] (fun _ _=>by kernel_rfl) (fun _ _=>by kernel_rfl)
noncomputable def zsK:FS:=mkF 195 [.v .s, .v (.l (.st 0)), .v (.l (.st 8))] (.tu (.cons (.v .s) (.cons (.v .b) (.cons (.v .b) .nil)))) (fun x=>zhO x.1 x.2.1 x.2.2.1) [ziN] [.sp [.i .i64]] (fun _ _=>by kernel_rfl) (fun _ _=>by kernel_rfl)
noncomputable def zmc:FS:=mkF 197 [.v .s] (.tu (.cons (.v (.i .i64)) (.cons (.v .b) .nil))) (fun x=>zfw x.1) [zsm] [] (fun _ _=>by kernel_rfl) (fun _ _=>by kernel_rfl)
noncomputable def zoJ:FS:=mkF 196 [.v (.st 7), .v .s, .v .b] (.v .b) (fun x=>zfH x.1 x.2.1 x.2.2.1) [zmc,zcB] [] (fun _ _=>by kernel_rfl) (fun _ _=>by kernel_rfl)
noncomputable def zsr:FS:=mkF 155 [.v (.l (.st 7)), .v (.l (.st 8))] (.tu (.cons (.v (.i .i64)) (.cons (.v .s) (.cons (.v (.l (.st 0))) .nil)))) (fun x=>zj4 x.1 x.2.1) [zl4,zsK,zoJ,zmc,zsQ] [.sp [.i .i64, .l (.st 0)], .inl] (fun _ _=>by kernel_rfl) (fun _ _=>by kernel_rfl)
noncomputable def zvH:FS:=mkF 156 [.v (.l (.st 0)), .v .s] (.v (.st 8)) (fun x=>zjU x.1 x.2.1) [ziN] [] (fun _ _=>by kernel_rfl) (fun _ _=>by kernel_rfl)
noncomputable def zrM:FS:=mkF 114 [.v (.l (.st 0)), .v (.l (.st 7))] (.tu (.cons (.v (.l (.st 8))) (.cons (.v (.l (.st 0))) (.cons (.v .b) .nil)))) (fun x=>zjD x.1 x.2.1) [zsr,zvH] [.sp [.l (.st 8)]] (fun _ _=>by kernel_rfl) (fun _ _=>by kernel_rfl)
noncomputable def zez:FS:=mkH 158 [.v (.l (.st 0)), .fn [.st 0] .b] (.v (.l (.st 0))) (fun x=>zfs x.1 (fun y=>x.2.1.φ (y,()))) fun x r hp h=>ziQ (f:=158) (t:=zBP 180 3 true (.mk (.cons (.fld (.fld (.idx (.var 5) (.var 4)) 0 3 true) 0 1 false) (.cons (.fld (.fld (.idx (.var 5) (.var 4)) 0 3 true) 1 1 false) (.cons (.fld (.fld (.idx (.var 5) (.var 4)) 0 3 true) 2 1 false) .nil)))) [(.agg (.fld (.idx (.var 5) (.var 4)) 0 3 true) 3)] (.mk (.cons (.str (ByteArray.mk #[])) (.cons (.str (ByteArray.mk #[])) (.cons (.bool false) .nil))))) (by kernel_rfl) (by kernel_rfl) (zy3 (av:=(zio tab.av (.st 0))) (fun x=>⟨zl8 _ x,zgt (by kernel_rfl) x,fun _=>⟨_,rfl⟩,fun e=>by cases e⟩) (by decide) (fun a b c d j ys x tl hj=>by simp [AV.nth,hj,zio,tAv]) (fun a b c d j ys x hj=>by simp [AV.nth,hj,zio,tAv]) h (fun i hi=>zb8.ok x i hp hi) (fun y b hb=>hp.2.1 (y,()) b hb))
noncomputable def zp2:FS:=mkF 159 [.v (.st 0)] (.v .b) (fun x=>ziD x.1) [] [] (fun _ _=>by kernel_rfl) (fun _ _=>by kernel_rfl)
noncomputable def zoD:FS:=mkP zp2 fun _=>by kernel_rfl
noncomputable def zsd:FS:=mkF 115 [.v (.l (.st 0)), .v (.l (.st 0))] (.tu (.cons (.v (.l (.st 0))) (.cons (.v .b) .nil))) (fun x=>zh5 x.1 x.2.1) [zcH,zez,zoD,zl4] [.sp [.i .i64, .l (.st 0)]] (fun _ _=>by kernel_rfl) (fun _ _=>by kernel_rfl)
noncomputable def zuO:FS:=mkF 70 [.v (.l (.st 0)), .v (.l (.st 7))] (.tu (.cons (.v (.l (.st 0))) (.cons (.v .b) .nil))) (fun x=>zjb x.1 x.2.1) [zrM,zsd] [] (fun _ _=>by kernel_rfl) (fun _ _=>by kernel_rfl)
noncomputable def zgm:FS:=mkF 39 [.v (.st 3), .v (.st 6)] (.tu (.cons (.v (.st 3)) (.cons (.v .b) .nil))) (fun x=>zbr x.1 x.2.1) [zln,zcB,zfQ,zlP,zuO] [] (fun _ _=>by kernel_rfl) (fun _ _=>by kernel_rfl)
noncomputable def zpC:FS:=mkF 11 [.v (.st 3), .v (.st 6)] (.tu (.cons (.v (.st 3)) (.cons (.v .b) (.cons (.v .b) .nil)))) (fun x=>zeX x.1 x.2.1) [zjr,zgm] [] (fun _ _=>by kernel_rfl) (fun _ _=>by kernel_rfl)
noncomputable def zli:FS:=mkF 121 [.v (.l .s), .v (.l .s)] (.v .b) (fun x=>zc4 x.1 x.2.1) [] [.sp [.i .i64]] (fun _ _=>by kernel_rfl) (fun _ _=>by kernel_rfl)
noncomputable def zvo:FS:=mkF 162 [.v (.st 1), .v (.st 1)] (.v .b) (fun x=>zgr x.1 x.2.1) [] [] (fun _ _=>by kernel_rfl) (fun _ _=>by kernel_rfl)
noncomputable def zud:FS:=mkF 122 [.v (.l (.st 1)), .v (.l (.st 1))] (.v .b) (fun x=>zfJ x.1 x.2.1) [zvo] [.sp [.i .i64]] (fun _ _=>by kernel_rfl) (fun _ _=>by kernel_rfl)
noncomputable def zsO:FS:=mkF 73 [.v (.st 2), .v (.st 2)] (.v .b) (fun x=>ze6 x.1 x.2.1) [zli,zud] [] (fun _ _=>by kernel_rfl) (fun _ _=>by kernel_rfl)
noncomputable def zrt:FS:=mkF 40 [.v (.l (.st 2)), .v (.l (.st 2))] (.v .b) (fun x=>zgy x.1 x.2.1) [zsO] [.sp [.i .i64]] (fun _ _=>by kernel_rfl) (fun _ _=>by kernel_rfl)
noncomputable def zt0:FS:=mkF 41 [.v (.l (.i .i64)), .v (.l (.i .i64))] (.v .b) (fun x=>zi0 x.1 x.2.1) [] [.sp [.i .i64]] (fun _ _=>by kernel_rfl) (fun _ _=>by kernel_rfl)
noncomputable def zsP:FS:=mkF 74 [.v (.st 0), .v (.st 0)] (.v .b) (fun x=>ze1 x.1 x.2.1) [] [] (fun _ _=>by kernel_rfl) (fun _ _=>by kernel_rfl)
noncomputable def zqA:FS:=mkF 42 [.v (.l (.st 0)), .v (.l (.st 0))] (.v .b) (fun x=>zex x.1 x.2.1) [zsP] [.sp [.i .i64]] (fun _ _=>by kernel_rfl) (fun _ _=>by kernel_rfl)
noncomputable def zkb:FS:=mkF 12 [.v (.st 3), .v (.st 3)] (.v .b) (fun x=>zbu x.1 x.2.1) [zrt,zt0,zqA] [] (fun _ _=>by kernel_rfl) (fun _ _=>by kernel_rfl)
noncomputable def zwf:FS:=mkF 75 [.v (.st 4), .v (.st 4)] (.v .b) (fun x=>ziv x.1 x.2.1) [zli] [] (fun _ _=>by kernel_rfl) (fun _ _=>by kernel_rfl)
noncomputable def zrI:FS:=mkF 43 [.v (.st 5), .v (.st 5)] (.v .b) (fun x=>zgx x.1 x.2.1) [zwf] [] (fun _ _=>by kernel_rfl) (fun _ _=>by kernel_rfl)
noncomputable def zhv:FS:=mkF 13 [.v (.st 6), .v (.st 6)] (.v .b) (fun x=>zdm x.1 x.2.1) [zrI] [] (fun _ _=>by kernel_rfl) (fun _ _=>by kernel_rfl)
noncomputable def zcI:FS:=mkF 76 [.v (.i .i64)] (.v .s) (fun x=>zaG x.1) [] [.sp [.i .i64, .s]] (fun _ _=>by kernel_rfl) (fun _ _=>by kernel_rfl)
noncomputable def zha:FS:=mkF 59 [.v (.l .s), .v (.i .i64)] (.tu (.cons (.v (.i .i64)) (.cons (.v (.l .s)) .nil))) (fun x=>zcQ x.1 x.2.1) [zcI] [.sp [.i .i64, .i .i64, .l .s]] (fun _ _=>by kernel_rfl) (fun _ _=>by kernel_rfl)
noncomputable def zq9:FS:=mkF 77 [.v (.l (.st 1)), .v (.i .i64)] (.tu (.cons (.v (.i .i64)) (.cons (.v (.l (.st 1))) .nil))) (fun x=>zjA x.1 x.2.1) [zcI] [.sp [.i .i64, .i .i64, .l (.st 1)]] (fun _ _=>by kernel_rfl) (fun _ _=>by kernel_rfl)
noncomputable def zo7:FS:=mkF 44 [.v (.l (.st 2)), .v (.i .i64)] (.tu (.cons (.v (.i .i64)) (.cons (.v (.l (.st 2))) .nil))) (fun x=>zhH x.1 x.2.1) [zcI,zha,zq9] [.sp [.i .i64, .i .i64, .l (.st 2)]] (fun _ _=>by kernel_rfl) (fun _ _=>by kernel_rfl)
noncomputable def zrY:FS:=mkF 45 [.v (.l (.i .i64)), .v (.i .i64)] (.tu (.cons (.v (.i .i64)) (.cons (.v (.l (.i .i64))) .nil))) (fun x=>zjq x.1 x.2.1) [] [.sp [.i .i64, .i .i64, .l (.i .i64)]] (fun _ _=>by kernel_rfl) (fun _ _=>by kernel_rfl)
noncomputable def zo4:FS:=mkF 46 [.v (.l (.st 0)), .v (.i .i64)] (.tu (.cons (.v (.i .i64)) (.cons (.v (.l (.st 0))) .nil))) (fun x=>zhw x.1 x.2.1) [zcI] [.sp [.i .i64, .i .i64, .l (.st 0)]] (fun _ _=>by kernel_rfl) (fun _ _=>by kernel_rfl)
noncomputable def zll:FS:=mkF 14 [.v (.st 3), .v (.i .i64)] (.tu (.cons (.v (.i .i64)) (.cons (.v (.st 3)) .nil))) (fun x=>zc3 x.1 x.2.1) [zo7,zrY,zo4] [] (fun _ _=>by kernel_rfl) (fun _ _=>by kernel_rfl)
noncomputable def zsn:FS:=mkF 78 [.v (.st 4), .v (.i .i64)] (.tu (.cons (.v (.i .i64)) (.cons (.v (.st 4)) .nil))) (fun x=>zfX x.1 x.2.1) [zha] [] (fun _ _=>by kernel_rfl) (fun _ _=>by kernel_rfl)
noncomputable def zoF:FS:=mkF 47 [.v (.st 5), .v (.i .i64)] (.tu (.cons (.v (.i .i64)) (.cons (.v (.st 5)) .nil))) (fun x=>zfL x.1 x.2.1) [zsn] [] (fun _ _=>by kernel_rfl) (fun _ _=>by kernel_rfl)
end Go.Proofs.YtfkblfjloegahaaGreatDoor
end
section
namespace Go.Proofs.YtfkblfjloegahaaGreatDoor
open Go.RowKit
set_option maxRecDepth 100000
set_option maxHeartbeats 4000000
noncomputable def znm:FS:=mkF 15 [.v (.st 6), .v (.i .i64)] (.tu (.cons (.v (.i .i64)) (.cons (.v (.st 6)) .nil))) (fun x=>zeG x.1 x.2.1) [zoF] [] (fun _ _=>by kernel_rfl) (fun _ _=>by kernel_rfl)
noncomputable def zn2:FS:=mkF 79 [.v (.l .s), .v (.i .i64)] (.v (.i .i64)) (fun x=>zgW x.1 x.2.1) [zcI] [.sp [.i .i64, .i .i64]] (fun _ _=>by kernel_rfl) (fun _ _=>by kernel_rfl)
noncomputable def zrp:FS:=mkF 80 [.v (.l (.st 1)), .v (.i .i64)] (.v (.i .i64)) (fun x=>zjH x.1 x.2.1) [zcI] [.sp [.i .i64, .i .i64]] (fun _ _=>by kernel_rfl) (fun _ _=>by kernel_rfl)
noncomputable def zoW:FS:=mkF 48 [.v (.l (.st 2)), .v (.i .i64)] (.v (.i .i64)) (fun x=>zhp x.1 x.2.1) [zcI,zn2,zrp] [.sp [.i .i64, .i .i64]] (fun _ _=>by kernel_rfl) (fun _ _=>by kernel_rfl)
noncomputable def zq7:FS:=mkF 49 [.v (.l (.i .i64)), .v (.i .i64)] (.v (.i .i64)) (fun x=>zjG x.1 x.2.1) [] [.sp [.i .i64, .i .i64]] (fun _ _=>by kernel_rfl) (fun _ _=>by kernel_rfl)
noncomputable def zpe:FS:=mkF 50 [.v (.l (.st 0)), .v (.i .i64)] (.v (.i .i64)) (fun x=>zhI x.1 x.2.1) [zcI] [.sp [.i .i64, .i .i64]] (fun _ _=>by kernel_rfl) (fun _ _=>by kernel_rfl)
noncomputable def zlh:FS:=mkF 16 [.v (.st 3), .v (.i .i64)] (.v (.i .i64)) (fun x=>zc6 x.1 x.2.1) [zoW,zq7,zpe] [] (fun _ _=>by kernel_rfl) (fun _ _=>by kernel_rfl)
noncomputable def zgA:FS:=mkF 3 [.v (.st 3), .v (.st 6)] (.v .b) (fun x=>zde x.1 x.2.1) [zj9,zhq,zkh,zho,zpU,zpC,zkb,zhv,zll,znm,zlh] [] (fun _ _=>by kernel_rfl) (fun _ _=>by kernel_rfl)
noncomputable def zrF:FS:=mkF 81 [.v (.l (.i .i64))] (.v .b) (fun x=>zg4 x.1) [] [.sp [.i .i64], .sp [.i .i64]] (fun _ _=>by kernel_rfl) (fun _ _=>by kernel_rfl)
noncomputable def zp4:FS:=mkF 166 [.v (.st 3)] (.v (.l (.i .i64))) (fun x=>zgf x.1) [zfE] [.sp [.l (.i .i64), .i .i64]] (fun _ _=>by kernel_rfl) (fun _ _=>by kernel_rfl)
noncomputable def zvL:FS:=mkF 167 [.v (.l (.i .i64)), .v (.i .i64)] (.v .b) (fun x=>zip x.1 x.2.1) [] [.sp [.i .i64]] (fun _ _=>by kernel_rfl) (fun _ _=>by kernel_rfl)
noncomputable def zsf:FS:=mkF 124 [.v (.st 3)] (.v (.i .i64)) (fun x=>zh4 x.1) [zp4,zvL] [] (fun _ _=>by kernel_rfl) (fun _ _=>by kernel_rfl)
noncomputable def zmY:FS:=mkF 234 [.v .s, .v (.i .u8)] (.v (.l .s)) (fun x=>zd6 x.1 x.2.1) [] [.sp [.l .s, .i .i64, .i .i64], .inl] (fun _ _=>by kernel_rfl) (fun _ _=>by kernel_rfl)
noncomputable def znl:FS:=mkF 204 [.v (.st 2), .v .s, .v .s] (.tu (.cons (.v .s) (.cons (.v .s) (.cons (.v .b) .nil)))) (fun x=>zeK x.1 x.2.1 x.2.2.1) [zmY,zlE] [] (fun _ _=>by kernel_rfl) (fun _ _=>by kernel_rfl)
noncomputable def zhJ:FS:=mkF 163 [.v (.st 2), .v .s, .v (.l (.st 0))] (.v (.l .s)) (fun x=>zep x.1 x.2.1 x.2.2.1) [znl] [.sp [.l .s, .i .i64], .inl] (fun _ _=>by kernel_rfl) (fun _ _=>by kernel_rfl)
noncomputable def zlR:FS:=mkF 205 [.v (.st 2), .v .s, .v (.l (.st 0))] (.v .b) (fun x=>zdA x.1 x.2.1 x.2.2.1) [ziE,zfE,zi9] [] (fun _ _=>by kernel_rfl) (fun _ _=>by kernel_rfl)
noncomputable def zsA:FS:=mkF 253 [.v (.st 2), .v (.st 0)] (.tu (.cons (.v (.st 4)) (.cons (.v .b) .nil))) (fun x=>zhP x.1 x.2.1) [zmY,zmS,zlG] [] (fun _ _=>by kernel_rfl) (fun _ _=>by kernel_rfl)
noncomputable def zsa:FS:=mkF 235 [.v (.st 2), .v (.l (.st 0))] (.v (.l (.st 4))) (fun x=>zj0 x.1 x.2.1) [zsA] [.sp [.l (.st 4), .i .i64], .inl] (fun _ _=>by kernel_rfl) (fun _ _=>by kernel_rfl)
noncomputable def zlg:FS:=mkF 207 [.v (.st 2), .v .s, .v (.l (.st 0))] (.v (.l .s)) (fun x=>zeV x.1 x.2.1 x.2.2.1) [zsa,zfE,zlA] [.sp [.l .s, .i .i64]] (fun _ _=>by kernel_rfl) (fun _ _=>by kernel_rfl)
noncomputable def zmP:FS:=mkF 206 [.v (.l .s), .v (.l .s)] (.v (.l .s)) (fun x=>zh2 x.1 x.2.1) [zpA] [.sp [.l .s, .i .i64], .inl] (fun _ _=>by kernel_rfl) (fun _ _=>by kernel_rfl)
noncomputable def zpE:FS:=mkF 164 [.v (.st 2), .v .s, .v (.l (.st 0))] (.tu (.cons (.v (.l .s)) (.cons (.v .b) .nil))) (fun x=>ziL x.1 x.2.1 x.2.2.1) [zlR,zhJ,zlg,zmP] [] (fun _ _=>by kernel_rfl) (fun _ _=>by kernel_rfl)
noncomputable def zsi:FS:=mkF 165 [.v (.st 2), .v .s, .v (.l (.st 0))] (.tu (.cons (.v (.l .s)) (.cons (.v .b) .nil))) (fun x=>zjZ x.1 x.2.1 x.2.2.1) [zlR,zlg,zhJ,zmP] [] (fun _ _=>by kernel_rfl) (fun _ _=>by kernel_rfl)
noncomputable def zrG:FS:=mkF 123 [.v (.st 2), .v .s, .v (.i .i64), .v (.l (.st 0))] (.v .b) (fun x=>zgF x.1 x.2.1 x.2.2.1 x.2.2.2.1) [zhJ,zpE,zsi] [] (fun _ _=>by kernel_rfl) (fun _ _=>by kernel_rfl)
noncomputable def zsI:FS:=mkF 82 [.v (.st 3)] (.v .b) (fun x=>zhM x.1) [zsf,zrG] [] (fun _ _=>by kernel_rfl) (fun _ _=>by kernel_rfl)
noncomputable def zop:FS:=mkF 51 [.v (.st 3), .v (.st 6)] (.v .b) (fun x=>zg6 x.1 x.2.1) [zlU,zrF,zsI] [] (fun _ _=>by kernel_rfl) (fun _ _=>by kernel_rfl)
noncomputable def zsF:FS:=mkF 17 [.v (.st 3), .v (.st 6)] (.tu (.cons (.v .b) (.cons (.v .b) .nil))) (fun x=>zhQ x.1 x.2.1) [zju,zop] [] (fun _ _=>by kernel_rfl) (fun _ _=>by kernel_rfl)
noncomputable def zkY:FS:=mkF 125 [.v (.l (.i .i64))] (.v (.i .i64)) (fun x=>zdd x.1) [] [.sp [.i .i64, .i .i64]] (fun _ _=>by kernel_rfl) (fun _ _=>by kernel_rfl)
noncomputable def zkJ:FS:=mkF 126 [.v (.l (.i .i64))] (.v (.i .i64)) (fun x=>zdi x.1) [] [.sp [.i .i64, .i .i64]] (fun _ _=>by kernel_rfl) (fun _ _=>by kernel_rfl)
noncomputable def zkU:FS:=mkF 83 [.v (.st 3)] (.v .b) (fun x=>zdb x.1) [zkY,zkJ] [] (fun _ _=>by kernel_rfl) (fun _ _=>by kernel_rfl)
noncomputable def znp:FS:=mkF 128 [.v (.st 3)] (.v (.i .i64)) (fun x=>zeJ x.1) [zfQ,zhk] [.sp [.i .i64, .i .i64], .inl] (fun _ _=>by kernel_rfl) (fun _ _=>by kernel_rfl)
noncomputable def zhg:FS:=mkF 267 [.v .s, .v .s] (.v .b) (fun x=>zbq x.1 x.2.1) [] [] (fun _ _=>by kernel_rfl) (fun _ _=>by kernel_rfl)
noncomputable def zhe:FS:=mkF 254 [.v .s, .v .s] (.tu (.cons (.v .s) (.cons (.v .b) .nil))) (fun x=>zcm x.1 x.2.1) [zhg] [] (fun _ _=>by kernel_rfl) (fun _ _=>by kernel_rfl)
noncomputable def zjB:FS:=mkF 236 [.v .s, .v .s] (.tu (.cons (.v .s) (.cons (.v .b) .nil))) (fun x=>zdD x.1 x.2.1) [zhe] [] (fun _ _=>by kernel_rfl) (fun _ _=>by kernel_rfl)
noncomputable def zjJ:FS:=mkF 255 [.v .s, .v .s] (.tu (.cons (.v .s) (.cons (.v .s) (.cons (.v .b) .nil)))) (fun x=>zcn x.1 x.2.1) [zfk] [] (fun _ _=>by kernel_rfl) (fun _ _=>by kernel_rfl)
noncomputable def zuM:FS:=mkF 237 [.v .s, .v .s] (.tu (.cons (.v .s) (.cons (.v .s) (.cons (.v .b) .nil)))) (fun x=>zfD x.1 x.2.1) [zjJ] [] (fun _ _=>by kernel_rfl) (fun _ _=>by kernel_rfl)
noncomputable def zj2:FS:=mkF 208 [.v (.st 2), .v .s, .v .s] (.tu (.cons (.v .s) (.cons (.v .s) (.cons (.v .b) .nil)))) (fun x=>zcA x.1 x.2.1 x.2.2.1) [zhj,zjB,zuM,zmV] [] (fun _ _=>by kernel_rfl) (fun _ _=>by kernel_rfl)
noncomputable def zee:FS:=mkF 168 [.v (.st 2), .v .s, .v (.l (.st 0))] (.v (.l .s)) (fun x=>zb5 x.1 x.2.1 x.2.2.1) [zj2] [.sp [.i .i64, .l .s], .inl] (fun _ _=>by kernel_rfl) (fun _ _=>by kernel_rfl)
noncomputable def zrj:FS:=mkF 293 [.v .s, .v .s] (.v (.i .i64)) (fun x=>zgQ x.1 x.2.1) [zfk] [] (fun _ _=>by kernel_rfl) (fun _ _=>by kernel_rfl)
noncomputable def znK:FS:=mkF 284 [.v .s, .v .s, .v (.i .i64), .v (.i .i64)] (.v (.l .s)) (fun x=>zgZ x.1 x.2.1 x.2.2.1 x.2.2.2.1) [zoZ,zrj,zrx] [.pt, .sp [.s, .i .i64, .l .s]] (fun _ _=>by kernel_rfl) (fun _ _=>by kernel_rfl)
noncomputable def zrH:FS:=mkF 269 [.v .s, .v .s] (.v (.l .s)) (fun x=>zfA x.1 x.2.1) [znK] [] (fun _ _=>by kernel_rfl) (fun _ _=>by kernel_rfl)
noncomputable def zlq:FS:=mkF 256 [.v (.st 2), .v (.st 0)] (.tu (.cons (.v (.st 4)) (.cons (.v .b) .nil))) (fun x=>zdG x.1 x.2.1) [zjB,zrH,ziR,zgR] [] (fun _ _=>by kernel_rfl) (fun _ _=>by kernel_rfl)
noncomputable def zlH:FS:=mkF 240 [.v (.st 2), .v (.l (.st 0))] (.v (.l (.st 4))) (fun x=>zft x.1 x.2.1) [zlq] [.sp [.i .i64, .l (.st 4)], .inl] (fun _ _=>by kernel_rfl) (fun _ _=>by kernel_rfl)
noncomputable def zit:FS:=mkF 210 [.v (.st 2), .v .s, .v (.l (.st 0))] (.v (.l .s)) (fun x=>zcE x.1 x.2.1 x.2.2.1) [zlH,zic] [.sp [.i .i64, .l .s]] (fun _ _=>by kernel_rfl) (fun _ _=>by kernel_rfl)
noncomputable def zf2:FS:=mkH 238 [.v (.l .s), .fn [.s] .b] (.v (.l .s)) (fun x=>zfs x.1 (fun y=>x.2.1.φ (y,()))) fun x r hp h=>ziQ (f:=238) (t:=zBP 217 1 false (.fld (.idx (.var 5) (.var 4)) 0 1 false) [] (.str (ByteArray.mk #[]))) (by kernel_rfl) (by kernel_rfl) (zy3 (av:=(zio tab.av .s)) (fun x=>⟨zl8 _ x,zgt (by kernel_rfl) x,(fun e=>nomatch e),fun _=>rfl⟩) (by decide) (fun a b c d j ys x tl hj=>by simp [AV.nth,hj,zio,tAv]) (fun a b c d j ys x hj=>by simp [AV.nth,hj,zio,tAv]) h (fun i hi=>zdz.ok x i hp hi) (fun y b hb=>hp.2.1 (y,()) b hb))
noncomputable def zpL:FS:=mkF 239 [.v .s, .rf (.l .s)] (.v .b) (fun x=>ziP x.1 x.2.1) [zdJ] [] (fun _ _=>by kernel_rfl) (fun _ _=>by kernel_rfl)
noncomputable def zoC:FS:=mkP zpL fun _=>by kernel_rfl
noncomputable def zmR:FS:=mkF 209 [.v (.l .s), .v (.l .s)] (.v (.l .s)) (fun x=>zf0 x.1 x.2.1) [zeh,zf2,zoC] [] (fun _ _=>by kernel_rfl) (fun _ _=>by kernel_rfl)
noncomputable def zks:FS:=mkF 169 [.v (.st 2), .v .s, .v (.l (.st 0))] (.v (.l .s)) (fun x=>zcT x.1 x.2.1 x.2.2.1) [zee,zit,zmR] [] (fun _ _=>by kernel_rfl) (fun _ _=>by kernel_rfl)
noncomputable def zlv:FS:=mkF 170 [.v (.st 2), .v .s, .v (.l (.st 0))] (.v (.l .s)) (fun x=>zfe x.1 x.2.1 x.2.2.1) [zit,zee,zmR] [] (fun _ _=>by kernel_rfl) (fun _ _=>by kernel_rfl)
noncomputable def zlr:FS:=mkF 127 [.v (.st 2), .v .s, .v (.i .i64), .v (.l (.st 0))] (.v .b) (fun x=>zdF x.1 x.2.1 x.2.2.1 x.2.2.2.1) [zee,zks,zlv] [] (fun _ _=>by kernel_rfl) (fun _ _=>by kernel_rfl)
noncomputable def zl9:FS:=mkF 84 [.v (.st 3)] (.v .b) (fun x=>zdV x.1) [znp,zlr] [] (fun _ _=>by kernel_rfl) (fun _ _=>by kernel_rfl)
noncomputable def zjP:FS:=mkF 52 [.v (.st 3), .v (.st 6)] (.v .b) (fun x=>zdW x.1 x.2.1) [zgm,zkU,zl9] [] (fun _ _=>by kernel_rfl) (fun _ _=>by kernel_rfl)
noncomputable def zsl:FS:=mkF 18 [.v (.st 3), .v (.st 6)] (.tu (.cons (.v .b) (.cons (.v .b) .nil))) (fun x=>zhS x.1 x.2.1) [zjr,zjP] [] (fun _ _=>by kernel_rfl) (fun _ _=>by kernel_rfl)
noncomputable def zis:FS:=mkF 4 [.v (.st 3), .v (.st 6)] (.v .b) (fun x=>zdS x.1 x.2.1) [zj9,zhq,zkh,zho,zsF,zsl,zkb,zhv] [] (fun _ _=>by kernel_rfl) (fun _ _=>by kernel_rfl)
noncomputable def zn0:FS:=mkF 19 [.v (.l (.st 6)), .v (.i .i64)] (.v (.i .i64)) (fun x=>zfl x.1 x.2.1) [zhq] [.sp [.i .i64, .i .i64]] (fun _ _=>by kernel_rfl) (fun _ _=>by kernel_rfl)
noncomputable def znG:FS:=mkF 21 [.v (.l (.st 6))] (.v (.l (.st 6))) (fun x=>zcb x.1) [zho] [.sp [.i .i64, .l (.st 6)]] (fun _ _=>by kernel_rfl) (fun _ _=>by kernel_rfl)
noncomputable def zss:FS:=mkF 54 [.v (.st 3), .v (.l (.st 6)), .v .b] (.tu (.cons (.v (.st 3)) (.cons (.v (.l .b)) .nil))) (fun x=>zmO x.1 x.2.1 x.2.2.1) [zmU,zlU,zop] [.sp [.l .b, .i .i64, .s, .l (.st 2), .l (.i .i64), .l (.st 0)], .inl] (fun _ _=>by kernel_rfl) (fun _ _=>by kernel_rfl)
noncomputable def zpT:FS:=mkF 20 [.v (.st 3), .v (.l (.st 6)), .v .b] (.tu (.cons (.v (.st 3)) (.cons (.v (.l .b)) (.cons (.v .b) .nil)))) (fun x=>zlf x.1 x.2.1 x.2.2.1) [zlk,znQ,zss] [] (fun _ _=>by kernel_rfl) (fun _ _=>by kernel_rfl)
noncomputable def zpI:FS:=mkF 22 [.v (.st 3), .v (.l (.st 6)), .v .b] (.tu (.cons (.v (.st 3)) (.cons (.v (.l .b)) (.cons (.v .b) .nil)))) (fun x=>ziO x.1 x.2.1 x.2.2.1) [zld,zln,zfY,zjP,zgm] [.sp [.i .i64, .s, .l (.st 2), .l (.i .i64), .l (.st 0), .l .b], .inl] (fun _ _=>by kernel_rfl) (fun _ _=>by kernel_rfl)
noncomputable def zsy:FS:=mkF 23 [.v (.l .b), .v (.l .b)] (.v .b) (fun x=>ze7 x.1 x.2.1) [] [.sp [.i .i64]] (fun _ _=>by kernel_rfl) (fun _ _=>by kernel_rfl)
noncomputable def zod:FS:=mkF 24 [.v (.l (.st 6)), .v (.l (.st 6))] (.v .b) (fun x=>zfj x.1 x.2.1) [zhv] [.sp [.i .i64]] (fun _ _=>by kernel_rfl) (fun _ _=>by kernel_rfl)
end Go.Proofs.YtfkblfjloegahaaGreatDoor
end
section
namespace Go.Proofs.YtfkblfjloegahaaGreatDoor
open Go.RowKit
set_option maxRecDepth 100000
set_option maxHeartbeats 4000000
noncomputable def zmG:FS:=mkF 25 [.v (.l (.st 6)), .v (.i .i64)] (.tu (.cons (.v (.i .i64)) (.cons (.v (.l (.st 6))) .nil))) (fun x=>zfO x.1 x.2.1) [zha] [.sp [.i .i64, .i .i64, .l (.st 6)]] (fun _ _=>by kernel_rfl) (fun _ _=>by kernel_rfl)
noncomputable def zpN:FS:=mkF 26 [.v (.l .b), .v (.i .i64)] (.tu (.cons (.v (.i .i64)) (.cons (.v (.l .b)) .nil))) (fun x=>ziC x.1 x.2.1) [] [.sp [.i .i64, .i .i64, .l .b]] (fun _ _=>by kernel_rfl) (fun _ _=>by kernel_rfl)
noncomputable def zp1:FS:=mkF 27 [.v (.l .b), .v (.i .i64)] (.v (.i .i64)) (fun x=>zga x.1 x.2.1) [] [.sp [.i .i64, .i .i64]] (fun _ _=>by kernel_rfl) (fun _ _=>by kernel_rfl)
noncomputable def zgG:FS:=mkF 5 [.v (.st 3), .v (.l (.st 6)), .v .b] (.v .b) (fun x=>zgO x.1 x.2.1 x.2.2.1) [zj9,zn0,zkh,znG,zpT,zpI,zkb,zsy,zod,zll,zmG,zpN,zlh,zp1] [] (fun _ _=>by kernel_rfl) (fun _ _=>by kernel_rfl)
end Go.Proofs.YtfkblfjloegahaaGreatDoor
end
section
namespace Go.Proofs.YtfkblfjloegahaaGreatDoor
open Go.RowKit
set_option maxRecDepth 100000
theorem zuk (a0:zaf) (a1:zad) (r:Bool) (h:zde a0 a1=some r):Rts Tryz.prog sgs 3 [zqZ a0,zjk a1] (.bool r):=zgA.ok (a0,a1,()) r (by simp [zgA,mkF,zwj,zEd]) h
theorem zlK (a0:zaf) (a1:zad) (r:Bool) (h:zdS a0 a1=some r):Rts Tryz.prog sgs 4 [zqZ a0,zjk a1] (.bool r):=zis.ok (a0,a1,()) r (by simp [zis,mkF,zwj,zEd]) h
theorem zt1 (a0:zaf) (a1:List zad) (a2:Bool) (r:Bool) (h:zgO a0 a1 a2=some r):Rts Tryz.prog sgs 5 [zqZ a0, .sl (a1.map zjk), .bool a2] (.bool r):=zgG.ok (a0,a1,a2,()) r (by simp [zgG,mkF,zwj,zEd]) h
end Go.Proofs.YtfkblfjloegahaaGreatDoor
end
section
namespace Go.Proofs.YtfkblfjloegahaaGreatDoor
open Go.RowKit
set_option maxRecDepth 100000
abbrev Str:=List UInt8
def inB (a b c:Int):Bool:=decide (a≥b)&&decide (a≤c)
theorem zbo {a b c:Int}:inB a b c=true↔b≤a∧a≤c:=by simp [inB]
@[simp] theorem zlI (a b c:Int):zbE a b c=some (inB a b c):=rfl
@[simp] theorem zhW (a b c:Int):zbe a b c=some (inB a b c):=rfl
def zf1 (b:UInt8):Bool:=(decide ((b.toNat:Int)≥97)&&decide ((b.toNat:Int)≤122))||(decide ((b.toNat:Int)≥48)&&decide ((b.toNat:Int)≤57))
def zjx (s more:Str):Bool:=s.all fun b=>zf1 b||more.contains b
theorem zFf {a b:UInt8}:((a.toNat:Int)==(b.toNat:Int))=(a==b):=by
 rw [Bool.eq_iff_iff]
 simp only [beq_iff_eq]
 constructor
 ·intro h;exact UInt8.toNat_inj.1 (by omega)
 ·rintro rfl;rfl
theorem zv1 {α:Type} (xs:List α) (p:α→Bool) (q:Nat→Bool) (h: ∀(i:Nat) (hi:i<xs.length),q i=p xs[i]):(List.range xs.length).all q=xs.all p:=by
 rw [Bool.eq_iff_iff]
 simp only [List.all_eq_true,List.mem_range]
 constructor
 ·intro hq x hx
  obtain⟨i,hi,rfl⟩:=List.getElem_of_mem hx
  rw [←h i hi];exact hq i hi
 ·intro hp i hi
  rw [h i hi];exact hp _ (List.getElem_mem hi)
theorem ziW {α β:Type} {xs:List α} {body:Int→Option (Int ⊕ Option β)} (p:α→Bool) (b:β) (fin:Option β)
  (hs: ∀(i:Nat) (hi:i<xs.length),body i=some (if p xs[i]=true then .inl ((i+1:Nat):Int)else .inr (some b))) (he:body xs.length=some (.inr fin)):zak body 0=if xs.all p=true then fin else some b:=by
 rw [zil (n:=xs.length) (fun i=>match xs[i]? with|some x=>p x|none=>true) b fin (fun i hi=>by rw [hs i hi];simp [hi]) he,
  zv1 xs p _ fun i hi=>by simp [hi]]
theorem zqU {s more:Str} (h1:s.length≤2000000) (h2:more.length≤2000000):ze8 s more=some (zjx s more):=by
 unfold ze8
 rw [ziW (xs:=s) (fun b=>zf1 b||more.contains b) false (some true) ?_ (by simp [zhr])]
 ·unfold zjx
  cases(s.all fun b=>zf1 b||more.contains b)<;>rfl
 ·intro i hi
  have hin:zak (fun t:Bool × Int=>zel more i s[i] t.1 t.2) (zf1 s[i],0)=some (if(zf1 s[i]||more.contains s[i])=true then .inl ((i+1:Nat):Int)else .inr (some false)):=by
   have hl:=zof (xs:=more) (body:=fun t:Bool × Int=>zel more i s[i] t.1 t.2) (fun k (ok:Bool)=>(ok,k)) (fun b ok=>some (.inl (ok||s[i]==b))) (fun ok=>zhL i ok)
    (fun k hk ok=>by
     simp only [zel,Int.ofNat_lt,hk,decide_true,if_true,zac hk,Option.bind_some,zaE hk (by omega:more.length≤_),zFf,zuC]
     cases ok<;>simp) (fun ok=>by simp [zel]) (zf1 s[i])
   rw [zBb (fun ok b=>ok||s[i]==b) (fun _=>True) (fun _ _ _ _=>trivial) (fun _ _ _ _=>rfl) trivial]at hl
   have hf: ∀(l:Str) (ok:Bool),l.foldl (fun ok b=>ok||s[i]==b) ok=(ok||l.contains s[i]):=by
    intro l
    induction l with
    |nil=>intro ok;simp
    |cons c l ih=>intro ok;rw [List.foldl_cons,ih,List.contains_cons,Bool.or_assoc]
   rw [hl,hf]
   unfold zhL
   rw [zaE hi (by omega)]
   cases(zf1 s[i]||more.contains s[i])<;>rfl
  simp only [zhr,Int.ofNat_lt,hi,decide_true,if_true,zac hi,Option.bind_some]
  exact hin
theorem ztX (l:Str) (c:UInt8):decide (Lib.indexByte l c<0)= !l.contains c:=by
 induction l with
 |nil=>rfl
 |cons b l ih=>
  unfold Lib.indexByte
  have hge:=Lib.indexByte_ge l c
  rw [List.contains_cons]
  by_cases hb:b=c
  ·subst hb;simp
  ·have h1:(b==c)=false:=by simpa using hb
   have h2:(c==b)=false:=by simpa using fun h=>hb h.symm
   rw [h1,h2]
   simp only [Bool.false_eq_true,if_false,Bool.false_or]
   rw [←ih]
   by_cases hm:Lib.indexByte l c= -1
   ·simp [hm]
   ·have h3:(Lib.indexByte l c== -1)=false:=by simpa using hm
    rw [h3]
    simp only [Bool.false_eq_true,if_false]
    rw [decide_eq_decide]
    omega
theorem zoI {s more:Str} (h1:s.length≤2000000):zem s more=some (zjx s more):=by
 unfold zem
 rw [ziW (xs:=s) (fun b=>zf1 b||more.contains b) false (some true) ?_ (by simp [zgD])]
 ·unfold zjx
  cases(s.all fun b=>zf1 b||more.contains b)<;>rfl
 ·intro i hi
  have hu:((s[i].toNat:Int)).toNat.toUInt8=s[i]:=by simp
  simp only [zgD,Int.ofNat_lt,hi,decide_true,if_true,zac hi,Option.bind_some,zfy,zgo,zbp,hu,ztX,zaE hi (by omega:s.length≤_)]
  rw [show((decide ((s[i].toNat:Int)≥97)&&decide ((s[i].toNat:Int)≤122))||(decide ((s[i].toNat:Int)≥48)&&decide ((s[i].toNat:Int)≤57)))=zf1 s[i]from rfl]
  cases zf1 s[i]<;>cases more.contains s[i]<;>rfl
def zcJ (s:Str):Bool:=inB s.length 1 12&&zjx s [46,47]
def zg7 (s:Str):Bool:=decide ((s.length:Int)≤24)&&zjx s [46,45,44,95]
theorem zCK {s:Str} (h:s.length≤2000000):zim s=some (zcJ s):=by
 simp only [zim,zlI,Option.bind_some,zqU h (more:= [46,47]) (by decide),zcJ]
 cases inB s.length 1 12<;>simp
theorem zFJ {s:Str} (h:s.length≤2000000):zhV s=some (zcJ s):=by
 simp only [zhV,zhW,Option.bind_some,zoI h,zcJ]
 cases inB s.length 1 12<;>simp
theorem zAQ {s:Str} (h:s.length≤2000000):zif s=some (zg7 s):=by
 simp only [zif,Option.bind_some,zqU h (more:= [46,45,44,95]) (by decide),zg7]
 by_cases hl:(s.length:Int)≤24<;>simp [hl]
theorem zEY {s:Str} (h:s.length≤2000000):zhT s=some (zg7 s):=by
 simp only [zhT,Option.bind_some,zoI h,zg7]
 by_cases hl:(s.length:Int)≤24<;>simp [hl]
def zkz (v:Str) (zwg:Bool):Bool:=zg7 v&&(!zwg||v== [])
theorem zzD {v:Str} {zwg:Bool} (h:v.length≤2000000):zgM v zwg=some (zkz v zwg):=by
 simp only [zgM,zEY h,Option.bind_some,zkz,bne]
 cases zg7 v<;>cases zwg<;>cases(v== [])<;>rfl
theorem zCF {k v:Str} {zwg:Bool} (hk:k.length≤2000000) (hv:v.length≤2000000):zhR k v zwg=some (zcJ k&&zkz v zwg):=by
 simp only [zhR,zCK hk,zAQ hv,Option.bind_some,zkz]
 cases zcJ k<;>simp
def zf6 (ks:List Str) (i:Nat):Bool:=i==0||Op.bytesLess ((ks[i-1]?).getD []) ((ks[i]?).getD [])
def zm0 (ks:List Str):Bool:=(List.range ks.length).all (zf6 ks)
theorem zuQ: ∀(a b:Str),(Op.bytesLess a b||a==b)= !Op.bytesLess b a
 | [], []=>rfl
 | [],_::_=>rfl
 |_::_, []=>rfl
 |x::a,y::b=>by
  have ih:=zuQ a b
  simp only [Op.bytesLess]
  rcases Nat.lt_trichotomy x.toNat y.toNat with h|h|h
  ·have h1:x<y:=UInt8.lt_iff_toNat_lt.2 h
   have h2: ¬y<x:=fun h'=>by have:=UInt8.lt_iff_toNat_lt.1 h';omega
   have h3: ¬y=x:=fun h'=>by subst h';omega
   simp [h1,h2,h3]
  ·have h0:x=y:=UInt8.toNat_inj.1 h
   subst h0
   have h1: ¬x<x:=fun h'=>by have:=UInt8.lt_iff_toNat_lt.1 h';omega
   rw [show((x::a)==(x::b))=(a==b) by simp]
   simp only [h1,decide_false,Bool.false_or,beq_self_eq_true,Bool.true_and]
   exact ih
  ·have h1: ¬x<y:=fun h'=>by have:=UInt8.lt_iff_toNat_lt.1 h';omega
   have h2:y<x:=UInt8.lt_iff_toNat_lt.2 h
   have h3: ¬x=y:=fun h'=>by subst h';omega
   simp [h1,h2,h3]
theorem zuE {i:Nat} (h0:0<i) (h:i≤2000000):IntKind.i64.wrap ((i:Int)-1)=((i-1:Nat):Int):=by
 rw [zaC (by omega) (by omega)];omega
theorem zAs {α:Type} (xs:List α) (p:α→Bool) (q r:Nat→Bool) (h: ∀(i:Nat) (hi:i<xs.length),r i=(p xs[i]&&q i)):(List.range xs.length).all r=(xs.all p&&(List.range xs.length).all q):=by
 rw [←zv1 xs p (fun i=>match xs[i]? with|some x=>p x|none=>true) fun i hi=>by simp [hi]]
 rw [Bool.eq_iff_iff]
 simp only [Bool.and_eq_true,List.all_eq_true,List.mem_range]
 constructor
 ·intro hr
  exact⟨fun i hi=>by have:=hr i hi;rw [h i hi,Bool.and_eq_true]at this;simpa [hi]using this.1,fun i hi=>by have:=hr i hi;rw [h i hi,Bool.and_eq_true]at this;exact this.2⟩
 ·rintro⟨h1,h2⟩ i hi
  rw [h i hi,Bool.and_eq_true]
  exact⟨by have:=h1 i hi;simpa [hi]using this,h2 i hi⟩
theorem zwx {ks:List Str} (h:ks.length≤2000000) (hk: ∀k∈ks,k.length≤2000000):zge ks=some (ks.all zcJ&&zm0 ks):=by
 unfold zge zm0
 rw [zil (n:=ks.length) (fun i=>zcJ ((ks[i]?).getD [])&&zf6 ks i) false (some true) ?_ (by simp [zgi]),zAs ks zcJ (zf6 ks) _ fun i hi=>by simp [hi]]
 ·cases(ks.all zcJ&&(List.range ks.length).all (zf6 ks))<;>rfl
 ·intro i hi
  simp only [zgi,Int.ofNat_lt,hi,decide_true,if_true,zac hi,Option.bind_some,zFJ (hk _ (List.getElem_mem hi)),zaE hi (by omega:ks.length≤_),List.getElem?_eq_getElem hi,Option.getD_some,zf6]
  by_cases h0:i=0
  ·subst h0
   cases zcJ ks[0]<;>simp
  ·have hp:(i:Int)>0:=by omega
   have hi1:i-1<ks.length:=by omega
   have hb:(i==0)=false:=by simpa using h0
   simp only [hp,decide_true,if_true,zuE (Nat.pos_of_ne_zero h0) (by omega:i≤2000000),zac hi1,Option.bind_some,zuQ,List.getElem?_eq_getElem hi1,Option.getD_some,hb,Bool.false_or]
   cases zcJ ks[i]<;>cases Op.bytesLess ks[i-1] ks[i]<;>rfl
theorem zw0 {l:List zaa} (h:l.length≤2000000):zgc l=some (l.map (·.fKey)):=by
 have h1:=zb0 (xs:=l) (body:=fun s:Int × List Str=>zcz l s.1 s.2) (fun i (o:List Str)=>(i,o)) (fun o w=>o++ [w.fKey]) (fun o=>some o) (fun q o=>o.length=q)
  (fun i hi o hI=>by
   refine⟨?_,by simp [hI]⟩
   show zcz l i o=_
   unfold zcz
   have hr:((o.length:Int)+(([l[i].fKey]:List Str).length:Int))*16≤140737488355328∧(o.length:Int)+(([l[i].fKey]:List Str).length:Int)≤140737488355328:=by
    rw [List.length_singleton,hI];omega
   rw [if_pos (by simpa using hi),zac hi,Option.bind_some,zae hr,zaE hi (by omega)]) (fun o _=>by
   show zcz l l.length o=_
   unfold zcz
   rw [if_neg (by simp)]) (s:= []) rfl
 have hf: ∀(l:List zaa) (o:List Str),l.foldl (fun o w=>o++ [w.fKey]) o=o++l.map (·.fKey):=by
  intro l
  induction l with
  |nil=>intro o;simp
  |cons w l ih=>intro o;rw [List.foldl_cons,ih];simp
 have h2:=h1.1
 rw [hf,List.nil_append]at h2
 unfold zgc
 exact h2
def zij (w:zaa):Bool:=zcJ w.fKey&&zkz w.fVal w.fGone
def zed (l:List zaa):Bool:=decide ((l.length:Int)≤24)&&(l.all zij&&zm0 (l.map (·.fKey)))
def zpk (l:List zaa):Prop:=l.length≤2000000∧ ∀w∈l,w.fKey.length≤2000000∧w.fVal.length≤2000000
theorem zAo {l:List zaa} (h:zpk l):zfB l=some (zed l):=by
 have e1:zaV l (fun y0_=>zeC y0_)=some (l.any fun w=> !zkz w.fVal w.fGone):=zqD _ (fun w hw=>by simp [zeC,zzD (h.2 w hw).2]) (by have:=h.1;omega)
 have e2:=zwx (ks:=l.map (·.fKey)) (by simpa using h.1) (by simp only [List.mem_map];rintro k ⟨w,hw,rfl⟩;exact(h.2 w hw).1)
 simp only [zfB,zw0 h.1,e1,e2,Option.bind_some,zed,←List.not_all_eq_any_not]
 have e3:l.all zij=((l.map (·.fKey)).all zcJ&&l.all fun w=>zkz w.fVal w.fGone):=by
  rw [Bool.eq_iff_iff]
  simp only [List.all_eq_true,Bool.and_eq_true,zij,List.mem_map]
  constructor
  ·intro h;exact⟨by rintro k ⟨w,hw,rfl⟩;exact(h w hw).1,fun w hw=>(h w hw).2⟩
  ·rintro⟨h1,h2⟩ w hw;exact⟨h1 _ ⟨w,hw,rfl⟩,h2 w hw⟩
 rw [e3]
 generalize (l.map (·.fKey)).all zcJ=b1
 generalize zm0 (l.map (·.fKey))=b2
 generalize (l.all fun w=>zkz w.fVal w.fGone)=b3
 by_cases hl:(l.length:Int)≤24<;>cases b1<;>cases b2<;>cases b3<;>simp [hl]
theorem zAB {l:List zaa} (h:zpk l):zgH l=some (zed l):=by
 unfold zgH
 have hn:=h.1
 rw [zil (n:=l.length) (fun i=>zij ((l[i]?).getD ⟨[], [],false⟩)&&zf6 (l.map (·.fKey)) i) false (zgz l) ?_ (by simp [zhc]),zAs l zij (zf6 (l.map (·.fKey))) _ fun i hi=>by simp [hi]]
 ·unfold zgz zed zm0
  rw [List.length_map]
  cases(l.all zij&&(List.range l.length).all (zf6 (l.map (·.fKey))))<;>simp
 ·intro i hi
  have hm:=h.2 _ (List.getElem_mem hi)
  simp only [zhc,Int.ofNat_lt,hi,decide_true,if_true,zac hi,Option.bind_some,zCF hm.1 hm.2,zaE hi (by omega:l.length≤_),List.getElem?_eq_getElem hi,Option.getD_some,zf6,List.getElem?_map,Option.map_some]
  rw [show(zcJ l[i].fKey&&zkz l[i].fVal l[i].fGone)=zij l[i]from rfl]
  by_cases h0:i=0
  ·subst h0
   cases zij l[0]<;>simp
  ·have hp:(i:Int)>0:=by omega
   have hi1:i-1<l.length:=by omega
   have hb:(i==0)=false:=by simpa using h0
   simp only [hp,decide_true,if_true,zuE (Nat.pos_of_ne_zero h0) (by omega:i≤2000000),zac hi1,Option.bind_some,List.getElem?_eq_getElem hi1,Option.map_some,Option.getD_some,hb,Bool.false_or]
   cases zij l[i]<;>cases Op.bytesLess l[i-1].fKey l[i].fKey<;>rfl
def zdh (l:List zaa):Bool:=zed l&&l.all fun w=> !w.fGone
theorem zDE {l:List zaa} (h:zpk l):zjh l=some (zdh l):=by
 have e1:zaV l (fun y0_=>zgY y0_)=some (l.any fun w=> !!w.fGone):=zqD _ (fun w hw=>by simp [zgY]) (by have:=h.1;omega)
 simp only [zjh,zAo h,e1,Option.bind_some,zdh,←List.not_all_eq_any_not]
 cases zed l<;>simp
theorem zrl {l:List zaa} (h:zpk l):zdc l=some (zdh l):=by
 have hn:=h.1
 unfold zdc
 rw [ziW (xs:=l) (fun w=> !w.fGone) false (ziG l) (fun i hi=>by
  simp only [ziF,Int.ofNat_lt,hi,decide_true,if_true,zac hi,Option.bind_some,zaE hi (by omega:l.length≤_)]
  cases l[i].fGone<;>rfl) (by simp [ziF])]
 simp only [ziG,zAB h,Option.bind_some,zdh]
 cases(l.all fun w=> !w.fGone)<;>simp
end Go.Proofs.YtfkblfjloegahaaGreatDoor
end
section
namespace Go.Proofs.YtfkblfjloegahaaGreatDoor
open Go.RowKit
set_option maxRecDepth 100000
def small (b:UInt8):Bool:= !(decide ((b.toNat:Int)<97)||decide ((b.toNat:Int)>122))
def zcG (s:Str) (n:Int):Bool:=s.all small&&inB s.length 1 n
theorem zoB {s:Str} {n:Int} (h:s.length≤2000000):zdn s n=some (zcG s n):=by
 unfold zdn
 rw [ziW (xs:=s) small false (zfP s n) (fun i hi=>by
  simp only [zfN,Int.ofNat_lt,hi,decide_true,if_true,zac hi,Option.bind_some,zaE hi (by omega:s.length≤_)]
  rw [show(decide ((s[i].toNat:Int)<97)||decide ((s[i].toNat:Int)>122))= !small s[i] by simp [small]]
  cases small s[i]<;>rfl) (by simp [zfN])]
 unfold zfP zcG inB
 cases s.all small<;>simp
theorem zoX {s:Str} {n:Int} (h:s.length≤2000000):zdl s n=some (zcG s n):=by
 unfold zdl
 rw [ziW (xs:=s) small false (zfR s n) (fun i hi=>by
  simp only [zfS,Int.ofNat_lt,hi,decide_true,if_true,zac hi,Option.bind_some,zaE hi (by omega:s.length≤_)]
  rw [show(decide ((s[i].toNat:Int)<97)||decide ((s[i].toNat:Int)>122))= !small s[i] by simp [small]]
  cases small s[i]<;>rfl) (by simp [zfS])]
 simp only [zfR,zhW,Option.bind_some,zcG]
 cases s.all small<;>simp
theorem zES {xs:List Str} {s:Str} (h:xs.length≤2000000):zib xs s=some (zix (· ==s) xs):=by
 unfold zib
 refine ztI (· ==s) (fun i hi=> ?_) (by simp [zjv])
 simp only [zjv,Int.ofNat_lt,hi,decide_true,if_true,zac hi,Option.bind_some,zaE hi (by omega:xs.length≤_)]
 cases xs[i]==s<;>rfl
theorem zA9 {xs:List Str} {s:Str} (h:xs.length≤2000000):zby xs s=some (zix (· ==s) xs):=by
 unfold zby
 refine ztI (· ==s) (fun i hi=> ?_) (by simp [zb6])
 simp only [zb6,Int.ofNat_lt,hi,decide_true,if_true,zac hi,Option.bind_some,zaE hi (by omega:xs.length≤_)]
 rw [show(s==xs[i])=(xs[i]==s)from BEq.comm]
 cases xs[i]==s<;>rfl
theorem zAG (xs:List Str) (s:Str):(xs.any fun x=>x==s)=xs.contains s:=by
 rw [List.contains_eq_any_beq]
 congr 1
 funext x
 exact BEq.comm
theorem zCL {xs:List Str} {s:Str} (h:xs.length≤2000000):zaL xs s=some (xs.contains s):=by
 simp only [zaL,zA9 h,Option.bind_some,zmg,zAG]
def zwl (cs:List Str) (i:Nat):Bool:=zcG ((cs[i]?).getD []) 3&& !(cs.take i).contains ((cs[i]?).getD [])
def zry (cs:List Str):Bool:=(List.range cs.length).all (zwl cs)
def zox (t:zab) (i:Nat):Bool:=
 let x:=(t.fIdxs[i]?).getD ⟨[],0,0⟩
 zcG x.fName 1&&inB x.fCol 1 ((t.fCols.length:Int)-1)&&inB x.fStage 0 3&&(i==0||Op.bytesLess ((t.fIdxs[i-1]?).getD ⟨[],0,0⟩).fName x.fName)
def zau (t:zab):Bool:=zcG t.fName 1&&(zry t.fCols&&inB t.fCols.length 2 4)&&decide ((t.fIdxs.length:Int)≤3)&&(List.range t.fIdxs.length).all (zox t)
structure zc9 (t:zab):Prop where
 name:t.fName.length≤2000000
 cols:t.fCols.length≤2000000
 col: ∀c∈t.fCols,c.length≤2000000
 idxs:t.fIdxs.length≤2000000
 idx: ∀x∈t.fIdxs,x.fName.length≤2000000
theorem zDG {α:Type} (xs:List α) (i:Nat):zfV xs 0 i=xs.take i:=by simp [zfV]
theorem zDW {cs:List Str} (h:cs.length≤2000000) (hc: ∀c∈cs,c.length≤2000000):zh3 cs=some (zry cs&&inB cs.length 2 4):=by
 unfold zh3
 rw [zil (n:=cs.length) (zwl cs) false (zhA cs) ?_ (by simp [zhD])]
 ·simp only [zhA,zlI,Option.bind_some,zry]
  cases(List.range cs.length).all (zwl cs)<;>simp
 ·intro i hi
  unfold zhD zwl
  rw [if_pos (by simpa using hi),zac hi,Option.bind_some,zoB (hc _ (List.getElem_mem hi)),Option.bind_some,zae (by omega),zDG,zES (by rw [List.length_take];omega),Option.bind_some,zmg,zAG,zaE hi (by omega)]
  simp only [List.getElem?_eq_getElem hi,Option.getD_some]
  cases zcG cs[i] 3<;>cases(cs.take i).contains cs[i]<;>rfl
theorem znZ {t:zab} (h:zc9 t):zcl t=some (zau t):=by
 have hw:=zaC (n:=(t.fCols.length:Int)-1) (by omega) (by have:=h.cols;omega)
 have hn:=h.idxs
 have hl:zak (fun s:Int=>zeE t s) 0=some ((List.range t.fIdxs.length).all (zox t)):=by
  rw [zil (n:=t.fIdxs.length) (zox t) false (some true) ?_ (by simp [zeE])]
  ·cases(List.range t.fIdxs.length).all (zox t)<;>rfl
  ·intro i hi
   unfold zox
   simp only [zeE,Int.ofNat_lt,hi,decide_true,if_true,zac hi,Option.bind_some,zoB (h.idx _ (List.getElem_mem hi)),zlI,hw,zaE hi (by omega:t.fIdxs.length≤_),List.getElem?_eq_getElem hi,Option.getD_some]
   by_cases h0:i=0
   ·subst h0
    cases zcG t.fIdxs[0].fName 1<;>cases inB t.fIdxs[0].fCol 1 ((t.fCols.length:Int)-1)<;>cases inB t.fIdxs[0].fStage 0 3<;>rfl
   ·have hp:(i:Int)>0:=by omega
    have hi1:i-1<t.fIdxs.length:=by omega
    have hb:(i==0)=false:=by simpa using h0
    simp only [hp,decide_true,if_true,zuE (Nat.pos_of_ne_zero h0) (by omega:i≤2000000),zac hi1,Option.bind_some,List.getElem?_eq_getElem hi1,Option.getD_some,hb,Bool.false_or]
    cases zcG t.fIdxs[i].fName 1<;>cases inB t.fIdxs[i].fCol 1 ((t.fCols.length:Int)-1)<;>cases inB t.fIdxs[i].fStage 0 3<;>cases Op.bytesLess t.fIdxs[i-1].fName t.fIdxs[i].fName<;>rfl
 unfold zcl zau
 rw [zoB h.name,Option.bind_some,zDW h.cols h.col,hl]
 by_cases hk:(t.fIdxs.length:Int)≤3
 ·have hk': ¬(t.fIdxs.length:Int)>3:=by omega
  simp only [hk,hk',decide_true,decide_false,Bool.or_false,Bool.and_true]
  cases zcG t.fName 1<;>cases(zry t.fCols&&inB t.fCols.length 2 4)<;>simp
 ·have hk':(t.fIdxs.length:Int)>3:=by omega
  simp only [hk,hk',decide_true,decide_false,Bool.or_true,Bool.and_false,Bool.false_and]
  cases zcG t.fName 1<;>simp
theorem zBx {t:zab} (h:zc9 t):zf5 t=some (zau t):=by
 have hw:=zaC (n:=(t.fCols.length:Int)-1) (by omega) (by have:=h.cols;omega)
 have hn:=h.idxs
 have hm:=h.cols
 have hl:zak (fun s:Int=>zeI t s) 0=some ((List.range t.fIdxs.length).all (zox t)):=by
  rw [zil (n:=t.fIdxs.length) (zox t) false (some true) ?_ (by simp [zeI])]
  ·cases(List.range t.fIdxs.length).all (zox t)<;>rfl
  ·intro i hi
   unfold zox
   simp only [zeI,zj7,Int.ofNat_lt,hi,decide_true,if_true,zac hi,Option.bind_some,zoX (h.idx _ (List.getElem_mem hi)),zhW,hw,zaE hi (by omega:t.fIdxs.length≤_),List.getElem?_eq_getElem hi,Option.getD_some]
   by_cases h0:i=0
   ·subst h0
    cases zcG t.fIdxs[0].fName 1<;>cases inB t.fIdxs[0].fCol 1 ((t.fCols.length:Int)-1)<;>cases inB t.fIdxs[0].fStage 0 3<;>rfl
   ·have hp:(i:Int)>0:=by omega
    have hi1:i-1<t.fIdxs.length:=by omega
    have hb:(i==0)=false:=by simpa using h0
    simp only [hp,decide_true,if_true,zuE (Nat.pos_of_ne_zero h0) (by omega:i≤2000000),zac hi1,Option.bind_some,List.getElem?_eq_getElem hi1,Option.getD_some,hb,Bool.false_or,zuQ]
    cases zcG t.fIdxs[i].fName 1<;>cases inB t.fIdxs[i].fCol 1 ((t.fCols.length:Int)-1)<;>cases inB t.fIdxs[i].fStage 0 3<;>cases Op.bytesLess t.fIdxs[i-1].fName t.fIdxs[i].fName<;>rfl
 have hc:zak (fun s:Int=>zeO t s) 0=some (zry t.fCols&&(List.range t.fIdxs.length).all (zox t)):=by
  rw [zil (n:=t.fCols.length) (zwl t.fCols) false (zgh t) ?_ (by simp [zeO])]
  ·unfold zgh zry
   rw [hl]
   cases(List.range t.fCols.length).all (zwl t.fCols)<;>simp
  ·intro i hi
   unfold zeO zwl
   rw [if_pos (by simpa using hi),zac hi,Option.bind_some,zoX (h.col _ (List.getElem_mem hi)),Option.bind_some,zae (by omega),zDG,zCL (by rw [List.length_take];omega),Option.bind_some,zaE hi (by omega)]
   simp only [List.getElem?_eq_getElem hi,Option.getD_some]
   cases zcG t.fCols[i] 3<;>cases(t.fCols.take i).contains t.fCols[i]<;>rfl
 unfold zf5 zau
 rw [zoX h.name,Option.bind_some,zhW,Option.bind_some,hc]
 by_cases hk:(t.fIdxs.length:Int)≤3
 ·have hk': ¬(t.fIdxs.length:Int)>3:=by omega
  simp only [hk,hk',decide_true,decide_false,Bool.or_false,Bool.and_true]
  cases zcG t.fName 1<;>cases zry t.fCols<;>cases inB t.fCols.length 2 4<;>simp
 ·have hk':(t.fIdxs.length:Int)>3:=by omega
  simp only [hk,hk',decide_true,decide_false,Bool.or_true,Bool.and_false,Bool.false_and]
  cases zcG t.fName 1<;>simp
theorem zq2 {t:zab} {s:Str} (h:zc9 t):zbx t s=some (zix (fun x:zbK=>x.fName==s) t.fIdxs):=by
 have hn:=h.idxs
 unfold zbx
 refine ztI (fun x:zbK=>x.fName==s) (fun i hi=> ?_) (by simp [ziB])
 simp only [ziB,Int.ofNat_lt,hi,decide_true,if_true,zac hi,Option.bind_some,zaE hi (by omega:t.fIdxs.length≤_)]
 cases t.fIdxs[i].fName==s<;>rfl
theorem zvf {t:zab} {s:Str} (h:zc9 t):zbN t s=some (zix (fun x:zbK=>x.fName==s) t.fIdxs):=by
 have hn:=h.idxs
 have e:zbt t.fIdxs (fun y0_=>zew y0_ s)=some (zix (fun x:zbK=>x.fName==s) t.fIdxs):=zv5 (fun x:zbK=>x.fName==s) (fun x _=>rfl) (by omega)
 simp only [zbN,e,Option.bind_some]
end Go.Proofs.YtfkblfjloegahaaGreatDoor
end
section
namespace Go.Proofs.YtfkblfjloegahaaGreatDoor
open Go.RowKit
set_option maxRecDepth 100000
def zbB (c:UInt8):Str→List Str
 | []=> [[]]
 |b::s=>if b=c then []::zbB c s else(match zbB c s with| []=> [[b]]|x::xs=>(b::x)::xs)
theorem zqo (c:UInt8) (s:Str):zbB c s≠ []:=by
 cases s with
 |nil=>simp [zbB]
 |cons b s=>simp only [zbB];split;simp;split<;>simp
theorem zhn {c:UInt8}: ∀{s:Str},(∀b∈s,b≠c)→zbB c s= [s]
 | [],_=>rfl
 |b::s,h=>by
  have e:=zhn (c:=c) (s:=s) fun x hx=>h x (List.mem_cons_of_mem _ hx)
  simp only [zbB,if_neg (h b (by simp)),e]
theorem zjz {c:UInt8}: ∀{p q:Str},(∀b∈p,b≠c)→zbB c (p++c::q)=p::zbB c q
 | [],q,_=>by simp [zbB]
 |b::p,q,h=>by
  have e:=zjz (c:=c) (p:=p) (q:=q) fun x hx=>h x (List.mem_cons_of_mem _ hx)
  simp only [List.cons_append,zbB,if_neg (h b (by simp)),e]
theorem zmr (c:UInt8) (s:Str):(zbB c s).length=s.count c+1:=by
 induction s with
 |nil=>rfl
 |cons b s ih=>
  simp only [zbB]
  by_cases h:b=c
  ·subst h;simp [ih]
  ·rw [if_neg h,List.count_cons_of_ne h]
   cases hs:zbB c s with
   |nil=>exact absurd hs (zqo c s)
   |cons x xs=>rw [hs]at ih;simpa using ih
theorem zD5 {α:Type} (xs:List α) (i j:Nat):zfV xs (i:Int) (j:Int)=(xs.take j).drop i:=by simp [zfV]
def zGo (c:UInt8) (s:Str) (t:List Str × Nat) (i:Nat):List Str × Nat:=if(s[i]?).getD 0=c then(t.1++ [(s.take i).drop t.2],i+1)else t
theorem zxx {s:Str} {c:UInt8} (h:s.length≤2000000):zd6 s c.toNat=some (zbB c s):=by
 have h1:=zb0 (xs:=List.range s.length) (body:=fun t:List Str × Int × Int=>zdp s c.toNat t.1 t.2.1 t.2.2) (fun i (t:List Str × Nat)=>(t.1,(t.2:Int),i)) (zGo c s) (fun t=>zhs s t.2 t.1)
  (fun i t=>t.2≤i∧(∀b∈(s.take i).drop t.2,b≠c)∧t.1++zbB c (s.drop t.2)=zbB c s∧t.1.length≤i)
  (fun i hi t hI=>by
   rw [List.length_range]at hi
   obtain⟨I1,I2,I3,I4⟩:=hI
   have hw:=zaE hi (by omega:s.length≤_)
   rw [List.getElem_range]
   constructor
   ·show zdp s c.toNat t.1 t.2 i=_
    unfold zdp zGo
    rw [if_pos (by simpa using hi),zac hi,Option.bind_some,zFf,hw,zD5,List.getElem?_eq_getElem hi,Option.getD_some]
    by_cases hc:s[i]=c
    ·have hr:((t.1.length:Int)+(([(s.take i).drop t.2]:List Str).length:Int))*16≤140737488355328∧(t.1.length:Int)+(([(s.take i).drop t.2]:List Str).length:Int)≤140737488355328:=by
      rw [List.length_singleton];omega
     rw [if_pos (by simpa using hc),zae (by omega),zae hr,if_pos hc]
    ·rw [if_neg (by simpa using hc),if_neg hc]
   ·unfold zGo
    rw [List.getElem?_eq_getElem hi,Option.getD_some]
    have htk:s.take (i+1)=s.take i++ [s[i]]:=by rw [List.take_succ_eq_append_getElem hi]
    have hd:(s.take (i+1)).drop t.2=(s.take i).drop t.2++ [s[i]]:=by
     rw [htk,List.drop_append_of_le_length (by rw [List.length_take];omega)]
    by_cases hc:s[i]=c
    ·rw [if_pos hc]
     refine⟨Nat.le_refl _,by simp, ?_,by simp;omega⟩
     have e:s.drop t.2=(s.take i).drop t.2++c::s.drop (i+1):=by
      have e0:s.drop t.2=(s.take i).drop t.2++s.drop i:=by
       conv=>lhs;rw [←List.take_append_drop i s]
       rw [List.drop_append_of_le_length (by rw [List.length_take];omega)]
      rw [e0,List.drop_eq_getElem_cons hi,hc]
     rw [e,zjz I2]at I3
     simpa using I3
    ·rw [if_neg hc]
     refine⟨by omega, ?_,I3,by omega⟩
     rw [hd]
     intro b hb
     rcases List.mem_append.1 hb with hb|hb
     ·exact I2 b hb
     ·simp at hb;subst hb;exact hc)
  (fun t hI=>by
   show zdp s c.toNat t.1 t.2 ((List.range s.length).length:Nat)=_
   unfold zdp
   rw [if_neg (by simp)]) (s:=([],0)) ⟨Nat.le_refl _,by simp,by simp,by simp⟩
 generalize (List.range s.length).foldl (zGo c s) ([],0)=t at h1
 rw [List.length_range]at h1
 obtain⟨h2,I1,I2,I3,I4⟩:=h1
 unfold zd6
 refine Eq.trans h2 ?_
 unfold zhs
 have hw:zfV s (t.2:Int) (s.length:Int)=s.drop t.2:=by rw [zD5,List.take_length]
 have hr:((t.1.length:Int)+(([s.drop t.2]:List Str).length:Int))*16≤140737488355328∧(t.1.length:Int)+(([s.drop t.2]:List Str).length:Int)≤140737488355328:=by
  rw [List.length_singleton];omega
 rw [hw,zae (by omega),zae hr,←I3]
 rw [List.take_length]at I2
 rw [zhn I2]
theorem zg8 (l:Str) (c:UInt8):(Lib.indexByte l c= -1∧ ∀b∈l,b≠c)∨ ∃p q:Str,l=p++c::q∧(∀b∈p,b≠c)∧Lib.indexByte l c=p.length:=by
 induction l with
 |nil=>exact .inl ⟨rfl,by simp⟩
 |cons b l ih=>
  unfold Lib.indexByte
  by_cases hb:b=c
  ·subst hb
   exact .inr ⟨[],l,by simp,by simp,by simp⟩
  ·have h1:(b==c)=false:=by simpa using hb
   rw [h1]
   simp only [Bool.false_eq_true,if_false]
   rcases ih with⟨e,h⟩|⟨p,q,rfl,h,e⟩
   ·refine .inl ⟨by simp [e],fun x hx=> ?_⟩
    rcases List.mem_cons.1 hx with rfl|hx
    ·exact hb
    ·exact h x hx
   ·refine .inr ⟨b::p,q,by simp,fun x hx=> ?_, ?_⟩
    ·rcases List.mem_cons.1 hx with rfl|hx
     ·exact hb
     ·exact h x hx
    ·rw [e]
     have:((p.length:Int)== -1)=false:=by rw [beq_eq_false_iff_ne];omega
     rw [this]
     simp
theorem ztm {c:UInt8} {s:Str} (h: ∀b∈s,b≠c):s.count c=0:=List.count_eq_zero.2 fun hc=>h c hc rfl
theorem zCy {c:UInt8} {p q:Str} (h: ∀b∈p,b≠c):(p++c::q).count c=q.count c+1:=by
 rw [List.count_append,ztm h,List.count_cons_self];omega
theorem zuZ {α:Type} {a:List α} {i:Nat} (x:α) (h:i<a.length):(a.set i x).take (i+1)=a.take i++ [x]:=by
 rw [List.take_succ_eq_append_getElem (by simpa using h),List.getElem_set_self,List.take_set,List.set_eq_of_length_le (by rw [List.length_take];omega)]
theorem zFp {a b:Int} (h: ¬a<b):(bif decide (a<b)then a else b)=b:=by simp [h]
theorem zBo {s:Str} {c:UInt8} (h:s.length≤2000000):zfA s [c]=some (zbB c s):=by
 have hcl:s.count c≤s.length:=List.count_le_length
 have hw1:IntKind.i64.wrap ((s.count c:Int)+1)=(s.count c:Int)+1:=zaC (by omega) (by omega)
 have hw2:IntKind.i64.wrap ((s.length:Int)+1)=(s.length:Int)+1:=zaC (by omega) (by omega)
 have hbif:(bif decide ((s.length:Int)+1<(s.count c:Int)+1)then(s.length:Int)+1 else(s.count c:Int)+1)=(s.count c:Int)+1:=zFp (by omega)
 have hw3:IntKind.i64.wrap ((s.count c:Int)+1-1)=(s.count c:Int):=by rw [zaC (by omega) (by omega)];omega
 have key: ∀(n:Nat) (r:Str) (a:List Str) (i:Nat),r.count c=n→r.length≤s.length→a.length=s.count c+1→i+n=s.count c→a.take i++zbB c r=zbB c s→
   zak (fun t:Str × Int × List Str=>zb1 s [c] 0 ((s.count c:Int)+1) t.1 t.2.1 t.2.2) (r,(i:Int),a)=some (zbB c s):=by
  intro n
  induction n with
  |zero=>
   intro r a i hr hl ha hi hI
   have hr0: ∀b∈r,b≠c:=fun b hb e=>by subst e;exact List.count_eq_zero.1 hr hb
   have hia:i<a.length:=by omega
   have hwi:=zaE hia (by omega)
   have hb:zb1 s [c] 0 ((s.count c:Int)+1) r i a=some (.inr (some (zbB c s))):=by
    unfold zb1
    rw [hw2,hbif,hw3,if_neg (by simp;omega)]
    unfold zfu
    rw [zac hia,Option.bind_some,hwi,Int.toNat_natCast,zae (by rw [List.length_set];omega),zDG,zuZ r hia,←hI,zhn hr0]
   rw [zaR]
   dsimp only
   rw [hb]
  |succ n ih=>
   intro r a i hr hl ha hi hI
   rcases zg8 r c with⟨_,h0⟩|⟨p,q,rfl,hp,hx⟩
   ·rw [ztm h0]at hr;omega
   ·rw [zCy hp]at hr
    have hia:i<a.length:=by omega
    have hwi:=zaE hia (by omega)
    simp only [List.length_append,List.length_cons]at hl
    have hv0:IntKind.i64.wrap ((p.length:Int)+0)=(p.length:Int):=by rw [zaC (by omega) (by omega)];omega
    have hv1:IntKind.i64.wrap ((p.length:Int)+(([c]:Str).length:Int))=((p.length+1:Nat):Int):=by rw [List.length_singleton,zaC (by omega) (by omega)];omega
    have hb:zb1 s [c] 0 ((s.count c:Int)+1) (p++c::q) i a=some (.inl (q,((i+1:Nat):Int),a.set i p)):=by
     unfold zb1
     have hidx:zgQ (p++c::q) [c]=some (p.length:Int):=by simp [zgQ,zaX,hx]
     rw [hw2,hbif,hw3,if_pos (by simp;omega),hidx,Option.bind_some,if_neg (by simp),hv0,zae (by rw [List.length_append];omega),zac hia,Option.bind_some,hv1,zae (by rw [List.length_append,List.length_cons];omega),hwi,Int.toNat_natCast,zD5,zDG,List.take_length]
     have e1:(p++c::q).drop (p.length+1)=q:=by simp
     have e2:(p++c::q).take p.length=p:=by simp
     rw [e1,e2]
    rw [zaR]
    dsimp only
    rw [hb]
    refine ih q (a.set i p) (i+1) (by omega) (by omega) (by simpa using ha) (by omega) ?_
    rw [zuZ p hia,←hI,zjz hp]
    simp
 have hc1:zgC s [c]=some ((s.count c:Nat):Int):=rfl
 have hz:(((-1:Int))==0)=false:=rfl
 have hne:(([c]:Str)==([]:Str))=false:=rfl
 unfold zfA zgZ
 rw [hz,hne,if_neg (by simp),if_neg (by simp),if_pos (by simp),hc1,Option.bind_some,hw1]
 unfold zfx
 rw [hw2,hbif,zae (by omega)]
 exact zDp (key (s.count c) s (List.replicate ((s.count c:Int)+1).toNat []) 0 rfl (Nat.le_refl _) (by simp) (by omega) (by simp))
end Go.Proofs.YtfkblfjloegahaaGreatDoor
end
section
namespace Go.Proofs.YtfkblfjloegahaaGreatDoor
open Go.RowKit
set_option maxRecDepth 100000
def field (s:Str):Bool:=inB s.length 1 3&&zjx s []
theorem zuF {s:Str} (h:s.length≤2000000):zeo s=some (field s):=by
 simp only [zeo,zlI,Option.bind_some,zqU h (more:= []) (by decide),field]
 cases inB s.length 1 3<;>simp
theorem zp7 {s:Str} (h:s.length≤2000000):ze2 s=some (field s):=by
 simp only [ze2,zhW,Option.bind_some,zoI h,field]
 cases inB s.length 1 3<;>simp
theorem zy5 (sep x y:Str) (r:List Str):Lib.join (x::(r++ [y])) sep=Lib.join (x::r) sep++sep++y:=by
 rw [Lib.join_cons,Lib.join_cons]
 simp [Lib.joinTail]
theorem zzB {xs:List Str} {sep:Str} {i:Nat} (hi:i<xs.length):Lib.join (xs.take (i+1)) sep=if i=0 then xs[i]else Lib.join (xs.take i) sep++sep++xs[i]:=by
 rw [List.take_succ_eq_append_getElem hi]
 cases xs with
 |nil=>simp at hi
 |cons x xs=>
  cases i with
  |zero=>simp [Lib.join_cons,Lib.joinTail]
  |succ i=>
   rw [List.take_succ_cons,List.cons_append,zy5,if_neg (by omega)]
def zeu:List Str→Nat
 | []=>0
 |x::xs=>x.length+zeu xs
theorem zuR (xs:List Str) (sep:Str):(Lib.join xs sep).length≤zeu xs+xs.length*sep.length:=by
 cases xs with
 |nil=>simp [Lib.join_nil]
 |cons x xs=>
  rw [Lib.join_cons,List.length_append]
  have: ∀r:List Str,(Lib.joinTail sep r).length=zeu r+r.length*sep.length:=by
   intro r
   induction r with
   |nil=>simp [Lib.joinTail,zeu]
   |cons y r ih=>
    have e:Lib.joinTail sep (y::r)=sep++y++Lib.joinTail sep r:=by simp [Lib.joinTail]
    rw [e,List.length_append,List.length_append,ih,zeu,List.length_cons,Nat.succ_mul]
    omega
  rw [this,zeu,List.length_cons,Nat.succ_mul]
  omega
theorem zw1 (xs:List Str) (i:Nat):zeu (xs.take i)≤zeu xs:=by
 induction xs generalizing i with
 |nil=>simp [zeu]
 |cons x xs ih=>
  cases i with
  |zero=>simp [zeu]
  |succ i=>simp only [List.take_succ_cons,zeu];have:=ih i;omega
theorem zs8 {xs:List Str} {i:Nat} (hi:i<xs.length):xs[i].length≤zeu xs:=by
 induction xs generalizing i with
 |nil=>simp at hi
 |cons x xs ih=>
  cases i with
  |zero=>simp [zeu]
  |succ i=>simp only [List.getElem_cons_succ,zeu];have:=ih (i:=i) (by simpa using hi);omega
def Small (xs:List Str):Prop:=xs.length≤2000000∧zeu xs≤2000000
theorem zD8 {xs:List Str} {c:UInt8} (h:Small xs):zki xs [c]=some (Lib.join xs [c]):=by
 obtain⟨h1,h2⟩:=h
 have hl:=zb0 (xs:=List.range xs.length) (body:=fun s:Str × Int=>zdr xs [c] s.1 s.2) (fun i (o:Str)=>(o,i)) (fun o i=>if i=0 then(xs[i]?).getD []else o++ [c]++(xs[i]?).getD []) (fun o=>some o) (fun i o=>o=Lib.join (xs.take i) [c])
  (fun i hi o hI=>by
   rw [List.length_range]at hi
   rw [List.getElem_range]
   have hI:o=Lib.join (xs.take i) [c]:=hI
   have hlen:o.length≤1010000000:=by
    have e1:=zuR (xs.take i) [c]
    have e2:=zw1 xs i
    rw [List.length_take,List.length_singleton,Nat.mul_one]at e1
    rw [hI];omega
   have hg:=zs8 hi
   have hw:=zaE hi (by omega:xs.length≤_)
   rw [List.getElem?_eq_getElem hi,Option.getD_some]
   refine⟨?_,by show _=_;rw [zzB hi,hI]⟩
   show zdr xs [c] o i=_
   unfold zdr
   rw [if_pos (by simpa using hi),zac hi,Option.bind_some,hw]
   by_cases h0:i=0
   ·subst h0
    have ho:o= []:=by rw [hI];rfl
    subst ho
    rw [if_neg (by simp),zae (by simp;omega),if_pos rfl];rfl
   ·rw [if_pos (by simp;omega),zae (by rw [List.length_singleton];omega),zae (by rw [List.length_append,List.length_singleton];omega),if_neg h0])
  (fun o _=>by
   show zdr xs [c] o ((List.range xs.length).length:Nat)=_
   unfold zdr
   rw [if_neg (by simp)]) (s:= []) (by simp [Lib.join_nil])
 generalize (List.range xs.length).foldl (fun o i=>if i=0 then(xs[i]?).getD []else o++ [c]++(xs[i]?).getD []) []=o at hl
 obtain⟨h3,h4⟩:=hl
 have h4:o=Lib.join (xs.take (List.range xs.length).length) [c]:=h4
 rw [List.length_range,List.take_length]at h4
 subst h4
 exact h3
theorem zDl {xs:List Str} {c:UInt8} (h:Small xs):zh9 xs [c]=some (Lib.join xs [c]):=by
 obtain⟨h1,h2⟩:=h
 have:=zuR xs [c]
 rw [List.length_singleton,Nat.mul_one]at this
 exact zae ⟨by omega,by omega⟩
end Go.Proofs.YtfkblfjloegahaaGreatDoor
end
section
namespace Go.Proofs.YtfkblfjloegahaaGreatDoor
open Go.RowKit
set_option maxRecDepth 100000
theorem Small.each {xs:List Str} (h:Small xs): ∀x∈xs,x.length≤2000000:=by
 intro x hx
 obtain⟨i,hi,rfl⟩:=List.getElem_of_mem hx
 exact Nat.le_trans (zs8 hi) h.2
def zbD (t:zab) (r:zdC):Bool:=((r.fVals.length:Int)==t.fCols.length)&&r.fVals.all field
theorem zkE {t:zab} {r:zdC} (h:Small r.fVals):zdj t r=some (zbD t r):=by
 have h1:=h.1
 unfold zdj
 rw [ziW (xs:=r.fVals) field false (zhu t r) (fun i hi=>by
  simp only [zht,Int.ofNat_lt,hi,decide_true,if_true,zac hi,Option.bind_some,zuF (h.each _ (List.getElem_mem hi)),zaE hi (by omega:r.fVals.length≤_)]
  cases field r.fVals[i]<;>rfl) (by simp [zht])]
 unfold zhu zbD
 cases r.fVals.all field<;>simp
theorem zko {t:zab} {r:zdC} (h:Small r.fVals):zbd t r=some (zbD t r):=by
 have e:zaV r.fVals (fun y0_=>zdH y0_)=some (r.fVals.any fun s=> !field s):=zqD _ (fun s hs=>by simp [zdH,zp7 (h.each s hs)]) (by have:=h.1;omega)
 simp only [zbd,e,Option.bind_some,zbD,←List.not_all_eq_any_not]
 cases((r.fVals.length:Int)==t.fCols.length)<;>simp
def zlp (t:zab) (r:zdC):zaa:=⟨t.fName++ [47]++(r.fVals.head?).getD [],Lib.join r.fVals.tail [44],false⟩
theorem zHd {α:Type} (xs:List α):zfV xs 1 (xs.length:Int)=xs.tail:=by simp [zfV]
theorem Small.tail {xs:List Str} (h:Small xs):Small xs.tail:=by
 cases xs with
 |nil=>exact h
 |cons x xs=>exact⟨by have:=h.1;simp at this ⊢;omega,by have:=h.2;simp only [zeu,List.tail_cons]at this ⊢;omega⟩
theorem zuJ {t:zab} {r:zdC} (ht:t.fName.length≤2000000) (h:Small r.fVals) (hn:r.fVals≠ []):zdw t r=some (zlp t r):=by
 obtain⟨x,xs,hx⟩:=List.exists_cons_of_ne_nil hn
 have hx1:x.length≤2000000:=h.each x (by simp [hx])
 unfold zdw zlp
 rw [zae (by rw [List.length_singleton];omega),zHd,zD8 h.tail,hx]
 rw [show zaA (x::xs) 0=some x from rfl,Option.bind_some,zae (by rw [List.length_append,List.length_singleton];omega),zae (by simp only [List.length_cons];omega),Option.bind_some]
 rfl
theorem zqJ {t:zab} {r:zdC} (ht:t.fName.length≤2000000) (h:Small r.fVals) (hn:r.fVals≠ []):zbv t r=some (zlp t r):=by
 obtain⟨x,xs,hx⟩:=List.exists_cons_of_ne_nil hn
 have hx1:x.length≤2000000:=h.each x (by simp [hx])
 unfold zbv zlp
 rw [zae (by rw [List.length_singleton];omega),zHd,zDl h.tail,hx]
 rw [show zaA (x::xs) 0=some x from rfl,Option.bind_some,zae (by rw [List.length_append,List.length_singleton];omega),zae (by simp only [List.length_cons];omega),Option.bind_some]
 rfl
theorem zpm (c:UInt8) (s:Str):zeu (zbB c s)≤s.length:=by
 induction s with
 |nil=>simp [zbB,zeu]
 |cons b s ih=>
  simp only [zbB]
  split
  ·simp only [zeu,List.length_nil,List.length_cons];omega
  ·cases hs:zbB c s with
   |nil=>exact absurd hs (zqo c s)
   |cons x xs=>rw [hs]at ih;simp only [zeu,List.length_cons]at ih ⊢;omega
theorem zwL {c:UInt8} {s:Str} (h:s.length≤1000000):Small (zbB c s):=by
 have h1:=zmr c s
 have h2:s.count c≤s.length:=List.count_le_length
 have h3:=zpm c s
 exact⟨by omega,by omega⟩
theorem zFt {s p:Str} (hs:s.length≤2000000):zdD s p=some (if p.isPrefixOf s=true then(s.drop p.length,true)else(s,false)):=by
 have e:zbq s p=some (p.isPrefixOf s):=by
  unfold zbq
  by_cases hl:p.length≤s.length
  ·rw [if_pos (by simpa using hl),zae (by omega),zDG]
   congr 1
   rw [Bool.eq_iff_iff,beq_iff_eq,List.isPrefixOf_iff_prefix,List.prefix_iff_eq_take]
   exact eq_comm
  ·rw [if_neg (by simpa using hl)]
   congr 1
   symm
   rw [←Bool.not_eq_true,List.isPrefixOf_iff_prefix]
   intro h
   exact hl h.length_le
 unfold zdD zcm
 rw [e,Option.bind_some]
 cases hp:p.isPrefixOf s with
 |false=>simp
 |true=>
  have hl:=(List.isPrefixOf_iff_prefix.1 hp).length_le
  simp only [Bool.not_true,Bool.false_eq_true,if_false,if_true]
  rw [zae (by omega),zD5,List.take_length]
  rfl
end Go.Proofs.YtfkblfjloegahaaGreatDoor
end
section
namespace Go.Proofs.YtfkblfjloegahaaGreatDoor
open Go.RowKit
set_option maxRecDepth 100000
def ztE (a b:zaa):Bool:=a.fKey==b.fKey&&(a.fVal==b.fVal&&(a.fGone==b.fGone))
theorem zyz (a b:zaa):ztE a b=ztE b a:=by
 unfold ztE
 rw [show(a.fKey==b.fKey)=(b.fKey==a.fKey)from BEq.comm,show(a.fVal==b.fVal)=(b.fVal==a.fVal)from BEq.comm,show(a.fGone==b.fGone)=(b.fGone==a.fGone)from BEq.comm]
theorem zzG {a b:zaa} (h:ztE a b=true):a.fKey=b.fKey:=by
 unfold ztE at h
 simp only [Bool.and_eq_true,beq_iff_eq]at h
 exact h.1
def zin (w:zaa):zdC:=⟨w.fKey.drop 2::zbB 44 w.fVal⟩
def zeN (t:zab) (w:zaa):Bool:=zbD t (zin w)&&ztE (zlp t (zin w)) w
def zo6 (w:zaa):Prop:=w.fKey.length≤1000∧w.fVal.length≤1000
theorem zni {w:zaa} (h:zo6 w):Small (zin w).fVals:=by
 have h1:=zmr 44 w.fVal
 have h2:w.fVal.count 44≤w.fVal.length:=List.count_le_length
 have h3:=zpm 44 w.fVal
 obtain⟨k,v⟩:=h
 refine⟨?_, ?_⟩
 ·show(w.fKey.drop 2::zbB 44 w.fVal).length≤_
  rw [List.length_cons];omega
 ·show zeu (w.fKey.drop 2::zbB 44 w.fVal)≤_
  rw [zeu,List.length_drop];omega
theorem zzM {t:zab} {w:zaa} (h:zbD t (zin w)=true):3≤w.fKey.length:=by
 unfold zbD zin at h
 simp only [Bool.and_eq_true,List.all_cons,field,zbo,List.length_drop]at h
 omega
theorem zDH {t:zab} {w:zaa} (ht:t.fName.length≤2000000) (h:zo6 w): ∃r,zhP t w=some (r,zeN t w)∧(zeN t w=true→r=zin w):=by
 have hs:=zni h
 have hsp:=zmr 44 w.fVal
 have hct:w.fVal.count 44≤w.fVal.length:=List.count_le_length
 obtain⟨hk,hv⟩:=h
 unfold zhP
 by_cases h3:w.fKey.length<3
 ·rw [if_pos (by simp;omega)]
  have:zeN t w=false:=by
   unfold zeN
   cases hg:zbD t (zin w)with
   |false=>rfl
   |true=>have:=zzM hg;omega
  exact⟨_,by rw [this],by rw [this];intro h;cases h⟩
 ·have hw:zfV w.fKey 2 (w.fKey.length:Int)=w.fKey.drop 2:=by
   have:=zD5 w.fKey 2 w.fKey.length
   rw [List.take_length]at this
   exact this
  have hsplit:zd6 w.fVal 44=some (zbB 44 w.fVal):=zxx (c:=44) (by omega)
  have hr:(([w.fKey.drop 2]:List Str).length+(zbB 44 w.fVal).length:Int)*16≤140737488355328∧(([w.fKey.drop 2]:List Str).length:Int)+(zbB 44 w.fVal).length≤140737488355328:=by
   rw [List.length_singleton];omega
  rw [if_neg (by simp;omega),zae (by omega),hsplit,Option.bind_some,hw,zae hr]
  rw [show(⟨[w.fKey.drop 2]++zbB 44 w.fVal⟩:zdC)=zin w from rfl,zkE hs,Option.bind_some]
  unfold zeN
  cases hg:zbD t (zin w)with
  |false=>exact⟨_,by rw [if_neg (by simp)];rfl,by simp⟩
  |true=>
   rw [if_pos rfl,zuJ ht hs (by simp [zin]),Option.bind_some]
   exact⟨zin w,by rw [Bool.true_and];rfl,fun _=>rfl⟩
theorem zEm {t:zab} {w:zaa} (ht:t.fName.length=1) (h:zo6 w): ∃r,zdG t w=some (r,zeN t w)∧(zeN t w=true→r=zin w):=by
 have hs:=zni h
 have hsp:=zmr 44 w.fVal
 have hct:w.fVal.count 44≤w.fVal.length:=List.count_le_length
 obtain⟨hk,hv⟩:=h
 unfold zdG
 have hsplit:zfA w.fVal [44]=some (zbB 44 w.fVal):=zBo (by omega)
 rw [zae (by rw [List.length_singleton];omega),zFt (by omega),Option.bind_some,hsplit,Option.bind_some]
 have hr: ∀x:Str,(([x]:List Str).length+(zbB 44 w.fVal).length:Int)*16≤140737488355328∧(([x]:List Str).length:Int)+(zbB 44 w.fVal).length≤140737488355328:=by
  intro x;rw [List.length_singleton];omega
 rw [zae (hr _)]
 cases hp:(t.fName++ [47]).isPrefixOf w.fKey with
 |false=>
  have hno:zeN t w=false:=by
   unfold zeN
   cases hw:ztE (zlp t (zin w)) w with
   |false=>simp
   |true=>
    have hkey:=zzG hw
    rw [←Bool.not_eq_true,List.isPrefixOf_iff_prefix]at hp
    exact absurd ⟨_,hkey⟩ hp
  rw [hno]
  exact⟨_,by rw [if_neg (by simp)],by simp⟩
 |true=>
  have hl:(t.fName++ [47]).length=2:=by rw [List.length_append,ht];rfl
  simp only [if_true,hl]
  rw [show(⟨[w.fKey.drop 2]++zbB 44 w.fVal⟩:zdC)=zin w from rfl,zko hs,Option.bind_some]
  unfold zeN
  cases hg:zbD t (zin w)with
  |false=>exact⟨_,by rw [if_neg (by simp)];rfl,by simp⟩
  |true=>
   rw [if_pos rfl,zqJ (by omega) hs (by simp [zin]),Option.bind_some]
   rw [show(w.fKey==(zlp t (zin w)).fKey&&(w.fVal==(zlp t (zin w)).fVal&&w.fGone==(zlp t (zin w)).fGone))=ztE w (zlp t (zin w))from rfl,zyz]
   cases ztE (zlp t (zin w)) w with
   |false=>exact⟨_,by rw [if_pos (by simp)];rfl,by simp⟩
   |true=>exact⟨_,by rw [if_neg (by simp)];rfl,fun _=>rfl⟩
end Go.Proofs.YtfkblfjloegahaaGreatDoor
end
section
namespace Go.Proofs.YtfkblfjloegahaaGreatDoor
open Go.RowKit
set_option maxRecDepth 100000
theorem zjm {α β:Type} (p:α→Bool) (f:α→β) (l:List α) (o:List β):l.foldl (fun o x=>if p x=true then o++ [f x]else o) o=o++(l.filter p).map f:=by
 induction l generalizing o with
 |nil=>simp
 |cons x l ih=>
  rw [List.foldl_cons,ih,List.filter_cons]
  cases p x<;>simp
def rows (t:zab) (l:List zaa):List zdC:=(l.filter (zeN t)).map zin
theorem zB5 {t:zab} {l:List zaa} (ht:t.fName.length≤2000000) (hl:l.length≤2000000) (h: ∀w∈l,zo6 w):zj0 t l=some (rows t l):=by
 have h1:=zb0 (xs:=l) (body:=fun s:List zdC × Int=>zdo t l s.1 s.2) (fun i (o:List zdC)=>(o,i)) (fun o w=>if zeN t w=true then o++ [zin w]else o) (fun o=>some o) (fun i o=>o.length≤i)
  (fun i hi o hI=>by
   have hI:o.length≤i:=hI
   obtain⟨r,e,hr⟩:=zDH ht (h _ (List.getElem_mem hi))
   have hw:=zaE hi (by omega:l.length≤_)
   refine⟨?_,by
    show List.length (if zeN t l[i]=true then o++ [zin l[i]]else o)≤i+1
    split
    ·rw [List.length_append,List.length_singleton];omega
    ·omega⟩
   show zdo t l o i=_
   unfold zdo
   rw [if_pos (by simpa using hi),zac hi,Option.bind_some,e,Option.bind_some,hw]
   cases hb:zeN t l[i]with
   |false=>rfl
   |true=>
    have hq:((o.length:Int)+(([r]:List zdC).length:Int))*24≤140737488355328∧(o.length:Int)+(([r]:List zdC).length:Int)≤140737488355328:=by
     rw [List.length_singleton];omega
    rw [if_pos rfl,zae hq,if_pos rfl,hr hb])
  (fun o _=>by
   show zdo t l o l.length=_
   unfold zdo
   rw [if_neg (by simp)]) (s:= []) (by simp)
 rw [zjm]at h1
 exact h1.1
theorem zBH {t:zab} {l:List zaa} (ht:t.fName.length=1) (hl:l.length≤2000000) (h: ∀w∈l,zo6 w):zft t l=some (rows t l):=by
 have h1:=zb0 (xs:=l) (body:=fun s:Int × List zdC=>zbj t l s.1 s.2) (fun i (o:List zdC)=>(i,o)) (fun o w=>if zeN t w=true then o++ [zin w]else o) (fun o=>some o) (fun i o=>o.length≤i)
  (fun i hi o hI=>by
   have hI:o.length≤i:=hI
   obtain⟨r,e,hr⟩:=zEm ht (h _ (List.getElem_mem hi))
   have hw:=zaE hi (by omega:l.length≤_)
   refine⟨?_,by
    show List.length (if zeN t l[i]=true then o++ [zin l[i]]else o)≤i+1
    split
    ·rw [List.length_append,List.length_singleton];omega
    ·omega⟩
   show zbj t l i o=_
   unfold zbj
   rw [if_pos (by simpa using hi),zac hi,Option.bind_some,e,Option.bind_some,hw]
   cases hb:zeN t l[i]with
   |false=>rfl
   |true=>
    have hq:((o.length:Int)+(([r]:List zdC).length:Int))*24≤140737488355328∧(o.length:Int)+(([r]:List zdC).length:Int)≤140737488355328:=by
     rw [List.length_singleton];omega
    rw [if_pos rfl,zae hq,if_pos rfl,hr hb])
  (fun o _=>by
   show zbj t l l.length o=_
   unfold zbj
   rw [if_neg (by simp)]) (s:= []) (by simp)
 rw [zjm]at h1
 exact h1.1
def head (t:zab) (n:Str):Str:=t.fName++ [46]++n
def zgn (t:zab) (n:Str) (k:Str):Bool:=match zbB 47 k with
 | [x,y,z]=>x==head t n&&field y&&field z
 |_=>false
theorem zBw {t:zab} {n k:Str} (ht:t.fName.length≤2000000) (hn:n.length≤2000000) (hk:k.length≤1000000): ∃a b,zeK t n k=some (a,b,zgn t n k):=by
 have hsm:=zwL (c:=47) hk
 have he:zd6 k 47=some (zbB 47 k):=zxx (c:=47) (by omega)
 unfold zeK zgn
 rw [he,Option.bind_some]
 generalize zbB 47 k=ps at hsm
 match ps,hsm with
 | [],_=>exact⟨_,_,by rw [if_pos (by simp)]⟩
 | [_],_=>exact⟨_,_,by rw [if_pos (by simp)]⟩
 | [_,_],_=>exact⟨_,_,by rw [if_pos (by simp)]⟩
 |_::_::_::_::l,_=>exact⟨_,_,by rw [if_pos (by simp;omega)]⟩
 | [x,y,z],hsm=>
  have hy:=hsm.each y (by simp)
  have hz:=hsm.each z (by simp)
  dsimp only
  rw [if_neg (by simp),show zaA [x,y,z] 0=some x from rfl,Option.bind_some,zae (by rw [List.length_singleton];omega),zae (by rw [List.length_append,List.length_singleton];omega)]
  rw [show(t.fName++ [46]++n)=head t n from rfl]
  by_cases hx:x=head t n
  ·rw [if_neg (by simp [hx]),show zaA [x,y,z] 1=some y from rfl,Option.bind_some,zuF hy,Option.bind_some]
   have hx2:(x==head t n)=true:=by simpa using hx
   rw [hx2]
   cases field y with
   |false=>exact⟨_,_,by rw [if_neg (by simp)];rfl⟩
   |true=>
    rw [if_pos rfl,show zaA [x,y,z] 2=some z from rfl,Option.bind_some,zuF hz,Option.bind_some]
    cases field z with
    |false=>exact⟨_,_,by rw [if_pos (by simp)];rfl⟩
    |true=>exact⟨_,_,by rw [if_neg (by simp)];rfl⟩
  ·have hx2:(x==head t n)=false:=by simpa using hx
   rw [hx2]
   exact⟨_,_,by rw [if_pos (by simpa [bne]using hx2)];rfl⟩
end Go.Proofs.YtfkblfjloegahaaGreatDoor
end
section
namespace Go.Proofs.YtfkblfjloegahaaGreatDoor
open Go.RowKit
set_option maxRecDepth 100000
theorem zyo {c:UInt8} {s x y:Str} {r:List Str} (h:zbB c s=x::y::r): ∃q,s=x++c::q:=by
 rcases zg8 s c with⟨_,h0⟩|⟨p,q,rfl,hp,_⟩
 ·rw [zhn h0]at h;simp at h
 ·rw [zjz hp]at h
  obtain⟨rfl,_⟩:=List.cons.inj h
  exact⟨q,rfl⟩
theorem zC7 {x:Str} {c:UInt8} (hx:x.length≤2000000):(zfD x [c]=some (x, [],false)∧ ∀b∈x,b≠c)∨ ∃p q,x=p++c::q∧(∀b∈p,b≠c)∧zfD x [c]=some (p,q,true):=by
 have hi:zaX x [c]=some (Lib.indexByte x c):=rfl
 rcases zg8 x c with⟨e,h0⟩|⟨p,q,rfl,hp,e⟩
 ·refine .inl ⟨?_,h0⟩
  unfold zfD zcn
  rw [hi,Option.bind_some,e,if_neg (by simp)]
  rfl
 ·refine .inr ⟨p,q,rfl,hp, ?_⟩
  rw [List.length_append,List.length_cons]at hx
  have hw:IntKind.i64.wrap ((p.length:Int)+(([c]:Str).length:Int))=((p.length+1:Nat):Int):=by rw [List.length_singleton,zaC (by omega) (by omega)];omega
  unfold zfD zcn
  rw [hi,Option.bind_some,e,if_pos (by simp),zae (by rw [List.length_append,List.length_cons];omega),hw,zae (by rw [List.length_append,List.length_cons];omega),zDG,zD5,List.take_length]
  have e1:(p++c::q).drop (p.length+1)=q:=by simp
  have e2:(p++c::q).take p.length=p:=by simp
  rw [e1,e2]
  rfl
theorem zCs {s:Str} (h:(47:UInt8)∈s):field s=false:=by
 unfold field zjx
 have:(s.all fun b=>zf1 b||([]:Str).contains b)=false:=by
  rw [List.all_eq_false]
  exact⟨47,h,by decide⟩
 rw [this,Bool.and_false]
theorem zz1 {t:zab} {n:Str} (ht:t.fName.length≤2000000) (hn:n.length≤2000000):zcp t n=some (head t n++ [47]):=by
 unfold zcp head
 rw [zae (by rw [List.length_singleton];omega),zae (by rw [List.length_append,List.length_singleton];omega),zae (by rw [List.length_append,List.length_append,List.length_singleton,List.length_singleton];omega)]
theorem zBT {t:zab} {n k:Str} (ht:t.fName.length≤2000000) (hn:n.length≤2000000) (hk:k.length≤1000000) (hh: ∀b∈head t n,b≠47): ∃a b,zcA t n k=some (a,b,zgn t n k):=by
 unfold zcA
 rw [zz1 ht hn,Option.bind_some,zFt (by omega),Option.bind_some]
 cases hp:(head t n++ [47]).isPrefixOf k with
 |false=>
  have hno:zgn t n k=false:=by
   unfold zgn
   split
   ·rename_i x y z hs
    cases hx:x==head t n with
    |false=>simp
    |true=>
     obtain⟨q,hq⟩:=zyo hs
     rw [←Bool.not_eq_true,List.isPrefixOf_iff_prefix]at hp
     refine absurd ⟨q, ?_⟩ hp
     rw [hq,(by simpa using hx:x=head t n)]
     simp
   ·rfl
  rw [hno]
  simp only [Bool.false_eq_true,if_false]
  rcases zC7 (x:=k) (c:=47) (by omega)with⟨e,_⟩|⟨p,q,_,_,e⟩
  ·rw [e];exact⟨_,_,rfl⟩
  ·rw [e];exact⟨_,_,rfl⟩
 |true=>
  obtain⟨rest,hrest⟩:=List.isPrefixOf_iff_prefix.1 hp
  have hk2:k=head t n++47::rest:=by rw [←hrest];simp
  have hd:k.drop (head t n++ [47]).length=rest:=by rw [←hrest,List.drop_left]
  have hsp:zbB 47 k=head t n::zbB 47 rest:=by rw [hk2,zjz hh]
  have hlen:rest.length≤1000000:=by
   have:k.length=(head t n).length+(rest.length+1):=by rw [hk2,List.length_append,List.length_cons]
   omega
  simp only [if_true,hd]
  unfold zgn
  rw [hsp]
  rcases zC7 (x:=rest) (c:=47) (by omega)with⟨e,h0⟩|⟨p,q,rfl,hp2,e⟩
  ·rw [e,zhn h0]
   exact⟨_,_,rfl⟩
  ·rw [e,zjz hp2,Option.bind_some]
   rw [List.length_append,List.length_cons]at hlen
   simp only [if_true]
   rw [zp7 (s:=p) (by omega),Option.bind_some]
   rcases zg8 q 47 with⟨_,h0⟩|⟨p3,q3,rfl,hp3,_⟩
   ·rw [zhn h0]
    dsimp only
    rw [beq_self_eq_true,Bool.true_and]
    cases field p with
    |false=>exact⟨_,_,rfl⟩
    |true=>
     rw [if_pos rfl,zp7 (s:=q) (by omega),Option.bind_some]
     cases field q with
     |false=>exact⟨_,_,rfl⟩
     |true=>exact⟨_,_,rfl⟩
   ·have hf:field (p3++47::q3)=false:=zCs (by simp)
    rw [zjz hp3]
    cases hq:zbB 47 q3 with
    |nil=>exact absurd hq (zqo _ _)
    |cons x xs=>
     dsimp only
     cases field p with
     |false=>exact⟨_,_,rfl⟩
     |true=>
      rw [if_pos rfl,zp7 (by rw [List.length_append,List.length_cons]at hlen ⊢;omega),Option.bind_some,hf]
      exact⟨_,_,rfl⟩
end Go.Proofs.YtfkblfjloegahaaGreatDoor
end
section
namespace Go.Proofs.YtfkblfjloegahaaGreatDoor
open Go.RowKit
set_option maxRecDepth 100000
def ziH (t:zab) (n:Str) (l:List zaa):List Str:=(l.filter fun w=>zgn t n w.fKey).map (·.fKey)
theorem zyx {t:zab} {n:Str} {l:List zaa} (ht:t.fName.length≤2000000) (hn:n.length≤2000000) (hl:l.length≤2000000) (h: ∀w∈l,zo6 w):zep t n l=some (ziH t n l):=by
 have h1:=zb0 (xs:=l) (body:=fun s:List Str × Int=>zci t n l s.1 s.2) (fun i (o:List Str)=>(o,i)) (fun o w=>if zgn t n w.fKey=true then o++ [w.fKey]else o) (fun o=>some o) (fun i o=>o.length≤i)
  (fun i hi o hI=>by
   have hI:o.length≤i:=hI
   have htw:=h _ (List.getElem_mem hi)
   obtain⟨a,b,e⟩:=zBw (t:=t) (n:=n) (k:=l[i].fKey) ht hn (by have:=htw.1;omega)
   have hw:=zaE hi (by omega:l.length≤_)
   refine⟨?_,by
    show List.length (if zgn t n l[i].fKey=true then o++ [l[i].fKey]else o)≤i+1
    split
    ·rw [List.length_append,List.length_singleton];omega
    ·omega⟩
   show zci t n l o i=_
   unfold zci
   rw [if_pos (by simpa using hi),zac hi,Option.bind_some,e,Option.bind_some,hw]
   cases hb:zgn t n l[i].fKey with
   |false=>rfl
   |true=>
    have hq:((o.length:Int)+(([l[i].fKey]:List Str).length:Int))*16≤140737488355328∧(o.length:Int)+(([l[i].fKey]:List Str).length:Int)≤140737488355328:=by
     rw [List.length_singleton];omega
    rw [if_pos rfl,zae hq,if_pos rfl])
  (fun o _=>by
   show zci t n l o l.length=_
   unfold zci
   rw [if_neg (by simp)]) (s:= []) (by simp)
 rw [zjm (fun w:zaa=>zgn t n w.fKey) (fun w=>w.fKey)]at h1
 exact h1.1
theorem zyr {t:zab} {n:Str} {l:List zaa} (ht:t.fName.length≤2000000) (hn:n.length≤2000000) (hh: ∀b∈head t n,b≠47) (hl:l.length≤2000000) (h: ∀w∈l,zo6 w):zb5 t n l=some (ziH t n l):=by
 have h1:=zb0 (xs:=l) (body:=fun s:Int × List Str=>za3 t n l s.1 s.2) (fun i (o:List Str)=>(i,o)) (fun o w=>if zgn t n w.fKey=true then o++ [w.fKey]else o) (fun o=>some o) (fun i o=>o.length≤i)
  (fun i hi o hI=>by
   have hI:o.length≤i:=hI
   have htw:=h _ (List.getElem_mem hi)
   obtain⟨a,b,e⟩:=zBT (t:=t) (n:=n) (k:=l[i].fKey) ht hn (by have:=htw.1;omega) hh
   have hw:=zaE hi (by omega:l.length≤_)
   refine⟨?_,by
    show List.length (if zgn t n l[i].fKey=true then o++ [l[i].fKey]else o)≤i+1
    split
    ·rw [List.length_append,List.length_singleton];omega
    ·omega⟩
   show za3 t n l i o=_
   unfold za3
   rw [if_pos (by simpa using hi),zac hi,Option.bind_some,e,Option.bind_some,hw]
   cases hb:zgn t n l[i].fKey with
   |false=>rfl
   |true=>
    have hq:((o.length:Int)+(([l[i].fKey]:List Str).length:Int))*16≤140737488355328∧(o.length:Int)+(([l[i].fKey]:List Str).length:Int)≤140737488355328:=by
     rw [List.length_singleton];omega
    rw [if_pos rfl,zae hq,if_pos rfl])
  (fun o _=>by
   show za3 t n l l.length o=_
   unfold za3
   rw [if_neg (by simp)]) (s:= []) (by simp)
 rw [zjm (fun w:zaa=>zgn t n w.fKey) (fun w=>w.fKey)]at h1
 exact h1.1
def zFr (a b:List Str):List Str:=a.filter fun k=> !b.contains k
theorem zAP {a b:List Str} (ha:a.length≤2000000) (hb:b.length≤2000000):zh2 a b=some (zFr a b):=by
 have h1:=zb0 (xs:=a) (body:=fun s:List Str × Int=>zdq a b s.1 s.2) (fun i (o:List Str)=>(o,i)) (fun o k=>if(!b.contains k)=true then o++ [k]else o) (fun o=>some o) (fun i o=>o.length≤i)
  (fun i hi o hI=>by
   have hI:o.length≤i:=hI
   have hw:=zaE hi (by omega:a.length≤_)
   have hx:decide (zix (fun x=>x==a[i]) b<0)= !b.contains a[i]:=by
    rw [←zAG,←zmg,←decide_not]
    rw [decide_eq_decide];omega
   refine⟨?_,by
    show List.length (if(!b.contains a[i])=true then o++ [a[i]]else o)≤i+1
    split
    ·rw [List.length_append,List.length_singleton];omega
    ·omega⟩
   show zdq a b o i=_
   unfold zdq
   rw [if_pos (by simpa using hi),zac hi,Option.bind_some,zES hb,Option.bind_some,hw,hx]
   cases hc:b.contains a[i]with
   |true=>rfl
   |false=>
    have hq:((o.length:Int)+(([a[i]]:List Str).length:Int))*16≤140737488355328∧(o.length:Int)+(([a[i]]:List Str).length:Int)≤140737488355328:=by
     rw [List.length_singleton];omega
    rw [if_pos (by rfl),zae hq,if_pos (by rfl)])
  (fun o _=>by
   show zdq a b o a.length=_
   unfold zdq
   rw [if_neg (by simp)]) (s:= []) (by simp)
 rw [zjm (fun k:Str=> !b.contains k) (fun k=>k)]at h1
 have h2:=h1.1
 rw [List.nil_append,List.map_id']at h2
 exact h2
theorem zzV {a b:List Str} (ha:a.length≤2000000) (hb:b.length≤2000000):zf0 a b=some (zFr a b):=by
 unfold zf0 za0 zfs
 rw [zmw (by omega) (by omega),Option.bind_some,zae (by omega),zoK (fun k=>b.contains k) (fun k _=>by simp only [ziP,zCL hb,Option.bind_some])]
 rfl
end Go.Proofs.YtfkblfjloegahaaGreatDoor
end
section
namespace Go.Proofs.YtfkblfjloegahaaGreatDoor
open Go.RowKit
set_option maxRecDepth 100000
structure zig (t:zab) (n:Str) (x:zbK):Prop where
 at_:zaA t.fIdxs (zix (fun y:zbK=>y.fName==n) t.fIdxs)=some x
 name:x.fName=n
 c0:1≤x.fCol
 c1:x.fCol≤(t.fCols.length:Int)-1
def zkr (r:zdC) (c:Int):Str:=(r.fVals[c.toNat]?).getD []
def zlw (t:zab) (n:Str) (c:Int) (r:zdC):Str:=head t n++ [47]++zkr r c++ [47]++zkr r 0
structure zuS (t:zab) (r:zdC):Prop where
 len:r.fVals.length=t.fCols.length
 small:Small r.fVals
theorem zAi {t:zab} {l:List zaa} (h: ∀w∈l,zo6 w): ∀r∈rows t l,zuS t r:=by
 intro r hr
 obtain⟨w,hw,rfl⟩:=List.mem_map.1 hr
 obtain⟨h1,h2⟩:=List.mem_filter.1 hw
 have h3:zeN t w=true:=h2
 unfold zeN zbD at h3
 simp only [Bool.and_eq_true,beq_iff_eq]at h3
 exact⟨by have:=h3.1.1;omega,zni (h w h1)⟩
theorem zqK {t:zab} {r:zdC} (hr:zuS t r) {c:Int} (h0:0≤c) (h1:c≤(t.fCols.length:Int)-1):zaA r.fVals c=some (zkr r c)∧(zkr r c).length≤2000000:=by
 obtain⟨y,e,hm,e2⟩:=zo3 (xs:=r.fVals) h0 (by have:=hr.len;omega)
 have hv:zkr r c=y:=by simp [zkr,e2]
 rw [hv]
 exact⟨e,hr.small.each y hm⟩
theorem zul {t:zab} {n:Str} {x:zbK} {r:zdC} (ht:t.fName.length≤2000000) (hn:n.length≤2000000) (hx:zig t n x) (hr:zuS t r):zes t x r=some (zlw t n x.fCol r):=by
 obtain⟨g1,l1⟩:=zqK hr (c:=x.fCol) (by have:=hx.c0;omega) hx.c1
 obtain⟨g2,l2⟩:=zqK hr (c:=0) (by omega) (by have:=hx.c0;have:=hx.c1;omega)
 have e:=hx.name
 subst e
 unfold zes zlw
 rw [zae (by simp only [head,List.length_append,List.length_cons,List.length_nil];omega),zae (by simp only [head,List.length_append,List.length_cons,List.length_nil];omega),zae (by simp only [head,List.length_append,List.length_cons,List.length_nil];omega),g1,Option.bind_some,
  zae (by simp only [head,List.length_append,List.length_cons,List.length_nil];omega),zae (by simp only [head,List.length_append,List.length_cons,List.length_nil];omega),g2,Option.bind_some,
  zae (by simp only [head,List.length_append,List.length_cons,List.length_nil];omega)]
 rfl
theorem zuu {t:zab} {n:Str} {x:zbK} {r:zdC} (hS:zc9 t) (hn:n.length≤2000000) (hx:zig t n x) (hr:zuS t r):za6 t n r=some (zlw t n x.fCol r):=by
 obtain⟨g1,l1⟩:=zqK hr (c:=x.fCol) (by have:=hx.c0;omega) hx.c1
 obtain⟨g2,l2⟩:=zqK hr (c:=0) (by omega) (by have:=hx.c0;have:=hx.c1;omega)
 have ht:=hS.name
 have hi:zbF t n=some x:=by
  unfold zbF
  rw [zvf hS,Option.bind_some,hx.at_];rfl
 unfold za6 zlw
 rw [zz1 ht hn,Option.bind_some,hi,Option.bind_some,g1,Option.bind_some,zae (by simp only [head,List.length_append,List.length_cons,List.length_nil];omega),zae (by simp only [head,List.length_append,List.length_cons,List.length_nil];omega),g2,Option.bind_some,zae (by simp only [head,List.length_append,List.length_cons,List.length_nil];omega)]
def wanted (t:zab) (n:Str) (x:zbK) (l:List zaa):List Str:=(rows t l).map (zlw t n x.fCol)
theorem zuL (t:zab) (l:List zaa):(rows t l).length≤l.length:=by
 unfold rows
 rw [List.length_map]
 exact List.length_filter_le _ _
theorem zzz {t:zab} {n:Str} {x:zbK} {l:List zaa} (hS:zc9 t) (hn:n.length≤2000000) (hx:zig t n x) (hl:l.length≤2000000) (h: ∀w∈l,zo6 w):zeV t n l=some (wanted t n x l):=by
 have hin:=zAi (t:=t) h
 have hrl:=zuL t l
 unfold zeV
 rw [zB5 hS.name hl h,Option.bind_some]
 have h1:=zb0 (xs:=rows t l) (body:=fun s:List Str × Int=>zcy t n (rows t l) s.1 s.2) (fun i (o:List Str)=>(o,i)) (fun o r=>o++ [zlw t n x.fCol r]) (fun o=>some o) (fun i o=>o.length=i)
  (fun i hi o hI=>by
   have hI:o.length=i:=hI
   have hw:=zaE hi (by omega)
   refine⟨?_,by show List.length _=_;rw [List.length_append,List.length_singleton];omega⟩
   show zcy t n (rows t l) o i=_
   unfold zcy
   have hq:((o.length:Int)+(([zlw t n x.fCol (rows t l)[i]]:List Str).length:Int))*16≤140737488355328∧(o.length:Int)+(([zlw t n x.fCol (rows t l)[i]]:List Str).length:Int)≤140737488355328:=by
    rw [List.length_singleton];omega
   rw [if_pos (by simpa using hi),zac hi,Option.bind_some,zq2 hS,Option.bind_some,hx.at_,Option.bind_some,zul hS.name hn hx (hin _ (List.getElem_mem hi)),Option.bind_some,zae hq,hw])
  (fun o _=>by
   show zcy t n (rows t l) o (rows t l).length=_
   unfold zcy
   rw [if_neg (by simp)]) (s:= []) rfl
 rw [zoq]at h1
 exact h1.1
theorem zzO {t:zab} {n:Str} {x:zbK} {l:List zaa} (hS:zc9 t) (ht:t.fName.length=1) (hn:n.length≤2000000) (hx:zig t n x) (hl:l.length≤2000000) (h: ∀w∈l,zo6 w):zcE t n l=some (wanted t n x l):=by
 have hin:=zAi (t:=t) h
 have hrl:=zuL t l
 unfold zcE
 rw [zBH ht hl h,Option.bind_some]
 have h1:=zb0 (xs:=rows t l) (body:=fun s:Int × List Str=>zbk t n (rows t l) s.1 s.2) (fun i (o:List Str)=>(i,o)) (fun o r=>o++ [zlw t n x.fCol r]) (fun o=>some o) (fun i o=>o.length=i)
  (fun i hi o hI=>by
   have hI:o.length=i:=hI
   have hw:=zaE hi (by omega)
   refine⟨?_,by show List.length _=_;rw [List.length_append,List.length_singleton];omega⟩
   show zbk t n (rows t l) i o=_
   unfold zbk
   have hq:((o.length:Int)+(([zlw t n x.fCol (rows t l)[i]]:List Str).length:Int))*16≤140737488355328∧(o.length:Int)+(([zlw t n x.fCol (rows t l)[i]]:List Str).length:Int)≤140737488355328:=by
    rw [List.length_singleton];omega
   rw [if_pos (by simpa using hi),zac hi,Option.bind_some,zuu hS hn hx (hin _ (List.getElem_mem hi)),Option.bind_some,zae hq,hw])
  (fun o _=>by
   show zbk t n (rows t l) (rows t l).length o=_
   unfold zbk
   rw [if_neg (by simp)]) (s:= []) rfl
 rw [zoq]at h1
 exact h1.1
end Go.Proofs.YtfkblfjloegahaaGreatDoor
end

/- Parts of a proof, joined: QE, QT, TF, QF1, QF2, QF3, QF4, QF5, QR, N5, N6, N7, N8, N9, N10, N11, N12, N13, N14, N15, N16, N17. -/
import Derived.Test.YtgobcjbjogkpjaaGreatDoorU8
section
namespace Go.Proofs.YtgobcjbjogkpjaaGreatDoor
open Go.RowKit
set_option maxRecDepth 100000
theorem zce {α:Type} {xs:List α} {i:Nat} {x:α} (h:xs[i]?=some x):zay xs (i:Int)=some x:=by simp [zay,h]
noncomputable def mt (n:Int):List UInt8:=(zaE n).getD []
theorem zeS {n:Int} (h:n≤4611686018427387904):zaE n=some (mt n):=by
 have key: ∃t,zaE n=some t:=by
  unfold zaE
  by_cases h0:n≤0
  ·rw [if_pos (by simpa using h0)];exact⟨_,rfl⟩
  ·rw [if_neg (by simpa using h0)]
   have go: ∀(f:Nat) (n:Int) (s:List UInt8),n.toNat≤f→0≤n→n+s.length≤4611686018427387905→ ∃t,zal (fun s:Int × List UInt8=>zbs s.1 s.2) (n,s)=some t:=by
    intro f
    have stop: ∀(n:Int) (s:List UInt8),¬n>0→s.length≤4611686018427387905→zal (fun s:Int × List UInt8=>zbs s.1 s.2) (n,s)=some ([109]++s):=fun n s hz hs=>by
     refine zbR (?_:zbs n s=_)
     unfold zbs
     rw [if_neg (by simpa using hz)]
     unfold zjn
     rw [zad (by rw [List.length_singleton];omega)]
    induction f with
    |zero=>
     intro n s hf hn hs
     exact⟨_,stop n s (by omega) (by omega)⟩
    |succ f ih=>
     intro n s hf hn hs
     by_cases hz:n>0
     ·have hd:Int.tdiv n 10<n∧0≤Int.tdiv n 10:=by
       rw [Int.tdiv_eq_ediv_of_nonneg hn];omega
      obtain⟨t,ht⟩:=ih (Int.tdiv n 10) ([(IntKind.u8.wrap (IntKind.i64.wrap ((48:Int)+(Int.tmod n 10))))].map (fun n=>UInt8.ofNat n.toNat)++s) (by omega) (by omega) (by simp only [List.length_append,List.length_map,List.length_singleton];omega)
      have e:zbs n s=some (.inl (Int.tdiv n 10, [(IntKind.u8.wrap (IntKind.i64.wrap ((48:Int)+(Int.tmod n 10))))].map (fun n=>UInt8.ofNat n.toNat)++s)):=by
       unfold zbs
       rw [if_pos (by simpa using hz),zad (by simp),zad (by rw [List.length_map,List.length_singleton];omega),zaC (n:=Int.tdiv n 10) (by omega) (by omega)]
      exact⟨t,(zcf (body:=fun s:Int × List UInt8=>zbs s.1 s.2) e).trans ht⟩
     ·exact⟨_,stop n s hz (by omega)⟩
   exact go n.toNat n [] (Nat.le_refl _) (by omega) (by simp;omega)
 obtain⟨t,ht⟩:=key
 rw [mt,ht];rfl
def za2 (l:List (List UInt8)):Nat:=l.length+(l.map (fun x:List UInt8=>x.length)).sum
theorem zsi {xs:List (List UInt8)} (h:za2 xs≤2000000):zeG xs=some xs:=by
 have hl:xs.length≤2000000:=by unfold za2 at h;omega
 have hx: ∀x∈xs,x.length≤2000000:=fun x hx=>by have:=zeu (tot:=(fun x:List UInt8=>x.length)) hx;unfold za2 at h;omega
 unfold zeG
 rw [zad (by omega)]
 exact zsw (fun i hi v hv=>by
  show zdj xs i v=_
  unfold zdj
  rw [if_pos (by simpa using hi),zac hi,Option.bind_some,zac (by omega),Option.bind_some,zaN hi (by omega)];rfl) (fun v=>by
  show zdj xs _ v=_
  unfold zdj
  rw [if_neg (by simp)])
theorem zsA {xs:List (List UInt8)} (h:za2 xs≤2000000):zeE xs xs=some true:=by
 have hl:xs.length≤2000000:=by unfold za2 at h;omega
 have hx: ∀x∈xs,x.length≤2000000:=fun x hx=>by have:=zeu (tot:=(fun x:List UInt8=>x.length)) hx;unfold za2 at h;omega
 unfold zeE
 rw [if_neg (by simp)]
 exact zrg (n:=xs.length) (fun i hi=>by
  show zdh xs xs i=_
  unfold zdh
  rw [if_pos (by simpa using hi),zac hi,Option.bind_some,Option.bind_some,if_neg (by simp),zaN hi (by omega)]) (by
  show zdh xs xs _=_
  unfold zdh
  rw [if_neg (by simp)])
theorem zsq {xs:List (List UInt8)} {a:Int} (h0:0≤a) (h1:a≤1048576) (h:(okL zq8) xs): ∃v,zex xs a=some v∧v≤a∧(0≤v→(za2 xs:Int)=a-v):=by
 have hl:xs.length≤9223372036854775807:=h.1
 unfold zex za2
 rw [zfG h0 h1 hl]
 by_cases h2:a-(xs.length:Int)<0
 ·rw [if_pos (by simpa using h2)];exact⟨-1,rfl,by omega,by omega⟩
 ·rw [if_neg (by simpa using h2)]
  obtain⟨v,e1,e2,e3⟩:=szL (xs:=xs) (body:=fun s:Int × Int=>zcp xs s.1 s.2) (fun x:List UInt8=>x.length) (a:=a-xs.length) (by omega) (by omega) (fun x hx b hb0 hb1=>by
   refine⟨b-(x.length:Int),by omega,fun _=>by show(x.length:Int)=_;omega,fun i hi=> ?_⟩
   have hi':=(List.getElem?_eq_some_iff.1 hi).1
   show zcp xs b i=_
   unfold zcp
   rw [if_pos (by simpa using hi'),zce hi,Option.bind_some,zfG hb0 hb1 (h.2 _ hx),zaN hi' (by omega)]
   by_cases h3:b-(x.length:Int)<0
   ·rw [if_pos (by simpa using h3),if_pos h3]
   ·rw [if_neg (by simpa using h3),if_neg h3]) (fun b=>by
   show zcp xs b _=_
   unfold zcp
   rw [if_neg (by simp)])
  exact⟨v,e1,by omega,fun hv=>by have:=e3 hv;omega⟩
def zaL (l:List (List UInt8)):Nat:=(l.map fun x=>1).sum
theorem zkH (l:List (List UInt8)):zaL l≤64*za2 l:=by
 unfold zaL za2
 rw [zk7];omega
set_option maxHeartbeats 1000000 in
theorem zlC {xs:List (List UInt8)} {k:Int} (h0:0≤k) (hk:k+(zaL xs:Nat)≤4611686018427387904) (h:za2 xs≤2000000): ∃ys,ys.length=xs.length∧zdC xs k=some (k+(zaL xs:Nat),ys)∧zgA ys k=some (k+(zaL xs:Nat)):=by
 have hl:xs.length≤2000000:=by unfold za2 at h;omega
 refine zn8 (cnt:=fun x:(List UInt8)=>1) (mb:=fun s:Int × Int × List (List UInt8)=>zbL s.1 s.2.1 s.2.2) (hb:=fun ys s=>zbQ ys s.1 s.2) 4611686018427387904 h0 hk (fun x hx k h0 hB=> ?_) (fun k v hv=> ?_) (fun k ys hy=> ?_)
 ·have hB:k+((1:Nat):Int)≤4611686018427387904:=hB
  have fin:k+1=k+(((1:Nat)):Int):=by omega
  refine⟨?y,fun i v hv hi=> ?_,fun i ys hy hi=> ?_⟩
  rotate_left
  ·have hi':=(List.getElem?_eq_some_iff.1 hv).1
   show zbL k i v=_
   unfold zbL
   rw [if_pos (by simpa using hi')]
   simp only [zce hv,zaN hi (by omega:xs.length≤_),Int.toNat_natCast,List.set_set,Option.bind_some,(show IntKind.i64.wrap (k+1)=k+1 from zaC (by omega) (by omega)),zeS (n:=k) (by omega)]
   rw [fin]
  ·have hi':=(List.getElem?_eq_some_iff.1 hy).1
   show zbQ ys k i=_
   unfold zbQ
   rw [if_pos (by simpa using hi')]
   simp only [zce hy,zaN hi (by omega:xs.length≤_),bne_self_eq_false,Bool.false_eq_true,if_false,Option.bind_some,(show IntKind.i64.wrap (k+1)=k+1 from zaC (by omega) (by omega)),zeS (n:=k) (by omega)]
   rw [fin]
 ·show zbL k _ v=_
  unfold zbL
  rw [if_neg (by simp [hv])]
 ·show zbQ ys k _=_
  unfold zbQ
  rw [if_neg (by simp [hy])]
def zif (x:zbB):Nat:=x.fName.length
theorem zEB {x:zbB} (h:zif x≤2000000):zla x=some x:=rfl
theorem zD9 {x:zbB} (h:zif x≤2000000):zjo x x=some true:=by
 unfold zjo
 simp []
theorem zEC {x:zbB} {a:Int} (h0:0≤a) (h1:a≤1048576) (h:zzD x): ∃v,zjs x a=some v∧v≤a∧(0≤v→(zif x:Int)=a-v):=by
 unfold zjs zif
 rw [zfG (a:=a) (by omega) (by omega) h.1]
 by_cases q0:a-(x.fName.length:Int)<0
 ·rw [if_pos (by simpa using q0)];exact⟨-1,rfl,by omega,by omega⟩
 rw [if_neg (by simpa using q0)]
 exact⟨(a-(x.fName.length:Int)),rfl,by omega,fun _=>by omega⟩
def zen (l:List zbB):Nat:=l.length+(l.map zif).sum
theorem zCZ {xs:List zbB} (h:zen xs≤2000000):zix xs=some xs:=by
 have hl:xs.length≤2000000:=by unfold zen at h;omega
 have hx: ∀x∈xs,zif x≤2000000:=fun x hx=>by have:=zeu (tot:=zif) hx;unfold zen at h;omega
 unfold zix
 rw [zad (by omega)]
 exact zsw (fun i hi v hv=>by
  show zeL xs i v=_
  unfold zeL
  rw [if_pos (by simpa using hi),zac hi,Option.bind_some,zEB (hx _ (List.getElem_mem hi)),Option.bind_some,zac (by omega),Option.bind_some,zaN hi (by omega)];rfl) (fun v=>by
  show zeL xs _ v=_
  unfold zeL
  rw [if_neg (by simp)])
theorem zDK {xs:List zbB} (h:zen xs≤2000000):ziK xs xs=some true:=by
 have hl:xs.length≤2000000:=by unfold zen at h;omega
 have hx: ∀x∈xs,zif x≤2000000:=fun x hx=>by have:=zeu (tot:=zif) hx;unfold zen at h;omega
 unfold ziK
 rw [if_neg (by simp)]
 exact zrg (n:=xs.length) (fun i hi=>by
  show zeC xs xs i=_
  unfold zeC
  rw [if_pos (by simpa using hi),zac hi,Option.bind_some,Option.bind_some,zD9 (hx _ (List.getElem_mem hi)),Option.bind_some,if_neg (by simp),zaN hi (by omega)]) (by
  show zeC xs xs _=_
  unfold zeC
  rw [if_neg (by simp)])
theorem zCJ {xs:List zbB} {a:Int} (h0:0≤a) (h1:a≤1048576) (h:(okL zzD) xs): ∃v,ziw xs a=some v∧v≤a∧(0≤v→(zen xs:Int)=a-v):=by
 have hl:xs.length≤9223372036854775807:=h.1
 unfold ziw zen
 rw [zfG h0 h1 hl]
 by_cases h2:a-(xs.length:Int)<0
 ·rw [if_pos (by simpa using h2)];exact⟨-1,rfl,by omega,by omega⟩
 ·rw [if_neg (by simpa using h2)]
  obtain⟨v,e1,e2,e3⟩:=szL (xs:=xs) (body:=fun s:Int × Int=>zdw xs s.1 s.2) zif (a:=a-xs.length) (by omega) (by omega) (fun x hx b hb0 hb1=>by
   obtain⟨r,e1,e2,e3⟩:=zEC (x:=x) hb0 hb1 (h.2 _ hx)
   refine⟨r,e2,e3,fun i hi=> ?_⟩
   have hi':=(List.getElem?_eq_some_iff.1 hi).1
   show zdw xs b i=_
   unfold zdw
   rw [if_pos (by simpa using hi'),zce hi,Option.bind_some,e1,Option.bind_some,zaN hi' (by omega)]
   by_cases h3:r<0
   ·rw [if_pos (by simpa using h3),if_pos h3]
   ·rw [if_neg (by simpa using h3),if_neg h3]) (fun b=>by
   show zdw xs b _=_
   unfold zdw
   rw [if_neg (by simp)])
  exact⟨v,e1,by omega,fun hv=>by have:=e3 hv;omega⟩
def zhB (l:List zbB):Nat:=(l.map fun x=>3).sum
theorem zxX (l:List zbB):zhB l≤64*zen l:=by
 unfold zhB zen
 rw [zk7];omega
set_option maxHeartbeats 1000000 in
theorem zAt {xs:List zbB} {k:Int} (h0:0≤k) (hk:k+(zhB xs:Nat)≤4611686018427387904) (h:zen xs≤2000000): ∃ys,ys.length=xs.length∧zi7 xs k=some (k+(zhB xs:Nat),ys)∧zjf ys k=some (k+(zhB xs:Nat)):=by
 have hl:xs.length≤2000000:=by unfold zen at h;omega
 refine zn8 (cnt:=fun x:zbB=>3) (mb:=fun s:Int × Int × List zbB=>zcL s.1 s.2.1 s.2.2) (hb:=fun ys s=>zcO ys s.1 s.2) 4611686018427387904 h0 hk (fun x hx k h0 hB=> ?_) (fun k v hv=> ?_) (fun k ys hy=> ?_)
 ·have hB:k+((3:Nat):Int)≤4611686018427387904:=hB
  have fin:k+1+1+1=k+(((3:Nat)):Int):=by omega
  refine⟨?y,fun i v hv hi=> ?_,fun i ys hy hi=> ?_⟩
  rotate_left
  ·have hi':=(List.getElem?_eq_some_iff.1 hv).1
   show zcL k i v=_
   unfold zcL
   rw [if_pos (by simpa using hi')]
   simp only [zce hv,zaN hi (by omega:xs.length≤_),Int.toNat_natCast,List.set_set,Option.bind_some,(show IntKind.i64.wrap (k+1)=k+1 from zaC (by omega) (by omega)),(show IntKind.i64.wrap (k+1+1)=k+1+1 from zaC (by omega) (by omega)),(show IntKind.i64.wrap (k+1+1+1)=k+1+1+1 from zaC (by omega) (by omega)),zeS (n:=k) (by omega)]
   rw [fin]
  ·have hi':=(List.getElem?_eq_some_iff.1 hy).1
   show zcO ys k i=_
   unfold zcO
   rw [if_pos (by simpa using hi')]
   simp only [zce hy,zaN hi (by omega:xs.length≤_),bne_self_eq_false,Bool.false_eq_true,if_false,Option.bind_some,(show IntKind.i64.wrap (k+1)=k+1 from zaC (by omega) (by omega)),(show IntKind.i64.wrap (k+1+1)=k+1+1 from zaC (by omega) (by omega)),(show IntKind.i64.wrap (k+1+1+1)=k+1+1+1 from zaC (by omega) (by omega)),zeS (n:=k) (by omega)]
   rw [fin]
 ·show zcL k _ v=_
  unfold zcL
  rw [if_neg (by simp [hv])]
 ·show zcO ys k _=_
  unfold zcO
  rw [if_neg (by simp [hy])]
def za5 (x:zab):Nat:=x.fName.length+za2 x.fCols+zen x.fIdxs
theorem zBo {x:zab} (h:za5 x≤2000000):zht x=some x:=by
 unfold zht
 simp only [zsi (xs:=x.fCols) (by unfold za5 at h;omega),zCZ (xs:=x.fIdxs) (by unfold za5 at h;omega),Option.bind_some]
theorem zB1 {x:zab} (h:za5 x≤2000000):zhG x x=some true:=by
 unfold zhG
 simp [zsA (xs:=x.fCols) (by unfold za5 at h;omega),zDK (xs:=x.fIdxs) (by unfold za5 at h;omega)]
theorem zBH {x:zab} {a:Int} (h0:0≤a) (h1:a≤1048576) (h:zqj x): ∃v,zhL x a=some v∧v≤a∧(0≤v→(za5 x:Int)=a-v):=by
 unfold zhL za5
 rw [zfG (a:=a) (by omega) (by omega) h.1]
 by_cases q0:a-(x.fName.length:Int)<0
 ·rw [if_pos (by simpa using q0)];exact⟨-1,rfl,by omega,by omega⟩
 rw [if_neg (by simpa using q0)]
 obtain⟨b1,e1,g1,r1⟩:=zsq (xs:=x.fCols) (a:=(a-(x.fName.length:Int))) (by omega) (by omega) h.2.1
 rw [e1,Option.bind_some]
 by_cases q1:b1<0
 ·rw [if_pos (by simpa using q1)];exact⟨-1,rfl,by omega,by omega⟩
 rw [if_neg (by simpa using q1)]
 have s1:=r1 (by omega)
 obtain⟨b2,e2,g2,r2⟩:=zCJ (xs:=x.fIdxs) (a:=b1) (by omega) (by omega) h.2.2
 rw [e2,Option.bind_some]
 by_cases q2:b2<0
 ·rw [if_pos (by simpa using q2)];exact⟨-1,rfl,by omega,by omega⟩
 rw [if_neg (by simpa using q2)]
 have s2:=r2 (by omega)
 exact⟨b2,rfl,by omega,fun _=>by omega⟩
def zdJ (x:zaa):Nat:=x.fKey.length+x.fVal.length
theorem zBp {x:zaa} (h:zdJ x≤2000000):zjN x=some x:=rfl
theorem zA2 {x:zaa} (h:zdJ x≤2000000):zhy x x=some true:=by
 unfold zhy
 simp []
theorem zA6 {x:zaa} {a:Int} (h0:0≤a) (h1:a≤1048576) (h:zp1 x): ∃v,zhz x a=some v∧v≤a∧(0≤v→(zdJ x:Int)=a-v):=by
 unfold zhz zdJ
 rw [zfG (a:=a) (by omega) (by omega) h.1]
 by_cases q0:a-(x.fKey.length:Int)<0
 ·rw [if_pos (by simpa using q0)];exact⟨-1,rfl,by omega,by omega⟩
 rw [if_neg (by simpa using q0)]
 rw [zfG (a:=(a-(x.fKey.length:Int))) (by omega) (by omega) h.2.1]
 by_cases q1:(a-(x.fKey.length:Int))-(x.fVal.length:Int)<0
 ·rw [if_pos (by simpa using q1)];exact⟨-1,rfl,by omega,by omega⟩
 rw [if_neg (by simpa using q1)]
 exact⟨((a-(x.fKey.length:Int))-(x.fVal.length:Int)),rfl,by omega,fun _=>by omega⟩
def zbv (l:List zaa):Nat:=l.length+(l.map zdJ).sum
theorem zyC {xs:List zaa} (h:zbv xs≤2000000):zgo xs=some xs:=by
 have hl:xs.length≤2000000:=by unfold zbv at h;omega
 have hx: ∀x∈xs,zdJ x≤2000000:=fun x hx=>by have:=zeu (tot:=zdJ) hx;unfold zbv at h;omega
 unfold zgo
 rw [zad (by omega)]
 exact zsw (fun i hi v hv=>by
  show zdE xs i v=_
  unfold zdE
  rw [if_pos (by simpa using hi),zac hi,Option.bind_some,zBp (hx _ (List.getElem_mem hi)),Option.bind_some,zac (by omega),Option.bind_some,zaN hi (by omega)];rfl) (fun v=>by
  show zdE xs _ v=_
  unfold zdE
  rw [if_neg (by simp)])
theorem zyM {xs:List zaa} (h:zbv xs≤2000000):zgM xs xs=some true:=by
 have hl:xs.length≤2000000:=by unfold zbv at h;omega
 have hx: ∀x∈xs,zdJ x≤2000000:=fun x hx=>by have:=zeu (tot:=zdJ) hx;unfold zbv at h;omega
 unfold zgM
 rw [if_neg (by simp)]
 exact zrg (n:=xs.length) (fun i hi=>by
  show zdL xs xs i=_
  unfold zdL
  rw [if_pos (by simpa using hi),zac hi,Option.bind_some,Option.bind_some,zA2 (hx _ (List.getElem_mem hi)),Option.bind_some,if_neg (by simp),zaN hi (by omega)]) (by
  show zdL xs xs _=_
  unfold zdL
  rw [if_neg (by simp)])
theorem zzR {xs:List zaa} {a:Int} (h0:0≤a) (h1:a≤1048576) (h:(okL zp1) xs): ∃v,zgn xs a=some v∧v≤a∧(0≤v→(zbv xs:Int)=a-v):=by
 have hl:xs.length≤9223372036854775807:=h.1
 unfold zgn zbv
 rw [zfG h0 h1 hl]
 by_cases h2:a-(xs.length:Int)<0
 ·rw [if_pos (by simpa using h2)];exact⟨-1,rfl,by omega,by omega⟩
 ·rw [if_neg (by simpa using h2)]
  obtain⟨v,e1,e2,e3⟩:=szL (xs:=xs) (body:=fun s:Int × Int=>zcS xs s.1 s.2) zdJ (a:=a-xs.length) (by omega) (by omega) (fun x hx b hb0 hb1=>by
   obtain⟨r,e1,e2,e3⟩:=zA6 (x:=x) hb0 hb1 (h.2 _ hx)
   refine⟨r,e2,e3,fun i hi=> ?_⟩
   have hi':=(List.getElem?_eq_some_iff.1 hi).1
   show zcS xs b i=_
   unfold zcS
   rw [if_pos (by simpa using hi'),zce hi,Option.bind_some,e1,Option.bind_some,zaN hi' (by omega)]
   by_cases h3:r<0
   ·rw [if_pos (by simpa using h3),if_pos h3]
   ·rw [if_neg (by simpa using h3),if_neg h3]) (fun b=>by
   show zcS xs b _=_
   unfold zcS
   rw [if_neg (by simp)])
  exact⟨v,e1,by omega,fun hv=>by have:=e3 hv;omega⟩
def zhd (l:List zaa):Nat:=(l.map fun x=>3).sum
theorem zui (l:List zaa):zhd l≤64*zbv l:=by
 unfold zhd zbv
 rw [zk7];omega
set_option maxHeartbeats 1000000 in
theorem zwb {xs:List zaa} {k:Int} (h0:0≤k) (hk:k+(zhd xs:Nat)≤4611686018427387904) (h:zbv xs≤2000000): ∃ys,ys.length=xs.length∧zg8 xs k=some (k+(zhd xs:Nat),ys)∧zhl ys k=some (k+(zhd xs:Nat)):=by
 have hl:xs.length≤2000000:=by unfold zbv at h;omega
 refine zn8 (cnt:=fun x:zaa=>3) (mb:=fun s:Int × Int × List zaa=>zb3 s.1 s.2.1 s.2.2) (hb:=fun ys s=>zb4 ys s.1 s.2) 4611686018427387904 h0 hk (fun x hx k h0 hB=> ?_) (fun k v hv=> ?_) (fun k ys hy=> ?_)
 ·have hB:k+((3:Nat):Int)≤4611686018427387904:=hB
  have fin:k+1+1+1=k+(((3:Nat)):Int):=by omega
  refine⟨?y,fun i v hv hi=> ?_,fun i ys hy hi=> ?_⟩
  rotate_left
  ·have hi':=(List.getElem?_eq_some_iff.1 hv).1
   show zb3 k i v=_
   unfold zb3
   rw [if_pos (by simpa using hi')]
   simp only [zce hv,zaN hi (by omega:xs.length≤_),Int.toNat_natCast,List.set_set,Option.bind_some,(show IntKind.i64.wrap (k+1)=k+1 from zaC (by omega) (by omega)),(show IntKind.i64.wrap (k+1+1)=k+1+1 from zaC (by omega) (by omega)),(show IntKind.i64.wrap (k+1+1+1)=k+1+1+1 from zaC (by omega) (by omega)),zeS (n:=k) (by omega),zeS (n:=k+1) (by omega)]
   rw [fin]
  ·have hi':=(List.getElem?_eq_some_iff.1 hy).1
   show zb4 ys k i=_
   unfold zb4
   rw [if_pos (by simpa using hi')]
   simp only [zce hy,zaN hi (by omega:xs.length≤_),bne_self_eq_false,Bool.false_eq_true,if_false,Option.bind_some,(show IntKind.i64.wrap (k+1)=k+1 from zaC (by omega) (by omega)),(show IntKind.i64.wrap (k+1+1)=k+1+1 from zaC (by omega) (by omega)),(show IntKind.i64.wrap (k+1+1+1)=k+1+1+1 from zaC (by omega) (by omega)),zeS (n:=k) (by omega),zeS (n:=k+1) (by omega)]
   rw [fin]
 ·show zb3 k _ v=_
  unfold zb3
  rw [if_neg (by simp [hv])]
 ·show zb4 ys k _=_
  unfold zb4
  rw [if_neg (by simp [hy])]
def zik (x:zdG):Nat:=za2 x.fVals
theorem zCs {x:zdG} (h:zik x≤2000000):zh1 x=some x:=by
 unfold zh1
 simp only [zsi (xs:=x.fVals) (by unfold zik at h;omega),Option.bind_some]
theorem zCt {x:zdG} (h:zik x≤2000000):zh5 x x=some true:=by
 unfold zh5
 simp [zsA (xs:=x.fVals) (by unfold zik at h;omega)]
theorem zCA {x:zdG} {a:Int} (h0:0≤a) (h1:a≤1048576) (h:zAS x): ∃v,zh4 x a=some v∧v≤a∧(0≤v→(zik x:Int)=a-v):=by
 unfold zh4 zik
 obtain⟨b0,e0,g0,r0⟩:=zsq (xs:=x.fVals) (a:=a) (by omega) (by omega) h
 rw [e0,Option.bind_some]
 by_cases q0:b0<0
 ·rw [if_pos (by simpa using q0)];exact⟨-1,rfl,by omega,by omega⟩
 rw [if_neg (by simpa using q0)]
 have s0:=r0 (by omega)
 exact⟨b0,rfl,by omega,fun _=>by omega⟩
def zc6 (x:zaz):Nat:=zik x.fOld+zik x.fNew
theorem zyj {x:zaz} (h:zc6 x≤2000000):zgd x=some x:=by
 unfold zgd
 simp only [zCs (x:=x.fOld) (by unfold zc6 at h;omega),zCs (x:=x.fNew) (by unfold zc6 at h;omega),Option.bind_some]
theorem zzc {x:zaz} (h:zc6 x≤2000000):zga x x=some true:=by
 unfold zga
 simp [zCt (x:=x.fOld) (by unfold zc6 at h;omega),zCt (x:=x.fNew) (by unfold zc6 at h;omega)]
theorem zyB {x:zaz} {a:Int} (h0:0≤a) (h1:a≤1048576) (h:zs4 x): ∃v,zgp x a=some v∧v≤a∧(0≤v→(zc6 x:Int)=a-v):=by
 unfold zgp zc6
 obtain⟨b1,e1,g1,r1⟩:=zCA (x:=x.fOld) (a:=a) (by omega) (by omega) h.2.1
 rw [e1,Option.bind_some]
 by_cases q1:b1<0
 ·rw [if_pos (by simpa using q1)];exact⟨-1,rfl,by omega,by omega⟩
 rw [if_neg (by simpa using q1)]
 have s1:=r1 (by omega)
 obtain⟨b2,e2,g2,r2⟩:=zCA (x:=x.fNew) (a:=b1) (by omega) (by omega) h.2.2
 rw [e2,Option.bind_some]
 by_cases q2:b2<0
 ·rw [if_pos (by simpa using q2)];exact⟨-1,rfl,by omega,by omega⟩
 rw [if_neg (by simpa using q2)]
 have s2:=r2 (by omega)
 exact⟨b2,rfl,by omega,fun _=>by omega⟩
def zbx (l:List zab):Nat:=l.length+(l.map za5).sum
theorem zzS {xs:List zab} (h:zbx xs≤2000000):zgy xs=some xs:=by
 have hl:xs.length≤2000000:=by unfold zbx at h;omega
 have hx: ∀x∈xs,za5 x≤2000000:=fun x hx=>by have:=zeu (tot:=za5) hx;unfold zbx at h;omega
 unfold zgy
 rw [zad (by omega)]
 exact zsw (fun i hi v hv=>by
  show zdK xs i v=_
  unfold zdK
  rw [if_pos (by simpa using hi),zac hi,Option.bind_some,zBo (hx _ (List.getElem_mem hi)),Option.bind_some,zac (by omega),Option.bind_some,zaN hi (by omega)];rfl) (fun v=>by
  show zdK xs _ v=_
  unfold zdK
  rw [if_neg (by simp)])
theorem zz5 {xs:List zab} (h:zbx xs≤2000000):zgb xs xs=some true:=by
 have hl:xs.length≤2000000:=by unfold zbx at h;omega
 have hx: ∀x∈xs,za5 x≤2000000:=fun x hx=>by have:=zeu (tot:=za5) hx;unfold zbx at h;omega
 unfold zgb
 rw [if_neg (by simp)]
 exact zrg (n:=xs.length) (fun i hi=>by
  show zdN xs xs i=_
  unfold zdN
  rw [if_pos (by simpa using hi),zac hi,Option.bind_some,Option.bind_some,zB1 (hx _ (List.getElem_mem hi)),Option.bind_some,if_neg (by simp),zaN hi (by omega)]) (by
  show zdN xs xs _=_
  unfold zdN
  rw [if_neg (by simp)])
theorem zzY {xs:List zab} {a:Int} (h0:0≤a) (h1:a≤1048576) (h:(okL zqj) xs): ∃v,zgg xs a=some v∧v≤a∧(0≤v→(zbx xs:Int)=a-v):=by
 have hl:xs.length≤9223372036854775807:=h.1
 unfold zgg zbx
 rw [zfG h0 h1 hl]
 by_cases h2:a-(xs.length:Int)<0
 ·rw [if_pos (by simpa using h2)];exact⟨-1,rfl,by omega,by omega⟩
 ·rw [if_neg (by simpa using h2)]
  obtain⟨v,e1,e2,e3⟩:=szL (xs:=xs) (body:=fun s:Int × Int=>zcQ xs s.1 s.2) za5 (a:=a-xs.length) (by omega) (by omega) (fun x hx b hb0 hb1=>by
   obtain⟨r,e1,e2,e3⟩:=zBH (x:=x) hb0 hb1 (h.2 _ hx)
   refine⟨r,e2,e3,fun i hi=> ?_⟩
   have hi':=(List.getElem?_eq_some_iff.1 hi).1
   show zcQ xs b i=_
   unfold zcQ
   rw [if_pos (by simpa using hi'),zce hi,Option.bind_some,e1,Option.bind_some,zaN hi' (by omega)]
   by_cases h3:r<0
   ·rw [if_pos (by simpa using h3),if_pos h3]
   ·rw [if_neg (by simpa using h3),if_neg h3]) (fun b=>by
   show zcQ xs b _=_
   unfold zcQ
   rw [if_neg (by simp)])
  exact⟨v,e1,by omega,fun hv=>by have:=e3 hv;omega⟩
def zfm (l:List zab):Nat:=(l.map fun x=>1+zaL x.fCols+zhB x.fIdxs).sum
theorem zuZ (l:List zab):zfm l≤64*zbx l:=by
 unfold zfm zbx
 induction l with
 |nil=>simp
 |cons x l ih=>
  rw [List.map_cons,List.sum_cons,List.length_cons,List.map_cons,List.sum_cons]
  have h0:=zkH x.fCols
  have h1:=zxX x.fIdxs
  unfold za5 at*
  omega
set_option maxHeartbeats 1000000 in
theorem zvO {xs:List zab} {k:Int} (h0:0≤k) (hk:k+(zfm xs:Nat)≤4611686018427387904) (h:zbx xs≤2000000): ∃ys,ys.length=xs.length∧zhk xs k=some (k+(zfm xs:Nat),ys)∧zg3 ys k=some (k+(zfm xs:Nat)):=by
 have hl:xs.length≤2000000:=by unfold zbx at h;omega
 refine zn8 (cnt:=fun x:zab=>1+zaL x.fCols+zhB x.fIdxs) (mb:=fun s:Int × Int × List zab=>zb6 s.1 s.2.1 s.2.2) (hb:=fun ys s=>zb5 ys s.1 s.2) 4611686018427387904 h0 hk (fun x hx k h0 hB=> ?_) (fun k v hv=> ?_) (fun k ys hy=> ?_)
 ·have hB:k+((1+zaL x.fCols+zhB x.fIdxs:Nat):Int)≤4611686018427387904:=hB
  obtain⟨r0, -,m0,g0⟩:=zlC (xs:=x.fCols) (k:=k+1) (by omega) (by omega) (by have:=zeu (tot:=za5) hx;unfold zbx at h;have e_:za2 x.fCols≤za5 x:=(by unfold za5;omega);omega)
  obtain⟨r1, -,m1,g1⟩:=zAt (xs:=x.fIdxs) (k:=k+1+((zaL x.fCols:Nat):Int)) (by omega) (by omega) (by have:=zeu (tot:=za5) hx;unfold zbx at h;have e_:zen x.fIdxs≤za5 x:=(by unfold za5;omega);omega)
  have fin:k+1+((zaL x.fCols:Nat):Int)+((zhB x.fIdxs:Nat):Int)=k+(((1+zaL x.fCols+zhB x.fIdxs:Nat)):Int):=by omega
  refine⟨?y,fun i v hv hi=> ?_,fun i ys hy hi=> ?_⟩
  rotate_left
  ·have hi':=(List.getElem?_eq_some_iff.1 hv).1
   show zb6 k i v=_
   unfold zb6
   rw [if_pos (by simpa using hi')]
   simp only [zce hv,zaN hi (by omega:xs.length≤_),Int.toNat_natCast,List.set_set,Option.bind_some,(show IntKind.i64.wrap (k+1)=k+1 from zaC (by omega) (by omega)),zeS (n:=k) (by omega),m0,m1]
   rw [fin]
  ·have hi':=(List.getElem?_eq_some_iff.1 hy).1
   show zb5 ys k i=_
   unfold zb5
   rw [if_pos (by simpa using hi')]
   simp only [zce hy,zaN hi (by omega:xs.length≤_),bne_self_eq_false,Bool.false_eq_true,if_false,Option.bind_some,(show IntKind.i64.wrap (k+1)=k+1 from zaC (by omega) (by omega)),zeS (n:=k) (by omega),g0,g1]
   rw [if_neg (by simp;omega),if_neg (by simp;omega),fin]
 ·show zb6 k _ v=_
  unfold zb6
  rw [if_neg (by simp [hv])]
 ·show zb5 ys k _=_
  unfold zb5
  rw [if_neg (by simp [hy])]
def zeV (l:List Int):Nat:=l.length
theorem zDd {xs:List Int} (h:zeV xs≤2000000):ziG xs=some xs:=by
 have hl:xs.length≤2000000:=by unfold zeV at h;omega
 unfold ziG
 rw [zad (by omega)]
 exact zsw (fun i hi v hv=>by
  show zeF xs i v=_
  unfold zeF
  rw [if_pos (by simpa using hi),zac hi,Option.bind_some,zac (by omega),Option.bind_some,zaN hi (by omega)];rfl) (fun v=>by
  show zeF xs _ v=_
  unfold zeF
  rw [if_neg (by simp)])
theorem zCX {xs:List Int} (h:zeV xs≤2000000):ziy xs xs=some true:=by
 have hl:xs.length≤2000000:=by unfold zeV at h;omega
 unfold ziy
 rw [if_neg (by simp)]
 exact zrg (n:=xs.length) (fun i hi=>by
  show zeM xs xs i=_
  unfold zeM
  rw [if_pos (by simpa using hi),zac hi,Option.bind_some,Option.bind_some,if_neg (by simp),zaN hi (by omega)]) (by
  show zeM xs xs _=_
  unfold zeM
  rw [if_neg (by simp)])
theorem zDM {xs:List Int} {a:Int} (h0:0≤a) (h1:a≤1048576) (h:(okL zo6) xs): ∃v,ziC xs a=some v∧v≤a∧(0≤v→(zeV xs:Int)=a-v):=by
 have hl:xs.length≤9223372036854775807:=h.1
 unfold ziC zeV
 rw [zfG h0 h1 hl]
 by_cases h2:a-(xs.length:Int)<0
 ·rw [if_pos (by simpa using h2)];exact⟨-1,rfl,by omega,by omega⟩
 ·rw [if_neg (by simpa using h2)]
  exact⟨_,rfl,by omega,fun _=>by omega⟩
def zjm (l:List Int):Nat:=(l.map fun x=>1).sum
theorem zx1 (l:List Int):zjm l≤64*zeV l:=by
 unfold zjm zeV
 rw [zk7];omega
set_option maxHeartbeats 1000000 in
theorem zyo {xs:List Int} {k:Int} (h0:0≤k) (hk:k+(zjm xs:Nat)≤4611686018427387904) (h:zeV xs≤2000000): ∃ys,ys.length=xs.length∧ziX xs k=some (k+(zjm xs:Nat),ys)∧zje ys k=some (k+(zjm xs:Nat)):=by
 have hl:xs.length≤2000000:=by unfold zeV at h;omega
 refine zn8 (cnt:=fun x:Int=>1) (mb:=fun s:Int × Int × List Int=>zcI s.1 s.2.1 s.2.2) (hb:=fun ys s=>zcR ys s.1 s.2) 4611686018427387904 h0 hk (fun x hx k h0 hB=> ?_) (fun k v hv=> ?_) (fun k ys hy=> ?_)
 ·have hB:k+((1:Nat):Int)≤4611686018427387904:=hB
  have fin:k+1=k+(((1:Nat)):Int):=by omega
  refine⟨?y,fun i v hv hi=> ?_,fun i ys hy hi=> ?_⟩
  rotate_left
  ·have hi':=(List.getElem?_eq_some_iff.1 hv).1
   show zcI k i v=_
   unfold zcI
   rw [if_pos (by simpa using hi')]
   simp only [zce hv,zaN hi (by omega:xs.length≤_),Int.toNat_natCast,List.set_set,Option.bind_some,(show IntKind.i64.wrap (k+1)=k+1 from zaC (by omega) (by omega))]
   rw [fin]
  ·have hi':=(List.getElem?_eq_some_iff.1 hy).1
   show zcR ys k i=_
   unfold zcR
   rw [if_pos (by simpa using hi')]
   simp only [zce hy,zaN hi (by omega:xs.length≤_),bne_self_eq_false,Bool.false_eq_true,if_false,Option.bind_some,(show IntKind.i64.wrap (k+1)=k+1 from zaC (by omega) (by omega))]
   rw [fin]
 ·show zcI k _ v=_
  unfold zcI
  rw [if_neg (by simp [hv])]
 ·show zcR ys k _=_
  unfold zcR
  rw [if_neg (by simp [hy])]
def za0 (x:zag):Nat:=x.fName.length+zbx x.fWays+zeV x.fAt+zbv x.fStore
theorem zBv {x:zag} (h:za0 x≤2000000):zdO x=some x:=by
 unfold zdO
 simp only [zzS (xs:=x.fWays) (by unfold za0 at h;omega),zDd (xs:=x.fAt) (by unfold za0 at h;omega),zyC (xs:=x.fStore) (by unfold za0 at h;omega),Option.bind_some]
theorem zwE {x:zag} (h:za0 x≤2000000):zdU x x=some true:=by
 unfold zdU
 simp [zz5 (xs:=x.fWays) (by unfold za0 at h;omega),zCX (xs:=x.fAt) (by unfold za0 at h;omega),zyM (xs:=x.fStore) (by unfold za0 at h;omega)]
theorem zAV {x:zag} {a:Int} (h0:0≤a) (h1:a≤1048576) (h:zv9 x): ∃v,zhJ x a=some v∧v≤a∧(0≤v→(za0 x:Int)=a-v):=by
 unfold zhJ za0
 rw [zfG (a:=a) (by omega) (by omega) h.1]
 by_cases q0:a-(x.fName.length:Int)<0
 ·rw [if_pos (by simpa using q0)];exact⟨-1,rfl,by omega,by omega⟩
 rw [if_neg (by simpa using q0)]
 obtain⟨b1,e1,g1,r1⟩:=zzY (xs:=x.fWays) (a:=(a-(x.fName.length:Int))) (by omega) (by omega) h.2.1
 rw [e1,Option.bind_some]
 by_cases q1:b1<0
 ·rw [if_pos (by simpa using q1)];exact⟨-1,rfl,by omega,by omega⟩
 rw [if_neg (by simpa using q1)]
 have s1:=r1 (by omega)
 obtain⟨b2,e2,g2,r2⟩:=zDM (xs:=x.fAt) (a:=b1) (by omega) (by omega) h.2.2.1
 rw [e2,Option.bind_some]
 by_cases q2:b2<0
 ·rw [if_pos (by simpa using q2)];exact⟨-1,rfl,by omega,by omega⟩
 rw [if_neg (by simpa using q2)]
 have s2:=r2 (by omega)
 obtain⟨b3,e3,g3,r3⟩:=zzR (xs:=x.fStore) (a:=b2) (by omega) (by omega) h.2.2.2
 rw [e3,Option.bind_some]
 by_cases q3:b3<0
 ·rw [if_pos (by simpa using q3)];exact⟨-1,rfl,by omega,by omega⟩
 rw [if_neg (by simpa using q3)]
 have s3:=r3 (by omega)
 exact⟨b3,rfl,by omega,fun _=>by omega⟩
def zdg (x:zag):Nat:=zfm x.fWays+zjm x.fAt+zhd x.fStore
theorem zqJ (x:zag):zdg x≤64*za0 x:=by
 have h0:=zuZ x.fWays
 have h1:=zx1 x.fAt
 have h2:=zui x.fStore
 unfold zdg za0
 omega
theorem zsg {x:zag} {k:Int} (h0:0≤k) (hk:k+(zdg x:Nat)≤4611686018427387904) (h:za0 x≤2000000): ∃r0:List zab,∃r1:List Int,∃r2:List zaa,zeD x k=some (k+(zdg x:Nat),⟨x.fName,r0,r1,r2⟩)∧zeH ⟨x.fName,r0,r1,r2⟩ k=some (k+(zdg x:Nat)):=by
 obtain⟨r0, -,m0,g0⟩:=zvO (xs:=x.fWays) (k:=k) (by omega) (by unfold zdg at hk;omega) (by unfold za0 at h;omega)
 obtain⟨r1, -,m1,g1⟩:=zyo (xs:=x.fAt) (k:=k+((zfm x.fWays:Nat):Int)) (by omega) (by unfold zdg at hk;omega) (by unfold za0 at h;omega)
 obtain⟨r2, -,m2,g2⟩:=zwb (xs:=x.fStore) (k:=k+((zfm x.fWays:Nat):Int)+((zjm x.fAt:Nat):Int)) (by omega) (by unfold zdg at hk;omega) (by unfold za0 at h;omega)
 have fin:k+((zfm x.fWays:Nat):Int)+((zjm x.fAt:Nat):Int)+((zhd x.fStore:Nat):Int)=k+(zdg x:Nat):=by unfold zdg;omega
 refine⟨r0,r1,r2, ?_, ?_⟩
 ·unfold zeD
  simp only [m0,m1,m2,Option.bind_some]
  rw [fin]
 ·unfold zeH
  simp only [g0,g1,g2,Option.bind_some]
  rw [if_neg (by simp;omega)]
  rw [if_neg (by simp;omega)]
  rw [if_neg (by simp;omega)]
  rw [fin]
def zaB (x:zaf):Nat:=zc6 x.fAct
theorem zv0 {x:zaf} (h:zaB x≤2000000):zfq x=some x:=by
 unfold zfq
 simp only [zyj (x:=x.fAct) (by unfold zaB at h;omega),Option.bind_some]
theorem zvQ {x:zaf} (h:zaB x≤2000000):zfj x x=some true:=by
 unfold zfj
 simp [zzc (x:=x.fAct) (by unfold zaB at h;omega)]
theorem zvK {x:zaf} {a:Int} (h0:0≤a) (h1:a≤1048576) (h:zkc x): ∃v,zfo x a=some v∧v≤a∧(0≤v→(zaB x:Int)=a-v):=by
 unfold zfo zaB
 obtain⟨b2,e2,g2,r2⟩:=zyB (x:=x.fAct) (a:=a) (by omega) (by omega) h.2.2
 rw [e2,Option.bind_some]
 by_cases q2:b2<0
 ·rw [if_pos (by simpa using q2)];exact⟨-1,rfl,by omega,by omega⟩
 rw [if_neg (by simpa using q2)]
 have s2:=r2 (by omega)
 exact⟨b2,rfl,by omega,fun _=>by omega⟩
def zaU (l:List zaf):Nat:=l.length+(l.map zaB).sum
theorem zvA {xs:List zaf} (h:zaU xs≤2000000):zb0 xs=some xs:=by
 have hl:xs.length≤2000000:=by unfold zaU at h;omega
 have hx: ∀x∈xs,zaB x≤2000000:=fun x hx=>by have:=zeu (tot:=zaB) hx;unfold zaU at h;omega
 unfold zb0
 rw [zad (by omega)]
 exact zsw (fun i hi v hv=>by
  show zcF xs i v=_
  unfold zcF
  rw [if_pos (by simpa using hi),zac hi,Option.bind_some,zv0 (hx _ (List.getElem_mem hi)),Option.bind_some,zac (by omega),Option.bind_some,zaN hi (by omega)];rfl) (fun v=>by
  show zcF xs _ v=_
  unfold zcF
  rw [if_neg (by simp)])
theorem zus {xs:List zaf} (h:zaU xs≤2000000):zeW xs xs=some true:=by
 have hl:xs.length≤2000000:=by unfold zaU at h;omega
 have hx: ∀x∈xs,zaB x≤2000000:=fun x hx=>by have:=zeu (tot:=zaB) hx;unfold zaU at h;omega
 unfold zeW
 rw [if_neg (by simp)]
 exact zrg (n:=xs.length) (fun i hi=>by
  show zcy xs xs i=_
  unfold zcy
  rw [if_pos (by simpa using hi),zac hi,Option.bind_some,Option.bind_some,zvQ (hx _ (List.getElem_mem hi)),Option.bind_some,if_neg (by simp),zaN hi (by omega)]) (by
  show zcy xs xs _=_
  unfold zcy
  rw [if_neg (by simp)])
theorem zvy {xs:List zaf} {a:Int} (h0:0≤a) (h1:a≤1048576) (h:(okL zkc) xs): ∃v,zeY xs a=some v∧v≤a∧(0≤v→(zaU xs:Int)=a-v):=by
 have hl:xs.length≤9223372036854775807:=h.1
 unfold zeY zaU
 rw [zfG h0 h1 hl]
 by_cases h2:a-(xs.length:Int)<0
 ·rw [if_pos (by simpa using h2)];exact⟨-1,rfl,by omega,by omega⟩
 ·rw [if_neg (by simpa using h2)]
  obtain⟨v,e1,e2,e3⟩:=szL (xs:=xs) (body:=fun s:Int × Int=>zbM xs s.1 s.2) zaB (a:=a-xs.length) (by omega) (by omega) (fun x hx b hb0 hb1=>by
   obtain⟨r,e1,e2,e3⟩:=zvK (x:=x) hb0 hb1 (h.2 _ hx)
   refine⟨r,e2,e3,fun i hi=> ?_⟩
   have hi':=(List.getElem?_eq_some_iff.1 hi).1
   show zbM xs b i=_
   unfold zbM
   rw [if_pos (by simpa using hi'),zce hi,Option.bind_some,e1,Option.bind_some,zaN hi' (by omega)]
   by_cases h3:r<0
   ·rw [if_pos (by simpa using h3),if_pos h3]
   ·rw [if_neg (by simpa using h3),if_neg h3]) (fun b=>by
   show zbM xs b _=_
   unfold zbM
   rw [if_neg (by simp)])
  exact⟨v,e1,by omega,fun hv=>by have:=e3 hv;omega⟩
def zgB (l:List zaf):Nat:=(l.map fun x=>3+zaL x.fAct.fOld.fVals+zaL x.fAct.fNew.fVals).sum
theorem zqr (l:List zaf):zgB l≤64*zaU l:=by
 unfold zgB zaU
 induction l with
 |nil=>simp
 |cons x l ih=>
  rw [List.map_cons,List.sum_cons,List.length_cons,List.map_cons,List.sum_cons]
  have h0:=zkH x.fAct.fOld.fVals
  have h1:=zkH x.fAct.fNew.fVals
  unfold zaB zc6 zik at*
  omega
set_option maxHeartbeats 1000000 in
theorem zru {xs:List zaf} {k:Int} (h0:0≤k) (hk:k+(zgB xs:Nat)≤4611686018427387904) (h:zaU xs≤2000000): ∃ys,ys.length=xs.length∧zft xs k=some (k+(zgB xs:Nat),ys):=by
 have hl:xs.length≤2000000:=by unfold zaU at h;omega
 refine zzA (cnt:=fun x:zaf=>3+zaL x.fAct.fOld.fVals+zaL x.fAct.fNew.fVals) (mb:=fun s:Int × Int × List zaf=>zbl s.1 s.2.1 s.2.2) 4611686018427387904 h0 hk (fun x hx k h0 hB=> ?_) (fun k v hv=> ?_)
 ·have hB:k+((3+zaL x.fAct.fOld.fVals+zaL x.fAct.fNew.fVals:Nat):Int)≤4611686018427387904:=hB
  obtain⟨r0, -,m0,g0⟩:=zlC (xs:=x.fAct.fOld.fVals) (k:=k+1+1+1) (by omega) (by omega) (by have:=zeu (tot:=zaB) hx;unfold zaU at h;have e_:za2 x.fAct.fOld.fVals≤zaB x:=(by unfold zaB zc6 zik;omega);omega)
  obtain⟨r1, -,m1,g1⟩:=zlC (xs:=x.fAct.fNew.fVals) (k:=k+1+1+1+((zaL x.fAct.fOld.fVals:Nat):Int)) (by omega) (by omega) (by have:=zeu (tot:=zaB) hx;unfold zaU at h;have e_:za2 x.fAct.fNew.fVals≤zaB x:=(by unfold zaB zc6 zik;omega);omega)
  have fin:k+1+1+1+((zaL x.fAct.fOld.fVals:Nat):Int)+((zaL x.fAct.fNew.fVals:Nat):Int)=k+(((3+zaL x.fAct.fOld.fVals+zaL x.fAct.fNew.fVals:Nat)):Int):=by omega
  refine⟨?y,fun i v hv hi=> ?_⟩
  rotate_left
  ·have hi':=(List.getElem?_eq_some_iff.1 hv).1
   show zbl k i v=_
   unfold zbl
   rw [if_pos (by simpa using hi')]
   simp only [zce hv,zaN hi (by omega:xs.length≤_),Int.toNat_natCast,List.set_set,Option.bind_some,(show IntKind.i64.wrap (k+1)=k+1 from zaC (by omega) (by omega)),(show IntKind.i64.wrap (k+1+1)=k+1+1 from zaC (by omega) (by omega)),(show IntKind.i64.wrap (k+1+1+1)=k+1+1+1 from zaC (by omega) (by omega)),m0,m1]
   rw [fin]
 ·show zbl k _ v=_
  unfold zbl
  rw [if_neg (by simp [hv])]
def zhS (l:List Bool):Nat:=l.length
theorem zAG {xs:List Bool} (h:zhS xs≤2000000):zeO xs xs=some true:=by
 have hl:xs.length≤2000000:=by unfold zhS at h;omega
 unfold zeO
 rw [if_neg (by simp)]
 exact zrg (n:=xs.length) (fun i hi=>by
  show zd5 xs xs i=_
  unfold zd5
  rw [if_pos (by simpa using hi),zac hi,Option.bind_some,Option.bind_some,if_neg (by simp),zaN hi (by omega)]) (by
  show zd5 xs xs _=_
  unfold zd5
  rw [if_neg (by simp)])
def zjQ (l:List Bool):Nat:=(l.map fun x=>1).sum
theorem zwp (l:List Bool):zjQ l≤64*zhS l:=by
 unfold zjQ zhS
 rw [zk7];omega
set_option maxHeartbeats 1000000 in
theorem zxA {xs:List Bool} {k:Int} (h0:0≤k) (hk:k+(zjQ xs:Nat)≤4611686018427387904) (h:zhS xs≤2000000): ∃ys,ys.length=xs.length∧zh9 xs k=some (k+(zjQ xs:Nat),ys)∧zfO ys k=some (k+(zjQ xs:Nat)):=by
 have hl:xs.length≤2000000:=by unfold zhS at h;omega
 refine zn8 (cnt:=fun x:Bool=>1) (mb:=fun s:Int × Int × List Bool=>zcj s.1 s.2.1 s.2.2) (hb:=fun ys s=>zcl ys s.1 s.2) 4611686018427387904 h0 hk (fun x hx k h0 hB=> ?_) (fun k v hv=> ?_) (fun k ys hy=> ?_)
 ·have hB:k+((1:Nat):Int)≤4611686018427387904:=hB
  have fin:k+1=k+(((1:Nat)):Int):=by omega
  refine⟨?y,fun i v hv hi=> ?_,fun i ys hy hi=> ?_⟩
  rotate_left
  ·have hi':=(List.getElem?_eq_some_iff.1 hv).1
   show zcj k i v=_
   unfold zcj
   rw [if_pos (by simpa using hi')]
   simp only [zce hv,zaN hi (by omega:xs.length≤_),Int.toNat_natCast,List.set_set,Option.bind_some,(show IntKind.i64.wrap (k+1)=k+1 from zaC (by omega) (by omega))]
   rw [fin]
  ·have hi':=(List.getElem?_eq_some_iff.1 hy).1
   show zcl ys k i=_
   unfold zcl
   rw [if_pos (by simpa using hi')]
   simp only [zce hy,zaN hi (by omega:xs.length≤_),bne_self_eq_false,Bool.false_eq_true,if_false,Option.bind_some,(show IntKind.i64.wrap (k+1)=k+1 from zaC (by omega) (by omega))]
   rw [fin]
 ·show zcj k _ v=_
  unfold zcj
  rw [if_neg (by simp [hv])]
 ·show zcl ys k _=_
  unfold zcl
  rw [if_neg (by simp [hy])]
end Go.Proofs.YtgobcjbjogkpjaaGreatDoor
end
section
namespace Go.Proofs.YtgobcjbjogkpjaaGreatDoor
open Go.RowKit
set_option maxRecDepth 100000
abbrev RtS:Nat→List AV→AV→Prop:=Rts Tryz.prog sgs
@[reducible] def zDN:Nat→Type
 |0=>zaa
 |1=>zCr
 |2=>zbB
 |3=>zab
 |4=>zdG
 |5=>zaz
 |6=>DOp
 |7=>zg0
 |8=>zag
 |9=>zaf
 |_+10=>Unit
@[reducible] def zE1:Nat→List Ty
 |0=> [.s, .s, .b]
 |1=> [.l (.i .u8), .i .i64, .i .u64]
 |2=> [.s, .i .i64, .i .i64]
 |3=> [.s, .l .s, .l (.st 2)]
 |4=> [.l .s]
 |5=> [.i .i64, .l .s, .l .s]
 |6=> [.i .i64, .s, .s, .i .i64]
 |7=> [.s, .s, .b]
 |8=> [.s, .l (.st 3), .l (.i .i64), .l (.st 0)]
 |9=> [.i .i64, .i .i64, .i .i64, .l .s, .l .s]
 |_+10=> []
def tAv: ∀n,zDN n→AV
 |0,x=>ztm x
 |1,x=>zDA x
 |2,x=>zBW x
 |3,x=>zt0 x
 |4,x=>zEW x
 |5,x=>zxn x
 |6,x=>zF3 x
 |7,x=>zFc x
 |8,x=>zvX x
 |9,x=>zlQ x
 |_+10,_=> .agg []
def zFx: ∀n,zDN n→HL zDN (zE1 n)
 |0,x=>(x.fKey,x.fVal,x.fGone,())
 |1,x=>(x.fcode,x.fat,x.fseed,())
 |2,x=>(x.fName,x.fCol,x.fStage,())
 |3,x=>(x.fName,x.fCols,x.fIdxs,())
 |4,x=>(x.fVals,())
 |5,x=>(x.fKind,x.fOld.fVals,x.fNew.fVals,())
 |6,x=>(x.fKind,x.fKey,x.fVal,x.fBy,())
 |7,x=>(x.fKey,x.fVal,x.fThere,())
 |8,x=>(x.fName,x.fWays,x.fAt,x.fStore,())
 |9,x=>(x.fServer,x.fStep,x.fAct.fKind,x.fAct.fOld.fVals,x.fAct.fNew.fVals,())
 |_+10,_=>()
def tMk: ∀n,HL zDN (zE1 n)→zDN n
 |0,x=>⟨x.1,x.2.1,x.2.2.1⟩
 |1,x=>⟨x.1,x.2.1,x.2.2.1⟩
 |2,x=>⟨x.1,x.2.1,x.2.2.1⟩
 |3,x=>⟨x.1,x.2.1,x.2.2.1⟩
 |4,x=>⟨x.1⟩
 |5,x=>⟨x.1,⟨x.2.1⟩,⟨x.2.2.1⟩⟩
 |6,x=>⟨x.1,x.2.1,x.2.2.1,x.2.2.2.1⟩
 |7,x=>⟨x.1,x.2.1,x.2.2.1⟩
 |8,x=>⟨x.1,x.2.1,x.2.2.1,x.2.2.2.1⟩
 |9,x=>⟨x.1,x.2.1,⟨x.2.2.1,⟨x.2.2.2.1⟩,⟨x.2.2.2.2.1⟩⟩⟩
 |_+10,_=>()
theorem zD8: ∀n x,tAv n x= .agg (zwZ tAv (zE1 n) (zFx n x))
 |0,_=>rfl
 |1,_=>rfl
 |2,_=>rfl
 |3,_=>rfl
 |4,_=>rfl
 |5,_=>rfl
 |6,_=>rfl
 |7,_=>rfl
 |8,_=>rfl
 |9,_=>rfl
 |_+10,_=>rfl
theorem zCU: ∀n h,zFx n (tMk n h)=h
 |0,_=>rfl
 |1,_=>rfl
 |2,_=>rfl
 |3,_=>rfl
 |4,_=>rfl
 |5,_=>rfl
 |6,_=>rfl
 |7,_=>rfl
 |8,_=>rfl
 |9,_=>rfl
 |_+10,_=>rfl
@[reducible] def tab:Tab:=⟨RtS,zDN,tAv,zE1,zFx,tMk,zD8,zCU⟩
end Go.Proofs.YtgobcjbjogkpjaaGreatDoor
end
section
namespace Go.Proofs.YtgobcjbjogkpjaaGreatDoor
open Go.RowKit
abbrev FS:=FN tab
noncomputable def tev (tb:List FS) (hs:List JM) (o:Option Tr) (ps:List PT) (r:RT) (xs:HP tab.car ps) (hp:zxl tab ps xs):Option (RTI tab.car r):=match o with
 |some t=>zdV tb 100000 (toR r) t hs (vPs ps xs hp) [] []
 |none=>none
theorem zD3 {f:Nat} {ps:List PT} {r:RT} {φ:HP tab.car ps→Option (RTI tab.car r)} (tb:List FS) (hs:List JM) (h: ∀xs hp,tev tb hs (zEr Tryz.prog sgs f) ps r xs hp=φ xs) (hk: ∀xs y,zE4 Tryz.prog sgs f (zk3 tab ps xs) (zud tab r y)=true) (xs:HP tab.car ps) (y:RTI tab.car r) (hp:zxl tab ps xs) (e:φ xs=some y):tab.Rt f (zk3 tab ps xs) (zud tab r y):=by
 rw [←h xs hp]at e
 unfold tev at e
 split at e
 ·rename_i t ht
  refine zin ht (hk xs y) ?_
  unfold Den
  rw [←zzr ps xs hp]
  exact zbf tb 100000 (fa:= []) (fun _ h=>nomatch h) (fun _ h=>nomatch h) (fun v hv=>zws r hv) .nil e
 ·cases e
noncomputable def mkF (f:Nat) (ps:List PT) (r:RT) (φ:HP tab.car ps→Option (RTI tab.car r)) (tb:List FS) (hs:List JM) (h: ∀xs hp,tev tb hs (zEr Tryz.prog sgs f) ps r xs hp=φ xs) (hk: ∀xs y,zE4 Tryz.prog sgs f (zk3 tab ps xs) (zud tab r y)=true):FS:=
 ⟨f,ps,r,φ,fun xs y hp e=>zD3 tb hs h hk xs y hp e,false,fun h=>by cases h⟩
noncomputable def mkP (d:FS) (h: ∀y,zyq d.f (zud tab d.r y)=true):FS:=
 ⟨d.f,d.ps,d.r,d.φ,d.ok,true,fun _ xs y hx e=>zyN (d.ok xs y hx e) (h y)⟩
noncomputable def mkH (f:Nat) (ps:List PT) (r:RT) (φ:HP tab.car ps→Option (RTI tab.car r)) (ok: ∀xs y,zxl tab ps xs→φ xs=some y→tab.Rt f (zk3 tab ps xs) (zud tab r y)):FS:=⟨f,ps,r,φ,ok,false,fun h=>by cases h⟩
end Go.Proofs.YtgobcjbjogkpjaaGreatDoor
end
section
namespace Go.Proofs.YtgobcjbjogkpjaaGreatDoor
open Go.RowKit
set_option maxRecDepth 100000
set_option maxHeartbeats 4000000
noncomputable def zeX:FS:=mkH 376 [.v .s, .v .s] (.v (.i .i64)) (fun x=>zaS x.1 x.2.1) fun x r _ h=>zis x.1 x.2.1 r h
noncomputable def zgW:FS:=mkH 350 [.v .s, .v (.i .u8)] (.v (.i .i64)) (fun x=>zbd x.1 x.2.1) fun x r _ h=>zgT x.1 x.2.1 r h
noncomputable def zrD:FS:=mkH 351 [.v .s, .v (.i .i64), .v (.i .i64)] (.tu (.cons (.v (.i .i64)) (.cons (.v .b) .nil))) (fun x=>zhC x.1 x.2.1 x.2.2.1) fun x r _ h=>zrp x.1 x.2.1 x.2.2.1 r h
noncomputable def zr9:FS:=mkH 327 [.v (.i .i64)] (.v .s) (fun x=>zjE x.1) fun x r _ h=>zr4 x.1 r h
noncomputable def zqN:FS:=mkH 367 [.v .s, .v .s] (.v (.i .i64)) (fun x=>zge x.1 x.2.1) fun x r _ h=>zrc x.1 x.2.1 r h
noncomputable def zrn:FS:=mkH 274 [.v (.l .s), .v .s] (.v .s) (fun x=>zhN x.1 x.2.1) fun x r _ h=>zrW x.1 x.2.1 r h
noncomputable def zok:FS:=mkH 366 [.v .s, .v (.i .i64)] (.v (.l .s)) (fun x=>zhe x.1 x.2.1) fun x r _ h=>zn6 x.1 x.2.1 r h
noncomputable def ze5:FS:=mkH 329 [.v (.l (.st 0)), .v (.i .i64), .v (.l (.st 0))] (.v (.l (.st 0))) (fun x=>zps x.1 x.2.1 x.2.2.1) fun x r hp h=>zDD (t:=34) (it:=3) (el:=152) (K:=3) (by kernel_rfl) (fun _=>by kernel_rfl) zAk h
noncomputable def zrC:FS:=mkF 298 [.v (.l .s), .v .s] (.v .s) (fun x=>zjP x.1 x.2.1) [] [.sp [.s, .i .i64], .inl] (fun _ _=>by kernel_rfl) (fun _ _=>by kernel_rfl)
noncomputable def zle:FS:=mkF 224 [.v (.st 3), .v (.st 4)] (.v (.st 0)) (fun x=>zdf x.1 x.2.1) [zrC] [] (fun _ _=>by kernel_rfl) (fun _ _=>by kernel_rfl)
noncomputable def znH:FS:=mkF 193 [.v (.l (.st 0)), .v (.st 0)] (.v (.l (.st 0))) (fun x=>zdH x.1 x.2.1) [] [.sp [.i .i64]] (fun _ _=>by kernel_rfl) (fun _ _=>by kernel_rfl)
noncomputable def zmn:FS:=mkF 345 [.v .s, .v (.i .u8)] (.v (.l .s)) (fun x=>zdT x.1 x.2.1) [] [.sp [.l .s, .i .i64, .i .i64], .inl] (fun _ _=>by kernel_rfl) (fun _ _=>by kernel_rfl)
noncomputable def zcU:FS:=mkF 101 [.v (.i .i64), .v (.i .i64), .v (.i .i64)] (.v .b) (fun x=>zbq x.1 x.2.1 x.2.2.1) [] [] (fun _ _=>by kernel_rfl) (fun _ _=>by kernel_rfl)
noncomputable def zjL:FS:=mkF 260 [.v .s, .v .s] (.v .b) (fun x=>zeP x.1 x.2.1) [] [.sp [.i .i64], .sp [.b, .i .i64]] (fun _ _=>by kernel_rfl) (fun _ _=>by kernel_rfl)
noncomputable def zlc:FS:=mkF 175 [.v .s] (.v .b) (fun x=>zd9 x.1) [zcU,zjL] [] (fun _ _=>by kernel_rfl) (fun _ _=>by kernel_rfl)
noncomputable def zmj:FS:=mkF 82 [.v (.st 3), .v (.st 4)] (.v .b) (fun x=>zc3 x.1 x.2.1) [zlc] [.sp [.i .i64]] (fun _ _=>by kernel_rfl) (fun _ _=>by kernel_rfl)
noncomputable def zrU:FS:=mkF 297 [.v (.st 3), .v (.st 0)] (.tu (.cons (.v (.st 4)) (.cons (.v .b) .nil))) (fun x=>zhr x.1 x.2.1) [zmn,zmj,zle] [] (fun _ _=>by kernel_rfl) (fun _ _=>by kernel_rfl)
noncomputable def zrr:FS:=mkF 223 [.v (.st 3), .v (.l (.st 0))] (.v (.l (.st 4))) (fun x=>zjx x.1 x.2.1) [zrU] [.sp [.l (.st 4), .i .i64], .inl] (fun _ _=>by kernel_rfl) (fun _ _=>by kernel_rfl)
noncomputable def zk8:FS:=mkF 279 [.v (.st 3), .v (.st 2), .v (.st 4)] (.v .s) (fun x=>zed x.1 x.2.1 x.2.2.1) [] [] (fun _ _=>by kernel_rfl) (fun _ _=>by kernel_rfl)
noncomputable def zj8:FS:=mkF 173 [.v .s, .v (.i .i64)] (.v .b) (fun x=>zc7 x.1 x.2.1) [] [.sp [.i .i64]] (fun _ _=>by kernel_rfl) (fun _ _=>by kernel_rfl)
noncomputable def zoU:FS:=mkF 259 [.v (.l .s), .v .s] (.v (.i .i64)) (fun x=>zhO x.1 x.2.1) [] [.sp [.i .i64]] (fun _ _=>by kernel_rfl) (fun _ _=>by kernel_rfl)
noncomputable def zrM:FS:=mkF 174 [.v (.l .s)] (.v .b) (fun x=>zhH x.1) [zcU,zj8,zoU] [.sp [.i .i64]] (fun _ _=>by kernel_rfl) (fun _ _=>by kernel_rfl)
noncomputable def zib:FS:=mkF 81 [.v (.st 3)] (.v .b) (fun x=>zca x.1) [zj8,zrM,zcU] [.sp [.i .i64]] (fun _ _=>by kernel_rfl) (fun _ _=>by kernel_rfl)
noncomputable def zfk:FS:=mkF 219 [.v (.st 3), .v .s] (.v (.i .i64)) (fun x=>zbj x.1 x.2.1) [] [.sp [.i .i64]] (fun _ _=>by kernel_rfl) (fun _ _=>by kernel_rfl)
noncomputable def zkR:FS:=mkF 230 [.v (.st 3)] (.v (.st 3)) (fun x=>zfn x.1) [] [] (fun _ _=>by kernel_rfl) (fun _ _=>by kernel_rfl)
noncomputable def ztU:FS:=mkF 172 [.v (.st 3), .v .s, .v (.i .i64)] (.v (.st 3)) (fun x=>zgz x.1 x.2.1 x.2.2.1) [zkR,zfk] [] (fun _ _=>by kernel_rfl) (fun _ _=>by kernel_rfl)
noncomputable def zcu:FS:=mkF 89 [.v (.i .i64), .v (.i .i64), .v (.i .i64)] (.v .b) (fun x=>za4 x.1 x.2.1 x.2.2.1) [] [] (fun _ _=>by kernel_rfl) (fun _ _=>by kernel_rfl)
noncomputable def zog:FS:=mkF 176 [.v .s, .v (.i .i64)] (.v .b) (fun x=>zc5 x.1 x.2.1) [zcu] [.sp [.i .i64]] (fun _ _=>by kernel_rfl) (fun _ _=>by kernel_rfl)
noncomputable def zhi:FS:=mkF 261 [.v (.l .s), .v .s] (.v (.i .i64)) (fun x=>zbk x.1 x.2.1) [] [.sp [.i .i64]] (fun _ _=>by kernel_rfl) (fun _ _=>by kernel_rfl)
noncomputable def zdt:FS:=mkF 177 [.v (.l .s), .v .s] (.v .b) (fun x=>zaI x.1 x.2.1) [zhi] [] (fun _ _=>by kernel_rfl) (fun _ _=>by kernel_rfl)
noncomputable def zrO:FS:=mkF 98 [.v (.i .i64)] (.v .b) (fun x=>zjG x.1) [zcu] [] (fun _ _=>by kernel_rfl) (fun _ _=>by kernel_rfl)
noncomputable def zoY:FS:=mkF 83 [.v (.st 3)] (.v .b) (fun x=>zfI x.1) [zog,zcu,zrO,zdt] [.sp [.i .i64], .sp [.i .i64]] (fun _ _=>by kernel_rfl) (fun _ _=>by kernel_rfl)
noncomputable def zdi:FS:=mkH 262 [.v (.l .s), .fn [.s] .b] (.v (.i .i64)) (fun x=>zbg x.1 (fun y=>x.2.1.φ (y,()))) fun x r hp h=>zin (f:=262) (t:=zwP) (by kernel_rfl) (by kernel_rfl) (zw9 (av:=(zg1 tab.av .s)) (fun _=>rfl) h (fun y b hb=>hp.2.1 (y,()) b hb))
noncomputable def zfh:FS:=mkH 178 [.v (.l .s), .fn [.s] .b] (.v .b) (fun x=>zaQ x.1 (fun y=>x.2.1.φ (y,()))) fun x r hp h=>zin (f:=178) (t:=zxp 262) (by kernel_rfl) (by kernel_rfl) (zsV h fun r hr=>zdi.ok x r hp hr)
noncomputable def zly:FS:=mkF 320 [.v (.i .u8)] (.v .b) (fun x=>zfc x.1) [] [] (fun _ _=>by kernel_rfl) (fun _ _=>by kernel_rfl)
noncomputable def zms:FS:=mkF 321 [.v .s, .v (.i .u8)] (.v (.i .i64)) (fun x=>zf3 x.1 x.2.1) [zgW] [] (fun _ _=>by kernel_rfl) (fun _ _=>by kernel_rfl)
noncomputable def zi3:FS:=mkF 263 [.v .s, .v .s] (.v .b) (fun x=>zd7 x.1 x.2.1) [zly,zms] [.sp [.i .i64]] (fun _ _=>by kernel_rfl) (fun _ _=>by kernel_rfl)
noncomputable def zmk:FS:=mkF 180 [.v .s] (.v .b) (fun x=>zeN x.1) [zcu,zi3] [] (fun _ _=>by kernel_rfl) (fun _ _=>by kernel_rfl)
noncomputable def zkZ:FS:=mkF 179 [.v .s] (.v .b) (fun x=>zdq x.1) [zmk] [] (fun _ _=>by kernel_rfl) (fun _ _=>by kernel_rfl)
noncomputable def zkt:FS:=mkP zkZ fun _=>by kernel_rfl
noncomputable def zio:FS:=mkF 84 [.v (.st 3), .v (.st 4)] (.v .b) (fun x=>za3 x.1 x.2.1) [zfh,zkt] [] (fun _ _=>by kernel_rfl) (fun _ _=>by kernel_rfl)
noncomputable def zkL:FS:=mkF 102 [.v (.st 3), .v (.st 5)] (.v .b) (fun x=>zcZ x.1 x.2.1) [zio] [] (fun _ _=>by kernel_rfl) (fun _ _=>by kernel_rfl)
noncomputable def zpk:FS:=mkF 265 [.v (.l (.st 0))] (.v (.l .s)) (fun x=>zfQ x.1) [] [.sp [.i .i64, .l .s]] (fun _ _=>by kernel_rfl) (fun _ _=>by kernel_rfl)
noncomputable def zr1:FS:=mkF 322 [.v .s] (.v .b) (fun x=>zhw x.1) [zcu,zi3] [] (fun _ _=>by kernel_rfl) (fun _ _=>by kernel_rfl)
noncomputable def zpf:FS:=mkF 264 [.v (.l .s)] (.v .b) (fun x=>zfT x.1) [zr1] [.sp [.i .i64]] (fun _ _=>by kernel_rfl) (fun _ _=>by kernel_rfl)
noncomputable def zbX:FS:=mkH 268 [.v (.l (.st 0)), .fn [.st 0] .b] (.v (.i .i64)) (fun x=>zbg x.1 (fun y=>x.2.1.φ (y,()))) fun x r hp h=>zin (f:=268) (t:=zyA 3) (by kernel_rfl) (by kernel_rfl) (zwh (av:=(zg1 tab.av (.st 0))) (cn:=3) (fun _=>⟨_,rfl,rfl⟩) h (fun y b hb=>hp.2.1 (y,()) b hb))
noncomputable def zbD:FS:=mkH 182 [.v (.l (.st 0)), .fn [.st 0] .b] (.v .b) (fun x=>zaQ x.1 (fun y=>x.2.1.φ (y,()))) fun x r hp h=>zin (f:=182) (t:=zxp 268) (by kernel_rfl) (by kernel_rfl) (zsV h fun r hr=>zbX.ok x r hp hr)
noncomputable def zrH:FS:=mkF 323 [.v .s] (.v .b) (fun x=>zhu x.1) [zi3] [] (fun _ _=>by kernel_rfl) (fun _ _=>by kernel_rfl)
noncomputable def zq6:FS:=mkF 267 [.v .s, .v .b] (.v .b) (fun x=>zgq x.1 x.2.1) [zrH] [] (fun _ _=>by kernel_rfl) (fun _ _=>by kernel_rfl)
end Go.Proofs.YtgobcjbjogkpjaaGreatDoor
end
section
namespace Go.Proofs.YtgobcjbjogkpjaaGreatDoor
open Go.RowKit
set_option maxRecDepth 100000
set_option maxHeartbeats 4000000
noncomputable def zmP:FS:=mkF 266 [.v (.st 0)] (.v .b) (fun x=>zek x.1) [zq6] [] (fun _ _=>by kernel_rfl) (fun _ _=>by kernel_rfl)
noncomputable def zl3:FS:=mkP zmP fun _=>by kernel_rfl
noncomputable def znS:FS:=mkF 181 [.v (.l (.st 0))] (.v .b) (fun x=>zfg x.1) [zpk,zpf,zbD,zl3] [] (fun _ _=>by kernel_rfl) (fun _ _=>by kernel_rfl)
noncomputable def zqh:FS:=mkF 183 [.v (.st 0)] (.v .b) (fun x=>zgD x.1) [] [] (fun _ _=>by kernel_rfl) (fun _ _=>by kernel_rfl)
noncomputable def zpc:FS:=mkP zqh fun _=>by kernel_rfl
noncomputable def ztY:FS:=mkF 85 [.v (.l (.st 0))] (.v .b) (fun x=>ziP x.1) [znS,zbD,zpc] [] (fun _ _=>by kernel_rfl) (fun _ _=>by kernel_rfl)
noncomputable def zgu:FS:=mkF 187 [.v (.st 3), .v (.st 4)] (.v (.st 0)) (fun x=>zbh x.1 x.2.1) [zrn] [] (fun _ _=>by kernel_rfl) (fun _ _=>by kernel_rfl)
noncomputable def zkI:FS:=mkF 186 [.v (.i .i64), .v (.st 0), .rf (.l (.st 6))] (.tu (.cons (.tu .nil) (.cons (.bo (.l (.st 6))) .nil))) (fun x=>zav x.1 x.2.1 x.2.2.1) [] [] (fun _ _=>by kernel_rfl) (fun _ _=>by kernel_rfl)
noncomputable def zgX:FS:=mkF 275 [.v (.st 3), .v .s] (.v .s) (fun x=>zcg x.1 x.2.1) [] [] (fun _ _=>by kernel_rfl) (fun _ _=>by kernel_rfl)
noncomputable def zfe:FS:=mkH 292 [.v (.l (.st 2)), .fn [.st 2] .b] (.v (.i .i64)) (fun x=>zbg x.1 (fun y=>x.2.1.φ (y,()))) fun x r hp h=>zin (f:=292) (t:=zyA 3) (by kernel_rfl) (by kernel_rfl) (zwh (av:=(zg1 tab.av (.st 2))) (cn:=3) (fun _=>⟨_,rfl,rfl⟩) h (fun y b hb=>hp.2.1 (y,()) b hb))
noncomputable def zjV:FS:=mkF 293 [.v (.st 2), .rf .s] (.v .b) (fun x=>zeh x.1 x.2.1) [] [] (fun _ _=>by kernel_rfl) (fun _ _=>by kernel_rfl)
noncomputable def zjM:FS:=mkP zjV fun _=>by kernel_rfl
noncomputable def zeU:FS:=mkF 212 [.v (.st 3), .v .s] (.v (.i .i64)) (fun x=>zby x.1 x.2.1) [zfe,zjM] [] (fun _ _=>by kernel_rfl) (fun _ _=>by kernel_rfl)
noncomputable def zgR:FS:=mkF 214 [.v (.st 3), .v .s] (.v (.st 2)) (fun x=>zbr x.1 x.2.1) [zeU] [] (fun _ _=>by kernel_rfl) (fun _ _=>by kernel_rfl)
noncomputable def zhP:FS:=mkF 188 [.v (.st 3), .v .s, .v (.st 4)] (.v .s) (fun x=>zaZ x.1 x.2.1 x.2.2.1) [zgX,zgR] [] (fun _ _=>by kernel_rfl) (fun _ _=>by kernel_rfl)
noncomputable def zrj:FS:=mkF 99 [.v (.i .i64)] (.v .b) (fun x=>zjK x.1) [] [] (fun _ _=>by kernel_rfl) (fun _ _=>by kernel_rfl)
noncomputable def zrm:FS:=mkF 100 [.v (.i .i64)] (.v .b) (fun x=>zjy x.1) [] [] (fun _ _=>by kernel_rfl) (fun _ _=>by kernel_rfl)
noncomputable def zlm:FS:=mkF 87 [.v (.st 3), .v (.st 5)] (.v (.l (.st 6))) (fun x=>zdI x.1 x.2.1) [zrm,zkI,zrj,zhP,zgu] [.sp [.s, .s, .b, .l (.st 6)], .pt, .pt, .sp [.i .i64, .l (.st 6)], .inl, .sp [.s], .pt, .pt] (fun _ _=>by kernel_rfl) (fun _ _=>by kernel_rfl)
noncomputable def zcw:FS:=mkF 353 [.v (.l (.st 0)), .v .s, .fn [.st 0, .s] (.i .i64)] (.tu (.cons (.v (.i .i64)) (.cons (.v .b) .nil))) (fun x=>zaw x.1 x.2.1 (fun y0 y1=>x.2.2.1.φ (y0,y1,()))) [] [.sp [.i .i64, .i .i64]] (fun _ _=>by kernel_rfl) (fun _ _=>by kernel_rfl)
noncomputable def zmA:FS:=mkF 372 [.v .s] (.v .b) (fun x=>zdl x.1) [] [] (fun _ _=>by kernel_rfl) (fun _ _=>by kernel_rfl)
noncomputable def zls:FS:=mkF 355 [.v .s, .v .s] (.v (.i .i64)) (fun x=>zdD x.1 x.2.1) [zmA] [] (fun _ _=>by kernel_rfl) (fun _ _=>by kernel_rfl)
noncomputable def zno:FS:=mkF 354 [.v (.st 0), .v .s] (.v (.i .i64)) (fun x=>zcM x.1 x.2.1) [zls] [] (fun _ _=>by kernel_rfl) (fun _ _=>by kernel_rfl)
noncomputable def zmE:FS:=mkP zno fun _=>by kernel_rfl
noncomputable def zil:FS:=mkF 328 [.v (.l (.st 0)), .v .s] (.tu (.cons (.v (.i .i64)) (.cons (.v .b) .nil))) (fun x=>zb9 x.1 x.2.1) [zcw,zmE] [] (fun _ _=>by kernel_rfl) (fun _ _=>by kernel_rfl)
noncomputable def zlz:FS:=mkF 271 [.v (.l (.st 0)), .v (.st 0)] (.v (.l (.st 0))) (fun x=>zdn x.1 x.2.1) [zil,ze5] [] (fun _ _=>by kernel_rfl) (fun _ _=>by kernel_rfl)
noncomputable def zr2:FS:=mkF 324 [.v .s, .v (.l (.st 0)), .v (.l (.st 7))] (.tu (.cons (.v .s) (.cons (.v .b) (.cons (.v .b) .nil)))) (fun x=>zhq x.1 x.2.1 x.2.2.1) [zil] [.sp [.i .i64]] (fun _ _=>by kernel_rfl) (fun _ _=>by kernel_rfl)
noncomputable def zlH:FS:=mkF 326 [.v .s] (.tu (.cons (.v (.i .i64)) (.cons (.v .b) .nil))) (fun x=>zfa x.1) [zrD] [] (fun _ _=>by kernel_rfl) (fun _ _=>by kernel_rfl)
noncomputable def zn1:FS:=mkF 325 [.v (.st 6), .v .s, .v .b] (.v .b) (fun x=>zfl x.1 x.2.1 x.2.2.1) [zlH,zcu] [] (fun _ _=>by kernel_rfl) (fun _ _=>by kernel_rfl)
noncomputable def zrJ:FS:=mkF 269 [.v (.l (.st 6)), .v (.l (.st 7))] (.tu (.cons (.v (.i .i64)) (.cons (.v .s) (.cons (.v (.l (.st 0))) .nil)))) (fun x=>zjD x.1 x.2.1) [zlz,zr2,zn1,zlH,zr9] [.sp [.i .i64, .l (.st 0)], .inl] (fun _ _=>by kernel_rfl) (fun _ _=>by kernel_rfl)
noncomputable def zu0:FS:=mkF 270 [.v (.l (.st 0)), .v .s] (.v (.st 7)) (fun x=>zjq x.1 x.2.1) [zil] [] (fun _ _=>by kernel_rfl) (fun _ _=>by kernel_rfl)
noncomputable def zq2:FS:=mkF 184 [.v (.l (.st 0)), .v (.l (.st 6))] (.tu (.cons (.v (.l (.st 7))) (.cons (.v (.l (.st 0))) (.cons (.v .b) .nil)))) (fun x=>zjb x.1 x.2.1) [zrJ,zu0] [.sp [.l (.st 7)]] (fun _ _=>by kernel_rfl) (fun _ _=>by kernel_rfl)
noncomputable def zcB:FS:=mkH 140 [.v (.l (.st 0))] (.v (.l (.st 0))) (fun x=>zax x.1) fun x r hp h=>zin (f:=140) (t:=zsn 40 3) (by kernel_rfl) (by kernel_rfl) (znu (bytes:=40) (sz:=3) (av:=(zg1 tab.av (.st 0))) (fun x=>⟨zlD _ x,zf7 (by kernel_rfl) x⟩) h)
noncomputable def zej:FS:=mkH 272 [.v (.l (.st 0)), .fn [.st 0] .b] (.v (.l (.st 0))) (fun x=>ze6 x.1 (fun y=>x.2.1.φ (y,()))) fun x r hp h=>zin (f:=272) (t:=zBh 268 3 true (.mk (.cons (.fld (.fld (.idx (.var 5) (.var 4)) 0 3 true) 0 1 false) (.cons (.fld (.fld (.idx (.var 5) (.var 4)) 0 3 true) 1 1 false) (.cons (.fld (.fld (.idx (.var 5) (.var 4)) 0 3 true) 2 1 false) .nil)))) [(.agg (.fld (.idx (.var 5) (.var 4)) 0 3 true) 3)] (.mk (.cons (.str (ByteArray.mk #[])) (.cons (.str (ByteArray.mk #[])) (.cons (.bool false) .nil))))) (by kernel_rfl) (by kernel_rfl) (zyn (av:=(zg1 tab.av (.st 0))) (fun x=>⟨zlD _ x,zf7 (by kernel_rfl) x,fun _=>⟨_,rfl⟩,fun e=>nomatch e⟩) (by decide) (fun a b c d j ys x tl hj=>by simp [AV.nth,hj,zg1,tAv]) (fun a b c d j ys x hj=>by simp [AV.nth,hj,zg1,tAv]) h (fun i hi=>zbX.ok x i hp hi) (fun y b hb=>hp.2.1 (y,()) b hb))
noncomputable def zpi:FS:=mkF 273 [.v (.st 0)] (.v .b) (fun x=>zia x.1) [] [] (fun _ _=>by kernel_rfl) (fun _ _=>by kernel_rfl)
noncomputable def znV:FS:=mkP zpi fun _=>by kernel_rfl
noncomputable def zrv:FS:=mkF 185 [.v (.l (.st 0)), .v (.l (.st 0))] (.tu (.cons (.v (.l (.st 0))) (.cons (.v .b) .nil))) (fun x=>zhK x.1 x.2.1) [zcB,zej,znV,zlz] [.sp [.i .i64, .l (.st 0)]] (fun _ _=>by kernel_rfl) (fun _ _=>by kernel_rfl)
noncomputable def zt4:FS:=mkF 86 [.v (.l (.st 0)), .v (.l (.st 6))] (.tu (.cons (.v (.l (.st 0))) (.cons (.v .b) .nil))) (fun x=>ziI x.1 x.2.1) [zq2,zrv] [] (fun _ _=>by kernel_rfl) (fun _ _=>by kernel_rfl)
noncomputable def zmo:FS:=mkF 195 [.v (.st 3), .v (.st 5)] (.v .b) (fun x=>zfB x.1 x.2.1) [zmj] [] (fun _ _=>by kernel_rfl) (fun _ _=>by kernel_rfl)
noncomputable def zrs:FS:=mkF 93 [.v (.st 3), .v (.st 5)] (.v .b) (fun x=>zhM x.1 x.2.1) [zib,zmo] [] (fun _ _=>by kernel_rfl) (fun _ _=>by kernel_rfl)
noncomputable def zoK:FS:=mkF 336 [.v .s] (.v .b) (fun x=>zhY x.1) [zcU,zjL] [] (fun _ _=>by kernel_rfl) (fun _ _=>by kernel_rfl)
noncomputable def zoN:FS:=mkF 337 [.v .s] (.v .b) (fun x=>zhR x.1) [zjL] [] (fun _ _=>by kernel_rfl) (fun _ _=>by kernel_rfl)
noncomputable def zrY:FS:=mkF 282 [.v .s, .v .s, .v .b] (.v .b) (fun x=>zhs x.1 x.2.1 x.2.2.1) [zoK,zoN] [] (fun _ _=>by kernel_rfl) (fun _ _=>by kernel_rfl)
noncomputable def zqe:FS:=mkF 196 [.v (.l (.st 0))] (.v .b) (fun x=>zgj x.1) [zrY] [.sp [.i .i64]] (fun _ _=>by kernel_rfl) (fun _ _=>by kernel_rfl)
noncomputable def ziH:FS:=mkF 94 [.v (.l (.st 0))] (.v .b) (fun x=>zcX x.1) [zqe] [.sp [.i .i64]] (fun _ _=>by kernel_rfl) (fun _ _=>by kernel_rfl)
noncomputable def zr3:FS:=mkF 198 [.v (.st 3), .v (.st 5)] (.v (.l (.st 6))) (fun x=>zhv x.1 x.2.1) [zle] [] (fun _ _=>by kernel_rfl) (fun _ _=>by kernel_rfl)
noncomputable def zt5:FS:=mkF 199 [.v (.st 3), .v (.st 2), .v (.st 5)] (.v (.l (.st 6))) (fun x=>zgs x.1 x.2.1 x.2.2.1) [zk8] [.sp [.s], .pt, .pt, .inl] (fun _ _=>by kernel_rfl) (fun _ _=>by kernel_rfl)
noncomputable def ztb:FS:=mkF 96 [.v (.st 3), .v (.st 5)] (.v (.l (.st 6))) (fun x=>ziF x.1 x.2.1) [zr3,zt5] [.sp [.i .i64, .l (.st 6)]] (fun _ _=>by kernel_rfl) (fun _ _=>by kernel_rfl)
noncomputable def zvJ:FS:=mkF 338 [.v (.st 6)] (.v .b) (fun x=>zkq x.1) [zoK,zoN,zcU] [.pt, .inl] (fun _ _=>by kernel_rfl) (fun _ _=>by kernel_rfl)
noncomputable def ztr:FS:=mkF 283 [.v (.l (.st 6))] (.v .b) (fun x=>ziJ x.1) [zvJ] [.sp [.i .i64]] (fun _ _=>by kernel_rfl) (fun _ _=>by kernel_rfl)
noncomputable def zp4:FS:=mkF 361 [.v (.l (.st 0)), .v (.l (.st 7)), .v .s] (.tu (.cons (.v .s) (.cons (.v .b) (.cons (.v .b) .nil)))) (fun x=>zgw x.1 x.2.1 x.2.2.1) [] [.sp [.i .i64], .sp [.i .i64]] (fun _ _=>by kernel_rfl) (fun _ _=>by kernel_rfl)
noncomputable def zt7:FS:=mkF 377 [.v .s] (.v (.i .i64)) (fun x=>zgF x.1) [zcU] [.sp [.i .i64, .i .i64]] (fun _ _=>by kernel_rfl) (fun _ _=>by kernel_rfl)
noncomputable def zoM:FS:=mkF 363 [.v .s] (.tu (.cons (.v (.i .i64)) (.cons (.v .b) .nil))) (fun x=>zh6 x.1) [zt7] [.pt] (fun _ _=>by kernel_rfl) (fun _ _=>by kernel_rfl)
noncomputable def zrX:FS:=mkF 362 [.v (.st 6), .v .s, .v .b] (.v .b) (fun x=>zhD x.1 x.2.1 x.2.2.1) [zoM,zcU] [] (fun _ _=>by kernel_rfl) (fun _ _=>by kernel_rfl)
theorem zoQ: ∀(n:Nat) (xs:HP tab.car [.v (.i .i64)]) (y:RTI tab.car (.v .s)),zxl tab [.v (.i .i64)] xs→((fun x=>zfz n x.1):HP tab.car [.v (.i .i64)]→Option (RTI tab.car (.v .s))) xs=some y→tab.Rt 378 (zk3 tab [.v (.i .i64)] xs) (zud tab (.v .s) y)
 |0,_,_,_,h=>nomatch h
 |n+1,xs,y,hp,h=>zD3 (ps:= [.v (.i .i64)]) (r:=(.v .s)) [mkH 378 [.v (.i .i64)] (.v .s) (fun x=>zfz n x.1) (zoQ n)] [] (φ:=(fun x=>zfz (n+1) x.1)) (fun _ _=>by kernel_rfl) (fun _ _=>by kernel_rfl) xs y hp h
noncomputable def zuv:FS:=mkH 378 [.v (.i .i64)] (.v .s) (fun x=>zlI x.1) (zoQ zEF)
noncomputable def ztM:FS:=mkF 364 [.v (.i .i64)] (.v .s) (fun x=>zkx x.1) [zuv] [] (fun _ _=>by kernel_rfl) (fun _ _=>by kernel_rfl)
noncomputable def zs9:FS:=mkF 339 [.v (.l (.st 6)), .v (.l (.st 7))] (.tu (.cons (.v (.i .i64)) (.cons (.v .s) (.cons (.v (.l (.st 0))) .nil)))) (fun x=>zkm x.1 x.2.1) [zp4,zrX,znH,zoM,ztM] [.sp [.l (.st 0), .i .i64], .inl, .inl] (fun _ _=>by kernel_rfl) (fun _ _=>by kernel_rfl)
noncomputable def ztq:FS:=mkF 340 [.v (.l (.st 0)), .v .s] (.v (.st 7)) (fun x=>ziD x.1 x.2.1) [] [.sp [.i .i64]] (fun _ _=>by kernel_rfl) (fun _ _=>by kernel_rfl)
noncomputable def zrV:FS:=mkF 284 [.v (.l (.st 0)), .v (.l (.st 6))] (.tu (.cons (.v (.l (.st 7))) (.cons (.v (.l (.st 0))) (.cons (.v .b) .nil)))) (fun x=>zjJ x.1 x.2.1) [zs9,ztq] [.sp [.l (.st 7)]] (fun _ _=>by kernel_rfl) (fun _ _=>by kernel_rfl)
noncomputable def zoZ:FS:=mkF 285 [.v (.l (.st 0)), .v (.l (.st 0))] (.v (.l (.st 0))) (fun x=>zfN x.1 x.2.1) [znH] [.sp [.i .i64, .l (.st 0)], .sp [.l (.st 0), .i .i64], .inl] (fun _ _=>by kernel_rfl) (fun _ _=>by kernel_rfl)
noncomputable def zpb:FS:=mkF 197 [.v (.l (.st 0)), .v (.l (.l (.st 6)))] (.tu (.cons (.v (.l (.st 0))) (.cons (.v (.l .b)) (.cons (.v .b) .nil)))) (fun x=>zfM x.1 x.2.1) [ziH,zrV,zoZ,ztr] [.sp [.i .i64], .sp [.l .b, .i .i64, .l (.st 0)], .inl] (fun _ _=>by kernel_rfl) (fun _ _=>by kernel_rfl)
noncomputable def zun:FS:=mkF 95 [.v (.l (.st 0)), .v (.l (.st 6))] (.tu (.cons (.v (.l (.st 0))) (.cons (.v .b) .nil))) (fun x=>zjr x.1 x.2.1) [zpb] [] (fun _ _=>by kernel_rfl) (fun _ _=>by kernel_rfl)
noncomputable def zut:FS:=mkF 19 [.v (.st 3), .v (.l (.st 0)), .v (.st 5)] (.tu (.cons (.v (.l (.st 0))) (.cons (.v .b) (.cons (.v .b) .nil)))) (fun x=>zjl x.1 x.2.1 x.2.2.1) [zrs,ziH,ztb,zun] [] (fun _ _=>by kernel_rfl) (fun _ _=>by kernel_rfl)
noncomputable def zth:FS:=mkF 121 [.v (.st 3), .v .s] (.v .b) (fun x=>ziN x.1 x.2.1) [zoY,zeU] [] (fun _ _=>by kernel_rfl) (fun _ _=>by kernel_rfl)
end Go.Proofs.YtgobcjbjogkpjaaGreatDoor
end
section
namespace Go.Proofs.YtgobcjbjogkpjaaGreatDoor
open Go.RowKit
set_option maxRecDepth 100000
set_option maxHeartbeats 4000000
noncomputable def zgU:FS:=mkF 365 [.v .s, .v .s] (.v .b) (fun x=>zbe x.1 x.2.1) [] [] (fun _ _=>by kernel_rfl) (fun _ _=>by kernel_rfl)
noncomputable def zgS:FS:=mkF 341 [.v .s, .v .s] (.tu (.cons (.v .s) (.cons (.v .b) .nil))) (fun x=>zcb x.1 x.2.1) [zgU] [] (fun _ _=>by kernel_rfl) (fun _ _=>by kernel_rfl)
noncomputable def zi8:FS:=mkF 286 [.v .s, .v .s] (.tu (.cons (.v .s) (.cons (.v .b) .nil))) (fun x=>zdm x.1 x.2.1) [zgS] [] (fun _ _=>by kernel_rfl) (fun _ _=>by kernel_rfl)
noncomputable def zjh:FS:=mkF 360 [.v .s, .v .s] (.tu (.cons (.v .s) (.cons (.v .s) (.cons (.v .b) .nil)))) (fun x=>zcc x.1 x.2.1) [zeX] [] (fun _ _=>by kernel_rfl) (fun _ _=>by kernel_rfl)
noncomputable def zt2:FS:=mkF 333 [.v .s, .v .s] (.tu (.cons (.v .s) (.cons (.v .s) (.cons (.v .b) .nil)))) (fun x=>zfi x.1 x.2.1) [zjh] [] (fun _ _=>by kernel_rfl) (fun _ _=>by kernel_rfl)
noncomputable def zjA:FS:=mkF 276 [.v (.st 3), .v .s, .v .s] (.tu (.cons (.v .s) (.cons (.v .s) (.cons (.v .b) .nil)))) (fun x=>zct x.1 x.2.1 x.2.2.1) [zgX,zi8,zt2,zmk] [] (fun _ _=>by kernel_rfl) (fun _ _=>by kernel_rfl)
noncomputable def zd2:FS:=mkF 189 [.v (.st 3), .v .s, .v (.l (.st 0))] (.v (.l .s)) (fun x=>zbT x.1 x.2.1 x.2.2.1) [zjA] [.sp [.i .i64, .l .s], .inl] (fun _ _=>by kernel_rfl) (fun _ _=>by kernel_rfl)
noncomputable def zqz:FS:=mkF 368 [.v .s, .v .s] (.v (.i .i64)) (fun x=>zgt x.1 x.2.1) [zeX] [] (fun _ _=>by kernel_rfl) (fun _ _=>by kernel_rfl)
noncomputable def zm3:FS:=mkF 342 [.v .s, .v .s, .v (.i .i64), .v (.i .i64)] (.v (.l .s)) (fun x=>zgE x.1 x.2.1 x.2.2.1 x.2.2.2.1) [zok,zqz,zqN] [.pt, .sp [.s, .i .i64, .l .s]] (fun _ _=>by kernel_rfl) (fun _ _=>by kernel_rfl)
noncomputable def zqX:FS:=mkF 287 [.v .s, .v .s] (.v (.l .s)) (fun x=>zff x.1 x.2.1) [zm3] [] (fun _ _=>by kernel_rfl) (fun _ _=>by kernel_rfl)
noncomputable def zk1:FS:=mkF 201 [.v (.st 3), .v (.st 0)] (.tu (.cons (.v (.st 4)) (.cons (.v .b) .nil))) (fun x=>zdp x.1 x.2.1) [zi8,zqX,zio,zgu] [] (fun _ _=>by kernel_rfl) (fun _ _=>by kernel_rfl)
noncomputable def zlf:FS:=mkF 103 [.v (.st 3), .v (.l (.st 0))] (.v (.l (.st 4))) (fun x=>ze7 x.1 x.2.1) [zk1] [.sp [.i .i64, .l (.st 4)], .inl] (fun _ _=>by kernel_rfl) (fun _ _=>by kernel_rfl)
noncomputable def zh3:FS:=mkF 278 [.v (.st 3), .v .s, .v (.l (.st 0))] (.v (.l .s)) (fun x=>zcx x.1 x.2.1 x.2.2.1) [zlf,zhP] [.sp [.i .i64, .l .s]] (fun _ _=>by kernel_rfl) (fun _ _=>by kernel_rfl)
noncomputable def zd3:FS:=mkH 294 [.v (.l .s)] (.v (.l .s)) (fun x=>zaX x.1) fun x r hp h=>zin (f:=294) (t:=zsn 16 1) (by kernel_rfl) (by kernel_rfl) (znu (bytes:=16) (sz:=1) (av:=(zg1 tab.av .s)) (fun x=>⟨zlD _ x,zf7 (by kernel_rfl) x⟩) h)
noncomputable def zfF:FS:=mkH 334 [.v (.l .s), .fn [.s] .b] (.v (.l .s)) (fun x=>ze6 x.1 (fun y=>x.2.1.φ (y,()))) fun x r hp h=>zin (f:=334) (t:=zBh 262 1 false (.fld (.idx (.var 5) (.var 4)) 0 1 false) [] (.str (ByteArray.mk #[]))) (by kernel_rfl) (by kernel_rfl) (zyn (av:=(zg1 tab.av .s)) (fun x=>⟨zlD _ x,zf7 (by kernel_rfl) x,(fun e=>nomatch e),fun _=>rfl⟩) (by decide) (fun a b c d j ys x tl hj=>by simp [AV.nth,hj,zg1,tAv]) (fun a b c d j ys x hj=>by simp [AV.nth,hj,zg1,tAv]) h (fun i hi=>zdi.ok x i hp hi) (fun y b hb=>hp.2.1 (y,()) b hb))
noncomputable def zo3:FS:=mkF 335 [.v .s, .rf (.l .s)] (.v .b) (fun x=>zim x.1 x.2.1) [zdt] [] (fun _ _=>by kernel_rfl) (fun _ _=>by kernel_rfl)
noncomputable def znU:FS:=mkP zo3 fun _=>by kernel_rfl
noncomputable def zmh:FS:=mkF 277 [.v (.l .s), .v (.l .s)] (.v (.l .s)) (fun x=>zfC x.1 x.2.1) [zd3,zfF,znU] [] (fun _ _=>by kernel_rfl) (fun _ _=>by kernel_rfl)
noncomputable def zj1:FS:=mkF 190 [.v (.st 3), .v .s, .v (.l (.st 0))] (.v (.l .s)) (fun x=>zcK x.1 x.2.1 x.2.2.1) [zd2,zh3,zmh] [] (fun _ _=>by kernel_rfl) (fun _ _=>by kernel_rfl)
noncomputable def zk5:FS:=mkF 191 [.v (.st 3), .v .s, .v (.l (.st 0))] (.v (.l .s)) (fun x=>zeT x.1 x.2.1 x.2.2.1) [zh3,zd2,zmh] [] (fun _ _=>by kernel_rfl) (fun _ _=>by kernel_rfl)
noncomputable def zk2:FS:=mkF 90 [.v (.st 3), .v .s, .v (.i .i64), .v (.l (.st 0))] (.v .b) (fun x=>zdo x.1 x.2.1 x.2.2.1 x.2.2.2.1) [zd2,zj1,zk5] [] (fun _ _=>by kernel_rfl) (fun _ _=>by kernel_rfl)
noncomputable def zlo:FS:=mkF 202 [.v (.st 3), .v .s, .v (.l (.st 0))] (.v .b) (fun x=>zdk x.1 x.2.1 x.2.2.1) [zib,zfk,ziH] [] (fun _ _=>by kernel_rfl) (fun _ _=>by kernel_rfl)
noncomputable def zmF:FS:=mkF 343 [.v (.st 3), .v .s, .v .s] (.tu (.cons (.v .s) (.cons (.v .s) (.cons (.v .b) .nil)))) (fun x=>zeq x.1 x.2.1 x.2.2.1) [zmn,zlc] [] (fun _ _=>by kernel_rfl) (fun _ _=>by kernel_rfl)
noncomputable def zhm:FS:=mkF 288 [.v (.st 3), .v .s, .v (.l (.st 0))] (.v (.l .s)) (fun x=>zea x.1 x.2.1 x.2.2.1) [zmF] [.sp [.l .s, .i .i64], .inl] (fun _ _=>by kernel_rfl) (fun _ _=>by kernel_rfl)
noncomputable def zkU:FS:=mkF 226 [.v (.st 3), .v .s, .v (.l (.st 0))] (.v (.l .s)) (fun x=>zeI x.1 x.2.1 x.2.2.1) [zrr,zfk,zk8] [.sp [.l .s, .i .i64]] (fun _ _=>by kernel_rfl) (fun _ _=>by kernel_rfl)
noncomputable def zmf:FS:=mkF 344 [.v (.l .s), .v (.l .s)] (.v (.l .s)) (fun x=>zhF x.1 x.2.1) [zoU] [.sp [.l .s, .i .i64], .inl] (fun _ _=>by kernel_rfl) (fun _ _=>by kernel_rfl)
noncomputable def zoW:FS:=mkF 289 [.v (.st 3), .v .s, .v (.l (.st 0))] (.tu (.cons (.v (.l .s)) (.cons (.v .b) .nil))) (fun x=>zij x.1 x.2.1 x.2.2.1) [zlo,zhm,zkU,zmf] [] (fun _ _=>by kernel_rfl) (fun _ _=>by kernel_rfl)
noncomputable def zrA:FS:=mkF 290 [.v (.st 3), .v .s, .v (.l (.st 0))] (.tu (.cons (.v (.l .s)) (.cons (.v .b) .nil))) (fun x=>zjw x.1 x.2.1 x.2.2.1) [zlo,zkU,zhm,zmf] [] (fun _ _=>by kernel_rfl) (fun _ _=>by kernel_rfl)
noncomputable def zqW:FS:=mkF 203 [.v (.st 3), .v .s, .v (.i .i64), .v (.l (.st 0))] (.v .b) (fun x=>zgh x.1 x.2.1 x.2.2.1 x.2.2.2.1) [zhm,zoW,zrA] [] (fun _ _=>by kernel_rfl) (fun _ _=>by kernel_rfl)
noncomputable def ztx:FS:=mkF 142 [.v (.st 3), .v .s, .v (.i .i64)] (.v (.l (.st 3))) (fun x=>ziL x.1 x.2.1 x.2.2.1) [zkR,zfk,ztU] [.sp [.i .i64, .l (.st 3)], .inl] (fun _ _=>by kernel_rfl) (fun _ _=>by kernel_rfl)
noncomputable def zvp:FS:=mkF 229 [.v (.l (.i .i64))] (.v (.l (.i .i64))) (fun x=>zju x.1) [] [] (fun _ _=>by kernel_rfl) (fun _ _=>by kernel_rfl)
noncomputable def zna:FS:=mkF 137 [.v (.st 8)] (.v (.st 8)) (fun x=>zgH x.1) [zvp,zkR] [.sp [.i .i64, .l (.st 3)]] (fun _ _=>by kernel_rfl) (fun _ _=>by kernel_rfl)
noncomputable def zpl:FS:=mkF 208 [.v (.st 8)] (.v (.l (.i .i64))) (fun x=>zfU x.1) [zfk] [.sp [.l (.i .i64), .i .i64]] (fun _ _=>by kernel_rfl) (fun _ _=>by kernel_rfl)
noncomputable def zu4:FS:=mkF 209 [.v (.l (.i .i64)), .v (.i .i64)] (.v .b) (fun x=>zh0 x.1 x.2.1) [] [.sp [.i .i64]] (fun _ _=>by kernel_rfl) (fun _ _=>by kernel_rfl)
noncomputable def zrx:FS:=mkF 116 [.v (.st 8)] (.v (.i .i64)) (fun x=>zhI x.1) [zpl,zu4] [] (fun _ _=>by kernel_rfl) (fun _ _=>by kernel_rfl)
end Go.Proofs.YtgobcjbjogkpjaaGreatDoor
end
section
namespace Go.Proofs.YtgobcjbjogkpjaaGreatDoor
open Go.RowKit
set_option maxRecDepth 100000
set_option maxHeartbeats 4000000
noncomputable def zes:FS:=mkH 211 [.v (.l (.st 3)), .fn [.st 3] .b] (.v (.i .i64)) (fun x=>zbg x.1 (fun y=>x.2.1.φ (y,()))) fun x r hp h=>zin (f:=211) (t:=zyA 3) (by kernel_rfl) (by kernel_rfl) (zwh (av:=(zg1 tab.av (.st 3))) (cn:=3) (fun _=>⟨_,rfl,rfl⟩) h (fun y b hb=>hp.2.1 (y,()) b hb))
noncomputable def zdW:FS:=mkH 119 [.v (.l (.st 3)), .fn [.st 3] .b] (.v .b) (fun x=>zaQ x.1 (fun y=>x.2.1.φ (y,()))) fun x r hp h=>zin (f:=119) (t:=zxp 211) (by kernel_rfl) (by kernel_rfl) (zsV h fun r hr=>zes.ok x r hp hr)
noncomputable def znC:FS:=mkF 120 [.v (.st 3), .rf (.st 8)] (.v .b) (fun x=>zgk x.1 x.2.1) [zth] [] (fun _ _=>by kernel_rfl) (fun _ _=>by kernel_rfl)
noncomputable def zmC:FS:=mkP znC fun _=>by kernel_rfl
noncomputable def zii:FS:=mkH 213 [.v (.l (.i .i64)), .fn [.i .i64] .b] (.v (.i .i64)) (fun x=>zbg x.1 (fun y=>x.2.1.φ (y,()))) fun x r hp h=>zin (f:=213) (t:=zwP) (by kernel_rfl) (by kernel_rfl) (zw9 (av:=(zg1 tab.av (.i .i64))) (fun _=>rfl) h (fun y b hb=>hp.2.1 (y,()) b hb))
noncomputable def zgV:FS:=mkH 122 [.v (.l (.i .i64)), .fn [.i .i64] .b] (.v .b) (fun x=>zaQ x.1 (fun y=>x.2.1.φ (y,()))) fun x r hp h=>zin (f:=122) (t:=zxp 213) (by kernel_rfl) (by kernel_rfl) (zsV h fun r hr=>zii.ok x r hp hr)
noncomputable def zm7:FS:=mkF 123 [.v (.i .i64), .rf (.st 8)] (.v .b) (fun x=>zgI x.1 x.2.1) [zcu] [] (fun _ _=>by kernel_rfl) (fun _ _=>by kernel_rfl)
noncomputable def zmX:FS:=mkP zm7 fun _=>by kernel_rfl
noncomputable def zgY:FS:=mkF 126 [.v (.st 8), .v (.st 3)] (.v (.i .i64)) (fun x=>zbu x.1 x.2.1) [zgR] [] (fun _ _=>by kernel_rfl) (fun _ _=>by kernel_rfl)
noncomputable def zf4:FS:=mkH 295 [.v (.l (.st 2))] (.v (.l (.st 2))) (fun x=>zbJ x.1) fun x r hp h=>zin (f:=295) (t:=zsn 32 3) (by kernel_rfl) (by kernel_rfl) (znu (bytes:=32) (sz:=3) (av:=(zg1 tab.av (.st 2))) (fun x=>⟨zlD _ x,zf7 (by kernel_rfl) x⟩) h)
noncomputable def zh7:FS:=mkF 215 [.v (.st 3)] (.v (.st 3)) (fun x=>zdz x.1) [zd3,zf4] [] (fun _ _=>by kernel_rfl) (fun _ _=>by kernel_rfl)
noncomputable def zkg:FS:=mkF 216 [.v (.st 3), .v .s, .v (.i .i64)] (.v (.st 3)) (fun x=>zbS x.1 x.2.1 x.2.2.1) [zh7,zeU] [] (fun _ _=>by kernel_rfl) (fun _ _=>by kernel_rfl)
noncomputable def zl7:FS:=mkF 125 [.v (.st 3), .v .s, .v (.i .i64)] (.v (.l (.st 3))) (fun x=>zdY x.1 x.2.1 x.2.2.1) [zgR,zh7,zkg] [.sp [.i .i64, .l (.st 3)], .inl] (fun _ _=>by kernel_rfl) (fun _ _=>by kernel_rfl)
noncomputable def zbI:FS:=mkF 124 [.v (.l (.st 3)), .v (.l (.st 3)), .fn [.st 3, .st 3] .b] (.v .b) (fun x=>zak x.1 x.2.1 (fun y0 y1=>x.2.2.1.φ (y0,y1,()))) [] [.sp [.i .i64]] (fun _ _=>by kernel_rfl) (fun _ _=>by kernel_rfl)
noncomputable def zhh:FS:=mkF 217 [.v (.l .s), .v (.l .s)] (.v .b) (fun x=>zbi x.1 x.2.1) [] [.sp [.i .i64]] (fun _ _=>by kernel_rfl) (fun _ _=>by kernel_rfl)
noncomputable def zf0:FS:=mkF 218 [.v (.l (.st 2)), .v (.l (.st 2))] (.v .b) (fun x=>za1 x.1 x.2.1) [] [.sp [.i .i64]] (fun _ _=>by kernel_rfl) (fun _ _=>by kernel_rfl)
noncomputable def zpe:FS:=mkF 127 [.v (.st 3), .v (.st 3)] (.v .b) (fun x=>zb8 x.1 x.2.1) [zhh,zf0] [] (fun _ _=>by kernel_rfl) (fun _ _=>by kernel_rfl)
noncomputable def znR:FS:=mkP zpe fun _=>by kernel_rfl
noncomputable def zo0:FS:=mkF 43 [.v (.st 8)] (.v .b) (fun x=>zfR x.1) [zcu,ztY,zdW,zmC,zgV,zmX,zgY,zl7,zbI,znR] [] (fun _ _=>by kernel_rfl) (fun _ _=>by kernel_rfl)
noncomputable def zfv:FS:=mkF 204 [.v (.st 8), .v (.i .i64)] (.v (.st 3)) (fun x=>zaF x.1 x.2.1) [] [] (fun _ _=>by kernel_rfl) (fun _ _=>by kernel_rfl)
noncomputable def ztJ:FS:=mkF 222 [.v (.st 5)] (.v .b) (fun x=>zkE x.1) [] [] (fun _ _=>by kernel_rfl) (fun _ _=>by kernel_rfl)
noncomputable def zjB:FS:=mkF 130 [.v (.st 8), .v (.st 9)] (.v .b) (fun x=>zbA x.1 x.2.1) [zcu,zfv,zkL,ztJ] [] (fun _ _=>by kernel_rfl) (fun _ _=>by kernel_rfl)
noncomputable def zjO:FS:=mkH 228 [.v (.l (.i .i64))] (.v (.l (.i .i64))) (fun x=>zdR x.1) fun x r hp h=>zin (f:=228) (t:=zsn 8 1) (by kernel_rfl) (by kernel_rfl) (znu (bytes:=8) (sz:=1) (av:=(zg1 tab.av (.i .i64))) (fun x=>⟨zlD _ x,zf7 (by kernel_rfl) x⟩) h)
noncomputable def zkY:FS:=mkF 135 [.v (.st 8)] (.v (.st 8)) (fun x=>zeB x.1) [zjO,zcB,zh7] [.sp [.i .i64, .l (.st 3)]] (fun _ _=>by kernel_rfl) (fun _ _=>by kernel_rfl)
noncomputable def zja:FS:=mkF 106 [.v (.st 8), .v (.st 9)] (.tu (.cons (.v (.st 8)) (.cons (.v .b) .nil))) (fun x=>zbF x.1 x.2.1) [zkY,zcu,zfv,zlm,zt4] [] (fun _ _=>by kernel_rfl) (fun _ _=>by kernel_rfl)
noncomputable def zm0:FS:=mkF 220 [.v (.st 3), .v (.st 3)] (.v .b) (fun x=>ze0 x.1 x.2.1) [] [.sp [.i .i64], .sp [.i .i64]] (fun _ _=>by kernel_rfl) (fun _ _=>by kernel_rfl)
noncomputable def zsS:FS:=mkF 296 [.v (.i .i64), .v (.i .i64)] (.v (.i .i64)) (fun x=>ziA x.1 x.2.1) [] [] (fun _ _=>by kernel_rfl) (fun _ _=>by kernel_rfl)
noncomputable def ztR:FS:=mkF 221 [.v (.st 3), .v (.st 3)] (.v (.i .i64)) (fun x=>ziu x.1 x.2.1) [zsS] [.sp [.i .i64, .i .i64]] (fun _ _=>by kernel_rfl) (fun _ _=>by kernel_rfl)
noncomputable def zrS:FS:=mkF 128 [.v (.st 8)] (.v .b) (fun x=>zeQ x.1) [zcU,zib,zfk,ztx,zm0,ztR] [.sp [.i .i64]] (fun _ _=>by kernel_rfl) (fun _ _=>by kernel_rfl)
noncomputable def zuG:FS:=mkF 129 [.v (.l (.i .i64)), .v (.i .i64), .v (.i .i64)] (.v .b) (fun x=>zjp x.1 x.2.1 x.2.2.1) [zcU] [.sp [.i .i64]] (fun _ _=>by kernel_rfl) (fun _ _=>by kernel_rfl)
noncomputable def zpd:FS:=mkF 44 [.v (.st 8)] (.v .b) (fun x=>zfV x.1) [zrS,zcU,zuG,ziH] [] (fun _ _=>by kernel_rfl) (fun _ _=>by kernel_rfl)
noncomputable def zp3:FS:=mkF 291 [.v (.st 5)] (.v .b) (fun x=>zlF x.1) [] [] (fun _ _=>by kernel_rfl) (fun _ _=>by kernel_rfl)
noncomputable def zrT:FS:=mkF 205 [.v (.st 8), .v (.st 9)] (.v .b) (fun x=>zfE x.1 x.2.1) [zcU,zp3,zmo] [] (fun _ _=>by kernel_rfl) (fun _ _=>by kernel_rfl)
noncomputable def zoI:FS:=mkF 108 [.v (.st 8), .v (.st 9)] (.tu (.cons (.v (.st 8)) (.cons (.v .b) .nil))) (fun x=>zfd x.1 x.2.1) [zna,zcU,zut] [] (fun _ _=>by kernel_rfl) (fun _ _=>by kernel_rfl)
noncomputable def zkD:FS:=mkF 206 [.v (.l (.i .i64))] (.v (.i .i64)) (fun x=>zcY x.1) [] [.sp [.i .i64, .i .i64]] (fun _ _=>by kernel_rfl) (fun _ _=>by kernel_rfl)
noncomputable def zkl:FS:=mkF 207 [.v (.l (.i .i64))] (.v (.i .i64)) (fun x=>zc2 x.1) [] [.sp [.i .i64, .i .i64]] (fun _ _=>by kernel_rfl) (fun _ _=>by kernel_rfl)
noncomputable def zky:FS:=mkF 113 [.v (.st 8)] (.v .b) (fun x=>zcW x.1) [zkD,zkl] [] (fun _ _=>by kernel_rfl) (fun _ _=>by kernel_rfl)
noncomputable def zmI:FS:=mkF 115 [.v (.st 8)] (.v (.i .i64)) (fun x=>zep x.1) [zfv,zgY] [.sp [.i .i64, .i .i64], .inl] (fun _ _=>by kernel_rfl) (fun _ _=>by kernel_rfl)
noncomputable def zlE:FS:=mkF 111 [.v (.st 8)] (.v .b) (fun x=>zcz x.1) [zmI,zk2] [] (fun _ _=>by kernel_rfl) (fun _ _=>by kernel_rfl)
noncomputable def zm9:FS:=mkF 109 [.v (.st 8), .v (.st 9)] (.v .b) (fun x=>zeZ x.1 x.2.1) [zja,zky,zlE] [] (fun _ _=>by kernel_rfl) (fun _ _=>by kernel_rfl)
noncomputable def zqV:FS:=mkF 114 [.v (.l (.i .i64))] (.v .b) (fun x=>zgJ x.1) [] [.sp [.i .i64], .sp [.i .i64]] (fun _ _=>by kernel_rfl) (fun _ _=>by kernel_rfl)
noncomputable def zr0:FS:=mkF 112 [.v (.st 8)] (.v .b) (fun x=>zfA x.1) [zrx,zqW] [] (fun _ _=>by kernel_rfl) (fun _ _=>by kernel_rfl)
noncomputable def zuc:FS:=mkF 110 [.v (.st 8), .v (.st 9)] (.v .b) (fun x=>ziO x.1 x.2.1) [zoI,zqV,zr0] [] (fun _ _=>by kernel_rfl) (fun _ _=>by kernel_rfl)
end Go.Proofs.YtgobcjbjogkpjaaGreatDoor
end
section
namespace Go.Proofs.YtgobcjbjogkpjaaGreatDoor
open Go.RowKit
set_option maxRecDepth 100000
set_option maxHeartbeats 4000000
noncomputable def zkX:FS:=mkF 300 [.v (.l .s), .v (.i .i64)] (.v (.i .i64)) (fun x=>zex x.1 x.2.1) [] [.sp [.i .i64, .i .i64]] (fun _ _=>by kernel_rfl) (fun _ _=>by kernel_rfl)
noncomputable def zux:FS:=mkF 346 [.v (.st 2), .v (.i .i64)] (.v (.i .i64)) (fun x=>zjs x.1 x.2.1) [] [] (fun _ _=>by kernel_rfl) (fun _ _=>by kernel_rfl)
noncomputable def zs1:FS:=mkF 301 [.v (.l (.st 2)), .v (.i .i64)] (.v (.i .i64)) (fun x=>ziw x.1 x.2.1) [zux] [.sp [.i .i64, .i .i64]] (fun _ _=>by kernel_rfl) (fun _ _=>by kernel_rfl)
noncomputable def zry:FS:=mkF 231 [.v (.st 3), .v (.i .i64)] (.v (.i .i64)) (fun x=>zhL x.1 x.2.1) [zkX,zs1] [] (fun _ _=>by kernel_rfl) (fun _ _=>by kernel_rfl)
noncomputable def zq9:FS:=mkF 143 [.v (.l (.st 3)), .v (.i .i64)] (.v (.i .i64)) (fun x=>zgg x.1 x.2.1) [zry] [.sp [.i .i64, .i .i64]] (fun _ _=>by kernel_rfl) (fun _ _=>by kernel_rfl)
noncomputable def ztP:FS:=mkF 144 [.v (.l (.i .i64)), .v (.i .i64)] (.v (.i .i64)) (fun x=>ziC x.1 x.2.1) [] [] (fun _ _=>by kernel_rfl) (fun _ _=>by kernel_rfl)
noncomputable def zrG:FS:=mkF 232 [.v (.st 0), .v (.i .i64)] (.v (.i .i64)) (fun x=>zhz x.1 x.2.1) [] [] (fun _ _=>by kernel_rfl) (fun _ _=>by kernel_rfl)
noncomputable def zq1:FS:=mkF 145 [.v (.l (.st 0)), .v (.i .i64)] (.v (.i .i64)) (fun x=>zgn x.1 x.2.1) [zrG] [.sp [.i .i64, .i .i64]] (fun _ _=>by kernel_rfl) (fun _ _=>by kernel_rfl)
noncomputable def zrF:FS:=mkF 53 [.v (.st 8), .v (.i .i64)] (.v (.i .i64)) (fun x=>zhJ x.1 x.2.1) [zq9,ztP,zq1] [] (fun _ _=>by kernel_rfl) (fun _ _=>by kernel_rfl)
noncomputable def zvb:FS:=mkF 302 [.v (.st 4), .v (.i .i64)] (.v (.i .i64)) (fun x=>zh4 x.1 x.2.1) [zkX] [] (fun _ _=>by kernel_rfl) (fun _ _=>by kernel_rfl)
noncomputable def zpP:FS:=mkF 233 [.v (.st 5), .v (.i .i64)] (.v (.i .i64)) (fun x=>zgp x.1 x.2.1) [zvb] [] (fun _ _=>by kernel_rfl) (fun _ _=>by kernel_rfl)
noncomputable def znW:FS:=mkF 146 [.v (.st 9), .v (.i .i64)] (.v (.i .i64)) (fun x=>zfo x.1 x.2.1) [zpP] [] (fun _ _=>by kernel_rfl) (fun _ _=>by kernel_rfl)
noncomputable def znj:FS:=mkF 54 [.v (.l (.st 9)), .v (.i .i64)] (.v (.i .i64)) (fun x=>zeY x.1 x.2.1) [znW] [.sp [.i .i64, .i .i64]] (fun _ _=>by kernel_rfl) (fun _ _=>by kernel_rfl)
noncomputable def zkW:FS:=mkF 303 [.v (.l .s)] (.v (.l .s)) (fun x=>zeG x.1) [] [.sp [.i .i64, .l .s]] (fun _ _=>by kernel_rfl) (fun _ _=>by kernel_rfl)
noncomputable def zu5:FS:=mkF 347 [.v (.st 2)] (.v (.st 2)) (fun x=>zla x.1) [] [] (fun _ _=>by kernel_rfl) (fun _ _=>by kernel_rfl)
noncomputable def ztn:FS:=mkF 304 [.v (.l (.st 2))] (.v (.l (.st 2))) (fun x=>zix x.1) [zu5] [.sp [.i .i64, .l (.st 2)]] (fun _ _=>by kernel_rfl) (fun _ _=>by kernel_rfl)
noncomputable def zrq:FS:=mkF 234 [.v (.st 3)] (.v (.st 3)) (fun x=>zht x.1) [zkW,ztn] [] (fun _ _=>by kernel_rfl) (fun _ _=>by kernel_rfl)
noncomputable def zpG:FS:=mkF 147 [.v (.l (.st 3))] (.v (.l (.st 3))) (fun x=>zgy x.1) [zrq] [.sp [.i .i64, .l (.st 3)]] (fun _ _=>by kernel_rfl) (fun _ _=>by kernel_rfl)
noncomputable def zs7:FS:=mkF 148 [.v (.l (.i .i64))] (.v (.l (.i .i64))) (fun x=>ziG x.1) [] [.sp [.i .i64, .l (.i .i64)]] (fun _ _=>by kernel_rfl) (fun _ _=>by kernel_rfl)
noncomputable def zrk:FS:=mkF 235 [.v (.st 0)] (.v (.st 0)) (fun x=>zjN x.1) [] [] (fun _ _=>by kernel_rfl) (fun _ _=>by kernel_rfl)
noncomputable def zqU:FS:=mkF 149 [.v (.l (.st 0))] (.v (.l (.st 0))) (fun x=>zgo x.1) [zrk] [.sp [.i .i64, .l (.st 0)]] (fun _ _=>by kernel_rfl) (fun _ _=>by kernel_rfl)
noncomputable def zr7:FS:=mkF 55 [.v (.st 8)] (.v (.st 8)) (fun x=>zdO x.1) [zpG,zs7,zqU] [] (fun _ _=>by kernel_rfl) (fun _ _=>by kernel_rfl)
noncomputable def zuK:FS:=mkF 305 [.v (.st 4)] (.v (.st 4)) (fun x=>zh1 x.1) [zkW] [] (fun _ _=>by kernel_rfl) (fun _ _=>by kernel_rfl)
noncomputable def zp9:FS:=mkF 236 [.v (.st 5)] (.v (.st 5)) (fun x=>zgd x.1) [zuK] [] (fun _ _=>by kernel_rfl) (fun _ _=>by kernel_rfl)
noncomputable def znN:FS:=mkF 150 [.v (.st 9)] (.v (.st 9)) (fun x=>zfq x.1) [zp9] [] (fun _ _=>by kernel_rfl) (fun _ _=>by kernel_rfl)
noncomputable def zmZ:FS:=mkF 56 [.v (.l (.st 9))] (.v (.l (.st 9))) (fun x=>zb0 x.1) [znN] [.sp [.i .i64, .l (.st 9)]] (fun _ _=>by kernel_rfl) (fun _ _=>by kernel_rfl)
noncomputable def zrL:FS:=mkF 136 [.v (.st 8), .v (.l (.st 9)), .v .b] (.tu (.cons (.v (.st 8)) (.cons (.v (.l .b)) .nil))) (fun x=>zjz x.1 x.2.1 x.2.2.1) [zrT,zoI,zuc] [.sp [.l .b, .i .i64, .s, .l (.st 3), .l (.i .i64), .l (.st 0)], .inl] (fun _ _=>by kernel_rfl) (fun _ _=>by kernel_rfl)
noncomputable def zo8:FS:=mkF 48 [.v (.st 8), .v (.l (.st 9)), .v .b] (.tu (.cons (.v (.st 8)) (.cons (.v (.l .b)) (.cons (.v .b) .nil)))) (fun x=>zfL x.1 x.2.1 x.2.2.1) [zpd,zna,zrL] [] (fun _ _=>by kernel_rfl) (fun _ _=>by kernel_rfl)
noncomputable def zo1:FS:=mkF 47 [.v (.st 8), .v (.l (.st 9)), .v .b] (.tu (.cons (.v (.st 8)) (.cons (.v (.l .b)) (.cons (.v .b) .nil)))) (fun x=>zeK x.1 x.2.1 x.2.2.1) [zo0,zkY,zjB,zm9,zja] [.sp [.i .i64, .s, .l (.st 3), .l (.i .i64), .l (.st 0), .l .b], .inl] (fun _ _=>by kernel_rfl) (fun _ _=>by kernel_rfl)
noncomputable def zkV:FS:=mkF 306 [.v (.l .s), .v (.l .s)] (.v .b) (fun x=>zeE x.1 x.2.1) [] [.sp [.i .i64]] (fun _ _=>by kernel_rfl) (fun _ _=>by kernel_rfl)
noncomputable def zuH:FS:=mkF 348 [.v (.st 2), .v (.st 2)] (.v .b) (fun x=>zjo x.1 x.2.1) [] [] (fun _ _=>by kernel_rfl) (fun _ _=>by kernel_rfl)
noncomputable def ztw:FS:=mkF 307 [.v (.l (.st 2)), .v (.l (.st 2))] (.v .b) (fun x=>ziK x.1 x.2.1) [zuH] [.sp [.i .i64]] (fun _ _=>by kernel_rfl) (fun _ _=>by kernel_rfl)
noncomputable def zro:FS:=mkF 237 [.v (.st 3), .v (.st 3)] (.v .b) (fun x=>zhG x.1 x.2.1) [zkV,ztw] [] (fun _ _=>by kernel_rfl) (fun _ _=>by kernel_rfl)
noncomputable def zqK:FS:=mkF 151 [.v (.l (.st 3)), .v (.l (.st 3))] (.v .b) (fun x=>zgb x.1 x.2.1) [zro] [.sp [.i .i64]] (fun _ _=>by kernel_rfl) (fun _ _=>by kernel_rfl)
noncomputable def ztl:FS:=mkF 152 [.v (.l (.i .i64)), .v (.l (.i .i64))] (.v .b) (fun x=>ziy x.1 x.2.1) [] [.sp [.i .i64]] (fun _ _=>by kernel_rfl) (fun _ _=>by kernel_rfl)
noncomputable def zr8:FS:=mkF 238 [.v (.st 0), .v (.st 0)] (.v .b) (fun x=>zhy x.1 x.2.1) [] [] (fun _ _=>by kernel_rfl) (fun _ _=>by kernel_rfl)
noncomputable def zpN:FS:=mkF 153 [.v (.l (.st 0)), .v (.l (.st 0))] (.v .b) (fun x=>zgM x.1 x.2.1) [zr8] [.sp [.i .i64]] (fun _ _=>by kernel_rfl) (fun _ _=>by kernel_rfl)
noncomputable def zrN:FS:=mkF 57 [.v (.st 8), .v (.st 8)] (.v .b) (fun x=>zdU x.1 x.2.1) [zqK,ztl,zpN] [] (fun _ _=>by kernel_rfl) (fun _ _=>by kernel_rfl)
noncomputable def zrR:FS:=mkF 58 [.v (.l .b), .v (.l .b)] (.v .b) (fun x=>zeO x.1 x.2.1) [] [.sp [.i .i64]] (fun _ _=>by kernel_rfl) (fun _ _=>by kernel_rfl)
noncomputable def zvz:FS:=mkF 308 [.v (.st 4), .v (.st 4)] (.v .b) (fun x=>zh5 x.1 x.2.1) [zkV] [] (fun _ _=>by kernel_rfl) (fun _ _=>by kernel_rfl)
noncomputable def zqY:FS:=mkF 239 [.v (.st 5), .v (.st 5)] (.v .b) (fun x=>zga x.1 x.2.1) [zvz] [] (fun _ _=>by kernel_rfl) (fun _ _=>by kernel_rfl)
noncomputable def zn2:FS:=mkF 154 [.v (.st 9), .v (.st 9)] (.v .b) (fun x=>zfj x.1 x.2.1) [zqY] [] (fun _ _=>by kernel_rfl) (fun _ _=>by kernel_rfl)
noncomputable def znv:FS:=mkF 59 [.v (.l (.st 9)), .v (.l (.st 9))] (.v .b) (fun x=>zeW x.1 x.2.1) [zn2] [.sp [.i .i64]] (fun _ _=>by kernel_rfl) (fun _ _=>by kernel_rfl)
noncomputable def zcC:FS:=mkF 240 [.v (.i .i64)] (.v .s) (fun x=>zaE x.1) [] [.sp [.i .i64, .s]] (fun _ _=>by kernel_rfl) (fun _ _=>by kernel_rfl)
noncomputable def zjv:FS:=mkF 158 [.v (.l .s), .v (.i .i64)] (.tu (.cons (.v (.i .i64)) (.cons (.v (.l .s)) .nil))) (fun x=>zdC x.1 x.2.1) [zcC] [.sp [.i .i64, .i .i64, .l .s]] (fun _ _=>by kernel_rfl) (fun _ _=>by kernel_rfl)
noncomputable def zqm:FS:=mkF 241 [.v (.l (.st 2)), .v (.i .i64)] (.tu (.cons (.v (.i .i64)) (.cons (.v (.l (.st 2))) .nil))) (fun x=>zi7 x.1 x.2.1) [zcC] [.sp [.i .i64, .i .i64, .l (.st 2)]] (fun _ _=>by kernel_rfl) (fun _ _=>by kernel_rfl)
noncomputable def zos:FS:=mkF 155 [.v (.l (.st 3)), .v (.i .i64)] (.tu (.cons (.v (.i .i64)) (.cons (.v (.l (.st 3))) .nil))) (fun x=>zhk x.1 x.2.1) [zcC,zjv,zqm] [.sp [.i .i64, .i .i64, .l (.st 3)]] (fun _ _=>by kernel_rfl) (fun _ _=>by kernel_rfl)
noncomputable def zrd:FS:=mkF 156 [.v (.l (.i .i64)), .v (.i .i64)] (.tu (.cons (.v (.i .i64)) (.cons (.v (.l (.i .i64))) .nil))) (fun x=>ziX x.1 x.2.1) [] [.sp [.i .i64, .i .i64, .l (.i .i64)]] (fun _ _=>by kernel_rfl) (fun _ _=>by kernel_rfl)
noncomputable def zop:FS:=mkF 157 [.v (.l (.st 0)), .v (.i .i64)] (.tu (.cons (.v (.i .i64)) (.cons (.v (.l (.st 0))) .nil))) (fun x=>zg8 x.1 x.2.1) [zcC] [.sp [.i .i64, .i .i64, .l (.st 0)]] (fun _ _=>by kernel_rfl) (fun _ _=>by kernel_rfl)
noncomputable def zpj:FS:=mkF 60 [.v (.st 8), .v (.i .i64)] (.tu (.cons (.v (.i .i64)) (.cons (.v (.st 8)) .nil))) (fun x=>zeD x.1 x.2.1) [zos,zrd,zop] [] (fun _ _=>by kernel_rfl) (fun _ _=>by kernel_rfl)
noncomputable def zl5:FS:=mkF 61 [.v (.l (.st 9)), .v (.i .i64)] (.tu (.cons (.v (.i .i64)) (.cons (.v (.l (.st 9))) .nil))) (fun x=>zft x.1 x.2.1) [zjv] [.sp [.i .i64, .i .i64, .l (.st 9)]] (fun _ _=>by kernel_rfl) (fun _ _=>by kernel_rfl)
noncomputable def zo5:FS:=mkF 62 [.v (.l .b), .v (.i .i64)] (.tu (.cons (.v (.i .i64)) (.cons (.v (.l .b)) .nil))) (fun x=>zh9 x.1 x.2.1) [] [.sp [.i .i64, .i .i64, .l .b]] (fun _ _=>by kernel_rfl) (fun _ _=>by kernel_rfl)
noncomputable def znl:FS:=mkF 242 [.v (.l .s), .v (.i .i64)] (.v (.i .i64)) (fun x=>zgA x.1 x.2.1) [zcC] [.sp [.i .i64, .i .i64]] (fun _ _=>by kernel_rfl) (fun _ _=>by kernel_rfl)
noncomputable def zqG:FS:=mkF 243 [.v (.l (.st 2)), .v (.i .i64)] (.v (.i .i64)) (fun x=>zjf x.1 x.2.1) [zcC] [.sp [.i .i64, .i .i64]] (fun _ _=>by kernel_rfl) (fun _ _=>by kernel_rfl)
noncomputable def zoh:FS:=mkF 159 [.v (.l (.st 3)), .v (.i .i64)] (.v (.i .i64)) (fun x=>zg3 x.1 x.2.1) [zcC,znl,zqG] [.sp [.i .i64, .i .i64]] (fun _ _=>by kernel_rfl) (fun _ _=>by kernel_rfl)
noncomputable def zqk:FS:=mkF 160 [.v (.l (.i .i64)), .v (.i .i64)] (.v (.i .i64)) (fun x=>zje x.1 x.2.1) [] [.sp [.i .i64, .i .i64]] (fun _ _=>by kernel_rfl) (fun _ _=>by kernel_rfl)
noncomputable def zoz:FS:=mkF 161 [.v (.l (.st 0)), .v (.i .i64)] (.v (.i .i64)) (fun x=>zhl x.1 x.2.1) [zcC] [.sp [.i .i64, .i .i64]] (fun _ _=>by kernel_rfl) (fun _ _=>by kernel_rfl)
noncomputable def zpa:FS:=mkF 63 [.v (.st 8), .v (.i .i64)] (.v (.i .i64)) (fun x=>zeH x.1 x.2.1) [zoh,zqk,zoz] [] (fun _ _=>by kernel_rfl) (fun _ _=>by kernel_rfl)
noncomputable def zph:FS:=mkF 64 [.v (.l .b), .v (.i .i64)] (.v (.i .i64)) (fun x=>zfO x.1 x.2.1) [] [.sp [.i .i64, .i .i64]] (fun _ _=>by kernel_rfl) (fun _ _=>by kernel_rfl)
noncomputable def zgi:FS:=mkF 10 [.v (.st 8), .v (.l (.st 9)), .v .b] (.v .b) (fun x=>zc0 x.1 x.2.1 x.2.2.1) [zrF,znj,zr7,zmZ,zo8,zo1,zrN,zrR,znv,zpj,zl5,zo5,zpa,zph] [] (fun _ _=>by kernel_rfl) (fun _ _=>by kernel_rfl)
end Go.Proofs.YtgobcjbjogkpjaaGreatDoor
end
section
namespace Go.Proofs.YtgobcjbjogkpjaaGreatDoor
open Go.RowKit
set_option maxRecDepth 100000
theorem zkv (a0:zag) (a1:List zaf) (a2:Bool) (r:Bool) (h:zc0 a0 a1 a2=some r):Rts Tryz.prog sgs 10 [zvX a0, .sl (a1.map zlQ), .bool a2] (.bool r):=zgi.ok (a0,a1,a2,()) r (by simp [zgi,mkF,zxl,zEU]) h
end Go.Proofs.YtgobcjbjogkpjaaGreatDoor
end
section
namespace Go.Proofs.YtgobcjbjogkpjaaGreatDoor
open Go.RowKit
set_option maxRecDepth 100000
abbrev Str:=List UInt8
def inB (a b c:Int):Bool:=decide (a≥b)&&decide (a≤c)
theorem zbb {a b c:Int}:inB a b c=true↔b≤a∧a≤c:=by simp [inB]
@[simp] theorem zlg (a b c:Int):zbq a b c=some (inB a b c):=rfl
@[simp] theorem zhx (a b c:Int):za4 a b c=some (inB a b c):=rfl
def zfD (b:UInt8):Bool:=(decide ((b.toNat:Int)≥97)&&decide ((b.toNat:Int)≤122))||(decide ((b.toNat:Int)≥48)&&decide ((b.toNat:Int)≤57))
def zi4 (s more:Str):Bool:=s.all fun b=>zfD b||more.contains b
theorem zEl {a b:UInt8}:((a.toNat:Int)==(b.toNat:Int))=(a==b):=by
 rw [Bool.eq_iff_iff]
 simp only [beq_iff_eq]
 constructor
 ·intro h;exact UInt8.toNat_inj.1 (by omega)
 ·rintro rfl;rfl
theorem zvl {α:Type} (xs:List α) (p:α→Bool) (q:Nat→Bool) (h: ∀(i:Nat) (hi:i<xs.length),q i=p xs[i]):(List.range xs.length).all q=xs.all p:=by
 rw [Bool.eq_iff_iff]
 simp only [List.all_eq_true,List.mem_range]
 constructor
 ·intro hq x hx
  obtain⟨i,hi,rfl⟩:=List.getElem_of_mem hx
  rw [←h i hi];exact hq i hi
 ·intro hp i hi
  rw [h i hi];exact hp _ (List.getElem_mem hi)
theorem zit {α β:Type} {xs:List α} {body:Int→Option (Int ⊕ Option β)} (p:α→Bool) (b:β) (fin:Option β)
  (hs: ∀(i:Nat) (hi:i<xs.length),body i=some (if p xs[i]=true then .inl ((i+1:Nat):Int)else .inr (some b))) (he:body xs.length=some (.inr fin)):zal body 0=if xs.all p=true then fin else some b:=by
 rw [zhX (n:=xs.length) (fun i=>match xs[i]? with|some x=>p x|none=>true) b fin (fun i hi=>by rw [hs i hi];simp [hi]) he,
  zvl xs p _ fun i hi=>by simp [hi]]
theorem zp7 {s more:Str} (h1:s.length≤2000000) (h2:more.length≤2000000):zeP s more=some (zi4 s more):=by
 unfold zeP
 rw [zit (xs:=s) (fun b=>zfD b||more.contains b) false (some true) ?_ (by simp [zg4])]
 ·unfold zi4
  cases(s.all fun b=>zfD b||more.contains b)<;>rfl
 ·intro i hi
  have hin:zal (fun t:Bool × Int=>zd6 more i s[i] t.1 t.2) (zfD s[i],0)=some (if(zfD s[i]||more.contains s[i])=true then .inl ((i+1:Nat):Int)else .inr (some false)):=by
   have hl:=znx (xs:=more) (body:=fun t:Bool × Int=>zd6 more i s[i] t.1 t.2) (fun k (ok:Bool)=>(ok,k)) (fun b ok=>some (.inl (ok||s[i]==b))) (fun ok=>zho i ok)
    (fun k hk ok=>by
     simp only [zd6,Int.ofNat_lt,hk,decide_true,if_true,zac hk,Option.bind_some,zaN hk (by omega:more.length≤_),zEl,ztT]
     cases ok<;>simp) (fun ok=>by simp [zd6]) (zfD s[i])
   rw [zAB (fun ok b=>ok||s[i]==b) (fun _=>True) (fun _ _ _ _=>trivial) (fun _ _ _ _=>rfl) trivial]at hl
   have hf: ∀(l:Str) (ok:Bool),l.foldl (fun ok b=>ok||s[i]==b) ok=(ok||l.contains s[i]):=by
    intro l
    induction l with
    |nil=>intro ok;simp
    |cons c l ih=>intro ok;rw [List.foldl_cons,ih,List.contains_cons,Bool.or_assoc]
   rw [hl,hf]
   unfold zho
   rw [zaN hi (by omega)]
   cases(zfD s[i]||more.contains s[i])<;>rfl
  simp only [zg4,Int.ofNat_lt,hi,decide_true,if_true,zac hi,Option.bind_some]
  exact hin
theorem zti (l:Str) (c:UInt8):decide (Lib.indexByte l c<0)= !l.contains c:=by
 induction l with
 |nil=>rfl
 |cons b l ih=>
  unfold Lib.indexByte
  have hge:=Lib.indexByte_ge l c
  rw [List.contains_cons]
  by_cases hb:b=c
  ·subst hb;simp
  ·have h1:(b==c)=false:=by simpa using hb
   have h2:(c==b)=false:=by simpa using fun h=>hb h.symm
   rw [h1,h2]
   simp only [Bool.false_eq_true,if_false,Bool.false_or]
   rw [←ih]
   by_cases hm:Lib.indexByte l c= -1
   ·simp [hm]
   ·have h3:(Lib.indexByte l c== -1)=false:=by simpa using hm
    rw [h3]
    simp only [Bool.false_eq_true,if_false]
    rw [decide_eq_decide]
    omega
theorem zn0 {s more:Str} (h1:s.length≤2000000):zd7 s more=some (zi4 s more):=by
 unfold zd7
 rw [zit (xs:=s) (fun b=>zfD b||more.contains b) false (some true) ?_ (by simp [zgf])]
 ·unfold zi4
  cases(s.all fun b=>zfD b||more.contains b)<;>rfl
 ·intro i hi
  have hu:((s[i].toNat:Int)).toNat.toUInt8=s[i]:=by simp
  simp only [zgf,Int.ofNat_lt,hi,decide_true,if_true,zac hi,Option.bind_some,zfc,zf3,zbd,hu,zti,zaN hi (by omega:s.length≤_)]
  rw [show((decide ((s[i].toNat:Int)≥97)&&decide ((s[i].toNat:Int)≤122))||(decide ((s[i].toNat:Int)≥48)&&decide ((s[i].toNat:Int)≤57)))=zfD s[i]from rfl]
  cases zfD s[i]<;>cases more.contains s[i]<;>rfl
def zcD (s:Str):Bool:=inB s.length 1 12&&zi4 s [46,47]
def zgL (s:Str):Bool:=decide ((s.length:Int)≤24)&&zi4 s [46,45,44,95]
theorem zCd {s:Str} (h:s.length≤2000000):zhY s=some (zcD s):=by
 simp only [zhY,zlg,Option.bind_some,zp7 h (more:= [46,47]) (by decide),zcD]
 cases inB s.length 1 12<;>simp
theorem zEJ {s:Str} (h:s.length≤2000000):zhw s=some (zcD s):=by
 simp only [zhw,zhx,Option.bind_some,zn0 h,zcD]
 cases inB s.length 1 12<;>simp
theorem zAi {s:Str} (h:s.length≤2000000):zhR s=some (zgL s):=by
 simp only [zhR,Option.bind_some,zp7 h (more:= [46,45,44,95]) (by decide),zgL]
 by_cases hl:(s.length:Int)≤24<;>simp [hl]
theorem zD4 {s:Str} (h:s.length≤2000000):zhu s=some (zgL s):=by
 simp only [zhu,Option.bind_some,zn0 h,zgL]
 by_cases hl:(s.length:Int)≤24<;>simp [hl]
def zj9 (v:Str) (zv1:Bool):Bool:=zgL v&&(!zv1||v== [])
theorem zyZ {v:Str} {zv1:Bool} (h:v.length≤2000000):zgq v zv1=some (zj9 v zv1):=by
 simp only [zgq,zD4 h,Option.bind_some,zj9,bne]
 cases zgL v<;>cases zv1<;>cases(v== [])<;>rfl
theorem zB8 {k v:Str} {zv1:Bool} (hk:k.length≤2000000) (hv:v.length≤2000000):zhs k v zv1=some (zcD k&&zj9 v zv1):=by
 simp only [zhs,zCd hk,zAi hv,Option.bind_some,zj9]
 cases zcD k<;>simp
def zfJ (ks:List Str) (i:Nat):Bool:=i==0||Op.bytesLess ((ks[i-1]?).getD []) ((ks[i]?).getD [])
def zmp (ks:List Str):Bool:=(List.range ks.length).all (zfJ ks)
theorem zt6: ∀(a b:Str),(Op.bytesLess a b||a==b)= !Op.bytesLess b a
 | [], []=>rfl
 | [],_::_=>rfl
 |_::_, []=>rfl
 |x::a,y::b=>by
  have ih:=zt6 a b
  simp only [Op.bytesLess]
  rcases Nat.lt_trichotomy x.toNat y.toNat with h|h|h
  ·have h1:x<y:=UInt8.lt_iff_toNat_lt.2 h
   have h2: ¬y<x:=fun h'=>by have:=UInt8.lt_iff_toNat_lt.1 h';omega
   have h3: ¬y=x:=fun h'=>by subst h';omega
   simp [h1,h2,h3]
  ·have h0:x=y:=UInt8.toNat_inj.1 h
   subst h0
   have h1: ¬x<x:=fun h'=>by have:=UInt8.lt_iff_toNat_lt.1 h';omega
   rw [show((x::a)==(x::b))=(a==b) by simp]
   simp only [h1,decide_false,Bool.false_or,beq_self_eq_true,Bool.true_and]
   exact ih
  ·have h1: ¬x<y:=fun h'=>by have:=UInt8.lt_iff_toNat_lt.1 h';omega
   have h2:y<x:=UInt8.lt_iff_toNat_lt.2 h
   have h3: ¬x=y:=fun h'=>by subst h';omega
   simp [h1,h2,h3]
theorem ztV {i:Nat} (h0:0<i) (h:i≤2000000):IntKind.i64.wrap ((i:Int)-1)=((i-1:Nat):Int):=by
 rw [zaC (by omega) (by omega)];omega
theorem zzP {α:Type} (xs:List α) (p:α→Bool) (q r:Nat→Bool) (h: ∀(i:Nat) (hi:i<xs.length),r i=(p xs[i]&&q i)):(List.range xs.length).all r=(xs.all p&&(List.range xs.length).all q):=by
 rw [←zvl xs p (fun i=>match xs[i]? with|some x=>p x|none=>true) fun i hi=>by simp [hi]]
 rw [Bool.eq_iff_iff]
 simp only [Bool.and_eq_true,List.all_eq_true,List.mem_range]
 constructor
 ·intro hr
  exact⟨fun i hi=>by have:=hr i hi;rw [h i hi,Bool.and_eq_true]at this;simpa [hi]using this.1,fun i hi=>by have:=hr i hi;rw [h i hi,Bool.and_eq_true]at this;exact this.2⟩
 ·rintro⟨h1,h2⟩ i hi
  rw [h i hi,Bool.and_eq_true]
  exact⟨by have:=h1 i hi;simpa [hi]using this,h2 i hi⟩
theorem zvR {ks:List Str} (h:ks.length≤2000000) (hk: ∀k∈ks,k.length≤2000000):zfT ks=some (ks.all zcD&&zmp ks):=by
 unfold zfT zmp
 rw [zhX (n:=ks.length) (fun i=>zcD ((ks[i]?).getD [])&&zfJ ks i) false (some true) ?_ (by simp [zfY]),zzP ks zcD (zfJ ks) _ fun i hi=>by simp [hi]]
 ·cases(ks.all zcD&&(List.range ks.length).all (zfJ ks))<;>rfl
 ·intro i hi
  simp only [zfY,Int.ofNat_lt,hi,decide_true,if_true,zac hi,Option.bind_some,zEJ (hk _ (List.getElem_mem hi)),zaN hi (by omega:ks.length≤_),List.getElem?_eq_getElem hi,Option.getD_some,zfJ]
  by_cases h0:i=0
  ·subst h0
   cases zcD ks[0]<;>simp
  ·have hp:(i:Int)>0:=by omega
   have hi1:i-1<ks.length:=by omega
   have hb:(i==0)=false:=by simpa using h0
   simp only [hp,decide_true,if_true,ztV (Nat.pos_of_ne_zero h0) (by omega:i≤2000000),zac hi1,Option.bind_some,zt6,List.getElem?_eq_getElem hi1,Option.getD_some,hb,Bool.false_or]
   cases zcD ks[i]<;>cases Op.bytesLess ks[i-1] ks[i]<;>rfl
theorem zwk {l:List zaa} (h:l.length≤2000000):zfQ l=some (l.map (·.fKey)):=by
 have h1:=zbN (xs:=l) (body:=fun s:Int × List Str=>zcr l s.1 s.2) (fun i (o:List Str)=>(i,o)) (fun o w=>o++ [w.fKey]) (fun o=>some o) (fun q o=>o.length=q)
  (fun i hi o hI=>by
   refine⟨?_,by simp [hI]⟩
   show zcr l i o=_
   unfold zcr
   have hr:((o.length:Int)+(([l[i].fKey]:List Str).length:Int))*16≤140737488355328∧(o.length:Int)+(([l[i].fKey]:List Str).length:Int)≤140737488355328:=by
    rw [List.length_singleton,hI];omega
   rw [if_pos (by simpa using hi),zac hi,Option.bind_some,zad hr,zaN hi (by omega)]) (fun o _=>by
   show zcr l l.length o=_
   unfold zcr
   rw [if_neg (by simp)]) (s:= []) rfl
 have hf: ∀(l:List zaa) (o:List Str),l.foldl (fun o w=>o++ [w.fKey]) o=o++l.map (·.fKey):=by
  intro l
  induction l with
  |nil=>intro o;simp
  |cons w l ih=>intro o;rw [List.foldl_cons,ih];simp
 have h2:=h1.1
 rw [hf,List.nil_append]at h2
 unfold zfQ
 exact h2
def zhW (w:zaa):Bool:=zcD w.fKey&&zj9 w.fVal w.fGone
def zd1 (l:List zaa):Bool:=decide ((l.length:Int)≤24)&&(l.all zhW&&zmp (l.map (·.fKey)))
def zpT (l:List zaa):Prop:=l.length≤2000000∧ ∀w∈l,w.fKey.length≤2000000∧w.fVal.length≤2000000
theorem zzL {l:List zaa} (h:zpT l):zfg l=some (zd1 l):=by
 have e1:zaQ l (fun y0_=>zek y0_)=some (l.any fun w=> !zj9 w.fVal w.fGone):=zpQ _ (fun w hw=>by simp [zek,zyZ (h.2 w hw).2]) (by have:=h.1;omega)
 have e2:=zvR (ks:=l.map (·.fKey)) (by simpa using h.1) (by simp only [List.mem_map];rintro k ⟨w,hw,rfl⟩;exact(h.2 w hw).1)
 simp only [zfg,zwk h.1,e1,e2,Option.bind_some,zd1,←List.not_all_eq_any_not]
 have e3:l.all zhW=((l.map (·.fKey)).all zcD&&l.all fun w=>zj9 w.fVal w.fGone):=by
  rw [Bool.eq_iff_iff]
  simp only [List.all_eq_true,Bool.and_eq_true,zhW,List.mem_map]
  constructor
  ·intro h;exact⟨by rintro k ⟨w,hw,rfl⟩;exact(h w hw).1,fun w hw=>(h w hw).2⟩
  ·rintro⟨h1,h2⟩ w hw;exact⟨h1 _ ⟨w,hw,rfl⟩,h2 w hw⟩
 rw [e3]
 generalize (l.map (·.fKey)).all zcD=b1
 generalize zmp (l.map (·.fKey))=b2
 generalize (l.all fun w=>zj9 w.fVal w.fGone)=b3
 by_cases hl:(l.length:Int)≤24<;>cases b1<;>cases b2<;>cases b3<;>simp [hl]
theorem zz0 {l:List zaa} (h:zpT l):zgj l=some (zd1 l):=by
 unfold zgj
 have hn:=h.1
 rw [zhX (n:=l.length) (fun i=>zhW ((l[i]?).getD ⟨[], [],false⟩)&&zfJ (l.map (·.fKey)) i) false (zgc l) ?_ (by simp [zgQ]),zzP l zhW (zfJ (l.map (·.fKey))) _ fun i hi=>by simp [hi]]
 ·unfold zgc zd1 zmp
  rw [List.length_map]
  cases(l.all zhW&&(List.range l.length).all (zfJ (l.map (·.fKey))))<;>simp
 ·intro i hi
  have hm:=h.2 _ (List.getElem_mem hi)
  simp only [zgQ,Int.ofNat_lt,hi,decide_true,if_true,zac hi,Option.bind_some,zB8 hm.1 hm.2,zaN hi (by omega:l.length≤_),List.getElem?_eq_getElem hi,Option.getD_some,zfJ,List.getElem?_map,Option.map_some]
  rw [show(zcD l[i].fKey&&zj9 l[i].fVal l[i].fGone)=zhW l[i]from rfl]
  by_cases h0:i=0
  ·subst h0
   cases zhW l[0]<;>simp
  ·have hp:(i:Int)>0:=by omega
   have hi1:i-1<l.length:=by omega
   have hb:(i==0)=false:=by simpa using h0
   simp only [hp,decide_true,if_true,ztV (Nat.pos_of_ne_zero h0) (by omega:i≤2000000),zac hi1,Option.bind_some,List.getElem?_eq_getElem hi1,Option.map_some,Option.getD_some,hb,Bool.false_or]
   cases zhW l[i]<;>cases Op.bytesLess l[i-1].fKey l[i].fKey<;>rfl
def zc1 (l:List zaa):Bool:=zd1 l&&l.all fun w=> !w.fGone
theorem zC4 {l:List zaa} (h:zpT l):ziP l=some (zc1 l):=by
 have e1:zaQ l (fun y0_=>zgD y0_)=some (l.any fun w=> !!w.fGone):=zpQ _ (fun w hw=>by simp [zgD]) (by have:=h.1;omega)
 simp only [ziP,zzL h,e1,Option.bind_some,zc1,←List.not_all_eq_any_not]
 cases zd1 l<;>simp
theorem zqC {l:List zaa} (h:zpT l):zcX l=some (zc1 l):=by
 have hn:=h.1
 unfold zcX
 rw [zit (xs:=l) (fun w=> !w.fGone) false (zid l) (fun i hi=>by
  simp only [zic,Int.ofNat_lt,hi,decide_true,if_true,zac hi,Option.bind_some,zaN hi (by omega:l.length≤_)]
  cases l[i].fGone<;>rfl) (by simp [zic])]
 simp only [zid,zz0 h,Option.bind_some,zc1]
 cases(l.all fun w=> !w.fGone)<;>simp
end Go.Proofs.YtgobcjbjogkpjaaGreatDoor
end
section
namespace Go.Proofs.YtgobcjbjogkpjaaGreatDoor
open Go.RowKit
set_option maxRecDepth 100000
def small (b:UInt8):Bool:= !(decide ((b.toNat:Int)<97)||decide ((b.toNat:Int)>122))
def zcA (s:Str) (n:Int):Bool:=s.all small&&inB s.length 1 n
theorem znT {s:Str} {n:Int} (h:s.length≤2000000):zc7 s n=some (zcA s n):=by
 unfold zc7
 rw [zit (xs:=s) small false (zfu s n) (fun i hi=>by
  simp only [zfs,Int.ofNat_lt,hi,decide_true,if_true,zac hi,Option.bind_some,zaN hi (by omega:s.length≤_)]
  rw [show(decide ((s[i].toNat:Int)<97)||decide ((s[i].toNat:Int)>122))= !small s[i] by simp [small]]
  cases small s[i]<;>rfl) (by simp [zfs])]
 unfold zfu zcA inB
 cases s.all small<;>simp
theorem zoi {s:Str} {n:Int} (h:s.length≤2000000):zc5 s n=some (zcA s n):=by
 unfold zc5
 rw [zit (xs:=s) small false (zfw s n) (fun i hi=>by
  simp only [zfx,Int.ofNat_lt,hi,decide_true,if_true,zac hi,Option.bind_some,zaN hi (by omega:s.length≤_)]
  rw [show(decide ((s[i].toNat:Int)<97)||decide ((s[i].toNat:Int)>122))= !small s[i] by simp [small]]
  cases small s[i]<;>rfl) (by simp [zfx])]
 simp only [zfw,zhx,Option.bind_some,zcA]
 cases s.all small<;>simp
theorem zD0 {xs:List Str} {s:Str} (h:xs.length≤2000000):zhO xs s=some (zig (· ==s) xs):=by
 unfold zhO
 refine zs2 (· ==s) (fun i hi=> ?_) (by simp [zi1])
 simp only [zi1,Int.ofNat_lt,hi,decide_true,if_true,zac hi,Option.bind_some,zaN hi (by omega:xs.length≤_)]
 cases xs[i]==s<;>rfl
theorem zAz {xs:List Str} {s:Str} (h:xs.length≤2000000):zbk xs s=some (zig (· ==s) xs):=by
 unfold zbk
 refine zs2 (· ==s) (fun i hi=> ?_) (by simp [zbU])
 simp only [zbU,Int.ofNat_lt,hi,decide_true,if_true,zac hi,Option.bind_some,zaN hi (by omega:xs.length≤_)]
 rw [show(s==xs[i])=(xs[i]==s)from BEq.comm]
 cases xs[i]==s<;>rfl
theorem zz6 (xs:List Str) (s:Str):(xs.any fun x=>x==s)=xs.contains s:=by
 rw [List.contains_eq_any_beq]
 congr 1
 funext x
 exact BEq.comm
theorem zCe {xs:List Str} {s:Str} (h:xs.length≤2000000):zaI xs s=some (xs.contains s):=by
 simp only [zaI,zAz h,Option.bind_some,zlJ,zz6]
def zvE (cs:List Str) (i:Nat):Bool:=zcA ((cs[i]?).getD []) 3&& !(cs.take i).contains ((cs[i]?).getD [])
def zqO (cs:List Str):Bool:=(List.range cs.length).all (zvE cs)
def znP (t:zab) (i:Nat):Bool:=
 let x:=(t.fIdxs[i]?).getD ⟨[],0,0⟩
 zcA x.fName 1&&inB x.fCol 1 ((t.fCols.length:Int)-1)&&inB x.fStage 0 3&&(i==0||Op.bytesLess ((t.fIdxs[i-1]?).getD ⟨[],0,0⟩).fName x.fName)
def zar (t:zab):Bool:=zcA t.fName 1&&(zqO t.fCols&&inB t.fCols.length 2 4)&&decide ((t.fIdxs.length:Int)≤3)&&(List.range t.fIdxs.length).all (znP t)
structure zdr (t:zab):Prop where
 name:t.fName.length≤2000000
 cols:t.fCols.length≤2000000
 col: ∀c∈t.fCols,c.length≤2000000
 idxs:t.fIdxs.length≤2000000
 idx: ∀x∈t.fIdxs,x.fName.length≤2000000
theorem zC6 {α:Type} (xs:List α) (i:Nat):zfZ xs 0 i=xs.take i:=by simp [zfZ]
theorem zDm {cs:List Str} (h:cs.length≤2000000) (hc: ∀c∈cs,c.length≤2000000):zhH cs=some (zqO cs&&inB cs.length 2 4):=by
 unfold zhH
 rw [zhX (n:=cs.length) (zvE cs) false (zhc cs) ?_ (by simp [zhf])]
 ·simp only [zhc,zlg,Option.bind_some,zqO]
  cases(List.range cs.length).all (zvE cs)<;>simp
 ·intro i hi
  unfold zhf zvE
  rw [if_pos (by simpa using hi),zac hi,Option.bind_some,znT (hc _ (List.getElem_mem hi)),Option.bind_some,zad (by omega),zC6,zD0 (by rw [List.length_take];omega),Option.bind_some,zlJ,zz6,zaN hi (by omega)]
  simp only [List.getElem?_eq_getElem hi,Option.getD_some]
  cases zcA cs[i] 3<;>cases(cs.take i).contains cs[i]<;>rfl
theorem znh {t:zab} (h:zdr t):zca t=some (zar t):=by
 have hw:=zaC (n:=(t.fCols.length:Int)-1) (by omega) (by have:=h.cols;omega)
 have hn:=h.idxs
 have hl:zal (fun s:Int=>zem t s) 0=some ((List.range t.fIdxs.length).all (znP t)):=by
  rw [zhX (n:=t.fIdxs.length) (znP t) false (some true) ?_ (by simp [zem])]
  ·cases(List.range t.fIdxs.length).all (znP t)<;>rfl
  ·intro i hi
   unfold znP
   simp only [zem,Int.ofNat_lt,hi,decide_true,if_true,zac hi,Option.bind_some,znT (h.idx _ (List.getElem_mem hi)),zlg,hw,zaN hi (by omega:t.fIdxs.length≤_),List.getElem?_eq_getElem hi,Option.getD_some]
   by_cases h0:i=0
   ·subst h0
    cases zcA t.fIdxs[0].fName 1<;>cases inB t.fIdxs[0].fCol 1 ((t.fCols.length:Int)-1)<;>cases inB t.fIdxs[0].fStage 0 3<;>rfl
   ·have hp:(i:Int)>0:=by omega
    have hi1:i-1<t.fIdxs.length:=by omega
    have hb:(i==0)=false:=by simpa using h0
    simp only [hp,decide_true,if_true,ztV (Nat.pos_of_ne_zero h0) (by omega:i≤2000000),zac hi1,Option.bind_some,List.getElem?_eq_getElem hi1,Option.getD_some,hb,Bool.false_or]
    cases zcA t.fIdxs[i].fName 1<;>cases inB t.fIdxs[i].fCol 1 ((t.fCols.length:Int)-1)<;>cases inB t.fIdxs[i].fStage 0 3<;>cases Op.bytesLess t.fIdxs[i-1].fName t.fIdxs[i].fName<;>rfl
 unfold zca zar
 rw [znT h.name,Option.bind_some,zDm h.cols h.col,hl]
 by_cases hk:(t.fIdxs.length:Int)≤3
 ·have hk': ¬(t.fIdxs.length:Int)>3:=by omega
  simp only [hk,hk',decide_true,decide_false,Bool.or_false,Bool.and_true]
  cases zcA t.fName 1<;>cases(zqO t.fCols&&inB t.fCols.length 2 4)<;>simp
 ·have hk':(t.fIdxs.length:Int)>3:=by omega
  simp only [hk,hk',decide_true,decide_false,Bool.or_true,Bool.and_false,Bool.false_and]
  cases zcA t.fName 1<;>simp
theorem zAZ {t:zab} (h:zdr t):zfI t=some (zar t):=by
 have hw:=zaC (n:=(t.fCols.length:Int)-1) (by omega) (by have:=h.cols;omega)
 have hn:=h.idxs
 have hm:=h.cols
 have hl:zal (fun s:Int=>zeo t s) 0=some ((List.range t.fIdxs.length).all (znP t)):=by
  rw [zhX (n:=t.fIdxs.length) (znP t) false (some true) ?_ (by simp [zeo])]
  ·cases(List.range t.fIdxs.length).all (znP t)<;>rfl
  ·intro i hi
   unfold znP
   simp only [zeo,zjG,Int.ofNat_lt,hi,decide_true,if_true,zac hi,Option.bind_some,zoi (h.idx _ (List.getElem_mem hi)),zhx,hw,zaN hi (by omega:t.fIdxs.length≤_),List.getElem?_eq_getElem hi,Option.getD_some]
   by_cases h0:i=0
   ·subst h0
    cases zcA t.fIdxs[0].fName 1<;>cases inB t.fIdxs[0].fCol 1 ((t.fCols.length:Int)-1)<;>cases inB t.fIdxs[0].fStage 0 3<;>rfl
   ·have hp:(i:Int)>0:=by omega
    have hi1:i-1<t.fIdxs.length:=by omega
    have hb:(i==0)=false:=by simpa using h0
    simp only [hp,decide_true,if_true,ztV (Nat.pos_of_ne_zero h0) (by omega:i≤2000000),zac hi1,Option.bind_some,List.getElem?_eq_getElem hi1,Option.getD_some,hb,Bool.false_or,zt6]
    cases zcA t.fIdxs[i].fName 1<;>cases inB t.fIdxs[i].fCol 1 ((t.fCols.length:Int)-1)<;>cases inB t.fIdxs[i].fStage 0 3<;>cases Op.bytesLess t.fIdxs[i-1].fName t.fIdxs[i].fName<;>rfl
 have hc:zal (fun s:Int=>zev t s) 0=some (zqO t.fCols&&(List.range t.fIdxs.length).all (znP t)):=by
  rw [zhX (n:=t.fCols.length) (zvE t.fCols) false (zfX t) ?_ (by simp [zev])]
  ·unfold zfX zqO
   rw [hl]
   cases(List.range t.fCols.length).all (zvE t.fCols)<;>simp
  ·intro i hi
   unfold zev zvE
   rw [if_pos (by simpa using hi),zac hi,Option.bind_some,zoi (h.col _ (List.getElem_mem hi)),Option.bind_some,zad (by omega),zC6,zCe (by rw [List.length_take];omega),Option.bind_some,zaN hi (by omega)]
   simp only [List.getElem?_eq_getElem hi,Option.getD_some]
   cases zcA t.fCols[i] 3<;>cases(t.fCols.take i).contains t.fCols[i]<;>rfl
 unfold zfI zar
 rw [zoi h.name,Option.bind_some,zhx,Option.bind_some,hc]
 by_cases hk:(t.fIdxs.length:Int)≤3
 ·have hk': ¬(t.fIdxs.length:Int)>3:=by omega
  simp only [hk,hk',decide_true,decide_false,Bool.or_false,Bool.and_true]
  cases zcA t.fName 1<;>cases zqO t.fCols<;>cases inB t.fCols.length 2 4<;>simp
 ·have hk':(t.fIdxs.length:Int)>3:=by omega
  simp only [hk,hk',decide_true,decide_false,Bool.or_true,Bool.and_false,Bool.false_and]
  cases zcA t.fName 1<;>simp
theorem zqf {t:zab} {s:Str} (h:zdr t):zbj t s=some (zig (fun x:zbB=>x.fName==s) t.fIdxs):=by
 have hn:=h.idxs
 unfold zbj
 refine zs2 (fun x:zbB=>x.fName==s) (fun i hi=> ?_) (by simp [zh8])
 simp only [zh8,Int.ofNat_lt,hi,decide_true,if_true,zac hi,Option.bind_some,zaN hi (by omega:t.fIdxs.length≤_)]
 cases t.fIdxs[i].fName==s<;>rfl
theorem zuz {t:zab} {s:Str} (h:zdr t):zby t s=some (zig (fun x:zbB=>x.fName==s) t.fIdxs):=by
 have hn:=h.idxs
 have e:zbg t.fIdxs (fun y0_=>zeh y0_ s)=some (zig (fun x:zbB=>x.fName==s) t.fIdxs):=zvo (fun x:zbB=>x.fName==s) (fun x _=>rfl) (by omega)
 simp only [zby,e,Option.bind_some]
end Go.Proofs.YtgobcjbjogkpjaaGreatDoor
end
section
namespace Go.Proofs.YtgobcjbjogkpjaaGreatDoor
open Go.RowKit
set_option maxRecDepth 100000
def zbn (c:UInt8):Str→List Str
 | []=> [[]]
 |b::s=>if b=c then []::zbn c s else(match zbn c s with| []=> [[b]]|x::xs=>(b::x)::xs)
theorem zpB (c:UInt8) (s:Str):zbn c s≠ []:=by
 cases s with
 |nil=>simp [zbn]
 |cons b s=>simp only [zbn];split;simp;split<;>simp
theorem zg2 {c:UInt8}: ∀{s:Str},(∀b∈s,b≠c)→zbn c s= [s]
 | [],_=>rfl
 |b::s,h=>by
  have e:=zg2 (c:=c) (s:=s) fun x hx=>h x (List.mem_cons_of_mem _ hx)
  simp only [zbn,if_neg (h b (by simp)),e]
theorem zi6 {c:UInt8}: ∀{p q:Str},(∀b∈p,b≠c)→zbn c (p++c::q)=p::zbn c q
 | [],q,_=>by simp [zbn]
 |b::p,q,h=>by
  have e:=zi6 (c:=c) (p:=p) (q:=q) fun x hx=>h x (List.mem_cons_of_mem _ hx)
  simp only [List.cons_append,zbn,if_neg (h b (by simp)),e]
theorem zlU (c:UInt8) (s:Str):(zbn c s).length=s.count c+1:=by
 induction s with
 |nil=>rfl
 |cons b s ih=>
  simp only [zbn]
  by_cases h:b=c
  ·subst h;simp [ih]
  ·rw [if_neg h,List.count_cons_of_ne h]
   cases hs:zbn c s with
   |nil=>exact absurd hs (zpB c s)
   |cons x xs=>rw [hs]at ih;simpa using ih
theorem zDu {α:Type} (xs:List α) (i j:Nat):zfZ xs (i:Int) (j:Int)=(xs.take j).drop i:=by simp [zfZ]
def zE8 (c:UInt8) (s:Str) (t:List Str × Nat) (i:Nat):List Str × Nat:=if(s[i]?).getD 0=c then(t.1++ [(s.take i).drop t.2],i+1)else t
theorem zwS {s:Str} {c:UInt8} (h:s.length≤2000000):zdT s c.toNat=some (zbn c s):=by
 have h1:=zbN (xs:=List.range s.length) (body:=fun t:List Str × Int × Int=>zc9 s c.toNat t.1 t.2.1 t.2.2) (fun i (t:List Str × Nat)=>(t.1,(t.2:Int),i)) (zE8 c s) (fun t=>zg5 s t.2 t.1)
  (fun i t=>t.2≤i∧(∀b∈(s.take i).drop t.2,b≠c)∧t.1++zbn c (s.drop t.2)=zbn c s∧t.1.length≤i)
  (fun i hi t hI=>by
   rw [List.length_range]at hi
   obtain⟨I1,I2,I3,I4⟩:=hI
   have hw:=zaN hi (by omega:s.length≤_)
   rw [List.getElem_range]
   constructor
   ·show zc9 s c.toNat t.1 t.2 i=_
    unfold zc9 zE8
    rw [if_pos (by simpa using hi),zac hi,Option.bind_some,zEl,hw,zDu,List.getElem?_eq_getElem hi,Option.getD_some]
    by_cases hc:s[i]=c
    ·have hr:((t.1.length:Int)+(([(s.take i).drop t.2]:List Str).length:Int))*16≤140737488355328∧(t.1.length:Int)+(([(s.take i).drop t.2]:List Str).length:Int)≤140737488355328:=by
      rw [List.length_singleton];omega
     rw [if_pos (by simpa using hc),zad (by omega),zad hr,if_pos hc]
    ·rw [if_neg (by simpa using hc),if_neg hc]
   ·unfold zE8
    rw [List.getElem?_eq_getElem hi,Option.getD_some]
    have htk:s.take (i+1)=s.take i++ [s[i]]:=by rw [List.take_succ_eq_append_getElem hi]
    have hd:(s.take (i+1)).drop t.2=(s.take i).drop t.2++ [s[i]]:=by
     rw [htk,List.drop_append_of_le_length (by rw [List.length_take];omega)]
    by_cases hc:s[i]=c
    ·rw [if_pos hc]
     refine⟨Nat.le_refl _,by simp, ?_,by simp;omega⟩
     have e:s.drop t.2=(s.take i).drop t.2++c::s.drop (i+1):=by
      have e0:s.drop t.2=(s.take i).drop t.2++s.drop i:=by
       conv=>lhs;rw [←List.take_append_drop i s]
       rw [List.drop_append_of_le_length (by rw [List.length_take];omega)]
      rw [e0,List.drop_eq_getElem_cons hi,hc]
     rw [e,zi6 I2]at I3
     simpa using I3
    ·rw [if_neg hc]
     refine⟨by omega, ?_,I3,by omega⟩
     rw [hd]
     intro b hb
     rcases List.mem_append.1 hb with hb|hb
     ·exact I2 b hb
     ·simp at hb;subst hb;exact hc)
  (fun t hI=>by
   show zc9 s c.toNat t.1 t.2 ((List.range s.length).length:Nat)=_
   unfold zc9
   rw [if_neg (by simp)]) (s:=([],0)) ⟨Nat.le_refl _,by simp,by simp,by simp⟩
 generalize (List.range s.length).foldl (zE8 c s) ([],0)=t at h1
 rw [List.length_range]at h1
 obtain⟨h2,I1,I2,I3,I4⟩:=h1
 unfold zdT
 refine Eq.trans h2 ?_
 unfold zg5
 have hw:zfZ s (t.2:Int) (s.length:Int)=s.drop t.2:=by rw [zDu,List.take_length]
 have hr:((t.1.length:Int)+(([s.drop t.2]:List Str).length:Int))*16≤140737488355328∧(t.1.length:Int)+(([s.drop t.2]:List Str).length:Int)≤140737488355328:=by
  rw [List.length_singleton];omega
 rw [hw,zad (by omega),zad hr,←I3]
 rw [List.take_length]at I2
 rw [zg2 I2]
theorem zgN (l:Str) (c:UInt8):(Lib.indexByte l c= -1∧ ∀b∈l,b≠c)∨ ∃p q:Str,l=p++c::q∧(∀b∈p,b≠c)∧Lib.indexByte l c=p.length:=by
 induction l with
 |nil=>exact .inl ⟨rfl,by simp⟩
 |cons b l ih=>
  unfold Lib.indexByte
  by_cases hb:b=c
  ·subst hb
   exact .inr ⟨[],l,by simp,by simp,by simp⟩
  ·have h1:(b==c)=false:=by simpa using hb
   rw [h1]
   simp only [Bool.false_eq_true,if_false]
   rcases ih with⟨e,h⟩|⟨p,q,rfl,h,e⟩
   ·refine .inl ⟨by simp [e],fun x hx=> ?_⟩
    rcases List.mem_cons.1 hx with rfl|hx
    ·exact hb
    ·exact h x hx
   ·refine .inr ⟨b::p,q,by simp,fun x hx=> ?_, ?_⟩
    ·rcases List.mem_cons.1 hx with rfl|hx
     ·exact hb
     ·exact h x hx
    ·rw [e]
     have:((p.length:Int)== -1)=false:=by rw [beq_eq_false_iff_ne];omega
     rw [this]
     simp
theorem zsF {c:UInt8} {s:Str} (h: ∀b∈s,b≠c):s.count c=0:=List.count_eq_zero.2 fun hc=>h c hc rfl
theorem zB0 {c:UInt8} {p q:Str} (h: ∀b∈p,b≠c):(p++c::q).count c=q.count c+1:=by
 rw [List.count_append,zsF h,List.count_cons_self];omega
theorem zuk {α:Type} {a:List α} {i:Nat} (x:α) (h:i<a.length):(a.set i x).take (i+1)=a.take i++ [x]:=by
 rw [List.take_succ_eq_append_getElem (by simpa using h),List.getElem_set_self,List.take_set,List.set_eq_of_length_le (by rw [List.length_take];omega)]
theorem zEt {a b:Int} (h: ¬a<b):(bif decide (a<b)then a else b)=b:=by simp [h]
theorem zAQ {s:Str} {c:UInt8} (h:s.length≤2000000):zff s [c]=some (zbn c s):=by
 have hcl:s.count c≤s.length:=List.count_le_length
 have hw1:IntKind.i64.wrap ((s.count c:Int)+1)=(s.count c:Int)+1:=zaC (by omega) (by omega)
 have hw2:IntKind.i64.wrap ((s.length:Int)+1)=(s.length:Int)+1:=zaC (by omega) (by omega)
 have hbif:(bif decide ((s.length:Int)+1<(s.count c:Int)+1)then(s.length:Int)+1 else(s.count c:Int)+1)=(s.count c:Int)+1:=zEt (by omega)
 have hw3:IntKind.i64.wrap ((s.count c:Int)+1-1)=(s.count c:Int):=by rw [zaC (by omega) (by omega)];omega
 have key: ∀(n:Nat) (r:Str) (a:List Str) (i:Nat),r.count c=n→r.length≤s.length→a.length=s.count c+1→i+n=s.count c→a.take i++zbn c r=zbn c s→
   zal (fun t:Str × Int × List Str=>zbO s [c] 0 ((s.count c:Int)+1) t.1 t.2.1 t.2.2) (r,(i:Int),a)=some (zbn c s):=by
  intro n
  induction n with
  |zero=>
   intro r a i hr hl ha hi hI
   have hr0: ∀b∈r,b≠c:=fun b hb e=>by subst e;exact List.count_eq_zero.1 hr hb
   have hia:i<a.length:=by omega
   have hwi:=zaN hia (by omega)
   have hb:zbO s [c] 0 ((s.count c:Int)+1) r i a=some (.inr (some (zbn c s))):=by
    unfold zbO
    rw [hw2,hbif,hw3,if_neg (by simp;omega)]
    unfold ze8
    rw [zac hia,Option.bind_some,hwi,Int.toNat_natCast,zad (by rw [List.length_set];omega),zC6,zuk r hia,←hI,zg2 hr0]
   rw [zbc]
   dsimp only
   rw [hb]
  |succ n ih=>
   intro r a i hr hl ha hi hI
   rcases zgN r c with⟨_,h0⟩|⟨p,q,rfl,hp,hx⟩
   ·rw [zsF h0]at hr;omega
   ·rw [zB0 hp]at hr
    have hia:i<a.length:=by omega
    have hwi:=zaN hia (by omega)
    simp only [List.length_append,List.length_cons]at hl
    have hv0:IntKind.i64.wrap ((p.length:Int)+0)=(p.length:Int):=by rw [zaC (by omega) (by omega)];omega
    have hv1:IntKind.i64.wrap ((p.length:Int)+(([c]:Str).length:Int))=((p.length+1:Nat):Int):=by rw [List.length_singleton,zaC (by omega) (by omega)];omega
    have hb:zbO s [c] 0 ((s.count c:Int)+1) (p++c::q) i a=some (.inl (q,((i+1:Nat):Int),a.set i p)):=by
     unfold zbO
     have hidx:zgt (p++c::q) [c]=some (p.length:Int):=by simp [zgt,zaS,hx]
     rw [hw2,hbif,hw3,if_pos (by simp;omega),hidx,Option.bind_some,if_neg (by simp),hv0,zad (by rw [List.length_append];omega),zac hia,Option.bind_some,hv1,zad (by rw [List.length_append,List.length_cons];omega),hwi,Int.toNat_natCast,zDu,zC6,List.take_length]
     have e1:(p++c::q).drop (p.length+1)=q:=by simp
     have e2:(p++c::q).take p.length=p:=by simp
     rw [e1,e2]
    rw [zbc]
    dsimp only
    rw [hb]
    refine ih q (a.set i p) (i+1) (by omega) (by omega) (by simpa using ha) (by omega) ?_
    rw [zuk p hia,←hI,zi6 hp]
    simp
 have hc1:zge s [c]=some ((s.count c:Nat):Int):=rfl
 have hz:(((-1:Int))==0)=false:=rfl
 have hne:(([c]:Str)==([]:Str))=false:=rfl
 unfold zff zgE
 rw [hz,hne,if_neg (by simp),if_neg (by simp),if_pos (by simp),hc1,Option.bind_some,hw1]
 unfold zfb
 rw [hw2,hbif,zad (by omega)]
 exact zCO (key (s.count c) s (List.replicate ((s.count c:Int)+1).toNat []) 0 rfl (Nat.le_refl _) (by simp) (by omega) (by simp))
end Go.Proofs.YtgobcjbjogkpjaaGreatDoor
end
section
namespace Go.Proofs.YtgobcjbjogkpjaaGreatDoor
open Go.RowKit
set_option maxRecDepth 100000
def field (s:Str):Bool:=inB s.length 1 3&&zi4 s []
theorem ztW {s:Str} (h:s.length≤2000000):zd9 s=some (field s):=by
 simp only [zd9,zlg,Option.bind_some,zp7 h (more:= []) (by decide),field]
 cases inB s.length 1 3<;>simp
theorem zpm {s:Str} (h:s.length≤2000000):zeN s=some (field s):=by
 simp only [zeN,zhx,Option.bind_some,zn0 h,field]
 cases inB s.length 1 3<;>simp
theorem zyp (sep x y:Str) (r:List Str):Lib.join (x::(r++ [y])) sep=Lib.join (x::r) sep++sep++y:=by
 rw [Lib.join_cons,Lib.join_cons]
 simp [Lib.joinTail]
theorem zyX {xs:List Str} {sep:Str} {i:Nat} (hi:i<xs.length):Lib.join (xs.take (i+1)) sep=if i=0 then xs[i]else Lib.join (xs.take i) sep++sep++xs[i]:=by
 rw [List.take_succ_eq_append_getElem hi]
 cases xs with
 |nil=>simp at hi
 |cons x xs=>
  cases i with
  |zero=>simp [Lib.join_cons,Lib.joinTail]
  |succ i=>
   rw [List.take_succ_cons,List.cons_append,zyp,if_neg (by omega)]
def zef:List Str→Nat
 | []=>0
 |x::xs=>x.length+zef xs
theorem zua (xs:List Str) (sep:Str):(Lib.join xs sep).length≤zef xs+xs.length*sep.length:=by
 cases xs with
 |nil=>simp [Lib.join_nil]
 |cons x xs=>
  rw [Lib.join_cons,List.length_append]
  have: ∀r:List Str,(Lib.joinTail sep r).length=zef r+r.length*sep.length:=by
   intro r
   induction r with
   |nil=>simp [Lib.joinTail,zef]
   |cons y r ih=>
    have e:Lib.joinTail sep (y::r)=sep++y++Lib.joinTail sep r:=by simp [Lib.joinTail]
    rw [e,List.length_append,List.length_append,ih,zef,List.length_cons,Nat.succ_mul]
    omega
  rw [this,zef,List.length_cons,Nat.succ_mul]
  omega
theorem zwm (xs:List Str) (i:Nat):zef (xs.take i)≤zef xs:=by
 induction xs generalizing i with
 |nil=>simp [zef]
 |cons x xs ih=>
  cases i with
  |zero=>simp [zef]
  |succ i=>simp only [List.take_succ_cons,zef];have:=ih i;omega
theorem zsr {xs:List Str} {i:Nat} (hi:i<xs.length):xs[i].length≤zef xs:=by
 induction xs generalizing i with
 |nil=>simp at hi
 |cons x xs ih=>
  cases i with
  |zero=>simp [zef]
  |succ i=>simp only [List.getElem_cons_succ,zef];have:=ih (i:=i) (by simpa using hi);omega
def Small (xs:List Str):Prop:=xs.length≤2000000∧zef xs≤2000000
theorem zDw {xs:List Str} {c:UInt8} (h:Small xs):zjP xs [c]=some (Lib.join xs [c]):=by
 obtain⟨h1,h2⟩:=h
 have hl:=zbN (xs:=List.range xs.length) (body:=fun s:Str × Int=>zdb xs [c] s.1 s.2) (fun i (o:Str)=>(o,i)) (fun o i=>if i=0 then(xs[i]?).getD []else o++ [c]++(xs[i]?).getD []) (fun o=>some o) (fun i o=>o=Lib.join (xs.take i) [c])
  (fun i hi o hI=>by
   rw [List.length_range]at hi
   rw [List.getElem_range]
   have hI:o=Lib.join (xs.take i) [c]:=hI
   have hlen:o.length≤1010000000:=by
    have e1:=zua (xs.take i) [c]
    have e2:=zwm xs i
    rw [List.length_take,List.length_singleton,Nat.mul_one]at e1
    rw [hI];omega
   have hg:=zsr hi
   have hw:=zaN hi (by omega:xs.length≤_)
   rw [List.getElem?_eq_getElem hi,Option.getD_some]
   refine⟨?_,by show _=_;rw [zyX hi,hI]⟩
   show zdb xs [c] o i=_
   unfold zdb
   rw [if_pos (by simpa using hi),zac hi,Option.bind_some,hw]
   by_cases h0:i=0
   ·subst h0
    have ho:o= []:=by rw [hI];rfl
    subst ho
    rw [if_neg (by simp),zad (by simp;omega),if_pos rfl];rfl
   ·rw [if_pos (by simp;omega),zad (by rw [List.length_singleton];omega),zad (by rw [List.length_append,List.length_singleton];omega),if_neg h0])
  (fun o _=>by
   show zdb xs [c] o ((List.range xs.length).length:Nat)=_
   unfold zdb
   rw [if_neg (by simp)]) (s:= []) (by simp [Lib.join_nil])
 generalize (List.range xs.length).foldl (fun o i=>if i=0 then(xs[i]?).getD []else o++ [c]++(xs[i]?).getD []) []=o at hl
 obtain⟨h3,h4⟩:=hl
 have h4:o=Lib.join (xs.take (List.range xs.length).length) [c]:=h4
 rw [List.length_range,List.take_length]at h4
 subst h4
 exact h3
theorem zCK {xs:List Str} {c:UInt8} (h:Small xs):zhN xs [c]=some (Lib.join xs [c]):=by
 obtain⟨h1,h2⟩:=h
 have:=zua xs [c]
 rw [List.length_singleton,Nat.mul_one]at this
 exact zad ⟨by omega,by omega⟩
end Go.Proofs.YtgobcjbjogkpjaaGreatDoor
end
section
namespace Go.Proofs.YtgobcjbjogkpjaaGreatDoor
open Go.RowKit
set_option maxRecDepth 100000
theorem Small.each {xs:List Str} (h:Small xs): ∀x∈xs,x.length≤2000000:=by
 intro x hx
 obtain⟨i,hi,rfl⟩:=List.getElem_of_mem hx
 exact Nat.le_trans (zsr hi) h.2
def zbp (t:zab) (r:zdG):Bool:=((r.fVals.length:Int)==t.fCols.length)&&r.fVals.all field
theorem zkf {t:zab} {r:zdG} (h:Small r.fVals):zc3 t r=some (zbp t r):=by
 have h1:=h.1
 unfold zc3
 rw [zit (xs:=r.fVals) field false (zg7 t r) (fun i hi=>by
  simp only [zg6,Int.ofNat_lt,hi,decide_true,if_true,zac hi,Option.bind_some,ztW (h.each _ (List.getElem_mem hi)),zaN hi (by omega:r.fVals.length≤_)]
  cases field r.fVals[i]<;>rfl) (by simp [zg6])]
 unfold zg7 zbp
 cases r.fVals.all field<;>simp
theorem zjX {t:zab} {r:zdG} (h:Small r.fVals):za3 t r=some (zbp t r):=by
 have e:zaQ r.fVals (fun y0_=>zdq y0_)=some (r.fVals.any fun s=> !field s):=zpQ _ (fun s hs=>by simp [zdq,zpm (h.each s hs)]) (by have:=h.1;omega)
 simp only [za3,e,Option.bind_some,zbp,←List.not_all_eq_any_not]
 cases((r.fVals.length:Int)==t.fCols.length)<;>simp
def zk0 (t:zab) (r:zdG):zaa:=⟨t.fName++ [47]++(r.fVals.head?).getD [],Lib.join r.fVals.tail [44],false⟩
theorem zFv {α:Type} (xs:List α):zfZ xs 1 (xs.length:Int)=xs.tail:=by simp [zfZ]
theorem Small.tail {xs:List Str} (h:Small xs):Small xs.tail:=by
 cases xs with
 |nil=>exact h
 |cons x xs=>exact⟨by have:=h.1;simp at this ⊢;omega,by have:=h.2;simp only [zef,List.tail_cons]at this ⊢;omega⟩
theorem ztZ {t:zab} {r:zdG} (ht:t.fName.length≤2000000) (h:Small r.fVals) (hn:r.fVals≠ []):zdf t r=some (zk0 t r):=by
 obtain⟨x,xs,hx⟩:=List.exists_cons_of_ne_nil hn
 have hx1:x.length≤2000000:=h.each x (by simp [hx])
 unfold zdf zk0
 rw [zad (by rw [List.length_singleton];omega),zFv,zDw h.tail,hx]
 rw [show zay (x::xs) 0=some x from rfl,Option.bind_some,zad (by rw [List.length_append,List.length_singleton];omega),zad (by simp only [List.length_cons];omega),Option.bind_some]
 rfl
theorem zpX {t:zab} {r:zdG} (ht:t.fName.length≤2000000) (h:Small r.fVals) (hn:r.fVals≠ []):zbh t r=some (zk0 t r):=by
 obtain⟨x,xs,hx⟩:=List.exists_cons_of_ne_nil hn
 have hx1:x.length≤2000000:=h.each x (by simp [hx])
 unfold zbh zk0
 rw [zad (by rw [List.length_singleton];omega),zFv,zCK h.tail,hx]
 rw [show zay (x::xs) 0=some x from rfl,Option.bind_some,zad (by rw [List.length_append,List.length_singleton];omega),zad (by simp only [List.length_cons];omega),Option.bind_some]
 rfl
theorem zoG (c:UInt8) (s:Str):zef (zbn c s)≤s.length:=by
 induction s with
 |nil=>simp [zbn,zef]
 |cons b s ih=>
  simp only [zbn]
  split
  ·simp only [zef,List.length_nil,List.length_cons];omega
  ·cases hs:zbn c s with
   |nil=>exact absurd hs (zpB c s)
   |cons x xs=>rw [hs]at ih;simp only [zef,List.length_cons]at ih ⊢;omega
theorem zv5 {c:UInt8} {s:Str} (h:s.length≤1000000):Small (zbn c s):=by
 have h1:=zlU c s
 have h2:s.count c≤s.length:=List.count_le_length
 have h3:=zoG c s
 exact⟨by omega,by omega⟩
theorem zEx {s p:Str} (hs:s.length≤2000000):zdm s p=some (if p.isPrefixOf s=true then(s.drop p.length,true)else(s,false)):=by
 have e:zbe s p=some (p.isPrefixOf s):=by
  unfold zbe
  by_cases hl:p.length≤s.length
  ·rw [if_pos (by simpa using hl),zad (by omega),zC6]
   congr 1
   rw [Bool.eq_iff_iff,beq_iff_eq,List.isPrefixOf_iff_prefix,List.prefix_iff_eq_take]
   exact eq_comm
  ·rw [if_neg (by simpa using hl)]
   congr 1
   symm
   rw [←Bool.not_eq_true,List.isPrefixOf_iff_prefix]
   intro h
   exact hl h.length_le
 unfold zdm zcb
 rw [e,Option.bind_some]
 cases hp:p.isPrefixOf s with
 |false=>simp
 |true=>
  have hl:=(List.isPrefixOf_iff_prefix.1 hp).length_le
  simp only [Bool.not_true,Bool.false_eq_true,if_false,if_true]
  rw [zad (by omega),zDu,List.take_length]
  rfl
end Go.Proofs.YtgobcjbjogkpjaaGreatDoor
end
section
namespace Go.Proofs.YtgobcjbjogkpjaaGreatDoor
open Go.RowKit
set_option maxRecDepth 100000
def zsZ (a b:zaa):Bool:=a.fKey==b.fKey&&(a.fVal==b.fVal&&(a.fGone==b.fGone))
theorem zxU (a b:zaa):zsZ a b=zsZ b a:=by
 unfold zsZ
 rw [show(a.fKey==b.fKey)=(b.fKey==a.fKey)from BEq.comm,show(a.fVal==b.fVal)=(b.fVal==a.fVal)from BEq.comm,show(a.fGone==b.fGone)=(b.fGone==a.fGone)from BEq.comm]
theorem zy2 {a b:zaa} (h:zsZ a b=true):a.fKey=b.fKey:=by
 unfold zsZ at h
 simp only [Bool.and_eq_true,beq_iff_eq]at h
 exact h.1
def zhZ (w:zaa):zdG:=⟨w.fKey.drop 2::zbn 44 w.fVal⟩
def zet (t:zab) (w:zaa):Bool:=zbp t (zhZ w)&&zsZ (zk0 t (zhZ w)) w
def zor (w:zaa):Prop:=w.fKey.length≤1000∧w.fVal.length≤1000
theorem zmD {w:zaa} (h:zor w):Small (zhZ w).fVals:=by
 have h1:=zlU 44 w.fVal
 have h2:w.fVal.count 44≤w.fVal.length:=List.count_le_length
 have h3:=zoG 44 w.fVal
 obtain⟨k,v⟩:=h
 refine⟨?_, ?_⟩
 ·show(w.fKey.drop 2::zbn 44 w.fVal).length≤_
  rw [List.length_cons];omega
 ·show zef (w.fKey.drop 2::zbn 44 w.fVal)≤_
  rw [zef,List.length_drop];omega
theorem zy8 {t:zab} {w:zaa} (h:zbp t (zhZ w)=true):3≤w.fKey.length:=by
 unfold zbp zhZ at h
 simp only [Bool.and_eq_true,List.all_cons,field,zbb,List.length_drop]at h
 omega
theorem zC7 {t:zab} {w:zaa} (ht:t.fName.length≤2000000) (h:zor w): ∃r,zhr t w=some (r,zet t w)∧(zet t w=true→r=zhZ w):=by
 have hs:=zmD h
 have hsp:=zlU 44 w.fVal
 have hct:w.fVal.count 44≤w.fVal.length:=List.count_le_length
 obtain⟨hk,hv⟩:=h
 unfold zhr
 by_cases h3:w.fKey.length<3
 ·rw [if_pos (by simp;omega)]
  have:zet t w=false:=by
   unfold zet
   cases hg:zbp t (zhZ w)with
   |false=>rfl
   |true=>have:=zy8 hg;omega
  exact⟨_,by rw [this],by rw [this];intro h;cases h⟩
 ·have hw:zfZ w.fKey 2 (w.fKey.length:Int)=w.fKey.drop 2:=by
   have:=zDu w.fKey 2 w.fKey.length
   rw [List.take_length]at this
   exact this
  have hsplit:zdT w.fVal 44=some (zbn 44 w.fVal):=zwS (c:=44) (by omega)
  have hr:(([w.fKey.drop 2]:List Str).length+(zbn 44 w.fVal).length:Int)*16≤140737488355328∧(([w.fKey.drop 2]:List Str).length:Int)+(zbn 44 w.fVal).length≤140737488355328:=by
   rw [List.length_singleton];omega
  rw [if_neg (by simp;omega),zad (by omega),hsplit,Option.bind_some,hw,zad hr]
  rw [show(⟨[w.fKey.drop 2]++zbn 44 w.fVal⟩:zdG)=zhZ w from rfl,zkf hs,Option.bind_some]
  unfold zet
  cases hg:zbp t (zhZ w)with
  |false=>exact⟨_,by rw [if_neg (by simp)];rfl,by simp⟩
  |true=>
   rw [if_pos rfl,ztZ ht hs (by simp [zhZ]),Option.bind_some]
   exact⟨zhZ w,by rw [Bool.true_and];rfl,fun _=>rfl⟩
theorem zDG {t:zab} {w:zaa} (ht:t.fName.length=1) (h:zor w): ∃r,zdp t w=some (r,zet t w)∧(zet t w=true→r=zhZ w):=by
 have hs:=zmD h
 have hsp:=zlU 44 w.fVal
 have hct:w.fVal.count 44≤w.fVal.length:=List.count_le_length
 obtain⟨hk,hv⟩:=h
 unfold zdp
 have hsplit:zff w.fVal [44]=some (zbn 44 w.fVal):=zAQ (by omega)
 rw [zad (by rw [List.length_singleton];omega),zEx (by omega),Option.bind_some,hsplit,Option.bind_some]
 have hr: ∀x:Str,(([x]:List Str).length+(zbn 44 w.fVal).length:Int)*16≤140737488355328∧(([x]:List Str).length:Int)+(zbn 44 w.fVal).length≤140737488355328:=by
  intro x;rw [List.length_singleton];omega
 rw [zad (hr _)]
 cases hp:(t.fName++ [47]).isPrefixOf w.fKey with
 |false=>
  have hno:zet t w=false:=by
   unfold zet
   cases hw:zsZ (zk0 t (zhZ w)) w with
   |false=>simp
   |true=>
    have hkey:=zy2 hw
    rw [←Bool.not_eq_true,List.isPrefixOf_iff_prefix]at hp
    exact absurd ⟨_,hkey⟩ hp
  rw [hno]
  exact⟨_,by rw [if_neg (by simp)],by simp⟩
 |true=>
  have hl:(t.fName++ [47]).length=2:=by rw [List.length_append,ht];rfl
  simp only [if_true,hl]
  rw [show(⟨[w.fKey.drop 2]++zbn 44 w.fVal⟩:zdG)=zhZ w from rfl,zjX hs,Option.bind_some]
  unfold zet
  cases hg:zbp t (zhZ w)with
  |false=>exact⟨_,by rw [if_neg (by simp)];rfl,by simp⟩
  |true=>
   rw [if_pos rfl,zpX (by omega) hs (by simp [zhZ]),Option.bind_some]
   rw [show(w.fKey==(zk0 t (zhZ w)).fKey&&(w.fVal==(zk0 t (zhZ w)).fVal&&w.fGone==(zk0 t (zhZ w)).fGone))=zsZ w (zk0 t (zhZ w))from rfl,zxU]
   cases zsZ (zk0 t (zhZ w)) w with
   |false=>exact⟨_,by rw [if_pos (by simp)];rfl,by simp⟩
   |true=>exact⟨_,by rw [if_neg (by simp)];rfl,fun _=>rfl⟩
end Go.Proofs.YtgobcjbjogkpjaaGreatDoor
end
section
namespace Go.Proofs.YtgobcjbjogkpjaaGreatDoor
open Go.RowKit
set_option maxRecDepth 100000
theorem ziU {α β:Type} (p:α→Bool) (f:α→β) (l:List α) (o:List β):l.foldl (fun o x=>if p x=true then o++ [f x]else o) o=o++(l.filter p).map f:=by
 induction l generalizing o with
 |nil=>simp
 |cons x l ih=>
  rw [List.foldl_cons,ih,List.filter_cons]
  cases p x<;>simp
def rows (t:zab) (l:List zaa):List zdG:=(l.filter (zet t)).map zhZ
theorem zBx {t:zab} {l:List zaa} (ht:t.fName.length≤2000000) (hl:l.length≤2000000) (h: ∀w∈l,zor w):zjx t l=some (rows t l):=by
 have h1:=zbN (xs:=l) (body:=fun s:List zdG × Int=>zc8 t l s.1 s.2) (fun i (o:List zdG)=>(o,i)) (fun o w=>if zet t w=true then o++ [zhZ w]else o) (fun o=>some o) (fun i o=>o.length≤i)
  (fun i hi o hI=>by
   have hI:o.length≤i:=hI
   obtain⟨r,e,hr⟩:=zC7 ht (h _ (List.getElem_mem hi))
   have hw:=zaN hi (by omega:l.length≤_)
   refine⟨?_,by
    show List.length (if zet t l[i]=true then o++ [zhZ l[i]]else o)≤i+1
    split
    ·rw [List.length_append,List.length_singleton];omega
    ·omega⟩
   show zc8 t l o i=_
   unfold zc8
   rw [if_pos (by simpa using hi),zac hi,Option.bind_some,e,Option.bind_some,hw]
   cases hb:zet t l[i]with
   |false=>rfl
   |true=>
    have hq:((o.length:Int)+(([r]:List zdG).length:Int))*24≤140737488355328∧(o.length:Int)+(([r]:List zdG).length:Int)≤140737488355328:=by
     rw [List.length_singleton];omega
    rw [if_pos rfl,zad hq,if_pos rfl,hr hb])
  (fun o _=>by
   show zc8 t l o l.length=_
   unfold zc8
   rw [if_neg (by simp)]) (s:= []) (by simp)
 rw [ziU]at h1
 exact h1.1
theorem zA9 {t:zab} {l:List zaa} (ht:t.fName.length=1) (hl:l.length≤2000000) (h: ∀w∈l,zor w):ze7 t l=some (rows t l):=by
 have h1:=zbN (xs:=l) (body:=fun s:Int × List zdG=>za6 t l s.1 s.2) (fun i (o:List zdG)=>(i,o)) (fun o w=>if zet t w=true then o++ [zhZ w]else o) (fun o=>some o) (fun i o=>o.length≤i)
  (fun i hi o hI=>by
   have hI:o.length≤i:=hI
   obtain⟨r,e,hr⟩:=zDG ht (h _ (List.getElem_mem hi))
   have hw:=zaN hi (by omega:l.length≤_)
   refine⟨?_,by
    show List.length (if zet t l[i]=true then o++ [zhZ l[i]]else o)≤i+1
    split
    ·rw [List.length_append,List.length_singleton];omega
    ·omega⟩
   show za6 t l i o=_
   unfold za6
   rw [if_pos (by simpa using hi),zac hi,Option.bind_some,e,Option.bind_some,hw]
   cases hb:zet t l[i]with
   |false=>rfl
   |true=>
    have hq:((o.length:Int)+(([r]:List zdG).length:Int))*24≤140737488355328∧(o.length:Int)+(([r]:List zdG).length:Int)≤140737488355328:=by
     rw [List.length_singleton];omega
    rw [if_pos rfl,zad hq,if_pos rfl,hr hb])
  (fun o _=>by
   show za6 t l l.length o=_
   unfold za6
   rw [if_neg (by simp)]) (s:= []) (by simp)
 rw [ziU]at h1
 exact h1.1
def head (t:zab) (n:Str):Str:=t.fName++ [46]++n
def zf2 (t:zab) (n:Str) (k:Str):Bool:=match zbn 47 k with
 | [x,y,z]=>x==head t n&&field y&&field z
 |_=>false
theorem zAY {t:zab} {n k:Str} (ht:t.fName.length≤2000000) (hn:n.length≤2000000) (hk:k.length≤1000000): ∃a b,zeq t n k=some (a,b,zf2 t n k):=by
 have hsm:=zv5 (c:=47) hk
 have he:zdT k 47=some (zbn 47 k):=zwS (c:=47) (by omega)
 unfold zeq zf2
 rw [he,Option.bind_some]
 generalize zbn 47 k=ps at hsm
 match ps,hsm with
 | [],_=>exact⟨_,_,by rw [if_pos (by simp)]⟩
 | [_],_=>exact⟨_,_,by rw [if_pos (by simp)]⟩
 | [_,_],_=>exact⟨_,_,by rw [if_pos (by simp)]⟩
 |_::_::_::_::l,_=>exact⟨_,_,by rw [if_pos (by simp;omega)]⟩
 | [x,y,z],hsm=>
  have hy:=hsm.each y (by simp)
  have hz:=hsm.each z (by simp)
  dsimp only
  rw [if_neg (by simp),show zay [x,y,z] 0=some x from rfl,Option.bind_some,zad (by rw [List.length_singleton];omega),zad (by rw [List.length_append,List.length_singleton];omega)]
  rw [show(t.fName++ [46]++n)=head t n from rfl]
  by_cases hx:x=head t n
  ·rw [if_neg (by simp [hx]),show zay [x,y,z] 1=some y from rfl,Option.bind_some,ztW hy,Option.bind_some]
   have hx2:(x==head t n)=true:=by simpa using hx
   rw [hx2]
   cases field y with
   |false=>exact⟨_,_,by rw [if_neg (by simp)];rfl⟩
   |true=>
    rw [if_pos rfl,show zay [x,y,z] 2=some z from rfl,Option.bind_some,ztW hz,Option.bind_some]
    cases field z with
    |false=>exact⟨_,_,by rw [if_pos (by simp)];rfl⟩
    |true=>exact⟨_,_,by rw [if_neg (by simp)];rfl⟩
  ·have hx2:(x==head t n)=false:=by simpa using hx
   rw [hx2]
   exact⟨_,_,by rw [if_pos (by simpa [bne]using hx2)];rfl⟩
end Go.Proofs.YtgobcjbjogkpjaaGreatDoor
end
section
namespace Go.Proofs.YtgobcjbjogkpjaaGreatDoor
open Go.RowKit
set_option maxRecDepth 100000
theorem zxJ {c:UInt8} {s x y:Str} {r:List Str} (h:zbn c s=x::y::r): ∃q,s=x++c::q:=by
 rcases zgN s c with⟨_,h0⟩|⟨p,q,rfl,hp,_⟩
 ·rw [zg2 h0]at h;simp at h
 ·rw [zi6 hp]at h
  obtain⟨rfl,_⟩:=List.cons.inj h
  exact⟨q,rfl⟩
theorem zCz {x:Str} {c:UInt8} (hx:x.length≤2000000):(zfi x [c]=some (x, [],false)∧ ∀b∈x,b≠c)∨ ∃p q,x=p++c::q∧(∀b∈p,b≠c)∧zfi x [c]=some (p,q,true):=by
 have hi:zaS x [c]=some (Lib.indexByte x c):=rfl
 rcases zgN x c with⟨e,h0⟩|⟨p,q,rfl,hp,e⟩
 ·refine .inl ⟨?_,h0⟩
  unfold zfi zcc
  rw [hi,Option.bind_some,e,if_neg (by simp)]
  rfl
 ·refine .inr ⟨p,q,rfl,hp, ?_⟩
  rw [List.length_append,List.length_cons]at hx
  have hw:IntKind.i64.wrap ((p.length:Int)+(([c]:Str).length:Int))=((p.length+1:Nat):Int):=by rw [List.length_singleton,zaC (by omega) (by omega)];omega
  unfold zfi zcc
  rw [hi,Option.bind_some,e,if_pos (by simp),zad (by rw [List.length_append,List.length_cons];omega),hw,zad (by rw [List.length_append,List.length_cons];omega),zC6,zDu,List.take_length]
  have e1:(p++c::q).drop (p.length+1)=q:=by simp
  have e2:(p++c::q).take p.length=p:=by simp
  rw [e1,e2]
  rfl
theorem zBU {s:Str} (h:(47:UInt8)∈s):field s=false:=by
 unfold field zi4
 have:(s.all fun b=>zfD b||([]:Str).contains b)=false:=by
  rw [List.all_eq_false]
  exact⟨47,h,by decide⟩
 rw [this,Bool.and_false]
theorem zzp {t:zab} {n:Str} (ht:t.fName.length≤2000000) (hn:n.length≤2000000):zcg t n=some (head t n++ [47]):=by
 unfold zcg head
 rw [zad (by rw [List.length_singleton];omega),zad (by rw [List.length_append,List.length_singleton];omega),zad (by rw [List.length_append,List.length_append,List.length_singleton,List.length_singleton];omega)]
theorem zBl {t:zab} {n k:Str} (ht:t.fName.length≤2000000) (hn:n.length≤2000000) (hk:k.length≤1000000) (hh: ∀b∈head t n,b≠47): ∃a b,zct t n k=some (a,b,zf2 t n k):=by
 unfold zct
 rw [zzp ht hn,Option.bind_some,zEx (by omega),Option.bind_some]
 cases hp:(head t n++ [47]).isPrefixOf k with
 |false=>
  have hno:zf2 t n k=false:=by
   unfold zf2
   split
   ·rename_i x y z hs
    cases hx:x==head t n with
    |false=>simp
    |true=>
     obtain⟨q,hq⟩:=zxJ hs
     rw [←Bool.not_eq_true,List.isPrefixOf_iff_prefix]at hp
     refine absurd ⟨q, ?_⟩ hp
     rw [hq,(by simpa using hx:x=head t n)]
     simp
   ·rfl
  rw [hno]
  simp only [Bool.false_eq_true,if_false]
  rcases zCz (x:=k) (c:=47) (by omega)with⟨e,_⟩|⟨p,q,_,_,e⟩
  ·rw [e];exact⟨_,_,rfl⟩
  ·rw [e];exact⟨_,_,rfl⟩
 |true=>
  obtain⟨rest,hrest⟩:=List.isPrefixOf_iff_prefix.1 hp
  have hk2:k=head t n++47::rest:=by rw [←hrest];simp
  have hd:k.drop (head t n++ [47]).length=rest:=by rw [←hrest,List.drop_left]
  have hsp:zbn 47 k=head t n::zbn 47 rest:=by rw [hk2,zi6 hh]
  have hlen:rest.length≤1000000:=by
   have:k.length=(head t n).length+(rest.length+1):=by rw [hk2,List.length_append,List.length_cons]
   omega
  simp only [if_true,hd]
  unfold zf2
  rw [hsp]
  rcases zCz (x:=rest) (c:=47) (by omega)with⟨e,h0⟩|⟨p,q,rfl,hp2,e⟩
  ·rw [e,zg2 h0]
   exact⟨_,_,rfl⟩
  ·rw [e,zi6 hp2,Option.bind_some]
   rw [List.length_append,List.length_cons]at hlen
   simp only [if_true]
   rw [zpm (s:=p) (by omega),Option.bind_some]
   rcases zgN q 47 with⟨_,h0⟩|⟨p3,q3,rfl,hp3,_⟩
   ·rw [zg2 h0]
    dsimp only
    rw [beq_self_eq_true,Bool.true_and]
    cases field p with
    |false=>exact⟨_,_,rfl⟩
    |true=>
     rw [if_pos rfl,zpm (s:=q) (by omega),Option.bind_some]
     cases field q with
     |false=>exact⟨_,_,rfl⟩
     |true=>exact⟨_,_,rfl⟩
   ·have hf:field (p3++47::q3)=false:=zBU (by simp)
    rw [zi6 hp3]
    cases hq:zbn 47 q3 with
    |nil=>exact absurd hq (zpB _ _)
    |cons x xs=>
     dsimp only
     cases field p with
     |false=>exact⟨_,_,rfl⟩
     |true=>
      rw [if_pos rfl,zpm (by rw [List.length_append,List.length_cons]at hlen ⊢;omega),Option.bind_some,hf]
      exact⟨_,_,rfl⟩
end Go.Proofs.YtgobcjbjogkpjaaGreatDoor
end
section
namespace Go.Proofs.YtgobcjbjogkpjaaGreatDoor
open Go.RowKit
set_option maxRecDepth 100000
def zie (t:zab) (n:Str) (l:List zaa):List Str:=(l.filter fun w=>zf2 t n w.fKey).map (·.fKey)
theorem zxR {t:zab} {n:Str} {l:List zaa} (ht:t.fName.length≤2000000) (hn:n.length≤2000000) (hl:l.length≤2000000) (h: ∀w∈l,zor w):zea t n l=some (zie t n l):=by
 have h1:=zbN (xs:=l) (body:=fun s:List Str × Int=>zb7 t n l s.1 s.2) (fun i (o:List Str)=>(o,i)) (fun o w=>if zf2 t n w.fKey=true then o++ [w.fKey]else o) (fun o=>some o) (fun i o=>o.length≤i)
  (fun i hi o hI=>by
   have hI:o.length≤i:=hI
   have htw:=h _ (List.getElem_mem hi)
   obtain⟨a,b,e⟩:=zAY (t:=t) (n:=n) (k:=l[i].fKey) ht hn (by have:=htw.1;omega)
   have hw:=zaN hi (by omega:l.length≤_)
   refine⟨?_,by
    show List.length (if zf2 t n l[i].fKey=true then o++ [l[i].fKey]else o)≤i+1
    split
    ·rw [List.length_append,List.length_singleton];omega
    ·omega⟩
   show zb7 t n l o i=_
   unfold zb7
   rw [if_pos (by simpa using hi),zac hi,Option.bind_some,e,Option.bind_some,hw]
   cases hb:zf2 t n l[i].fKey with
   |false=>rfl
   |true=>
    have hq:((o.length:Int)+(([l[i].fKey]:List Str).length:Int))*16≤140737488355328∧(o.length:Int)+(([l[i].fKey]:List Str).length:Int)≤140737488355328:=by
     rw [List.length_singleton];omega
    rw [if_pos rfl,zad hq,if_pos rfl])
  (fun o _=>by
   show zb7 t n l o l.length=_
   unfold zb7
   rw [if_neg (by simp)]) (s:= []) (by simp)
 rw [ziU (fun w:zaa=>zf2 t n w.fKey) (fun w=>w.fKey)]at h1
 exact h1.1
theorem zxM {t:zab} {n:Str} {l:List zaa} (ht:t.fName.length≤2000000) (hn:n.length≤2000000) (hh: ∀b∈head t n,b≠47) (hl:l.length≤2000000) (h: ∀w∈l,zor w):zbT t n l=some (zie t n l):=by
 have h1:=zbN (xs:=l) (body:=fun s:Int × List Str=>zaY t n l s.1 s.2) (fun i (o:List Str)=>(i,o)) (fun o w=>if zf2 t n w.fKey=true then o++ [w.fKey]else o) (fun o=>some o) (fun i o=>o.length≤i)
  (fun i hi o hI=>by
   have hI:o.length≤i:=hI
   have htw:=h _ (List.getElem_mem hi)
   obtain⟨a,b,e⟩:=zBl (t:=t) (n:=n) (k:=l[i].fKey) ht hn (by have:=htw.1;omega) hh
   have hw:=zaN hi (by omega:l.length≤_)
   refine⟨?_,by
    show List.length (if zf2 t n l[i].fKey=true then o++ [l[i].fKey]else o)≤i+1
    split
    ·rw [List.length_append,List.length_singleton];omega
    ·omega⟩
   show zaY t n l i o=_
   unfold zaY
   rw [if_pos (by simpa using hi),zac hi,Option.bind_some,e,Option.bind_some,hw]
   cases hb:zf2 t n l[i].fKey with
   |false=>rfl
   |true=>
    have hq:((o.length:Int)+(([l[i].fKey]:List Str).length:Int))*16≤140737488355328∧(o.length:Int)+(([l[i].fKey]:List Str).length:Int)≤140737488355328:=by
     rw [List.length_singleton];omega
    rw [if_pos rfl,zad hq,if_pos rfl])
  (fun o _=>by
   show zaY t n l l.length o=_
   unfold zaY
   rw [if_neg (by simp)]) (s:= []) (by simp)
 rw [ziU (fun w:zaa=>zf2 t n w.fKey) (fun w=>w.fKey)]at h1
 exact h1.1
def zEv (a b:List Str):List Str:=a.filter fun k=> !b.contains k
theorem zAf {a b:List Str} (ha:a.length≤2000000) (hb:b.length≤2000000):zhF a b=some (zEv a b):=by
 have h1:=zbN (xs:=a) (body:=fun s:List Str × Int=>zda a b s.1 s.2) (fun i (o:List Str)=>(o,i)) (fun o k=>if(!b.contains k)=true then o++ [k]else o) (fun o=>some o) (fun i o=>o.length≤i)
  (fun i hi o hI=>by
   have hI:o.length≤i:=hI
   have hw:=zaN hi (by omega:a.length≤_)
   have hx:decide (zig (fun x=>x==a[i]) b<0)= !b.contains a[i]:=by
    rw [←zz6,←zlJ,←decide_not]
    rw [decide_eq_decide];omega
   refine⟨?_,by
    show List.length (if(!b.contains a[i])=true then o++ [a[i]]else o)≤i+1
    split
    ·rw [List.length_append,List.length_singleton];omega
    ·omega⟩
   show zda a b o i=_
   unfold zda
   rw [if_pos (by simpa using hi),zac hi,Option.bind_some,zD0 hb,Option.bind_some,hw,hx]
   cases hc:b.contains a[i]with
   |true=>rfl
   |false=>
    have hq:((o.length:Int)+(([a[i]]:List Str).length:Int))*16≤140737488355328∧(o.length:Int)+(([a[i]]:List Str).length:Int)≤140737488355328:=by
     rw [List.length_singleton];omega
    rw [if_pos (by rfl),zad hq,if_pos (by rfl)])
  (fun o _=>by
   show zda a b o a.length=_
   unfold zda
   rw [if_neg (by simp)]) (s:= []) (by simp)
 rw [ziU (fun k:Str=> !b.contains k) (fun k=>k)]at h1
 have h2:=h1.1
 rw [List.nil_append,List.map_id']at h2
 exact h2
theorem zzi {a b:List Str} (ha:a.length≤2000000) (hb:b.length≤2000000):zfC a b=some (zEv a b):=by
 unfold zfC zaX ze6
 rw [zlX (by omega) (by omega),Option.bind_some,zad (by omega),zn3 (fun k=>b.contains k) (fun k _=>by simp only [zim,zCe hb,Option.bind_some])]
 rfl
end Go.Proofs.YtgobcjbjogkpjaaGreatDoor
end
section
namespace Go.Proofs.YtgobcjbjogkpjaaGreatDoor
open Go.RowKit
set_option maxRecDepth 100000
structure zgZ (t:zab) (n:Str) (x:zbB):Prop where
 at_:zay t.fIdxs (zig (fun y:zbB=>y.fName==n) t.fIdxs)=some x
 name:x.fName=n
 c0:1≤x.fCol
 c1:x.fCol≤(t.fCols.length:Int)-1
def zj0 (r:zdG) (c:Int):Str:=(r.fVals[c.toNat]?).getD []
def zk6 (t:zab) (n:Str) (c:Int) (r:zdG):Str:=head t n++ [47]++zj0 r c++ [47]++zj0 r 0
structure zub (t:zab) (r:zdG):Prop where
 len:r.fVals.length=t.fCols.length
 small:Small r.fVals
theorem zzF {t:zab} {l:List zaa} (h: ∀w∈l,zor w): ∀r∈rows t l,zub t r:=by
 intro r hr
 obtain⟨w,hw,rfl⟩:=List.mem_map.1 hr
 obtain⟨h1,h2⟩:=List.mem_filter.1 hw
 have h3:zet t w=true:=h2
 unfold zet zbp at h3
 simp only [Bool.and_eq_true,beq_iff_eq]at h3
 exact⟨by have:=h3.1.1;omega,zmD (h w h1)⟩
theorem zpY {t:zab} {r:zdG} (hr:zub t r) {c:Int} (h0:0≤c) (h1:c≤(t.fCols.length:Int)-1):zay r.fVals c=some (zj0 r c)∧(zj0 r c).length≤2000000:=by
 obtain⟨y,e,hm,e2⟩:=zoo (xs:=r.fVals) h0 (by have:=hr.len;omega)
 have hv:zj0 r c=y:=by simp [zj0,e2]
 rw [hv]
 exact⟨e,hr.small.each y hm⟩
theorem ztC {t:zab} {n:Str} {x:zbB} {r:zdG} (ht:t.fName.length≤2000000) (hn:n.length≤2000000) (hx:zgZ t n x) (hr:zub t r):zed t x r=some (zk6 t n x.fCol r):=by
 obtain⟨g1,l1⟩:=zpY hr (c:=x.fCol) (by have:=hx.c0;omega) hx.c1
 obtain⟨g2,l2⟩:=zpY hr (c:=0) (by omega) (by have:=hx.c0;have:=hx.c1;omega)
 have e:=hx.name
 subst e
 unfold zed zk6
 rw [zad (by simp only [head,List.length_append,List.length_cons,List.length_nil];omega),zad (by simp only [head,List.length_append,List.length_cons,List.length_nil];omega),zad (by simp only [head,List.length_append,List.length_cons,List.length_nil];omega),g1,Option.bind_some,
  zad (by simp only [head,List.length_append,List.length_cons,List.length_nil];omega),zad (by simp only [head,List.length_append,List.length_cons,List.length_nil];omega),g2,Option.bind_some,
  zad (by simp only [head,List.length_append,List.length_cons,List.length_nil];omega)]
 rfl
theorem ztN {t:zab} {n:Str} {x:zbB} {r:zdG} (hS:zdr t) (hn:n.length≤2000000) (hx:zgZ t n x) (hr:zub t r):zaZ t n r=some (zk6 t n x.fCol r):=by
 obtain⟨g1,l1⟩:=zpY hr (c:=x.fCol) (by have:=hx.c0;omega) hx.c1
 obtain⟨g2,l2⟩:=zpY hr (c:=0) (by omega) (by have:=hx.c0;have:=hx.c1;omega)
 have ht:=hS.name
 have hi:zbr t n=some x:=by
  unfold zbr
  rw [zuz hS,Option.bind_some,hx.at_];rfl
 unfold zaZ zk6
 rw [zzp ht hn,Option.bind_some,hi,Option.bind_some,g1,Option.bind_some,zad (by simp only [head,List.length_append,List.length_cons,List.length_nil];omega),zad (by simp only [head,List.length_append,List.length_cons,List.length_nil];omega),g2,Option.bind_some,zad (by simp only [head,List.length_append,List.length_cons,List.length_nil];omega)]
def wanted (t:zab) (n:Str) (x:zbB) (l:List zaa):List Str:=(rows t l).map (zk6 t n x.fCol)
theorem zt1 (t:zab) (l:List zaa):(rows t l).length≤l.length:=by
 unfold rows
 rw [List.length_map]
 exact List.length_filter_le _ _
theorem zyU {t:zab} {n:Str} {x:zbB} {l:List zaa} (hS:zdr t) (hn:n.length≤2000000) (hx:zgZ t n x) (hl:l.length≤2000000) (h: ∀w∈l,zor w):zeI t n l=some (wanted t n x l):=by
 have hin:=zzF (t:=t) h
 have hrl:=zt1 t l
 unfold zeI
 rw [zBx hS.name hl h,Option.bind_some]
 have h1:=zbN (xs:=rows t l) (body:=fun s:List Str × Int=>zco t n (rows t l) s.1 s.2) (fun i (o:List Str)=>(o,i)) (fun o r=>o++ [zk6 t n x.fCol r]) (fun o=>some o) (fun i o=>o.length=i)
  (fun i hi o hI=>by
   have hI:o.length=i:=hI
   have hw:=zaN hi (by omega)
   refine⟨?_,by show List.length _=_;rw [List.length_append,List.length_singleton];omega⟩
   show zco t n (rows t l) o i=_
   unfold zco
   have hq:((o.length:Int)+(([zk6 t n x.fCol (rows t l)[i]]:List Str).length:Int))*16≤140737488355328∧(o.length:Int)+(([zk6 t n x.fCol (rows t l)[i]]:List Str).length:Int)≤140737488355328:=by
    rw [List.length_singleton];omega
   rw [if_pos (by simpa using hi),zac hi,Option.bind_some,zqf hS,Option.bind_some,hx.at_,Option.bind_some,ztC hS.name hn hx (hin _ (List.getElem_mem hi)),Option.bind_some,zad hq,hw])
  (fun o _=>by
   show zco t n (rows t l) o (rows t l).length=_
   unfold zco
   rw [if_neg (by simp)]) (s:= []) rfl
 rw [znG]at h1
 exact h1.1
theorem zzb {t:zab} {n:Str} {x:zbB} {l:List zaa} (hS:zdr t) (ht:t.fName.length=1) (hn:n.length≤2000000) (hx:zgZ t n x) (hl:l.length≤2000000) (h: ∀w∈l,zor w):zcx t n l=some (wanted t n x l):=by
 have hin:=zzF (t:=t) h
 have hrl:=zt1 t l
 unfold zcx
 rw [zA9 ht hl h,Option.bind_some]
 have h1:=zbN (xs:=rows t l) (body:=fun s:Int × List Str=>za7 t n (rows t l) s.1 s.2) (fun i (o:List Str)=>(i,o)) (fun o r=>o++ [zk6 t n x.fCol r]) (fun o=>some o) (fun i o=>o.length=i)
  (fun i hi o hI=>by
   have hI:o.length=i:=hI
   have hw:=zaN hi (by omega)
   refine⟨?_,by show List.length _=_;rw [List.length_append,List.length_singleton];omega⟩
   show za7 t n (rows t l) i o=_
   unfold za7
   have hq:((o.length:Int)+(([zk6 t n x.fCol (rows t l)[i]]:List Str).length:Int))*16≤140737488355328∧(o.length:Int)+(([zk6 t n x.fCol (rows t l)[i]]:List Str).length:Int)≤140737488355328:=by
    rw [List.length_singleton];omega
   rw [if_pos (by simpa using hi),zac hi,Option.bind_some,ztN hS hn hx (hin _ (List.getElem_mem hi)),Option.bind_some,zad hq,hw])
  (fun o _=>by
   show za7 t n (rows t l) (rows t l).length o=_
   unfold za7
   rw [if_neg (by simp)]) (s:= []) rfl
 rw [znG]at h1
 exact h1.1
end Go.Proofs.YtgobcjbjogkpjaaGreatDoor
end
section
namespace Go.Proofs.YtgobcjbjogkpjaaGreatDoor
open Go.RowKit
set_option maxRecDepth 100000
def holds (t:zab) (n:Str) (x:zbB) (lv:Int) (l:List zaa):Bool:=
 if lv==0 then((zie t n l).length:Int)==0
 else(((zEv (zie t n l) (wanted t n x l)).length:Int)==0)&&((lv==1)||(((zEv (wanted t n x l) (zie t n l)).length:Int)==0))
theorem zqw (t:zab) (n:Str) (l:List zaa):(zie t n l).length≤l.length:=by
 unfold zie;rw [List.length_map];exact List.length_filter_le _ _
theorem zsu (t:zab) (n:Str) (x:zbB) (l:List zaa):(wanted t n x l).length≤l.length:=by
 unfold wanted;rw [List.length_map];exact zt1 t l
theorem zBK {t:zab} {n:Str} {x:zbB} {lv:Int} {l:List zaa} (hS:zdr t) (ht:t.fName.length≤2000000) (hn:n.length≤2000000) (hx:zgZ t n x) (hl:l.length≤2000000) (h: ∀w∈l,zor w) (ha:zdk t n l=some true):zgh t n lv l=some (holds t n x lv l):=by
 have hE:=zxR ht hn hl h
 have hW:=zyU hS hn hx hl h
 have e1:=zqw t n l
 have e2:=zsu t n x l
 have h1:=zAf (a:=zie t n l) (b:=wanted t n x l) (by omega) (by omega)
 have h2:=zAf (a:=wanted t n x l) (b:=zie t n l) (by omega) (by omega)
 unfold zgh holds
 by_cases h0:(lv==0)=true
 ·rw [if_pos h0,if_pos h0,hE,Option.bind_some]
 ·rw [if_neg h0,if_neg h0]
  unfold zij zjw
  rw [ha,hE,hW]
  simp only [Option.bind_some,h1,h2,Bool.not_true,Bool.false_eq_true,if_false]
theorem zA5 {t:zab} {n:Str} {x:zbB} {lv:Int} {l:List zaa} (hS:zdr t) (ht:t.fName.length=1) (hn:n.length≤2000000) (hh: ∀b∈head t n,b≠47) (hx:zgZ t n x) (hl:l.length≤2000000) (h: ∀w∈l,zor w):zdo t n lv l=some (holds t n x lv l):=by
 have hE:=zxM (t:=t) (by omega) hn hh hl h
 have hW:=zzb hS ht hn hx hl h
 have e1:=zqw t n l
 have e2:=zsu t n x l
 have h1:=zzi (a:=zie t n l) (b:=wanted t n x l) (by omega) (by omega)
 have h2:=zzi (a:=wanted t n x l) (b:=zie t n l) (by omega) (by omega)
 unfold zdo holds
 by_cases h0:(lv==0)=true
 ·rw [if_pos h0,if_pos h0,hE,Option.bind_some]
 ·rw [if_neg h0,if_neg h0]
  unfold zcK zeT
  rw [hE,hW]
  simp only [Option.bind_some,h1,h2]
  by_cases h3:(lv==1)=true
  ·rw [if_pos h3,h3,Bool.true_or,Bool.and_true]
  ·rw [if_neg h3,Bool.eq_false_iff.2 h3,Bool.false_or]
   by_cases h4:(((zEv (zie t n l) (wanted t n x l)).length:Int)==0)=true
   ·rw [if_pos h4,h4,Bool.true_and]
   ·rw [if_neg h4,Bool.eq_false_iff.2 h4,Bool.false_and]
end Go.Proofs.YtgobcjbjogkpjaaGreatDoor
end
section
namespace Go.Proofs.YtgobcjbjogkpjaaGreatDoor
open Go.RowKit
set_option maxRecDepth 100000
def zm5 (t:zab) (n:Str):Bool:=zar t&&decide (zig (fun x:zbB=>x.fName==n) t.fIdxs≥0)
def zCN (t:zab) (n:Str) (l:List zaa):Bool:=zm5 t n&&zc1 l
theorem zDJ {t:zab} {n:Str} (hS:zdr t):ziN t n=some (zm5 t n):=by
 unfold ziN zm5
 rw [zAZ hS,Option.bind_some,zuz hS,Option.bind_some]
 cases zar t<;>simp
theorem zAI {t:zab} {n:Str} {l:List zaa} (hS:zdr t) (hW:zpT l):zdk t n l=some (zCN t n l):=by
 unfold zdk zCN zm5
 rw [znh hS,Option.bind_some,zqf hS,Option.bind_some,zqC hW,Option.bind_some]
 cases zar t<;>cases decide (zig (fun x:zbB=>x.fName==n) t.fIdxs≥0)<;>simp
theorem zDj {l:List zaa} (h:zc1 l=true): ∀w∈l,zor w:=by
 intro w hw
 unfold zc1 zd1 at h
 simp only [Bool.and_eq_true]at h
 have h1:=List.all_eq_true.1 h.1.2.1 w hw
 unfold zhW zcD zj9 zgL at h1
 simp only [Bool.and_eq_true,decide_eq_true_eq]at h1
 have h2:=zbb.1 h1.1.1
 have h3:=h1.2.1.1
 exact⟨by omega,by omega⟩
theorem zqy {s:Str} {k:Int} (h:zcA s k=true):(s.length:Int)≤k∧ ∀b∈s,b≠47:=by
 unfold zcA at h
 simp only [Bool.and_eq_true]at h
 refine⟨(zbb.1 h.2).2,fun b hb e=> ?_⟩
 have h1:=List.all_eq_true.1 h.1 b hb
 subst e
 exact absurd h1 (by decide)
theorem zjc {s:Str} (h:zcA s 1=true):s.length=1:=by
 unfold zcA at h
 simp only [Bool.and_eq_true]at h
 have:=zbb.1 h.2
 omega
theorem zlv {t:zab} (h:zar t=true):zcA t.fName 1=true:=by
 unfold zar at h
 simp only [Bool.and_eq_true]at h
 exact h.1.1.1
theorem ztj {t:zab} (h:zar t=true) {x:zbB} (hx:x∈t.fIdxs):zcA x.fName 1=true∧inB x.fCol 1 ((t.fCols.length:Int)-1)=true:=by
 unfold zar at h
 simp only [Bool.and_eq_true]at h
 obtain⟨i,hi,rfl⟩:=List.mem_iff_getElem.1 hx
 have h1:=List.all_eq_true.1 h.2 i (List.mem_range.2 hi)
 unfold znP at h1
 simp only [Bool.and_eq_true,List.getElem?_eq_getElem hi,Option.getD_some]at h1
 exact⟨h1.1.1.1,h1.1.1.2⟩
theorem zCl {t:zab} {n:Str} (h:zm5 t n=true): ∃x,zgZ t n x∧t.fName.length=1∧n.length=1∧ ∀b∈head t n,b≠47:=by
 unfold zm5 at h
 simp only [Bool.and_eq_true,decide_eq_true_eq]at h
 obtain⟨x,h1,h2,h3⟩:=zwy h.2
 have h4:=ztj h.1 h3
 have h5:=zbb.1 h4.2
 have h6:x.fName=n:=by simpa using h2
 have h7:=zlv h.1
 have h8:=h6▸h4.1
 refine⟨x,⟨h1,h6,h5.1,h5.2⟩,zjc h7,zjc h8,fun b hb=> ?_⟩
 unfold head at hb
 simp only [List.mem_append,List.mem_singleton]at hb
 rcases hb with(hb|hb)|hb
 ·exact(zqy h7).2 b hb
 ·subst hb;decide
 ·exact(zqy h8).2 b hb
end Go.Proofs.YtgobcjbjogkpjaaGreatDoor
end
section
namespace Go.Proofs.YtgobcjbjogkpjaaGreatDoor
open Go.RowKit
set_option maxRecDepth 100000
end Go.Proofs.YtgobcjbjogkpjaaGreatDoor
end

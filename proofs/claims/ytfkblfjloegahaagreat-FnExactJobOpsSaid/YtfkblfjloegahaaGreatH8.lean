/- Parts of a proof, joined: NX, QE, QT, TF, QF1, QF2, QR, N5, N6, N7, N8, N9, N10, N11, N12, N13, N14, N15, N16, N17, N18, N19, N20, N21, N22, PK, NK, NP, NQ, NR. -/
import Derived.Test.YtfkblfjloegahaaGreatH7
section
namespace Go.Proofs.YtfkblfjloegahaaGreat
open Go.RowKit
set_option maxRecDepth 100000
theorem zr2 {σ α:Type} {body:σ→Option (σ ⊕ Option α)} {s:σ} {o:Option α} (h:body s=some (.inr o)):zay body s=o:=by rw [zaO,h]
theorem zq6 {σ α:Type} {body:σ→Option (σ ⊕ Option α)} {s s':σ} (h:body s=some (.inl s')):zay body s=zay body s':=by rw [zaO,h]
theorem szL {α:Type} {xs:List α} {body:Int × Int→Option ((Int × Int) ⊕ Option Int)} (tot:α→Nat) {a:Int} (h0:0≤a) (h1:a≤1048576)
  (hs: ∀x∈xs,∀b:Int,0≤b→b≤1048576→ ∃v,v≤b∧(0≤v→(tot x:Int)=b-v)∧ ∀i:Nat,xs[i]?=some x→body (b,(i:Int))=some (if v<0 then .inr (some (-1))else .inl (v,((i+1:Nat):Int))))
  (he: ∀b,body (b,(xs.length:Int))=some (.inr (some b))): ∃v,zay body (a,0)=some v∧v≤a∧(0≤v→((xs.map tot).sum:Int)=a-v):=by
 have key: ∀(n q:Nat) (a:Int),q+n=xs.length→0≤a→a≤1048576→ ∃v,zay body (a,(q:Int))=some v∧v≤a∧(0≤v→(((xs.drop q).map tot).sum:Int)=a-v):=by
  intro n
  induction n with
  |zero=>
   intro q a hq h0 h1
   refine⟨a, ?_,by omega,fun _=> ?_⟩
   ·rw [zaO,show(q:Int)=(xs.length:Int) by omega,he]
   ·rw [List.drop_eq_nil_of_le (by omega)];simp
  |succ n ih=>
   intro q a hq h0 h1
   have hlt:q<xs.length:=by omega
   obtain⟨v,e1,e2,e3⟩:=hs xs[q] (List.getElem_mem hlt) a h0 h1
   rw [zaO,e3 q (List.getElem?_eq_getElem hlt)]
   by_cases hv:v<0
   ·rw [if_pos hv]
    exact⟨-1,rfl,by omega,by omega⟩
   ·rw [if_neg hv]
    obtain⟨u,f1,f2,f3⟩:=ih (q+1) v (by omega) (by omega) (by omega)
    refine⟨u,f1,by omega,fun hu=> ?_⟩
    have g1:=f3 hu
    have g2:=e2 (by omega)
    rw [List.drop_eq_getElem_cons hlt,List.map_cons,List.sum_cons]
    omega
 have:=key xs.length 0 a (by omega) h0 h1
 simpa using this
theorem zeH {α:Type} {tot:α→Nat}: ∀{xs:List α} {x:α},x∈xs→tot x≤(xs.map tot).sum
 |y::xs,x,h=>by
  rw [List.map_cons,List.sum_cons]
  rcases List.mem_cons.1 h with rfl|h
  ·omega
  ·have:=zeH (tot:=tot) h;omega
theorem zuz {α:Type} {cnt:α→Nat} {mb:Int × Int × List α→Option ((Int × Int × List α) ⊕ Option (Int × List α))} {hb:List α→Int × Int→Option ((Int × Int) ⊕ Option Int)} (B:Int) {xs:List α} {k:Int} (h0:0≤k) (hB:k+((xs.map cnt).sum:Nat)≤B)
  (hs: ∀x∈xs,∀k:Int,0≤k→k+cnt x≤B→ ∃y,(∀(i:Nat) (v:List α),v[i]?=some x→i<xs.length→mb (k,(i:Int),v)=some (.inl (k+cnt x,((i+1:Nat):Int),v.set i y)))∧ ∀(i:Nat) (ys:List α),ys[i]?=some y→i<xs.length→hb ys (k,(i:Int))=some (.inl (k+cnt x,((i+1:Nat):Int))))
  (he: ∀k v,v.length=xs.length→mb (k,(xs.length:Int),v)=some (.inr (some (k,v)))) (hh: ∀k ys,ys.length=xs.length→hb ys (k,(xs.length:Int))=some (.inr (some k))):
  ∃ys,ys.length=xs.length∧zay mb (k,0,xs)=some (k+((xs.map cnt).sum:Nat),ys)∧zay (hb ys) (k,0)=some (k+((xs.map cnt).sum:Nat)):=by
 have key: ∀(suf pre:List α) (k:Int),pre.length+suf.length=xs.length→(∀x∈suf,x∈xs)→0≤k→k+((suf.map cnt).sum:Nat)≤B→
   ∃suf':List α,suf'.length=suf.length∧zay mb (k,(pre.length:Int),pre++suf)=some (k+((suf.map cnt).sum:Nat),pre++suf')∧zay (hb (pre++suf')) (k,(pre.length:Int))=some (k+((suf.map cnt).sum:Nat)):=by
  intro suf
  induction suf with
  |nil=>
   intro pre k hl _ _ _
   have hl':(pre.length:Int)=(xs.length:Int):=by simp at hl;omega
   have hl2:pre.length=xs.length:=by omega
   refine⟨[],rfl, ?_, ?_⟩
   ·rw [zaO,hl',he _ _ (by simpa using hl2)];simp
   ·rw [zaO,hl',hh _ _ (by simpa using hl2)];simp
  |cons x t ih=>
   intro pre k hl hm h0 hb'
   rw [List.map_cons,List.sum_cons]at hb' ⊢
   obtain⟨y,e1,e2⟩:=hs x (hm x (by simp)) k h0 (by omega)
   rw [List.length_cons]at hl
   obtain⟨t',f1,f2,f3⟩:=ih (pre++ [y]) (k+cnt x) (by simp;omega) (fun z hz=>hm z (by simp [hz])) (by omega) (by omega)
   have ea:pre++y::t'=pre++ [y]++t':=by simp
   have eb:(pre++x::t).set pre.length y=pre++ [y]++t:=by simp
   have ec:(((pre++ [y]).length:Nat):Int)=((pre.length+1:Nat):Int):=by simp
   refine⟨y::t',by simp [f1], ?_, ?_⟩
   ·rw [zaO,e1 pre.length _ (by simp) (by omega),eb]
    show zay mb (k+cnt x,((pre.length+1:Nat):Int),pre++ [y]++t)=_
    rw [←ec,f2,ea]
    congr 2
    omega
   ·rw [zaO,e2 pre.length _ (by simp) (by omega),ea]
    show zay (hb (pre++ [y]++t')) (k+cnt x,((pre.length+1:Nat):Int))=_
    rw [←ec,f3]
    congr 1
    omega
 have:=key xs [] k (by simp) (fun _ h=>h) h0 hB
 simpa using this
theorem zkm {α:Type} {cnt:α→Nat} {mb:Int × Int × List α→Option ((Int × Int × List α) ⊕ Option (Int × List α))} (B:Int) {xs:List α} {k:Int} (h0:0≤k) (hB:k+((xs.map cnt).sum:Nat)≤B)
  (hs: ∀x∈xs,∀k:Int,0≤k→k+cnt x≤B→ ∃y,∀(i:Nat) (v:List α),v[i]?=some x→i<xs.length→mb (k,(i:Int),v)=some (.inl (k+cnt x,((i+1:Nat):Int),v.set i y)))
  (he: ∀k v,v.length=xs.length→mb (k,(xs.length:Int),v)=some (.inr (some (k,v)))):
  ∃ys,ys.length=xs.length∧zay mb (k,0,xs)=some (k+((xs.map cnt).sum:Nat),ys):=by
 have key: ∀(suf pre:List α) (k:Int),pre.length+suf.length=xs.length→(∀x∈suf,x∈xs)→0≤k→k+((suf.map cnt).sum:Nat)≤B→
   ∃suf':List α,suf'.length=suf.length∧zay mb (k,(pre.length:Int),pre++suf)=some (k+((suf.map cnt).sum:Nat),pre++suf'):=by
  intro suf
  induction suf with
  |nil=>
   intro pre k hl _ _ _
   have hl':(pre.length:Int)=(xs.length:Int):=by simp at hl;omega
   have hl2:pre.length=xs.length:=by omega
   refine⟨[],rfl, ?_⟩
   rw [zaO,hl',he _ _ (by simpa using hl2)];simp
  |cons x t ih=>
   intro pre k hl hm h0 hb'
   rw [List.map_cons,List.sum_cons]at hb' ⊢
   obtain⟨y,e1⟩:=hs x (hm x (by simp)) k h0 (by omega)
   rw [List.length_cons]at hl
   obtain⟨t',f1,f2⟩:=ih (pre++ [y]) (k+cnt x) (by simp;omega) (fun z hz=>hm z (by simp [hz])) (by omega) (by omega)
   have ea:pre++y::t'=pre++ [y]++t':=by simp
   have eb:(pre++x::t).set pre.length y=pre++ [y]++t:=by simp
   have ec:(((pre++ [y]).length:Nat):Int)=((pre.length+1:Nat):Int):=by simp
   refine⟨y::t',by simp [f1], ?_⟩
   rw [zaO,e1 pre.length _ (by simp) (by omega),eb]
   show zay mb (k+cnt x,((pre.length+1:Nat):Int),pre++ [y]++t)=_
   rw [←ec,f2,ea]
   congr 2
   omega
 have:=key xs [] k (by simp) (fun _ h=>h) h0 hB
 simpa using this
theorem zjF {α:Type} (xs:List α) (n:Nat):(xs.map fun _=>n).sum=n*xs.length:=by
 induction xs with
 |nil=>simp
 |cons x xs ih=>rw [List.map_cons,List.sum_cons,ih,List.length_cons,Nat.mul_add];omega
end Go.Proofs.YtfkblfjloegahaaGreat
end
section
namespace Go.Proofs.YtfkblfjloegahaaGreat
open Go.RowKit
set_option maxRecDepth 100000
theorem zeu {α:Type} {xs:List α} {i:Nat} {x:α} (h:xs[i]?=some x):zbD xs (i:Int)=some x:=by simp [zbD,h]
noncomputable def mt (n:Int):List UInt8:=(zaK n).getD []
theorem zed {n:Int} (h:n≤4611686018427387904):zaK n=some (mt n):=by
 have key: ∃t,zaK n=some t:=by
  unfold zaK
  by_cases h0:n≤0
  ·rw [if_pos (by simpa using h0)];exact⟨_,rfl⟩
  ·rw [if_neg (by simpa using h0)]
   have go: ∀(f:Nat) (n:Int) (s:List UInt8),n.toNat≤f→0≤n→n+s.length≤4611686018427387905→ ∃t,zay (fun s:Int × List UInt8=>za1 s.1 s.2) (n,s)=some t:=by
    intro f
    have stop: ∀(n:Int) (s:List UInt8),¬n>0→s.length≤4611686018427387905→zay (fun s:Int × List UInt8=>za1 s.1 s.2) (n,s)=some ([109]++s):=fun n s hz hs=>by
     refine zr2 (?_:za1 n s=_)
     unfold za1
     rw [if_neg (by simpa using hz)]
     unfold zfh
     rw [zau (by rw [List.length_singleton];omega)]
    induction f with
    |zero=>
     intro n s hf hn hs
     exact⟨_,stop n s (by omega) (by omega)⟩
    |succ f ih=>
     intro n s hf hn hs
     by_cases hz:n>0
     ·have hd:Int.tdiv n 10<n∧0≤Int.tdiv n 10:=by
       rw [Int.tdiv_eq_ediv_of_nonneg hn];omega
      obtain⟨t,ht⟩:=ih (Int.tdiv n 10) ([(IntKind.u8.wrap (IntKind.i64.wrap ((48:Int)+(Int.tmod n 10))))].map (fun n=>UInt8.ofNat n.toNat)++s) (by omega) (by omega) (by simp only [List.length_append,List.length_map,List.length_singleton];omega)
      have e:za1 n s=some (.inl (Int.tdiv n 10, [(IntKind.u8.wrap (IntKind.i64.wrap ((48:Int)+(Int.tmod n 10))))].map (fun n=>UInt8.ofNat n.toNat)++s)):=by
       unfold za1
       rw [if_pos (by simpa using hz),zau (by simp),zau (by rw [List.length_map,List.length_singleton];omega),zbr (n:=Int.tdiv n 10) (by omega) (by omega)]
      exact⟨t,(zq6 (body:=fun s:Int × List UInt8=>za1 s.1 s.2) e).trans ht⟩
     ·exact⟨_,stop n s hz (by omega)⟩
   exact go n.toNat n [] (Nat.le_refl _) (by omega) (by simp;omega)
 obtain⟨t,ht⟩:=key
 rw [mt,ht];rfl
def zaD (l:List (List UInt8)):Nat:=l.length+(l.map (fun x:List UInt8=>x.length)).sum
theorem zlE {xs:List (List UInt8)} (h:zaD xs≤2000000):zbA xs=some xs:=by
 have hl:xs.length≤2000000:=by unfold zaD at h;omega
 have hx: ∀x∈xs,x.length≤2000000:=fun x hx=>by have:=zeH (tot:=(fun x:List UInt8=>x.length)) hx;unfold zaD at h;omega
 unfold zbA
 rw [zau (by omega)]
 exact zn5 (fun i hi v hv=>by
  show zaI xs i v=_
  unfold zaI
  rw [if_pos (by simpa using hi),zai hi,Option.bind_some,zai (by omega),Option.bind_some,zb7 hi (by omega)];rfl) (fun v=>by
  show zaI xs _ v=_
  unfold zaI
  rw [if_neg (by simp)])
theorem zlR {xs:List (List UInt8)} (h:zaD xs≤2000000):zby xs xs=some true:=by
 have hl:xs.length≤2000000:=by unfold zaD at h;omega
 have hx: ∀x∈xs,x.length≤2000000:=fun x hx=>by have:=zeH (tot:=(fun x:List UInt8=>x.length)) hx;unfold zaD at h;omega
 unfold zby
 rw [if_neg (by simp)]
 exact zl2 (n:=xs.length) (fun i hi=>by
  show zaH xs xs i=_
  unfold zaH
  rw [if_pos (by simpa using hi),zai hi,Option.bind_some,Option.bind_some,if_neg (by simp),zb7 hi (by omega)]) (by
  show zaH xs xs _=_
  unfold zaH
  rw [if_neg (by simp)])
theorem zlL {xs:List (List UInt8)} {a:Int} (h0:0≤a) (h1:a≤1048576) (h:(okL zm5) xs): ∃v,zbx xs a=some v∧v≤a∧(0≤v→(zaD xs:Int)=a-v):=by
 have hl:xs.length≤9223372036854775807:=h.1
 unfold zbx zaD
 rw [zdz h0 h1 hl]
 by_cases h2:a-(xs.length:Int)<0
 ·rw [if_pos (by simpa using h2)];exact⟨-1,rfl,by omega,by omega⟩
 ·rw [if_neg (by simpa using h2)]
  obtain⟨v,e1,e2,e3⟩:=szL (xs:=xs) (body:=fun s:Int × Int=>zas xs s.1 s.2) (fun x:List UInt8=>x.length) (a:=a-xs.length) (by omega) (by omega) (fun x hx b hb0 hb1=>by
   refine⟨b-(x.length:Int),by omega,fun _=>by show(x.length:Int)=_;omega,fun i hi=> ?_⟩
   have hi':=(List.getElem?_eq_some_iff.1 hi).1
   show zas xs b i=_
   unfold zas
   rw [if_pos (by simpa using hi'),zeu hi,Option.bind_some,zdz hb0 hb1 (h.2 _ hx),zb7 hi' (by omega)]
   by_cases h3:b-(x.length:Int)<0
   ·rw [if_pos (by simpa using h3),if_pos h3]
   ·rw [if_neg (by simpa using h3),if_neg h3]) (fun b=>by
   show zas xs b _=_
   unfold zas
   rw [if_neg (by simp)])
  exact⟨v,e1,by omega,fun hv=>by have:=e3 hv;omega⟩
def zbC (l:List (List UInt8)):Nat:=(l.map fun x=>1).sum
theorem zia (l:List (List UInt8)):zbC l≤64*zaD l:=by
 unfold zbC zaD
 rw [zjF];omega
set_option maxHeartbeats 1000000 in
theorem zi4 {xs:List (List UInt8)} {k:Int} (h0:0≤k) (hk:k+(zbC xs:Nat)≤4611686018427387904) (h:zaD xs≤2000000): ∃ys,ys.length=xs.length∧zcL xs k=some (k+(zbC xs:Nat),ys):=by
 have hl:xs.length≤2000000:=by unfold zaD at h;omega
 refine zkm (cnt:=fun x:(List UInt8)=>1) (mb:=fun s:Int × Int × List (List UInt8)=>zbb s.1 s.2.1 s.2.2) 4611686018427387904 h0 hk (fun x hx k h0 hB=> ?_) (fun k v hv=> ?_)
 ·have hB:k+((1:Nat):Int)≤4611686018427387904:=hB
  have fin:k+1=k+(((1:Nat)):Int):=by omega
  refine⟨?y,fun i v hv hi=> ?_⟩
  rotate_left
  ·have hi':=(List.getElem?_eq_some_iff.1 hv).1
   show zbb k i v=_
   unfold zbb
   rw [if_pos (by simpa using hi')]
   simp only [zeu hv,zb7 hi (by omega:xs.length≤_),Int.toNat_natCast,List.set_set,Option.bind_some,(show IntKind.i64.wrap (k+1)=k+1 from zbr (by omega) (by omega)),zed (n:=k) (by omega)]
   rw [fin]
 ·show zbb k _ v=_
  unfold zbb
  rw [if_neg (by simp [hv])]
def zeG (x:zbg):Nat:=x.fName.length
theorem zv3 {x:zbg} (h:zeG x≤2000000):zfe x=some x:=rfl
theorem zvz {x:zbg} (h:zeG x≤2000000):zdo x x=some true:=by
 unfold zdo
 simp []
theorem zv4 {x:zbg} {a:Int} (h0:0≤a) (h1:a≤1048576) (h:zrL x): ∃v,zdq x a=some v∧v≤a∧(0≤v→(zeG x:Int)=a-v):=by
 unfold zdq zeG
 rw [zdz (a:=a) (by omega) (by omega) h.1]
 by_cases q0:a-(x.fName.length:Int)<0
 ·rw [if_pos (by simpa using q0)];exact⟨-1,rfl,by omega,by omega⟩
 rw [if_neg (by simpa using q0)]
 exact⟨(a-(x.fName.length:Int)),rfl,by omega,fun _=>by omega⟩
def zcr (l:List zbg):Nat:=l.length+(l.map zeG).sum
theorem zun {xs:List zbg} (h:zcr xs≤2000000):zcZ xs=some xs:=by
 have hl:xs.length≤2000000:=by unfold zcr at h;omega
 have hx: ∀x∈xs,zeG x≤2000000:=fun x hx=>by have:=zeH (tot:=zeG) hx;unfold zcr at h;omega
 unfold zcZ
 rw [zau (by omega)]
 exact zn5 (fun i hi v hv=>by
  show za7 xs i v=_
  unfold za7
  rw [if_pos (by simpa using hi),zai hi,Option.bind_some,zv3 (hx _ (List.getElem_mem hi)),Option.bind_some,zai (by omega),Option.bind_some,zb7 hi (by omega)];rfl) (fun v=>by
  show za7 xs _ v=_
  unfold za7
  rw [if_neg (by simp)])
theorem zu2 {xs:List zbg} (h:zcr xs≤2000000):zc0 xs xs=some true:=by
 have hl:xs.length≤2000000:=by unfold zcr at h;omega
 have hx: ∀x∈xs,zeG x≤2000000:=fun x hx=>by have:=zeH (tot:=zeG) hx;unfold zcr at h;omega
 unfold zc0
 rw [if_neg (by simp)]
 exact zl2 (n:=xs.length) (fun i hi=>by
  show za6 xs xs i=_
  unfold za6
  rw [if_pos (by simpa using hi),zai hi,Option.bind_some,Option.bind_some,zvz (hx _ (List.getElem_mem hi)),Option.bind_some,if_neg (by simp),zb7 hi (by omega)]) (by
  show za6 xs xs _=_
  unfold za6
  rw [if_neg (by simp)])
theorem zuc {xs:List zbg} {a:Int} (h0:0≤a) (h1:a≤1048576) (h:(okL zrL) xs): ∃v,zcY xs a=some v∧v≤a∧(0≤v→(zcr xs:Int)=a-v):=by
 have hl:xs.length≤9223372036854775807:=h.1
 unfold zcY zcr
 rw [zdz h0 h1 hl]
 by_cases h2:a-(xs.length:Int)<0
 ·rw [if_pos (by simpa using h2)];exact⟨-1,rfl,by omega,by omega⟩
 ·rw [if_neg (by simpa using h2)]
  obtain⟨v,e1,e2,e3⟩:=szL (xs:=xs) (body:=fun s:Int × Int=>zav xs s.1 s.2) zeG (a:=a-xs.length) (by omega) (by omega) (fun x hx b hb0 hb1=>by
   obtain⟨r,e1,e2,e3⟩:=zv4 (x:=x) hb0 hb1 (h.2 _ hx)
   refine⟨r,e2,e3,fun i hi=> ?_⟩
   have hi':=(List.getElem?_eq_some_iff.1 hi).1
   show zav xs b i=_
   unfold zav
   rw [if_pos (by simpa using hi'),zeu hi,Option.bind_some,e1,Option.bind_some,zb7 hi' (by omega)]
   by_cases h3:r<0
   ·rw [if_pos (by simpa using h3),if_pos h3]
   ·rw [if_neg (by simpa using h3),if_neg h3]) (fun b=>by
   show zav xs b _=_
   unfold zav
   rw [if_neg (by simp)])
  exact⟨v,e1,by omega,fun hv=>by have:=e3 hv;omega⟩
def zeR (l:List zbg):Nat:=(l.map fun x=>3).sum
theorem zqn (l:List zbg):zeR l≤64*zcr l:=by
 unfold zeR zcr
 rw [zjF];omega
set_option maxHeartbeats 1000000 in
theorem zsl {xs:List zbg} {k:Int} (h0:0≤k) (hk:k+(zeR xs:Nat)≤4611686018427387904) (h:zcr xs≤2000000): ∃ys,ys.length=xs.length∧ze5 xs k=some (k+(zeR xs:Nat),ys):=by
 have hl:xs.length≤2000000:=by unfold zcr at h;omega
 refine zkm (cnt:=fun x:zbg=>3) (mb:=fun s:Int × Int × List zbg=>zbv s.1 s.2.1 s.2.2) 4611686018427387904 h0 hk (fun x hx k h0 hB=> ?_) (fun k v hv=> ?_)
 ·have hB:k+((3:Nat):Int)≤4611686018427387904:=hB
  have fin:k+1+1+1=k+(((3:Nat)):Int):=by omega
  refine⟨?y,fun i v hv hi=> ?_⟩
  rotate_left
  ·have hi':=(List.getElem?_eq_some_iff.1 hv).1
   show zbv k i v=_
   unfold zbv
   rw [if_pos (by simpa using hi')]
   simp only [zeu hv,zb7 hi (by omega:xs.length≤_),Int.toNat_natCast,List.set_set,Option.bind_some,(show IntKind.i64.wrap (k+1)=k+1 from zbr (by omega) (by omega)),(show IntKind.i64.wrap (k+1+1)=k+1+1 from zbr (by omega) (by omega)),(show IntKind.i64.wrap (k+1+1+1)=k+1+1+1 from zbr (by omega) (by omega)),zed (n:=k) (by omega)]
   rw [fin]
 ·show zbv k _ v=_
  unfold zbv
  rw [if_neg (by simp [hv])]
def zaQ (x:zaa):Nat:=x.fName.length+zaD x.fCols+zcr x.fIdxs
theorem zs5 {x:zaa} (h:zaQ x≤2000000):zcC x=some x:=by
 unfold zcC
 simp only [zlE (xs:=x.fCols) (by unfold zaQ at h;omega),zun (xs:=x.fIdxs) (by unfold zaQ at h;omega),Option.bind_some]
theorem ztB {x:zaa} (h:zaQ x≤2000000):zcF x x=some true:=by
 unfold zcF
 simp [zlR (xs:=x.fCols) (by unfold zaQ at h;omega),zu2 (xs:=x.fIdxs) (by unfold zaQ at h;omega)]
theorem ztk {x:zaa} {a:Int} (h0:0≤a) (h1:a≤1048576) (h:zkd x): ∃v,zcG x a=some v∧v≤a∧(0≤v→(zaQ x:Int)=a-v):=by
 unfold zcG zaQ
 rw [zdz (a:=a) (by omega) (by omega) h.1]
 by_cases q0:a-(x.fName.length:Int)<0
 ·rw [if_pos (by simpa using q0)];exact⟨-1,rfl,by omega,by omega⟩
 rw [if_neg (by simpa using q0)]
 obtain⟨b1,e1,g1,r1⟩:=zlL (xs:=x.fCols) (a:=(a-(x.fName.length:Int))) (by omega) (by omega) h.2.1
 rw [e1,Option.bind_some]
 by_cases q1:b1<0
 ·rw [if_pos (by simpa using q1)];exact⟨-1,rfl,by omega,by omega⟩
 rw [if_neg (by simpa using q1)]
 have s1:=r1 (by omega)
 obtain⟨b2,e2,g2,r2⟩:=zuc (xs:=x.fIdxs) (a:=b1) (by omega) (by omega) h.2.2
 rw [e2,Option.bind_some]
 by_cases q2:b2<0
 ·rw [if_pos (by simpa using q2)];exact⟨-1,rfl,by omega,by omega⟩
 rw [if_neg (by simpa using q2)]
 have s2:=r2 (by omega)
 exact⟨b2,rfl,by omega,fun _=>by omega⟩
def zbm (l:List zaa):Nat:=l.length+(l.map zaQ).sum
theorem zrV {xs:List zaa} (h:zbm xs≤2000000):zbT xs=some xs:=by
 have hl:xs.length≤2000000:=by unfold zbm at h;omega
 have hx: ∀x∈xs,zaQ x≤2000000:=fun x hx=>by have:=zeH (tot:=zaQ) hx;unfold zbm at h;omega
 unfold zbT
 rw [zau (by omega)]
 exact zn5 (fun i hi v hv=>by
  show zb2 xs i v=_
  unfold zb2
  rw [if_pos (by simpa using hi),zai hi,Option.bind_some,zs5 (hx _ (List.getElem_mem hi)),Option.bind_some,zai (by omega),Option.bind_some,zb7 hi (by omega)];rfl) (fun v=>by
  show zb2 xs _ v=_
  unfold zb2
  rw [if_neg (by simp)])
theorem zr6 {xs:List zaa} (h:zbm xs≤2000000):zdy xs xs=some true:=by
 have hl:xs.length≤2000000:=by unfold zbm at h;omega
 have hx: ∀x∈xs,zaQ x≤2000000:=fun x hx=>by have:=zeH (tot:=zaQ) hx;unfold zbm at h;omega
 unfold zdy
 rw [if_neg (by simp)]
 exact zl2 (n:=xs.length) (fun i hi=>by
  show zb4 xs xs i=_
  unfold zb4
  rw [if_pos (by simpa using hi),zai hi,Option.bind_some,Option.bind_some,ztB (hx _ (List.getElem_mem hi)),Option.bind_some,if_neg (by simp),zb7 hi (by omega)]) (by
  show zb4 xs xs _=_
  unfold zb4
  rw [if_neg (by simp)])
theorem zrZ {xs:List zaa} {a:Int} (h0:0≤a) (h1:a≤1048576) (h:(okL zkd) xs): ∃v,zdE xs a=some v∧v≤a∧(0≤v→(zbm xs:Int)=a-v):=by
 have hl:xs.length≤9223372036854775807:=h.1
 unfold zdE zbm
 rw [zdz h0 h1 hl]
 by_cases h2:a-(xs.length:Int)<0
 ·rw [if_pos (by simpa using h2)];exact⟨-1,rfl,by omega,by omega⟩
 ·rw [if_neg (by simpa using h2)]
  obtain⟨v,e1,e2,e3⟩:=szL (xs:=xs) (body:=fun s:Int × Int=>zbw xs s.1 s.2) zaQ (a:=a-xs.length) (by omega) (by omega) (fun x hx b hb0 hb1=>by
   obtain⟨r,e1,e2,e3⟩:=ztk (x:=x) hb0 hb1 (h.2 _ hx)
   refine⟨r,e2,e3,fun i hi=> ?_⟩
   have hi':=(List.getElem?_eq_some_iff.1 hi).1
   show zbw xs b i=_
   unfold zbw
   rw [if_pos (by simpa using hi'),zeu hi,Option.bind_some,e1,Option.bind_some,zb7 hi' (by omega)]
   by_cases h3:r<0
   ·rw [if_pos (by simpa using h3),if_pos h3]
   ·rw [if_neg (by simpa using h3),if_neg h3]) (fun b=>by
   show zbw xs b _=_
   unfold zbw
   rw [if_neg (by simp)])
  exact⟨v,e1,by omega,fun hv=>by have:=e3 hv;omega⟩
def zeY (l:List zaa):Nat:=(l.map fun x=>1+zbC x.fCols+zeR x.fIdxs).sum
theorem znR (l:List zaa):zeY l≤64*zbm l:=by
 unfold zeY zbm
 induction l with
 |nil=>simp
 |cons x l ih=>
  rw [List.map_cons,List.sum_cons,List.length_cons,List.map_cons,List.sum_cons]
  have h0:=zia x.fCols
  have h1:=zqn x.fIdxs
  unfold zaQ at*
  omega
set_option maxHeartbeats 1000000 in
theorem zox {xs:List zaa} {k:Int} (h0:0≤k) (hk:k+(zeY xs:Nat)≤4611686018427387904) (h:zbm xs≤2000000): ∃ys,ys.length=xs.length∧zec xs k=some (k+(zeY xs:Nat),ys):=by
 have hl:xs.length≤2000000:=by unfold zbm at h;omega
 refine zkm (cnt:=fun x:zaa=>1+zbC x.fCols+zeR x.fIdxs) (mb:=fun s:Int × Int × List zaa=>zbl s.1 s.2.1 s.2.2) 4611686018427387904 h0 hk (fun x hx k h0 hB=> ?_) (fun k v hv=> ?_)
 ·have hB:k+((1+zbC x.fCols+zeR x.fIdxs:Nat):Int)≤4611686018427387904:=hB
  obtain⟨r0, -,m0⟩:=zi4 (xs:=x.fCols) (k:=k+1) (by omega) (by omega) (by have:=zeH (tot:=zaQ) hx;unfold zbm at h;have e_:zaD x.fCols≤zaQ x:=(by unfold zaQ;omega);omega)
  obtain⟨r1, -,m1⟩:=zsl (xs:=x.fIdxs) (k:=k+1+((zbC x.fCols:Nat):Int)) (by omega) (by omega) (by have:=zeH (tot:=zaQ) hx;unfold zbm at h;have e_:zcr x.fIdxs≤zaQ x:=(by unfold zaQ;omega);omega)
  have fin:k+1+((zbC x.fCols:Nat):Int)+((zeR x.fIdxs:Nat):Int)=k+(((1+zbC x.fCols+zeR x.fIdxs:Nat)):Int):=by omega
  refine⟨?y,fun i v hv hi=> ?_⟩
  rotate_left
  ·have hi':=(List.getElem?_eq_some_iff.1 hv).1
   show zbl k i v=_
   unfold zbl
   rw [if_pos (by simpa using hi')]
   simp only [zeu hv,zb7 hi (by omega:xs.length≤_),Int.toNat_natCast,List.set_set,Option.bind_some,(show IntKind.i64.wrap (k+1)=k+1 from zbr (by omega) (by omega)),zed (n:=k) (by omega),m0,m1]
   rw [fin]
 ·show zbl k _ v=_
  unfold zbl
  rw [if_neg (by simp [hv])]
def zc7 (x:zd5):Nat:=zaD x.fVals
theorem zrG {x:zd5} (h:zc7 x≤2000000):zdr x=some x:=by
 unfold zdr
 simp only [zlE (xs:=x.fVals) (by unfold zc7 at h;omega),Option.bind_some]
theorem zrI {x:zd5} (h:zc7 x≤2000000):zdu x x=some true:=by
 unfold zdu
 simp [zlR (xs:=x.fVals) (by unfold zc7 at h;omega)]
theorem zr8 {x:zd5} {a:Int} (h0:0≤a) (h1:a≤1048576) (h:zq9 x): ∃v,zds x a=some v∧v≤a∧(0≤v→(zc7 x:Int)=a-v):=by
 unfold zds zc7
 obtain⟨b0,e0,g0,r0⟩:=zlL (xs:=x.fVals) (a:=a) (by omega) (by omega) h
 rw [e0,Option.bind_some]
 by_cases q0:b0<0
 ·rw [if_pos (by simpa using q0)];exact⟨-1,rfl,by omega,by omega⟩
 rw [if_neg (by simpa using q0)]
 have s0:=r0 (by omega)
 exact⟨b0,rfl,by omega,fun _=>by omega⟩
def zdD (x:zd5):Nat:=zbC x.fVals
theorem zj1 (x:zd5):zdD x≤64*zc7 x:=by
 have h0:=zia x.fVals
 unfold zdD zc7
 omega
theorem zm8 {x:zd5} {k:Int} (h0:0≤k) (hk:k+(zdD x:Nat)≤4611686018427387904) (h:zc7 x≤2000000): ∃r0:List (List UInt8),zcD x k=some (k+(zdD x:Nat),⟨r0⟩):=by
 obtain⟨r0, -,m0⟩:=zi4 (xs:=x.fVals) (k:=k) (by omega) (by unfold zdD at hk;omega) (by unfold zc7 at h;omega)
 have fin:k+((zbC x.fVals:Nat):Int)=k+(zdD x:Nat):=by unfold zdD;omega
 refine⟨r0, ?_⟩
 ·unfold zcD
  simp only [m0,Option.bind_some]
  rw [fin]
def zbc (x:zal):Nat:=zc7 x.fOld+zc7 x.fNew
theorem zqK {x:zal} (h:zbc x≤2000000):zdB x=some x:=by
 unfold zdB
 simp only [zrG (x:=x.fOld) (by unfold zbc at h;omega),zrG (x:=x.fNew) (by unfold zbc at h;omega),Option.bind_some]
theorem zro {x:zal} (h:zbc x≤2000000):zdx x x=some true:=by
 unfold zdx
 simp [zrI (x:=x.fOld) (by unfold zbc at h;omega),zrI (x:=x.fNew) (by unfold zbc at h;omega)]
theorem zqX {x:zal} {a:Int} (h0:0≤a) (h1:a≤1048576) (h:zmi x): ∃v,zdH x a=some v∧v≤a∧(0≤v→(zbc x:Int)=a-v):=by
 unfold zdH zbc
 obtain⟨b1,e1,g1,r1⟩:=zr8 (x:=x.fOld) (a:=a) (by omega) (by omega) h.2.1
 rw [e1,Option.bind_some]
 by_cases q1:b1<0
 ·rw [if_pos (by simpa using q1)];exact⟨-1,rfl,by omega,by omega⟩
 rw [if_neg (by simpa using q1)]
 have s1:=r1 (by omega)
 obtain⟨b2,e2,g2,r2⟩:=zr8 (x:=x.fNew) (a:=b1) (by omega) (by omega) h.2.2
 rw [e2,Option.bind_some]
 by_cases q2:b2<0
 ·rw [if_pos (by simpa using q2)];exact⟨-1,rfl,by omega,by omega⟩
 rw [if_neg (by simpa using q2)]
 have s2:=r2 (by omega)
 exact⟨b2,rfl,by omega,fun _=>by omega⟩
def zce (x:zal):Nat:=zdD x.fOld+zdD x.fNew
theorem znh (x:zal):zce x≤64*zbc x:=by
 have h0:=zj1 x.fOld
 have h1:=zj1 x.fNew
 unfold zce zbc
 omega
theorem zoy {x:zal} {k:Int} (h0:0≤k) (hk:k+(zce x:Nat)≤4611686018427387904) (h:zbc x≤2000000): ∃r0:List (List UInt8),∃r1:List (List UInt8),zc1 x k=some (k+(zce x:Nat),⟨x.fKind,⟨r0⟩,⟨r1⟩⟩):=by
 obtain⟨r0,m0⟩:=zm8 (x:=x.fOld) (k:=k) (by omega) (by unfold zce at hk;omega) (by unfold zbc at h;omega)
 obtain⟨r1,m1⟩:=zm8 (x:=x.fNew) (k:=k+((zdD x.fOld:Nat):Int)) (by omega) (by unfold zce at hk;omega) (by unfold zbc at h;omega)
 have fin:k+((zdD x.fOld:Nat):Int)+((zdD x.fNew:Nat):Int)=k+(zce x:Nat):=by unfold zce;omega
 refine⟨r0,r1, ?_⟩
 ·unfold zc1
  simp only [m0,m1,Option.bind_some]
  rw [fin]
def zaV (x:zaJ):Nat:=zbc x.fAct+zc7 x.fRow
theorem zpS {x:zaJ} (h:zaV x≤2000000):zbz x=some x:=by
 unfold zbz
 simp only [zqK (x:=x.fAct) (by unfold zaV at h;omega),zrG (x:=x.fRow) (by unfold zaV at h;omega),Option.bind_some]
theorem zqj {x:zaJ} (h:zaV x≤2000000):zdd x x=some true:=by
 unfold zdd
 simp [zro (x:=x.fAct) (by unfold zaV at h;omega),zrI (x:=x.fRow) (by unfold zaV at h;omega)]
theorem zqg {x:zaJ} {a:Int} (h0:0≤a) (h1:a≤1048576) (h:zkU x): ∃v,zdb x a=some v∧v≤a∧(0≤v→(zaV x:Int)=a-v):=by
 unfold zdb zaV
 obtain⟨b2,e2,g2,r2⟩:=zqX (x:=x.fAct) (a:=a) (by omega) (by omega) h.2.2.1
 rw [e2,Option.bind_some]
 by_cases q2:b2<0
 ·rw [if_pos (by simpa using q2)];exact⟨-1,rfl,by omega,by omega⟩
 rw [if_neg (by simpa using q2)]
 have s2:=r2 (by omega)
 obtain⟨b3,e3,g3,r3⟩:=zr8 (x:=x.fRow) (a:=b2) (by omega) (by omega) h.2.2.2
 rw [e3,Option.bind_some]
 by_cases q3:b3<0
 ·rw [if_pos (by simpa using q3)];exact⟨-1,rfl,by omega,by omega⟩
 rw [if_neg (by simpa using q3)]
 have s3:=r3 (by omega)
 exact⟨b3,rfl,by omega,fun _=>by omega⟩
def zcs (x:zaJ):Nat:=zce x.fAct+zdD x.fRow
theorem zme (x:zaJ):zcs x≤64*zaV x:=by
 have h0:=znh x.fAct
 have h1:=zj1 x.fRow
 unfold zcs zaV
 omega
theorem znm {x:zaJ} {k:Int} (h0:0≤k) (hk:k+(zcs x:Nat)≤4611686018427387904) (h:zaV x≤2000000): ∃r0:List (List UInt8),∃r1:List (List UInt8),∃r2:List (List UInt8),zcN x k=some (k+(zcs x:Nat),⟨x.fVer,x.fFill,⟨x.fAct.fKind,⟨r0⟩,⟨r1⟩⟩,⟨r2⟩⟩):=by
 obtain⟨r0,r1,m0⟩:=zoy (x:=x.fAct) (k:=k) (by omega) (by unfold zcs at hk;omega) (by unfold zaV at h;omega)
 obtain⟨r2,m1⟩:=zm8 (x:=x.fRow) (k:=k+((zce x.fAct:Nat):Int)) (by omega) (by unfold zcs at hk;omega) (by unfold zaV at h;omega)
 have fin:k+((zce x.fAct:Nat):Int)+((zdD x.fRow:Nat):Int)=k+(zcs x:Nat):=by unfold zcs;omega
 refine⟨r0,r1,r2, ?_⟩
 ·unfold zcN
  simp only [m0,m1,Option.bind_some]
  rw [fin]
def zlH (x:DOp):Nat:=x.fKey.length+x.fVal.length
theorem zxa {x:DOp} (h:zlH x≤2000000):zfS x x=some true:=by
 unfold zfS
 simp []
def zeF (l:List DOp):Nat:=l.length+(l.map zlH).sum
theorem zv1 {xs:List DOp} (h:zeF xs≤2000000):zdn xs xs=some true:=by
 have hl:xs.length≤2000000:=by unfold zeF at h;omega
 have hx: ∀x∈xs,zlH x≤2000000:=fun x hx=>by have:=zeH (tot:=zlH) hx;unfold zeF at h;omega
 unfold zdn
 rw [if_neg (by simp)]
 exact zl2 (n:=xs.length) (fun i hi=>by
  show zcT xs xs i=_
  unfold zcT
  rw [if_pos (by simpa using hi),zai hi,Option.bind_some,Option.bind_some,zxa (hx _ (List.getElem_mem hi)),Option.bind_some,if_neg (by simp),zb7 hi (by omega)]) (by
  show zcT xs xs _=_
  unfold zcT
  rw [if_neg (by simp)])
def ziO (l:List DOp):Nat:=(l.map fun x=>4).sum
theorem zrK (l:List DOp):ziO l≤64*zeF l:=by
 unfold ziO zeF
 rw [zjF];omega
set_option maxHeartbeats 1000000 in
theorem zsA {xs:List DOp} {k:Int} (h0:0≤k) (hk:k+(ziO xs:Nat)≤4611686018427387904) (h:zeF xs≤2000000): ∃ys,ys.length=xs.length∧zfq xs k=some (k+(ziO xs:Nat),ys)∧zeq ys k=some (k+(ziO xs:Nat)):=by
 have hl:xs.length≤2000000:=by unfold zeF at h;omega
 refine zuz (cnt:=fun x:DOp=>4) (mb:=fun s:Int × Int × List DOp=>zbL s.1 s.2.1 s.2.2) (hb:=fun ys s=>zbN ys s.1 s.2) 4611686018427387904 h0 hk (fun x hx k h0 hB=> ?_) (fun k v hv=> ?_) (fun k ys hy=> ?_)
 ·have hB:k+((4:Nat):Int)≤4611686018427387904:=hB
  have fin:k+1+1+1+1=k+(((4:Nat)):Int):=by omega
  refine⟨?y,fun i v hv hi=> ?_,fun i ys hy hi=> ?_⟩
  rotate_left
  ·have hi':=(List.getElem?_eq_some_iff.1 hv).1
   show zbL k i v=_
   unfold zbL
   rw [if_pos (by simpa using hi')]
   simp only [zeu hv,zb7 hi (by omega:xs.length≤_),Int.toNat_natCast,List.set_set,Option.bind_some,(show IntKind.i64.wrap (k+1)=k+1 from zbr (by omega) (by omega)),(show IntKind.i64.wrap (k+1+1)=k+1+1 from zbr (by omega) (by omega)),(show IntKind.i64.wrap (k+1+1+1)=k+1+1+1 from zbr (by omega) (by omega)),(show IntKind.i64.wrap (k+1+1+1+1)=k+1+1+1+1 from zbr (by omega) (by omega)),zed (n:=k+1) (by omega),zed (n:=k+1+1) (by omega)]
   rw [fin]
  ·have hi':=(List.getElem?_eq_some_iff.1 hy).1
   show zbN ys k i=_
   unfold zbN
   rw [if_pos (by simpa using hi')]
   simp only [zeu hy,zb7 hi (by omega:xs.length≤_),bne_self_eq_false,Bool.false_eq_true,if_false,Option.bind_some,(show IntKind.i64.wrap (k+1)=k+1 from zbr (by omega) (by omega)),(show IntKind.i64.wrap (k+1+1)=k+1+1 from zbr (by omega) (by omega)),(show IntKind.i64.wrap (k+1+1+1)=k+1+1+1 from zbr (by omega) (by omega)),(show IntKind.i64.wrap (k+1+1+1+1)=k+1+1+1+1 from zbr (by omega) (by omega)),zed (n:=k+1) (by omega),zed (n:=k+1+1) (by omega)]
   rw [fin]
 ·show zbL k _ v=_
  unfold zbL
  rw [if_neg (by simp [hv])]
 ·show zbN ys k _=_
  unfold zbN
  rw [if_neg (by simp [hy])]
end Go.Proofs.YtfkblfjloegahaaGreat
end
section
namespace Go.Proofs.YtfkblfjloegahaaGreat
open Go.RowKit
set_option maxRecDepth 100000
abbrev RtS:Nat→List AV→AV→Prop:=Rts Tryz.prog sgs
@[reducible] def zu5:Nat→Type
 |0=>zbg
 |1=>zaa
 |2=>zd5
 |3=>zal
 |4=>zaJ
 |5=>za4
 |6=>DOp
 |_+7=>Unit
@[reducible] def zww:Nat→List Ty
 |0=> [.s, .i .i64, .i .i64]
 |1=> [.s, .l .s, .l (.st 0)]
 |2=> [.l .s]
 |3=> [.i .i64, .l .s, .l .s]
 |4=> [.i .i64, .b, .i .i64, .l .s, .l .s, .l .s]
 |5=> [.s, .s, .b]
 |6=> [.i .i64, .s, .s, .i .i64]
 |_+7=> []
def tAv: ∀n,zu5 n→AV
 |0,x=>ztz x
 |1,x=>zm0 x
 |2,x=>zwk x
 |3,x=>zpR x
 |4,x=>zjM x
 |5,x=>zut x
 |6,x=>zyL x
 |_+7,_=> .agg []
def zxH: ∀n,zu5 n→HL zu5 (zww n)
 |0,x=>(x.fName,x.fCol,x.fStage,())
 |1,x=>(x.fName,x.fCols,x.fIdxs,())
 |2,x=>(x.fVals,())
 |3,x=>(x.fKind,x.fOld.fVals,x.fNew.fVals,())
 |4,x=>(x.fVer,x.fFill,x.fAct.fKind,x.fAct.fOld.fVals,x.fAct.fNew.fVals,x.fRow.fVals,())
 |5,x=>(x.fKey,x.fVal,x.fGone,())
 |6,x=>(x.fKind,x.fKey,x.fVal,x.fBy,())
 |_+7,_=>()
def tMk: ∀n,HL zu5 (zww n)→zu5 n
 |0,x=>⟨x.1,x.2.1,x.2.2.1⟩
 |1,x=>⟨x.1,x.2.1,x.2.2.1⟩
 |2,x=>⟨x.1⟩
 |3,x=>⟨x.1,⟨x.2.1⟩,⟨x.2.2.1⟩⟩
 |4,x=>⟨x.1,x.2.1,⟨x.2.2.1,⟨x.2.2.2.1⟩,⟨x.2.2.2.2.1⟩⟩,⟨x.2.2.2.2.2.1⟩⟩
 |5,x=>⟨x.1,x.2.1,x.2.2.1⟩
 |6,x=>⟨x.1,x.2.1,x.2.2.1,x.2.2.2.1⟩
 |_+7,_=>()
theorem zvy: ∀n x,tAv n x= .agg (zpA tAv (zww n) (zxH n x))
 |0,_=>rfl
 |1,_=>rfl
 |2,_=>rfl
 |3,_=>rfl
 |4,_=>rfl
 |5,_=>rfl
 |6,_=>rfl
 |_+7,_=>rfl
theorem zuj: ∀n h,zxH n (tMk n h)=h
 |0,_=>rfl
 |1,_=>rfl
 |2,_=>rfl
 |3,_=>rfl
 |4,_=>rfl
 |5,_=>rfl
 |6,_=>rfl
 |_+7,_=>rfl
@[reducible] def tab:Tab:=⟨RtS,zu5,tAv,zww,zxH,tMk,zvy,zuj⟩
end Go.Proofs.YtfkblfjloegahaaGreat
end
section
namespace Go.Proofs.YtfkblfjloegahaaGreat
open Go.RowKit
abbrev FS:=FN tab
noncomputable def tev (tb:List FS) (hs:List JM) (o:Option Tr) (ps:List PT) (r:RT) (xs:HP tab.car ps) (hp:zqz tab ps xs):Option (RTI tab.car r):=match o with
 |some t=>zb8 tb 100000 (toR r) t hs (vPs ps xs hp) [] []
 |none=>none
theorem zwW {f:Nat} {ps:List PT} {r:RT} {φ:HP tab.car ps→Option (RTI tab.car r)} (tb:List FS) (hs:List JM) (h: ∀xs hp,tev tb hs (zvQ Tryz.prog sgs f) ps r xs hp=φ xs) (hk: ∀xs y,zwC Tryz.prog sgs f (zgy tab ps xs) (zn0 tab r y)=true) (xs:HP tab.car ps) (y:RTI tab.car r) (hp:zqz tab ps xs) (e:φ xs=some y):tab.Rt f (zgy tab ps xs) (zn0 tab r y):=by
 rw [←h xs hp]at e
 unfold tev at e
 split at e
 ·rename_i t ht
  refine zlB ht (hk xs y) ?_
  unfold Den
  rw [←zry ps xs hp]
  exact zaW tb 100000 (fa:= []) (fun _ h=>nomatch h) (fun _ h=>nomatch h) (fun v hv=>zo7 r hv) .nil e
 ·cases e
noncomputable def mkF (f:Nat) (ps:List PT) (r:RT) (φ:HP tab.car ps→Option (RTI tab.car r)) (tb:List FS) (hs:List JM) (h: ∀xs hp,tev tb hs (zvQ Tryz.prog sgs f) ps r xs hp=φ xs) (hk: ∀xs y,zwC Tryz.prog sgs f (zgy tab ps xs) (zn0 tab r y)=true):FS:=
 ⟨f,ps,r,φ,fun xs y hp e=>zwW tb hs h hk xs y hp e,false,fun h=>by cases h⟩
noncomputable def mkP (d:FS) (h: ∀y,zqP d.f (zn0 tab d.r y)=true):FS:=
 ⟨d.f,d.ps,d.r,d.φ,d.ok,true,fun _ xs y hx e=>zq7 (d.ok xs y hx e) (h y)⟩
noncomputable def mkH (f:Nat) (ps:List PT) (r:RT) (φ:HP tab.car ps→Option (RTI tab.car r)) (ok: ∀xs y,zqz tab ps xs→φ xs=some y→tab.Rt f (zgy tab ps xs) (zn0 tab r y)):FS:=⟨f,ps,r,φ,ok,false,fun h=>by cases h⟩
end Go.Proofs.YtfkblfjloegahaaGreat
end
section
namespace Go.Proofs.YtfkblfjloegahaaGreat
open Go.RowKit
set_option maxRecDepth 100000
set_option maxHeartbeats 4000000
noncomputable def zdY:FS:=mkH 117 [.v .s, .v (.i .u8)] (.v (.i .i64)) (fun x=>zaU x.1 x.2.1) fun x r _ h=>zdX x.1 x.2.1 r h
noncomputable def zk4:FS:=mkH 107 [.v (.l .s), .v .s] (.v .s) (fun x=>zes x.1 x.2.1) fun x r _ h=>zlo x.1 x.2.1 r h
noncomputable def zgi:FS:=mkF 37 [.v (.l .s), .v (.i .i64)] (.v (.i .i64)) (fun x=>zbx x.1 x.2.1) [] [.sp [.i .i64, .i .i64]] (fun _ _=>by kernel_rfl) (fun _ _=>by kernel_rfl)
noncomputable def zno:FS:=mkF 62 [.v (.st 0), .v (.i .i64)] (.v (.i .i64)) (fun x=>zdq x.1 x.2.1) [] [] (fun _ _=>by kernel_rfl) (fun _ _=>by kernel_rfl)
noncomputable def zmc:FS:=mkF 38 [.v (.l (.st 0)), .v (.i .i64)] (.v (.i .i64)) (fun x=>zcY x.1 x.2.1) [zno] [.sp [.i .i64, .i .i64]] (fun _ _=>by kernel_rfl) (fun _ _=>by kernel_rfl)
noncomputable def zle:FS:=mkF 17 [.v (.st 1), .v (.i .i64)] (.v (.i .i64)) (fun x=>zcG x.1 x.2.1) [zgi,zmc] [] (fun _ _=>by kernel_rfl) (fun _ _=>by kernel_rfl)
noncomputable def zkH:FS:=mkF 4 [.v (.l (.st 1)), .v (.i .i64)] (.v (.i .i64)) (fun x=>zdE x.1 x.2.1) [zle] [.sp [.i .i64, .i .i64]] (fun _ _=>by kernel_rfl) (fun _ _=>by kernel_rfl)
noncomputable def zi2:FS:=mkF 19 [.v (.st 2), .v (.i .i64)] (.v (.i .i64)) (fun x=>zds x.1 x.2.1) [zgi] [] (fun _ _=>by kernel_rfl) (fun _ _=>by kernel_rfl)
noncomputable def zjS:FS:=mkF 18 [.v (.st 3), .v (.i .i64)] (.v (.i .i64)) (fun x=>zdH x.1 x.2.1) [zi2] [] (fun _ _=>by kernel_rfl) (fun _ _=>by kernel_rfl)
noncomputable def zjf:FS:=mkF 5 [.v (.st 4), .v (.i .i64)] (.v (.i .i64)) (fun x=>zdb x.1 x.2.1) [zjS,zi2] [] (fun _ _=>by kernel_rfl) (fun _ _=>by kernel_rfl)
noncomputable def zgh:FS:=mkF 47 [.v (.l .s)] (.v (.l .s)) (fun x=>zbA x.1) [] [.sp [.i .i64, .l .s]] (fun _ _=>by kernel_rfl) (fun _ _=>by kernel_rfl)
noncomputable def znT:FS:=mkF 73 [.v (.st 0)] (.v (.st 0)) (fun x=>zfe x.1) [] [] (fun _ _=>by kernel_rfl) (fun _ _=>by kernel_rfl)
noncomputable def zmv:FS:=mkF 48 [.v (.l (.st 0))] (.v (.l (.st 0))) (fun x=>zcZ x.1) [znT] [.sp [.i .i64, .l (.st 0)]] (fun _ _=>by kernel_rfl) (fun _ _=>by kernel_rfl)
noncomputable def zk8:FS:=mkF 22 [.v (.st 1)] (.v (.st 1)) (fun x=>zcC x.1) [zgh,zmv] [] (fun _ _=>by kernel_rfl) (fun _ _=>by kernel_rfl)
noncomputable def zjK:FS:=mkF 7 [.v (.l (.st 1))] (.v (.l (.st 1))) (fun x=>zbT x.1) [zk8] [.sp [.i .i64, .l (.st 1)]] (fun _ _=>by kernel_rfl) (fun _ _=>by kernel_rfl)
noncomputable def ziZ:FS:=mkF 24 [.v (.st 2)] (.v (.st 2)) (fun x=>zdr x.1) [zgh] [] (fun _ _=>by kernel_rfl) (fun _ _=>by kernel_rfl)
noncomputable def zj6:FS:=mkF 23 [.v (.st 3)] (.v (.st 3)) (fun x=>zdB x.1) [ziZ] [] (fun _ _=>by kernel_rfl) (fun _ _=>by kernel_rfl)
noncomputable def zjd:FS:=mkF 8 [.v (.st 4)] (.v (.st 4)) (fun x=>zbz x.1) [zj6,ziZ] [] (fun _ _=>by kernel_rfl) (fun _ _=>by kernel_rfl)
noncomputable def zfI:FS:=mkF 63 [.v .s, .v (.i .i64)] (.v .b) (fun x=>zbK x.1 x.2.1) [] [.sp [.i .i64]] (fun _ _=>by kernel_rfl) (fun _ _=>by kernel_rfl)
noncomputable def zon:FS:=mkF 89 [.v (.l .s), .v .s] (.v (.i .i64)) (fun x=>zfg x.1 x.2.1) [] [.sp [.i .i64]] (fun _ _=>by kernel_rfl) (fun _ _=>by kernel_rfl)
noncomputable def ze7:FS:=mkF 43 [.v (.i .i64), .v (.i .i64), .v (.i .i64)] (.v .b) (fun x=>zcS x.1 x.2.1 x.2.2.1) [] [] (fun _ _=>by kernel_rfl) (fun _ _=>by kernel_rfl)
noncomputable def zli:FS:=mkF 64 [.v (.l .s)] (.v .b) (fun x=>zep x.1) [ze7,zfI,zon] [.sp [.i .i64]] (fun _ _=>by kernel_rfl) (fun _ _=>by kernel_rfl)
noncomputable def zdc:FS:=mkF 39 [.v (.st 1)] (.v .b) (fun x=>zbB x.1) [zfI,zli,ze7] [.sp [.i .i64]] (fun _ _=>by kernel_rfl) (fun _ _=>by kernel_rfl)
noncomputable def zeN:FS:=mkF 65 [.v (.st 1), .v .s] (.v (.i .i64)) (fun x=>zcu x.1 x.2.1) [] [.sp [.i .i64]] (fun _ _=>by kernel_rfl) (fun _ _=>by kernel_rfl)
noncomputable def ziW:FS:=mkF 40 [.v (.st 1), .v .s] (.tu (.cons (.v (.st 0)) (.cons (.v .b) .nil))) (fun x=>zex x.1 x.2.1) [zeN,zdc] [] (fun _ _=>by kernel_rfl) (fun _ _=>by kernel_rfl)
noncomputable def zkO:FS:=mkF 66 [.v (.st 1), .v .s, .v (.i .i64)] (.v .b) (fun x=>zch x.1 x.2.1 x.2.2.1) [zdc,zeN,ze7] [] (fun _ _=>by kernel_rfl) (fun _ _=>by kernel_rfl)
noncomputable def zin:FS:=mkF 90 [.v (.st 1)] (.v (.st 1)) (fun x=>zdP x.1) [] [] (fun _ _=>by kernel_rfl) (fun _ _=>by kernel_rfl)
noncomputable def zmT:FS:=mkF 91 [.v (.st 1), .v .s, .v (.i .i64)] (.v (.st 1)) (fun x=>zdL x.1 x.2.1 x.2.2.1) [zin,zeN] [] (fun _ _=>by kernel_rfl) (fun _ _=>by kernel_rfl)
noncomputable def zmC:FS:=mkF 67 [.v (.st 1), .v .s, .v (.i .i64)] (.v (.l (.st 1))) (fun x=>zeU x.1 x.2.1 x.2.2.1) [zin,zeN,zmT] [.sp [.i .i64, .l (.st 1)], .inl] (fun _ _=>by kernel_rfl) (fun _ _=>by kernel_rfl)
noncomputable def znH:FS:=mkF 41 [.v (.st 1), .v .s, .v (.i .i64)] (.tu (.cons (.v (.l (.st 1))) (.cons (.v .b) .nil))) (fun x=>zdt x.1 x.2.1 x.2.2.1) [zkO,zmC] [] (fun _ _=>by kernel_rfl) (fun _ _=>by kernel_rfl)
noncomputable def zk7:FS:=mkF 68 [.v (.l .s), .v (.l .s)] (.v .b) (fun x=>zeg x.1 x.2.1) [] [.sp [.i .i64]] (fun _ _=>by kernel_rfl) (fun _ _=>by kernel_rfl)
noncomputable def zhA:FS:=mkF 42 [.v (.st 1), .v (.st 1)] (.v .b) (fun x=>zbR x.1 x.2.1) [zk7] [.sp [.i .i64]] (fun _ _=>by kernel_rfl) (fun _ _=>by kernel_rfl)
noncomputable def zlq:FS:=mkF 20 [.v (.l (.st 1)), .v .s] (.v .b) (fun x=>zem x.1 x.2.1) [zdc,ziW,znH,zhA] [.sp [.i .i64]] (fun _ _=>by kernel_rfl) (fun _ _=>by kernel_rfl)
noncomputable def zku:FS:=mkF 44 [.v (.st 3)] (.v .b) (fun x=>zdT x.1) [] [] (fun _ _=>by kernel_rfl) (fun _ _=>by kernel_rfl)
noncomputable def zlu:FS:=mkF 109 [.v .s, .v .s] (.v .b) (fun x=>zeo x.1 x.2.1) [] [.sp [.i .i64], .sp [.b, .i .i64]] (fun _ _=>by kernel_rfl) (fun _ _=>by kernel_rfl)
noncomputable def zjL:FS:=mkF 92 [.v .s] (.v .b) (fun x=>zdQ x.1) [ze7,zlu] [] (fun _ _=>by kernel_rfl) (fun _ _=>by kernel_rfl)
noncomputable def zhh:FS:=mkF 69 [.v (.st 1), .v (.st 2)] (.v .b) (fun x=>zbH x.1 x.2.1) [zjL] [.sp [.i .i64]] (fun _ _=>by kernel_rfl) (fun _ _=>by kernel_rfl)
noncomputable def zlg:FS:=mkF 110 [.v (.l .s), .v .s] (.v .s) (fun x=>zfu x.1 x.2.1) [] [.sp [.s, .i .i64], .inl] (fun _ _=>by kernel_rfl) (fun _ _=>by kernel_rfl)
noncomputable def zgt:FS:=mkF 93 [.v (.st 1), .v (.st 2)] (.v (.st 5)) (fun x=>zbQ x.1 x.2.1) [zlg] [] (fun _ _=>by kernel_rfl) (fun _ _=>by kernel_rfl)
noncomputable def zgr:FS:=mkF 94 [.v (.st 1), .v (.st 0), .v (.st 2)] (.v .s) (fun x=>zcj x.1 x.2.1 x.2.2.1) [] [] (fun _ _=>by kernel_rfl) (fun _ _=>by kernel_rfl)
noncomputable def zln:FS:=mkF 70 [.v (.st 1), .v (.st 0), .v (.st 2)] (.v (.l (.st 6))) (fun x=>zfl x.1 x.2.1 x.2.2.1) [zgt,zgr] [] (fun _ _=>by kernel_rfl) (fun _ _=>by kernel_rfl)
noncomputable def zk6:FS:=mkF 45 [.v (.st 1), .v .s, .v (.st 2)] (.tu (.cons (.v (.l (.st 6))) (.cons (.v .b) .nil))) (fun x=>zfr x.1 x.2.1 x.2.2.1) [ziW,zhh,zln] [] (fun _ _=>by kernel_rfl) (fun _ _=>by kernel_rfl)
noncomputable def zlw:FS:=mkF 95 [.v (.st 1), .v (.st 3)] (.v .b) (fun x=>zek x.1 x.2.1) [zhh] [] (fun _ _=>by kernel_rfl) (fun _ _=>by kernel_rfl)
noncomputable def zk9:FS:=mkF 71 [.v (.st 1), .v (.st 3)] (.v .b) (fun x=>zfv x.1 x.2.1) [zdc,zlw] [] (fun _ _=>by kernel_rfl) (fun _ _=>by kernel_rfl)
noncomputable def zlv:FS:=mkF 96 [.v (.st 1), .v (.st 3)] (.v (.l (.st 6))) (fun x=>zeh x.1 x.2.1) [zgt] [] (fun _ _=>by kernel_rfl) (fun _ _=>by kernel_rfl)
noncomputable def zm4:FS:=mkF 97 [.v (.st 1), .v (.st 0), .v (.st 3)] (.v (.l (.st 6))) (fun x=>zdI x.1 x.2.1 x.2.2.1) [zgr] [.sp [.s], .pt, .pt, .inl] (fun _ _=>by kernel_rfl) (fun _ _=>by kernel_rfl)
noncomputable def zmm:FS:=mkF 72 [.v (.st 1), .v (.st 3)] (.v (.l (.st 6))) (fun x=>zeT x.1 x.2.1) [zlv,zm4] [.sp [.i .i64, .l (.st 6)]] (fun _ _=>by kernel_rfl) (fun _ _=>by kernel_rfl)
noncomputable def zmQ:FS:=mkF 46 [.v (.st 1), .v (.st 3)] (.tu (.cons (.v (.l (.st 6))) (.cons (.v .b) .nil))) (fun x=>zf3 x.1 x.2.1) [zk9,zmm] [] (fun _ _=>by kernel_rfl) (fun _ _=>by kernel_rfl)
noncomputable def zm1:FS:=mkF 21 [.v (.l (.st 1)), .v .s, .v (.st 4)] (.tu (.cons (.v (.l (.st 6))) (.cons (.v .b) .nil))) (fun x=>zgb x.1 x.2.1 x.2.2.1) [ze7,zku,zk6,zmQ] [] (fun _ _=>by kernel_rfl) (fun _ _=>by kernel_rfl)
noncomputable def zmg:FS:=mkF 6 [.v (.l (.st 1)), .v .s, .v (.st 4)] (.tu (.cons (.v (.l (.st 6))) (.cons (.v .b) .nil))) (fun x=>zeM x.1 x.2.1 x.2.2.1) [zlq,zm1] [] (fun _ _=>by kernel_rfl) (fun _ _=>by kernel_rfl)
noncomputable def zdR:FS:=mkF 54 [.v (.i .i64), .v (.i .i64), .v (.i .i64)] (.v .b) (fun x=>zb0 x.1 x.2.1 x.2.2.1) [] [] (fun _ _=>by kernel_rfl) (fun _ _=>by kernel_rfl)
noncomputable def ziG:FS:=mkF 98 [.v .s, .v (.i .i64)] (.v .b) (fun x=>zbJ x.1 x.2.1) [zdR] [.sp [.i .i64]] (fun _ _=>by kernel_rfl) (fun _ _=>by kernel_rfl)
noncomputable def zeb:FS:=mkF 111 [.v (.l .s), .v .s] (.v (.i .i64)) (fun x=>zaZ x.1 x.2.1) [] [.sp [.i .i64]] (fun _ _=>by kernel_rfl) (fun _ _=>by kernel_rfl)
noncomputable def zdw:FS:=mkF 99 [.v (.l .s), .v .s] (.v .b) (fun x=>zaM x.1 x.2.1) [zeb] [] (fun _ _=>by kernel_rfl) (fun _ _=>by kernel_rfl)
noncomputable def zlk:FS:=mkF 100 [.v (.i .i64)] (.v .b) (fun x=>zfo x.1) [zdR] [] (fun _ _=>by kernel_rfl) (fun _ _=>by kernel_rfl)
noncomputable def zje:FS:=mkF 74 [.v (.st 1)] (.v .b) (fun x=>zda x.1) [ziG,zdR,zlk,zdw] [.sp [.i .i64], .sp [.i .i64]] (fun _ _=>by kernel_rfl) (fun _ _=>by kernel_rfl)
noncomputable def zcW:FS:=mkH 101 [.v (.l (.st 0)), .fn [.st 0] .b] (.v (.i .i64)) (fun x=>zbj x.1 (fun y=>x.2.1.φ (y,()))) fun x r hp h=>zlB (f:=101) (t:=zuk 3) (by kernel_rfl) (by kernel_rfl) (zuQ (av:=(zfw tab.av (.st 0))) (cn:=3) (fun _=>⟨_,rfl,rfl⟩) h (fun y b hb=>hp.2.1 (y,()) b hb))
noncomputable def zfz:FS:=mkF 102 [.v (.st 0), .rf .s] (.v .b) (fun x=>zcn x.1 x.2.1) [] [] (fun _ _=>by kernel_rfl) (fun _ _=>by kernel_rfl)
noncomputable def zft:FS:=mkP zfz fun _=>by kernel_rfl
noncomputable def zcK:FS:=mkF 75 [.v (.st 1), .v .s] (.v (.i .i64)) (fun x=>za3 x.1 x.2.1) [zcW,zft] [] (fun _ _=>by kernel_rfl) (fun _ _=>by kernel_rfl)
noncomputable def zmr:FS:=mkF 49 [.v (.st 1), .v .s] (.v .b) (fun x=>zeV x.1 x.2.1) [zje,zcK] [] (fun _ _=>by kernel_rfl) (fun _ _=>by kernel_rfl)
noncomputable def zdW:FS:=mkF 50 [.v (.st 1), .v .s] (.v (.st 0)) (fun x=>zaP x.1 x.2.1) [zcK] [] (fun _ _=>by kernel_rfl) (fun _ _=>by kernel_rfl)
noncomputable def zd1:FS:=mkH 103 [.v (.l .s)] (.v (.l .s)) (fun x=>zbq x.1) fun x r hp h=>zlB (f:=103) (t:=zpw 16 1) (by kernel_rfl) (by kernel_rfl) (zn6 (bytes:=16) (sz:=1) (av:=(zfw tab.av .s)) (fun x=>⟨zmY _ x,zg0 (by kernel_rfl) x⟩) h)
end Go.Proofs.YtfkblfjloegahaaGreat
end
section
namespace Go.Proofs.YtfkblfjloegahaaGreat
open Go.RowKit
set_option maxRecDepth 100000
set_option maxHeartbeats 4000000
noncomputable def zdm:FS:=mkH 104 [.v (.l (.st 0))] (.v (.l (.st 0))) (fun x=>zba x.1) fun x r hp h=>zlB (f:=104) (t:=zpw 32 3) (by kernel_rfl) (by kernel_rfl) (zn6 (bytes:=32) (sz:=3) (av:=(zfw tab.av (.st 0))) (fun x=>⟨zmY _ x,zg0 (by kernel_rfl) x⟩) h)
noncomputable def zge:FS:=mkF 76 [.v (.st 1)] (.v (.st 1)) (fun x=>zcA x.1) [zd1,zdm] [] (fun _ _=>by kernel_rfl) (fun _ _=>by kernel_rfl)
noncomputable def zfO:FS:=mkF 77 [.v (.st 1), .v .s, .v (.i .i64)] (.v (.st 1)) (fun x=>zbe x.1 x.2.1 x.2.2.1) [zge,zcK] [] (fun _ _=>by kernel_rfl) (fun _ _=>by kernel_rfl)
noncomputable def zha:FS:=mkF 52 [.v (.st 1), .v .s, .v (.i .i64)] (.v (.l (.st 1))) (fun x=>zca x.1 x.2.1 x.2.2.1) [zdW,zge,zfO] [.sp [.i .i64, .l (.st 1)], .inl] (fun _ _=>by kernel_rfl) (fun _ _=>by kernel_rfl)
noncomputable def za9:FS:=mkF 51 [.v (.l (.st 1)), .v (.l (.st 1)), .fn [.st 1, .st 1] .b] (.v .b) (fun x=>zae x.1 x.2.1 (fun y0 y1=>x.2.2.1.φ (y0,y1,()))) [] [.sp [.i .i64]] (fun _ _=>by kernel_rfl) (fun _ _=>by kernel_rfl)
noncomputable def zea:FS:=mkF 78 [.v (.l .s), .v (.l .s)] (.v .b) (fun x=>zaY x.1 x.2.1) [] [.sp [.i .i64]] (fun _ _=>by kernel_rfl) (fun _ _=>by kernel_rfl)
noncomputable def zdi:FS:=mkF 79 [.v (.l (.st 0)), .v (.l (.st 0))] (.v .b) (fun x=>zaG x.1 x.2.1) [] [.sp [.i .i64]] (fun _ _=>by kernel_rfl) (fun _ _=>by kernel_rfl)
noncomputable def zjm:FS:=mkF 53 [.v (.st 1), .v (.st 1)] (.v .b) (fun x=>zbo x.1 x.2.1) [zea,zdi] [] (fun _ _=>by kernel_rfl) (fun _ _=>by kernel_rfl)
noncomputable def ziv:FS:=mkP zjm fun _=>by kernel_rfl
noncomputable def zlc:FS:=mkF 25 [.v (.l (.st 1)), .v .s] (.v .b) (fun x=>zei x.1 x.2.1) [zmr,zdW,zha,za9,ziv] [] (fun _ _=>by kernel_rfl) (fun _ _=>by kernel_rfl)
noncomputable def zmL:FS:=mkF 55 [.v (.st 3)] (.v .b) (fun x=>zdN x.1) [] [] (fun _ _=>by kernel_rfl) (fun _ _=>by kernel_rfl)
noncomputable def zdh:FS:=mkH 105 [.v (.l .s), .fn [.s] .b] (.v (.i .i64)) (fun x=>zbj x.1 (fun y=>x.2.1.φ (y,()))) fun x r hp h=>zlB (f:=105) (t:=zre) (by kernel_rfl) (by kernel_rfl) (ztj (av:=(zfw tab.av .s)) (fun _=>rfl) h (fun y b hb=>hp.2.1 (y,()) b hb))
noncomputable def zcX:FS:=mkH 80 [.v (.l .s), .fn [.s] .b] (.v .b) (fun x=>zcE x.1 (fun y=>x.2.1.φ (y,()))) fun x r hp h=>zlB (f:=80) (t:=zud 105) (by kernel_rfl) (by kernel_rfl) (zug h fun r hr=>zdh.ok x r hp hr)
noncomputable def zgH:FS:=mkF 112 [.v (.i .u8)] (.v .b) (fun x=>zcV x.1) [] [] (fun _ _=>by kernel_rfl) (fun _ _=>by kernel_rfl)
noncomputable def zho:FS:=mkF 113 [.v .s, .v (.i .u8)] (.v (.i .i64)) (fun x=>zdl x.1 x.2.1) [zdY] [] (fun _ _=>by kernel_rfl) (fun _ _=>by kernel_rfl)
noncomputable def zj5:FS:=mkF 106 [.v .s, .v .s] (.v .b) (fun x=>zdM x.1 x.2.1) [zgH,zho] [.sp [.i .i64]] (fun _ _=>by kernel_rfl) (fun _ _=>by kernel_rfl)
noncomputable def zlp:FS:=mkF 82 [.v .s] (.v .b) (fun x=>zej x.1) [zdR,zj5] [] (fun _ _=>by kernel_rfl) (fun _ _=>by kernel_rfl)
noncomputable def zgm:FS:=mkF 81 [.v .s] (.v .b) (fun x=>zbV x.1) [zlp] [] (fun _ _=>by kernel_rfl) (fun _ _=>by kernel_rfl)
noncomputable def zfY:FS:=mkP zgm fun _=>by kernel_rfl
noncomputable def zeJ:FS:=mkF 56 [.v (.st 1), .v (.st 2)] (.v .b) (fun x=>zaN x.1 x.2.1) [zcX,zfY] [] (fun _ _=>by kernel_rfl) (fun _ _=>by kernel_rfl)
noncomputable def zf9:FS:=mkF 57 [.v (.st 1), .v (.st 3)] (.v .b) (fun x=>zbG x.1 x.2.1) [zeJ] [] (fun _ _=>by kernel_rfl) (fun _ _=>by kernel_rfl)
noncomputable def zok:FS:=mkF 26 [.v (.l (.st 1)), .v (.st 4)] (.v .b) (fun x=>zgJ x.1 x.2.1) [zdR,zmL,zeJ,zf9] [] (fun _ _=>by kernel_rfl) (fun _ _=>by kernel_rfl)
noncomputable def zdJ:FS:=mkF 83 [.v (.st 1), .v (.st 2)] (.v (.st 5)) (fun x=>zaX x.1 x.2.1) [zk4] [] (fun _ _=>by kernel_rfl) (fun _ _=>by kernel_rfl)
noncomputable def zgj:FS:=mkF 108 [.v (.st 1), .v .s] (.v .s) (fun x=>zbU x.1 x.2.1) [] [] (fun _ _=>by kernel_rfl) (fun _ _=>by kernel_rfl)
noncomputable def zev:FS:=mkF 84 [.v (.st 1), .v .s, .v (.st 2)] (.v .s) (fun x=>zaF x.1 x.2.1 x.2.2.1) [zgj,zdW] [] (fun _ _=>by kernel_rfl) (fun _ _=>by kernel_rfl)
noncomputable def zgl:FS:=mkF 58 [.v (.st 1), .v .s, .v (.st 2)] (.v (.l (.st 6))) (fun x=>zcI x.1 x.2.1 x.2.2.1) [zdJ,zev] [] (fun _ _=>by kernel_rfl) (fun _ _=>by kernel_rfl)
noncomputable def zf5:FS:=mkF 85 [.v (.i .i64), .v (.st 5), .rf (.l (.st 6))] (.tu (.cons (.tu .nil) (.cons (.bo (.l (.st 6))) .nil))) (fun x=>zao x.1 x.2.1 x.2.2.1) [] [] (fun _ _=>by kernel_rfl) (fun _ _=>by kernel_rfl)
noncomputable def zk2:FS:=mkF 86 [.v (.i .i64)] (.v .b) (fun x=>zfs x.1) [] [] (fun _ _=>by kernel_rfl) (fun _ _=>by kernel_rfl)
noncomputable def zk3:FS:=mkF 87 [.v (.i .i64)] (.v .b) (fun x=>zfm x.1) [] [] (fun _ _=>by kernel_rfl) (fun _ _=>by kernel_rfl)
noncomputable def zgz:FS:=mkF 59 [.v (.st 1), .v (.st 3)] (.v (.l (.st 6))) (fun x=>zb1 x.1 x.2.1) [zk3,zf5,zk2,zev,zdJ] [.sp [.s, .s, .b, .l (.st 6)], .pt, .pt, .sp [.i .i64, .l (.st 6)], .inl, .sp [.s], .pt, .pt] (fun _ _=>by kernel_rfl) (fun _ _=>by kernel_rfl)
noncomputable def zl9:FS:=mkF 27 [.v (.l (.st 1)), .v .s, .v (.st 4)] (.v (.l (.st 6))) (fun x=>zeS x.1 x.2.1 x.2.2.1) [zgl,zgz] [] (fun _ _=>by kernel_rfl) (fun _ _=>by kernel_rfl)
noncomputable def zmV:FS:=mkF 9 [.v (.l (.st 1)), .v .s, .v (.st 4)] (.tu (.cons (.v (.l (.st 6))) (.cons (.v .b) .nil))) (fun x=>zdG x.1 x.2.1 x.2.2.1) [zlc,zok,zl9] [] (fun _ _=>by kernel_rfl) (fun _ _=>by kernel_rfl)
noncomputable def zoS:FS:=mkF 28 [.v (.st 6), .v (.st 6)] (.v .b) (fun x=>zfS x.1 x.2.1) [] [] (fun _ _=>by kernel_rfl) (fun _ _=>by kernel_rfl)
noncomputable def znQ:FS:=mkF 10 [.v (.l (.st 6)), .v (.l (.st 6))] (.v .b) (fun x=>zdn x.1 x.2.1) [zoS] [.sp [.i .i64]] (fun _ _=>by kernel_rfl) (fun _ _=>by kernel_rfl)
noncomputable def zgg:FS:=mkF 60 [.v (.l .s), .v (.l .s)] (.v .b) (fun x=>zby x.1 x.2.1) [] [.sp [.i .i64]] (fun _ _=>by kernel_rfl) (fun _ _=>by kernel_rfl)
noncomputable def znw:FS:=mkF 88 [.v (.st 0), .v (.st 0)] (.v .b) (fun x=>zdo x.1 x.2.1) [] [] (fun _ _=>by kernel_rfl) (fun _ _=>by kernel_rfl)
noncomputable def zmB:FS:=mkF 61 [.v (.l (.st 0)), .v (.l (.st 0))] (.v .b) (fun x=>zc0 x.1 x.2.1) [znw] [.sp [.i .i64]] (fun _ _=>by kernel_rfl) (fun _ _=>by kernel_rfl)
noncomputable def zk5:FS:=mkF 29 [.v (.st 1), .v (.st 1)] (.v .b) (fun x=>zcF x.1 x.2.1) [zgg,zmB] [] (fun _ _=>by kernel_rfl) (fun _ _=>by kernel_rfl)
noncomputable def zkx:FS:=mkF 11 [.v (.l (.st 1)), .v (.l (.st 1))] (.v .b) (fun x=>zdy x.1 x.2.1) [zk5] [.sp [.i .i64]] (fun _ _=>by kernel_rfl) (fun _ _=>by kernel_rfl)
noncomputable def zja:FS:=mkF 31 [.v (.st 2), .v (.st 2)] (.v .b) (fun x=>zdu x.1 x.2.1) [zgg] [] (fun _ _=>by kernel_rfl) (fun _ _=>by kernel_rfl)
noncomputable def zkK:FS:=mkF 30 [.v (.st 3), .v (.st 3)] (.v .b) (fun x=>zdx x.1 x.2.1) [zja] [] (fun _ _=>by kernel_rfl) (fun _ _=>by kernel_rfl)
noncomputable def zjo:FS:=mkF 12 [.v (.st 4), .v (.st 4)] (.v .b) (fun x=>zdd x.1 x.2.1) [zkK,zja] [] (fun _ _=>by kernel_rfl) (fun _ _=>by kernel_rfl)
noncomputable def zcU:FS:=mkF 32 [.v (.i .i64)] (.v .s) (fun x=>zaK x.1) [] [.sp [.i .i64, .s]] (fun _ _=>by kernel_rfl) (fun _ _=>by kernel_rfl)
noncomputable def zfk:FS:=mkF 33 [.v (.l .s), .v (.i .i64)] (.tu (.cons (.v (.i .i64)) (.cons (.v (.l .s)) .nil))) (fun x=>zcL x.1 x.2.1) [zcU] [.sp [.i .i64, .i .i64, .l .s]] (fun _ _=>by kernel_rfl) (fun _ _=>by kernel_rfl)
noncomputable def zkf:FS:=mkF 34 [.v (.l (.st 0)), .v (.i .i64)] (.tu (.cons (.v (.i .i64)) (.cons (.v (.l (.st 0))) .nil))) (fun x=>ze5 x.1 x.2.1) [zcU] [.sp [.i .i64, .i .i64, .l (.st 0)]] (fun _ _=>by kernel_rfl) (fun _ _=>by kernel_rfl)
noncomputable def ziK:FS:=mkF 13 [.v (.l (.st 1)), .v (.i .i64)] (.tu (.cons (.v (.i .i64)) (.cons (.v (.l (.st 1))) .nil))) (fun x=>zec x.1 x.2.1) [zcU,zfk,zkf] [.sp [.i .i64, .i .i64, .l (.st 1)]] (fun _ _=>by kernel_rfl) (fun _ _=>by kernel_rfl)
noncomputable def zhj:FS:=mkF 36 [.v (.st 2), .v (.i .i64)] (.tu (.cons (.v (.i .i64)) (.cons (.v (.st 2)) .nil))) (fun x=>zcD x.1 x.2.1) [zfk] [] (fun _ _=>by kernel_rfl) (fun _ _=>by kernel_rfl)
noncomputable def ziy:FS:=mkF 35 [.v (.st 3), .v (.i .i64)] (.tu (.cons (.v (.i .i64)) (.cons (.v (.st 3)) .nil))) (fun x=>zc1 x.1 x.2.1) [zhj] [] (fun _ _=>by kernel_rfl) (fun _ _=>by kernel_rfl)
noncomputable def zii:FS:=mkF 14 [.v (.st 4), .v (.i .i64)] (.tu (.cons (.v (.i .i64)) (.cons (.v (.st 4)) .nil))) (fun x=>zcN x.1 x.2.1) [ziy,zhj] [] (fun _ _=>by kernel_rfl) (fun _ _=>by kernel_rfl)
noncomputable def zlx:FS:=mkF 15 [.v (.l (.st 6)), .v (.i .i64)] (.tu (.cons (.v (.i .i64)) (.cons (.v (.l (.st 6))) .nil))) (fun x=>zfq x.1 x.2.1) [zcU] [.sp [.i .i64, .i .i64, .l (.st 6)]] (fun _ _=>by kernel_rfl) (fun _ _=>by kernel_rfl)
noncomputable def zls:FS:=mkF 16 [.v (.l (.st 6)), .v (.i .i64)] (.v (.i .i64)) (fun x=>zeq x.1 x.2.1) [zcU] [.sp [.i .i64, .i .i64]] (fun _ _=>by kernel_rfl) (fun _ _=>by kernel_rfl)
noncomputable def zeL:FS:=mkF 3 [.v (.l (.st 1)), .v .s, .v (.st 4)] (.v .b) (fun x=>zcb x.1 x.2.1 x.2.2.1) [zkH,zjf,zjK,zjd,zmg,zmV,znQ,zkx,zjo,ziK,zii,zlx,zls] [] (fun _ _=>by kernel_rfl) (fun _ _=>by kernel_rfl)
end Go.Proofs.YtfkblfjloegahaaGreat
end
section
namespace Go.Proofs.YtfkblfjloegahaaGreat
open Go.RowKit
set_option maxRecDepth 100000
theorem zg7 (a0:List zaa) (a1:List UInt8) (a2:zaJ) (r:Bool) (h:zcb a0 a1 a2=some r):Rts Tryz.prog sgs 3 [.sl (a0.map zm0), .str a1,zjM a2] (.bool r):=zeL.ok (a0,a1,a2,()) r (by simp [zeL,mkF,zqz,zwi]) h
end Go.Proofs.YtfkblfjloegahaaGreat
end
section
namespace Go.Proofs.YtfkblfjloegahaaGreat
open Go.RowKit
set_option maxRecDepth 100000
abbrev Str:=List UInt8
def inB (a b c:Int):Bool:=decide (a≥b)&&decide (a≤c)
theorem zdA {a b c:Int}:inB a b c=true↔b≤a∧a≤c:=by simp [inB]
@[simp] theorem znj (a b c:Int):zcS a b c=some (inB a b c):=rfl
@[simp] theorem zhW (a b c:Int):zb0 a b c=some (inB a b c):=rfl
def zgf (b:UInt8):Bool:=(decide ((b.toNat:Int)≥97)&&decide ((b.toNat:Int)≤122))||(decide ((b.toNat:Int)≥48)&&decide ((b.toNat:Int)≤57))
def zgD (s more:Str):Bool:=s.all fun b=>zgf b||more.contains b
theorem zxb {a b:UInt8}:((a.toNat:Int)==(b.toNat:Int))=(a==b):=by
 rw [Bool.eq_iff_iff]
 simp only [beq_iff_eq]
 constructor
 ·intro h;exact UInt8.toNat_inj.1 (by omega)
 ·rintro rfl;rfl
theorem zoa {α:Type} (xs:List α) (p:α→Bool) (q:Nat→Bool) (h: ∀(i:Nat) (hi:i<xs.length),q i=p xs[i]):(List.range xs.length).all q=xs.all p:=by
 rw [Bool.eq_iff_iff]
 simp only [List.all_eq_true,List.mem_range]
 constructor
 ·intro hq x hx
  obtain⟨i,hi,rfl⟩:=List.getElem_of_mem hx
  rw [←h i hi];exact hq i hi
 ·intro hp i hi
  rw [h i hi];exact hp _ (List.getElem_mem hi)
theorem zhP {α β:Type} {xs:List α} {body:Int→Option (Int ⊕ Option β)} (p:α→Bool) (b:β) (fin:Option β)
  (hs: ∀(i:Nat) (hi:i<xs.length),body i=some (if p xs[i]=true then .inl ((i+1:Nat):Int)else .inr (some b))) (he:body xs.length=some (.inr fin)):zay body 0=if xs.all p=true then fin else some b:=by
 rw [zfJ (n:=xs.length) (fun i=>match xs[i]? with|some x=>p x|none=>true) b fin (fun i hi=>by rw [hs i hi];simp [hi]) he,
  zoa xs p _ fun i hi=>by simp [hi]]
theorem zrk {s more:Str} (h1:s.length≤2000000) (h2:more.length≤2000000):zeo s more=some (zgD s more):=by
 unfold zeo
 rw [zhP (xs:=s) (fun b=>zgf b||more.contains b) false (some true) ?_ (by simp [zd0])]
 ·unfold zgD
  cases(s.all fun b=>zgf b||more.contains b)<;>rfl
 ·intro i hi
  have hin:zay (fun t:Bool × Int=>zcg more i s[i] t.1 t.2) (zgf s[i],0)=some (if(zgf s[i]||more.contains s[i])=true then .inl ((i+1:Nat):Int)else .inr (some false)):=by
   have hl:=zkG (xs:=more) (body:=fun t:Bool × Int=>zcg more i s[i] t.1 t.2) (fun k (ok:Bool)=>(ok,k)) (fun b ok=>some (.inl (ok||s[i]==b))) (fun ok=>zee i ok)
    (fun k hk ok=>by
     simp only [zcg,Int.ofNat_lt,hk,decide_true,if_true,zai hk,Option.bind_some,zb7 hk (by omega:more.length≤_),zxb,zn2]
     cases ok<;>simp) (fun ok=>by simp [zcg]) (zgf s[i])
   rw [zsx (fun ok b=>ok||s[i]==b) (fun _=>True) (fun _ _ _ _=>trivial) (fun _ _ _ _=>rfl) trivial]at hl
   have hf: ∀(l:Str) (ok:Bool),l.foldl (fun ok b=>ok||s[i]==b) ok=(ok||l.contains s[i]):=by
    intro l
    induction l with
    |nil=>intro ok;simp
    |cons c l ih=>intro ok;rw [List.foldl_cons,ih,List.contains_cons,Bool.or_assoc]
   rw [hl,hf]
   unfold zee
   rw [zb7 hi (by omega)]
   cases(zgf s[i]||more.contains s[i])<;>rfl
  simp only [zd0,Int.ofNat_lt,hi,decide_true,if_true,zai hi,Option.bind_some]
  exact hin
theorem zms (l:Str) (c:UInt8):decide (Lib.indexByte l c<0)= !l.contains c:=by
 induction l with
 |nil=>rfl
 |cons b l ih=>
  unfold Lib.indexByte
  have hge:=Lib.indexByte_ge l c
  rw [List.contains_cons]
  by_cases hb:b=c
  ·subst hb;simp
  ·have h1:(b==c)=false:=by simpa using hb
   have h2:(c==b)=false:=by simpa using fun h=>hb h.symm
   rw [h1,h2]
   simp only [Bool.false_eq_true,if_false,Bool.false_or]
   rw [←ih]
   by_cases hm:Lib.indexByte l c= -1
   ·simp [hm]
   ·have h3:(Lib.indexByte l c== -1)=false:=by simpa using hm
    rw [h3]
    simp only [Bool.false_eq_true,if_false]
    rw [decide_eq_decide]
    omega
theorem zp5 {s more:Str} (h1:s.length≤2000000):zdM s more=some (zgD s more):=by
 unfold zdM
 rw [zhP (xs:=s) (fun b=>zgf b||more.contains b) false (some true) ?_ (by simp [zdC])]
 ·unfold zgD
  cases(s.all fun b=>zgf b||more.contains b)<;>rfl
 ·intro i hi
  have hu:((s[i].toNat:Int)).toNat.toUInt8=s[i]:=by simp
  simp only [zdC,Int.ofNat_lt,hi,decide_true,if_true,zai hi,Option.bind_some,zcV,zdl,zaU,hu,zms,zb7 hi (by omega:s.length≤_)]
  rw [show((decide ((s[i].toNat:Int)≥97)&&decide ((s[i].toNat:Int)≤122))||(decide ((s[i].toNat:Int)≥48)&&decide ((s[i].toNat:Int)≤57)))=zgf s[i]from rfl]
  cases zgf s[i]<;>cases more.contains s[i]<;>rfl
def zr7 (s:Str):Bool:=inB s.length 1 12&&zgD s [46,47]
def zsb (s:Str):Bool:=decide ((s.length:Int)≤24)&&zgD s [46,45,44,95]
def ztY (v:Str) (zs8:Bool):Bool:=zsb v&&(!zs8||v== [])
def zjr (ks:List Str) (i:Nat):Bool:=i==0||Op.bytesLess ((ks[i-1]?).getD []) ((ks[i]?).getD [])
def zoj (ks:List Str):Bool:=(List.range ks.length).all (zjr ks)
theorem zpO: ∀(a b:Str),(Op.bytesLess a b||a==b)= !Op.bytesLess b a
 | [], []=>rfl
 | [],_::_=>rfl
 |_::_, []=>rfl
 |x::a,y::b=>by
  have ih:=zpO a b
  simp only [Op.bytesLess]
  rcases Nat.lt_trichotomy x.toNat y.toNat with h|h|h
  ·have h1:x<y:=UInt8.lt_iff_toNat_lt.2 h
   have h2: ¬y<x:=fun h'=>by have:=UInt8.lt_iff_toNat_lt.1 h';omega
   have h3: ¬y=x:=fun h'=>by subst h';omega
   simp [h1,h2,h3]
  ·have h0:x=y:=UInt8.toNat_inj.1 h
   subst h0
   have h1: ¬x<x:=fun h'=>by have:=UInt8.lt_iff_toNat_lt.1 h';omega
   rw [show((x::a)==(x::b))=(a==b) by simp]
   simp only [h1,decide_false,Bool.false_or,beq_self_eq_true,Bool.true_and]
   exact ih
  ·have h1: ¬x<y:=fun h'=>by have:=UInt8.lt_iff_toNat_lt.1 h';omega
   have h2:y<x:=UInt8.lt_iff_toNat_lt.2 h
   have h3: ¬x=y:=fun h'=>by subst h';omega
   simp [h1,h2,h3]
theorem zrW {i:Nat} (h0:0<i) (h:i≤2000000):IntKind.i64.wrap ((i:Int)-1)=((i-1:Nat):Int):=by
 rw [zbr (by omega) (by omega)];omega
theorem zxz {α:Type} (xs:List α) (p:α→Bool) (q r:Nat→Bool) (h: ∀(i:Nat) (hi:i<xs.length),r i=(p xs[i]&&q i)):(List.range xs.length).all r=(xs.all p&&(List.range xs.length).all q):=by
 rw [←zoa xs p (fun i=>match xs[i]? with|some x=>p x|none=>true) fun i hi=>by simp [hi]]
 rw [Bool.eq_iff_iff]
 simp only [Bool.and_eq_true,List.all_eq_true,List.mem_range]
 constructor
 ·intro hr
  exact⟨fun i hi=>by have:=hr i hi;rw [h i hi,Bool.and_eq_true]at this;simpa [hi]using this.1,fun i hi=>by have:=hr i hi;rw [h i hi,Bool.and_eq_true]at this;exact this.2⟩
 ·rintro⟨h1,h2⟩ i hi
  rw [h i hi,Bool.and_eq_true]
  exact⟨by have:=h1 i hi;simpa [hi]using this,h2 i hi⟩
def zvS (w:za4):Bool:=zr7 w.fKey&&ztY w.fVal w.fGone
def zgO (l:List za4):Bool:=decide ((l.length:Int)≤24)&&(l.all zvS&&zoj (l.map (·.fKey)))
def zxW (l:List za4):Prop:=l.length≤2000000∧ ∀w∈l,w.fKey.length≤2000000∧w.fVal.length≤2000000
def zmE (l:List za4):Bool:=zgO l&&l.all fun w=> !w.fGone
end Go.Proofs.YtfkblfjloegahaaGreat
end
section
namespace Go.Proofs.YtfkblfjloegahaaGreat
open Go.RowKit
set_option maxRecDepth 100000
def small (b:UInt8):Bool:= !(decide ((b.toNat:Int)<97)||decide ((b.toNat:Int)>122))
def zbS (s:Str) (n:Int):Bool:=s.all small&&inB s.length 1 n
theorem ziw {s:Str} {n:Int} (h:s.length≤2000000):zbK s n=some (zbS s n):=by
 unfold zbK
 rw [zhP (xs:=s) small false (zc4 s n) (fun i hi=>by
  simp only [zc3,Int.ofNat_lt,hi,decide_true,if_true,zai hi,Option.bind_some,zb7 hi (by omega:s.length≤_)]
  rw [show(decide ((s[i].toNat:Int)<97)||decide ((s[i].toNat:Int)>122))= !small s[i] by simp [small]]
  cases small s[i]<;>rfl) (by simp [zc3])]
 unfold zc4 zbS inB
 cases s.all small<;>simp
theorem ziH {s:Str} {n:Int} (h:s.length≤2000000):zbJ s n=some (zbS s n):=by
 unfold zbJ
 rw [zhP (xs:=s) small false (zc5 s n) (fun i hi=>by
  simp only [zc6,Int.ofNat_lt,hi,decide_true,if_true,zai hi,Option.bind_some,zb7 hi (by omega:s.length≤_)]
  rw [show(decide ((s[i].toNat:Int)<97)||decide ((s[i].toNat:Int)>122))= !small s[i] by simp [small]]
  cases small s[i]<;>rfl) (by simp [zc6])]
 simp only [zc5,zhW,Option.bind_some,zbS]
 cases s.all small<;>simp
theorem zwV {xs:List Str} {s:Str} (h:xs.length≤2000000):zfg xs s=some (zfb (· ==s) xs):=by
 unfold zfg
 refine zmf (· ==s) (fun i hi=> ?_) (by simp [ze3])
 simp only [ze3,Int.ofNat_lt,hi,decide_true,if_true,zai hi,Option.bind_some,zb7 hi (by omega:xs.length≤_)]
 cases xs[i]==s<;>rfl
theorem zsv {xs:List Str} {s:Str} (h:xs.length≤2000000):zaZ xs s=some (zfb (· ==s) xs):=by
 unfold zaZ
 refine zmf (· ==s) (fun i hi=> ?_) (by simp [zbf])
 simp only [zbf,Int.ofNat_lt,hi,decide_true,if_true,zai hi,Option.bind_some,zb7 hi (by omega:xs.length≤_)]
 rw [show(s==xs[i])=(xs[i]==s)from BEq.comm]
 cases xs[i]==s<;>rfl
theorem zt1 (xs:List Str) (s:Str):(xs.any fun x=>x==s)=xs.contains s:=by
 rw [List.contains_eq_any_beq]
 congr 1
 funext x
 exact BEq.comm
theorem zvu {xs:List Str} {s:Str} (h:xs.length≤2000000):zaM xs s=some (xs.contains s):=by
 simp only [zaM,zsv h,Option.bind_some,zhN,zt1]
def zoo (cs:List Str) (i:Nat):Bool:=zbS ((cs[i]?).getD []) 3&& !(cs.take i).contains ((cs[i]?).getD [])
def zkC (cs:List Str):Bool:=(List.range cs.length).all (zoo cs)
def zhQ (t:zaa) (i:Nat):Bool:=
 let x:=(t.fIdxs[i]?).getD ⟨[],0,0⟩
 zbS x.fName 1&&inB x.fCol 1 ((t.fCols.length:Int)-1)&&inB x.fStage 0 3&&(i==0||Op.bytesLess ((t.fIdxs[i-1]?).getD ⟨[],0,0⟩).fName x.fName)
def zaq (t:zaa):Bool:=zbS t.fName 1&&(zkC t.fCols&&inB t.fCols.length 2 4)&&decide ((t.fIdxs.length:Int)≤3)&&(List.range t.fIdxs.length).all (zhQ t)
structure zbW (t:zaa):Prop where
 name:t.fName.length≤2000000
 cols:t.fCols.length≤2000000
 col: ∀c∈t.fCols,c.length≤2000000
 idxs:t.fIdxs.length≤2000000
 idx: ∀x∈t.fIdxs,x.fName.length≤2000000
theorem zxZ {α:Type} (xs:List α) (i:Nat):zm9 xs 0 i=xs.take i:=by simp [zm9]
theorem zuF {cs:List Str} (h:cs.length≤2000000) (hc: ∀c∈cs,c.length≤2000000):zep cs=some (zkC cs&&inB cs.length 2 4):=by
 unfold zep
 rw [zfJ (n:=cs.length) (zoo cs) false (zd8 cs) ?_ (by simp [zd9])]
 ·simp only [zd8,znj,Option.bind_some,zkC]
  cases(List.range cs.length).all (zoo cs)<;>simp
 ·intro i hi
  unfold zd9 zoo
  rw [if_pos (by simpa using hi),zai hi,Option.bind_some,ziw (hc _ (List.getElem_mem hi)),Option.bind_some,zau (by omega),zxZ,zwV (by rw [List.length_take];omega),Option.bind_some,zhN,zt1,zb7 hi (by omega)]
  simp only [List.getElem?_eq_getElem hi,Option.getD_some]
  cases zbS cs[i] 3<;>cases(cs.take i).contains cs[i]<;>rfl
theorem zh2 {t:zaa} (h:zbW t):zbB t=some (zaq t):=by
 have hw:=zbr (n:=(t.fCols.length:Int)-1) (by omega) (by have:=h.cols;omega)
 have hn:=h.idxs
 have hl:zay (fun s:Int=>zcq t s) 0=some ((List.range t.fIdxs.length).all (zhQ t)):=by
  rw [zfJ (n:=t.fIdxs.length) (zhQ t) false (some true) ?_ (by simp [zcq])]
  ·cases(List.range t.fIdxs.length).all (zhQ t)<;>rfl
  ·intro i hi
   unfold zhQ
   simp only [zcq,Int.ofNat_lt,hi,decide_true,if_true,zai hi,Option.bind_some,ziw (h.idx _ (List.getElem_mem hi)),znj,hw,zb7 hi (by omega:t.fIdxs.length≤_),List.getElem?_eq_getElem hi,Option.getD_some]
   by_cases h0:i=0
   ·subst h0
    cases zbS t.fIdxs[0].fName 1<;>cases inB t.fIdxs[0].fCol 1 ((t.fCols.length:Int)-1)<;>cases inB t.fIdxs[0].fStage 0 3<;>rfl
   ·have hp:(i:Int)>0:=by omega
    have hi1:i-1<t.fIdxs.length:=by omega
    have hb:(i==0)=false:=by simpa using h0
    simp only [hp,decide_true,if_true,zrW (Nat.pos_of_ne_zero h0) (by omega:i≤2000000),zai hi1,Option.bind_some,List.getElem?_eq_getElem hi1,Option.getD_some,hb,Bool.false_or]
    cases zbS t.fIdxs[i].fName 1<;>cases inB t.fIdxs[i].fCol 1 ((t.fCols.length:Int)-1)<;>cases inB t.fIdxs[i].fStage 0 3<;>cases Op.bytesLess t.fIdxs[i-1].fName t.fIdxs[i].fName<;>rfl
 unfold zbB zaq
 rw [ziw h.name,Option.bind_some,zuF h.cols h.col,hl]
 by_cases hk:(t.fIdxs.length:Int)≤3
 ·have hk': ¬(t.fIdxs.length:Int)>3:=by omega
  simp only [hk,hk',decide_true,decide_false,Bool.or_false,Bool.and_true]
  cases zbS t.fName 1<;>cases(zkC t.fCols&&inB t.fCols.length 2 4)<;>simp
 ·have hk':(t.fIdxs.length:Int)>3:=by omega
  simp only [hk,hk',decide_true,decide_false,Bool.or_true,Bool.and_false,Bool.false_and]
  cases zbS t.fName 1<;>simp
theorem zsP {t:zaa} (h:zbW t):zda t=some (zaq t):=by
 have hw:=zbr (n:=(t.fCols.length:Int)-1) (by omega) (by have:=h.cols;omega)
 have hn:=h.idxs
 have hm:=h.cols
 have hl:zay (fun s:Int=>zct t s) 0=some ((List.range t.fIdxs.length).all (zhQ t)):=by
  rw [zfJ (n:=t.fIdxs.length) (zhQ t) false (some true) ?_ (by simp [zct])]
  ·cases(List.range t.fIdxs.length).all (zhQ t)<;>rfl
  ·intro i hi
   unfold zhQ
   simp only [zct,zfo,Int.ofNat_lt,hi,decide_true,if_true,zai hi,Option.bind_some,ziH (h.idx _ (List.getElem_mem hi)),zhW,hw,zb7 hi (by omega:t.fIdxs.length≤_),List.getElem?_eq_getElem hi,Option.getD_some]
   by_cases h0:i=0
   ·subst h0
    cases zbS t.fIdxs[0].fName 1<;>cases inB t.fIdxs[0].fCol 1 ((t.fCols.length:Int)-1)<;>cases inB t.fIdxs[0].fStage 0 3<;>rfl
   ·have hp:(i:Int)>0:=by omega
    have hi1:i-1<t.fIdxs.length:=by omega
    have hb:(i==0)=false:=by simpa using h0
    simp only [hp,decide_true,if_true,zrW (Nat.pos_of_ne_zero h0) (by omega:i≤2000000),zai hi1,Option.bind_some,List.getElem?_eq_getElem hi1,Option.getD_some,hb,Bool.false_or,zpO]
    cases zbS t.fIdxs[i].fName 1<;>cases inB t.fIdxs[i].fCol 1 ((t.fCols.length:Int)-1)<;>cases inB t.fIdxs[i].fStage 0 3<;>cases Op.bytesLess t.fIdxs[i-1].fName t.fIdxs[i].fName<;>rfl
 have hc:zay (fun s:Int=>zcw t s) 0=some (zkC t.fCols&&(List.range t.fIdxs.length).all (zhQ t)):=by
  rw [zfJ (n:=t.fCols.length) (zoo t.fCols) false (zdg t) ?_ (by simp [zcw])]
  ·unfold zdg zkC
   rw [hl]
   cases(List.range t.fCols.length).all (zoo t.fCols)<;>simp
  ·intro i hi
   unfold zcw zoo
   rw [if_pos (by simpa using hi),zai hi,Option.bind_some,ziH (h.col _ (List.getElem_mem hi)),Option.bind_some,zau (by omega),zxZ,zvu (by rw [List.length_take];omega),Option.bind_some,zb7 hi (by omega)]
   simp only [List.getElem?_eq_getElem hi,Option.getD_some]
   cases zbS t.fCols[i] 3<;>cases(t.fCols.take i).contains t.fCols[i]<;>rfl
 unfold zda zaq
 rw [ziH h.name,Option.bind_some,zhW,Option.bind_some,hc]
 by_cases hk:(t.fIdxs.length:Int)≤3
 ·have hk': ¬(t.fIdxs.length:Int)>3:=by omega
  simp only [hk,hk',decide_true,decide_false,Bool.or_false,Bool.and_true]
  cases zbS t.fName 1<;>cases zkC t.fCols<;>cases inB t.fCols.length 2 4<;>simp
 ·have hk':(t.fIdxs.length:Int)>3:=by omega
  simp only [hk,hk',decide_true,decide_false,Bool.or_true,Bool.and_false,Bool.false_and]
  cases zbS t.fName 1<;>simp
theorem znL {t:zaa} {s:Str} (h:zbW t):zcu t s=some (zfb (fun x:zbg=>x.fName==s) t.fIdxs):=by
 have hn:=h.idxs
 unfold zcu
 refine zmf (fun x:zbg=>x.fName==s) (fun i hi=> ?_) (by simp [zeE])
 simp only [zeE,Int.ofNat_lt,hi,decide_true,if_true,zai hi,Option.bind_some,zb7 hi (by omega:t.fIdxs.length≤_)]
 cases t.fIdxs[i].fName==s<;>rfl
theorem znq {t:zaa} {s:Str} (h:zbW t):za3 t s=some (zfb (fun x:zbg=>x.fName==s) t.fIdxs):=by
 have hn:=h.idxs
 have e:zbj t.fIdxs (fun y0_=>zcn y0_ s)=some (zfb (fun x:zbg=>x.fName==s) t.fIdxs):=zod (fun x:zbg=>x.fName==s) (fun x _=>rfl) (by omega)
 simp only [za3,e,Option.bind_some]
end Go.Proofs.YtfkblfjloegahaaGreat
end
section
namespace Go.Proofs.YtfkblfjloegahaaGreat
open Go.RowKit
set_option maxRecDepth 100000
def zcM (c:UInt8):Str→List Str
 | []=> [[]]
 |b::s=>if b=c then []::zcM c s else(match zcM c s with| []=> [[b]]|x::xs=>(b::x)::xs)
theorem zne (c:UInt8) (s:Str):zcM c s≠ []:=by
 cases s with
 |nil=>simp [zcM]
 |cons b s=>simp only [zcM];split;simp;split<;>simp
theorem zjC {c:UInt8}: ∀{s:Str},(∀b∈s,b≠c)→zcM c s= [s]
 | [],_=>rfl
 |b::s,h=>by
  have e:=zjC (c:=c) (s:=s) fun x hx=>h x (List.mem_cons_of_mem _ hx)
  simp only [zcM,if_neg (h b (by simp)),e]
theorem znM {c:UInt8}: ∀{p q:Str},(∀b∈p,b≠c)→zcM c (p++c::q)=p::zcM c q
 | [],q,_=>by simp [zcM]
 |b::p,q,h=>by
  have e:=znM (c:=c) (p:=p) (q:=q) fun x hx=>h x (List.mem_cons_of_mem _ hx)
  simp only [List.cons_append,zcM,if_neg (h b (by simp)),e]
theorem zlK (c:UInt8) (s:Str):(zcM c s).length=s.count c+1:=by
 induction s with
 |nil=>rfl
 |cons b s ih=>
  simp only [zcM]
  by_cases h:b=c
  ·subst h;simp [ih]
  ·rw [if_neg h,List.count_cons_of_ne h]
   cases hs:zcM c s with
   |nil=>exact absurd hs (zne c s)
   |cons x xs=>rw [hs]at ih;simpa using ih
theorem zyT {α:Type} (xs:List α) (i j:Nat):zm9 xs (i:Int) (j:Int)=(xs.take j).drop i:=by simp [zm9]
def zyV (c:UInt8) (s:Str) (t:List Str × Nat) (i:Nat):List Str × Nat:=if(s[i]?).getD 0=c then(t.1++ [(s.take i).drop t.2],i+1)else t
theorem zkQ (l:Str) (c:UInt8):(Lib.indexByte l c= -1∧ ∀b∈l,b≠c)∨ ∃p q:Str,l=p++c::q∧(∀b∈p,b≠c)∧Lib.indexByte l c=p.length:=by
 induction l with
 |nil=>exact .inl ⟨rfl,by simp⟩
 |cons b l ih=>
  unfold Lib.indexByte
  by_cases hb:b=c
  ·subst hb
   exact .inr ⟨[],l,by simp,by simp,by simp⟩
  ·have h1:(b==c)=false:=by simpa using hb
   rw [h1]
   simp only [Bool.false_eq_true,if_false]
   rcases ih with⟨e,h⟩|⟨p,q,rfl,h,e⟩
   ·refine .inl ⟨by simp [e],fun x hx=> ?_⟩
    rcases List.mem_cons.1 hx with rfl|hx
    ·exact hb
    ·exact h x hx
   ·refine .inr ⟨b::p,q,by simp,fun x hx=> ?_, ?_⟩
    ·rcases List.mem_cons.1 hx with rfl|hx
     ·exact hb
     ·exact h x hx
    ·rw [e]
     have:((p.length:Int)== -1)=false:=by rw [beq_eq_false_iff_ne];omega
     rw [this]
     simp
theorem zqv {c:UInt8} {s:Str} (h: ∀b∈s,b≠c):s.count c=0:=List.count_eq_zero.2 fun hc=>h c hc rfl
theorem zwM {c:UInt8} {p q:Str} (h: ∀b∈p,b≠c):(p++c::q).count c=q.count c+1:=by
 rw [List.count_append,zqv h,List.count_cons_self];omega
theorem zvs {α:Type} {a:List α} {i:Nat} (x:α) (h:i<a.length):(a.set i x).take (i+1)=a.take i++ [x]:=by
 rw [List.take_succ_eq_append_getElem (by simpa using h),List.getElem_set_self,List.take_set,List.set_eq_of_length_le (by rw [List.length_take];omega)]
theorem zx4 {a b:Int} (h: ¬a<b):(bif decide (a<b)then a else b)=b:=by simp [h]
end Go.Proofs.YtfkblfjloegahaaGreat
end
section
namespace Go.Proofs.YtfkblfjloegahaaGreat
open Go.RowKit
set_option maxRecDepth 100000
def field (s:Str):Bool:=inB s.length 1 3&&zgD s []
theorem zto {s:Str} (h:s.length≤2000000):zdQ s=some (field s):=by
 simp only [zdQ,znj,Option.bind_some,zrk h (more:= []) (by decide),field]
 cases inB s.length 1 3<;>simp
theorem zsy {s:Str} (h:s.length≤2000000):zej s=some (field s):=by
 simp only [zej,zhW,Option.bind_some,zp5 h,field]
 cases inB s.length 1 3<;>simp
theorem zqO (sep x y:Str) (r:List Str):Lib.join (x::(r++ [y])) sep=Lib.join (x::r) sep++sep++y:=by
 rw [Lib.join_cons,Lib.join_cons]
 simp [Lib.joinTail]
theorem zrf {xs:List Str} {sep:Str} {i:Nat} (hi:i<xs.length):Lib.join (xs.take (i+1)) sep=if i=0 then xs[i]else Lib.join (xs.take i) sep++sep++xs[i]:=by
 rw [List.take_succ_eq_append_getElem hi]
 cases xs with
 |nil=>simp at hi
 |cons x xs=>
  cases i with
  |zero=>simp [Lib.join_cons,Lib.joinTail]
  |succ i=>
   rw [List.take_succ_cons,List.cons_append,zqO,if_neg (by omega)]
def zcl:List Str→Nat
 | []=>0
 |x::xs=>x.length+zcl xs
theorem zm6 (xs:List Str) (sep:Str):(Lib.join xs sep).length≤zcl xs+xs.length*sep.length:=by
 cases xs with
 |nil=>simp [Lib.join_nil]
 |cons x xs=>
  rw [Lib.join_cons,List.length_append]
  have: ∀r:List Str,(Lib.joinTail sep r).length=zcl r+r.length*sep.length:=by
   intro r
   induction r with
   |nil=>simp [Lib.joinTail,zcl]
   |cons y r ih=>
    have e:Lib.joinTail sep (y::r)=sep++y++Lib.joinTail sep r:=by simp [Lib.joinTail]
    rw [e,List.length_append,List.length_append,ih,zcl,List.length_cons,Nat.succ_mul]
    omega
  rw [this,zcl,List.length_cons,Nat.succ_mul]
  omega
theorem zo2 (xs:List Str) (i:Nat):zcl (xs.take i)≤zcl xs:=by
 induction xs generalizing i with
 |nil=>simp [zcl]
 |cons x xs ih=>
  cases i with
  |zero=>simp [zcl]
  |succ i=>simp only [List.take_succ_cons,zcl];have:=ih i;omega
theorem zlM {xs:List Str} {i:Nat} (hi:i<xs.length):xs[i].length≤zcl xs:=by
 induction xs generalizing i with
 |nil=>simp at hi
 |cons x xs ih=>
  cases i with
  |zero=>simp [zcl]
  |succ i=>simp only [List.getElem_cons_succ,zcl];have:=ih (i:=i) (by simpa using hi);omega
def Small (xs:List Str):Prop:=xs.length≤2000000∧zcl xs≤2000000
theorem zuP {xs:List Str} {c:UInt8} (h:Small xs):zfu xs [c]=some (Lib.join xs [c]):=by
 obtain⟨h1,h2⟩:=h
 have hl:=zh1 (xs:=List.range xs.length) (body:=fun s:Str × Int=>zbO xs [c] s.1 s.2) (fun i (o:Str)=>(o,i)) (fun o i=>if i=0 then(xs[i]?).getD []else o++ [c]++(xs[i]?).getD []) (fun o=>some o) (fun i o=>o=Lib.join (xs.take i) [c])
  (fun i hi o hI=>by
   rw [List.length_range]at hi
   rw [List.getElem_range]
   have hI:o=Lib.join (xs.take i) [c]:=hI
   have hlen:o.length≤1010000000:=by
    have e1:=zm6 (xs.take i) [c]
    have e2:=zo2 xs i
    rw [List.length_take,List.length_singleton,Nat.mul_one]at e1
    rw [hI];omega
   have hg:=zlM hi
   have hw:=zb7 hi (by omega:xs.length≤_)
   rw [List.getElem?_eq_getElem hi,Option.getD_some]
   refine⟨?_,by show _=_;rw [zrf hi,hI]⟩
   show zbO xs [c] o i=_
   unfold zbO
   rw [if_pos (by simpa using hi),zai hi,Option.bind_some,hw]
   by_cases h0:i=0
   ·subst h0
    have ho:o= []:=by rw [hI];rfl
    subst ho
    rw [if_neg (by simp),zau (by simp;omega),if_pos rfl];rfl
   ·rw [if_pos (by simp;omega),zau (by rw [List.length_singleton];omega),zau (by rw [List.length_append,List.length_singleton];omega),if_neg h0])
  (fun o _=>by
   show zbO xs [c] o ((List.range xs.length).length:Nat)=_
   unfold zbO
   rw [if_neg (by simp)]) (s:= []) (by simp [Lib.join_nil])
 generalize (List.range xs.length).foldl (fun o i=>if i=0 then(xs[i]?).getD []else o++ [c]++(xs[i]?).getD []) []=o at hl
 obtain⟨h3,h4⟩:=hl
 have h4:o=Lib.join (xs.take (List.range xs.length).length) [c]:=h4
 rw [List.length_range,List.take_length]at h4
 subst h4
 exact h3
theorem zue {xs:List Str} {c:UInt8} (h:Small xs):zes xs [c]=some (Lib.join xs [c]):=by
 obtain⟨h1,h2⟩:=h
 have:=zm6 xs [c]
 rw [List.length_singleton,Nat.mul_one]at this
 exact zau ⟨by omega,by omega⟩
end Go.Proofs.YtfkblfjloegahaaGreat
end
section
namespace Go.Proofs.YtfkblfjloegahaaGreat
open Go.RowKit
set_option maxRecDepth 100000
theorem Small.each {xs:List Str} (h:Small xs): ∀x∈xs,x.length≤2000000:=by
 intro x hx
 obtain⟨i,hi,rfl⟩:=List.getElem_of_mem hx
 exact Nat.le_trans (zlM hi) h.2
def zbp (t:zaa) (r:zd5):Bool:=((r.fVals.length:Int)==t.fCols.length)&&r.fVals.all field
theorem zfN {t:zaa} {r:zd5} (h:Small r.fVals):zbH t r=some (zbp t r):=by
 have h1:=h.1
 unfold zbH
 rw [zhP (xs:=r.fVals) field false (zd3 t r) (fun i hi=>by
  simp only [zd2,Int.ofNat_lt,hi,decide_true,if_true,zai hi,Option.bind_some,zto (h.each _ (List.getElem_mem hi)),zb7 hi (by omega:r.fVals.length≤_)]
  cases field r.fVals[i]<;>rfl) (by simp [zd2])]
 unfold zd3 zbp
 cases r.fVals.all field<;>simp
theorem zfB {t:zaa} {r:zd5} (h:Small r.fVals):zaN t r=some (zbp t r):=by
 have e:zcE r.fVals (fun y0_=>zbV y0_)=some (r.fVals.any fun s=> !field s):=zum _ (fun s hs=>by simp [zbV,zsy (h.each s hs)]) (by have:=h.1;omega)
 simp only [zaN,e,Option.bind_some,zbp,←List.not_all_eq_any_not]
 cases((r.fVals.length:Int)==t.fCols.length)<;>simp
def zhS (t:zaa) (r:zd5):za4:=⟨t.fName++ [47]++(r.fVals.head?).getD [],Lib.join r.fVals.tail [44],false⟩
theorem zyb {α:Type} (xs:List α):zm9 xs 1 (xs.length:Int)=xs.tail:=by simp [zm9]
theorem Small.tail {xs:List Str} (h:Small xs):Small xs.tail:=by
 cases xs with
 |nil=>exact h
 |cons x xs=>exact⟨by have:=h.1;simp at this ⊢;omega,by have:=h.2;simp only [zcl,List.tail_cons]at this ⊢;omega⟩
theorem zmZ {t:zaa} {r:zd5} (ht:t.fName.length≤2000000) (h:Small r.fVals) (hn:r.fVals≠ []):zbQ t r=some (zhS t r):=by
 obtain⟨x,xs,hx⟩:=List.exists_cons_of_ne_nil hn
 have hx1:x.length≤2000000:=h.each x (by simp [hx])
 unfold zbQ zhS
 rw [zau (by rw [List.length_singleton];omega),zyb,zuP h.tail,hx]
 rw [show zbD (x::xs) 0=some x from rfl,Option.bind_some,zau (by rw [List.length_append,List.length_singleton];omega),zau (by simp only [List.length_cons];omega),Option.bind_some]
 rfl
theorem zjX {t:zaa} {r:zd5} (ht:t.fName.length≤2000000) (h:Small r.fVals) (hn:r.fVals≠ []):zaX t r=some (zhS t r):=by
 obtain⟨x,xs,hx⟩:=List.exists_cons_of_ne_nil hn
 have hx1:x.length≤2000000:=h.each x (by simp [hx])
 unfold zaX zhS
 rw [zau (by rw [List.length_singleton];omega),zyb,zue h.tail,hx]
 rw [show zbD (x::xs) 0=some x from rfl,Option.bind_some,zau (by rw [List.length_append,List.length_singleton];omega),zau (by simp only [List.length_cons];omega),Option.bind_some]
 rfl
theorem ziY (c:UInt8) (s:Str):zcl (zcM c s)≤s.length:=by
 induction s with
 |nil=>simp [zcM,zcl]
 |cons b s ih=>
  simp only [zcM]
  split
  ·simp only [zcl,List.length_nil,List.length_cons];omega
  ·cases hs:zcM c s with
   |nil=>exact absurd hs (zne c s)
   |cons x xs=>rw [hs]at ih;simp only [zcl,List.length_cons]at ih ⊢;omega
theorem zuD {c:UInt8} {s:Str} (h:s.length≤1000000):Small (zcM c s):=by
 have h1:=zlK c s
 have h2:s.count c≤s.length:=List.count_le_length
 have h3:=ziY c s
 exact⟨by omega,by omega⟩
end Go.Proofs.YtfkblfjloegahaaGreat
end
section
namespace Go.Proofs.YtfkblfjloegahaaGreat
open Go.RowKit
set_option maxRecDepth 100000
def zpU (a b:za4):Bool:=a.fKey==b.fKey&&(a.fVal==b.fVal&&(a.fGone==b.fGone))
theorem zvf (a b:za4):zpU a b=zpU b a:=by
 unfold zpU
 rw [show(a.fKey==b.fKey)=(b.fKey==a.fKey)from BEq.comm,show(a.fVal==b.fVal)=(b.fVal==a.fVal)from BEq.comm,show(a.fGone==b.fGone)=(b.fGone==a.fGone)from BEq.comm]
theorem zvG {a b:za4} (h:zpU a b=true):a.fKey=b.fKey:=by
 unfold zpU at h
 simp only [Bool.and_eq_true,beq_iff_eq]at h
 exact h.1
def zqm (w:za4):zd5:=⟨w.fKey.drop 2::zcM 44 w.fVal⟩
def zo0 (t:zaa) (w:za4):Bool:=zbp t (zqm w)&&zpU (zhS t (zqm w)) w
def zuU (w:za4):Prop:=w.fKey.length≤1000∧w.fVal.length≤1000
theorem zoJ {w:za4} (h:zuU w):Small (zqm w).fVals:=by
 have h1:=zlK 44 w.fVal
 have h2:w.fVal.count 44≤w.fVal.length:=List.count_le_length
 have h3:=ziY 44 w.fVal
 obtain⟨k,v⟩:=h
 refine⟨?_, ?_⟩
 ·show(w.fKey.drop 2::zcM 44 w.fVal).length≤_
  rw [List.length_cons];omega
 ·show zcl (w.fKey.drop 2::zcM 44 w.fVal)≤_
  rw [zcl,List.length_drop];omega
theorem zvJ {t:zaa} {w:za4} (h:zbp t (zqm w)=true):3≤w.fKey.length:=by
 unfold zbp zqm at h
 simp only [Bool.and_eq_true,List.all_cons,field,zdA,List.length_drop]at h
 omega
end Go.Proofs.YtfkblfjloegahaaGreat
end
section
namespace Go.Proofs.YtfkblfjloegahaaGreat
open Go.RowKit
set_option maxRecDepth 100000
theorem zve {α β:Type} (p:α→Bool) (f:α→β) (l:List α) (o:List β):l.foldl (fun o x=>if p x=true then o++ [f x]else o) o=o++(l.filter p).map f:=by
 induction l generalizing o with
 |nil=>simp
 |cons x l ih=>
  rw [List.foldl_cons,ih,List.filter_cons]
  cases p x<;>simp
def zk0 (t:zaa) (l:List za4):List zd5:=(l.filter (zo0 t)).map zqm
def head (t:zaa) (n:Str):Str:=t.fName++ [46]++n
def zuV (t:zaa) (n:Str) (k:Str):Bool:=match zcM 47 k with
 | [x,y,z]=>x==head t n&&field y&&field z
 |_=>false
end Go.Proofs.YtfkblfjloegahaaGreat
end
section
namespace Go.Proofs.YtfkblfjloegahaaGreat
open Go.RowKit
set_option maxRecDepth 100000
theorem zva {c:UInt8} {s x y:Str} {r:List Str} (h:zcM c s=x::y::r): ∃q,s=x++c::q:=by
 rcases zkQ s c with⟨_,h0⟩|⟨p,q,rfl,hp,_⟩
 ·rw [zjC h0]at h;simp at h
 ·rw [znM hp]at h
  obtain⟨rfl,_⟩:=List.cons.inj h
  exact⟨q,rfl⟩
theorem zwK {s:Str} (h:(47:UInt8)∈s):field s=false:=by
 unfold field zgD
 have:(s.all fun b=>zgf b||([]:Str).contains b)=false:=by
  rw [List.all_eq_false]
  exact⟨47,h,by decide⟩
 rw [this,Bool.and_false]
theorem zuy {t:zaa} {n:Str} (ht:t.fName.length≤2000000) (hn:n.length≤2000000):zbU t n=some (head t n++ [47]):=by
 unfold zbU head
 rw [zau (by rw [List.length_singleton];omega),zau (by rw [List.length_append,List.length_singleton];omega),zau (by rw [List.length_append,List.length_append,List.length_singleton,List.length_singleton];omega)]
end Go.Proofs.YtfkblfjloegahaaGreat
end
section
namespace Go.Proofs.YtfkblfjloegahaaGreat
open Go.RowKit
set_option maxRecDepth 100000
def zke (t:zaa) (n:Str) (l:List za4):List Str:=(l.filter fun w=>zuV t n w.fKey).map (·.fKey)
def zx6 (a b:List Str):List Str:=a.filter fun k=> !b.contains k
end Go.Proofs.YtfkblfjloegahaaGreat
end
section
namespace Go.Proofs.YtfkblfjloegahaaGreat
open Go.RowKit
set_option maxRecDepth 100000
structure zfF (t:zaa) (n:Str) (x:zbg):Prop where
 at_:zbD t.fIdxs (zfb (fun y:zbg=>y.fName==n) t.fIdxs)=some x
 name:x.fName=n
 c0:1≤x.fCol
 c1:x.fCol≤(t.fCols.length:Int)-1
def zg8 (r:zd5) (c:Int):Str:=(r.fVals[c.toNat]?).getD []
def zlt (t:zaa) (n:Str) (c:Int) (r:zd5):Str:=head t n++ [47]++zg8 r c++ [47]++zg8 r 0
structure zm7 (t:zaa) (r:zd5):Prop where
 len:r.fVals.length=t.fCols.length
 small:Small r.fVals
theorem zxt {t:zaa} {l:List za4} (h: ∀w∈l,zuU w): ∀r∈zk0 t l,zm7 t r:=by
 intro r hr
 obtain⟨w,hw,rfl⟩:=List.mem_map.1 hr
 obtain⟨h1,h2⟩:=List.mem_filter.1 hw
 have h3:zo0 t w=true:=h2
 unfold zo0 zbp at h3
 simp only [Bool.and_eq_true,beq_iff_eq]at h3
 exact⟨by have:=h3.1.1;omega,zoJ (h w h1)⟩
theorem zjY {t:zaa} {r:zd5} (hr:zm7 t r) {c:Int} (h0:0≤c) (h1:c≤(t.fCols.length:Int)-1):zbD r.fVals c=some (zg8 r c)∧(zg8 r c).length≤2000000:=by
 obtain⟨y,e,hm,e2⟩:=zr0 (xs:=r.fVals) h0 (by have:=hr.len;omega)
 have hv:zg8 r c=y:=by simp [zg8,e2]
 rw [hv]
 exact⟨e,hr.small.each y hm⟩
theorem zmH {t:zaa} {n:Str} {x:zbg} {r:zd5} (ht:t.fName.length≤2000000) (hn:n.length≤2000000) (hx:zfF t n x) (hr:zm7 t r):zcj t x r=some (zlt t n x.fCol r):=by
 obtain⟨g1,l1⟩:=zjY hr (c:=x.fCol) (by have:=hx.c0;omega) hx.c1
 obtain⟨g2,l2⟩:=zjY hr (c:=0) (by omega) (by have:=hx.c0;have:=hx.c1;omega)
 have e:=hx.name
 subst e
 unfold zcj zlt
 rw [zau (by simp only [head,List.length_append,List.length_cons,List.length_nil];omega),zau (by simp only [head,List.length_append,List.length_cons,List.length_nil];omega),zau (by simp only [head,List.length_append,List.length_cons,List.length_nil];omega),g1,Option.bind_some,
  zau (by simp only [head,List.length_append,List.length_cons,List.length_nil];omega),zau (by simp only [head,List.length_append,List.length_cons,List.length_nil];omega),g2,Option.bind_some,
  zau (by simp only [head,List.length_append,List.length_cons,List.length_nil];omega)]
 rfl
theorem zmN {t:zaa} {n:Str} {x:zbg} {r:zd5} (hS:zbW t) (hn:n.length≤2000000) (hx:zfF t n x) (hr:zm7 t r):zaF t n r=some (zlt t n x.fCol r):=by
 obtain⟨g1,l1⟩:=zjY hr (c:=x.fCol) (by have:=hx.c0;omega) hx.c1
 obtain⟨g2,l2⟩:=zjY hr (c:=0) (by omega) (by have:=hx.c0;have:=hx.c1;omega)
 have ht:=hS.name
 have hi:zaP t n=some x:=by
  unfold zaP
  rw [znq hS,Option.bind_some,hx.at_];rfl
 unfold zaF zlt
 rw [zuy ht hn,Option.bind_some,hi,Option.bind_some,g1,Option.bind_some,zau (by simp only [head,List.length_append,List.length_cons,List.length_nil];omega),zau (by simp only [head,List.length_append,List.length_cons,List.length_nil];omega),g2,Option.bind_some,zau (by simp only [head,List.length_append,List.length_cons,List.length_nil];omega)]
def wanted (t:zaa) (n:Str) (x:zbg) (l:List za4):List Str:=(zk0 t l).map (zlt t n x.fCol)
theorem ztt (t:zaa) (l:List za4):(zk0 t l).length≤l.length:=by
 unfold zk0
 rw [List.length_map]
 exact List.length_filter_le _ _
end Go.Proofs.YtfkblfjloegahaaGreat
end
section
namespace Go.Proofs.YtfkblfjloegahaaGreat
open Go.RowKit
set_option maxRecDepth 100000
def holds (t:zaa) (n:Str) (x:zbg) (lv:Int) (l:List za4):Bool:=
 if lv==0 then((zke t n l).length:Int)==0
 else(((zx6 (zke t n l) (wanted t n x l)).length:Int)==0)&&((lv==1)||(((zx6 (wanted t n x l) (zke t n l)).length:Int)==0))
theorem zuC (t:zaa) (n:Str) (l:List za4):(zke t n l).length≤l.length:=by
 unfold zke;rw [List.length_map];exact List.length_filter_le _ _
theorem zvg (t:zaa) (n:Str) (x:zbg) (l:List za4):(wanted t n x l).length≤l.length:=by
 unfold wanted;rw [List.length_map];exact ztt t l
end Go.Proofs.YtfkblfjloegahaaGreat
end
section
namespace Go.Proofs.YtfkblfjloegahaaGreat
open Go.RowKit
set_option maxRecDepth 100000
def ziV (t:zaa) (n:Str):Bool:=zaq t&&decide (zfb (fun x:zbg=>x.fName==n) t.fIdxs≥0)
def zyo (t:zaa) (n:Str) (l:List za4):Bool:=ziV t n&&zmE l
theorem zu1 {t:zaa} {n:Str} (hS:zbW t):zeV t n=some (ziV t n):=by
 unfold zeV ziV
 rw [zsP hS,Option.bind_some,znq hS,Option.bind_some]
 cases zaq t<;>simp
theorem zxn {l:List za4} (h:zmE l=true): ∀w∈l,zuU w:=by
 intro w hw
 unfold zmE zgO at h
 simp only [Bool.and_eq_true]at h
 have h1:=List.all_eq_true.1 h.1.2.1 w hw
 unfold zvS zr7 ztY zsb at h1
 simp only [Bool.and_eq_true,decide_eq_true_eq]at h1
 have h2:=zdA.1 h1.1.1
 have h3:=h1.2.1.1
 exact⟨by omega,by omega⟩
theorem zkq {s:Str} {k:Int} (h:zbS s k=true):(s.length:Int)≤k∧ ∀b∈s,b≠47:=by
 unfold zbS at h
 simp only [Bool.and_eq_true]at h
 refine⟨(zdA.1 h.2).2,fun b hb e=> ?_⟩
 have h1:=List.all_eq_true.1 h.1 b hb
 subst e
 exact absurd h1 (by decide)
theorem ze8 {s:Str} (h:zbS s 1=true):s.length=1:=by
 unfold zbS at h
 simp only [Bool.and_eq_true]at h
 have:=zdA.1 h.2
 omega
theorem zkg {t:zaa} (h:zaq t=true):zbS t.fName 1=true:=by
 unfold zaq at h
 simp only [Bool.and_eq_true]at h
 exact h.1.1.1
theorem zmt {t:zaa} (h:zaq t=true) {x:zbg} (hx:x∈t.fIdxs):zbS x.fName 1=true∧inB x.fCol 1 ((t.fCols.length:Int)-1)=true:=by
 unfold zaq at h
 simp only [Bool.and_eq_true]at h
 obtain⟨i,hi,rfl⟩:=List.mem_iff_getElem.1 hx
 have h1:=List.all_eq_true.1 h.2 i (List.mem_range.2 hi)
 unfold zhQ at h1
 simp only [Bool.and_eq_true,List.getElem?_eq_getElem hi,Option.getD_some]at h1
 exact⟨h1.1.1.1,h1.1.1.2⟩
theorem zru {t:zaa} {n:Str} (h:ziV t n=true): ∃x,zfF t n x∧t.fName.length=1∧n.length=1∧ ∀b∈head t n,b≠47:=by
 unfold ziV at h
 simp only [Bool.and_eq_true,decide_eq_true_eq]at h
 obtain⟨x,h1,h2,h3⟩:=zpd h.2
 have h4:=zmt h.1 h3
 have h5:=zdA.1 h4.2
 have h6:x.fName=n:=by simpa using h2
 have h7:=zkg h.1
 have h8:=h6▸h4.1
 refine⟨x,⟨h1,h6,h5.1,h5.2⟩,ze8 h7,ze8 h8,fun b hb=> ?_⟩
 unfold head at hb
 simp only [List.mem_append,List.mem_singleton]at hb
 rcases hb with(hb|hb)|hb
 ·exact(zkq h7).2 b hb
 ·subst hb;decide
 ·exact(zkq h8).2 b hb
end Go.Proofs.YtfkblfjloegahaaGreat
end
section
namespace Go.Proofs.YtfkblfjloegahaaGreat
open Go.RowKit
set_option maxRecDepth 100000
theorem zoF {xs:List Str} (h:xs.length≤2000000):zbA xs=some xs:=by
 unfold zbA
 rw [zau (by omega)]
 exact zn5 (fun i hi v hv=>by
  show zaI xs i v=_
  unfold zaI
  rw [if_pos (by simpa using hi),zai hi,Option.bind_some,zai (by omega),Option.bind_some,zb7 hi (by omega)];rfl) (fun v=>by
  show zaI xs _ v=_
  unfold zaI
  rw [if_neg (by simp)])
theorem ztn {xs:List zbg} (h:xs.length≤2000000):zcZ xs=some xs:=by
 unfold zcZ
 rw [zau (by omega)]
 exact zn5 (fun i hi v hv=>by
  show za7 xs i v=_
  unfold za7 zfe
  rw [if_pos (by simpa using hi),zai hi,Option.bind_some,Option.bind_some,zai (by omega),Option.bind_some,zb7 hi (by omega)];rfl) (fun v=>by
  show za7 xs _ v=_
  unfold za7
  rw [if_neg (by simp)])
theorem zwa {t:zaa} (h:zbW t):zcC t=some t:=by
 unfold zcC
 rw [zoF h.cols,Option.bind_some,ztn h.idxs,Option.bind_some]
theorem zoL {xs:List Str} (h:xs.length≤2000000):zby xs xs=some true:=by
 unfold zby
 rw [if_neg (by simp)]
 exact zl2 (n:=xs.length) (fun i hi=>by
  show zaH xs xs i=_
  unfold zaH
  rw [if_pos (by simpa using hi),zai hi,Option.bind_some,Option.bind_some,if_neg (by simp),zb7 hi (by omega)]) (by
  show zaH xs xs _=_
  unfold zaH
  rw [if_neg (by simp)])
theorem zs6 {xs:List zbg} (h:xs.length≤2000000):zc0 xs xs=some true:=by
 unfold zc0
 rw [if_neg (by simp)]
 exact zl2 (n:=xs.length) (fun i hi=>by
  show za6 xs xs i=_
  unfold za6
  have e: ∀x:zbg,zdo x x=some true:=fun x=>by simp [zdo]
  rw [if_pos (by simpa using hi),zai hi,Option.bind_some,Option.bind_some,e,Option.bind_some,if_neg (by simp),zb7 hi (by omega)]) (by
  show za6 xs xs _=_
  unfold za6
  rw [if_neg (by simp)])
theorem zwc {t:zaa} (h:zbW t):zcF t t=some true:=by
 unfold zcF
 rw [if_neg (by simp),zoL h.cols,Option.bind_some,if_neg (by simp),zs6 h.idxs,Option.bind_some,if_neg (by simp)]
end Go.Proofs.YtfkblfjloegahaaGreat
end
section
namespace Go.Proofs.YtfkblfjloegahaaGreat
open Go.RowKit
set_option maxRecDepth 100000
theorem zoY {xs:List Str} {a:Int} (h0:0≤a) (h1:a≤1048576) (hn:xs.length≤9223372036854775807) (hx: ∀x∈xs,x.length≤9223372036854775807): ∃v,zbx xs a=some v∧v≤a∧(0≤v→xs.length≤2000000∧ ∀x∈xs,x.length≤2000000):=by
 unfold zbx
 rw [zdz h0 h1 (by omega)]
 by_cases h2:a-(xs.length:Int)<0
 ·rw [if_pos (by simpa using h2)];exact⟨-1,rfl,by omega,by omega⟩
 ·rw [if_neg (by simpa using h2)]
  obtain⟨v,e1,e2,e3⟩:=zxV (xs:=xs) (body:=fun s:Int × Int=>zas xs s.1 s.2) (fun x=>x.length≤2000000) (a:=a-xs.length) (by omega) (by omega) (fun i hi b hb0 hb1=>by
   refine⟨b-(xs[i].length:Int),by omega,fun h=>by show xs[i].length≤2000000;omega, ?_⟩
   show zas xs b i=_
   unfold zas
   rw [if_pos (by simpa using hi),zai hi,Option.bind_some,zdz hb0 hb1 (hx _ (List.getElem_mem hi)),zb7 hi (by omega)]
   by_cases h3:b-(xs[i].length:Int)<0
   ·rw [if_pos (by simpa using h3),if_pos h3]
   ·rw [if_neg (by simpa using h3),if_neg h3]) (fun b=>by
   show zas xs b _=_
   unfold zas
   rw [if_neg (by simp)])
  exact⟨v,e1,by omega,fun hv=>⟨by omega,e3 hv⟩⟩
theorem zsI {xs:List zbg} {a:Int} (h0:0≤a) (h1:a≤1048576) (hn:xs.length≤9223372036854775807) (hx: ∀x∈xs,x.fName.length≤9223372036854775807): ∃v,zcY xs a=some v∧v≤a∧(0≤v→xs.length≤2000000∧ ∀x∈xs,x.fName.length≤2000000):=by
 unfold zcY
 rw [zdz h0 h1 (by omega)]
 by_cases h2:a-(xs.length:Int)<0
 ·rw [if_pos (by simpa using h2)];exact⟨-1,rfl,by omega,by omega⟩
 ·rw [if_neg (by simpa using h2)]
  obtain⟨v,e1,e2,e3⟩:=zxV (xs:=xs) (body:=fun s:Int × Int=>zav xs s.1 s.2) (fun x=>x.fName.length≤2000000) (a:=a-xs.length) (by omega) (by omega) (fun i hi b hb0 hb1=>by
   have hb2:=zdz hb0 hb1 (hx _ (List.getElem_mem hi))
   by_cases h3:b-(xs[i].fName.length:Int)<0
   ·refine⟨-1,by omega,by omega, ?_⟩
    show zav xs b i=_
    unfold zav zdq
    rw [if_pos (by simpa using hi),zai hi,Option.bind_some,hb2,if_pos (by simpa using h3),Option.bind_some,if_pos (by simp),if_pos (by omega)]
   ·refine⟨b-(xs[i].fName.length:Int),by omega,fun h=>by show xs[i].fName.length≤2000000;omega, ?_⟩
    show zav xs b i=_
    unfold zav zdq
    rw [if_pos (by simpa using hi),zai hi,Option.bind_some,hb2,if_neg (by simpa using h3),Option.bind_some,if_neg (by simpa using h3),if_neg h3,zb7 hi (by omega)]) (fun b=>by
   show zav xs b _=_
   unfold zav
   rw [if_neg (by simp)])
  exact⟨v,e1,by omega,fun hv=>⟨by omega,e3 hv⟩⟩
structure zyC (t:zaa):Prop where
 name:t.fName.length≤9223372036854775807
 cols:t.fCols.length≤9223372036854775807
 col: ∀c∈t.fCols,c.length≤9223372036854775807
 idxs:t.fIdxs.length≤9223372036854775807
 idx: ∀x∈t.fIdxs,x.fName.length≤9223372036854775807
theorem zvw {t:zaa} {a:Int} (h0:0≤a) (h1:a≤1048576) (h:zyC t): ∃v,zcG t a=some v∧v≤a∧(0≤v→zbW t):=by
 unfold zcG
 rw [zdz h0 h1 h.name]
 by_cases h2:a-(t.fName.length:Int)<0
 ·rw [if_pos (by simpa using h2)];exact⟨-1,rfl,by omega,by omega⟩
 ·rw [if_neg (by simpa using h2)]
  obtain⟨v,e1,e2,e3⟩:=zoY (xs:=t.fCols) (a:=a-t.fName.length) (by omega) (by omega) h.cols h.col
  rw [e1,Option.bind_some]
  by_cases h3:v<0
  ·rw [if_pos (by simpa using h3)];exact⟨-1,rfl,by omega,by omega⟩
  ·rw [if_neg (by simpa using h3)]
   obtain⟨u,f1,f2,f3⟩:=zsI (xs:=t.fIdxs) (a:=v) (by omega) (by omega) h.idxs h.idx
   rw [f1,Option.bind_some]
   by_cases h4:u<0
   ·rw [if_pos (by simpa using h4)];exact⟨-1,rfl,by omega,by omega⟩
   ·rw [if_neg (by simpa using h4)]
    have g1:=e3 (by omega)
    have g2:=f3 (by omega)
    exact⟨u,rfl,by omega,fun _=>⟨by omega,g1.1,g1.2,g2.1,g2.2⟩⟩
end Go.Proofs.YtfkblfjloegahaaGreat
end
section
namespace Go.Proofs.YtfkblfjloegahaaGreat
open Go.RowKit
set_option maxRecDepth 100000
def zyW (st:List Int):Int:=if st.contains 3 then 2 else if st.contains 0 then 0 else 1
end Go.Proofs.YtfkblfjloegahaaGreat
end
section
namespace Go.Proofs.YtfkblfjloegahaaGreat
open Go.RowKit
set_option maxRecDepth 100000
end Go.Proofs.YtfkblfjloegahaaGreat
end
section
namespace Go.Proofs.YtfkblfjloegahaaGreat
open Go.RowKit
set_option maxRecDepth 100000
theorem zot {α:Type} {xs:List α} {i:Int} {x:α} (h:zbD xs i=some x):0≤i∧xs[i.toNat]?=some x∧i<xs.length:=by
 unfold zbD at h
 split at h
 ·rename_i h0
  have:=(List.getElem?_eq_some_iff.1 h).1
  exact⟨h0,h,by omega⟩
 ·cases h
def zgk (t:zaa) (k c:Int):zaa:=⟨t.fName,t.fCols,t.fIdxs.set k.toNat {((t.fIdxs[k.toNat]?).getD ⟨[],0,0⟩)with fStage:=c}⟩
def zdZ (a b:Int):Int:=if a<b then a+1 else a-1
def zjg:Nat→Int→Int→List Int
 |0,_,_=> []
 |f+1,a,b=>if a=b then []else zdZ a b::zjg f (zdZ a b) b
def way (t:zaa) (k a b:Int):List zaa:=t::(zjg 3 a b).map (zgk t k)
theorem zmU: ∀(f:Nat) {a b:Int},0≤a→a≤3→0≤b→b≤3→ ∀c∈zjg f a b,0≤c∧c≤3
 |0,_,_,_,_,_,_,c,hc=>by simp [zjg]at hc
 |f+1,a,b,h1,h2,h3,h4,c,hc=>by
  unfold zjg at hc
  split at hc
  ·simp at hc
  ·have hn:0≤zdZ a b∧zdZ a b≤3:=by unfold zdZ;split<;>omega
   rcases List.mem_cons.1 hc with rfl|hc
   ·exact hn
   ·exact zmU f hn.1 hn.2 h3 h4 c hc
theorem zq1: ∀(f:Nat) (a b:Int),(zjg f a b).length≤f
 |0,_,_=>by simp [zjg]
 |f+1,a,b=>by
  unfold zjg
  split
  ·simp
  ·have:=zq1 f (zdZ a b) b
   simp;omega
theorem zl8 {t:zaa} {k b:Int} {body:Int × List zaa→Option ((Int × List zaa) ⊕ Option (List zaa))} (hb0:0≤b) (hb3:b≤3)
  (hs: ∀a o,0≤a→a≤3→a≠b→o.length≤100→body (a,o)=some (.inl (zdZ a b,o++ [zgk t k (zdZ a b)]))) (he: ∀o,body (b,o)=some (.inr (some o))):
  ∀(f:Nat) (a:Int) (o:List zaa),0≤a→a≤3→(a-b).natAbs≤f→o.length+f≤100→zay body (a,o)=some (o++(zjg f a b).map (zgk t k))
 |0,a,o,_,_,hf,_=>by
  have:a=b:=by omega
  subst this
  rw [zaO,he];simp [zjg]
 |f+1,a,o,h0,h3,hf,ho=>by
  by_cases hab:a=b
  ·subst hab
   rw [zaO,he];simp [zjg]
  ·rw [zaO,hs a o h0 h3 hab (by omega)]
   have hn:0≤zdZ a b∧zdZ a b≤3∧(zdZ a b-b).natAbs≤f:=by unfold zdZ;split<;>omega
   have:=zl8 hb0 hb3 hs he f (zdZ a b) (o++ [zgk t k (zdZ a b)]) hn.1 hn.2.1 hn.2.2 (by simp;omega)
   simp only [this,zjg,if_neg hab,List.map_cons,List.append_assoc,List.singleton_append]
theorem zt3 {t:zaa} (h:zbW t):zdP t=some t:=by
 unfold zdP
 have h1:=h.cols
 have h2:=h.idxs
 rw [zau (by simp;omega),zau (by simp;omega)]
theorem zrN {t:zaa} (h:zbW t):zcA t=some t:=by
 unfold zcA zbq zba
 have h1:=h.cols
 have h2:=h.idxs
 rw [zpF (by omega) (by omega),Option.bind_some,zpF (by omega) (by omega),Option.bind_some]
theorem ztI {t:zaa} {n:Str} {x:zbg} {c:Int} (h:zbW t) (hx:zfF t n x):zdL t n c=some (zgk t (zfb (fun y:zbg=>y.fName==n) t.fIdxs) c):=by
 unfold zdL zgk
 rw [zt3 h,Option.bind_some,znL h,Option.bind_some,hx.at_,Option.bind_some,(zot hx.at_).2.1]
 rfl
theorem zt5 {t:zaa} {n:Str} {x:zbg} {c:Int} (h:zbW t) (hx:zfF t n x):zbe t n c=some (zgk t (zfb (fun y:zbg=>y.fName==n) t.fIdxs) c):=by
 unfold zbe zgk
 rw [zrN h,Option.bind_some,znq h,Option.bind_some,hx.at_,Option.bind_some,(zot hx.at_).2.1]
 rfl
theorem zwl {t:zaa} {n:Str} {x:zbg} {b:Int} (h:zbW t) (hx:zfF t n x) (h0:0≤x.fStage) (h3:x.fStage≤3) (hb0:0≤b) (hb3:b≤3):zeU t n b=some (way t (zfb (fun y:zbg=>y.fName==n) t.fIdxs) x.fStage b):=by
 unfold zeU
 rw [zt3 h,Option.bind_some,znL h,Option.bind_some,hx.at_,Option.bind_some]
 refine(zl8 (t:=t) (k:=zfb (fun y:zbg=>y.fName==n) t.fIdxs) hb0 hb3 ?_ ?_ 3 x.fStage [t] h0 h3 (by omega) (by simp)).trans (by simp [way])
 ·intro a o ha0 ha3 hab ho
  show zcB t n b a o=_
  unfold zcB
  rw [if_pos (by simpa using hab)]
  have w1:IntKind.i64.wrap (a+1)=a+1:=zbr (by omega) (by omega)
  have w2:IntKind.i64.wrap (a-1)=a-1:=zbr (by omega) (by omega)
  by_cases hlt:a<b
  ·rw [if_pos (by simpa using hlt),w1,ztI h hx,Option.bind_some,zau (by simp;omega)]
   simp [zdZ,hlt]
  ·rw [if_neg (by simpa using hlt),w2,ztI h hx,Option.bind_some,zau (by simp;omega)]
   simp [zdZ,hlt]
 ·intro o
  show zcB t n b b o=_
  unfold zcB
  rw [if_neg (by simp)]
theorem zvq {t:zaa} {n:Str} {x:zbg} {b:Int} (h:zbW t) (hx:zfF t n x) (h0:0≤x.fStage) (h3:x.fStage≤3) (hb0:0≤b) (hb3:b≤3):zca t n b=some (way t (zfb (fun y:zbg=>y.fName==n) t.fIdxs) x.fStage b):=by
 unfold zca zaP
 rw [znq h,Option.bind_some,hx.at_,Option.bind_some,Option.bind_some,zrN h,Option.bind_some]
 refine(zl8 (t:=t) (k:=zfb (fun y:zbg=>y.fName==n) t.fIdxs) hb0 hb3 ?_ ?_ 3 x.fStage [t] h0 h3 (by omega) (by simp)).trans (by simp [way])
 ·intro a o ha0 ha3 hab ho
  show zbi t n b a o=_
  unfold zbi
  rw [if_pos (by simpa using hab)]
  have w1:IntKind.i64.wrap (a+1)=a+1:=zbr (by omega) (by omega)
  have w2:IntKind.i64.wrap (a-1)=a-1:=zbr (by omega) (by omega)
  by_cases hlt:a<b
  ·rw [if_pos (by simpa using hlt),w1,zt5 h hx,Option.bind_some,zau (by simp;omega)]
   simp [zdZ,hlt]
  ·rw [if_neg (by simpa using hlt),w2,zt5 h hx,Option.bind_some,zau (by simp;omega)]
   simp [zdZ,hlt]
 ·intro o
  show zbi t n b b o=_
  unfold zbi
  rw [if_neg (by simp)]
theorem zh4 {α β:Type} {xs ys:List α} (hl:xs.length=ys.length) {body:Int→Option (Int ⊕ Option β)} (p:α→α→Bool) (b:β) (fin:Option β)
  (hs: ∀(i:Nat) (hi:i<xs.length) (hj:i<ys.length),body i=some (if p xs[i] ys[i]=true then .inl ((i+1:Nat):Int)else .inr (some b))) (he:body xs.length=some (.inr fin)):zay body 0=if((xs.zip ys).all fun z=>p z.1 z.2)=true then fin else some b:=by
 have hz:(xs.zip ys).length=xs.length:=by simp [hl]
 have h1:=zkG (xs:=xs.zip ys) (body:=body) (fun i (_:Unit)=>i) (fun z _=>some (if p z.1 z.2=true then .inl ()else .inr (some b))) (fun _=>fin)
  (fun i hi s=>by
   have hi1:i<xs.length:=by omega
   have hi2:i<ys.length:=by omega
   rw [hs i hi1 hi2,List.getElem_zip]
   cases p xs[i] ys[i]<;>simp [zn2]) (fun s=>by rw [hz];exact he) ()
 rw [zqJ (fun z:α × α=>p z.1 z.2) b fun x _ s=>rfl]at h1
 exact h1
theorem zkT {α γ:Type} {p:α→α→Bool} {f:α→γ} (h: ∀x y,p x y=true↔f x=f y): ∀{xs ys:List α},xs.length=ys.length→(((xs.zip ys).all fun z=>p z.1 z.2)=true↔xs.map f=ys.map f)
 | [], [],_=>by simp
 | [],_::_,h=>by simp at h
 |_::_, [],h=>by simp at h
 |x::xs,y::ys,hl=>by
  have:=zkT h (xs:=xs) (ys:=ys) (by simpa using hl)
  simp only [List.zip_cons_cons,List.all_cons,Bool.and_eq_true,List.map_cons,List.cons.injEq,this,h]
def nc (x:zbg):Str × Int:=(x.fName,x.fCol)
theorem zpa {x y:zbg} (h1:nc x=nc y) (h2:x.fStage=y.fStage):x=y:=by
 cases x;cases y
 simp [nc]at h1 h2
 simp [h1,h2]
theorem zpB: ∀{xs ys:List zbg},xs.map nc=ys.map nc→xs.map (·.fStage)=ys.map (·.fStage)→xs=ys
 | [], [],_,_=>rfl
 | [],_::_,h,_=>by simp at h
 |_::_, [],h,_=>by simp at h
 |x::xs,y::ys,h1,h2=>by
  simp only [List.map_cons,List.cons.injEq]at h1 h2
  rw [zpa h1.1 h2.1,zpB h1.2 h2.2]
theorem zjP {a b:zaa} (h1:a.fName=b.fName) (h2:a.fCols=b.fCols) (h3:a.fIdxs=b.fIdxs):a=b:=by
 cases a;cases b;simp at h1 h2 h3;simp [h1,h2,h3]
structure zvT (t:zaa):Prop where
 len:t.fIdxs.length≤3
 stg: ∀x∈t.fIdxs,0≤x.fStage∧x.fStage≤3
theorem ztp: ∀(l:List (zbg × zbg)) (s:Int),0≤s→(l.foldl (fun s z=>s+((z.1.fStage-z.2.fStage).natAbs:Int)) s=0↔s=0∧ ∀z∈l,z.1.fStage=z.2.fStage)
 | [],s,_=>by simp
 |z::l,s,h=>by
  rw [List.foldl_cons,ztp l _ (by omega)]
  constructor
  ·rintro⟨h1,h2⟩
   exact⟨by omega,fun y hy=>by
    rcases List.mem_cons.1 hy with rfl|hy
    ·omega
    ·exact h2 y hy⟩
  ·rintro⟨h1,h2⟩
   have:=h2 z (by simp)
   exact⟨by omega,fun y hy=>h2 y (by simp [hy])⟩
theorem zrr: ∀{xs ys:List zbg},xs.length=ys.length→((∀z∈xs.zip ys,z.1.fStage=z.2.fStage)↔xs.map (·.fStage)=ys.map (·.fStage))
 | [], [],_=>by simp
 | [],_::_,h=>by simp at h
 |_::_, [],h=>by simp at h
 |x::xs,y::ys,hl=>by
  have:=zrr (xs:=xs) (ys:=ys) (by simpa using hl)
  simp only [List.zip_cons_cons,List.forall_mem_cons,this,List.map_cons,List.cons.injEq]
def eqT (a b:zaa):Bool:=a.fName==b.fName&&(a.fCols==b.fCols&&(a.fIdxs.map nc==b.fIdxs.map nc&&a.fIdxs.map (·.fStage)==b.fIdxs.map (·.fStage)))
theorem zmP {a b:zaa}:eqT a b=true↔a=b:=by
 unfold eqT
 simp only [Bool.and_eq_true,beq_iff_eq]
 constructor
 ·rintro⟨h1,h2,h3,h4⟩;exact zjP h1 h2 (zpB h3 h4)
 ·rintro rfl;simp
theorem ztq {a b:zaa} (ha:zbW a):zbo a b=some (eqT a b):=by
 have key: ∃r,zbo a b=some r∧(r=true↔a=b):=by
  unfold zbo
  by_cases h1:(a.fName==b.fName)=true
  ·rw [if_pos h1]
   have h1':a.fName=b.fName:=by simpa using h1
   have e1: ∃r,zaY a.fCols b.fCols=some r∧(r=true↔a.fCols=b.fCols):=by
    unfold zaY
    by_cases h2:((a.fCols.length:Int) !=(b.fCols.length:Int))=true
    ·rw [if_pos h2]
     exact⟨_,rfl,by simp,fun h=>by rw [h]at h2;simp at h2⟩
    ·rw [if_neg h2]
     have h2':a.fCols.length=b.fCols.length:=by
      have:(a.fCols.length:Int)=b.fCols.length:=by simpa using h2
      omega
     rw [zh4 (xs:=a.fCols) (ys:=b.fCols) h2' (fun x y=>x==y) false (some true) ?_ ?_]
     ·have z1:=zkT (p:=fun x y:Str=>x==y) (f:=id) (by simp) h2'
      rw [List.map_id,List.map_id]at z1
      rw [←z1]
      cases hz:((a.fCols.zip b.fCols).all fun z=>z.1==z.2)<;>exact⟨_,rfl,by simp⟩
     ·intro i hi1 hj1
      show zat a.fCols b.fCols i=_
      unfold zat
      have:=ha.cols
      rw [if_pos (by simpa using hi1),zai hi1,Option.bind_some,zai hj1,Option.bind_some,zb7 hi1 (by omega)]
      by_cases hq:a.fCols[i]=b.fCols[i]
      ·rw [if_neg (by simp [hq]),if_pos (by simpa using hq)]
      ·rw [if_pos (by simpa using hq),if_neg (by simpa using hq)]
     ·show zat a.fCols b.fCols a.fCols.length=_
      unfold zat
      rw [if_neg (by simp)]
   obtain⟨r1,e1,f1⟩:=e1
   rw [e1,Option.bind_some]
   by_cases h2:r1=true
   ·rw [if_pos h2]
    have h2':=f1.1 h2
    have e2: ∃r,zaG a.fIdxs b.fIdxs=some r∧(r=true↔a.fIdxs=b.fIdxs):=by
     unfold zaG
     by_cases h3:((a.fIdxs.length:Int) !=(b.fIdxs.length:Int))=true
     ·rw [if_pos h3]
      exact⟨_,rfl,by simp,fun h=>by rw [h]at h3;simp at h3⟩
     ·rw [if_neg h3]
      have h3':a.fIdxs.length=b.fIdxs.length:=by
       have:(a.fIdxs.length:Int)=b.fIdxs.length:=by simpa using h3
       omega
      rw [zh4 (xs:=a.fIdxs) (ys:=b.fIdxs) h3' (fun x y=>x.fName==y.fName&&(x.fCol==y.fCol&&(x.fStage==y.fStage))) false (some true) ?_ ?_]
      ·have z1:=zkT (p:=fun x y:zbg=>x.fName==y.fName&&(x.fCol==y.fCol&&(x.fStage==y.fStage))) (f:=id) (fun x y=>by
        simp only [Bool.and_eq_true,beq_iff_eq,id]
        constructor
        ·rintro⟨k1,k2,k3⟩;exact zpa (by simp [nc,k1,k2]) k3
        ·rintro rfl;simp) h3'
       rw [List.map_id,List.map_id]at z1
       rw [←z1]
       cases((a.fIdxs.zip b.fIdxs).all fun z=>z.1.fName==z.2.fName&&(z.1.fCol==z.2.fCol&&(z.1.fStage==z.2.fStage)))<;>exact⟨_,rfl,by simp⟩
      ·intro i hi1 hj1
       show zap a.fIdxs b.fIdxs i=_
       unfold zap
       have:=ha.idxs
       rw [if_pos (by simpa using hi1),zai hi1,Option.bind_some,zai hj1,Option.bind_some,zb7 hi1 (by omega)]
       cases(a.fIdxs[i].fName==b.fIdxs[i].fName&&(a.fIdxs[i].fCol==b.fIdxs[i].fCol&&(a.fIdxs[i].fStage==b.fIdxs[i].fStage)))<;>rfl
      ·show zap a.fIdxs b.fIdxs a.fIdxs.length=_
       unfold zap
       rw [if_neg (by simp)]
    obtain⟨r2,e2,f2⟩:=e2
    rw [e2,Option.bind_some]
    exact⟨_,rfl,by rw [f2];exact⟨fun h=>zjP h1' h2' h,fun h=>by rw [h]⟩⟩
   ·rw [if_neg h2]
    exact⟨_,rfl,by simp,fun h=>absurd (f1.2 (by rw [h])) h2⟩
  ·rw [if_neg h1]
   exact⟨_,rfl,by simp,fun h=>by rw [h]at h1;simp at h1⟩
 obtain⟨r,e,f⟩:=key
 rw [e];congr 1
 rw [Bool.eq_iff_iff,f,zmP]
end Go.Proofs.YtfkblfjloegahaaGreat
end
section
namespace Go.Proofs.YtfkblfjloegahaaGreat
open Go.RowKit
set_option maxRecDepth 100000
theorem ztQ {t:zaa} (h:zaq t=true):zvT t:=by
 unfold zaq at h
 simp only [Bool.and_eq_true,decide_eq_true_eq]at h
 refine⟨by omega,fun x hx=> ?_⟩
 obtain⟨i,hi,rfl⟩:=List.mem_iff_getElem.1 hx
 have h1:=List.all_eq_true.1 h.2 i (List.mem_range.2 hi)
 unfold zhQ at h1
 simp only [Bool.and_eq_true,List.getElem?_eq_getElem hi,Option.getD_some]at h1
 exact zdA.1 h1.1.2
theorem zpq {α γ:Type} (f:α→γ): ∀(l:List α) (k:Nat) (d y:α),f y=f ((l[k]?).getD d)→(l.set k y).map f=l.map f
 | [],k,d,y,_=>rfl
 |x::l,0,d,y,h=>by
  simp only [List.getElem?_cons_zero,Option.getD_some]at h
  simp [h]
 |x::l,k+1,d,y,h=>by
  simp only [List.getElem?_cons_succ]at h
  simp [zpq f l k d y h]
theorem zhw (t:zaa) (k c:Int):(zgk t k c).fIdxs.map (·.fName)=t.fIdxs.map (·.fName):=zpq _ _ _ ⟨[],0,0⟩ _ rfl
theorem zrE {t:zaa} {k c:Int} (h:zvT t) (h0:0≤c) (h3:c≤3):zvT (zgk t k c):=by
 refine⟨by unfold zgk;simpa using h.len,fun x hx=> ?_⟩
 rcases List.mem_or_eq_of_mem_set hx with hx|rfl
 ·exact h.stg x hx
 ·exact⟨h0,h3⟩
theorem zoU {t:zaa} {k c:Int} (h:zbW t):zbW (zgk t k c):=by
 refine⟨h.name,h.cols,h.col,by unfold zgk;simpa using h.idxs,fun x hx=> ?_⟩
 have h1:x.fName∈(zgk t k c).fIdxs.map (·.fName):=List.mem_map.2 ⟨x,hx,rfl⟩
 rw [zhw]at h1
 obtain⟨y,hy,e⟩:=List.mem_map.1 h1
 rw [←e];exact h.idx y hy
theorem zuB {t:zaa} {k a b:Int} (hS:zbW t) (h:zvT t) (ha0:0≤a) (ha3:a≤3) (hb0:0≤b) (hb3:b≤3): ∀w∈way t k a b,w.fIdxs.map (·.fName)=t.fIdxs.map (·.fName)∧zvT w∧zbW w:=by
 intro w hw
 rcases List.mem_cons.1 hw with rfl|hw
 ·exact⟨rfl,h,hS⟩
 ·obtain⟨c,hc,rfl⟩:=List.mem_map.1 hw
  have:=zmU 3 ha0 ha3 hb0 hb3 c hc
  exact⟨zhw t k c,zrE h this.1 this.2,zoU hS⟩
theorem zrX {xs ys:List zbg} {n:Str} (h:xs.map (·.fName)=ys.map (·.fName)):decide (zfb (fun x:zbg=>x.fName==n) xs≥0)=decide (zfb (fun x:zbg=>x.fName==n) ys≥0):=by
 rw [zhN,zhN]
 have e: ∀l:List zbg,(l.any fun x=>x.fName==n)=(l.map (·.fName)).any (· ==n):=fun l=>by rw [List.any_map];rfl
 rw [e,e,h]
def noT:zaa:=⟨[], [], []⟩
def kOf (t:zaa) (n:Str):Int:=zfb (fun y:zbg=>y.fName==n) t.fIdxs
def zs9 (t:zaa) (n:Str):Int:=((t.fIdxs[(kOf t n).toNat]?).getD ⟨[],0,0⟩).fStage
theorem zsW {t:zaa} {n:Str} {x:zbg} (h:zfF t n x):zs9 t n=x.fStage:=by
 unfold zs9 kOf
 rw [(zot h.at_).2.1];rfl
theorem zou {t:zaa} {n:Str} (h:ziV t n=true): ∃x,zfF t n x∧zs9 t n=x.fStage∧0≤x.fStage∧x.fStage≤3∧zaq t=true:=by
 obtain⟨x,hx,_⟩:=zru h
 have hg:zaq t=true:=by
  unfold ziV at h
  simp only [Bool.and_eq_true]at h
  exact h.1
 have:=(ztQ hg).stg x (ztr hx.at_)
 exact⟨x,hx,zsW hx,this.1,this.2,hg⟩
theorem zqY {xs ys:List zaa} (h: ∀t∈xs,zbW t) (hl:xs.length≤2000000): ∃r,zae xs ys (fun a b=>zbo a b)=some r∧(r=true↔xs=ys):=by
 unfold zae
 by_cases h3:((xs.length:Int) !=(ys.length:Int))=true
 ·rw [if_pos h3]
  exact⟨_,rfl,by simp,fun h=>by rw [h]at h3;simp at h3⟩
 ·rw [if_neg h3]
  have h3':xs.length=ys.length:=by
   have:(xs.length:Int)=ys.length:=by simpa using h3
   omega
  rw [zh4 (xs:=xs) (ys:=ys) h3' eqT false (some true) ?_ ?_]
  ·have z1:=zkT (p:=eqT) (f:=id) (fun x y=>zmP) h3'
   rw [List.map_id,List.map_id]at z1
   rw [←z1]
   cases((xs.zip ys).all fun z=>eqT z.1 z.2)<;>exact⟨_,rfl,by simp⟩
  ·intro i hi1 hj1
   show zac xs ys (fun a b=>zbo a b) i=_
   unfold zac
   rw [if_pos (by simpa using hi1),zai hi1,Option.bind_some,zai hj1,Option.bind_some,zb7 hi1 (by omega)]
   dsimp only
   rw [ztq (h _ (List.getElem_mem hi1)),Option.bind_some]
   cases eqT xs[i] ys[i]<;>rfl
  ·show zac xs ys (fun a b=>zbo a b) xs.length=_
   unfold zac
   rw [if_neg (by simp)]
end Go.Proofs.YtfkblfjloegahaaGreat
end
section
namespace Go.Proofs.YtfkblfjloegahaaGreat
open Go.RowKit
abbrev bl (a b:List UInt8):Bool:=Op.bytesLess a b
theorem ze2: ∀a:List UInt8,bl a a=false
 | []=>rfl
 |x::a=>by
  have h: ¬x<x:=fun h=>by have:=UInt8.lt_iff_toNat_lt.1 h;omega
  show Op.bytesLess (x::a) (x::a)=false
  simp only [Op.bytesLess,h,decide_false,Bool.false_or,beq_self_eq_true,Bool.true_and]
  exact ze2 a
theorem zoX (x y:UInt8) (a b:List UInt8):bl (x::a) (y::b)=true↔x.toNat<y.toNat∨x=y∧bl a b=true:=by
 show Op.bytesLess (x::a) (y::b)=true↔_
 simp only [Op.bytesLess,Bool.or_eq_true,decide_eq_true_eq,Bool.and_eq_true,beq_iff_eq,UInt8.lt_iff_toNat_lt]
theorem zf0: ∀{a b c:List UInt8},bl a b=true→bl b c=true→bl a c=true
 | [],_, [],_,h=>by rename_i b _;cases b<;>cases h
 | [],_,_::_,_,_=>rfl
 |_::_, [],_,h,_=>by cases h
 |_::_,_::_, [],_,h=>by cases h
 |x::a,y::b,z::c,h1,h2=>by
  rw [zoX]at*
  rcases h1 with h1|⟨rfl,h1⟩<;>rcases h2 with h2|⟨rfl,h2⟩
  ·exact .inl (by omega)
  ·exact .inl h1
  ·exact .inl h2
  ·exact .inr ⟨rfl,zf0 h1 h2⟩
theorem ztZ: ∀a b:List UInt8,bl a b=true∨a=b∨bl b a=true
 | [], []=> .inr (.inl rfl)
 | [],_::_=> .inl rfl
 |_::_, []=> .inr (.inr rfl)
 |x::a,y::b=>by
  rw [zoX,zoX]
  rcases Nat.lt_trichotomy x.toNat y.toNat with h|h|h
  ·exact .inl (.inl h)
  ·have h0:x=y:=UInt8.toNat_inj.1 h
   subst h0
   rcases ztZ a b with h1|h1|h1
   ·exact .inl (.inr ⟨rfl,h1⟩)
   ·exact .inr (.inl (by rw [h1]))
   ·exact .inr (.inr (.inr ⟨rfl,h1⟩))
  ·exact .inr (.inr (.inl h))
theorem zsO {a b:List UInt8} (h:bl a b=true):bl b a=false:=by
 cases h2:bl b a with
 |false=>rfl
 |true=>have:=zf0 h h2;rw [ze2]at this;cases this
theorem zoB {a b:List UInt8} (h:bl a b=true):a≠b:=by
 rintro rfl;rw [ze2]at h;cases h
theorem znB {a b:List UInt8} (h:bl a b=false) (hn:a≠b):bl b a=true:=by
 rcases ztZ a b with h1|h1|h1
 ·rw [h]at h1;cases h1
 ·exact absurd h1 hn
 ·exact h1
section
variable {α:Type} (key:α→List UInt8)
def zkZ (l:List α):Prop:=l.Pairwise fun a b=>bl (key a) (key b)=true
def zoK (x:α):List α→List α
 | []=> [x]
 |y::l=>if bl (key x) (key y)=true then x::y::l else if key x=key y then x::l else y::zoK x l
variable {key}
theorem zkZ.nodupKey {l:List α} (h:zkZ key l) {a b:α} (ha:a∈l) (hb:b∈l) (e:key a=key b):a=b:=by
 induction l with
 |nil=>cases ha
 |cons y l ih=>
  have h1:=List.pairwise_cons.1 h
  rcases List.mem_cons.1 ha with q1|q1<;>rcases List.mem_cons.1 hb with q2|q2
  ·rw [q1,q2]
  ·exact absurd (q1▸e) (zoB (h1.1 _ q2))
  ·exact absurd (q2▸e.symm) (zoB (h1.1 _ q1))
  ·exact ih h1.2 q1 q2
theorem zil {x:α}: ∀{l:List α},zkZ key l→ ∀y,y∈zoK key x l↔y=x∨y∈l∧key y≠key x
 | [],_,y=>by simp [zoK]
 |z::l,h,y=>by
  have h1:=List.pairwise_cons.1 h
  unfold zoK
  split
  ·rename_i hb
   constructor
   ·intro hy
    rcases List.mem_cons.1 hy with rfl|hy
    ·exact .inl rfl
    ·refine .inr ⟨hy, ?_⟩
     rcases List.mem_cons.1 hy with rfl|hy
     ·exact(zoB hb).symm
     ·exact(zoB (zf0 hb (h1.1 _ hy))).symm
   ·rintro(rfl|⟨hy,_⟩)
    ·simp
    ·exact List.mem_cons_of_mem _ hy
  ·rename_i hb
   split
   ·rename_i he
    constructor
    ·intro hy
     rcases List.mem_cons.1 hy with rfl|hy
     ·exact .inl rfl
     ·exact .inr ⟨List.mem_cons_of_mem _ hy,fun e=>zoB (h1.1 _ hy) (by rw [e,he])⟩
    ·rintro(rfl|⟨hy,hn⟩)
     ·simp
     ·rcases List.mem_cons.1 hy with rfl|hy
      ·exact absurd he.symm hn
      ·exact List.mem_cons_of_mem _ hy
   ·rename_i he
    rw [List.mem_cons,zil h1.2]
    constructor
    ·rintro(rfl|rfl|⟨hy,hn⟩)
     ·exact .inr ⟨by simp,fun e=>he e.symm⟩
     ·exact .inl rfl
     ·exact .inr ⟨List.mem_cons_of_mem _ hy,hn⟩
    ·rintro(rfl|⟨hy,hn⟩)
     ·exact .inr (.inl rfl)
     ·rcases List.mem_cons.1 hy with rfl|hy
      ·exact .inl rfl
      ·exact .inr (.inr ⟨hy,hn⟩)
theorem zhO {x:α}: ∀{l:List α},zkZ key l→zkZ key (zoK key x l)
 | [],_=>by simp [zoK,zkZ]
 |z::l,h=>by
  have h1:=List.pairwise_cons.1 h
  unfold zoK
  split
  ·rename_i hb
   refine List.pairwise_cons.2 ⟨fun y hy=> ?_,h⟩
   rcases List.mem_cons.1 hy with rfl|hy
   ·exact hb
   ·exact zf0 hb (h1.1 _ hy)
  ·rename_i hb
   split
   ·rename_i he
    exact List.pairwise_cons.2 ⟨fun y hy=>by rw [he];exact h1.1 _ hy,h1.2⟩
   ·rename_i he
    refine List.pairwise_cons.2 ⟨fun y hy=> ?_,zhO h1.2⟩
    rcases(zil h1.2 y).1 hy with rfl|⟨hy,_⟩
    ·exact znB (by simpa using hb) he
    ·exact h1.1 _ hy
theorem zkZ.ext: ∀{a b:List α},zkZ key a→zkZ key b→(∀x,x∈a↔x∈b)→a=b
 | [], [],_,_,_=>rfl
 | [],y::b,_,_,h=>absurd ((h y).2 (by simp)) (by simp)
 |x::a, [],_,_,h=>absurd ((h x).1 (by simp)) (by simp)
 |x::a,y::b,ha,hb,h=>by
  have h1:=List.pairwise_cons.1 ha
  have h2:=List.pairwise_cons.1 hb
  have e:x=y:=by
   rcases List.mem_cons.1 ((h x).1 (by simp))with e|hx
   ·exact e
   ·rcases List.mem_cons.1 ((h y).2 (by simp))with e|hy
    ·exact e.symm
    ·have:=zf0 (h1.1 _ hy) (h2.1 _ hx)
     rw [ze2]at this;cases this
  subst e
  rw [zkZ.ext h1.2 h2.2 fun z=> ?_]
  constructor
  ·intro hz
   rcases List.mem_cons.1 ((h z).1 (List.mem_cons_of_mem _ hz))with rfl|hz2
   ·have:=h1.1 _ hz;rw [ze2]at this;cases this
   ·exact hz2
  ·intro hz
   rcases List.mem_cons.1 ((h z).2 (List.mem_cons_of_mem _ hz))with rfl|hz2
   ·have:=h2.1 _ hz;rw [ze2]at this;cases this
   ·exact hz2
theorem zkZ.filter {l:List α} (h:zkZ key l) (p:α→Bool):zkZ key (l.filter p):=List.Pairwise.filter p h
theorem zkZ.sub {a b:List α} (h:zkZ key b) (hs:a.Sublist b):zkZ key a:=List.Pairwise.sublist hs h
theorem ztG {x:α}: ∀(l:List α),(zoK key x l).length≤l.length+1
 | []=>by simp [zoK]
 |y::l=>by
  unfold zoK
  have:=ztG (x:=x) l
  split
  ·simp
  ·split
   ·simp
   ·simp only [List.length_cons];omega
end
end Go.Proofs.YtfkblfjloegahaaGreat
end
section
namespace Go.Proofs.YtfkblfjloegahaaGreat
open Go.RowKit
set_option maxRecDepth 100000
def zet {α:Type} (r:α→α→Bool):List α→Bool
 | []=>true
 | [_]=>true
 |x::y::l=>r x y&&zet r (y::l)
theorem zko {α:Type} {r:α→α→Bool} (ht: ∀a b c,r a b=true→r b c=true→r a c=true): ∀{l:List α},zet r l=true↔l.Pairwise fun a b=>r a b=true
 | []=>by simp [zet]
 | [_]=>by simp [zet]
 |x::y::l=>by
  rw [zet,Bool.and_eq_true,zko ht]
  constructor
  ·rintro⟨h1,h2⟩
   refine List.pairwise_cons.2 ⟨fun z hz=> ?_,h2⟩
   rcases List.mem_cons.1 hz with rfl|hz
   ·exact h1
   ·exact ht _ _ _ h1 ((List.pairwise_cons.1 h2).1 z hz)
  ·intro h
   have h:=List.pairwise_cons.1 h
   exact⟨h.1 y (by simp),h.2⟩
theorem zkz {α:Type} {r:α→α→Bool} {l:List α} {q:Nat} (h:q+1<l.length):zet r (l.drop q)=(r l[q] l[q+1]&&zet r (l.drop (q+1))):=by
 rw [List.drop_eq_getElem_cons (show q<l.length by omega),List.drop_eq_getElem_cons h,zet]
theorem zwN {α β:Type} {xs:List α} {body:Int→Option (Int ⊕ Option β)} (p:α→Bool) (r:α→α→Bool) (b:β) (fin:Option β)
  (h0: ∀h:0<xs.length,body 0=some (if p xs[0]=true then .inl 1 else .inr (some b)))
  (hs: ∀i (h:i+1<xs.length),body ((i+1:Nat):Int)=some (if(p xs[i+1]&&r xs[i] xs[i+1])=true then .inl ((i+2:Nat):Int)else .inr (some b)))
  (he:body xs.length=some (.inr fin)):zay body 0=if(xs.all p&&zet r xs)=true then fin else some b:=by
 have key: ∀n q,q+1+n=xs.length→zay body ((q+1:Nat):Int)=if((xs.drop (q+1)).all p&&zet r (xs.drop q))=true then fin else some b:=by
  intro n
  induction n with
  |zero=>
   intro q hq
   rw [show((q+1:Nat):Int)=(xs.length:Int) by omega,zaO,he]
   have e1:xs.drop (q+1)= []:=List.drop_eq_nil_of_le (by omega)
   have e2:xs.drop q= [xs[q]]:=by rw [List.drop_eq_getElem_cons (by omega),e1]
   rw [e1,e2]
   simp [zet]
  |succ n ih=>
   intro q hq
   rw [zaO,hs q (by omega),zkz (by omega),List.drop_eq_getElem_cons (show q+1<xs.length by omega),List.all_cons]
   have ih:=ih (q+1) (by omega)
   by_cases hp:(p xs[q+1]&&r xs[q] xs[q+1])=true
   ·rw [if_pos hp]
    simp only [Bool.and_eq_true]at hp
    simp only [hp.1,hp.2,Bool.true_and]
    rw [←List.drop_eq_getElem_cons (show q+1<xs.length by omega)]
    exact ih
   ·rw [if_neg hp]
    rw [if_neg]
    intro h
    simp only [Bool.and_eq_true]at h hp
    exact hp ⟨h.1.1,h.2.1⟩
 by_cases hz:0<xs.length
 ·rw [zaO,h0 hz]
  have:=key (xs.length-1) 0 (by omega)
  rw [List.drop_zero]at this
  have e:xs=xs[0]::xs.drop 1:=by rw [←List.drop_eq_getElem_cons hz,List.drop_zero]
  by_cases hp:p xs[0]=true
  ·rw [if_pos hp]
   show zay body ((0+1:Nat):Int)=_
   rw [this]
   have:xs.all p=(xs.drop 1).all p:=by rw [e,List.all_cons,hp,Bool.true_and];simp
   rw [this]
  ·rw [if_neg hp,if_neg]
   intro h
   simp only [Bool.and_eq_true,List.all_eq_true]at h
   exact hp (h.1 _ (List.getElem_mem hz))
 ·have:xs= []:=by cases xs with|nil=>rfl|cons=>simp at hz
  subst this
  rw [zaO,show(0:Int)=(([]:List α).length:Int)from rfl,he]
  simp [zet]
def zgn {α:Type} (lt:α→Bool) (l:List α):Nat:=(l.takeWhile lt).length
theorem zo4 {α:Type} (lt:α→Bool): ∀l:List α,zgn lt l≤l.length
 | []=>by simp [zgn]
 |x::l=>by
  have:=zo4 lt l
  unfold zgn at this ⊢
  rw [List.takeWhile_cons]
  split<;>simp<;>omega
theorem zrS {α:Type} {lt:α→Bool}: ∀{l:List α} {i:Nat} (h:i<zgn lt l),lt (l[i]'(Nat.lt_of_lt_of_le h (zo4 lt l)))=true
 |x::l,i,h=>by
  unfold zgn at h
  rw [List.takeWhile_cons]at h
  split at h
  ·rename_i hx
   cases i with
   |zero=>exact hx
   |succ i=>exact zrS (l:=l) (i:=i) (by unfold zgn;simpa using h)
  ·simp at h
theorem zrJ {α:Type} {lt:α→Bool}: ∀{l:List α} (h:zgn lt l<l.length),lt l[zgn lt l]=false
 |x::l,h=>by
  by_cases hx:lt x=true
  ·have e:zgn lt (x::l)=zgn lt l+1:=by unfold zgn;rw [List.takeWhile_cons,if_pos hx];rfl
   have:=zrJ (l:=l) (lt:=lt) (by rw [e]at h;simpa using h)
   simp only [e,List.getElem_cons_succ]
   exact this
  ·have e:zgn lt (x::l)=0:=by unfold zgn;rw [List.takeWhile_cons,if_neg hx];rfl
   simp only [e,List.getElem_cons_zero]
   simpa using hx
theorem zw7 {α β:Type} {xs:List α} {body:Int × Int→Option ((Int × Int) ⊕ Option β)} {fin:Int→Option β} (lt:α→Bool) (hm: ∀i j (hj:j<xs.length) (hi:i≤j),lt xs[j]=true→lt xs[i]=true)
  (hs: ∀i j:Nat,i<j→j≤xs.length→(h:(i+j)/2<xs.length)→body ((i:Int),(j:Int))=some (.inl (if lt xs[(i+j)/2]=true then((((i+j)/2+1:Nat):Int),(j:Int))else((i:Int),(((i+j)/2:Nat):Int)))))
  (he: ∀i:Nat,i≤xs.length→body ((i:Int),(i:Int))=some (.inr (fin i))):zay body (0,(xs.length:Int))=fin (zgn lt xs):=by
 have key: ∀n i j:Nat,j-i≤n→i≤zgn lt xs→zgn lt xs≤j→j≤xs.length→zay body ((i:Int),(j:Int))=fin (zgn lt xs):=by
  intro n
  induction n with
  |zero=>
   intro i j h1 h2 h3 h4
   have:i=j:=by omega
   subst this
   have:i=zgn lt xs:=by omega
   rw [zaO,he i h4,this]
  |succ n ih=>
   intro i j h1 h2 h3 h4
   by_cases hij:i=j
   ·subst hij
    have:i=zgn lt xs:=by omega
    rw [zaO,he i h4,this]
   ·have hlt:(i+j)/2<xs.length:=by omega
    rw [zaO,hs i j (by omega) h4 hlt]
    by_cases hc:lt xs[(i+j)/2]=true
    ·rw [if_pos hc]
     refine ih _ _ (by omega) ?_ h3 h4
     by_cases hp:(i+j)/2<zgn lt xs
     ·omega
     ·have h5:zgn lt xs<xs.length:=by omega
      have:=zrJ h5
      rw [hm _ _ hlt (by omega) hc]at this
      cases this
    ·rw [if_neg hc]
     refine ih _ _ (by omega) h2 ?_ (by omega)
     by_cases hp:(i+j)/2<zgn lt xs
     ·exact absurd (zrS hp) hc
     ·omega
 exact key xs.length 0 xs.length (by omega) (by omega) (zo4 lt xs) (Nat.le_refl _)
theorem zsY {α:Type} {key:α→List UInt8} {x:α}: ∀{l:List α},zkZ key l→zoK key x l=(match l[zgn (fun y=>bl (key y) (key x)) l]? with
  |some y=>if key y=key x then l.set (zgn (fun y=>bl (key y) (key x)) l) x else l.take (zgn (fun y=>bl (key y) (key x)) l)++ [x]++l.drop (zgn (fun y=>bl (key y) (key x)) l)
  |none=>l.take (zgn (fun y=>bl (key y) (key x)) l)++ [x]++l.drop (zgn (fun y=>bl (key y) (key x)) l))
 | [],_=>by simp [zoK,zgn]
 |y::l,h=>by
  have h1:=List.pairwise_cons.1 h
  unfold zoK
  by_cases hb:bl (key x) (key y)=true
  ·have e:zgn (fun z=>bl (key z) (key x)) (y::l)=0:=by unfold zgn;rw [List.takeWhile_cons,if_neg (by rw [zsO hb];simp)];rfl
   rw [if_pos hb,e]
   simp [(zoB hb).symm]
  ·rw [if_neg hb]
   by_cases hk:key x=key y
   ·have e:zgn (fun z=>bl (key z) (key x)) (y::l)=0:=by unfold zgn;rw [List.takeWhile_cons,if_neg (by rw [hk,ze2];simp)];rfl
    rw [if_pos hk,e]
    simp [hk]
   ·have hyx:=znB (by simpa using hb) hk
    have e:zgn (fun z=>bl (key z) (key x)) (y::l)=zgn (fun z=>bl (key z) (key x)) l+1:=by unfold zgn;rw [List.takeWhile_cons,if_pos hyx];rfl
    rw [if_neg hk,e,zsY h1.2]
    simp only [List.getElem?_cons_succ]
    split
    ·split<;>simp
    ·simp
theorem zuN {α:Type} {key:α→List UInt8} {x:α} {l:List α} (h:zkZ key l) (p:α→Bool):(zoK key x l).filter p=if p x=true then zoK key x (l.filter p)else(l.filter p).filter fun y=>decide (key y≠key x):=by
 split
 ·rename_i hp
  refine zkZ.ext ((zhO h).filter p) (zhO (h.filter p)) fun y=> ?_
  rw [List.mem_filter,zil h,zil (h.filter p),List.mem_filter]
  constructor
  ·rintro⟨rfl|⟨h1,h2⟩,h3⟩
   ·exact .inl rfl
   ·exact .inr ⟨⟨h1,h3⟩,h2⟩
  ·rintro(rfl|⟨⟨h1,h3⟩,h2⟩)
   ·exact⟨.inl rfl,hp⟩
   ·exact⟨.inr ⟨h1,h2⟩,h3⟩
 ·rename_i hp
  refine zkZ.ext ((zhO h).filter p) ((h.filter p).filter _) fun y=> ?_
  rw [List.mem_filter,zil h,List.mem_filter,List.mem_filter]
  simp only [decide_eq_true_eq]
  constructor
  ·rintro⟨rfl|⟨h1,h2⟩,h3⟩
   ·exact absurd h3 hp
   ·exact⟨⟨h1,h3⟩,h2⟩
  ·rintro⟨⟨h1,h3⟩,h2⟩
   exact⟨.inr ⟨h1,h2⟩,h3⟩
end Go.Proofs.YtfkblfjloegahaaGreat
end
section
namespace Go.Proofs.YtfkblfjloegahaaGreat
open Go.RowKit
set_option maxRecDepth 100000
theorem zvB (s:Str):(s !=s)=false:=by simp
def zws (a b:Str):Int:=if bl a b=true then-1 else if a=b then 0 else 1
def zyP (a b:Int):Int:=if a<b then-1 else if a=b then 0 else 1
theorem zw4 {a b:Str}:decide (zws a b<0)=bl a b:=by
 unfold zws
 cases h:bl a b with
 |true=>simp
 |false=>by_cases he:a=b<;>simp [he]
theorem zxL {a b:Str}:(zws a b==0)=decide (a=b):=by
 unfold zws
 cases h:bl a b with
 |true=>simp [zoB h]
 |false=>by_cases he:a=b<;>simp [he]
theorem zya {i j:Nat} (h:i≤j) (hj:j≤2000000):IntKind.i64.wrap (Int.fdiv (IntKind.u64.wrap (IntKind.i64.wrap ((i:Int)+(j:Int)))) (2^(min ((1:Int)).toNat (IntKind.bits .u64))))=(((i+j)/2:Nat):Int):=by
 have e1:IntKind.i64.wrap ((i:Int)+(j:Int))=((i+j:Nat):Int):=by rw [zbr (by omega) (by omega)];simp
 have e2:IntKind.u64.wrap ((i+j:Nat):Int)=((i+j:Nat):Int):=by
  simp only [IntKind.wrap,IntKind.bits,IntKind.signed]
  simp
  omega
 have e3:(2:Int)^(min ((1:Int)).toNat (IntKind.bits .u64))=((2:Nat):Int):=rfl
 rw [e1,e2,e3,Int.fdiv_eq_ediv_of_nonneg _ (by omega),←Int.natCast_ediv,zbr (by omega) (by omega)]
theorem zxN {i:Nat} (h:i≤2000000):IntKind.i64.wrap ((i:Int)+1)=((i+1:Nat):Int):=by rw [zbr (by omega) (by omega)];simp
abbrev zxd (l:List za4):Prop:=zkZ (fun w:za4=>w.fKey) l
abbrev zyg (l:List za4) (k:Str):Nat:=zgn (fun w:za4=>bl w.fKey k) l
theorem zks (ks:List Str):zoj ks=zet bl ks:=by
 have key: ∀n q,q+n+1=ks.length→(List.range' (q+1) n).all (zjr ks)=zet bl (ks.drop q):=by
  intro n
  induction n with
  |zero=>
   intro q hq
   rw [List.drop_eq_getElem_cons (show q<ks.length by omega),List.drop_eq_nil_of_le (show ks.length≤q+1 by omega)]
   rfl
  |succ n ih=>
   intro q hq
   rw [List.range'_succ,List.all_cons,ih (q+1) (by omega),zkz (show q+1<ks.length by omega)]
   congr 1
   unfold zjr
   have hb:(q+1==0)=false:=rfl
   rw [hb,Bool.false_or,Nat.add_sub_cancel,List.getElem?_eq_getElem (show q<ks.length by omega),List.getElem?_eq_getElem (show q+1<ks.length by omega)]
   rfl
 cases ks with
 |nil=>rfl
 |cons k l=>
  unfold zoj
  rw [List.length_cons,List.range_eq_range',List.range'_succ,List.all_cons]
  have:=key l.length 0 (by simp)
  rw [List.drop_zero]at this
  rw [Nat.zero_add]at this
  rw [show 0+1=1 from rfl,this]
  rfl
theorem ziB {α β:Type} (f:α→β) (r:β→β→Bool): ∀l:List α,zet r (l.map f)=zet (fun a b=>r (f a) (f b)) l
 | []=>rfl
 | [_]=>rfl
 |x::y::l=>by
  have:=ziB f r (y::l)
  simp only [List.map_cons,zet]at this ⊢
  rw [this]
theorem zq2 {l:List za4} (h:zgO l=true):zxd l:=by
 unfold zgO at h
 simp only [Bool.and_eq_true]at h
 have h1:=h.2.2
 rw [zks,ziB]at h1
 exact(zko (r:=fun a b:za4=>bl a.fKey b.fKey) fun a b c p q=>zf0 p q).1 h1
end Go.Proofs.YtfkblfjloegahaaGreat
end
section
namespace Go.Proofs.YtfkblfjloegahaaGreat
open Go.RowKit
set_option maxRecDepth 100000
theorem zs2 {t:zaa} (h:zaq t=true):zkZ (fun x:zbg=>x.fName) t.fIdxs:=by
 unfold zaq at h
 simp only [Bool.and_eq_true]at h
 have h1:=h.2
 have h2:zoj (t.fIdxs.map (·.fName))=true:=by
  unfold zoj
  rw [List.length_map,List.all_eq_true]
  intro i hi
  have h3:=List.all_eq_true.1 h1 i hi
  unfold zhQ at h3
  simp only [Bool.and_eq_true]at h3
  have hi':i<t.fIdxs.length:=List.mem_range.1 hi
  have e: ∀j:Nat,(((t.fIdxs.map (·.fName))[j]?).getD [])=((t.fIdxs[j]?).getD ⟨[],0,0⟩).fName:=by
   intro j
   rw [List.getElem?_map]
   cases t.fIdxs[j]?<;>rfl
  unfold zjr
  rw [e,e]
  exact h3.2
 rw [zks,ziB]at h2
 exact(zko (r:=fun a b:zbg=>bl a.fName b.fName) fun a b c p q=>zf0 p q).1 h2
theorem zpl {t:zaa} {x:zbg} (h:zaq t=true) (hx:x∈t.fIdxs):zfF t x.fName x:=by
 have h1:zfb (fun y:zbg=>y.fName==x.fName) t.fIdxs≥0:=by
  have:=zhN (fun y:zbg=>y.fName==x.fName) t.fIdxs
  rw [show(t.fIdxs.any fun y=>y.fName==x.fName)=true from List.any_eq_true.2 ⟨x,hx,by simp⟩]at this
  exact of_decide_eq_true this
 obtain⟨y,h2,h3,h4⟩:=zpd h1
 have h5:y=x:=(zs2 h).nodupKey h4 hx (by simpa using h3)
 subst h5
 have h6:=zdA.1 (zmt h hx).2
 exact⟨h2,rfl,h6.1,h6.2⟩
theorem zhX {t:zaa} (h:zaq t=true):2≤t.fCols.length∧t.fCols.length≤4∧t.fIdxs.length≤3:=by
 unfold zaq at h
 simp only [Bool.and_eq_true,decide_eq_true_eq]at h
 have h1:=zdA.1 h.1.1.2.2
 have h2:=h.1.2
 omega
theorem zhK {t:zaa} {r:zd5} (hs:Small r.fVals) (h:zbp t r=true):zm7 t r:=by
 unfold zbp at h
 simp only [Bool.and_eq_true,beq_iff_eq]at h
 exact⟨by have:=h.1;omega,hs⟩
theorem zmo {t:zaa} {r:zd5} (hc:1≤t.fCols.length) (h:zm7 t r):zbD r.fVals 0=some (zg8 r 0):=(zjY h (by omega) (by omega)).1
theorem zic {t:zaa} {r:zd5} (hc:1≤t.fCols.length) (h:zm7 t r):r.fVals≠ []:=by
 intro e
 have:=h.len
 rw [e]at this
 simp at this
 omega
def znz (a:zal):Prop:=Small a.fOld.fVals∧Small a.fNew.fVals
def ze6 (t:zaa) (a:zal):Bool:=
 if a.fKind=1 then(a.fOld.fVals.length:Int)==0&&zbp t a.fNew else
 if a.fKind=2 then zbp t a.fOld&&(a.fNew.fVals.length:Int)==0 else
 if a.fKind=3 then zbp t a.fOld&&(zbp t a.fNew&&zg8 a.fOld 0==zg8 a.fNew 0)else false
theorem zqd {t:zaa} {a:zal} (hc:1≤t.fCols.length) (h:znz a):zek t a=some (ze6 t a):=by
 unfold zek ze6
 by_cases h1:a.fKind=1
 ·rw [if_pos (by simpa using h1),if_pos h1,zfN h.2,Option.bind_some]
  cases((a.fOld.fVals.length:Int)==0)<;>simp
 rw [if_neg (by simpa using h1),if_neg h1]
 by_cases h2:a.fKind=2
 ·rw [if_pos (by simpa using h2),if_pos h2,zfN h.1,Option.bind_some]
  cases((a.fNew.fVals.length:Int)==0)<;>simp
 rw [if_neg (by simpa using h2),if_neg h2]
 by_cases h3:a.fKind=3
 ·rw [if_pos (by simpa using h3),if_pos h3,zfN h.1,zfN h.2,Option.bind_some,Option.bind_some]
  cases e1:zbp t a.fOld with
  |false=>simp
  |true=>
   cases e2:zbp t a.fNew with
   |false=>simp
   |true=>simp [zmo hc (zhK h.1 e1),zmo hc (zhK h.2 e2)]
 rw [if_neg (by simpa using h3),if_neg h3]
theorem zpT {t:zaa} {a:zal} (hc:1≤t.fCols.length) (h:znz a):zbG t a=some (ze6 t a):=by
 unfold zbG ze6
 by_cases h1:a.fKind=1
 ·rw [if_pos (by simpa using h1),if_pos h1,zfB h.2,Option.bind_some]
  cases((a.fOld.fVals.length:Int)==0)<;>simp
 rw [if_neg (by simpa using h1),if_neg h1]
 by_cases h2:a.fKind=2
 ·rw [if_pos (by simpa using h2),if_pos h2,zfB h.1,Option.bind_some]
 rw [if_neg (by simpa using h2),if_neg h2]
 by_cases h3:a.fKind=3
 ·rw [if_pos (by simpa using h3),if_pos h3,zfB h.1,zfB h.2,Option.bind_some,Option.bind_some]
  cases e1:zbp t a.fOld with
  |false=>simp
  |true=>
   cases e2:zbp t a.fNew with
   |false=>simp
   |true=>simp [zmo hc (zhK h.1 e1),zmo hc (zhK h.2 e2)]
 rw [if_neg (by simpa using h3),if_neg h3]
structure zsf (t:zaa) (a:zal):Prop where
 old:a.fKind≠1→zm7 t a.fOld
 new:a.fKind≠2→zm7 t a.fNew
 kind:a.fKind=1∨a.fKind=2∨a.fKind=3
 same:a.fKind=3→zg8 a.fOld 0=zg8 a.fNew 0
theorem zvL {t:zaa} {a:zal} (h:znz a) (hg:ze6 t a=true):zsf t a:=by
 unfold ze6 at hg
 by_cases h1:a.fKind=1
 ·rw [if_pos h1,Bool.and_eq_true]at hg
  exact⟨fun k=>absurd h1 k,fun _=>zhK h.2 hg.2, .inl h1,fun k=>by omega⟩
 rw [if_neg h1]at hg
 by_cases h2:a.fKind=2
 ·rw [if_pos h2,Bool.and_eq_true]at hg
  exact⟨fun _=>zhK h.1 hg.1,fun k=>absurd h2 k, .inr (.inl h2),fun k=>by omega⟩
 rw [if_neg h2]at hg
 by_cases h3:a.fKind=3
 ·rw [if_pos h3,Bool.and_eq_true,Bool.and_eq_true,beq_iff_eq]at hg
  exact⟨fun _=>zhK h.1 hg.1,fun _=>zhK h.2 hg.2.1, .inr (.inr h3),fun _=>hg.2.2⟩
 rw [if_neg h3]at hg
 cases hg
def zst (t:zaa) (a:zal) (x:zbg):Str:=if a.fKind=1 then []else zlt t x.fName x.fCol a.fOld
def zqQ (t:zaa) (a:zal) (x:zbg):Str:=if a.fKind=2 then []else zlt t x.fName x.fCol a.fNew
def ziX (k n:Str) (x:zbg):List DOp:=if k≠ []∧k≠n∧x.fStage≥1 then [⟨3,k, [],0⟩]else []
def zlf (n:Str) (x:zbg):List DOp:=if n≠ []∧x.fStage≥2 then [⟨2,n, [],0⟩]else []
def ziR (t:zaa) (a:zal) (x:zbg):List DOp:=ziX (zst t a x) (zqQ t a x) x++zlf (zqQ t a x) x
def zgc (t:zaa) (a:zal):List DOp:=
 if a.fKind=1 then [⟨6,(zhS t a.fNew).fKey, [],0⟩,⟨2,(zhS t a.fNew).fKey,(zhS t a.fNew).fVal,0⟩]else
 if a.fKind=2 then [⟨7,(zhS t a.fOld).fKey,(zhS t a.fOld).fVal,0⟩,⟨3,(zhS t a.fOld).fKey, [],0⟩]else
 [⟨7,(zhS t a.fOld).fKey,(zhS t a.fOld).fVal,0⟩,⟨2,(zhS t a.fOld).fKey,(zhS t a.fNew).fVal,0⟩]
def zoz (t:zaa) (a:zal):List DOp:=t.fIdxs.foldl (fun o x=>o++ziR t a x) (zgc t a)
theorem ztf (k n:Str) (x:zbg):(ziX k n x).length≤1:=by unfold ziX;split<;>simp
theorem zux (n:Str) (x:zbg):(zlf n x).length≤1:=by unfold zlf;split<;>simp
theorem ziM (t:zaa) (a:zal) (x:zbg):(ziR t a x).length≤2:=by
 unfold ziR
 have:=ztf (zst t a x) (zqQ t a x) x
 have:=zux (zqQ t a x) x
 rw [List.length_append];omega
theorem zhz (t:zaa) (a:zal):(zgc t a).length=2:=by unfold zgc;split<;>(try split)<;>rfl
theorem zma {o p:List DOp} (h:o.length≤5000000) (hn:p.length≤5000000):((o.length:Int)+(p.length:Int))*48≤140737488355328∧(o.length:Int)+(p.length:Int)≤140737488355328:=by omega
theorem zr1 {t:zaa} {a:zal} {x:zbg} (ht:t.fName.length≤2000000) (hn:x.fName.length≤2000000) (hx:zfF t x.fName x) (ha:zsf t a):zdI t x a=some (ziR t a x):=by
 have e1:zdI t x a=zde t x a (zst t a x):=by
  unfold zdI zst
  by_cases h1:a.fKind=1
  ·rw [if_neg (by simp [h1]),if_pos h1];rfl
  ·rw [if_pos (by simpa using h1),if_neg h1,zmH ht hn hx (ha.old h1)];rfl
 have e2: ∀k,zde t x a k=zcy x k (zqQ t a x):=by
  intro k
  unfold zde zqQ
  by_cases h1:a.fKind=2
  ·rw [if_neg (by simp [h1]),if_pos h1]
  ·rw [if_pos (by simpa using h1),if_neg h1,zmH ht hn hx (ha.new h1)];rfl
 have e3: ∀(n:Str) (o:List DOp),o.length≤5→zdf x n o=some (o++zlf n x):=by
  intro n o ho
  unfold zdf zlf
  by_cases h1:n≠ []∧x.fStage≥2
  ·rw [if_pos (by simpa using h1),if_pos h1,zau (zma (by omega) (by simp))]
  ·rw [if_neg (by simpa using h1),if_neg h1,List.append_nil]
 have e4: ∀(k n:Str),zcy x k n=some (ziX k n x++zlf n x):=by
  intro k n
  unfold zcy ziX
  by_cases h1:k≠ []∧k≠n∧x.fStage≥1
  ·rw [if_pos (by simpa [and_assoc]using h1),if_pos h1,zau (zma (by simp) (by simp)),e3 _ _ (by simp)]
  ·rw [if_neg (by simpa [and_assoc]using h1),if_neg h1,e3 _ _ (by simp)]
 rw [e1,e2,e4];rfl
theorem zp1 {t:zaa} {a:zal} (hc:1≤t.fCols.length) (ht:t.fName.length≤2000000) (ha:zsf t a):zeh t a=some (zgc t a):=by
 unfold zeh zgc
 by_cases h1:a.fKind=1
 ·have hr:=ha.new (by omega)
  rw [if_pos (by simpa using h1),if_pos h1,zmZ ht hr.small (zic hc hr)];rfl
 have hr:=ha.old h1
 rw [if_neg (by simpa using h1),if_neg h1,zmZ ht hr.small (zic hc hr),Option.bind_some]
 by_cases h2:a.fKind=2
 ·rw [if_pos (by simpa using h2),if_pos h2]
 have hr:=ha.new h2
 rw [if_neg (by simpa using h2),if_neg h2,zmZ ht hr.small (zic hc hr)];rfl
theorem zv5 {t:zaa} {a:zal} (hS:zbW t) (hg:zaq t=true) (ha:zsf t a):zeT t a=some (zoz t a):=by
 have hc:=zhX hg
 unfold zeT
 rw [zp1 (by omega) hS.name ha,Option.bind_some]
 have hl:=zhz t a
 exact(zh1 (xs:=t.fIdxs) (body:=fun s:Int × List DOp=>zbZ t a s.1 s.2) (fun i (o:List DOp)=>(i,o)) (fun o x=>o++ziR t a x) (fun o=>some o) (fun i o=>o.length≤2+2*i)
  (fun i hi o hI=>by
   have hI:o.length≤2+2*i:=hI
   have hw:=zb7 hi (by omega)
   have hk:=ziM t a t.fIdxs[i]
   have hm:=List.getElem_mem hi
   refine⟨?_,by show List.length _≤_;rw [List.length_append];omega⟩
   show zbZ t a i o=_
   unfold zbZ
   rw [if_pos (by simpa using hi),zai hi,Option.bind_some,zr1 hS.name (hS.idx _ hm) (zpl hg hm) ha,Option.bind_some,zau (zma (by omega) (by omega)),hw])
  (fun o _=>by
   show zbZ t a t.fIdxs.length o=_
   unfold zbZ
   rw [if_neg (by simp)]) (s:=zgc t a) (by omega)).1
theorem zol {k:Int} {w:za4} {o:List DOp} (h:o.length≤5000000):zao k w o=some ((),o++ [⟨k,w.fKey,w.fVal,0⟩]):=by
 unfold zao
 rw [zau (zma h (by simp))]
theorem zvA {t:zaa} {a:zal} (hS:zbW t) (hg:zaq t=true) (ha:zsf t a):zb1 t a=some (zoz t a):=by
 have hc:=zhX hg
 have hl:=zhz t a
 have h7: ∀(i:Int) (x:zbg) (n:Str) (o:List DOp),o.length≤100→zaT i x n o=some (.inl (IntKind.i64.wrap (i+1),o++zlf n x)):=by
  intro i x n o ho
  unfold zaT zlf zfm
  by_cases h1:n= []
  ·rw [if_neg (by simp [h1]),if_neg (by simp [h1]),List.append_nil]
  rw [if_pos (by simpa using h1),Option.bind_some]
  by_cases h2:x.fStage≥2
  ·rw [if_pos (by simpa using h2),if_pos ⟨h1,h2⟩,zol (by omega)];rfl
  ·rw [if_neg (by simpa using h2),if_neg (fun h=>h2 h.2),List.append_nil]
 have h6: ∀(i:Int) (x:zbg) (k n:Str) (o:List DOp),o.length≤99→zaC i o x k n=some (.inl (IntKind.i64.wrap (i+1),o++(ziX k n x++zlf n x))):=by
  intro i x k n o ho
  unfold zaC ziX zfs
  by_cases h1:k= []
  ·rw [if_neg (by simp [h1]),if_neg (by simp [h1]),h7 _ _ _ _ (by omega)];rfl
  rw [if_pos (by simpa using h1)]
  by_cases h2:k=n
  ·rw [if_neg (by simp [h2]),if_neg (by simp [h2]),h7 _ _ _ _ (by omega)];rfl
  rw [if_pos (by simpa using h2),Option.bind_some]
  by_cases h3:x.fStage≥1
  ·rw [if_pos (by simpa using h3),if_pos ⟨h1,h2,h3⟩,zol (by omega),Option.bind_some,h7 _ _ _ _ (by rw [List.length_append,List.length_singleton];omega),List.append_assoc]
  ·rw [if_neg (by simpa using h3),if_neg (fun h=>h3 h.2.2),h7 _ _ _ _ (by omega)];rfl
 have hloop: ∀o:List DOp,o.length=2→zaS t a o=some (t.fIdxs.foldl (fun o x=>o++ziR t a x) o):=by
  intro o ho
  unfold zaS
  exact(zh1 (xs:=t.fIdxs) (body:=fun s:Int × List DOp=>zaR t a s.1 s.2) (fun i (o:List DOp)=>(i,o)) (fun o x=>o++ziR t a x) (fun o=>some o) (fun i o=>o.length≤2+2*i)
   (fun i hi o hI=>by
    have hI:o.length≤2+2*i:=hI
    have hw:=zb7 hi (by omega)
    have hk:=ziM t a t.fIdxs[i]
    have hm:=List.getElem_mem hi
    have hx:=zpl hg hm
    refine⟨?_,by show List.length _≤_;rw [List.length_append];omega⟩
    show zaR t a i o=_
    unfold zaR
    rw [if_pos (by simpa using hi),zai hi,Option.bind_some]
    have e1:(if(a.fKind !=1)=true then(zaF t t.fIdxs[i].fName a.fOld).bind fun v20=>some (Sum.inl v20)else some (Sum.inl ([]:List UInt8)):Option (List UInt8 ⊕ Option ((Int × List DOp) ⊕ Option (List DOp))))=some (.inl (zst t a t.fIdxs[i])):=by
     unfold zst
     by_cases h1:a.fKind=1
     ·rw [if_neg (by simp [h1]),if_pos h1]
     ·rw [if_pos (by simpa using h1),if_neg h1,zmN hS (hS.idx _ hm) hx (ha.old h1)];rfl
    rw [e1]
    show zck t a i o t.fIdxs[i] (zst t a t.fIdxs[i])=_
    unfold zck
    have e2: ∀k,(if(a.fKind !=2)=true then(zaF t t.fIdxs[i].fName a.fNew).bind fun v19=>zaC i o t.fIdxs[i] k v19 else zaC i o t.fIdxs[i] k ([]:List UInt8))=zaC i o t.fIdxs[i] k (zqQ t a t.fIdxs[i]):=by
     intro k
     unfold zqQ
     by_cases h1:a.fKind=2
     ·rw [if_neg (by simp [h1]),if_pos h1]
     ·rw [if_pos (by simpa using h1),if_neg h1,zmN hS (hS.idx _ hm) hx (ha.new h1)];rfl
    rw [e2,h6 _ _ _ _ _ (by omega),hw]
    rfl)
   (fun o _=>by
    show zaR t a t.fIdxs.length o=_
    unfold zaR
    rw [if_neg (by simp)]) (s:=o) (by omega)).1
 have hn:t.fName.length≤2000000:=hS.name
 unfold zb1 zoz zgc
 rcases ha.kind with h1|h1|h1
 ·have hr:=ha.new (by omega)
  rw [if_neg (by simp [h1]),if_pos h1]
  show zaB t a [] [] false []=_
  unfold zaB
  rw [if_pos (by simp [h1]),zjX hn hr.small (zic (by omega) hr),Option.bind_some]
  unfold zbd
  rw [if_pos (by simp [h1]),zol (by simp),Option.bind_some,zol (by simp),Option.bind_some,hloop _ (by simp)]
  rfl
 ·have hr:=ha.old (by omega)
  rw [if_pos (by simp [h1]),if_neg (by omega),if_pos h1,zjX hn hr.small (zic (by omega) hr),Option.bind_some,zol (by simp),Option.bind_some]
  show zaB t a (zhS t a.fOld).fKey (zhS t a.fOld).fVal (zhS t a.fOld).fGone _=_
  unfold zaB
  rw [if_neg (by simp [h1])]
  unfold zbd
  rw [if_neg (by simp [h1]),if_pos (by simp [h1]),zol (by simp),Option.bind_some,hloop _ (by simp)]
  rfl
 ·have hr:=ha.old (by omega)
  have hr2:=ha.new (by omega)
  have hk:(zhS t a.fOld).fKey=(zhS t a.fNew).fKey:=by
   have:=ha.same h1
   unfold zg8 at this
   unfold zhS
   rw [List.head?_eq_getElem?,List.head?_eq_getElem?]
   exact congrArg (fun z=>t.fName++ [47]++z) this
  rw [if_pos (by simp [h1]),if_neg (by omega),if_neg (by omega),zjX hn hr.small (zic (by omega) hr),Option.bind_some,zol (by simp),Option.bind_some]
  show zaB t a (zhS t a.fOld).fKey (zhS t a.fOld).fVal (zhS t a.fOld).fGone _=_
  unfold zaB
  rw [if_pos (by simp [h1]),zjX hn hr2.small (zic (by omega) hr2),Option.bind_some]
  unfold zbd
  rw [if_neg (by simp [h1]),if_neg (by simp [h1]),if_pos (by simp [h1]),zol (by simp),Option.bind_some,hloop _ (by simp),hk]
  rfl
end Go.Proofs.YtfkblfjloegahaaGreat
end
section
namespace Go.Proofs.YtfkblfjloegahaaGreat
open Go.RowKit
set_option maxRecDepth 100000
theorem zkb {α:Type} {xs ys:List α} (p:α→α→Bool) (hp: ∀x y,p x y=true↔x=y) (hl:xs.length=ys.length) {body:Int→Option (Int ⊕ Option Bool)}
  (hs: ∀(i:Nat) (hi:i<xs.length) (hj:i<ys.length),body i=some (if p xs[i] ys[i]=true then .inl ((i+1:Nat):Int)else .inr (some false))) (he:body xs.length=some (.inr (some true))): ∃r,zay body 0=some r∧(r=true↔xs=ys):=by
 rw [zh4 hl p false (some true) hs he]
 have z1:=zkT (p:=p) (f:=id) (fun x y=>hp x y) hl
 rw [List.map_id,List.map_id]at z1
 rw [←z1]
 cases((xs.zip ys).all fun z=>p z.1 z.2)<;>exact⟨_,rfl,by simp⟩
theorem zty {xs ys:List Str} (hl:xs.length≤2000000): ∃r,zeg xs ys=some r∧(r=true↔xs=ys):=by
 unfold zeg
 by_cases h:((xs.length:Int) !=(ys.length:Int))=true
 ·rw [if_pos h]
  exact⟨_,rfl,by simp,fun e=>by rw [e]at h;simp at h⟩
 ·rw [if_neg h]
  have h':xs.length=ys.length:=by
   have:(xs.length:Int)=ys.length:=by simpa using h
   omega
  refine zkb (fun x y=>x==y) (by simp) h' (fun i hi hj=> ?_) ?_
  ·show zcd xs ys i=_
   unfold zcd
   rw [if_pos (by simpa using hi),zai hi,Option.bind_some,zai hj,Option.bind_some,zb7 hi (by omega)]
   by_cases hq:xs[i]=ys[i]
   ·rw [if_neg (by simp [hq]),if_pos (by simpa using hq)]
   ·rw [if_pos (by simpa using hq),if_neg (by simpa using hq)]
  ·show zcd xs ys xs.length=_
   unfold zcd
   rw [if_neg (by simp)]
theorem zsK {a b:zaa} (ha:zbW a):zbR a b=some (eqT a b):=by
 have key: ∃r,zbR a b=some r∧(r=true↔a=b):=by
  unfold zbR
  by_cases h1:(a.fName !=b.fName)=true
  ·rw [if_pos h1]
   exact⟨_,rfl,by simp,fun h=>by rw [h]at h1;simp at h1⟩
  rw [if_neg h1]
  have h1':a.fName=b.fName:=by simpa using h1
  obtain⟨r,e,f⟩:=zty (ys:=b.fCols) ha.cols
  rw [e,Option.bind_some]
  by_cases h2:((!r)||((a.fIdxs.length:Int) !=(b.fIdxs.length:Int)))=true
  ·rw [if_pos h2]
   refine⟨_,rfl,by simp,fun h=> ?_⟩
   have:=f.2 (by rw [h])
   rw [this,h]at h2
   simp at h2
  rw [if_neg h2]
  simp only [Bool.or_eq_true,Bool.not_eq_true',bne_iff_ne,ne_eq,not_or,Bool.not_eq_false,Decidable.not_not,Int.natCast_inj]at h2
  have hi:=ha.idxs
  obtain⟨q,e2,f2⟩:=zkb (xs:=a.fIdxs) (ys:=b.fIdxs) (body:=fun s:Int=>za2 a b s) (fun x y=>x.fName==y.fName&&(x.fCol==y.fCol&&(x.fStage==y.fStage))) (fun x y=>by
   simp only [Bool.and_eq_true,beq_iff_eq]
   constructor
   ·rintro⟨k1,k2,k3⟩;exact zpa (by simp [nc,k1,k2]) k3
   ·rintro rfl;simp) h2.2 (fun i hi hj=>by
    show za2 a b i=_
    unfold za2
    rw [if_pos (by simpa using hi),zai hi,Option.bind_some,zai hj,Option.bind_some,zb7 hi (by omega)]
    cases(a.fIdxs[i].fName==b.fIdxs[i].fName&&(a.fIdxs[i].fCol==b.fIdxs[i].fCol&&(a.fIdxs[i].fStage==b.fIdxs[i].fStage)))<;>rfl) (by
    show za2 a b a.fIdxs.length=_
    unfold za2
    rw [if_neg (by simp)])
  exact⟨q,e2,f2.trans ⟨fun h=>zjP h1' (f.1 h2.1) h,fun h=>by rw [h]⟩⟩
 obtain⟨r,e,f⟩:=key
 rw [e];congr 1
 rw [Bool.eq_iff_iff,f,zmP]
theorem zn7 (t:zaa) (k c:Int) (j:Nat): ∃s,((zgk t k c).fIdxs[j]?).getD ⟨[],0,0⟩={((t.fIdxs[j]?).getD ⟨[],0,0⟩)with fStage:=s}∧(s=((t.fIdxs[j]?).getD ⟨[],0,0⟩).fStage∨s=c):=by
 unfold zgk
 simp only
 rw [List.getElem?_set]
 by_cases h:k.toNat=j
 ·subst h
  rw [if_pos rfl]
  by_cases hl:k.toNat<t.fIdxs.length
  ·rw [if_pos hl];exact⟨c,rfl, .inr rfl⟩
  ·rw [if_neg hl,List.getElem?_eq_none (by omega)];exact⟨0,rfl, .inl rfl⟩
 ·rw [if_neg h];exact⟨_,rfl, .inl rfl⟩
theorem zqp {t:zaa} {k c:Int} (h:zaq t=true) (h0:0≤c) (h3:c≤3):zaq (zgk t k c)=true:=by
 unfold zaq at h ⊢
 have hl:(zgk t k c).fIdxs.length=t.fIdxs.length:=List.length_set
 simp only [Bool.and_eq_true]at h ⊢
 refine⟨⟨h.1.1,by rw [hl];exact h.1.2⟩, ?_⟩
 rw [hl,List.all_eq_true]
 intro i hi
 have h1:=List.all_eq_true.1 h.2 i hi
 unfold zhQ at h1 ⊢
 obtain⟨s,e,hs⟩:=zn7 t k c i
 obtain⟨s',e',_⟩:=zn7 t k c (i-1)
 simp only [e,e']
 simp only [Bool.and_eq_true]at h1 ⊢
 refine⟨⟨h1.1.1, ?_⟩,h1.2⟩
 rcases hs with hs|hs
 ·rw [hs];exact h1.1.2
 ·rw [hs];exact zdA.2 ⟨h0,h3⟩
theorem zsw {t:zaa} {n:Str} {k a b:Int} (h:ziV t n=true) (ha0:0≤a) (ha3:a≤3) (hb0:0≤b) (hb3:b≤3): ∀w∈way t k a b,ziV w n=true:=by
 intro w hw
 unfold way at hw
 rcases List.mem_cons.1 hw with rfl|hw
 ·exact h
 obtain⟨c,hc,rfl⟩:=List.mem_map.1 hw
 obtain⟨c0,c3⟩:=zmU 3 ha0 ha3 hb0 hb3 c hc
 unfold ziV at h ⊢
 rw [Bool.and_eq_true]at h ⊢
 exact⟨zqp h.1 c0 c3,by rw [zrX (zhw t k c)];exact h.2⟩
def w0 (ws:List zaa):zaa:=(ws[0]?).getD noT
def zjB (ws:List zaa) (n:Str):Prop:=ws.length=4∧ziV (w0 ws) n=true∧zs9 (w0 ws) n=0∧ws=way (w0 ws) (kOf (w0 ws) n) 0 3
theorem ztC {ws:List zaa} {n:Str} (h:zjB ws n): ∀t∈ws,ziV t n=true:=by
 intro t ht
 obtain⟨_,h2,_,h4⟩:=h
 rw [h4]at ht
 exact zsw h2 (by omega) (by omega) (by omega) (by omega) t ht
theorem ztJ {ws:List zaa} (h:ws.length=4):zbD ws 0=some (w0 ws)∧w0 ws∈ws:=by
 match ws,h with
 |t::_,_=>exact⟨rfl,by simp [w0]⟩
theorem ztl {ws:List zaa} {n:Str} (h: ∀t∈ws,zbW t): ∃r,zei ws n=some r∧(r=true↔zjB ws n):=by
 unfold zei
 by_cases h4:ws.length=4
 ·obtain⟨g,hm⟩:=ztJ h4
  have hS:=h _ hm
  rw [if_pos (by simp [h4]),g,Option.bind_some,zu1 hS,Option.bind_some]
  by_cases hh:ziV (w0 ws) n=true
  ·obtain⟨x,hx,hst,hx0,hx3,hg⟩:=zou hh
   have hi:zaP (w0 ws) n=some x:=by
    unfold zaP
    rw [znq hS,Option.bind_some,hx.at_];rfl
   rw [if_pos hh,hi,Option.bind_some]
   by_cases hs:x.fStage=0
   ·rw [if_pos (by simpa using hs),zvq hS hx hx0 hx3 (by omega) (by omega),Option.bind_some]
    obtain⟨r,e,f⟩:=zqY (xs:=ws) (ys:=way (w0 ws) (kOf (w0 ws) n) x.fStage 3) h (by omega)
    refine⟨r,(zuf e).trans rfl, ?_⟩
    rw [f,hs]
    exact⟨fun k=>⟨h4,hh,by omega,k⟩,fun k=>k.2.2.2⟩
   ·rw [if_neg (by simpa using hs)]
    exact⟨_,rfl,by simp,fun k=>absurd (hst.symm.trans k.2.2.1) hs⟩
  ·rw [if_neg hh]
   exact⟨_,rfl,by simp,fun k=>absurd k.2.1 hh⟩
 ·rw [if_neg (by simp;omega)]
  exact⟨_,rfl,by simp,fun k=>absurd k.1 h4⟩
theorem zpM {t:zaa} {n:Str} (hS:zbW t): ∃r,zex t n=some r∧r.2=ziV t n∧(ziV t n=true→zfF t n r.1):=by
 unfold zex
 rw [znL hS,Option.bind_some,zh2 hS,Option.bind_some]
 by_cases hh:ziV t n=true
 ·obtain⟨x,hx,_⟩:=zru hh
  have hh2:=hh
  unfold ziV at hh2
  simp only [Bool.and_eq_true,decide_eq_true_eq]at hh2
  rw [if_neg (by simp only [Bool.or_eq_true,Bool.not_eq_true',decide_eq_true_eq,not_or,Bool.not_eq_false];exact⟨hh2.1,by omega⟩),hx.at_,Option.bind_some]
  exact⟨_,rfl,hh.symm,fun _=>hx⟩
 ·have hh2:=hh
  unfold ziV at hh2
  simp only [Bool.and_eq_true,decide_eq_true_eq,not_and]at hh2
  rw [if_pos (by
   simp only [Bool.or_eq_true,Bool.not_eq_true',decide_eq_true_eq]
   cases hg:zaq t with
   |false=>exact .inl rfl
   |true=>exact .inr (by have:=hh2 hg;omega))]
  exact⟨_,rfl,by simpa using hh,fun k=>absurd k hh⟩
theorem zta {ws:List zaa} {n:Str} (h: ∀t∈ws,zbW t): ∃r,zem ws n=some r∧(r=true↔zjB ws n):=by
 unfold zem
 by_cases h4:ws.length=4
 ·obtain⟨g,hm⟩:=ztJ h4
  have hS:=h _ hm
  rw [if_neg (by simp [h4]),g,Option.bind_some,zh2 hS,Option.bind_some]
  by_cases hg:zaq (w0 ws)=true
  ·rw [if_neg (by simp [hg])]
   obtain⟨q,e1,f1,f2⟩:=zpM (n:=n) hS
   rw [e1,Option.bind_some]
   by_cases hh:ziV (w0 ws) n=true
   ·obtain⟨x,hx,hst,hx0,hx3,_⟩:=zou hh
    have hq:q.1=x:=by
     have h1:=(f2 hh).at_
     rw [hx.at_]at h1
     exact(Option.some.inj h1).symm
    have hw:zdt (w0 ws) n 3=some (way (w0 ws) (kOf (w0 ws) n) x.fStage 3,true):=by
     have ha:zch (w0 ws) n 3=some true:=by
      unfold zch
      have hh2:=hh
      unfold ziV at hh2
      simp only [Bool.and_eq_true,decide_eq_true_eq]at hh2
      rw [zh2 hS,Option.bind_some,if_pos hg,znL hS,Option.bind_some,if_pos (by simpa using hh2.2),znj]
      rfl
     unfold zdt
     rw [ha,Option.bind_some,if_neg (by simp),zwl hS hx hx0 hx3 (by omega) (by omega)]
     rfl
    rw [hw,Option.bind_some,f1,hh,hq]
    by_cases hs:x.fStage=0
    ·rw [hs]
     have hl:(way (w0 ws) (kOf (w0 ws) n) 0 3).length=4:=rfl
     have hsm:=fun w hw=>(zuB (t:=w0 ws) (k:=kOf (w0 ws) n) (a:=0) (b:=3) hS (ztQ hg) (by omega) (by omega) (by omega) (by omega) w hw).2.2
     rw [if_neg (by simp [hl])]
     obtain⟨r,e,f⟩:=zkb (xs:=way (w0 ws) (kOf (w0 ws) n) 0 3) (ys:=ws) (body:=fun s:Int=>zbM ws (way (w0 ws) (kOf (w0 ws) n) 0 3,true) s) eqT (fun _ _=>zmP) (hl.trans h4.symm) (fun i hi hj=>by
      show zbM ws (way (w0 ws) (kOf (w0 ws) n) 0 3,true) i=_
      unfold zbM
      rw [if_pos (by simpa using hi),zai hi,Option.bind_some,zai hj,Option.bind_some,zsK (hsm _ (List.getElem_mem hi)),Option.bind_some,zb7 hi (by omega)]
      cases eqT (way (w0 ws) (kOf (w0 ws) n) 0 3)[i] ws[i]<;>rfl) (by
      show zbM ws (way (w0 ws) (kOf (w0 ws) n) 0 3,true) (way (w0 ws) (kOf (w0 ws) n) 0 3).length=_
      unfold zbM
      rw [if_neg (by simp)])
     refine⟨r,e, ?_⟩
     rw [f]
     exact⟨fun k=>⟨h4,hh,by omega,k.symm⟩,fun k=>k.2.2.2.symm⟩
    ·rw [if_pos (by simp [hs])]
     exact⟨_,rfl,by simp,fun k=>absurd (hst.symm.trans k.2.2.1) hs⟩
   ·have hw: ∃q,zdt (w0 ws) n 3=some q:=by
     have ha:zch (w0 ws) n 3=some false:=by
      unfold zch
      have hh2:=hh
      unfold ziV at hh2
      simp only [Bool.and_eq_true,decide_eq_true_eq,not_and]at hh2
      rw [zh2 hS,Option.bind_some,if_pos hg,znL hS,Option.bind_some,if_neg (by simpa using hh2 hg)]
     unfold zdt
     rw [ha,Option.bind_some,if_pos (by simp)]
     exact⟨_,rfl⟩
    obtain⟨q2,hw⟩:=hw
    rw [hw,Option.bind_some,f1,if_pos (by simp [hh])]
    exact⟨_,rfl,by simp,fun k=>absurd k.2.1 hh⟩
  ·rw [if_pos (by simpa using hg)]
   refine⟨_,rfl,by simp,fun k=> ?_⟩
   have:=k.2.1
   unfold ziV at this
   simp only [Bool.and_eq_true]at this
   exact absurd this.1 hg
 ·rw [if_pos (by simp;omega)]
  exact⟨_,rfl,by simp,fun k=>absurd k.1 h4⟩
def zrt (t:zaa) (n:Str) (x:zbg) (r:zd5):List DOp:= [⟨7,(zhS t r).fKey,(zhS t r).fVal,0⟩,⟨2,zlt t n x.fCol r, [],0⟩]
theorem zuE {a:zal} (h:znz a):zdT a=zdN a:=by
 unfold zdT zdN
 have h1:=h.1.1
 have h2:=h.2.1
 rw [zbr (by omega) (by omega)]
 cases(a.fKind==0)
 ·rfl
 congr 1
 rw [Bool.eq_iff_iff]
 simp only [Bool.true_and,Bool.and_eq_true,beq_iff_eq]
 omega
def zvo (ws:List zaa) (n:Str) (j:zaJ) (r:List DOp × Bool):Prop:=
 r=([],false)∨(∃t∈ws,∃x,ziV t n=true∧zfF t n x∧zbp t j.fRow=true∧r=(zrt t n x j.fRow,true))∨(∃t∈ws,ziV t n=true∧ze6 t j.fAct=true∧r=(zoz t j.fAct,true))
theorem zoq {ws:List zaa} {n:Str} {j:zaJ} (h: ∀t∈ws,zbW t) (hn:n.length≤2000000) (hA:znz j.fAct) (hR:Small j.fRow.fVals): ∃r,zeM ws n j=some r∧zdG ws n j=some r∧zvo ws n j r:=by
 obtain⟨a,e1,f1⟩:=zta (n:=n) h
 obtain⟨b,e2,f2⟩:=ztl (n:=n) h
 unfold zeM zdG
 rw [e1,e2,Option.bind_some,Option.bind_some]
 by_cases hg:zjB ws n
 ·rw [if_neg (by simp [f1.2 hg]),if_pos (f2.2 hg)]
  unfold zgb zgJ
  rw [znj,zhW,Option.bind_some,Option.bind_some]
  cases hv:inB j.fVer 0 3 with
  |false=>exact⟨_,rfl,rfl, .inl rfl⟩
  |true=>
   have hv2:=zdA.1 hv
   have hl:=hg.1
   obtain⟨t,gt,hm,_⟩:=zr0 (xs:=ws) (i:=j.fVer) hv2.1 (by omega)
   have hS:=h t hm
   have hI:=ztC hg t hm
   obtain⟨x,hx,_,_,_,hgt⟩:=zou hI
   have hc:=zhX hgt
   simp only [Bool.not_true,Bool.false_eq_true,if_false,gt,Option.bind_some]
   cases hf:j.fFill with
   |true=>
    simp only [if_true]
    by_cases h2:j.fVer<2
    ·rw [if_pos (by simpa using h2),if_neg (by simp;omega)]
     exact⟨_,rfl,rfl, .inl rfl⟩
    ·rw [if_neg (by simpa using h2),if_pos (by simp;omega),zuE hA]
     unfold zdN
     cases hb:(((j.fAct.fKind==0)&&((j.fAct.fOld.fVals.length:Int)==0))&&((j.fAct.fNew.fVals.length:Int)==0))with
     |false=>exact⟨_,rfl,rfl, .inl rfl⟩
     |true=>
      obtain⟨q,e3,f3,f4⟩:=zpM (n:=n) hS
      have hq:q.1=x:=by
       have h1:=(f4 hI).at_
       rw [hx.at_]at h1
       exact(Option.some.inj h1).symm
      unfold zfr zeS
      simp only [Option.bind_some,Bool.not_true,Bool.false_eq_true,if_false,if_true,e3,f3,hI,zfN hR,zfB hR,hf,gt]
      cases hr:zbp t j.fRow with
      |false=>exact⟨_,rfl,rfl, .inl rfl⟩
      |true=>
       have hin:=zhK hR hr
       unfold zfl zcI
       have hnt:t.fName.length≤2000000:=hS.name
       simp only [hq,zmZ hnt hR (zic (by omega) hin),zjX hnt hR (zic (by omega) hin),zmH hnt hn hx hin,zmN hS hn hx hin,Option.bind_some,Bool.not_true,Bool.false_eq_true,if_false]
       exact⟨_,rfl,rfl, .inr (.inl ⟨t,hm,x,hI,hx,hr,rfl⟩)⟩
   |false=>
    simp only [Bool.false_eq_true,if_false]
    unfold zf3 zfv zeS
    simp only [zh2 hS,hgt,zqd (t:=t) (a:=j.fAct) (by omega) hA,zpT (t:=t) (a:=j.fAct) (by omega) hA,Option.bind_some,if_true,hf,gt,Bool.false_eq_true,if_false]
    by_cases hz:j.fRow.fVals.length=0
    ·rw [if_neg (by simp [hz])]
     cases ha:ze6 t j.fAct with
     |false=>exact⟨_,rfl,rfl, .inl rfl⟩
     |true=>
      have hai:=zvL hA ha
      simp only [zv5 hS hgt hai,zvA hS hgt hai,Option.bind_some,Bool.not_true,Bool.false_eq_true,if_false,hz,Bool.true_and]
      exact⟨_,rfl,rfl, .inr (.inr ⟨t,hm,hI,ha,rfl⟩)⟩
    ·rw [if_pos (by simp;omega),if_pos (by simp;exact .inr fun e=>hz (by rw [e];rfl))]
     exact⟨_,rfl,rfl, .inl rfl⟩
 ·rw [if_pos (by simpa using fun k=>hg (f1.1 k)),if_neg (fun k=>hg (f2.1 k))]
  exact⟨_,rfl,rfl, .inl rfl⟩
end Go.Proofs.YtfkblfjloegahaaGreat
end

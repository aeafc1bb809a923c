/- Parts of a proof, joined: NK, NP, NF, NG, NX, QE, QT, TF, QF1, QF2, QR, LG, FFnExactAddDiff. -/
import Derived.Test.YthgeekoigbihbaaK7
import Derived.Test.YthgeekoigbihbaaRows
import Derived.WalkKit
import Derived.ProofKit
import Derived.OpenShut
import Derived.ShutString
import Derived.ChangeOld
import Derived.Below
section
namespace Go.Proofs.Ythgeekoigbihbaa
open Go.RowKit
set_option maxRecDepth 100000
def zcm {α:Type} (r:α→α→Bool):List α→Bool
 | []=>true
 | [_]=>true
 |x::y::l=>r x y&&zcm r (y::l)
theorem zlh {α:Type} {r:α→α→Bool} (ht: ∀a b c,r a b=true→r b c=true→r a c=true): ∀{l:List α},zcm r l=true↔l.Pairwise fun a b=>r a b=true
 | []=>by simp [zcm]
 | [_]=>by simp [zcm]
 |x::y::l=>by
  rw [zcm,Bool.and_eq_true,zlh ht]
  constructor
  ·rintro⟨h1,h2⟩
   refine List.pairwise_cons.2 ⟨fun z hz=> ?_,h2⟩
   rcases List.mem_cons.1 hz with rfl|hz
   ·exact h1
   ·exact ht _ _ _ h1 ((List.pairwise_cons.1 h2).1 z hz)
  ·intro h
   have h:=List.pairwise_cons.1 h
   exact⟨h.1 y (by simp),h.2⟩
theorem ziQ {α:Type} {r:α→α→Bool} {l:List α} {q:Nat} (h:q+1<l.length):zcm r (l.drop q)=(r l[q] l[q+1]&&zcm r (l.drop (q+1))):=by
 rw [List.drop_eq_getElem_cons (show q<l.length by omega),List.drop_eq_getElem_cons h,zcm]
theorem zkZ {α β:Type} {xs:List α} {body:Int→Option (Int ⊕ Option β)} (p:α→Bool) (r:α→α→Bool) (b:β) (fin:Option β)
  (h0: ∀h:0<xs.length,body 0=some (if p xs[0]=true then .inl 1 else .inr (some b)))
  (hs: ∀i (h:i+1<xs.length),body ((i+1:Nat):Int)=some (if(p xs[i+1]&&r xs[i] xs[i+1])=true then .inl ((i+2:Nat):Int)else .inr (some b)))
  (he:body xs.length=some (.inr fin)):zaF body 0=if(xs.all p&&zcm r xs)=true then fin else some b:=by
 have key: ∀n q,q+1+n=xs.length→zaF body ((q+1:Nat):Int)=if((xs.drop (q+1)).all p&&zcm r (xs.drop q))=true then fin else some b:=by
  intro n
  induction n with
  |zero=>
   intro q hq
   rw [show((q+1:Nat):Int)=(xs.length:Int) by omega,zay,he]
   have e1:xs.drop (q+1)= []:=List.drop_eq_nil_of_le (by omega)
   have e2:xs.drop q= [xs[q]]:=by rw [List.drop_eq_getElem_cons (by omega),e1]
   rw [e1,e2]
   simp [zcm]
  |succ n ih=>
   intro q hq
   rw [zay,hs q (by omega),ziQ (by omega),List.drop_eq_getElem_cons (show q+1<xs.length by omega),List.all_cons]
   have ih:=ih (q+1) (by omega)
   by_cases hp:(p xs[q+1]&&r xs[q] xs[q+1])=true
   ·rw [if_pos hp]
    simp only [Bool.and_eq_true]at hp
    simp only [hp.1,hp.2,Bool.true_and]
    rw [←List.drop_eq_getElem_cons (show q+1<xs.length by omega)]
    exact ih
   ·rw [if_neg hp]
    rw [if_neg]
    intro h
    simp only [Bool.and_eq_true]at h hp
    exact hp ⟨h.1.1,h.2.1⟩
 by_cases hz:0<xs.length
 ·rw [zay,h0 hz]
  have:=key (xs.length-1) 0 (by omega)
  rw [List.drop_zero]at this
  have e:xs=xs[0]::xs.drop 1:=by rw [←List.drop_eq_getElem_cons hz,List.drop_zero]
  by_cases hp:p xs[0]=true
  ·rw [if_pos hp]
   show zaF body ((0+1:Nat):Int)=_
   rw [this]
   have:xs.all p=(xs.drop 1).all p:=by rw [e,List.all_cons,hp,Bool.true_and];simp
   rw [this]
  ·rw [if_neg hp,if_neg]
   intro h
   simp only [Bool.and_eq_true,List.all_eq_true]at h
   exact hp (h.1 _ (List.getElem_mem hz))
 ·have:xs= []:=by cases xs with|nil=>rfl|cons=>simp at hz
  subst this
  rw [zay,show(0:Int)=(([]:List α).length:Int)from rfl,he]
  simp [zcm]
def ze1 {α:Type} (lt:α→Bool) (l:List α):Nat:=(l.takeWhile lt).length
theorem zk3 {α:Type} (lt:α→Bool): ∀l:List α,ze1 lt l≤l.length
 | []=>by simp [ze1]
 |x::l=>by
  have:=zk3 lt l
  unfold ze1 at this ⊢
  rw [List.takeWhile_cons]
  split<;>simp<;>omega
theorem zph {α:Type} {lt:α→Bool}: ∀{l:List α} {i:Nat} (h:i<ze1 lt l),lt (l[i]'(Nat.lt_of_lt_of_le h (zk3 lt l)))=true
 |x::l,i,h=>by
  unfold ze1 at h
  rw [List.takeWhile_cons]at h
  split at h
  ·rename_i hx
   cases i with
   |zero=>exact hx
   |succ i=>exact zph (l:=l) (i:=i) (by unfold ze1;simpa using h)
  ·simp at h
theorem zoc {α:Type} {lt:α→Bool}: ∀{l:List α} (h:ze1 lt l<l.length),lt l[ze1 lt l]=false
 |x::l,h=>by
  by_cases hx:lt x=true
  ·have e:ze1 lt (x::l)=ze1 lt l+1:=by unfold ze1;rw [List.takeWhile_cons,if_pos hx];rfl
   have:=zoc (l:=l) (lt:=lt) (by rw [e]at h;simpa using h)
   simp only [e,List.getElem_cons_succ]
   exact this
  ·have e:ze1 lt (x::l)=0:=by unfold ze1;rw [List.takeWhile_cons,if_neg hx];rfl
   simp only [e,List.getElem_cons_zero]
   simpa using hx
theorem zq5 {α β:Type} {xs:List α} {body:Int × Int→Option ((Int × Int) ⊕ Option β)} {fin:Int→Option β} (lt:α→Bool) (hm: ∀i j (hj:j<xs.length) (hi:i≤j),lt xs[j]=true→lt xs[i]=true)
  (hs: ∀i j:Nat,i<j→j≤xs.length→(h:(i+j)/2<xs.length)→body ((i:Int),(j:Int))=some (.inl (if lt xs[(i+j)/2]=true then((((i+j)/2+1:Nat):Int),(j:Int))else((i:Int),(((i+j)/2:Nat):Int)))))
  (he: ∀i:Nat,i≤xs.length→body ((i:Int),(i:Int))=some (.inr (fin i))):zaF body (0,(xs.length:Int))=fin (ze1 lt xs):=by
 have key: ∀n i j:Nat,j-i≤n→i≤ze1 lt xs→ze1 lt xs≤j→j≤xs.length→zaF body ((i:Int),(j:Int))=fin (ze1 lt xs):=by
  intro n
  induction n with
  |zero=>
   intro i j h1 h2 h3 h4
   have:i=j:=by omega
   subst this
   have:i=ze1 lt xs:=by omega
   rw [zay,he i h4,this]
  |succ n ih=>
   intro i j h1 h2 h3 h4
   by_cases hij:i=j
   ·subst hij
    have:i=ze1 lt xs:=by omega
    rw [zay,he i h4,this]
   ·have hlt:(i+j)/2<xs.length:=by omega
    rw [zay,hs i j (by omega) h4 hlt]
    by_cases hc:lt xs[(i+j)/2]=true
    ·rw [if_pos hc]
     refine ih _ _ (by omega) ?_ h3 h4
     by_cases hp:(i+j)/2<ze1 lt xs
     ·omega
     ·have h5:ze1 lt xs<xs.length:=by omega
      have:=zoc h5
      rw [hm _ _ hlt (by omega) hc]at this
      cases this
    ·rw [if_neg hc]
     refine ih _ _ (by omega) h2 ?_ (by omega)
     by_cases hp:(i+j)/2<ze1 lt xs
     ·exact absurd (zph hp) hc
     ·omega
 exact key xs.length 0 xs.length (by omega) (by omega) (zk3 lt xs) (Nat.le_refl _)
theorem znj {α:Type} {key:α→List UInt8} {x:α}: ∀{l:List α},zjo key l→zh8 key x l=(match l[ze1 (fun y=>bl (key y) (key x)) l]? with
  |some y=>if key y=key x then l.set (ze1 (fun y=>bl (key y) (key x)) l) x else l.take (ze1 (fun y=>bl (key y) (key x)) l)++ [x]++l.drop (ze1 (fun y=>bl (key y) (key x)) l)
  |none=>l.take (ze1 (fun y=>bl (key y) (key x)) l)++ [x]++l.drop (ze1 (fun y=>bl (key y) (key x)) l))
 | [],_=>by simp [zh8,ze1]
 |y::l,h=>by
  have h1:=List.pairwise_cons.1 h
  unfold zh8
  by_cases hb:bl (key x) (key y)=true
  ·have e:ze1 (fun z=>bl (key z) (key x)) (y::l)=0:=by unfold ze1;rw [List.takeWhile_cons,if_neg (by rw [znl hb];simp)];rfl
   rw [if_pos hb,e]
   simp [(zjz hb).symm]
  ·rw [if_neg hb]
   by_cases hk:key x=key y
   ·have e:ze1 (fun z=>bl (key z) (key x)) (y::l)=0:=by unfold ze1;rw [List.takeWhile_cons,if_neg (by rw [hk,zcS];simp)];rfl
    rw [if_pos hk,e]
    simp [hk]
   ·have hyx:=zlU (by simpa using hb) hk
    have e:ze1 (fun z=>bl (key z) (key x)) (y::l)=ze1 (fun z=>bl (key z) (key x)) l+1:=by unfold ze1;rw [List.takeWhile_cons,if_pos hyx];rfl
    rw [if_neg hk,e,znj h1.2]
    simp only [List.getElem?_cons_succ]
    split
    ·split<;>simp
    ·simp
theorem zmg {α:Type} {key:α→List UInt8} {x:α} {l:List α} (h:zjo key l) (p:α→Bool):(zh8 key x l).filter p=if p x=true then zh8 key x (l.filter p)else(l.filter p).filter fun y=>decide (key y≠key x):=by
 split
 ·rename_i hp
  refine zjo.ext ((zd7 h).filter p) (zd7 (h.filter p)) fun y=> ?_
  rw [List.mem_filter,zeQ h,zeQ (h.filter p),List.mem_filter]
  constructor
  ·rintro⟨rfl|⟨h1,h2⟩,h3⟩
   ·exact .inl rfl
   ·exact .inr ⟨⟨h1,h3⟩,h2⟩
  ·rintro(rfl|⟨⟨h1,h3⟩,h2⟩)
   ·exact⟨.inl rfl,hp⟩
   ·exact⟨.inr ⟨h1,h2⟩,h3⟩
 ·rename_i hp
  refine zjo.ext ((zd7 h).filter p) ((h.filter p).filter _) fun y=> ?_
  rw [List.mem_filter,zeQ h,List.mem_filter,List.mem_filter]
  simp only [decide_eq_true_eq]
  constructor
  ·rintro⟨rfl|⟨h1,h2⟩,h3⟩
   ·exact absurd h3 hp
   ·exact⟨⟨h1,h3⟩,h2⟩
  ·rintro⟨⟨h1,h3⟩,h2⟩
   exact⟨.inr ⟨h1,h2⟩,h3⟩
end Go.Proofs.Ythgeekoigbihbaa
end
section
namespace Go.Proofs.Ythgeekoigbihbaa
open Go.RowKit
set_option maxRecDepth 100000
theorem zsZ (s:Str):(s !=s)=false:=by simp
def zqJ (a b:Str):Int:=if bl a b=true then-1 else if a=b then 0 else 1
@[simp] theorem zpE (a:Str):zbf a=some false:=by simp [zbf]
@[simp] theorem zrF (a:Int):zbP a=some false:=by simp [zbP]
@[simp] theorem zsP (a b:Str):za0 a b=some (zqJ a b):=by
 unfold za0 zqJ
 simp only [zpE,Option.bind_some,Bool.false_eq_true,if_false]
 by_cases h:bl a b=true
 ·have:Op.bytesLess a b=true:=h
  simp [this]
 ·have h1:Op.bytesLess a b=false:=by simpa using h
  by_cases he:a=b
  ·subst he;simp [h1]
  ·simp [h1,he]
def zt9 (a b:Int):Int:=if a<b then-1 else if a=b then 0 else 1
@[simp] theorem zsj (a b:Int):zbm a b=some (zt9 a b):=by
 unfold zbm zt9
 simp only [zrF,Option.bind_some,Bool.false_eq_true,if_false]
 by_cases h:a<b
 ·simp [h]
 ·by_cases he:a=b
  ·subst he;simp
  ·have:b<a:=by omega
   simp [h,he,this]
theorem zrd {a b:Str}:decide (zqJ a b<0)=bl a b:=by
 unfold zqJ
 cases h:bl a b with
 |true=>simp
 |false=>by_cases he:a=b<;>simp [he]
theorem zrJ {a b:Str}:(zqJ a b==0)=decide (a=b):=by
 unfold zqJ
 cases h:bl a b with
 |true=>simp [zjz h]
 |false=>by_cases he:a=b<;>simp [he]
theorem zsM {i j:Nat} (h:i≤j) (hj:j≤2000000):IntKind.i64.wrap (Int.fdiv (IntKind.u64.wrap (IntKind.i64.wrap ((i:Int)+(j:Int)))) (2^(min ((1:Int)).toNat (IntKind.bits .u64))))=(((i+j)/2:Nat):Int):=by
 have e1:IntKind.i64.wrap ((i:Int)+(j:Int))=((i+j:Nat):Int):=by rw [zbt (by omega) (by omega)];simp
 have e2:IntKind.u64.wrap ((i+j:Nat):Int)=((i+j:Nat):Int):=by
  simp only [IntKind.wrap,IntKind.bits,IntKind.signed]
  simp
  omega
 have e3:(2:Int)^(min ((1:Int)).toNat (IntKind.bits .u64))=((2:Nat):Int):=rfl
 rw [e1,e2,e3,Int.fdiv_eq_ediv_of_nonneg _ (by omega),←Int.natCast_ediv,zbt (by omega) (by omega)]
theorem zsA {i:Nat} (h:i≤2000000):IntKind.i64.wrap ((i:Int)+1)=((i+1:Nat):Int):=by rw [zbt (by omega) (by omega)];simp
abbrev zjc (l:List zab):Prop:=zjo (fun w:zab=>w.fKey) l
abbrev zfg (l:List zab) (k:Str):Nat:=ze1 (fun w:zab=>bl w.fKey k) l
theorem zuf {l:List zab} {k:Str} (hl:l.length≤2000000) (hr:zjc l):zcu l k=some (((zfg l k:Nat):Int),(match l[zfg l k]? with|some w=>decide (w.fKey=k)|none=>false)):=by
 unfold zcu zam
 have hc: ∀w:zab,za5 w k=some (zqJ w.fKey k):=fun w=>by simp [za5]
 have h:=zq5 (xs:=l) (body:=fun s:Int × Int=>zad l k (fun y0_ y1_=>za5 y0_ y1_) s.1 s.2) (fin:=fun i=>zak l k (fun y0_ y1_=>za5 y0_ y1_) i) (fun w:zab=>bl w.fKey k)
  (fun i j hj hi h=>by
   rcases Nat.lt_or_ge i j with hij|hij
   ·exact zdU ((List.pairwise_iff_getElem.1 hr) i j (by omega) hj hij) h
   ·have:i=j:=by omega
    subst this;exact h)
  (fun i j hij hj hmid=>by
   show zad l k _ (i:Int) (j:Int)=_
   unfold zad
   rw [if_pos (by simpa using hij),zsM (by omega) (by omega),zau hmid,Option.bind_some]
   simp only [hc,Option.bind_some,zrd,zsA (show(i+j)/2≤2000000 by omega)]
   cases bl l[(i+j)/2].fKey k<;>rfl)
  (fun i hi=>by
   show zad l k _ (i:Int) (i:Int)=_
   unfold zad
   rw [if_neg (by simp)])
 rw [h]
 unfold zak
 show Option.bind (if decide (((zfg l k:Nat):Int)<l.length)=true then _ else _) _=_
 by_cases hp:zfg l k<l.length
 ·rw [if_pos (by simpa using hp),zau hp,Option.bind_some]
  simp only [hc,Option.bind_some,zrJ,List.getElem?_eq_getElem hp]
 ·rw [if_neg (by simpa using hp),List.getElem?_eq_none (by omega)]
  rfl
theorem znL {l:List zab} {w:zab} (hl:l.length≤2000000) (hr:zjc l):zc1 l w=some (zh8 (fun w:zab=>w.fKey) w l):=by
 unfold zc1
 rw [zuf hl hr,Option.bind_some,znj hr]
 show(if(match l[zfg l w.fKey]? with|some w'=>decide (w'.fKey=w.fKey)|none=>false)=true then _ else _)=_
 have hle:zfg l w.fKey≤l.length:=zk3 _ _
 have hI:zh9 l ((zfg l w.fKey:Nat):Int) [w]=some (l.take (zfg l w.fKey)++ [w]++l.drop (zfg l w.fKey)):=zcB ⟨by omega,by omega,by simp,by simp only [List.length_singleton];omega⟩
 by_cases hp:zfg l w.fKey<l.length
 ·rw [List.getElem?_eq_getElem hp]
  by_cases hk:(l[zfg l w.fKey]).fKey=w.fKey
  ·simp only [hk,decide_true,if_true,zau hp,Option.bind_some]
   rfl
  ·simp only [hk,decide_false,Bool.false_eq_true,if_false]
   rw [hI];rfl
 ·rw [List.getElem?_eq_none (by omega)]
  simp only [Bool.false_eq_true,if_false]
  rw [hI];rfl
theorem zmG (ks:List Str):zie ks=zcm bl ks:=by
 have key: ∀n q,q+n+1=ks.length→(List.range' (q+1) n).all (zcL ks)=zcm bl (ks.drop q):=by
  intro n
  induction n with
  |zero=>
   intro q hq
   rw [List.drop_eq_getElem_cons (show q<ks.length by omega),List.drop_eq_nil_of_le (show ks.length≤q+1 by omega)]
   rfl
  |succ n ih=>
   intro q hq
   rw [List.range'_succ,List.all_cons,ih (q+1) (by omega),ziQ (show q+1<ks.length by omega)]
   congr 1
   unfold zcL
   have hb:(q+1==0)=false:=rfl
   rw [hb,Bool.false_or,Nat.add_sub_cancel,List.getElem?_eq_getElem (show q<ks.length by omega),List.getElem?_eq_getElem (show q+1<ks.length by omega)]
   rfl
 cases ks with
 |nil=>rfl
 |cons k l=>
  unfold zie
  rw [List.length_cons,List.range_eq_range',List.range'_succ,List.all_cons]
  have:=key l.length 0 (by simp)
  rw [List.drop_zero]at this
  rw [Nat.zero_add]at this
  rw [show 0+1=1 from rfl,this]
  rfl
theorem zjM {α β:Type} (f:α→β) (r:β→β→Bool): ∀l:List α,zcm r (l.map f)=zcm (fun a b=>r (f a) (f b)) l
 | []=>rfl
 | [_]=>rfl
 |x::y::l=>by
  have:=zjM f r (y::l)
  simp only [List.map_cons,zcm]at this ⊢
  rw [this]
theorem zi4 {l:List zab} (h:zbd l=true):zjc l:=by
 unfold zbd at h
 simp only [Bool.and_eq_true]at h
 have h1:=h.2.2
 rw [zmG,zjM]at h1
 exact(zlh (r:=fun a b:zab=>bl a.fKey b.fKey) fun a b c p q=>zdU p q).1 h1
end Go.Proofs.Ythgeekoigbihbaa
end
section
namespace Go.Proofs.Ythgeekoigbihbaa
open Go.RowKit
set_option maxRecDepth 100000
def zdI (a b:zaa):Bool:=if a.fTime≠b.fTime then decide (a.fTime<b.fTime)else if a.fGroup≠b.fGroup then decide (a.fGroup<b.fGroup)else bl a.fKey b.fKey
theorem znd (a b:zaa):zcW a b=some (zdI a b):=by
 unfold zcW zdI
 by_cases h:a.fTime=b.fTime<;>by_cases h2:a.fGroup=b.fGroup<;>simp [h,h2]
theorem zrW {a b c:zaa} (h1:zdI a b=true) (h2:zdI b c=true):zdI a c=true:=by
 unfold zdI at*
 by_cases e1:a.fTime=b.fTime
 ·by_cases e2:b.fTime=c.fTime
  ·rw [if_neg (by simpa using e1)]at h1
   rw [if_neg (by simpa using e2)]at h2
   rw [if_neg (by simpa using e1.trans e2)]
   by_cases g1:a.fGroup=b.fGroup
   ·by_cases g2:b.fGroup=c.fGroup
    ·rw [if_neg (by simpa using g1)]at h1
     rw [if_neg (by simpa using g2)]at h2
     rw [if_neg (by simpa using g1.trans g2)]
     exact zdU h1 h2
    ·rw [if_pos g2,decide_eq_true_eq]at h2
     rw [if_pos (by omega),decide_eq_true_eq];omega
   ·rw [if_pos g1,decide_eq_true_eq]at h1
    by_cases g2:b.fGroup=c.fGroup
    ·rw [if_pos (by omega),decide_eq_true_eq];omega
    ·rw [if_pos g2,decide_eq_true_eq]at h2
     rw [if_pos (by omega),decide_eq_true_eq];omega
  ·rw [if_pos e2,decide_eq_true_eq]at h2
   rw [if_pos (by omega),decide_eq_true_eq];omega
 ·rw [if_pos e1,decide_eq_true_eq]at h1
  by_cases e2:b.fTime=c.fTime
  ·rw [if_pos (by omega),decide_eq_true_eq];omega
  ·rw [if_pos e2,decide_eq_true_eq]at h2
   rw [if_pos (by omega),decide_eq_true_eq];omega
theorem zqS (a:zaa):zdI a a=false:=by
 unfold zdI
 simp [zcS]
def ztg (a b:zaa):Int:=if zdI a b=true then-1 else if zdI b a=true then 1 else 0
theorem zrS (a b c:Int):zdN [a,b,c]=some (if a≠0 then a else if b≠0 then b else c):=by
 have hb: ∀i:Nat,(h:i<3)→zbO [a,b,c] i=if([a,b,c]:List Int)[i]≠0 then some (.inr (some ([a,b,c]:List Int)[i]))else some (.inl ((i+1:Nat):Int)):=by
  intro i h
  unfold zbO
  rw [if_pos (by simp;omega),zau (by simpa using h),Option.bind_some,zdV h (by omega)]
  by_cases hz:([a,b,c]:List Int)[i]=0<;>simp [hz]
 have h3:zbO [a,b,c] ((3:Nat):Int)=some (.inr (some 0)):=by unfold zbO;rw [if_neg (by simp)]
 unfold zdN
 rw [zay,show(0:Int)=((0:Nat):Int)from rfl,hb 0 (by omega)]
 by_cases ha:a=0
 ·rw [if_neg (by simpa using ha),if_neg (by simpa using ha)]
  show zaF _ ((1:Nat):Int)=_
  rw [zay,hb 1 (by omega)]
  by_cases hb':b=0
  ·rw [if_neg (by simpa using hb'),if_neg (by simpa using hb')]
   show zaF _ ((2:Nat):Int)=_
   rw [zay,hb 2 (by omega)]
   by_cases hc:c=0
   ·rw [if_neg (by simpa using hc)]
    show zaF _ ((3:Nat):Int)=_
    rw [zay,h3];simp [hc]
   ·rw [if_pos (by simpa using hc)];rfl
  ·rw [if_pos (by simpa using hb'),if_pos (by simpa using hb')];rfl
 ·rw [if_pos (by simpa using ha),if_pos (by simpa using ha)];rfl
theorem zsI (a b:zaa):zbI a b=some (ztg a b):=by
 unfold zbI
 simp only [zsj,zsP,Option.bind_some,zrS]
 unfold ztg zdI zt9 zqJ
 congr 1
 rcases Int.lt_trichotomy a.fTime b.fTime with h|h|h
 ·have h1: ¬a.fTime=b.fTime:=by omega
  simp [h,h1]
 ·have h2:=h.symm
  rcases Int.lt_trichotomy a.fGroup b.fGroup with g|g|g
  ·have g1: ¬a.fGroup=b.fGroup:=by omega
   simp [h,g,g1]
  ·have g2:=g.symm
   rcases zoV a.fKey b.fKey with k|k|k
   ·simp [h,g,k]
   ·simp [h,g,k,zcS]
   ·have k1:=znl k
    have k2: ¬a.fKey=b.fKey:=fun e=>zjz k e.symm
    simp [h,g,k,k1,k2]
  ·have g1: ¬a.fGroup=b.fGroup:=by omega
   have g2: ¬b.fGroup=a.fGroup:=by omega
   have g3: ¬a.fGroup<b.fGroup:=by omega
   simp [h,g,g1,g2,g3]
 ·have h1: ¬a.fTime=b.fTime:=by omega
  have h2: ¬b.fTime=a.fTime:=by omega
  have h3: ¬a.fTime<b.fTime:=by omega
  simp [h,h1,h2,h3]
theorem zrN (a b:zaa):decide (ztg a b≥0)= !zdI a b:=by
 unfold ztg
 cases zdI a b with
 |true=>simp
 |false=>cases zdI b a<;>simp
def zbW (c:zaa):Bool:=inB c.fTime 1 100000&&(inB c.fGroup 0 3&&(zbG c.fKey&&zfc c.fVal c.fGone))
def zei (l:List zaa):Bool:=decide ((l.length:Int)≤400)&&(l.all zbW&&zcm zdI l)
def zq2 (c:zaa):Prop:=c.fKey.length≤2000000∧c.fVal.length≤2000000
def zhy (l:List zaa):Prop:=l.length≤2000000∧ ∀c∈l,zq2 c
theorem zkV {c:zaa} (h:zq2 c):zdt c=some (zbW c):=by
 unfold zdt zbW
 simp only [zlq,Option.bind_some,zm5 h.1 h.2]
 cases inB c.fTime 1 100000<;>cases inB c.fGroup 0 3<;>simp
theorem zrs {c:zaa} (h:zq2 c):zcR c=some (zbW c):=by
 unfold zcR zbW zeL zel
 simp only [zhY,Option.bind_some,zqK h.1,zlp h.2]
 cases inB c.fTime 1 100000<;>cases inB c.fGroup 0 3<;>cases zbG c.fKey<;>simp
theorem zpO {l:List zaa} (h:l.length≤2000000):zdT l=some (decide ((l.length:Int)≤400)&&zcm zdI l):=by
 unfold zdT
 rw [zkZ (xs:=l) (body:=fun s:Int=>za8 l s) (fun _=>true) zdI false (zdF l) (fun h0=> ?_) (fun i hi=> ?_) (by simp [za8])]
 ·unfold zdF
  cases zcm zdI l<;>simp
 ·show za8 l 0=_
  unfold za8
  rw [if_pos (by simpa using h0),if_neg (by simp)]
  rfl
 ·show za8 l ((i+1:Nat):Int)=_
  unfold za8
  rw [if_pos (by simp;omega),if_pos (by simp),ziv (by omega) (by omega),Nat.add_sub_cancel,zau (show i<l.length by omega),Option.bind_some,zau hi,Option.bind_some,zsI,Option.bind_some,zrN,zdV hi (by omega)]
  cases zdI l[i] l[i+1]<;>rfl
theorem zrn {l:List zaa} (h:zhy l):zcM l=some (zei l):=by
 unfold zcM zei
 rw [zpO h.1,Option.bind_some,zkg (fun c=> !zbW c) (fun c hc=>by simp [zdh,zrs (h.2 c hc)]) (by have:=h.1;omega)]
 rw [←List.not_all_eq_any_not]
 cases decide ((l.length:Int)≤400)<;>cases zcm zdI l<;>cases l.all zbW<;>rfl
theorem zrv {l:List zaa} (h:zhy l):zdp l=some (zei l):=by
 have hn:=h.1
 unfold zdp zei
 by_cases hl:(l.length:Int)≤400
 ·rw [zkZ (xs:=l) (body:=fun s:Int=>zao l s) zbW zdI false (zbx l) (fun h0=> ?_) (fun i hi=> ?_) (by simp [zao])]
  ·unfold zbx
   cases l.all zbW<;>cases zcm zdI l<;>simp [hl]
  ·show zao l 0=_
   unfold zao
   rw [if_pos (by simpa using h0),show(0:Int)=((0:Nat):Int)from rfl,zau h0,Option.bind_some,zkV (h.2 _ (List.getElem_mem h0)),Option.bind_some,if_neg (by simp)]
   cases zbW l[0]<;>rfl
  ·show zao l ((i+1:Nat):Int)=_
   unfold zao
   rw [if_pos (by simp;omega),zau hi,Option.bind_some,zkV (h.2 _ (List.getElem_mem hi)),Option.bind_some,if_pos (by simp),ziv (by omega) (by omega),Nat.add_sub_cancel,zau (show i<l.length by omega),Option.bind_some,znd,Option.bind_some,zdV hi (by omega)]
   cases zbW l[i+1]<;>cases zdI l[i] l[i+1]<;>rfl
 ·have ht:=zkZ (xs:=l.take 401) (body:=fun s:Int=>zao l s) zbW zdI false (zbx l) (fun h0=> ?_) (fun i hi=> ?_) (by
   have:(l.take 401).length=401:=by rw [List.length_take];omega
   rw [this]
   simp [zao])
  ·rw [ht]
   unfold zbx
   simp [hl]
  ·show zao l 0=_
   have h1:0<l.length:=by omega
   unfold zao
   rw [if_pos (by simpa using h1),show(0:Int)=((0:Nat):Int)from rfl,zau h1,Option.bind_some,zkV (h.2 _ (List.getElem_mem h1)),Option.bind_some,if_neg (by simp),List.getElem_take]
   cases zbW l[0]<;>rfl
  ·show zao l ((i+1:Nat):Int)=_
   have hi0:i+1<401:=by rw [List.length_take]at hi;omega
   have hi:i+1<l.length:=by omega
   unfold zao
   rw [if_pos (by simp;omega),zau hi,Option.bind_some,zkV (h.2 _ (List.getElem_mem hi)),Option.bind_some,if_pos (by simp),ziv (by omega) (by omega),Nat.add_sub_cancel,zau (show i<l.length by omega),Option.bind_some,znd,Option.bind_some,zdV hi (by omega),List.getElem_take,List.getElem_take]
   cases zbW l[i+1]<;>cases zdI l[i] l[i+1]<;>rfl
def zcw (d:zbq):Bool:=inB d.fFrom 0 100000&&(inB d.fTo 0 100000&&(decide (d.fFrom≤d.fTo)&&(decide ((d.fList.length:Int)≤60)&&(zei d.fList&&d.fList.all fun c=> !((c.fGroup !=0||decide (c.fTime≤d.fFrom))||decide (c.fTime>d.fTo))))))
theorem zrh {d:zbq} (h:zhy d.fList):zcY d=some (zcw d):=by
 unfold zcY zck zcw
 simp only [zhY,Option.bind_some,zrn h]
 have e1:zaE d.fList (fun y0_=>zc7 y0_ d)=some (d.fList.any fun c=>((c.fGroup !=0||decide (c.fTime≤d.fFrom))||decide (c.fTime>d.fTo))):=zkg _ (fun c _=>rfl) (by have:=h.1;omega)
 rw [e1,List.any_eq_not_all_not]
 generalize (d.fList.all fun x=> !((x.fGroup !=0||decide (x.fTime≤d.fFrom))||decide (x.fTime>d.fTo)))=b
 cases inB d.fFrom 0 100000<;>cases inB d.fTo 0 100000<;>cases decide (d.fFrom≤d.fTo)<;>cases decide ((d.fList.length:Int)≤60)<;>cases zei d.fList<;>cases b<;>rfl
theorem zrV {d:zbq} (h:zhy d.fList) (hf: -9223372036854775808≤d.fFrom∧d.fFrom≤9223372036854775807):zdl d=some (zcw d):=by
 have hn:=h.1
 unfold zdl
 rw [zhZ (xs:=d.fList) (fun c=> !(c.fGroup !=0)&&inB c.fTime (IntKind.i64.wrap (d.fFrom+1)) d.fTo) false (zci d) (fun i hi=>by
  show zcj d i=_
  unfold zcj
  rw [if_pos (by simpa using hi),zau hi,Option.bind_some,zlq,Option.bind_some,zdV hi (by omega)]
  cases(d.fList[i].fGroup !=0)<;>cases inB d.fList[i].fTime (IntKind.i64.wrap (d.fFrom+1)) d.fTo<;>rfl) (by simp [zcj])]
 have hk:zci d=some (inB d.fFrom 0 d.fTo&&(decide (d.fTo≤100000)&&(decide ((d.fList.length:Int)≤60)&&zei d.fList))):=by
  unfold zci
  simp only [zlq,Option.bind_some,zrv h]
  cases inB d.fFrom 0 d.fTo<;>cases decide (d.fTo≤100000)<;>cases decide ((d.fList.length:Int)≤60)<;>rfl
 rw [hk]
 by_cases hg:inB d.fFrom 0 d.fTo=true∧d.fTo≤100000
 ·obtain⟨g1,g2⟩:=hg
  have g3:=zeX.1 g1
  have e1:IntKind.i64.wrap (d.fFrom+1)=d.fFrom+1:=zbt (by omega) (by omega)
  have e2:inB d.fFrom 0 100000=true:=zeX.2 ⟨by omega,by omega⟩
  have e3:inB d.fTo 0 100000=true:=zeX.2 ⟨by omega,by omega⟩
  have e4:(d.fList.all fun c=> !(c.fGroup !=0)&&inB c.fTime (IntKind.i64.wrap (d.fFrom+1)) d.fTo)=d.fList.all fun c=> !((c.fGroup !=0||decide (c.fTime≤d.fFrom))||decide (c.fTime>d.fTo)):=by
   congr 1
   funext c
   rw [e1]
   unfold inB
   have q1:decide (c.fTime≥d.fFrom+1)= !decide (c.fTime≤d.fFrom):=by rw [←decide_not,decide_eq_decide];omega
   have q2:decide (c.fTime≤d.fTo)= !decide (c.fTime>d.fTo):=by rw [←decide_not,decide_eq_decide];omega
   rw [q1,q2]
   cases(c.fGroup !=0)<;>cases decide (c.fTime≤d.fFrom)<;>cases decide (c.fTime>d.fTo)<;>rfl
  rw [e4]
  unfold zcw
  rw [e2,e3,g1]
  simp only [g2,decide_true,Bool.true_and,show d.fFrom≤d.fTo from g3.2]
  cases(d.fList.all fun c=> !((c.fGroup !=0||decide (c.fTime≤d.fFrom))||decide (c.fTime>d.fTo)))<;>simp
 ·have e1:zcw d=false:=by
   cases hd:zcw d with
   |false=>rfl
   |true=>
    unfold zcw at hd
    simp only [Bool.and_eq_true,decide_eq_true_eq]at hd
    have h1:=zeX.1 hd.1
    have h2:=zeX.1 hd.2.1
    exact absurd ⟨zeX.2 ⟨h1.1,hd.2.2.1⟩,h2.2⟩ hg
  rw [e1]
  have e2:(inB d.fFrom 0 d.fTo&&(decide (d.fTo≤100000)&&(decide ((d.fList.length:Int)≤60)&&zei d.fList)))=false:=by
   cases hb:inB d.fFrom 0 d.fTo with
   |false=>rfl
   |true=>
    have: ¬d.fTo≤100000:=fun h=>hg ⟨hb,h⟩
    simp [this]
  rw [e2]
  split<;>rfl
def za6 (c:zaP):Bool:=inB c.fTime 0 100000&&(zeW c.fRows&&(decide (c.fTime>0)||(c.fRows.length:Int)==0))
theorem zoK {c:zaP} (h:zeY c.fRows):zb4 c=some (za6 c):=by
 unfold zb4 zck za6
 simp only [zhY,Option.bind_some,zrx h]
 cases inB c.fTime 0 100000<;>rfl
theorem zpm {c:zaP} (h:zeY c.fRows):zct c=some (za6 c):=by
 have hn:=h.1
 unfold zct
 rw [zhZ (xs:=c.fRows) (fun w=> !w.fGone) false (zc8 c) (fun i hi=>by
  show zce c i=_
  unfold zce
  rw [if_pos (by simpa using hi),zau hi,Option.bind_some,zdV hi (by omega)]
  cases c.fRows[i].fGone<;>rfl) (by simp [zce])]
 unfold zc8 za6 zeW
 simp only [zlq,Option.bind_some,zpe h]
 cases inB c.fTime 0 100000<;>cases zbd c.fRows<;>cases(c.fRows.all fun w=> !w.fGone)<;>simp
end Go.Proofs.Ythgeekoigbihbaa
end
section
namespace Go.Proofs.Ythgeekoigbihbaa
open Go.RowKit
set_option maxRecDepth 100000
abbrev zqZ:zab→Str:=fun w=>w.fKey
def wOf (c:zaa):zab:=⟨c.fKey,c.fVal,c.fGone⟩
def doW (rows:List zab) (c:zaa):List zab:=if c.fGone=true then rows.filter (fun w=>decide (w.fKey≠c.fKey))else zh8 zqZ ⟨c.fKey,c.fVal,false⟩ rows
def ze6 (c:zaa) (s:Bool × List zab) (r:zab):Bool × List zab:=
 let s':=if(!s.1&&(bl c.fKey r.fKey||c.fKey==r.fKey))=true then(true,s.2++ [⟨c.fKey,c.fVal,false⟩])else s
 if(r.fKey !=c.fKey)=true then(s'.1,s'.2++ [r])else s'
def zqG (c:zaa) (s:Bool × List zab):List zab:=if s.1=true then s.2 else s.2++ [⟨c.fKey,c.fVal,false⟩]
theorem zoj (c:zaa) (s:Bool × List zab) (r:zab):(ze6 c s r).2.length≤s.2.length+2:=by
 unfold ze6
 by_cases h1:(!s.1&&(bl c.fKey r.fKey||c.fKey==r.fKey))=true<;>by_cases h2:(r.fKey !=c.fKey)=true<;>simp only [h1,h2,if_true,if_false,List.length_append,List.length_singleton,Bool.false_eq_true]<;>omega
theorem zq4 {rows:List zab} {c:zaa} (h:rows.length≤2000000):zdD rows c=some (zqG c (rows.foldl (ze6 c) (c.fGone, []))):=by
 unfold zdD
 have hj: ∀(i:Nat) (hi:i<rows.length) (dn:Bool) (o:List zab),o.length≤3*rows.length+1→zb2 rows c i dn o=some (.inl (dn,((i+1:Nat):Int),if(rows[i].fKey !=c.fKey)=true then o++ [rows[i]]else o)):=by
  intro i hi dn o ho
  unfold zb2
  rw [zau hi,Option.bind_some,zdV hi (by omega)]
  by_cases hk:(rows[i].fKey !=c.fKey)=true
  ·rw [if_pos hk,if_pos hk,zcB (by rw [List.length_singleton];omega)]
  ·rw [if_neg hk,if_neg hk]
 have h1:=zfr (xs:=rows) (body:=fun s:Bool × Int × List zab=>zbD rows c s.1 s.2.1 s.2.2) (fun i (s:Bool × List zab)=>(s.1,i,s.2)) (ze6 c) (fun s=>some (zqG c s)) (fun i s=>s.2.length≤2*i)
  (fun i hi s hI=>by
   refine⟨?_,Nat.le_trans (zoj c s rows[i]) (by omega)⟩
   obtain⟨dn,o⟩:=s
   have hI:o.length≤2*i:=hI
   show zbD rows c dn i o=_
   unfold zbD
   rw [if_pos (by simpa using hi)]
   cases dn with
   |true=>
    rw [if_pos rfl,hj i hi _ _ (by omega)]
    unfold ze6
    cases(rows[i].fKey !=c.fKey)<;>simp
   |false=>
    rw [if_neg (by simp),zau hi,Option.bind_some]
    by_cases hb:(bl c.fKey rows[i].fKey||c.fKey==rows[i].fKey)=true
    ·rw [if_pos hb,zcB (by rw [List.length_singleton];omega),hj i hi _ _ (by simp only [List.length_append,List.length_singleton];omega)]
     unfold ze6
     rw [hb]
     cases(rows[i].fKey !=c.fKey)<;>simp
    ·rw [if_neg hb,hj i hi _ _ (by omega)]
     unfold ze6
     rw [Bool.not_eq_true]at hb
     rw [hb]
     cases(rows[i].fKey !=c.fKey)<;>simp)
  (fun s hI=>by
   obtain⟨dn,o⟩:=s
   have hI:o.length≤2*rows.length:=hI
   show zbD rows c dn rows.length o=_
   unfold zbD
   rw [if_neg (by simp)]
   unfold ze3 zqG
   cases dn with
   |true=>rfl
   |false=>rw [if_pos (show(!false)=true from rfl),zcB (by rw [List.length_singleton];omega)];rfl) (s:=(c.fGone, [])) (by simp)
 exact h1.1
theorem zfv (c:zaa): ∀(rows o:List zab),rows.foldl (ze6 c) (true,o)=(true,o++rows.filter (fun w=>decide (w.fKey≠c.fKey)))
 | [],o=>by simp
 |r::rows,o=>by
  rw [List.foldl_cons]
  have e:ze6 c (true,o) r=(true,if(r.fKey !=c.fKey)=true then o++ [r]else o):=by unfold ze6;cases(r.fKey !=c.fKey)<;>simp
  rw [e,zfv c rows,List.filter_cons]
  by_cases hk:r.fKey=c.fKey<;>simp [hk]
theorem zlY {c:Str} {rows:List zab} (h: ∀w∈rows,bl c w.fKey=true):rows.filter (fun w=>decide (w.fKey≠c))=rows:=by
 rw [List.filter_eq_self]
 intro w hw
 simpa using(zjz (h w hw)).symm
theorem zlg (c:zaa): ∀(rows o:List zab),zjc rows→zqG c (rows.foldl (ze6 c) (false,o))=o++zh8 zqZ ⟨c.fKey,c.fVal,false⟩ rows
 | [],o,_=>by simp [zqG,zh8]
 |r::rows,o,h=>by
  have h1:=List.pairwise_cons.1 h
  rw [List.foldl_cons]
  unfold zh8
  show _=o++(if bl c.fKey r.fKey=true then _ else if c.fKey=r.fKey then _ else _)
  by_cases hb:bl c.fKey r.fKey=true
  ·have e:ze6 c (false,o) r=(true,o++ [⟨c.fKey,c.fVal,false⟩]++ [r]):=by
    unfold ze6
    have:(r.fKey !=c.fKey)=true:=by simpa using(zjz hb).symm
    simp [hb,this]
   rw [if_pos hb,e,zfv,zqG,if_pos rfl,zlY fun w hw=>zdU hb (h1.1 w hw)]
   simp
  ·rw [if_neg hb]
   by_cases hk:c.fKey=r.fKey
   ·have e:ze6 c (false,o) r=(true,o++ [⟨c.fKey,c.fVal,false⟩]):=by
     unfold ze6
     simp [hk]
    rw [if_pos hk,e,zfv,zqG,if_pos rfl,hk,zlY fun w hw=>h1.1 w hw]
    simp
   ·have e:ze6 c (false,o) r=(false,o++ [r]):=by
     unfold ze6
     have h2:(r.fKey !=c.fKey)=true:=by simpa using fun e=>hk e.symm
     have h3:bl c.fKey r.fKey=false:=by simpa using hb
     simp [hk,h2,h3]
    rw [if_neg hk,e,zlg c rows _ h1.2]
    simp
theorem zpI {rows:List zab} {c:zaa} (h:rows.length≤2000000) (hr:zjc rows):zdD rows c=some (doW rows c):=by
 rw [zq4 h]
 unfold doW
 cases hg:c.fGone with
 |true=>rw [zfv];simp [zqG]
 |false=>rw [zlg c rows [] hr];simp
theorem zp1 {rows:List zab} {c:zaa} (h:zjc rows):zjc (doW rows c):=by
 unfold doW
 split
 ·exact zjo.filter h _
 ·exact zd7 h
theorem zro (rows:List zab) (c:zaa):(doW rows c).length≤rows.length+1:=by
 unfold doW
 split
 ·exact Nat.le_trans (List.length_filter_le _ _) (by omega)
 ·exact zkS rows
theorem zq7 {rows:List zab} {c:zaa} (h:zjc rows) (w:zab) (hw:w∈doW rows c):w∈rows∨w=⟨c.fKey,c.fVal,false⟩:=by
 unfold doW at hw
 split at hw
 ·exact .inl (List.mem_filter.1 hw).1
 ·rcases(zeQ (key:=zqZ) h w).1 hw with h|h
  ·exact .inr h
  ·exact .inl h.1
theorem zpZ {l:List zab} {c:zaa} (h:zjc l):(zh8 zqZ (wOf c) l).filter (fun w=> !w.fGone)=doW (l.filter fun w=> !w.fGone) c:=by
 rw [zmg h]
 unfold doW wOf
 cases c.fGone<;>simp
theorem zlK: ∀(cs:List zaa) {l:List zab},zjc l→(cs.foldl (fun o c=>zh8 zqZ (wOf c) o) l).filter (fun w=> !w.fGone)=cs.foldl doW (l.filter fun w=> !w.fGone)
 | [],_,_=>rfl
 |c::cs,l,h=>by
  rw [List.foldl_cons,List.foldl_cons,zlK cs (zd7 h),zpZ h]
structure zsh (n:Nat) (l:List zab):Prop where
 rise:zjc l
 len:l.length≤n
 tiny: ∀w∈l,w.fKey.length≤2000000∧w.fVal.length≤2000000
theorem zsh.small {n:Nat} {l:List zab} (h:zsh n l) (hn:n≤2000000):zeY l:=⟨by have:=h.len;omega,h.tiny⟩
def zeT (c:zaP) (d:zbq):zaP × Bool:=
 if za6 c&&(zcw d&&d.fFrom==c.fTime)then
  (let o:zaP:=⟨d.fTo,d.fList.foldl doW c.fRows⟩
   if za6 o then(o,true)else(⟨0, []⟩,false))
 else(⟨0, []⟩,false)
theorem zlG {c:zaP} (hw:zeY c.fRows) (h:za6 c=true):zsh 24 c.fRows∧c.fRows.filter (fun w=> !w.fGone)=c.fRows:=by
 unfold za6 zeW at h
 simp only [Bool.and_eq_true]at h
 have h1:=h.2.1.1
 refine⟨⟨zi4 h1, ?_,hw.2⟩, ?_⟩
 ·unfold zbd at h1
  simp only [Bool.and_eq_true,decide_eq_true_eq]at h1
  omega
 ·rw [List.filter_eq_self]
  exact fun w hw=>List.all_eq_true.1 h.2.1.2 w hw
theorem zmS {d:zbq} (h:zcw d=true):d.fList.length≤60:=by
 unfold zcw at h
 simp only [Bool.and_eq_true,decide_eq_true_eq]at h
 omega
theorem znN {c:zaP} {d:zbq} (hw:zeY c.fRows) (hd:zhy d.fList) (hf: -9223372036854775808≤d.fFrom∧d.fFrom≤9223372036854775807):zdk c d=some (zeT c d):=by
 unfold zdk zeT
 rw [zpm hw,Option.bind_some]
 cases hc:za6 c with
 |false=>rfl
 |true=>
  rw [if_pos rfl,zrV hd hf,Option.bind_some]
  cases hg:zcw d with
  |false=>rfl
  |true=>
   by_cases he:d.fFrom=c.fTime
   ·have e1:(d.fFrom !=c.fTime)=false:=by simpa using he
    have e2:(d.fFrom==c.fTime)=true:=by simpa using he
    obtain⟨hk,_⟩:=zlG hw hc
    have hl:=zmS hg
    rw [e1,e2,if_neg (by simp),zcB (by have:=hk.len;simp only [List.length_nil];omega)]
    have h1:=zfr (xs:=d.fList) (body:=fun s:Int × List zab=>zaX d s.1 s.2) (fun i (o:List zab)=>(i,o)) doW (fun o=>zdj d o) (fun i o=>zsh (24+i) o)
     (fun i hi o hI=>by
      refine⟨?_,⟨zp1 hI.rise,Nat.le_trans (zro _ _) (by have:=hI.len;omega),fun w hw=> ?_⟩⟩
      ·show zaX d i o=_
       unfold zaX
       rw [if_pos (by simpa using hi),zau hi,Option.bind_some,zpI (by have:=hI.len;omega) hI.rise,Option.bind_some,zdV hi (by omega)]
      ·rcases zq7 hI.rise w hw with h|rfl
       ·exact hI.tiny w h
       ·exact hd.2 _ (List.getElem_mem hi))
     (fun o hI=>by
      show zaX d d.fList.length o=_
      unfold zaX
      rw [if_neg (by simp)]) (s:=c.fRows) ⟨hk.rise,by have:=hk.len;omega,hk.tiny⟩
    rw [show(fun s:Int × List zab=>zaX d s.1 s.2)=_ from rfl,h1.1]
    unfold zdj
    rw [zpm (h1.2.small (by omega)),Option.bind_some]
    show(if(!za6 ⟨d.fTo,d.fList.foldl doW c.fRows⟩)=true then _ else _)=some (if za6 ⟨d.fTo,d.fList.foldl doW c.fRows⟩=true then _ else _)
    cases za6 ⟨d.fTo,d.fList.foldl doW c.fRows⟩<;>rfl
   ·have e1:(d.fFrom !=c.fTime)=true:=by simpa using he
    have e2:(d.fFrom==c.fTime)=false:=by simpa using he
    rw [e1,e2];rfl
theorem znx {c:zaP} {d:zbq} (hw:zeY c.fRows) (hd:zhy d.fList):zcp c d=some (zeT c d):=by
 unfold zcp zeT
 rw [zoK hw,Option.bind_some]
 cases hc:za6 c with
 |false=>rfl
 |true=>
  rw [if_pos rfl,zrh hd,Option.bind_some]
  cases hg:zcw d with
  |false=>rfl
  |true=>
   by_cases he:d.fFrom=c.fTime
   ·have e1:(d.fFrom !=c.fTime)=false:=by simpa using he
    have e2:(d.fFrom==c.fTime)=true:=by simpa using he
    obtain⟨hk,hfl⟩:=zlG hw hc
    have hl:=zmS hg
    have hcl:zaB c.fRows=some c.fRows:=zpY (by have:=hk.len;omega) (by have:=hk.len;omega)
    rw [e1,e2,if_neg (by simp),hcl,Option.bind_some]
    have h1:=zfr (xs:=d.fList) (body:=fun s:Int × List zab=>zbe d s.1 s.2) (fun i (o:List zab)=>(i,o)) (fun o c=>zh8 zqZ (wOf c) o) (fun o=>zdi d o) (fun i o=>zsh (24+i) o)
     (fun i hi o hI=>by
      refine⟨?_,⟨zd7 hI.rise,Nat.le_trans (zkS _) (by have:=hI.len;omega),fun w hw=> ?_⟩⟩
      ·show zbe d i o=_
       unfold zbe
       rw [if_pos (by simpa using hi),zau hi,Option.bind_some,znL (by have:=hI.len;omega) hI.rise,Option.bind_some,zdV hi (by omega)]
       rfl
      ·rcases(zeQ (key:=zqZ) hI.rise w).1 hw with rfl|h
       ·exact hd.2 _ (List.getElem_mem hi)
       ·exact hI.tiny w h.1)
     (fun o hI=>by
      show zbe d d.fList.length o=_
      unfold zbe
      rw [if_neg (by simp)]) (s:=c.fRows) ⟨hk.rise,by have:=hk.len;omega,hk.tiny⟩
    rw [h1.1]
    have hK:=h1.2
    generalize hR:d.fList.foldl (fun o c=>zh8 zqZ (wOf c) o) c.fRows=R at hK
    have hS:R.filter (fun w=> !w.fGone)=d.fList.foldl doW c.fRows:=by rw [←hR,zlK _ hk.rise,hfl]
    unfold zdi zef
    rw [zcB (by have:=hK.len;omega),zjX (p:=fun y0_=>zdJ y0_) (fun w:zab=>w.fGone) (fun w _=>rfl),Option.bind_some,hS]
    have hsm:zeY (d.fList.foldl doW c.fRows):=by
     rw [←hS]
     exact⟨Nat.le_trans (List.length_filter_le _ _) (by have:=hK.len;omega),fun w hw=>hK.tiny w (List.mem_filter.1 hw).1⟩
    rw [zoK hsm,Option.bind_some]
    show(if(!za6 ⟨d.fTo,d.fList.foldl doW c.fRows⟩)=true then _ else _)=some (if za6 ⟨d.fTo,d.fList.foldl doW c.fRows⟩=true then _ else _)
    cases za6 ⟨d.fTo,d.fList.foldl doW c.fRows⟩<;>rfl
   ·have e1:(d.fFrom !=c.fTime)=true:=by simpa using he
    have e2:(d.fFrom==c.fTime)=false:=by simpa using he
    rw [e1,e2];rfl
theorem zqa {c:zaP} {d:zbq}:(zeT c d).1.fRows.length≤24:=by
 unfold zeT
 split
 ·show(if za6 ⟨d.fTo,d.fList.foldl doW c.fRows⟩=true then((⟨d.fTo,d.fList.foldl doW c.fRows⟩,true):zaP × Bool)else(⟨0, []⟩,false)).1.fRows.length≤24
  split
  ·rename_i h
   unfold za6 zeW zbd at h
   simp only [Bool.and_eq_true,decide_eq_true_eq]at h
   have:=h.2.1.1.1
   show(d.fList.foldl doW c.fRows).length≤24
   omega
  ·simp
 ·simp
end Go.Proofs.Ythgeekoigbihbaa
end
section
namespace Go.Proofs.Ythgeekoigbihbaa
open Go.RowKit
set_option maxRecDepth 100000
theorem zpr {σ α:Type} {body:σ→Option (σ ⊕ Option α)} {s:σ} {o:Option α} (h:body s=some (.inr o)):zaF body s=o:=by rw [zay,h]
theorem zo9 {σ α:Type} {body:σ→Option (σ ⊕ Option α)} {s s':σ} (h:body s=some (.inl s')):zaF body s=zaF body s':=by rw [zay,h]
theorem szL {α:Type} {xs:List α} {body:Int × Int→Option ((Int × Int) ⊕ Option Int)} (tot:α→Nat) {a:Int} (h0:0≤a) (h1:a≤1048576)
  (hs: ∀x∈xs,∀b:Int,0≤b→b≤1048576→ ∃v,v≤b∧(0≤v→(tot x:Int)=b-v)∧ ∀i:Nat,xs[i]?=some x→body (b,(i:Int))=some (if v<0 then .inr (some (-1))else .inl (v,((i+1:Nat):Int))))
  (he: ∀b,body (b,(xs.length:Int))=some (.inr (some b))): ∃v,zaF body (a,0)=some v∧v≤a∧(0≤v→((xs.map tot).sum:Int)=a-v):=by
 have key: ∀(n q:Nat) (a:Int),q+n=xs.length→0≤a→a≤1048576→ ∃v,zaF body (a,(q:Int))=some v∧v≤a∧(0≤v→(((xs.drop q).map tot).sum:Int)=a-v):=by
  intro n
  induction n with
  |zero=>
   intro q a hq h0 h1
   refine⟨a, ?_,by omega,fun _=> ?_⟩
   ·rw [zay,show(q:Int)=(xs.length:Int) by omega,he]
   ·rw [List.drop_eq_nil_of_le (by omega)];simp
  |succ n ih=>
   intro q a hq h0 h1
   have hlt:q<xs.length:=by omega
   obtain⟨v,e1,e2,e3⟩:=hs xs[q] (List.getElem_mem hlt) a h0 h1
   rw [zay,e3 q (List.getElem?_eq_getElem hlt)]
   by_cases hv:v<0
   ·rw [if_pos hv]
    exact⟨-1,rfl,by omega,by omega⟩
   ·rw [if_neg hv]
    obtain⟨u,f1,f2,f3⟩:=ih (q+1) v (by omega) (by omega) (by omega)
    refine⟨u,f1,by omega,fun hu=> ?_⟩
    have g1:=f3 hu
    have g2:=e2 (by omega)
    rw [List.drop_eq_getElem_cons hlt,List.map_cons,List.sum_cons]
    omega
 have:=key xs.length 0 a (by omega) h0 h1
 simpa using this
theorem zgr {α:Type} {tot:α→Nat}: ∀{xs:List α} {x:α},x∈xs→tot x≤(xs.map tot).sum
 |y::xs,x,h=>by
  rw [List.map_cons,List.sum_cons]
  rcases List.mem_cons.1 h with rfl|h
  ·omega
  ·have:=zgr (tot:=tot) h;omega
theorem zrg {α:Type} {cnt:α→Nat} {mb:Int × Int × List α→Option ((Int × Int × List α) ⊕ Option (Int × List α))} {hb:List α→Int × Int→Option ((Int × Int) ⊕ Option Int)} (B:Int) {xs:List α} {k:Int} (h0:0≤k) (hB:k+((xs.map cnt).sum:Nat)≤B)
  (hs: ∀x∈xs,∀k:Int,0≤k→k+cnt x≤B→ ∃y,(∀(i:Nat) (v:List α),v[i]?=some x→i<xs.length→mb (k,(i:Int),v)=some (.inl (k+cnt x,((i+1:Nat):Int),v.set i y)))∧ ∀(i:Nat) (ys:List α),ys[i]?=some y→i<xs.length→hb ys (k,(i:Int))=some (.inl (k+cnt x,((i+1:Nat):Int))))
  (he: ∀k v,v.length=xs.length→mb (k,(xs.length:Int),v)=some (.inr (some (k,v)))) (hh: ∀k ys,ys.length=xs.length→hb ys (k,(xs.length:Int))=some (.inr (some k))):
  ∃ys,ys.length=xs.length∧zaF mb (k,0,xs)=some (k+((xs.map cnt).sum:Nat),ys)∧zaF (hb ys) (k,0)=some (k+((xs.map cnt).sum:Nat)):=by
 have key: ∀(suf pre:List α) (k:Int),pre.length+suf.length=xs.length→(∀x∈suf,x∈xs)→0≤k→k+((suf.map cnt).sum:Nat)≤B→
   ∃suf':List α,suf'.length=suf.length∧zaF mb (k,(pre.length:Int),pre++suf)=some (k+((suf.map cnt).sum:Nat),pre++suf')∧zaF (hb (pre++suf')) (k,(pre.length:Int))=some (k+((suf.map cnt).sum:Nat)):=by
  intro suf
  induction suf with
  |nil=>
   intro pre k hl _ _ _
   have hl':(pre.length:Int)=(xs.length:Int):=by simp at hl;omega
   have hl2:pre.length=xs.length:=by omega
   refine⟨[],rfl, ?_, ?_⟩
   ·rw [zay,hl',he _ _ (by simpa using hl2)];simp
   ·rw [zay,hl',hh _ _ (by simpa using hl2)];simp
  |cons x t ih=>
   intro pre k hl hm h0 hb'
   rw [List.map_cons,List.sum_cons]at hb' ⊢
   obtain⟨y,e1,e2⟩:=hs x (hm x (by simp)) k h0 (by omega)
   rw [List.length_cons]at hl
   obtain⟨t',f1,f2,f3⟩:=ih (pre++ [y]) (k+cnt x) (by simp;omega) (fun z hz=>hm z (by simp [hz])) (by omega) (by omega)
   have ea:pre++y::t'=pre++ [y]++t':=by simp
   have eb:(pre++x::t).set pre.length y=pre++ [y]++t:=by simp
   have ec:(((pre++ [y]).length:Nat):Int)=((pre.length+1:Nat):Int):=by simp
   refine⟨y::t',by simp [f1], ?_, ?_⟩
   ·rw [zay,e1 pre.length _ (by simp) (by omega),eb]
    show zaF mb (k+cnt x,((pre.length+1:Nat):Int),pre++ [y]++t)=_
    rw [←ec,f2,ea]
    congr 2
    omega
   ·rw [zay,e2 pre.length _ (by simp) (by omega),ea]
    show zaF (hb (pre++ [y]++t')) (k+cnt x,((pre.length+1:Nat):Int))=_
    rw [←ec,f3]
    congr 1
    omega
 have:=key xs [] k (by simp) (fun _ h=>h) h0 hB
 simpa using this
theorem zok {α:Type} {cnt:α→Nat} {mb:Int × Int × List α→Option ((Int × Int × List α) ⊕ Option (Int × List α))} (B:Int) {xs:List α} {k:Int} (h0:0≤k) (hB:k+((xs.map cnt).sum:Nat)≤B)
  (hs: ∀x∈xs,∀k:Int,0≤k→k+cnt x≤B→ ∃y,∀(i:Nat) (v:List α),v[i]?=some x→i<xs.length→mb (k,(i:Int),v)=some (.inl (k+cnt x,((i+1:Nat):Int),v.set i y)))
  (he: ∀k v,v.length=xs.length→mb (k,(xs.length:Int),v)=some (.inr (some (k,v)))):
  ∃ys,ys.length=xs.length∧zaF mb (k,0,xs)=some (k+((xs.map cnt).sum:Nat),ys):=by
 have key: ∀(suf pre:List α) (k:Int),pre.length+suf.length=xs.length→(∀x∈suf,x∈xs)→0≤k→k+((suf.map cnt).sum:Nat)≤B→
   ∃suf':List α,suf'.length=suf.length∧zaF mb (k,(pre.length:Int),pre++suf)=some (k+((suf.map cnt).sum:Nat),pre++suf'):=by
  intro suf
  induction suf with
  |nil=>
   intro pre k hl _ _ _
   have hl':(pre.length:Int)=(xs.length:Int):=by simp at hl;omega
   have hl2:pre.length=xs.length:=by omega
   refine⟨[],rfl, ?_⟩
   rw [zay,hl',he _ _ (by simpa using hl2)];simp
  |cons x t ih=>
   intro pre k hl hm h0 hb'
   rw [List.map_cons,List.sum_cons]at hb' ⊢
   obtain⟨y,e1⟩:=hs x (hm x (by simp)) k h0 (by omega)
   rw [List.length_cons]at hl
   obtain⟨t',f1,f2⟩:=ih (pre++ [y]) (k+cnt x) (by simp;omega) (fun z hz=>hm z (by simp [hz])) (by omega) (by omega)
   have ea:pre++y::t'=pre++ [y]++t':=by simp
   have eb:(pre++x::t).set pre.length y=pre++ [y]++t:=by simp
   have ec:(((pre++ [y]).length:Nat):Int)=((pre.length+1:Nat):Int):=by simp
   refine⟨y::t',by simp [f1], ?_⟩
   rw [zay,e1 pre.length _ (by simp) (by omega),eb]
   show zaF mb (k+cnt x,((pre.length+1:Nat):Int),pre++ [y]++t)=_
   rw [←ec,f2,ea]
   congr 2
   omega
 have:=key xs [] k (by simp) (fun _ h=>h) h0 hB
 simpa using this
theorem zlM {α:Type} (xs:List α) (n:Nat):(xs.map fun _=>n).sum=n*xs.length:=by
 induction xs with
 |nil=>simp
 |cons x xs ih=>rw [List.map_cons,List.sum_cons,ih,List.length_cons,Nat.mul_add];omega
end Go.Proofs.Ythgeekoigbihbaa
end
section
namespace Go.Proofs.Ythgeekoigbihbaa
open Go.RowKit
set_option maxRecDepth 100000
theorem zfs {α:Type} {xs:List α} {i:Nat} {x:α} (h:xs[i]?=some x):zdn xs (i:Int)=some x:=by simp [zdn,h]
noncomputable def mt (n:Int):List UInt8:=(zaD n).getD []
theorem zd1 {n:Int} (h:n≤4611686018427387904):zaD n=some (mt n):=by
 have key: ∃t,zaD n=some t:=by
  unfold zaD
  by_cases h0:n≤0
  ·rw [if_pos (by simpa using h0)];exact⟨_,rfl⟩
  ·rw [if_neg (by simpa using h0)]
   have go: ∀(f:Nat) (n:Int) (s:List UInt8),n.toNat≤f→0≤n→n+s.length≤4611686018427387905→ ∃t,zaF (fun s:Int × List UInt8=>zaJ s.1 s.2) (n,s)=some t:=by
    intro f
    have stop: ∀(n:Int) (s:List UInt8),¬n>0→s.length≤4611686018427387905→zaF (fun s:Int × List UInt8=>zaJ s.1 s.2) (n,s)=some ([109]++s):=fun n s hz hs=>by
     refine zpr (?_:zaJ n s=_)
     unfold zaJ
     rw [if_neg (by simpa using hz)]
     unfold zea
     rw [zcB (by rw [List.length_singleton];omega)]
    induction f with
    |zero=>
     intro n s hf hn hs
     exact⟨_,stop n s (by omega) (by omega)⟩
    |succ f ih=>
     intro n s hf hn hs
     by_cases hz:n>0
     ·have hd:Int.tdiv n 10<n∧0≤Int.tdiv n 10:=by
       rw [Int.tdiv_eq_ediv_of_nonneg hn];omega
      obtain⟨t,ht⟩:=ih (Int.tdiv n 10) ([(IntKind.u8.wrap (IntKind.i64.wrap ((48:Int)+(Int.tmod n 10))))].map (fun n=>UInt8.ofNat n.toNat)++s) (by omega) (by omega) (by simp only [List.length_append,List.length_map,List.length_singleton];omega)
      have e:zaJ n s=some (.inl (Int.tdiv n 10, [(IntKind.u8.wrap (IntKind.i64.wrap ((48:Int)+(Int.tmod n 10))))].map (fun n=>UInt8.ofNat n.toNat)++s)):=by
       unfold zaJ
       rw [if_pos (by simpa using hz),zcB (by simp),zcB (by rw [List.length_map,List.length_singleton];omega),zbt (n:=Int.tdiv n 10) (by omega) (by omega)]
      exact⟨t,(zo9 (body:=fun s:Int × List UInt8=>zaJ s.1 s.2) e).trans ht⟩
     ·exact⟨_,stop n s hz (by omega)⟩
   exact go n.toNat n [] (Nat.le_refl _) (by omega) (by simp;omega)
 obtain⟨t,ht⟩:=key
 rw [mt,ht];rfl
def zbg (x:zab):Nat:=x.fKey.length+x.fVal.length
theorem zp7 {x:zab} (h:zbg x≤2000000):zek x=some x:=rfl
theorem zp0 {x:zab} (h:zbg x≤2000000):zdo x x=some true:=by
 unfold zdo
 simp []
theorem zpT {x:zab} {a:Int} (h0:0≤a) (h1:a≤1048576) (h:ziR x): ∃v,zdr x a=some v∧v≤a∧(0≤v→(zbg x:Int)=a-v):=by
 unfold zdr zbg
 rw [zfL (a:=a) (by omega) (by omega) h.1]
 by_cases q0:a-(x.fKey.length:Int)<0
 ·rw [if_pos (by simpa using q0)];exact⟨-1,rfl,by omega,by omega⟩
 rw [if_neg (by simpa using q0)]
 rw [zfL (a:=(a-(x.fKey.length:Int))) (by omega) (by omega) h.2.1]
 by_cases q1:(a-(x.fKey.length:Int))-(x.fVal.length:Int)<0
 ·rw [if_pos (by simpa using q1)];exact⟨-1,rfl,by omega,by omega⟩
 rw [if_neg (by simpa using q1)]
 exact⟨((a-(x.fKey.length:Int))-(x.fVal.length:Int)),rfl,by omega,fun _=>by omega⟩
def zaG (l:List zab):Nat:=l.length+(l.map zbg).sum
theorem zoS {xs:List zab} (h:zaG xs≤2000000):zcJ xs=some xs:=by
 have hl:xs.length≤2000000:=by unfold zaG at h;omega
 have hx: ∀x∈xs,zbg x≤2000000:=fun x hx=>by have:=zgr (tot:=zbg) hx;unfold zaG at h;omega
 unfold zcJ
 rw [zcB (by omega)]
 exact zqV (fun i hi v hv=>by
  show zbp xs i v=_
  unfold zbp
  rw [if_pos (by simpa using hi),zau hi,Option.bind_some,zp7 (hx _ (List.getElem_mem hi)),Option.bind_some,zau (by omega),Option.bind_some,zdV hi (by omega)];rfl) (fun v=>by
  show zbp xs _ v=_
  unfold zbp
  rw [if_neg (by simp)])
theorem zo2 {xs:List zab} (h:zaG xs≤2000000):zc3 xs xs=some true:=by
 have hl:xs.length≤2000000:=by unfold zaG at h;omega
 have hx: ∀x∈xs,zbg x≤2000000:=fun x hx=>by have:=zgr (tot:=zbg) hx;unfold zaG at h;omega
 unfold zc3
 rw [if_neg (by simp)]
 exact zqT (n:=xs.length) (fun i hi=>by
  show zbn xs xs i=_
  unfold zbn
  rw [if_pos (by simpa using hi),zau hi,Option.bind_some,Option.bind_some,zp0 (hx _ (List.getElem_mem hi)),Option.bind_some,if_neg (by simp),zdV hi (by omega)]) (by
  show zbn xs xs _=_
  unfold zbn
  rw [if_neg (by simp)])
theorem zo7 {xs:List zab} {a:Int} (h0:0≤a) (h1:a≤1048576) (h:(okL ziR) xs): ∃v,zcP xs a=some v∧v≤a∧(0≤v→(zaG xs:Int)=a-v):=by
 have hl:xs.length≤9223372036854775807:=h.1
 unfold zcP zaG
 rw [zfL h0 h1 hl]
 by_cases h2:a-(xs.length:Int)<0
 ·rw [if_pos (by simpa using h2)];exact⟨-1,rfl,by omega,by omega⟩
 ·rw [if_neg (by simpa using h2)]
  obtain⟨v,e1,e2,e3⟩:=szL (xs:=xs) (body:=fun s:Int × Int=>za7 xs s.1 s.2) zbg (a:=a-xs.length) (by omega) (by omega) (fun x hx b hb0 hb1=>by
   obtain⟨r,e1,e2,e3⟩:=zpT (x:=x) hb0 hb1 (h.2 _ hx)
   refine⟨r,e2,e3,fun i hi=> ?_⟩
   have hi':=(List.getElem?_eq_some_iff.1 hi).1
   show za7 xs b i=_
   unfold za7
   rw [if_pos (by simpa using hi'),zfs hi,Option.bind_some,e1,Option.bind_some,zdV hi' (by omega)]
   by_cases h3:r<0
   ·rw [if_pos (by simpa using h3),if_pos h3]
   ·rw [if_neg (by simpa using h3),if_neg h3]) (fun b=>by
   show za7 xs b _=_
   unfold za7
   rw [if_neg (by simp)])
  exact⟨v,e1,by omega,fun hv=>by have:=e3 hv;omega⟩
def zdd (l:List zab):Nat:=(l.map fun x=>3).sum
theorem zly (l:List zab):zdd l≤64*zaG l:=by
 unfold zdd zaG
 rw [zlM];omega
set_option maxHeartbeats 1000000 in
theorem zmm {xs:List zab} {k:Int} (h0:0≤k) (hk:k+(zdd xs:Nat)≤4611686018427387904) (h:zaG xs≤2000000): ∃ys,ys.length=xs.length∧zde xs k=some (k+(zdd xs:Nat),ys)∧zdf ys k=some (k+(zdd xs:Nat)):=by
 have hl:xs.length≤2000000:=by unfold zaG at h;omega
 refine zrg (cnt:=fun x=>3) (mb:=fun s:Int × Int × List zab=>zaU s.1 s.2.1 s.2.2) (hb:=fun ys s=>zaT ys s.1 s.2) 4611686018427387904 h0 hk (fun x hx k h0 hB=> ?_) (fun k v hv=> ?_) (fun k ys hy=> ?_)
 ·have hB:k+((3:Nat):Int)≤4611686018427387904:=hB
  have fin:k+1+1+1=k+(((3:Nat)):Int):=by omega
  refine⟨?y,fun i v hv hi=> ?_,fun i ys hy hi=> ?_⟩
  rotate_left
  ·have hi':=(List.getElem?_eq_some_iff.1 hv).1
   show zaU k i v=_
   unfold zaU
   rw [if_pos (by simpa using hi')]
   simp only [zfs hv,zdV hi (by omega:xs.length≤_),Int.toNat_natCast,List.set_set,Option.bind_some,(show IntKind.i64.wrap (k+1)=k+1 from zbt (by omega) (by omega)),(show IntKind.i64.wrap (k+1+1)=k+1+1 from zbt (by omega) (by omega)),(show IntKind.i64.wrap (k+1+1+1)=k+1+1+1 from zbt (by omega) (by omega)),zd1 (n:=k) (by omega),zd1 (n:=k+1) (by omega)]
   rw [fin]
  ·have hi':=(List.getElem?_eq_some_iff.1 hy).1
   show zaT ys k i=_
   unfold zaT
   rw [if_pos (by simpa using hi')]
   simp only [zfs hy,zdV hi (by omega:xs.length≤_),bne_self_eq_false,Bool.false_eq_true,if_false,Option.bind_some,(show IntKind.i64.wrap (k+1)=k+1 from zbt (by omega) (by omega)),(show IntKind.i64.wrap (k+1+1)=k+1+1 from zbt (by omega) (by omega)),(show IntKind.i64.wrap (k+1+1+1)=k+1+1+1 from zbt (by omega) (by omega)),zd1 (n:=k) (by omega),zd1 (n:=k+1) (by omega)]
   rw [fin]
 ·show zaU k _ v=_
  unfold zaU
  rw [if_neg (by simp [hv])]
 ·show zaT ys k _=_
  unfold zaT
  rw [if_neg (by simp [hy])]
def zbw (x:zaP):Nat:=zaG x.fRows
theorem zq1 {x:zaP} (h:zbw x≤2000000):zbN x=some x:=by
 unfold zbN
 simp only [zoS (xs:=x.fRows) (by unfold zbw at h;omega),Option.bind_some]
theorem zoR {x:zaP} (h:zbw x≤2000000):zbK x x=some true:=by
 unfold zbK
 simp [zo2 (xs:=x.fRows) (by unfold zbw at h;omega)]
theorem zrR {x:zaP} {a:Int} (h0:0≤a) (h1:a≤1048576) (h:zpq x): ∃v,zdP x a=some v∧v≤a∧(0≤v→(zbw x:Int)=a-v):=by
 unfold zdP zbw
 obtain⟨b1,e1,g1,r1⟩:=zo7 (xs:=x.fRows) (a:=a) (by omega) (by omega) h.2
 rw [e1,Option.bind_some]
 by_cases q1:b1<0
 ·rw [if_pos (by simpa using q1)];exact⟨-1,rfl,by omega,by omega⟩
 rw [if_neg (by simpa using q1)]
 have s1:=r1 (by omega)
 exact⟨b1,rfl,by omega,fun _=>by omega⟩
def zcT (x:zaP):Nat:=zdd x.fRows
theorem zj0 (x:zaP):zcT x≤64*zbw x:=by
 have h0:=zly x.fRows
 unfold zcT zbw
 omega
theorem zlv {x:zaP} {k:Int} (h0:0≤k) (hk:k+(zcT x:Nat)≤4611686018427387904) (h:zbw x≤2000000): ∃r0:List zab,zcb x k=some (k+(zcT x:Nat),⟨x.fTime,r0⟩)∧zb5 ⟨x.fTime,r0⟩ k=some (k+(zcT x:Nat)):=by
 obtain⟨r0, -,m0,g0⟩:=zmm (xs:=x.fRows) (k:=k) (by omega) (by unfold zcT at hk;omega) (by unfold zbw at h;omega)
 have fin:k+((zdd x.fRows:Nat):Int)=k+(zcT x:Nat):=by unfold zcT;omega
 refine⟨r0, ?_, ?_⟩
 ·unfold zcb
  simp only [m0,Option.bind_some]
  rw [fin]
 ·unfold zb5
  simp only [g0,Option.bind_some]
  rw [if_neg (by simp;omega)]
  rw [fin]
def zaV (x:zaa):Nat:=x.fKey.length+x.fVal.length
theorem zmB {x:zaa} (h:zaV x≤2000000):zda x=some x:=rfl
theorem zmE {x:zaa} (h:zaV x≤2000000):zch x x=some true:=by
 unfold zch
 simp []
theorem zmq {x:zaa} {a:Int} (h0:0≤a) (h1:a≤1048576) (h:zer x): ∃v,zcl x a=some v∧v≤a∧(0≤v→(zaV x:Int)=a-v):=by
 unfold zcl zaV
 rw [zfL (a:=a) (by omega) (by omega) h.2.2.1]
 by_cases q2:a-(x.fKey.length:Int)<0
 ·rw [if_pos (by simpa using q2)];exact⟨-1,rfl,by omega,by omega⟩
 rw [if_neg (by simpa using q2)]
 rw [zfL (a:=(a-(x.fKey.length:Int))) (by omega) (by omega) h.2.2.2.1]
 by_cases q3:(a-(x.fKey.length:Int))-(x.fVal.length:Int)<0
 ·rw [if_pos (by simpa using q3)];exact⟨-1,rfl,by omega,by omega⟩
 rw [if_neg (by simpa using q3)]
 exact⟨((a-(x.fKey.length:Int))-(x.fVal.length:Int)),rfl,by omega,fun _=>by omega⟩
def zaw (l:List zaa):Nat:=l.length+(l.map zaV).sum
theorem zlD {xs:List zaa} (h:zaw xs≤2000000):zbU xs=some xs:=by
 have hl:xs.length≤2000000:=by unfold zaw at h;omega
 have hx: ∀x∈xs,zaV x≤2000000:=fun x hx=>by have:=zgr (tot:=zaV) hx;unfold zaw at h;omega
 unfold zbU
 rw [zcB (by omega)]
 exact zqV (fun i hi v hv=>by
  show zaY xs i v=_
  unfold zaY
  rw [if_pos (by simpa using hi),zau hi,Option.bind_some,zmB (hx _ (List.getElem_mem hi)),Option.bind_some,zau (by omega),Option.bind_some,zdV hi (by omega)];rfl) (fun v=>by
  show zaY xs _ v=_
  unfold zaY
  rw [if_neg (by simp)])
theorem zl7 {xs:List zaa} (h:zaw xs≤2000000):zbV xs xs=some true:=by
 have hl:xs.length≤2000000:=by unfold zaw at h;omega
 have hx: ∀x∈xs,zaV x≤2000000:=fun x hx=>by have:=zgr (tot:=zaV) hx;unfold zaw at h;omega
 unfold zbV
 rw [if_neg (by simp)]
 exact zqT (n:=xs.length) (fun i hi=>by
  show zaZ xs xs i=_
  unfold zaZ
  rw [if_pos (by simpa using hi),zau hi,Option.bind_some,Option.bind_some,zmE (hx _ (List.getElem_mem hi)),Option.bind_some,if_neg (by simp),zdV hi (by omega)]) (by
  show zaZ xs xs _=_
  unfold zaZ
  rw [if_neg (by simp)])
theorem zk7 {xs:List zaa} {a:Int} (h0:0≤a) (h1:a≤1048576) (h:(okL zer) xs): ∃v,zbY xs a=some v∧v≤a∧(0≤v→(zaw xs:Int)=a-v):=by
 have hl:xs.length≤9223372036854775807:=h.1
 unfold zbY zaw
 rw [zfL h0 h1 hl]
 by_cases h2:a-(xs.length:Int)<0
 ·rw [if_pos (by simpa using h2)];exact⟨-1,rfl,by omega,by omega⟩
 ·rw [if_neg (by simpa using h2)]
  obtain⟨v,e1,e2,e3⟩:=szL (xs:=xs) (body:=fun s:Int × Int=>zaO xs s.1 s.2) zaV (a:=a-xs.length) (by omega) (by omega) (fun x hx b hb0 hb1=>by
   obtain⟨r,e1,e2,e3⟩:=zmq (x:=x) hb0 hb1 (h.2 _ hx)
   refine⟨r,e2,e3,fun i hi=> ?_⟩
   have hi':=(List.getElem?_eq_some_iff.1 hi).1
   show zaO xs b i=_
   unfold zaO
   rw [if_pos (by simpa using hi'),zfs hi,Option.bind_some,e1,Option.bind_some,zdV hi' (by omega)]
   by_cases h3:r<0
   ·rw [if_pos (by simpa using h3),if_pos h3]
   ·rw [if_neg (by simpa using h3),if_neg h3]) (fun b=>by
   show zaO xs b _=_
   unfold zaO
   rw [if_neg (by simp)])
  exact⟨v,e1,by omega,fun hv=>by have:=e3 hv;omega⟩
def zcc (l:List zaa):Nat:=(l.map fun x=>5).sum
theorem zij (l:List zaa):zcc l≤64*zaw l:=by
 unfold zcc zaw
 rw [zlM];omega
set_option maxHeartbeats 1000000 in
theorem zjJ {xs:List zaa} {k:Int} (h0:0≤k) (hk:k+(zcc xs:Nat)≤4611686018427387904) (h:zaw xs≤2000000): ∃ys,ys.length=xs.length∧zcn xs k=some (k+(zcc xs:Nat),ys):=by
 have hl:xs.length≤2000000:=by unfold zaw at h;omega
 refine zok (cnt:=fun x=>5) (mb:=fun s:Int × Int × List zaa=>zaH s.1 s.2.1 s.2.2) 4611686018427387904 h0 hk (fun x hx k h0 hB=> ?_) (fun k v hv=> ?_)
 ·have hB:k+((5:Nat):Int)≤4611686018427387904:=hB
  have fin:k+1+1+1+1+1=k+(((5:Nat)):Int):=by omega
  refine⟨?y,fun i v hv hi=> ?_⟩
  rotate_left
  ·have hi':=(List.getElem?_eq_some_iff.1 hv).1
   show zaH k i v=_
   unfold zaH
   rw [if_pos (by simpa using hi')]
   simp only [zfs hv,zdV hi (by omega:xs.length≤_),Int.toNat_natCast,List.set_set,Option.bind_some,(show IntKind.i64.wrap (k+1)=k+1 from zbt (by omega) (by omega)),(show IntKind.i64.wrap (k+1+1)=k+1+1 from zbt (by omega) (by omega)),(show IntKind.i64.wrap (k+1+1+1)=k+1+1+1 from zbt (by omega) (by omega)),(show IntKind.i64.wrap (k+1+1+1+1)=k+1+1+1+1 from zbt (by omega) (by omega)),(show IntKind.i64.wrap (k+1+1+1+1+1)=k+1+1+1+1+1 from zbt (by omega) (by omega)),zd1 (n:=k+1+1) (by omega),zd1 (n:=k+1+1+1) (by omega)]
   rw [fin]
 ·show zaH k _ v=_
  unfold zaH
  rw [if_neg (by simp [hv])]
def zcI (x:zbq):Nat:=zaw x.fList
theorem zq8 {x:zbq} (h:zcI x≤2000000):zbJ x=some x:=by
 unfold zbJ
 simp only [zlD (xs:=x.fList) (by unfold zcI at h;omega),Option.bind_some]
theorem zrb {x:zbq} (h:zcI x≤2000000):zdL x x=some true:=by
 unfold zdL
 simp [zl7 (xs:=x.fList) (by unfold zcI at h;omega)]
theorem zrH {x:zbq} {a:Int} (h0:0≤a) (h1:a≤1048576) (h:zo5 x): ∃v,zdQ x a=some v∧v≤a∧(0≤v→(zcI x:Int)=a-v):=by
 unfold zdQ zcI
 obtain⟨b2,e2,g2,r2⟩:=zk7 (xs:=x.fList) (a:=a) (by omega) (by omega) h.2.2
 rw [e2,Option.bind_some]
 by_cases q2:b2<0
 ·rw [if_pos (by simpa using q2)];exact⟨-1,rfl,by omega,by omega⟩
 rw [if_neg (by simpa using q2)]
 have s2:=r2 (by omega)
 exact⟨b2,rfl,by omega,fun _=>by omega⟩
def zeh (x:zbq):Nat:=zcc x.fList
theorem znX (x:zbq):zeh x≤64*zcI x:=by
 have h0:=zij x.fList
 unfold zeh zcI
 omega
theorem zpc {x:zbq} {k:Int} (h0:0≤k) (hk:k+(zeh x:Nat)≤4611686018427387904) (h:zcI x≤2000000): ∃r0:List zaa,zcH x k=some (k+(zeh x:Nat),⟨x.fFrom,x.fTo,r0⟩):=by
 obtain⟨r0, -,m0⟩:=zjJ (xs:=x.fList) (k:=k) (by omega) (by unfold zeh at hk;omega) (by unfold zcI at h;omega)
 have fin:k+((zcc x.fList:Nat):Int)=k+(zeh x:Nat):=by unfold zeh;omega
 refine⟨r0, ?_⟩
 ·unfold zcH
  simp only [m0,Option.bind_some]
  rw [fin]
end Go.Proofs.Ythgeekoigbihbaa
end
section
namespace Go.Proofs.Ythgeekoigbihbaa
open Go.RowKit
set_option maxRecDepth 100000
abbrev RtS:Nat→List AV→AV→Prop:=Rts Try.prog sgs
@[reducible] def zr2:Nat→Type
 |0=>zab
 |1=>zaP
 |2=>zaa
 |3=>zbq
 |_+4=>Unit
@[reducible] def ztt:Nat→List Ty
 |0=> [.s, .s, .b]
 |1=> [.i .i64, .l (.st 0)]
 |2=> [.i .i64, .i .i64, .s, .s, .b]
 |3=> [.i .i64, .i .i64, .l (.st 2)]
 |_+4=> []
def tAv: ∀n,zr2 n→AV
 |0,x=>zkR x
 |1,x=>zo0 x
 |2,x=>zfF x
 |3,x=>zpb x
 |_+4,_=> .agg []
def ztC: ∀n,zr2 n→HL zr2 (ztt n)
 |0,x=>(x.fKey,x.fVal,x.fGone,())
 |1,x=>(x.fTime,x.fRows,())
 |2,x=>(x.fTime,x.fGroup,x.fKey,x.fVal,x.fGone,())
 |3,x=>(x.fFrom,x.fTo,x.fList,())
 |_+4,_=>()
def tMk: ∀n,HL zr2 (ztt n)→zr2 n
 |0,x=>⟨x.1,x.2.1,x.2.2.1⟩
 |1,x=>⟨x.1,x.2.1⟩
 |2,x=>⟨x.1,x.2.1,x.2.2.1,x.2.2.2.1,x.2.2.2.2.1⟩
 |3,x=>⟨x.1,x.2.1,x.2.2.1⟩
 |_+4,_=>()
theorem zsX: ∀n x,tAv n x= .agg (zno tAv (ztt n) (ztC n x))
 |0,_=>rfl
 |1,_=>rfl
 |2,_=>rfl
 |3,_=>rfl
 |_+4,_=>rfl
theorem zrl: ∀n h,ztC n (tMk n h)=h
 |0,_=>rfl
 |1,_=>rfl
 |2,_=>rfl
 |3,_=>rfl
 |_+4,_=>rfl
@[reducible] def tab:Tab:=⟨RtS,zr2,tAv,ztt,ztC,tMk,zsX,zrl⟩
end Go.Proofs.Ythgeekoigbihbaa
end
section
namespace Go.Proofs.Ythgeekoigbihbaa
open Go.RowKit
abbrev FS:=FN tab
noncomputable def tev (tb:List FS) (hs:List JM) (o:Option Tr) (ps:List PT) (r:RT) (xs:HP tab.car ps) (hp:znO tab ps xs):Option (RTI tab.car r):=match o with
 |some t=>zbu tb 100000 (toR r) t hs (vPs ps xs hp) [] []
 |none=>none
theorem zuc {f:Nat} {ps:List PT} {r:RT} {φ:HP tab.car ps→Option (RTI tab.car r)} (tb:List FS) (hs:List JM) (h: ∀xs hp,tev tb hs (zs4 Try.prog sgs f) ps r xs hp=φ xs) (hk: ∀xs y,zte Try.prog sgs f (zfj tab ps xs) (zmb tab r y)=true) (xs:HP tab.car ps) (y:RTI tab.car r) (hp:znO tab ps xs) (e:φ xs=some y):tab.Rt f (zfj tab ps xs) (zmb tab r y):=by
 rw [←h xs hp]at e
 unfold tev at e
 split at e
 ·rename_i t ht
  refine ziC ht (hk xs y) ?_
  unfold Den
  rw [←zoT ps xs hp]
  exact zaC tb 100000 (fa:= []) (fun _ h=>nomatch h) (fun _ h=>nomatch h) (fun v hv=>zmz r hv) .nil e
 ·cases e
noncomputable def mkF (f:Nat) (ps:List PT) (r:RT) (φ:HP tab.car ps→Option (RTI tab.car r)) (tb:List FS) (hs:List JM) (h: ∀xs hp,tev tb hs (zs4 Try.prog sgs f) ps r xs hp=φ xs) (hk: ∀xs y,zte Try.prog sgs f (zfj tab ps xs) (zmb tab r y)=true):FS:=
 ⟨f,ps,r,φ,fun xs y hp e=>zuc tb hs h hk xs y hp e,false,fun h=>by cases h⟩
noncomputable def mkP (d:FS) (h: ∀y,zoQ d.f (zmb tab d.r y)=true):FS:=
 ⟨d.f,d.ps,d.r,d.φ,d.ok,true,fun _ xs y hx e=>zot (d.ok xs y hx e) (h y)⟩
noncomputable def mkH (f:Nat) (ps:List PT) (r:RT) (φ:HP tab.car ps→Option (RTI tab.car r)) (ok: ∀xs y,znO tab ps xs→φ xs=some y→tab.Rt f (zfj tab ps xs) (zmb tab r y)):FS:=⟨f,ps,r,φ,ok,false,fun h=>by cases h⟩
end Go.Proofs.Ythgeekoigbihbaa
end
section
namespace Go.Proofs.Ythgeekoigbihbaa
open Go.RowKit
set_option maxRecDepth 100000
set_option maxHeartbeats 4000000
noncomputable def zc5:FS:=mkH 158 [.v .s, .v (.i .u8)] (.v (.i .i64)) (fun x=>zaA x.1 x.2.1) fun x r _ h=>zc4 x.1 x.2.1 r h
noncomputable def zbZ:FS:=mkH 78 [.v (.l (.st 0)), .v (.i .i64), .v (.l (.st 0))] (.v (.l (.st 0))) (fun x=>zh9 x.1 x.2.1 x.2.2.1) fun x r hp h=>zq9 (t:=30) (it:=3) (el:=71) (K:=3) (by kernel_rfl) (fun _=>by kernel_rfl) zpv h
noncomputable def zjI:FS:=mkF 65 [.v (.st 0), .v (.i .i64)] (.v (.i .i64)) (fun x=>zdr x.1 x.2.1) [] [] (fun _ _=>by kernel_rfl) (fun _ _=>by kernel_rfl)
noncomputable def ziZ:FS:=mkF 29 [.v (.l (.st 0)), .v (.i .i64)] (.v (.i .i64)) (fun x=>zcP x.1 x.2.1) [zjI] [.sp [.i .i64, .i .i64]] (fun _ _=>by kernel_rfl) (fun _ _=>by kernel_rfl)
noncomputable def zkD:FS:=mkF 6 [.v (.st 1), .v (.i .i64)] (.v (.i .i64)) (fun x=>zdP x.1 x.2.1) [ziZ] [] (fun _ _=>by kernel_rfl) (fun _ _=>by kernel_rfl)
noncomputable def zhv:FS:=mkF 66 [.v (.st 2), .v (.i .i64)] (.v (.i .i64)) (fun x=>zcl x.1 x.2.1) [] [] (fun _ _=>by kernel_rfl) (fun _ _=>by kernel_rfl)
noncomputable def zgC:FS:=mkF 30 [.v (.l (.st 2)), .v (.i .i64)] (.v (.i .i64)) (fun x=>zbY x.1 x.2.1) [zhv] [.sp [.i .i64, .i .i64]] (fun _ _=>by kernel_rfl) (fun _ _=>by kernel_rfl)
noncomputable def zky:FS:=mkF 7 [.v (.st 3), .v (.i .i64)] (.v (.i .i64)) (fun x=>zdQ x.1 x.2.1) [zgC] [] (fun _ _=>by kernel_rfl) (fun _ _=>by kernel_rfl)
noncomputable def zjC:FS:=mkF 70 [.v (.st 0)] (.v (.st 0)) (fun x=>zek x.1) [] [] (fun _ _=>by kernel_rfl) (fun _ _=>by kernel_rfl)
noncomputable def zib:FS:=mkF 34 [.v (.l (.st 0))] (.v (.l (.st 0))) (fun x=>zcJ x.1) [zjC] [.sp [.i .i64, .l (.st 0)]] (fun _ _=>by kernel_rfl) (fun _ _=>by kernel_rfl)
noncomputable def zkA:FS:=mkF 9 [.v (.st 1)] (.v (.st 1)) (fun x=>zbN x.1) [zib] [] (fun _ _=>by kernel_rfl) (fun _ _=>by kernel_rfl)
noncomputable def zhu:FS:=mkF 71 [.v (.st 2)] (.v (.st 2)) (fun x=>zda x.1) [] [] (fun _ _=>by kernel_rfl) (fun _ _=>by kernel_rfl)
noncomputable def zgD:FS:=mkF 35 [.v (.l (.st 2))] (.v (.l (.st 2))) (fun x=>zbU x.1) [zhu] [.sp [.i .i64, .l (.st 2)]] (fun _ _=>by kernel_rfl) (fun _ _=>by kernel_rfl)
noncomputable def zkp:FS:=mkF 10 [.v (.st 3)] (.v (.st 3)) (fun x=>zbJ x.1) [zgD] [] (fun _ _=>by kernel_rfl) (fun _ _=>by kernel_rfl)
noncomputable def zeU:FS:=mkF 67 [.v (.i .i64), .v (.i .i64), .v (.i .i64)] (.v .b) (fun x=>zb3 x.1 x.2.1 x.2.2.1) [] [] (fun _ _=>by kernel_rfl) (fun _ _=>by kernel_rfl)
noncomputable def zf2:FS:=mkF 148 [.v .s, .v .s] (.v .b) (fun x=>zcr x.1 x.2.1) [] [.sp [.i .i64], .sp [.b, .i .i64]] (fun _ _=>by kernel_rfl) (fun _ _=>by kernel_rfl)
noncomputable def zll:FS:=mkF 123 [.v .s] (.v .b) (fun x=>zej x.1) [zeU,zf2] [] (fun _ _=>by kernel_rfl) (fun _ _=>by kernel_rfl)
noncomputable def zlI:FS:=mkF 127 [.v .s] (.v .b) (fun x=>zeg x.1) [zf2] [] (fun _ _=>by kernel_rfl) (fun _ _=>by kernel_rfl)
noncomputable def zf5:FS:=mkF 95 [.v .s, .v .s, .v .b] (.v .b) (fun x=>zcs x.1 x.2.1 x.2.2.1) [zll,zlI] [] (fun _ _=>by kernel_rfl) (fun _ _=>by kernel_rfl)
noncomputable def zir:FS:=mkF 68 [.v (.l (.st 0))] (.v .b) (fun x=>zcX x.1) [zf5] [.sp [.i .i64]] (fun _ _=>by kernel_rfl) (fun _ _=>by kernel_rfl)
noncomputable def zjv:FS:=mkF 31 [.v (.st 1)] (.v .b) (fun x=>zct x.1) [zeU,zir] [.sp [.i .i64]] (fun _ _=>by kernel_rfl) (fun _ _=>by kernel_rfl)
noncomputable def zjt:FS:=mkF 96 [.v (.st 2)] (.v .b) (fun x=>zdt x.1) [zeU,zf5] [] (fun _ _=>by kernel_rfl) (fun _ _=>by kernel_rfl)
noncomputable def ziy:FS:=mkF 97 [.v (.st 2), .v (.st 2)] (.v .b) (fun x=>zcW x.1 x.2.1) [] [] (fun _ _=>by kernel_rfl) (fun _ _=>by kernel_rfl)
noncomputable def zjy:FS:=mkF 69 [.v (.l (.st 2))] (.v .b) (fun x=>zdp x.1) [zjt,ziy] [.sp [.i .i64]] (fun _ _=>by kernel_rfl) (fun _ _=>by kernel_rfl)
noncomputable def zjB:FS:=mkF 32 [.v (.st 3)] (.v .b) (fun x=>zdl x.1) [zeU,zjy] [.sp [.i .i64]] (fun _ _=>by kernel_rfl) (fun _ _=>by kernel_rfl)
noncomputable def zlF:FS:=mkF 33 [.v (.l (.st 0)), .v (.st 2)] (.v (.l (.st 0))) (fun x=>zdD x.1 x.2.1) [] [.sp [.b, .i .i64, .l (.st 0)], .inl, .pt, .inl] (fun _ _=>by kernel_rfl) (fun _ _=>by kernel_rfl)
noncomputable def zjD:FS:=mkF 8 [.v (.st 1), .v (.st 3)] (.tu (.cons (.v (.st 1)) (.cons (.v .b) .nil))) (fun x=>zdk x.1 x.2.1) [zjv,zjB,zlF] [.sp [.i .i64, .l (.st 0)]] (fun _ _=>by kernel_rfl) (fun _ _=>by kernel_rfl)
noncomputable def zdO:FS:=mkF 98 [.v (.i .i64), .v (.i .i64), .v (.i .i64)] (.v .b) (fun x=>zcf x.1 x.2.1 x.2.2.1) [] [] (fun _ _=>by kernel_rfl) (fun _ _=>by kernel_rfl)
noncomputable def zgQ:FS:=mkF 72 [.v (.i .i64)] (.v .b) (fun x=>zck x.1) [zdO] [] (fun _ _=>by kernel_rfl) (fun _ _=>by kernel_rfl)
noncomputable def zhM:FS:=mkF 128 [.v (.l (.st 0))] (.v (.l .s)) (fun x=>zcv x.1) [] [.sp [.i .i64, .l .s]] (fun _ _=>by kernel_rfl) (fun _ _=>by kernel_rfl)
noncomputable def zfh:FS:=mkF 151 [.v (.i .u8)] (.v .b) (fun x=>zb7 x.1) [] [] (fun _ _=>by kernel_rfl) (fun _ _=>by kernel_rfl)
noncomputable def zgf:FS:=mkF 152 [.v .s, .v (.i .u8)] (.v (.i .i64)) (fun x=>zcA x.1 x.2.1) [zc5] [] (fun _ _=>by kernel_rfl) (fun _ _=>by kernel_rfl)
noncomputable def zft:FS:=mkF 136 [.v .s, .v .s] (.v .b) (fun x=>zb9 x.1 x.2.1) [zfh,zgf] [.sp [.i .i64]] (fun _ _=>by kernel_rfl) (fun _ _=>by kernel_rfl)
noncomputable def zfY:FS:=mkF 117 [.v .s] (.v .b) (fun x=>zcq x.1) [zdO,zft] [] (fun _ _=>by kernel_rfl) (fun _ _=>by kernel_rfl)
noncomputable def zhK:FS:=mkF 86 [.v (.l .s)] (.v .b) (fun x=>zcx x.1) [zfY] [.sp [.i .i64]] (fun _ _=>by kernel_rfl) (fun _ _=>by kernel_rfl)
noncomputable def zaR:FS:=mkH 79 [.v (.l (.st 0)), .fn [.st 0] .b] (.v (.i .i64)) (fun x=>za9 x.1 (fun y=>x.2.1.φ (y,()))) fun x r hp h=>ziC (f:=79) (t:=zql 3) (by kernel_rfl) (by kernel_rfl) (zoo (av:=(zeo tab.av (.st 0))) (cn:=3) (fun _=>⟨_,rfl,rfl⟩) h (fun y b hb=>hp.2.1 (y,()) b hb))
noncomputable def zaN:FS:=mkH 100 [.v (.l (.st 0)), .fn [.st 0] .b] (.v .b) (fun x=>zaE x.1 (fun y=>x.2.1.φ (y,()))) fun x r hp h=>ziC (f:=100) (t:=zqg 79) (by kernel_rfl) (by kernel_rfl) (zpt h fun r hr=>zaR.ok x r hp hr)
noncomputable def zjp:FS:=mkF 135 [.v .s] (.v .b) (fun x=>zdm x.1) [zft] [] (fun _ _=>by kernel_rfl) (fun _ _=>by kernel_rfl)
noncomputable def zfe:FS:=mkF 116 [.v .s, .v .b] (.v .b) (fun x=>zb6 x.1 x.2.1) [zjp] [] (fun _ _=>by kernel_rfl) (fun _ _=>by kernel_rfl)
noncomputable def zgj:FS:=mkF 129 [.v (.st 0)] (.v .b) (fun x=>zbL x.1) [zfe] [] (fun _ _=>by kernel_rfl) (fun _ _=>by kernel_rfl)
noncomputable def zfT:FS:=mkP zgj fun _=>by kernel_rfl
noncomputable def zhk:FS:=mkF 99 [.v (.l (.st 0))] (.v .b) (fun x=>zcg x.1) [zhM,zhK,zaN,zfT] [] (fun _ _=>by kernel_rfl) (fun _ _=>by kernel_rfl)
noncomputable def zjj:FS:=mkF 101 [.v (.st 0)] (.v .b) (fun x=>zcN x.1) [] [] (fun _ _=>by kernel_rfl) (fun _ _=>by kernel_rfl)
noncomputable def zhV:FS:=mkP zjj fun _=>by kernel_rfl
noncomputable def zkL:FS:=mkF 73 [.v (.l (.st 0))] (.v .b) (fun x=>zdS x.1) [zhk,zaN,zhV] [] (fun _ _=>by kernel_rfl) (fun _ _=>by kernel_rfl)
noncomputable def ziX:FS:=mkF 36 [.v (.st 1)] (.v .b) (fun x=>zb4 x.1) [zgQ,zkL] [] (fun _ _=>by kernel_rfl) (fun _ _=>by kernel_rfl)
noncomputable def zhJ:FS:=mkF 147 [.v (.i .i64)] (.v .b) (fun x=>zbP x.1) [] [] (fun _ _=>by kernel_rfl) (fun _ _=>by kernel_rfl)
noncomputable def zgZ:FS:=mkF 121 [.v (.i .i64), .v (.i .i64)] (.v (.i .i64)) (fun x=>zbm x.1 x.2.1) [zhJ] [] (fun _ _=>by kernel_rfl) (fun _ _=>by kernel_rfl)
noncomputable def zgb:FS:=mkF 131 [.v .s] (.v .b) (fun x=>zbf x.1) [] [] (fun _ _=>by kernel_rfl) (fun _ _=>by kernel_rfl)
noncomputable def zdz:FS:=mkF 108 [.v .s, .v .s] (.v (.i .i64)) (fun x=>za0 x.1 x.2.1) [zgb] [] (fun _ _=>by kernel_rfl) (fun _ _=>by kernel_rfl)
noncomputable def zke:FS:=mkF 120 [.v (.l (.i .i64))] (.v (.i .i64)) (fun x=>zdN x.1) [] [.sp [.i .i64]] (fun _ _=>by kernel_rfl) (fun _ _=>by kernel_rfl)
noncomputable def zgk:FS:=mkF 88 [.v (.st 2), .v (.st 2)] (.v (.i .i64)) (fun x=>zbI x.1 x.2.1) [zgZ,zdz,zke] [] (fun _ _=>by kernel_rfl) (fun _ _=>by kernel_rfl)
noncomputable def zkx:FS:=mkF 102 [.v (.l (.st 2))] (.v .b) (fun x=>zdT x.1) [zgk] [.sp [.i .i64]] (fun _ _=>by kernel_rfl) (fun _ _=>by kernel_rfl)
noncomputable def zbj:FS:=mkH 105 [.v (.l (.st 2)), .fn [.st 2] .b] (.v (.i .i64)) (fun x=>za9 x.1 (fun y=>x.2.1.φ (y,()))) fun x r hp h=>ziC (f:=105) (t:=zql 5) (by kernel_rfl) (by kernel_rfl) (zoo (av:=(zeo tab.av (.st 2))) (cn:=5) (fun _=>⟨_,rfl,rfl⟩) h (fun y b hb=>hp.2.1 (y,()) b hb))
noncomputable def zaz:FS:=mkH 75 [.v (.l (.st 2)), .fn [.st 2] .b] (.v .b) (fun x=>zaE x.1 (fun y=>x.2.1.φ (y,()))) fun x r hp h=>ziC (f:=75) (t:=zqg 105) (by kernel_rfl) (by kernel_rfl) (zpt h fun r hr=>zbj.ok x r hp hr)
noncomputable def zkq:FS:=mkF 115 [.v (.i .i64)] (.v .b) (fun x=>zeL x.1) [zdO] [] (fun _ _=>by kernel_rfl) (fun _ _=>by kernel_rfl)
noncomputable def zjG:FS:=mkF 130 [.v (.i .i64)] (.v .b) (fun x=>zel x.1) [zdO] [] (fun _ _=>by kernel_rfl) (fun _ _=>by kernel_rfl)
noncomputable def zik:FS:=mkF 104 [.v (.st 2)] (.v .b) (fun x=>zcR x.1) [zkq,zjG,zfY,zfe] [] (fun _ _=>by kernel_rfl) (fun _ _=>by kernel_rfl)
noncomputable def zhe:FS:=mkF 103 [.v (.st 2)] (.v .b) (fun x=>zdh x.1) [zik] [] (fun _ _=>by kernel_rfl) (fun _ _=>by kernel_rfl)
noncomputable def zgx:FS:=mkP zhe fun _=>by kernel_rfl
noncomputable def zi7:FS:=mkF 74 [.v (.l (.st 2))] (.v .b) (fun x=>zcM x.1) [zkx,zaz,zgx] [] (fun _ _=>by kernel_rfl) (fun _ _=>by kernel_rfl)
noncomputable def zg6:FS:=mkF 76 [.v (.st 2), .rf (.st 3)] (.v .b) (fun x=>zc7 x.1 x.2.1) [] [] (fun _ _=>by kernel_rfl) (fun _ _=>by kernel_rfl)
noncomputable def zgW:FS:=mkP zg6 fun _=>by kernel_rfl
noncomputable def ziG:FS:=mkF 37 [.v (.st 3)] (.v .b) (fun x=>zcY x.1) [zgQ,zi7,zaz,zgW] [] (fun _ _=>by kernel_rfl) (fun _ _=>by kernel_rfl)
noncomputable def zb8:FS:=mkH 38 [.v (.l (.st 0))] (.v (.l (.st 0))) (fun x=>zaB x.1) fun x r hp h=>ziC (f:=38) (t:=zoE 40 3) (by kernel_rfl) (by kernel_rfl) (zod (bytes:=40) (sz:=3) (av:=(zeo tab.av (.st 0))) (fun x=>⟨zkN _ x,zfO (by kernel_rfl) x⟩) h)
end Go.Proofs.Ythgeekoigbihbaa
end
section
namespace Go.Proofs.Ythgeekoigbihbaa
open Go.RowKit
set_option maxRecDepth 100000
set_option maxHeartbeats 4000000
noncomputable def za1:FS:=mkF 106 [.v (.l (.st 0)), .v .s, .fn [.st 0, .s] (.i .i64)] (.tu (.cons (.v (.i .i64)) (.cons (.v .b) .nil))) (fun x=>zam x.1 x.2.1 (fun y0 y1=>x.2.2.1.φ (y0,y1,()))) [] [.sp [.i .i64, .i .i64]] (fun _ _=>by kernel_rfl) (fun _ _=>by kernel_rfl)
noncomputable def zg3:FS:=mkF 107 [.v (.st 0), .v .s] (.v (.i .i64)) (fun x=>za5 x.1 x.2.1) [zdz] [] (fun _ _=>by kernel_rfl) (fun _ _=>by kernel_rfl)
noncomputable def zgd:FS:=mkP zg3 fun _=>by kernel_rfl
noncomputable def zhS:FS:=mkF 77 [.v (.l (.st 0)), .v .s] (.tu (.cons (.v (.i .i64)) (.cons (.v .b) .nil))) (fun x=>zcu x.1 x.2.1) [za1,zgd] [] (fun _ _=>by kernel_rfl) (fun _ _=>by kernel_rfl)
noncomputable def zjm:FS:=mkF 39 [.v (.l (.st 0)), .v (.st 0)] (.v (.l (.st 0))) (fun x=>zc1 x.1 x.2.1) [zhS,zbZ] [] (fun _ _=>by kernel_rfl) (fun _ _=>by kernel_rfl)
noncomputable def zbE:FS:=mkH 40 [.v (.l (.st 0)), .fn [.st 0] .b] (.v (.l (.st 0))) (fun x=>zef x.1 (fun y=>x.2.1.φ (y,()))) fun x r hp h=>ziC (f:=40) (t:=zre 79 3 true (.mk (.cons (.fld (.fld (.idx (.var 5) (.var 4)) 0 3 true) 0 1 false) (.cons (.fld (.fld (.idx (.var 5) (.var 4)) 0 3 true) 1 1 false) (.cons (.fld (.fld (.idx (.var 5) (.var 4)) 0 3 true) 2 1 false) .nil)))) [(.agg (.fld (.idx (.var 5) (.var 4)) 0 3 true) 3)] (.mk (.cons (.str (ByteArray.mk #[])) (.cons (.str (ByteArray.mk #[])) (.cons (.bool false) .nil))))) (by kernel_rfl) (by kernel_rfl) (zrq (av:=(zeo tab.av (.st 0))) (fun x=>⟨zkN _ x,zfO (by kernel_rfl) x,fun _=>⟨_,rfl⟩,fun e=>by cases e⟩) (by decide) (fun a b c d j ys x tl hj=>by simp [AV.nth,hj,zeo,tAv]) (fun a b c d j ys x hj=>by simp [AV.nth,hj,zeo,tAv]) h (fun i hi=>zaR.ok x i hp hi) (fun y b hb=>hp.2.1 (y,()) b hb))
noncomputable def zhR:FS:=mkF 41 [.v (.st 0)] (.v .b) (fun x=>zdJ x.1) [] [] (fun _ _=>by kernel_rfl) (fun _ _=>by kernel_rfl)
noncomputable def zha:FS:=mkP zhR fun _=>by kernel_rfl
noncomputable def zjs:FS:=mkF 11 [.v (.st 1), .v (.st 3)] (.tu (.cons (.v (.st 1)) (.cons (.v .b) .nil))) (fun x=>zcp x.1 x.2.1) [ziX,ziG,zb8,zbE,zha,zjm] [.sp [.i .i64, .l (.st 0)]] (fun _ _=>by kernel_rfl) (fun _ _=>by kernel_rfl)
noncomputable def zjA:FS:=mkF 80 [.v (.st 0), .v (.st 0)] (.v .b) (fun x=>zdo x.1 x.2.1) [] [] (fun _ _=>by kernel_rfl) (fun _ _=>by kernel_rfl)
noncomputable def ziD:FS:=mkF 42 [.v (.l (.st 0)), .v (.l (.st 0))] (.v .b) (fun x=>zc3 x.1 x.2.1) [zjA] [.sp [.i .i64]] (fun _ _=>by kernel_rfl) (fun _ _=>by kernel_rfl)
noncomputable def zkv:FS:=mkF 12 [.v (.st 1), .v (.st 1)] (.v .b) (fun x=>zbK x.1 x.2.1) [ziD] [] (fun _ _=>by kernel_rfl) (fun _ _=>by kernel_rfl)
noncomputable def zhj:FS:=mkF 81 [.v (.st 2), .v (.st 2)] (.v .b) (fun x=>zch x.1 x.2.1) [] [] (fun _ _=>by kernel_rfl) (fun _ _=>by kernel_rfl)
noncomputable def zgM:FS:=mkF 43 [.v (.l (.st 2)), .v (.l (.st 2))] (.v .b) (fun x=>zbV x.1 x.2.1) [zhj] [.sp [.i .i64]] (fun _ _=>by kernel_rfl) (fun _ _=>by kernel_rfl)
noncomputable def zkw:FS:=mkF 13 [.v (.st 3), .v (.st 3)] (.v .b) (fun x=>zdL x.1 x.2.1) [zgM] [] (fun _ _=>by kernel_rfl) (fun _ _=>by kernel_rfl)
noncomputable def zd8:FS:=mkF 62 [.v (.i .i64)] (.v .s) (fun x=>zaD x.1) [] [.sp [.i .i64, .s]] (fun _ _=>by kernel_rfl) (fun _ _=>by kernel_rfl)
noncomputable def zg9:FS:=mkF 44 [.v (.l (.st 0)), .v (.i .i64)] (.tu (.cons (.v (.i .i64)) (.cons (.v (.l (.st 0))) .nil))) (fun x=>zde x.1 x.2.1) [zd8] [.sp [.i .i64, .i .i64, .l (.st 0)]] (fun _ _=>by kernel_rfl) (fun _ _=>by kernel_rfl)
noncomputable def zis:FS:=mkF 14 [.v (.st 1), .v (.i .i64)] (.tu (.cons (.v (.i .i64)) (.cons (.v (.st 1)) .nil))) (fun x=>zcb x.1 x.2.1) [zg9] [] (fun _ _=>by kernel_rfl) (fun _ _=>by kernel_rfl)
noncomputable def zfS:FS:=mkF 45 [.v (.l (.st 2)), .v (.i .i64)] (.tu (.cons (.v (.i .i64)) (.cons (.v (.l (.st 2))) .nil))) (fun x=>zcn x.1 x.2.1) [zd8] [.sp [.i .i64, .i .i64, .l (.st 2)]] (fun _ _=>by kernel_rfl) (fun _ _=>by kernel_rfl)
noncomputable def ziJ:FS:=mkF 15 [.v (.st 3), .v (.i .i64)] (.tu (.cons (.v (.i .i64)) (.cons (.v (.st 3)) .nil))) (fun x=>zcH x.1 x.2.1) [zfS] [] (fun _ _=>by kernel_rfl) (fun _ _=>by kernel_rfl)
noncomputable def zhw:FS:=mkF 46 [.v (.l (.st 0)), .v (.i .i64)] (.v (.i .i64)) (fun x=>zdf x.1 x.2.1) [zd8] [.sp [.i .i64, .i .i64]] (fun _ _=>by kernel_rfl) (fun _ _=>by kernel_rfl)
noncomputable def zin:FS:=mkF 16 [.v (.st 1), .v (.i .i64)] (.v (.i .i64)) (fun x=>zb5 x.1 x.2.1) [zhw] [] (fun _ _=>by kernel_rfl) (fun _ _=>by kernel_rfl)
noncomputable def zdw:FS:=mkF 3 [.v (.st 1), .v (.st 3)] (.v .b) (fun x=>zbl x.1 x.2.1) [zkD,zky,zkA,zkp,zjD,zjs,zkv,zkw,zis,ziJ,zin] [] (fun _ _=>by kernel_rfl) (fun _ _=>by kernel_rfl)
end Go.Proofs.Ythgeekoigbihbaa
end
section
namespace Go.Proofs.Ythgeekoigbihbaa
open Go.RowKit
set_option maxRecDepth 100000
theorem zfq (a0:zaP) (a1:zbq) (r:Bool) (h:zbl a0 a1=some r):Rts Try.prog sgs 3 [zo0 a0,zpb a1] (.bool r):=zdw.ok (a0,a1,()) r (by simp [zdw,mkF,znO,zsH]) h
end Go.Proofs.Ythgeekoigbihbaa
end
section
namespace Go.Proofs.Ythgeekoigbihbaa
open Go.RowKit
set_option maxRecDepth 100000
theorem zqO {α:Type} {f:α→Nat} {n:Nat}: ∀{l:List α},(∀x∈l,f x≤n)→(l.map f).sum≤n*l.length
 | [],_=>by simp
 |x::l,h=>by
  have h1:=h x (by simp)
  have h2:=zqO (f:=f) (n:=n) (l:=l) fun y hy=>h y (by simp [hy])
  rw [List.map_cons,List.sum_cons,List.length_cons,Nat.mul_add];omega
theorem zoi {w:zab} (h:zjd w=true):zbg w≤36:=by
 unfold zjd zbG zfc zgv at h
 simp only [Bool.and_eq_true,decide_eq_true_eq]at h
 have h1:=zeX.1 h.1.1
 have h2:=h.2.1.1
 unfold zbg
 omega
theorem zju {l:List zab} (h:zbd l=true):zaG l≤1000:=by
 unfold zbd at h
 simp only [Bool.and_eq_true,decide_eq_true_eq]at h
 have:=zqO (f:=zbg) (n:=36) fun w hw=>zoi (List.all_eq_true.1 h.2.1 w hw)
 unfold zaG
 omega
theorem zoZ {l:List zab} (h:zaG l≤2000000):zeY l:=by
 unfold zaG at h
 exact⟨by omega,fun w hw=>by have:=zgr (tot:=zbg) hw;have e:zbg w=w.fKey.length+w.fVal.length:=rfl;omega⟩
theorem zoW {l:List zaa} (h:zaw l≤2000000):zhy l:=by
 unfold zaw at h
 exact⟨by omega,fun w hw=>by have:=zgr (tot:=zaV) hw;have e:zaV w=w.fKey.length+w.fVal.length:=rfl;exact⟨by omega,by omega⟩⟩
theorem zml (c:zaP) (d:zbq):zbw (zeT c d).1≤1000:=by
 unfold zeT
 split
 ·show zbw (if za6 ⟨d.fTo,d.fList.foldl doW c.fRows⟩=true then((⟨d.fTo,d.fList.foldl doW c.fRows⟩,true):zaP × Bool)else(⟨0, []⟩,false)).1≤1000
  split
  ·rename_i h
   unfold za6 zeW at h
   simp only [Bool.and_eq_true]at h
   exact zju h.2.1.1
  ·simp [zbw,zaG]
 ·simp [zbw,zaG]
theorem znr (a0:zaP) (a1:zbq) (h0:zpq a0) (h1:zo5 a1):zbl a0 a1=some true:=by
 unfold zbl
 obtain⟨b0,e0,g0,r0⟩:=zrR (x:=a0) (a:=1048576) (by omega) (by omega) h0
 rw [e0,Option.bind_some]
 by_cases q0:b0<0
 ·rw [if_pos (by simpa using q0)]
 rw [if_neg (by simpa using q0)]
 have s0:=r0 (by omega)
 obtain⟨b1,e1,g1,r1⟩:=zrH (x:=a1) (a:=b0) (by omega) (by omega) h1
 rw [e1,Option.bind_some]
 by_cases q1:b1<0
 ·rw [if_pos (by simpa using q1)]
 rw [if_neg (by simpa using q1)]
 have s1:=r1 (by omega)
 have t0:zbw a0≤2000000:=by omega
 have t1:zcI a1≤2000000:=by omega
 have hw:zeY a0.fRows:=zoZ t0
 have hd:zhy a1.fList:=zoW t1
 have vs:=znN (c:=a0) (d:=a1) hw hd h1.1
 have vi:=znx (c:=a0) (d:=a1) hw hd
 have tw:=zml a0 a1
 generalize zeT a0 a1=w at vs vi tw
 have c0:=zj0 a0
 have c1:=znX a1
 have c2:=zj0 w.1
 obtain⟨x0,m0, -⟩:=zlv (x:=a0) (k:=1) (by omega) (by omega) t0
 obtain⟨x1,m1⟩:=zpc (x:=a1) (k:=1+(zcT a0:Nat)) (by omega) (by omega) t1
 obtain⟨x2,m2,n2⟩:=zlv (x:=w.1) (k:=1) (by omega) (by omega) (by omega)
 have p1:decide ((1:Int)+(zcT a0:Nat)+(zeh a1:Nat)<0)=false:=by simp;omega
 have p2:decide ((1:Int)+(zcT w.1:Nat)<0)=false:=by simp;omega
 have p3: ∀z:Bool,(z !=z)=false:=by simp
 simp only [zq1 t0,zq8 t1,vs,vi,zoR t0,zrb t1,zoR (show zbw w.1≤2000000 by omega),m0,m1,m2,n2,p1,p2,p3,bne_self_eq_false,Option.bind_some,Bool.not_true,Bool.or_false,Bool.false_eq_true,if_false]
end Go.Proofs.Ythgeekoigbihbaa
end
section
namespace Go.Proofs.Ythgeekoigbihbaa.fnExactAddDiffDone
open Go.ChangeShapes Go.WideShapes Go.ChangeAt Go.RowKit
open Go.Proofs.Ythgeekoigbihbaa
set_option linter.unusedVariables false
theorem own:ownKnob Try.prog.godebug=none:=by kernel_rfl
theorem zo1:laidOutB Try.prog=true:=by kernel_rfl
theorem sig:sgs 3=some {modes:= [.ro, .ro],res:= [false]}:=by kernel_rfl
set_option maxRecDepth 100000 in
theorem zsN (os:Os) (started:os.Started) (H:Type) (enc:TypeId × Value→H):
  ReturnsInHanded {} Try.checked os 3 .any (Rows.fnExactAddDiffSpec.pre6 enc Try.prog Try.f3 Rows.fnExactAddDiffRow.domain false) (Rows.fnExactAddDiffSpec.post enc Try.prog Try.f3 false true false false):=by
 refine returnsInHanded_of_change (C:=Try.checked) own started (by kernel_rfl) Try.func3
  (ChangeSpec.witness6 (enc:=enc) (C:=Try.checked) false ⟨#[], #[.agg #[.int .i64 0, .slice none 0 0], .agg #[.int .i64 0, .int .i64 0, .slice none 0 0]], []⟩ 8 (by kernel_rfl) (by kernel_rfl) (by kernel_rfl) (by kernel_rfl)) ?_
 intro W base args ds gs before hval0 hW hcnd _
 have hval: ∀(j:Nat) t v,Try.f3.params[j]?=some t→args[j]?=some v→Value.okWide Try.prog W .any base t v:=hval0
 have hW':=hW
 obtain⟨p,q,hA0,hV,rfl,hfz,hnd⟩:=hW
 have hA:DataW.TrodAll enc Try.prog W 0 (fun _=>true) true Try.f3.params.toList args.toList ds p:=hA0
 rw [Try.params3]at hA hval
 obtain⟨v0,vs0,d0,ds0,p0,q0,hargs,rfl,rfl,h0,r0⟩:=trodAll_cons hA
 obtain⟨v1,vs1,d1,ds1,p1,q1,rfl,rfl,rfl,h1,r1⟩:=trodAll_cons r0
 obtain⟨rfl,rfl,rfl⟩:=trodAll_nil r1
 obtain rfl:args= #[v0,v1]:=by cases args;simp_all
 obtain⟨rfl,rfl⟩:=trodVars_none hV
 obtain⟨_,f0,a0,x0,k0,e0⟩:=zj3 op0 Try.underlying24 (hval 0 24 v0 rfl rfl) h0
 rw [e0]at a0
 obtain⟨_,f1,a1,x1,k1,e1⟩:=zj3 op6 Try.underlying27 (hval 1 27 v1 rfl rfl) h1
 rw [e1]at a1
 have m0:=h0
 have lt0: ∀x∈p0,x.block<W.heap.size:=by obtain⟨m,hm⟩:=m0;exact DataW.trod_lt m _ _ _ hm
 have m1:=h1
 have lt1: ∀x∈p1,x.block<W.heap.size:=by obtain⟨m,hm⟩:=m1;exact DataW.trod_lt m _ _ _ hm
 clear hA0 hval0
 refine(zqk (zfq x0 x1 true (znr x0 x1 k0 k1)) (by decide) sig (by simp) (by kernel_rfl) Try.func3 (t:=4) rfl (vs:= [v0,v1]) (w:=W) (by
  rw [Try.params3]
  exact zlu a0 (zlu a1 zqf))).mono fun e W' ⟨he,bel⟩=> ?_
 subst he
 exact⟨_,rfl,_,_,_, [],_, [],hW',trodAll_mk1 (shut_bool Try.underlying4 _),(trodAll_cons_mk (Below.trod zo1 (by kernel_rfl) (of_decide_eq_true (by kernel_rfl)) m0 bel lt0) (trodAll_cons_mk (Below.trod zo1 (by kernel_rfl) (of_decide_eq_true (by kernel_rfl)) m1 bel lt1) trodAll_mk0)),rfl,bel.frame _,fun h=>by cases h⟩
set_option maxHeartbeats 20000000 in
theorem ztQ:joinedFacts Try.prog 3 Try.f3 Rows.fnExactAddDiffSpec Rows.fnExactAddDiffRow=true:=by
 unfold joinedFacts
 repeat' with_reducible refine zsR ?_ ?_
 all_goals decide+kernel
theorem ztT:Try.prog.funcNamed "loop.example/g00850/laws.FnExactAddDiff" =some 3:=by kernel_rfl
theorem over:Rows.fnExactAddDiffRow.holds Try.pinned (OpenSpec.ofChange Rows.fnExactAddDiffSpec):=
 OpenClaim.holds_of_wide 3 Try.f3 rfl rfl rfl rfl rfl rfl rfl ⟨rfl,rfl,rfl,rfl,rfl⟩ rfl rfl rfl rfl rfl ztT Try.func3 ztQ
  (of_decide_eq_true (by kernel_rfl)) (by unfold Func.isWrapper;first|(rw [if_pos (by decide+kernel)];kernel_rfl)|(rw [if_neg (by decide+kernel)];exact⟨rfl,rfl⟩))
  (fun os started H enc _=>zsN os started H enc)
end Go.Proofs.Ythgeekoigbihbaa.fnExactAddDiffDone
namespace Go.Proofs.Ythgeekoigbihbaa
theorem fnExactAddDiffProved:Rows.FnExactAddDiffSaid:=fnExactAddDiffDone.over
#print axioms fnExactAddDiffProved
end Go.Proofs.Ythgeekoigbihbaa
end

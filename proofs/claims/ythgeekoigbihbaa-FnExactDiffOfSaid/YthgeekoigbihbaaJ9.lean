/- Parts of a proof, joined: NC, NI, NJ, LD, FFnExactDiffOf. -/
import Derived.Test.YthgeekoigbihbaaJ8
import Derived.Test.YthgeekoigbihbaaRows
import Derived.WalkKit
import Derived.ProofKit
import Derived.OpenShut
import Derived.ShutString
import Derived.ChangeOld
import Derived.Below
section
namespace Go.Proofs.Ythgeekoigbihbaa
open Go.RowKit Go.Sort
set_option maxRecDepth 100000
theorem zp6 {S α β σ:Type} {xs:List α} {body:S→Option (S ⊕ Option β)} (mk:Nat→σ→S) (g:σ→α→Option σ) (b:Option β) (fin:σ→Option β) (I:Nat→σ→Prop)
  (hs: ∀i acc (h:i<xs.length),I i acc→body (mk i acc)=some (match g acc xs[i]with|some a=> .inl (mk (i+1) a)|none=> .inr b)∧ ∀a,g acc xs[i]=some a→I (i+1) a)
  (he: ∀acc,I xs.length acc→body (mk xs.length acc)=some (.inr (fin acc))) (a0:σ) (h0:I 0 a0):zau body (mk 0 a0)=match xs.foldlM g a0 with|some a=>fin a|none=>b:=by
 have key: ∀n q acc,q+n=xs.length→I q acc→zau body (mk q acc)=match(xs.drop q).foldlM g acc with|some a=>fin a|none=>b:=by
  intro n
  induction n with
  |zero=>
   intro q acc hq hi
   have e:q=xs.length:=by omega
   subst e
   rw [zay,he acc hi,List.drop_length]
   rfl
  |succ n ih=>
   intro q acc hq hi
   have hl:q<xs.length:=by omega
   obtain⟨h1,h2⟩:=hs q acc hl hi
   rw [zay,h1,List.drop_eq_getElem_cons hl,List.foldlM_cons]
   cases hg:g acc xs[q]with
   |none=>rfl
   |some a=>exact ih (q+1) a (by omega) (h2 a hg)
 have:=key xs.length 0 a0 (by omega) h0
 rwa [List.drop_zero]at this
theorem zkM {α σ:Type} (g:σ→α→σ): ∀(xs:List α) (a:σ),xs.foldlM (m:=Option) (fun a x=>some (g a x)) a=some (xs.foldl g a)
 | [],_=>rfl
 |x::xs,a=>by rw [List.foldlM_cons,List.foldl_cons];exact zkM g xs (g a x)
theorem zjE {S α β σ:Type} {xs:List α} {body:S→Option (S ⊕ Option β)} (mk:Nat→σ→S) (g:σ→α→σ) (fin:σ→Option β) (I:Nat→σ→Prop)
  (hs: ∀i acc (h:i<xs.length),I i acc→body (mk i acc)=some (.inl (mk (i+1) (g acc xs[i])))∧I (i+1) (g acc xs[i]))
  (he: ∀acc,I xs.length acc→body (mk xs.length acc)=some (.inr (fin acc))) (a0:σ) (h0:I 0 a0):zau body (mk 0 a0)=fin (xs.foldl g a0):=by
 rw [zp6 mk (fun a x=>some (g a x)) none fin I (fun i acc h hi=>⟨(hs i acc h hi).1,fun a e=>by cases e;exact(hs i acc h hi).2⟩) he a0 h0,zkM]
theorem zs3 {α β:Type} {xs:List α} {body:Int→Option (Int ⊕ Option β)} (p:α→Bool) (fin:Int→Option β)
  (hs: ∀i (h:i<xs.length),body (i:Nat)=some (if p xs[i]=true then .inl ((i+1:Nat):Int)else .inr (fin (i:Nat)))) (he:body (xs.length:Nat)=some (.inr (fin (xs.length:Nat)))):zau body 0=fin (zdl p xs:Nat):=by
 have key: ∀n q,q+n=xs.length→zau body (q:Nat)=fin ((q+zdl p (xs.drop q):Nat):Int):=by
  intro n
  induction n with
  |zero=>
   intro q hq
   have e:q=xs.length:=by omega
   subst e
   rw [zay,he,List.drop_length];rfl
  |succ n ih=>
   intro q hq
   have hl:q<xs.length:=by omega
   rw [zay,hs q hl,List.drop_eq_getElem_cons hl]
   by_cases hp:p xs[q]=true
   ·rw [if_pos hp]
    have e:zdl p (xs[q]::xs.drop (q+1))=zdl p (xs.drop (q+1))+1:=by unfold zdl;rw [List.takeWhile_cons,if_pos hp];rfl
    rw [e,show q+(zdl p (xs.drop (q+1))+1)=(q+1)+zdl p (xs.drop (q+1)) by omega]
    exact ih (q+1) (by omega)
   ·rw [if_neg hp]
    have e:zdl p (xs[q]::xs.drop (q+1))=0:=by unfold zdl;rw [List.takeWhile_cons,if_neg hp];rfl
    rw [e];rfl
 have:=key xs.length 0 (by omega)
 rw [List.drop_zero,Nat.zero_add]at this
 exact this
def zhS (v:zeB):Bool:=inB v.fTime 1 100000&&zdP v.fVal v.fGone
def zlg (a b:zeB):Bool:=decide (a.fTime<b.fTime)
def zdf (l:List zeB):Bool:=inB (l.length:Int) 1 16&&(l.all zhS&&zbu zlg l)
def zbV (c:zat):Bool:=za6 c.fKey&&zdf c.fVers
def zlI (a b:zat):Bool:=bl a.fKey b.fKey
def zb8 (l:List zat):Bool:=decide ((l.length:Int)≤24)&&(l.all zbV&&zbu zlI l)
def zuv (c:zat):Prop:=c.fKey.length≤2000000∧c.fVers.length≤2000000∧ ∀v∈c.fVers,v.fVal.length≤2000000
def zkS (l:List zat):Prop:=l.length≤2000000∧ ∀c∈l,zuv c
theorem ztA {c:zat} (h:zuv c):zeX c=some (zdf c.fVers):=by
 obtain⟨_,h2,h3⟩:=h
 unfold zeX zdf
 rw [zg9 (xs:=c.fVers) (body:=fun s:Int=>zbi c s) zhS zlg false (zeJ c) (fun h0=> ?_) (fun i hi=> ?_) (by simp [zbi])]
 ·unfold zeJ
  simp only [zfT,Option.bind_some]
  cases c.fVers.all zhS<;>cases zbu zlg c.fVers<;>cases inB (c.fVers.length:Int) 1 16<;>rfl
 ·show zbi c 0=_
  unfold zbi zc2 zhS
  rw [if_pos (by simpa using h0),show(0:Int)=((0:Nat):Int)from rfl,zag h0,Option.bind_some]
  simp only [zfT,Option.bind_some,zii (h3 _ (List.getElem_mem h0))]
  cases inB c.fVers[0].fTime 1 100000<;>cases zdP c.fVers[0].fVal c.fVers[0].fGone<;>rfl
 ·show zbi c ((i+1:Nat):Int)=_
  unfold zbi zc2 zhS zlg
  rw [if_pos (by simp;omega),zag hi,Option.bind_some]
  simp only [zfT,Option.bind_some,zii (h3 _ (List.getElem_mem hi))]
  rw [zgL (by omega) (by omega),Nat.add_sub_cancel,zag (show i<c.fVers.length by omega),zbT hi (by omega)]
  have e:decide (c.fVers[i+1].fTime≤c.fVers[i].fTime)= !decide (c.fVers[i].fTime<c.fVers[i+1].fTime):=by rw [←decide_not,decide_eq_decide];omega
  simp only [Option.bind_some,e]
  rw [show decide (((i+1:Nat):Int)>0)=true by simp]
  cases inB c.fVers[i+1].fTime 1 100000<;>cases zdP c.fVers[i+1].fVal c.fVers[i+1].fGone<;>cases decide (c.fVers[i].fTime<c.fVers[i+1].fTime)<;>rfl
theorem zpy {c:zat} (h:zuv c):ze6 c=some (zbV c):=by
 obtain⟨h1,h2,h3⟩:=h
 unfold ze6 zbV zdf
 rw [zg9 (xs:=c.fVers) (body:=fun s:Int=>zbg c s) (fun v=>inB v.fTime 1 100000&&(za6 c.fKey&&zdP v.fVal v.fGone)) zlg false (zeG c) (fun h0=> ?_) (fun i hi=> ?_) (by simp [zbg])]
 ·unfold zeG
  simp only [ztG h1,zi2,Option.bind_some]
  cases hk:za6 c.fKey with
  |true=>
   have e:(c.fVers.all fun v=>inB v.fTime 1 100000&&(true&&zdP v.fVal v.fGone))=c.fVers.all zhS:=by congr 1
   rw [e]
   cases c.fVers.all zhS<;>cases zbu zlg c.fVers<;>cases inB (c.fVers.length:Int) 1 16<;>rfl
  |false=>split<;>simp
 ·show zbg c 0=_
  unfold zbg ze7
  rw [if_pos (by simpa using h0),show(0:Int)=((0:Nat):Int)from rfl,zag h0,Option.bind_some]
  simp only [zi2,Option.bind_some,zjB h1 (h3 _ (List.getElem_mem h0))]
  cases inB c.fVers[0].fTime 1 100000<;>cases(za6 c.fKey&&zdP c.fVers[0].fVal c.fVers[0].fGone)<;>rfl
 ·show zbg c ((i+1:Nat):Int)=_
  unfold zbg ze7 zlg
  rw [if_pos (by simp;omega),zag hi,Option.bind_some]
  simp only [zi2,Option.bind_some,zjB h1 (h3 _ (List.getElem_mem hi))]
  rw [zgL (by omega) (by omega),Nat.add_sub_cancel,zag (show i<c.fVers.length by omega),zbT hi (by omega)]
  have e:decide (c.fVers[i].fTime≥c.fVers[i+1].fTime)= !decide (c.fVers[i].fTime<c.fVers[i+1].fTime):=by rw [←decide_not,decide_eq_decide];omega
  simp only [Option.bind_some,e]
  rw [show decide (((i+1:Nat):Int)>0)=true by simp]
  cases inB c.fVers[i+1].fTime 1 100000<;>cases(za6 c.fKey&&zdP c.fVers[i+1].fVal c.fVers[i+1].fGone)<;>cases decide (c.fVers[i].fTime<c.fVers[i+1].fTime)<;>rfl
theorem zoc {α β:Type} {r:β→β→Bool} {f:α→β}: ∀l:List α,zbu r (l.map f)=zbu (fun a b=>r (f a) (f b)) l
 | []=>rfl
 | [_]=>rfl
 |x::y::l=>by
  show(r (f x) (f y)&&zbu r ((y::l).map f))=_
  rw [zoc (y::l)];rfl
theorem zsK {l:List zat} (h:zkS l):zdi l=some (zb8 l):=by
 have hn:=h.1
 unfold zdi
 rw [show((0:Int),([]:List Str))=(fun(i:Nat) (a:List Str)=>((i:Int),a)) 0 []from rfl,zp6 (xs:=l) (body:=fun s:Int × List Str=>zbs l s.1 s.2) (fun(i:Nat) (a:List Str)=>((i:Int),a)) (fun a c=>if zdf c.fVers=true then some (a++ [c.fKey])else none) (some false) (zcg l) (fun i a=>a.length=i) (fun i acc hi ha=> ?_) (fun acc ha=>by simp [zbs]) [] rfl]
 ·have hf: ∀(xs:List zat) (a:List Str),xs.foldlM (m:=Option) (fun a c=>if zdf c.fVers=true then some (a++ [c.fKey])else none) a=if(xs.all fun c=>zdf c.fVers)=true then some (a++xs.map (·.fKey))else none:=by
   intro xs
   induction xs with
   |nil=>intro a;simp
   |cons x xs ih=>
    intro a
    rw [List.foldlM_cons]
    by_cases hx:zdf x.fVers=true
    ·rw [if_pos hx]
     show xs.foldlM _ (a++ [x.fKey])=_
     rw [ih];simp [hx]
    ·rw [if_neg hx]
     simp [hx]
  rw [hf]
  unfold zb8
  by_cases hg:(l.all fun c=>zdf c.fVers)=true
  ·rw [if_pos hg]
   show zcg l _=_
   unfold zcg
   rw [List.nil_append,zkg (by simpa using hn) (fun k hk=>by obtain⟨c,hc,rfl⟩:=List.mem_map.1 hk;exact(h.2 c hc).1),zks,zoc]
   have e:(l.map (·.fKey)).all za6=l.all zbV:=by
    rw [List.all_map,Bool.eq_iff_iff]
    simp only [List.all_eq_true]at hg ⊢
    refine⟨fun q c hc=> ?_,fun q c hc=> ?_⟩
    ·unfold zbV;rw [hg c hc,Bool.and_true];exact q c hc
    ·have:=q c hc;unfold zbV at this;simp only [Bool.and_eq_true]at this;exact this.1
   rw [e]
   show(if decide ((l.length:Int)≤24)=true then(some (l.all zbV&&zbu zlI l)).bind fun v2=>some v2 else some false)=_
   cases decide ((l.length:Int)≤24)<;>rfl
  ·rw [if_neg hg]
   have e:l.all zbV=false:=by
    cases hc:l.all zbV
    ·rfl
    ·refine absurd ?_ hg
     simp only [List.all_eq_true]at hc ⊢
     intro c q
     have:=hc c q;unfold zbV at this;simp only [Bool.and_eq_true]at this;exact this.2
   rw [e];simp
 ·have ha:acc.length=i:=ha
  refine⟨?_,fun a e=> ?_⟩
  ·show zbs l (i:Int) acc=_
   unfold zbs
   rw [if_pos (by simpa using hi),zag hi,Option.bind_some,ztA (h.2 _ (List.getElem_mem hi)),Option.bind_some,zbT hi (by omega)]
   cases zdf l[i].fVers with
   |false=>rfl
   |true=>
    rw [if_neg (by simp),zaT (by simp;omega)]
    rfl
  ·split at e
   ·cases e;simp [ha]
   ·cases e
theorem ztl {l:List zat} (h:zkS l):zeV l=some (zb8 l):=by
 have hn:=h.1
 unfold zeV zb8
 rw [zg9 (xs:=l) (body:=fun s:Int=>zbh l s) zbV zlI false (zeH l) (fun h0=> ?_) (fun i hi=> ?_) (by simp [zbh])]
 ·unfold zeH
  cases l.all zbV<;>cases zbu zlI l<;>simp
 ·show zbh l 0=_
  unfold zbh
  rw [if_pos (by simpa using h0),show(0:Int)=((0:Nat):Int)from rfl,zag h0,Option.bind_some,zpy (h.2 _ (List.getElem_mem h0)),Option.bind_some]
  cases zbV l[0]<;>rfl
 ·show zbh l ((i+1:Nat):Int)=_
  unfold zbh zlI
  rw [if_pos (by simp;omega),zag hi,Option.bind_some,zpy (h.2 _ (List.getElem_mem hi)),Option.bind_some]
  rw [zgL (by omega) (by omega),Nat.add_sub_cancel,zag (show i<l.length by omega),zbT hi (by omega)]
  simp only [Option.bind_some]
  rw [show decide (((i+1:Nat):Int)>0)=true by simp]
  rw [show bl l[i].fKey l[i+1].fKey=Op.bytesLess l[i].fKey l[i+1].fKey from rfl]
  cases zbV l[i+1]<;>cases Op.bytesLess l[i].fKey l[i+1].fKey<;>rfl
end Go.Proofs.Ythgeekoigbihbaa
end
section
namespace Go.Proofs.Ythgeekoigbihbaa
open Go.RowKit Go.Sort
set_option maxRecDepth 100000
def zj2 (a u:Int) (v:zeB):Bool:=decide (v.fTime>a)&&decide (v.fTime≤u)
def zgf (g:Int) (c:zat) (v:zeB):zaa:=⟨v.fTime,g,c.fKey,v.fVal,v.fGone⟩
def zh1 (g a u:Int) (c:zat):List zaa:=(c.fVers.filter (zj2 a u)).map (zgf g c)
def zff (g a u:Int) (l:List zat):List zaa:=l.flatMap (zh1 g a u)
theorem ziH (g a u:Int) (c:zat):(zh1 g a u c).length≤c.fVers.length:=by
 unfold zh1;rw [List.length_map];exact List.length_filter_le _ _
theorem ziM {g a u:Int}: ∀{l:List zat},(∀c∈l,c.fVers.length≤16)→(zff g a u l).length≤16*l.length
 | [],_=>by simp [zff]
 |c::l,h=>by
  have h1:=ziH g a u c
  have h2:=h c (by simp)
  have h3:=ziM (g:=g) (a:=a) (u:=u) (l:=l) fun c hc=>h c (by simp [hc])
  unfold zff at*
  rw [List.flatMap_cons,List.length_append,List.length_cons];omega
def Few (l:List zat):Prop:=l.length≤24∧ ∀c∈l,c.fVers.length≤16
theorem znA {α β:Type} (p:α→Bool) (f:α→β): ∀(xs:List α) (a:List β),xs.foldl (fun a x=>if p x=true then a++ [f x]else a) a=a++(xs.filter p).map f
 | [],a=>by simp
 |x::xs,a=>by
  rw [List.foldl_cons,znA p f xs]
  by_cases h:p x=true
  ·rw [if_pos h,List.filter_cons_of_pos h];simp
  ·rw [if_neg h,List.filter_cons_of_neg h]
theorem zmc {α β:Type} (f:α→List β): ∀(xs:List α) (a:List β),xs.foldl (fun a x=>a++f x) a=a++xs.flatMap f
 | [],a=>by simp
 |x::xs,a=>by rw [List.foldl_cons,zmc f xs,List.flatMap_cons,List.append_assoc]
theorem zrm {s:zl8} {g a u:Int} (h:Few s.fCells):zei s g a u=some (zl3 (zff g a u s.fCells).toArray).toList:=by
 obtain⟨h1,h2⟩:=h
 unfold zei
 rw [show((0:Int),([]:List zaa))=(fun(i:Nat) (a:List zaa)=>((i:Int),a)) 0 []from rfl,zjE (xs:=s.fCells) (fun(i:Nat) (a:List zaa)=>((i:Int),a)) (fun acc c=>acc++zh1 g a u c) zd0 (fun i acc=>acc.length≤16*i) (fun i acc hi ha=> ?_) (fun acc ha=>by simp [zcU]) [] (by simp),zmc,List.nil_append]
 ·unfold zd0 zf3
  have hl:(zff g a u s.fCells).length≤400:=Nat.le_trans (ziM h2) (by omega)
  rw [zaT ⟨rfl,rfl,by show(zff g a u s.fCells).length<_;omega⟩]
  rfl
 ·have hv:=h2 _ (List.getElem_mem hi)
  refine⟨?_,by rw [List.length_append];have:=ziH g a u s.fCells[i];omega⟩
  show zcU s g a u (i:Int) acc=_
  unfold zcU
  rw [if_pos (by simpa using hi),zag hi,Option.bind_some]
  rw [show((0:Int),acc)=(fun(i:Nat) (a:List zaa)=>((i:Int),a)) 0 acc from rfl,zjE (xs:=s.fCells[i].fVers) (fun(i:Nat) (a:List zaa)=>((i:Int),a)) (fun acc v=>if zj2 a u v=true then acc++ [zgf g s.fCells[i] v]else acc) (fun acc=>zd6 (i:Int) acc) (fun k acc=>acc.length≤16*i+k) (fun k acc hk hb=> ?_) (fun acc hb=>by simp [zc1]) acc (by omega),znA]
  ·unfold zd6
   rw [zbT hi (by omega)];rfl
  ·have e:zc1 g a u (i:Int) s.fCells[i] (k:Int) acc=some (.inl (((k+1:Nat):Int),if zj2 a u s.fCells[i].fVers[k]=true then acc++ [zgf g s.fCells[i] s.fCells[i].fVers[k]]else acc)):=by
    unfold zc1
    rw [if_pos (by simpa using hk),zag hk,Option.bind_some,zbT hk (by omega)]
    unfold zj2
    by_cases hp:(decide (s.fCells[i].fVers[k].fTime>a)&&decide (s.fCells[i].fVers[k].fTime≤u))=true
    ·rw [if_pos hp,if_pos hp,zaT (by simp;omega)];rfl
    ·rw [if_neg hp,if_neg hp]
   refine⟨e, ?_⟩
   split
   ·simp;omega
   ·omega
def zlA (l:List zaa) (x:zaa):List zaa:=
 if h:zdl (fun y=>zaM y x) l<l.length then(if zaM x l[zdl (fun y=>zaM y x) l]=true then l.take (zdl (fun y=>zaM y x) l)++ [x]++l.drop (zdl (fun y=>zaM y x) l)else l)else l++ [x]
theorem zpT (l:List zaa) (x:zaa):(zlA l x).length≤l.length+1:=by
 unfold zlA
 split
 ·split
  ·simp;omega
  ·omega
 ·simp
theorem zw8 {l:List zaa} {x:zaa} (h:l.length≤2000000): ∃b,zdR l x=some (zlA l x,b):=by
 unfold zdR
 rw [zs3 (xs:=l) (body:=fun s:Int=>zcx l x s) (fun y=>zaM y x) (zde l x) (fun i hi=>by
  show zcx l x (i:Int)=_
  unfold zcx
  rw [if_pos (by simpa using hi),zag hi,Option.bind_some,zjF,Option.bind_some,zbT hi (by omega)]
  cases zaM l[i] x<;>rfl) (by simp [zcx])]
 have hp:=ziP (fun y=>zaM y x) l
 unfold zlA
 generalize zdl (fun y=>zaM y x) l=p at hp
 have w1:zho l 0 (p:Int)=l.take p:=by simp [zho]
 have w2:zho l (p:Int) (l.length:Int)=l.drop p:=by simp [zho]
 have l1:(l.take p).length=p:=by rw [List.length_take];omega
 have l2:(l.drop p).length=l.length-p:=by rw [List.length_drop]
 unfold zde
 rw [w1,w2]
 by_cases hl:p<l.length
 ·rw [if_pos (by simpa using hl),zag hl,Option.bind_some,zjF,Option.bind_some,dif_pos hl]
  cases zaM x l[p]with
  |false=>exact⟨_,rfl⟩
  |true=>
   rw [if_neg (by simp),if_pos rfl,zaT (by omega),zaT (by rw [l1];simp;omega),zaT (by rw [l1];simp;omega),zaT (by omega),zaT (by rw [List.length_append,l1,l2];simp;omega)]
   exact⟨_,rfl⟩
 ·have e:p=l.length:=by omega
  rw [if_neg (by simpa using hl),dif_neg hl,zaT (by omega),zaT (by rw [l1];simp;omega),zaT (by rw [l1];simp;omega),zaT (by omega),zaT (by rw [List.length_append,l1,l2];simp;omega)]
  subst e
  exact⟨true,by simp⟩
theorem zoC (p:zeB→Bool) (f:zeB→zaa): ∀(xs:List zeB) (a:List zaa),xs.foldl (fun a x=>if p x=true then zlA a (f x)else a) a=((xs.filter p).map f).foldl zlA a
 | [],a=>by simp
 |x::xs,a=>by
  rw [List.foldl_cons,zoC p f xs]
  by_cases h:p x=true
  ·rw [if_pos h,List.filter_cons_of_pos h];simp
  ·rw [if_neg h,List.filter_cons_of_neg h]
theorem zl0 {α β σ:Type} (f:α→List β) (g:σ→β→σ): ∀(xs:List α) (a:σ),xs.foldl (fun a x=>(f x).foldl g a) a=(xs.flatMap f).foldl g a
 | [],a=>by simp
 |x::xs,a=>by rw [List.foldl_cons,zl0 f g xs,List.flatMap_cons,List.foldl_append]
theorem zpz: ∀(xs l:List zaa),(xs.foldl zlA l).length≤l.length+xs.length
 | [],l=>by simp
 |x::xs,l=>by
  have h1:=zpz xs (zlA l x)
  have h2:=zpT l x
  rw [List.foldl_cons,List.length_cons];omega
theorem zuG {l:List zat} {g a u:Int} (h:Few l):zfu l g a u=some ((zff g a u l).foldl zlA []):=by
 obtain⟨h1,h2⟩:=h
 unfold zfu
 rw [show(([]:List zaa),(0:Int))=(fun(i:Nat) (a:List zaa)=>(a,(i:Int))) 0 []from rfl,zjE (xs:=l) (fun(i:Nat) (a:List zaa)=>(a,(i:Int))) (fun acc c=>(zh1 g a u c).foldl zlA acc) (fun acc=>some acc) (fun i acc=>acc.length≤16*i) (fun i acc hi ha=> ?_) (fun acc ha=>by simp [zdK]) [] (by simp),zl0]
 ·rfl
 ·have hv:=h2 _ (List.getElem_mem hi)
  refine⟨?_,by have:=zpz (zh1 g a u l[i]) acc;have:=ziH g a u l[i];omega⟩
  show zdK l g a u acc (i:Int)=_
  unfold zdK
  rw [if_pos (by simpa using hi)]
  rw [show(acc,(0:Int))=(fun(i:Nat) (a:List zaa)=>(a,(i:Int))) 0 acc from rfl,zjE (xs:=l[i].fVers) (fun(i:Nat) (a:List zaa)=>(a,(i:Int))) (fun acc v=>if zj2 a u v=true then zlA acc (zgf g l[i] v)else acc) (fun acc=>zfj (i:Int) acc) (fun k acc=>acc.length≤16*i+k) (fun k acc hk hb=> ?_) (fun acc hb=>by simp [zdN,zag hi]) acc (by omega),zoC]
  ·unfold zfj
   rw [zbT hi (by omega)];rfl
  ·have e:zdN l g a u (i:Int) acc (k:Int)=some (.inl ((if zj2 a u l[i].fVers[k]=true then zlA acc (zgf g l[i] l[i].fVers[k])else acc),((k+1:Nat):Int))):=by
    unfold zdN
    rw [zag hi,Option.bind_some,if_pos (by simpa using hk),zag hk,Option.bind_some,zbT hk (by omega)]
    unfold zj2
    obtain⟨b,hb'⟩:=zw8 (l:=acc) (x:=zgf g l[i] l[i].fVers[k]) (by omega)
    by_cases hp:(decide (l[i].fVers[k].fTime>a)&&decide (l[i].fVers[k].fTime≤u))=true
    ·rw [if_pos hp,if_pos hp]
     show(zdR acc (zgf g l[i] l[i].fVers[k])).bind _=_
     rw [hb'];rfl
    ·rw [if_neg hp,if_neg hp]
   refine⟨e, ?_⟩
   split
   ·have:=zpT acc (zgf g l[i] l[i].fVers[k]);omega
   ·omega
end Go.Proofs.Ythgeekoigbihbaa
end
section
namespace Go.Proofs.Ythgeekoigbihbaa
open Go.RowKit Go.Sort
set_option maxRecDepth 100000
def zsx (a b:zaa):Prop:=zaM a b=true∨zaM b a=true
theorem zsx.symm {a b:zaa} (h:zsx a b):zsx b a:=Or.symm h
theorem zsn (a b:zaa):zaM a b=ltI a b:=rfl
theorem zva {a b:zaa} (h:zaM a b=true):zaM b a=false:=by
 cases hb:zaM b a
 ·rfl
 ·have:=zhv h hb;rw [zjg]at this;cases this
theorem zsj {l:List zaa} {x:zaa} (hl:l.Pairwise fun a b=>zaM a b=true) (hx: ∀y∈l,zsx x y):((zlA l x).Pairwise fun a b=>zaM a b=true)∧(zlA l x).Perm (x::l):=by
 have e:zlA l x=l.take (zdl (fun y=>zaM y x) l)++x::l.drop (zdl (fun y=>zaM y x) l):=by
  unfold zlA
  split
  ·rename_i h
   have h1:=zmj h
   have h2:zaM x l[zdl (fun y=>zaM y x) l]=true:=by
    rcases hx _ (List.getElem_mem h)with h3|h3
    ·exact h3
    ·have h1:zaM l[zdl (fun y=>zaM y x) l] x=false:=h1
     rw [h1]at h3;cases h3
   rw [if_pos h2];simp
  ·rename_i h
   have:=ziP (fun y=>zaM y x) l
   have e:zdl (fun y=>zaM y x) l=l.length:=by omega
   rw [e];simp
 rw [e]
 have hd:l=l.take (zdl (fun y=>zaM y x) l)++l.drop (zdl (fun y=>zaM y x) l):=(List.take_append_drop _ _).symm
 have h1: ∀y∈l.take (zdl (fun y=>zaM y x) l),zaM y x=true:=by
  intro y hy
  obtain⟨i,hi,rfl⟩:=List.getElem_of_mem hy
  rw [List.getElem_take]
  exact zoT (lt:=fun y=>zaM y x) (l:=l) (i:=i) (by rw [List.length_take]at hi;omega)
 have h2: ∀y∈l.drop (zdl (fun y=>zaM y x) l),zaM x y=true:=by
  intro y hy
  by_cases hp:zdl (fun y=>zaM y x) l<l.length
  ·have h3:=zmj hp
   rw [List.drop_eq_getElem_cons hp]at hy
   have hdr:=hl
   rw [hd]at hdr
   have hdr:=(List.pairwise_append.1 hdr).2.1
   rw [List.drop_eq_getElem_cons hp]at hdr
   have hdr:=List.pairwise_cons.1 hdr
   have h4:zaM x l[zdl (fun y=>zaM y x) l]=true:=by
    rcases hx _ (List.getElem_mem hp)with h|h
    ·exact h
    ·have h3:zaM l[zdl (fun y=>zaM y x) l] x=false:=h3
     rw [h3]at h;cases h
   rcases List.mem_cons.1 hy with rfl|hy
   ·exact h4
   ·exact zhv h4 (hdr.1 y hy)
  ·rw [List.drop_eq_nil_of_le (by omega)]at hy;cases hy
 refine⟨?_, ?_⟩
 ·have hl':=hl
  rw [hd]at hl'
  obtain⟨a1,a2,a3⟩:=List.pairwise_append.1 hl'
  refine List.pairwise_append.2 ⟨a1,List.pairwise_cons.2 ⟨h2,a2⟩,fun y hy z hz=> ?_⟩
  rcases List.mem_cons.1 hz with rfl|hz
  ·exact h1 y hy
  ·exact a3 y hy z hz
 ·refine List.perm_middle.trans ?_
  rw [List.take_append_drop]
theorem zlL: ∀(xs l:List zaa),(l.Pairwise fun a b=>zaM a b=true)→xs.Pairwise zsx→(∀x∈xs,∀y∈l,zsx x y)→((xs.foldl zlA l).Pairwise fun a b=>zaM a b=true)∧(xs.foldl zlA l).Perm (xs++l)
 | [],l,h,_,_=>⟨h,List.Perm.refl _⟩
 |x::xs,l,h,hp,hr=>by
  have hp:=List.pairwise_cons.1 hp
  obtain⟨h1,h2⟩:=zsj h (hr x (by simp))
  obtain⟨h3,h4⟩:=zlL xs (zlA l x) h1 hp.2 (fun z hz y hy=>by
   rcases List.mem_cons.1 (h2.mem_iff.1 hy)with rfl|hy
   ·exact(hp.1 z hz).symm
   ·exact hr z (by simp [hz]) y hy)
  exact⟨h3,h4.trans ((List.Perm.append_left xs h2).trans List.perm_middle)⟩
theorem zl9: ∀{a b:List zaa},(a.Pairwise fun x y=>zaM x y=true)→(b.Pairwise fun x y=>zaM x y=true)→a.Perm b→a=b
 | [],b,_,_,h=>by rw [h.nil_eq]
 |x::a, [],_,_,h=>by have:=h.length_eq;simp at this
 |x::a,y::b,ha,hb,h=>by
  have ha':=List.pairwise_cons.1 ha
  have hb':=List.pairwise_cons.1 hb
  have e:x=y:=by
   rcases List.mem_cons.1 (h.mem_iff.1 (List.mem_cons_self ..))with h1|h1
   ·exact h1
   ·rcases List.mem_cons.1 (h.mem_iff.2 (List.mem_cons_self ..))with h2|h2
    ·exact h2.symm
    ·have:=zhv (ha'.1 y h2) (hb'.1 x h1)
     rw [zjg]at this;cases this
  subst e
  rw [zl9 ha'.2 hb'.2 (List.Perm.cons_inv h)]
theorem zl4 {l:List zaa} (h:l.Pairwise zsx):((zl3 l.toArray).toList.Pairwise fun a b=>zaM a b=true)∧(zl3 l.toArray).toList.Perm l:=by
 obtain⟨h1,h2,h3⟩:=zoj l.toArray
 have hp:(zl3 l.toArray).toList.Perm l:=by simpa using h1
 refine⟨?_,hp⟩
 have hr:(zl3 l.toArray).toList.Pairwise zsx:=(hp.pairwise_iff (fun{a b} h=>zsx.symm h)).2 h
 rw [List.pairwise_iff_getElem]at hr ⊢
 intro i j hi hj hij
 rcases hr i j hi hj hij with q|q
 ·exact q
 ·have hs:(zl3 l.toArray).size=l.length:=by simpa using h2
  have hi':i<(zl3 l.toArray).size:=by simpa using hi
  have hj':j<(zl3 l.toArray).size:=by simpa using hj
  have:=h3 i j (Nat.zero_le _) hij (by simpa [hs]using hj')
  rw [zjN,getElem!_pos _ j hj',getElem!_pos _ i hi']at this
  rw [zsn]at q
  simp only [Array.getElem_toList]at q
  rw [this]at q;cases q
theorem zrb {l:List zat} (h:zb8 l=true):Few l:=by
 unfold zb8 at h
 simp only [Bool.and_eq_true,decide_eq_true_eq,List.all_eq_true]at h
 refine⟨by omega,fun c hc=> ?_⟩
 have:=h.2.1 c hc
 unfold zbV zdf at this
 simp only [Bool.and_eq_true]at this
 have:=zeM.1 this.2.1
 omega
theorem zol {g a u:Int} {l:List zat} (h:zb8 l=true):(zff g a u l).Pairwise zsx:=by
 unfold zb8 at h
 simp only [Bool.and_eq_true,decide_eq_true_eq,List.all_eq_true]at h
 obtain⟨_,h2,h3⟩:=h
 have h3:=(zit (r:=zlI) (fun a b c h k=>zdJ h k)).1 h3
 unfold zff
 rw [List.pairwise_flatMap]
 refine⟨fun c hc=> ?_,h3.imp fun{c d} hcd x hx y hy=> ?_⟩
 ·have:=h2 c hc
  unfold zbV zdf at this
  simp only [Bool.and_eq_true]at this
  have hv:=(zit (r:=zlg) (fun a b c h k=>by unfold zlg at*;simp only [decide_eq_true_eq]at*;omega)).1 this.2.2.2
  unfold zh1
  rw [List.pairwise_map]
  refine(hv.filter _).imp fun{x y} hxy=> ?_
  unfold zlg at hxy
  rcases zms (zgf g c x) (zgf g c y)with q|q|q
  ·exact .inl q
  ·exact .inr q
  ·have q1:x.fTime=y.fTime:=q.1
   simp only [decide_eq_true_eq]at hxy;omega
 ·unfold zh1 at hx hy
  obtain⟨v,_,rfl⟩:=List.mem_map.1 hx
  obtain⟨w,_,rfl⟩:=List.mem_map.1 hy
  rcases zms (zgf g c v) (zgf g d w)with q|q|q
  ·exact .inl q
  ·exact .inr q
  ·exact absurd q.2.2 (zkm hcd)
theorem zqQ {g a u:Int} {l:List zat} (h:zb8 l=true):(zff g a u l).foldl zlA []=(zl3 (zff g a u l).toArray).toList:=by
 have hr:=zol (g:=g) (a:=a) (u:=u) h
 obtain⟨h1,h2⟩:=zlL (zff g a u l) [] .nil hr (by simp)
 obtain⟨h3,h4⟩:=zl4 hr
 exact zl9 h1 h3 ((by simpa using h2:((zff g a u l).foldl zlA []).Perm (zff g a u l)).trans h4.symm)
def zbN (g a u:Int) (l:List zat):List zaa:=(zl3 (zff g a u l).toArray).toList
def zlc (l:List zat) (a u:Int):zaV × Bool:=
 if zb8 l=true then(if zbJ ⟨a,u,zbN 0 a u l⟩=true then(⟨a,u,zbN 0 a u l⟩,true)else(⟨0,0, []⟩,false))else(⟨0,0, []⟩,false)
theorem zk6 {g a u:Int} {l:List zat} (h:zkS l) (hg:zb8 l=true):zia (zbN g a u l):=by
 obtain⟨_,h4⟩:=zl4 (zol (g:=g) (a:=a) (u:=u) hg)
 have hf:=zrb hg
 have hl:=ziM (g:=g) (a:=a) (u:=u) hf.2
 have:=hf.1
 refine⟨by unfold zbN;rw [h4.length_eq];omega,fun x hx=> ?_⟩
 have hx:=h4.mem_iff.1 hx
 obtain⟨c,hc,hx⟩:=List.mem_flatMap.1 hx
 unfold zh1 at hx
 obtain⟨v,hv,rfl⟩:=List.mem_map.1 hx
 have:=h.2 c hc
 exact⟨this.1,this.2.2 v (List.mem_filter.1 hv).1⟩
theorem zrC {l:List zat} {a u:Int} (h:zkS l):zdM l a u=some (zlc l a u):=by
 unfold zdM zlc
 rw [zsK h,Option.bind_some]
 cases hg:zb8 l with
 |false=>rfl
 |true=>
  rw [if_neg (by simp),if_pos rfl,zrm (s:=⟨0,l, [], []⟩) (zrb hg),Option.bind_some]
  unfold zf6
  have hs:=zk6 (g:=0) (a:=a) (u:=u) h hg
  show((zcb ⟨a,u,zbN 0 a u l⟩).bind _).bind _=_
  rw [zrq (d:=⟨a,u,zbN 0 a u l⟩) hs,Option.bind_some]
  cases zbJ ⟨a,u,zbN 0 a u l⟩<;>rfl
theorem zrB {l:List zat} {a u:Int} (h:zkS l) (ha: -9223372036854775808≤a∧a≤9223372036854775807):zeW l a u=some (zlc l a u):=by
 unfold zeW zlc
 rw [ztl h,Option.bind_some]
 cases hg:zb8 l with
 |false=>rfl
 |true=>
  rw [if_neg (by simp),if_pos rfl,zuG (zrb hg),Option.bind_some,zqQ hg]
  unfold zgA
  have hs:=zk6 (g:=0) (a:=a) (u:=u) h hg
  show((zcy ⟨a,u,zbN 0 a u l⟩).bind _).bind _=_
  rw [zsu (d:=⟨a,u,zbN 0 a u l⟩) hs ha,Option.bind_some]
  cases zbJ ⟨a,u,zbN 0 a u l⟩<;>rfl
end Go.Proofs.Ythgeekoigbihbaa
end
section
namespace Go.Proofs.Ythgeekoigbihbaa
open Go.RowKit
set_option maxRecDepth 100000
theorem znB {c:zaa} (h:zbX c=true):zaE c≤36:=by
 unfold zbX za6 zdP zgJ at h
 simp only [Bool.and_eq_true,decide_eq_true_eq]at h
 have h1:=zeM.1 h.2.2.1.1
 have h2:=h.2.2.2.1.1
 unfold zaE
 omega
theorem znZ {d:zaV} (h:zbJ d=true):zbK d≤10000:=by
 unfold zbJ zeO at h
 simp only [Bool.and_eq_true,decide_eq_true_eq]at h
 have h1:=h.2.2.2.1
 have:=zrs (f:=zaE) (n:=36) fun w hw=>znB (List.all_eq_true.1 h.2.2.2.2.1.2.1 w hw)
 unfold zbK zas
 omega
theorem zp9 (l:List zat) (a u:Int):zbK (zlc l a u).1≤10000:=by
 unfold zlc
 split
 ·split
  ·rename_i h;exact znZ h
  ·simp [zbK,zas]
 ·simp [zbK,zas]
theorem zsv {l:List zat} (h:zbm l≤2000000):zkS l:=by
 unfold zbm at h
 refine⟨by omega,fun c hc=> ?_⟩
 have h1:=zdy (tot:=zbx) hc
 have e:zbx c=c.fKey.length+zbU c.fVers:=rfl
 have e2:zbU c.fVers=c.fVers.length+(c.fVers.map zdZ).sum:=rfl
 refine⟨by omega,by omega,fun v hv=> ?_⟩
 have h2:=zdy (tot:=zdZ) hv
 have e3:zdZ v=v.fVal.length:=rfl
 omega
theorem zrv (a0:List zat) (a1:Int) (a2:Int) (h0:(okL zoh) a0) (h1:zjm a1) (h2:zjm a2):zbW a0 a1 a2=some true:=by
 unfold zbW
 obtain⟨b0,e0,g0,r0⟩:=ztv (xs:=a0) (a:=1048576) (by omega) (by omega) h0
 rw [e0,Option.bind_some]
 by_cases q0:b0<0
 ·rw [if_pos (by simpa using q0)]
 rw [if_neg (by simpa using q0)]
 have s0:=r0 (by omega)
 have t0:zbm a0≤2000000:=by omega
 have hw:zkS a0:=zsv t0
 have vs:=zrB (l:=a0) (a:=a1) (u:=a2) hw h1
 have vi:=zrC (l:=a0) (a:=a1) (u:=a2) hw
 have tw:=zp9 a0 a1 a2
 generalize zlc a0 a1 a2=w at vs vi tw
 have c0:=zo9 a0
 have c2:=zlX w.1
 obtain⟨x0, -,m0⟩:=zqp (xs:=a0) (k:=1) (by omega) (by omega) t0
 obtain⟨x2,m2,n2⟩:=zom (x:=w.1) (k:=1) (by omega) (by omega) (by omega)
 have p1:decide ((1:Int)+(zgu a0:Nat)<0)=false:=by simp;omega
 have p2:decide ((1:Int)+(zeq w.1:Nat)<0)=false:=by simp;omega
 simp only [zsL t0,vs,vi,zs5 t0,zrr (show zbK w.1≤2000000 by omega),m0,m2,n2,p1,p2,bne_self_eq_false,Option.bind_some,Bool.not_true,Bool.or_false,Bool.false_eq_true,if_false]
end Go.Proofs.Ythgeekoigbihbaa
end
section
namespace Go.Proofs.Ythgeekoigbihbaa.fnExactDiffOfDone
open Go.ChangeShapes Go.WideShapes Go.ChangeAt Go.RowKit
open Go.Proofs.Ythgeekoigbihbaa
set_option linter.unusedVariables false
theorem own:ownKnob Try.prog.godebug=none:=by kernel_rfl
theorem zo7:laidOutB Try.prog=true:=by kernel_rfl
theorem sig:sgs 5=some {modes:= [],res:= [false],dp:=true}:=by kernel_rfl
set_option maxRecDepth 100000 in
theorem zvE (os:Os) (started:os.Started) (H:Type) (enc:TypeId × Value→H):
  ReturnsInHanded {} Try.checked os 5 .any (Rows.fnExactDiffOfSpec.pre6 enc Try.prog Try.f5 Rows.fnExactDiffOfRow.domain false) (Rows.fnExactDiffOfSpec.post enc Try.prog Try.f5 false true false false):=by
 refine returnsInHanded_of_change (C:=Try.checked) own started (by kernel_rfl) Try.func5
  (ChangeSpec.witness6 (enc:=enc) (C:=Try.checked) false ⟨#[], #[.slice none 0 0, .int .i64 0, .int .i64 0], []⟩ 8 (by kernel_rfl) (by kernel_rfl) (by kernel_rfl) (by kernel_rfl)) ?_
 intro W base args ds gs before hval0 hW hcnd _
 have hval: ∀(j:Nat) t v,Try.f5.params[j]?=some t→args[j]?=some v→Value.okWide Try.prog W .any base t v:=hval0
 have hW':=hW
 obtain⟨p,q,hA0,hV,rfl,hfz,hnd⟩:=hW
 have hA:DataW.TrodAll enc Try.prog W 0 (fun _=>true) true Try.f5.params.toList args.toList ds p:=hA0
 rw [Try.params5]at hA hval
 obtain⟨v0,vs0,d0,ds0,p0,q0,hargs,rfl,rfl,h0,r0⟩:=trodAll_cons hA
 obtain⟨v1,vs1,d1,ds1,p1,q1,rfl,rfl,rfl,h1,r1⟩:=trodAll_cons r0
 obtain⟨v2,vs2,d2,ds2,p2,q2,rfl,rfl,rfl,h2,r2⟩:=trodAll_cons r1
 obtain⟨rfl,rfl,rfl⟩:=trodAll_nil r2
 obtain rfl:args= #[v0,v1,v2]:=by cases args;simp_all
 obtain⟨rfl,rfl⟩:=trodVars_none hV
 obtain⟨_,f0,a0,x0,k0,e0⟩:=zrU op9 Try.underlying54 (hval 0 54 v0 rfl rfl) h0
 obtain rfl:=(List.cons.inj e0).1
 obtain⟨_,f1,a1,x1,k1,e1⟩:=zrc op1 Try.underlying3 (hval 1 3 v1 rfl rfl) h1
 obtain rfl:=(List.cons.inj e1).1
 obtain⟨_,f2,a2,x2,k2,e2⟩:=zrc op1 Try.underlying3 (hval 2 3 v2 rfl rfl) h2
 obtain rfl:=(List.cons.inj e2).1
 have m0:=h0
 have lt0: ∀x∈p0,x.block<W.heap.size:=by obtain⟨m,hm⟩:=m0;exact DataW.trod_lt m _ _ _ hm
 have m1:=h1
 have lt1: ∀x∈p1,x.block<W.heap.size:=by obtain⟨m,hm⟩:=m1;exact DataW.trod_lt m _ _ _ hm
 have m2:=h2
 have lt2: ∀x∈p2,x.block<W.heap.size:=by obtain⟨m,hm⟩:=m2;exact DataW.trod_lt m _ _ _ hm
 clear hA0 hval0
 refine(zsJ (zhe x0 x1 x2 true (zrv x0 x1 x2 k0 k1 k2)) (by decide) sig (by simp) (by kernel_rfl) Try.func5 (t:=4) rfl (vs:= [v0,v1,v2]) (w:=W) (by
  rw [Try.params5]
  exact zjO a0 (zjO a1 (zjO a2 zs2)))).mono fun e W' ⟨he,bel⟩=> ?_
 subst he
 exact⟨_,rfl,_,_,_, [],_, [],hW',trodAll_mk1 (shut_bool Try.underlying4 _),(trodAll_cons_mk (Below.trod zo7 (by kernel_rfl) (of_decide_eq_true (by kernel_rfl)) m0 bel lt0) (trodAll_cons_mk (Below.trod zo7 (by kernel_rfl) (of_decide_eq_true (by kernel_rfl)) m1 bel lt1) (trodAll_cons_mk (Below.trod zo7 (by kernel_rfl) (of_decide_eq_true (by kernel_rfl)) m2 bel lt2) trodAll_mk0))),rfl,bel.frame _,fun h=>by cases h⟩
set_option maxHeartbeats 20000000 in
theorem zxw:joinedFacts Try.prog 5 Try.f5 Rows.fnExactDiffOfSpec Rows.fnExactDiffOfRow=true:=by
 unfold joinedFacts
 repeat' with_reducible refine zwp ?_ ?_
 all_goals decide+kernel
theorem zxg:Try.prog.funcNamed "loop.example/g00850/laws.FnExactDiffOf" =some 5:=by kernel_rfl
theorem over:Rows.fnExactDiffOfRow.holds Try.pinned (OpenSpec.ofChange Rows.fnExactDiffOfSpec):=
 OpenClaim.holds_of_wide 5 Try.f5 rfl rfl rfl rfl rfl rfl rfl ⟨rfl,rfl,rfl,rfl,rfl⟩ rfl rfl rfl rfl rfl zxg Try.func5 zxw
  (of_decide_eq_true (by kernel_rfl)) (by unfold Func.isWrapper;first|(rw [if_pos (by decide+kernel)];kernel_rfl)|(rw [if_neg (by decide+kernel)];exact⟨rfl,rfl⟩))
  (fun os started H enc _=>zvE os started H enc)
end Go.Proofs.Ythgeekoigbihbaa.fnExactDiffOfDone
namespace Go.Proofs.Ythgeekoigbihbaa
theorem fnExactDiffOfProved:Rows.FnExactDiffOfSaid:=fnExactDiffOfDone.over
#print axioms fnExactDiffOfProved
end Go.Proofs.Ythgeekoigbihbaa
end

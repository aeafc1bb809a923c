/- Parts of a proof, joined: Lib, Op, VA, VB, V1, VC, OA, VD, VE, VF, VGa, Lib2, V0. -/
import Derived.WalkKit
import Derived.WalkLawsBesides
import Derived.WalkSpells
import Derived.Lib.Hide
import Derived.Deep.Quiet
import Derived.ProofKit
import Derived.OpenShut
import Derived.ChangeOld
import Derived.Below
set_option linter.unusedVariables false
set_option linter.unusedSimpArgs false
namespace Go.Proofs.YtalagilebkaegaaGreat
section
open Go.RowKit
theorem AN(n:Nat):n<=n:=Nat.le_refl n
theorem Cf.{u}{α:Type u}(i:Nat)(l:List α):l.take i++l.drop i=l:=List.take_append_drop i l
theorem AM.{u}{α:Type u}[BEq α][LawfulBEq α]{a b:α}:(a==b)=true↔a=b:=beq_iff_eq
theorem BH.{u}{α:Type u}{a:α}{n:Nat}{l:List α}(h:a∈l.drop n):a∈l:=List.mem_of_mem_drop h
theorem Bt.{u}{α:Type u}{a:α}{n:Nat}{l:List α}(h:a∈l.take n):a∈l:=List.mem_of_mem_take h
theorem By{m n:Nat}(k:Nat)(h:m<=n):m*k<=n*k:=Nat.mul_le_mul_right k h
theorem Bl.{u}{α:Type u}{i:Nat}{l:List α}(h:i<l.length):l.drop i=l[i]::l.drop (i+1):=List.drop_eq_getElem_cons h
theorem AI{p:Prop}[Decidable p]:(decide p=true)=p:=decide_eq_true_eq
theorem AB.{u}{α:Type u}(l:List α):l++[]=l:=List.append_nil l
theorem Ar.{u}{α:Type u}{i:Nat}{l:List α}:(l.take i).length=min i l.length:=List.length_take
theorem Ay.{u}{α:Type u}{l:List α}{n:Nat}(h:n<l.length):l[n]∈l:=List.getElem_mem h
theorem Br.{u}{α:Type u}{l:List α}{i:Nat}(h:i<l.length):l[i]?=some l[i]:=List.getElem?_eq_getElem h
theorem Au.{u,v}{α:Type u}{β:Type v}{o:Option α}{f:α->Option β}{b:β}:o.bind f=some b↔∃a,o=some a/\f a=some b:=Option.bind_eq_some_iff
theorem Bd.{u}{α:Type u}{a:α}{l:List α}:(a::l).length=l.length+1:=List.length_cons
theorem AH.{u}{α:Type u}{s t:List α}:(s++t).length=s.length+t.length:=List.length_append
theorem Ac.{u}{α:Type u}{a:α}{s t:List α}:a∈s++t↔a∈s\/a∈t:=List.mem_append
theorem Ae.{u}{α:Type u}{a b:α}{l:List α}:a∈b::l↔a=b\/a∈l:=List.mem_cons
theorem Ad.{u}{α:Type u}(a b:α):(some a=some b)=(a=b):=Option.some.injEq a b
theorem Ab(a b:Bool):((a&&b)=true)=(a=true/\b=true):=Bool.and_eq_true a b
structure Mod(S:List Nat)(w w':World):Prop where
 os:w'.os=w.os
 tape:w'.tape=w.tape
 output:w'.output=w.output
 size:w.heap.size<=w'.heap.size
 block:∀k,k<w.heap.size->k∉S->w'.heap[k]?=w.heap[k]?
theorem Mod.below{w w':World}(h:Mod [] w w'):Below w.heap.size w w':=
 ⟨h.os,h.tape,h.output,h.size,λk hk=>h.block k hk (by simp)⟩
theorem Mod.refl(S:List Nat)(w:World):Mod S w w:=⟨rfl,rfl,rfl,AN _,λ_ _ _=>rfl⟩
theorem Mod.trans{S S':List Nat}{a b c:World}(h:Mod S a b)(k:Mod S' b c)(hs:∀x∈S',x∈S\/a.heap.size<=x):Mod S a c:=
 ⟨k.os.trans h.os,k.tape.trans h.tape,k.output.trans h.output,Nat.le_trans h.size k.size,λi hi hn=>
  (k.block i (Nat.lt_of_lt_of_le hi h.size) (λhm=>by rcases hs i hm with h1|h1;exact hn h1;omega)).trans (h.block i hi hn)⟩
theorem Mod.weaken{S S':List Nat}{a b:World}(h:Mod S a b)(hs:∀x∈S,x∈S'\/a.heap.size<=x):Mod S' a b:=
 ⟨h.os,h.tape,h.output,h.size,λi hi hn=>h.block i hi (λhm=>by rcases hs i hm with h1|h1;exact hn h1;omega)⟩
theorem Mod.drew{S:List Nat}{a w:World}(h:Mod S a w):Mod S a w.drew:=⟨h.os,h.tape,h.output,h.size,h.block⟩
theorem Mod.alloc{S:List Nat}{a w:World}(h:Mod S a w)(o:Obj):Mod S a (w.alloc o):=
 h.trans (S':=[]) ⟨rfl,rfl,rfl,by simp,λk hk _=>Below.heap_alloc _ _ _ hk⟩ (by simp)
theorem Mod.setCell{S:List Nat}{a w:World}(h:Mod S a w){p:Addr}(hp:p.block∈S\/a.heap.size<=p.block)(u:Value):Mod S a (w.setCell p u):=
 h.trans (S':=[p.block]) ⟨rfl,rfl,rfl,by simp[World.setCell],λk _ hk=>Below.heap_setCell _ _ _ _ (by simpa using hk)⟩ (by simpa using hp)
theorem Mod.cell{S:List Nat}{w w':World}(h:Mod S w w'){p:Addr}(hp:p.block<w.heap.size)(hn:p.block∉S):w'.cell? p=w.cell? p:=World.cell?_of_block (w:=w) (h.block p.block hp hn)
theorem Mod.frozen{S:List Nat}{w w':World}(h:Mod S w w'){p:Addr}(hp:p.block<w.heap.size)(hn:p.block∉S):w'.frozen? p=w.frozen? p:=World.frozen?_of_block (w:=w) (h.block p.block hp hn)
structure GT(α:Type)where
 size:Nat
 rd:World->List Value->α->List Nat->Prop
 len:∀{w cs x fp},rd w cs x fp->cs.length=size
 frame:∀{w w' cs x fp},(∀b∈fp,w'.heap[b]?=w.heap[b]?)->rd w cs x fp->rd w' cs x fp
 inb:∀{w cs x fp},rd w cs x fp-> ∀b∈fp,b<w.heap.size
 one:∀{w cs x fp},rd w cs x fp-> ∀u∈cs,u.oneCell'=true
def G7{α:Type}(T:GT α)(w:World)(b o:Nat)(xs:List α)(fps:List (List Nat)):Prop:=
 fps.length=xs.length/\ ∀i x fp,xs[i]?=some x->fps[i]?=some fp-> ∃cs,T.rd w cs x fp/\ ∀j v,cs[j]?=some v->w.cell? ⟨b,o+i*T.size+j,none⟩=some v
def EA{α:Type}(T:GT α)(w:World)(a:Option Addr)(n:Nat)(xs:List α)(fp:List Nat):Prop:=
 xs.length=n/\((xs=[]/\fp=[])\/ ∃b o fps,a=some ⟨b,o,none⟩/\fp=b::fps.flatten/\b<w.heap.size/\G7 T w b o xs fps)
theorem G7.frame{α:Type}{T:GT α}{w w':World}{b o:Nat}{xs:List α}{fps:List (List Nat)}(hb:w'.heap[b]?=w.heap[b]?)(hf:∀k∈fps.flatten,w'.heap[k]?=w.heap[k]?)(h:G7 T w b o xs fps):G7 T w' b o xs fps:=by refine⟨h.1,λi x fp hx D0=> ?_⟩;obtain⟨cs,h1,h2⟩:=h.2 i x fp hx D0;refine⟨cs,T.frame (λk hk=>hf k (List.mem_flatten.2 ⟨fp,List.mem_of_getElem? D0,hk⟩)) h1,λj v hv=> ?_⟩;rw[World.cell?_of_block (w:=w) hb];exact h2 j v hv
theorem G7.inb{α:Type}{T:GT α}{w:World}{b o:Nat}{xs:List α}{fps:List (List Nat)}(h:G7 T w b o xs fps):∀k∈fps.flatten,k<w.heap.size:=by intro k hk;obtain⟨fp,D0,hk⟩:=List.mem_flatten.1 hk;obtain⟨i,hi,rfl⟩:=List.mem_iff_getElem.1 D0;obtain⟨cs,h1,_⟩:=h.2 i (xs[i]'(by rw[<-h.1];exact hi)) fps[i] (by simp) (by simp);exact T.inb h1 k hk
theorem EA.frame{α:Type}{T:GT α}{w w':World}{a:Option Addr}{n:Nat}{xs:List α}{fp:List Nat}(hf:∀k∈fp,w'.heap[k]?=w.heap[k]?)(h:EA T w a n xs fp):EA T w' a n xs fp:=by
 refine⟨h.1,?_⟩;rcases h.2 with h|⟨b,o,fps,ha,rfl,hb,h⟩
 ·exact Or.inl h
 ·have e:=hf b (by simp);refine Or.inr ⟨b,o,fps,ha,rfl,?_,h.frame e (λk hk=>hf k (by simp[hk]))⟩;rcases Nat.lt_or_ge b w'.heap.size with h'|h'
  ·exact h'
  ·rw[Array.getElem?_eq_none h',Array.getElem?_eq_getElem hb]at e;cases e
theorem EA.inb{α:Type}{T:GT α}{w:World}{a:Option Addr}{n:Nat}{xs:List α}{fp:List Nat}(h:EA T w a n xs fp):∀k∈fp,k<w.heap.size:=by
 rcases h.2 with h|⟨b,o,fps,ha,rfl,hb,h⟩
 ·simp[h.2]
 ·intro k hk;rcases Ae.1 hk with rfl|hk
  ·exact hb
  ·exact h.inb k hk
theorem EA.at{α:Type}{T:GT α}{w:World}{a:Option Addr}{n:Nat}{xs:List α}{fp:List Nat}(h:EA T w a n xs fp){k:Nat}{x:α}(hx:xs[k]?=some x):
  ∃b o cs f,a=some ⟨b,o,none⟩/\b<w.heap.size/\b∈fp/\T.rd w cs x f/\(∀q∈f,q∈fp)/\ ∀j v,cs[j]?=some v->w.cell? ⟨b,o+k*T.size+j,none⟩=some v:=by
 have hk:k<xs.length:=by
  rcases Nat.lt_or_ge k xs.length with h|h
  ·exact h
  ·simp[List.getElem?_eq_none h]at hx
 rcases h.2 with⟨rfl,_⟩|⟨b,o,fps,rfl,rfl,hb,he⟩
 ·simp at hk
 have Cw:k<fps.length:=by rw[he.1];exact hk
 obtain⟨cs,h1,h2⟩:=he.2 k x fps[k] hx (by simp);exact⟨b,o,cs,fps[k],rfl,hb,by simp,h1,λq hq=>List.mem_cons_of_mem _ (List.mem_flatten.2 ⟨_,Ay Cw,hq⟩),h2⟩
theorem EA.len{α:Type}{T:GT α}{w:World}{a:Option Addr}{n:Nat}{xs:List α}{fp:List Nat}(h:EA T w a n xs fp):xs.length=n:=h.1
def GT.via{α β:Type}(T:GT β)(f:α->β):GT α where
 size:=T.size
 rd:=λw cs x fp=>T.rd w cs (f x) fp
 len:=λh=>T.len h
 frame:=λhf h=>T.frame hf h
 inb:=λh=>T.inb h
 one:=λh=>T.one h
def Own(B:Nat)(w:World)(fp:List Nat):Prop:=fp.Nodup/\ ∀b∈fp,B<=b/\ ∃c t,w.heap[b]?=some (.cells c t (0,0))
theorem Own.nil(B:Nat)(w:World):Own B w []:=⟨by simp,by simp⟩
theorem Own.frame{B:Nat}{w w':World}{fp:List Nat}(hf:∀k∈fp,w'.heap[k]?=w.heap[k]?)(h:Own B w fp):Own B w' fp:=
 ⟨h.1,λb hb=>⟨(h.2 b hb).1,by rw[hf b hb];exact(h.2 b hb).2⟩⟩
theorem Own.mono{B B':Nat}{w:World}{fp:List Nat}(h:Own B w fp)(hB:B'<=B):Own B' w fp:=⟨h.1,λb hb=>⟨Nat.le_trans hB (h.2 b hb).1,(h.2 b hb).2⟩⟩
theorem Own.lt{B:Nat}{w:World}{fp:List Nat}(h:Own B w fp):∀b∈fp,b<w.heap.size:=by
 intro b hb;obtain⟨_,c,t,e⟩:=h.2 b hb;rcases Nat.lt_or_ge b w.heap.size with h'|h'
 ·exact h'
 ·simp[Array.getElem?_eq_none h']at e
def putCells(w:World)(b i:Nat):List Value->World
 | []=>w
 |v::vs=>putCells (w.setCell ⟨b,i,none⟩ v) b (i+1) vs
theorem jI:∀(cs:List Value) (w:World) (b i:Nat) (C:Array Value) (t:TypeId),w.heap[b]?=some (.cells C t (0,0))->i+cs.length<=C.size->
  Mod [b] w (putCells w b i cs)/\ ∃C',(putCells w b i cs).heap[b]?=some (.cells C' t (0,0))/\C'.size=C.size/\(∀j v,cs[j]?=some v->C'[i+j]?=some v)/\ ∀q,q<i\/i+cs.length<=q->C'[q]?=C[q]?:=by
 intro cs
 induction cs with
 |nil=>intro w b i C t h hs;exact⟨Mod.refl _ _,C,h,rfl,by simp,λ_ _=>rfl⟩
 |cons v vs ih=>
  intro w b i C t h hs;simp only[Bd]at hs;have h1:=heap_setCell_same w b i C t v h;obtain⟨hm,C',e1,e2,e3,e4⟩:=ih (w.setCell ⟨b,i,none⟩ v) b (i+1) _ t h1 (by simp;omega);refine⟨((Mod.refl [b] w).setCell (by simp) v).trans hm (by simp),C',e1,by simpa using e2,λj u hj=> ?_,λq hq=> ?_⟩
  ·cases j with
   |zero=>simp at hj;subst hj;rw[Nat.add_zero,e4 i (by omega)];rw[Array.getElem?_setIfInBounds];simp;omega
   |succ j=>have:=e3 j u (by simpa using hj);rw[show i+(j+1)=i+1+j from by omega];exact this
  ·simp only[Bd]at hq;rw[e4 q (by omega),Array.getElem?_setIfInBounds];rw[if_neg (by omega)]
theorem ED{w:World}{b i:Nat}{C:Array Value}{t:TypeId}{f:Nat × Nat}(h:w.heap[b]?=some (.cells C t f)):w.cell? ⟨b,i,none⟩=C[i]?:=by simp[World.cell?,h]
theorem Zb{w:World}{b i:Nat}{C:Array Value}{t:TypeId}(h:w.heap[b]?=some (.cells C t (0,0))):w.frozen? ⟨b,i,none⟩=false:=by simp[World.frozen?,h]
theorem De{w:World}{b:Nat}{o:Obj}(h:w.heap[b]?=some o):b<w.heap.size:=lt_of_block h
theorem G7.nil{α:Type}(T:GT α)(w:World)(b o:Nat):G7 T w b o [] []:=⟨rfl,by simp⟩
theorem G7.snoc{α:Type}{T:GT α}{w w':World}{b o:Nat}{xs:List α}{fps:List (List Nat)}{x:α}{fp:List Nat}{cs:List Value}(h:G7 T w b o xs fps)
  (hc:∀i,i<xs.length*T.size->w'.cell? ⟨b,o+i,none⟩=w.cell? ⟨b,o+i,none⟩) (hf:∀k∈fps.flatten,w'.heap[k]?=w.heap[k]?)
  (hx:T.rd w' cs x fp) (hn:∀j v,cs[j]?=some v->w'.cell? ⟨b,o+xs.length*T.size+j,none⟩=some v):G7 T w' b o (xs++ [x]) (fps++ [fp]):=by
 refine⟨by simp[h.1],λi y f hy D0=> ?_⟩;rcases Nat.lt_trichotomy i xs.length with hi|hi|hi
 ·have BN:xs[i]?=some y:=by rwa[List.getElem?_append_left hi]at hy
  have TO:fps[i]?=some f:=by rwa[List.getElem?_append_left (by rw[h.1];exact hi)]at D0
  obtain⟨c,h1,h2⟩:=h.2 i y f BN TO;refine⟨c,T.frame (λk hk=>hf k (List.mem_flatten.2 ⟨f,List.mem_of_getElem? TO,hk⟩)) h1,λj v hv=> ?_⟩;have hj:j<T.size:=by
   rw[<-T.len h1];rcases Nat.lt_or_ge j c.length with h|h
   ·exact h
   ·simp[List.getElem?_eq_none h]at hv
  have:=hc (i*T.size+j) (by have:(i+1)*T.size<=xs.length*T.size:=By _ hi;rw[Nat.add_mul]at this;omega)
  rw[show o+i*T.size+j=o+(i*T.size+j)from by omega,this,<-Nat.add_assoc];exact h2 j v hv
 ·subst hi;simp at hy;subst hy;rw[List.getElem?_append_right (by rw[h.1];exact AN _),h.1]at D0;simp at D0;subst D0;exact⟨cs,hx,hn⟩
 ·rw[List.getElem?_eq_none (by simp;omega)]at hy;cases hy
structure Od{α:Type}(T:GT α)(B:Nat)(w:World)(b:Nat)(t:TypeId)(tot:Nat)(xs:List α)(fps:List (List Nat)):Prop where
 blk:∃C,w.heap[b]?=some (.cells C t (0,0))/\C.size=tot
 rd:G7 T w b 0 xs fps
 own:Own B w (b::fps.flatten)
theorem Od.step{α:Type}{T:GT α}{B:Nat}{w w1:World}{b:Nat}{t:TypeId}{tot:Nat}{xs:List α}{fps:List (List Nat)}{x:α}{cs:List Value}{fp:List Nat}
  (h:Od T B w b t tot xs fps) (hm:Mod [] w w1) (hx:T.rd w1 cs x fp) (ho:Own w.heap.size w1 fp) (hB:B<=w.heap.size) (hs:(xs.length+1)*T.size<=tot):
  Od T B (putCells w1 b (xs.length*T.size) cs) b t tot (xs++ [x]) (fps++ [fp])/\Mod [b] w (putCells w1 b (xs.length*T.size) cs):=by
 obtain⟨C,hC,JA⟩:=h.blk;have hb:=De hC;have Ix:w1.heap[b]?=some (.cells C t (0,0)):=by rw[hm.block b hb (by simp)];exact hC
 rw[Nat.add_mul,Nat.one_mul]at hs;have hlen:=T.len hx;obtain⟨m1,C',e1,e2,e3,e4⟩:=jI cs w1 b (xs.length*T.size) C t Ix (by omega);have Ch:=h.own.lt;have old:∀k∈fps.flatten,(putCells w1 b (xs.length*T.size) cs).heap[k]?=w.heap[k]?:=λk hk=>by
  have hkb:k≠b:=λe=>by have:=h.own.1;rw[List.nodup_cons]at this;exact this.1 (e▸hk)
  have IH:=Ch k (by simp[hk]);rw[m1.block k (Nat.lt_of_lt_of_le IH hm.size) (by simpa using hkb),hm.block k IH (by simp)]
 have new:∀k∈fp,(putCells w1 b (xs.length*T.size) cs).heap[k]?=w1.heap[k]?:=λk hk=>by have:=(ho.2 k hk).1;exact m1.block k (ho.lt k hk) (by simp;omega)
 refine⟨⟨⟨C',e1,by omega⟩,?_,?_⟩,(hm.weaken (S':=[b]) (by simp)).trans m1 (λx hx=>Or.inl hx)⟩
 ·refine h.rd.snoc (λi hi=> ?_) old (T.frame new hx) (λj v hv=> ?_)
  ·rw[ED e1,ED hC,Nat.zero_add,e4 i (by omega)]
  ·rw[ED e1,Nat.zero_add];exact e3 j v hv
 ·refine⟨?_,λq hq=> ?_⟩
  ·have h1:=h.own.1;rw[List.nodup_cons]at h1 ⊢;refine⟨?_,?_⟩
   ·simp only[List.flatten_append,List.flatten_singleton,Ac,not_or];exact⟨h1.1,λhk=>by have:=(ho.2 b hk).1;omega⟩
   ·simp only[List.flatten_append,List.flatten_singleton];exact List.nodup_append.2 ⟨h1.2,ho.1,λa ha c hc e=>by have:=(ho.2 c hc).1;have:=Ch a (by simp[ha]);omega⟩
  ·rcases Ae.1 hq with rfl|hq
   ·exact⟨(h.own.2 q (by simp)).1,C',t,e1⟩
   ·simp only[List.flatten_append,List.flatten_singleton,Ac]at hq;rcases hq with hq|hq
    ·rw[old q hq];exact h.own.2 q (by simp[hq])
    ·rw[new q hq];exact⟨Nat.le_trans hB (ho.2 q hq).1,(ho.2 q hq).2⟩
theorem Od.done{α:Type}{T:GT α}{B:Nat}{w:World}{b:Nat}{t:TypeId}{tot n:Nat}{xs:List α}{fps:List (List Nat)}(h:Od T B w b t tot xs fps)(hn:xs.length=n):
  EA T w (some ⟨b,0,none⟩) n xs (b::fps.flatten):=by
 obtain⟨C,hC,_⟩:=h.blk;exact⟨hn,Or.inr ⟨b,0,fps,rfl,rfl,De hC,h.rd⟩⟩
theorem EA.my{α:Type}{T:GT α}{w:World}{a:Option Addr}{n:Nat}{xs:List α}{fp:List Nat}(h:EA T w a n xs fp)(B6:fp.Nodup){k:Nat}{x:α}(hx:xs[k]?=some x):
  ∃b o cs f,a=some ⟨b,o,none⟩/\b<w.heap.size/\b∈fp/\b∉f/\T.rd w cs x f/\(∀q∈f,q∈fp)/\(∀j v,cs[j]?=some v->w.cell? ⟨b,o+k*T.size+j,none⟩=some v)/\
   ∀w' cs' x',b<w'.heap.size->T.rd w' cs' x' f->(∀q∈fp,q∉f->q≠b->w'.heap[q]?=w.heap[q]?)->(∀j v,cs'[j]?=some v->w'.cell? ⟨b,o+k*T.size+j,none⟩=some v)->
    (∀i,i<o+k*T.size\/o+k*T.size+T.size<=i->w'.cell? ⟨b,i,none⟩=w.cell? ⟨b,i,none⟩)->EA T w' a n (xs.set k x') fp:=by
 have hk:k<xs.length:=by
  rcases Nat.lt_or_ge k xs.length with h|h
  ·exact h
  ·simp[List.getElem?_eq_none h]at hx
 rcases h.2 with⟨rfl,_⟩|⟨b,o,fps,rfl,rfl,hb,he⟩
 ·simp at hk
 have Cw:k<fps.length:=by rw[he.1];exact hk
 obtain⟨cs,h1,h2⟩:=he.2 k x fps[k] hx (by simp);have Tz:b∉fps.flatten:=(List.nodup_cons.1 B6).1;have Ch:∀q∈fps[k],q∈fps.flatten:=λq hq=>List.mem_flatten.2 ⟨_,Ay Cw,hq⟩;refine⟨b,o,cs,fps[k],rfl,hb,by simp,λhm=>Tz (Ch b hm),h1,λq hq=>List.mem_cons_of_mem _ (Ch q hq),h2,λw' cs' x' Cl Dj I8 Bg hold=>⟨by simp[h.1],Or.inr ⟨b,o,fps,rfl,rfl,Cl,by simp[he.1],λi y f hy hf=> ?_⟩⟩⟩;by_cases hi:i=k
 ·subst hi;rw[List.getElem?_set_self hk]at hy;simp at hy;subst hy;have:f=fps[i]:=by simpa[Cw]using hf.symm
  subst this;exact⟨cs',Dj,Bg⟩
 ·rw[List.getElem?_set_ne (Ne.symm hi)]at hy;obtain⟨c,g1,g2⟩:=he.2 i y f hy hf;have pL:f∈fps:=List.mem_of_getElem? hf;refine⟨c,T.frame (λq hq=>I8 q (List.mem_cons_of_mem _ (List.mem_flatten.2 ⟨f,pL,hq⟩)) (λqC=> ?_) (λe=>Tz (e▸List.mem_flatten.2 ⟨f,pL,hq⟩))) g1,λj v hv=> ?_⟩
  ·
   have hp:=List.pairwise_flatten.1 (List.nodup_cons.1 B6).2|>.2;have cP:i<fps.length:=by
    rcases Nat.lt_or_ge i fps.length with h|h
    ·exact h
    ·simp[List.getElem?_eq_none h]at hf
   have OA:fps[i]=f:=by simpa[cP]using hf
   rcases Nat.lt_or_gt_of_ne hi with Ax|Ax
   ·exact(List.pairwise_iff_getElem.1 hp i k cP Cw Ax) q (OA▸hq) q qC rfl
   ·exact(List.pairwise_iff_getElem.1 hp k i Cw cP Ax) q qC q (OA▸hq) rfl
  ·have hj:j<T.size:=by
    rw[<-T.len g1];rcases Nat.lt_or_ge j c.length with h|h
    ·exact h
    ·simp[List.getElem?_eq_none h]at hv
   rw[hold (o+i*T.size+j) ?_]
   ·exact g2 j v hv
   ·rcases Nat.lt_or_gt_of_ne hi with Ax|Ax
    ·have:(i+1)*T.size<=k*T.size:=By _ Ax;rw[Nat.add_mul]at this;omega
    ·have:(k+1)*T.size<=i*T.size:=By _ Ax;rw[Nat.add_mul]at this;omega
theorem VO{α:Type}{xs:List α}{i:Nat}{x:α}(hx:xs[i]?=some x):i<xs.length:=by
 rcases Nat.lt_or_ge i xs.length with h|h
 ·exact h
 ·simp[List.getElem?_eq_none h]at hx
theorem EA.put{α:Type}{T:GT α}{w:World}{n:Nat}{xs:List α}{fp:List Nat}{b o k:Nat}{x x':α}{cs':List Value}(h:EA T w (some ⟨b,o,none⟩) n xs fp)(ho:Own 0 w fp)
  (hx:xs[k]?=some x) (B7:∀w cs x f,T.rd w cs x f->f=[]) (hs:0<T.size) (Dj:∀w',T.rd w' cs' x' []):
  EA T (putCells w b (o+k*T.size) cs') (some ⟨b,o,none⟩) n (xs.set k x') fp/\Own 0 (putCells w b (o+k*T.size) cs') fp/\Mod fp w (putCells w b (o+k*T.size) cs'):=by
 obtain⟨b',o',cs,f,ha,hb,Tz,Gs,hr,_,hc,hu⟩:=h.my ho.1 hx;simp at ha;obtain⟨rfl,rfl⟩:=ha;obtain rfl:=B7 _ _ _ _ hr;obtain⟨_,C,t,hC⟩:=ho.2 b Tz;have hl:=T.len hr;have BS:=T.len (Dj w);have Ch:o+k*T.size+cs'.length<=C.size:=by
  have Ax:T.size-1<cs.length:=by omega
  have:=hc (T.size-1) cs[T.size-1] (by simp);rw[ED hC]at this;have:=VO (xs:=C.toList) (i:=o+k*T.size+(T.size-1)) (x:=cs[T.size-1]) (by simpa using this);simp at this;omega
 obtain⟨m,C',e1,e2,e3,e4⟩:=jI cs' w b (o+k*T.size) C t hC Ch;have old:∀q∈fp,q≠b->(putCells w b (o+k*T.size) cs').heap[q]?=w.heap[q]?:=λq hq Qo=>m.block q (ho.lt q hq) (by simpa using Qo);refine⟨hu _ cs' x' (De e1) (Dj _) (λq hq _ Qo=>old q hq Qo) (λj v hv=> ?_) (λi hi=> ?_),⟨ho.1,λq hq=>⟨Nat.zero_le _,?_⟩⟩,m.weaken (by simp[Tz])⟩
 ·rw[ED e1];exact e3 j v hv
 ·rw[ED e1,ED hC];exact e4 i (by omega)
 ·by_cases Qo:q=b
  ·subst Qo;exact⟨C',t,e1⟩
  ·rw[old q hq Qo];exact(ho.2 q hq).2
theorem Od.cell{α:Type}{T:GT α}{B:Nat}{w w1:World}{b:Nat}{t:TypeId}{tot:Nat}{xs:List α}{fps:List (List Nat)}(h:Od T B w b t tot xs fps)(hm:Mod [] w w1){i:Nat}(hi:i<tot):
  (∃u,w1.cell? ⟨b,i,none⟩=some u)/\w1.frozen? ⟨b,i,none⟩=false:=by
 obtain⟨C,hC,JA⟩:=h.blk;have Ix:w1.heap[b]?=some (.cells C t (0,0)):=by rw[hm.block b (De hC) (by simp)];exact hC
 exact⟨⟨C[i],by rw[ED Ix];simp⟩,Zb Ix⟩
theorem EA.mod{α:Type}{T:GT α}{S:List Nat}{w w':World}{a:Option Addr}{n:Nat}{xs:List α}{fp:List Nat}(h:EA T w a n xs fp)(hm:Mod S w w')(hS:∀q∈fp,q∉S):EA T w' a n xs fp:=
 h.frame λk hk=>hm.block k (h.inb k hk) (hS k hk)
theorem Own.mod{B:Nat}{S:List Nat}{w w':World}{fp:List Nat}(h:Own B w fp)(hm:Mod S w w')(hS:∀q∈fp,q∉S):Own B w' fp:=
 h.frame λk hk=>hm.block k (h.lt k hk) (hS k hk)
theorem Own.app{B:Nat}{w:World}{f g:List Nat}(h1:Own B w f)(h2:Own B w g)(hd:∀q∈f,q∉g):Own B w (f++g):=
 ⟨List.nodup_append.2 ⟨h1.1,h2.1,λa ha b hb e=>hd a ha (e▸hb)⟩,λb hb=>by
  rcases Ac.1 hb with h|h
  ·exact h1.2 b h
  ·exact h2.2 b h⟩
theorem Own.left{B:Nat}{w:World}{f g:List Nat}(h:Own B w (f++g)):Own B w f:=⟨(List.nodup_append.1 h.1).1,λb hb=>h.2 b (by simp[hb])⟩
theorem Own.right{B:Nat}{w:World}{f g:List Nat}(h:Own B w (f++g)):Own B w g:=⟨(List.nodup_append.1 h.1).2.1,λb hb=>h.2 b (by simp[hb])⟩
theorem Own.apart{B:Nat}{w:World}{f g:List Nat}(h:Own B w (f++g)):∀q∈f,q∉g:=λq hq hg=>(List.nodup_append.1 h.1).2.2 q hq q hg rfl
theorem kD{α:Type}{s:Nat}(hs:0<s):∀(Ls:List (List α)) (j:Nat),(∀l∈Ls,l.length=s)->Ls.flatten[j]?=(Ls[j/s]?).bind (·[j % s]?)
 | [],j,_=>by simp
 |l::Ls,j,h=>by
  have hl:l.length=s:=h l (by simp);rw[List.flatten_cons];by_cases hj:j<s
  ·rw[List.getElem?_append_left (by omega),Nat.div_eq_of_lt hj,Nat.mod_eq_of_lt hj];simp
  ·rw[List.getElem?_append_right (by omega),hl,kD hs Ls (j-s) (λl hl=>h l (by simp[hl]))];have e1:j/s=(j-s)/s+1:=by rw[Nat.div_eq_sub_div hs (by omega)]
   have e2:(j-s) % s=j % s:=(Nat.mod_eq_sub_mod (by omega)).symm;rw[e1,e2];simp
theorem wR{α:Type}{s:Nat}:∀(Ls:List (List α)),(∀l∈Ls,l.length=s)->Ls.flatten.length=Ls.length*s
 | [],_=>by simp
 |l::Ls,h=>by have:=wR Ls (λl hl=>h l (by simp[hl]));have hl:=h l (by simp);simp[Nat.add_mul];rw[<-hl]at this ⊢;simp at this;omega
def Fj{α:Type}(T:GT α)(w:World)(Ls:List (List Value))(xs:List α)(fps:List (List Nat)):Prop:=
 Ls.length=xs.length/\fps.length=xs.length/\ ∀(i:Nat) (cs:List Value) (x:α) (fp:List Nat),Ls[i]?=some cs->xs[i]?=some x->fps[i]?=some fp->T.rd w cs x fp
theorem Fj.lens{α:Type}{T:GT α}{w:World}{Ls:List (List Value)}{xs:List α}{fps:List (List Nat)}(h:Fj T w Ls xs fps):∀l∈Ls,l.length=T.size:=by intro l hl;obtain⟨i,hi,rfl⟩:=List.mem_iff_getElem.1 hl;have h1:=h.1;have h2:=h.2.1;exact T.len (h.2.2 i _ (xs[i]'(by omega)) (fps[i]'(by omega)) (by simp) (by simp) (by simp))
theorem Fj.one{α:Type}{T:GT α}{w:World}{Ls:List (List Value)}{xs:List α}{fps:List (List Nat)}(h:Fj T w Ls xs fps):∀u∈Ls.flatten,u.oneCell'=true:=by intro u hu;obtain⟨l,hl,hu⟩:=List.mem_flatten.1 hu;obtain⟨i,hi,rfl⟩:=List.mem_iff_getElem.1 hl;have h1:=h.1;have h2:=h.2.1;exact T.one (h.2.2 i _ (xs[i]'(by omega)) (fps[i]'(by omega)) (by simp) (by simp) (by simp)) u hu
theorem Fj.frame{α:Type}{T:GT α}{w w':World}{Ls:List (List Value)}{xs:List α}{fps:List (List Nat)}(h:Fj T w Ls xs fps)(hf:∀k∈fps.flatten,w'.heap[k]?=w.heap[k]?):Fj T w' Ls xs fps:=
 ⟨h.1,h.2.1,λi cs x fp a b c=>T.frame (λk hk=>hf k (List.mem_flatten.2 ⟨fp,List.mem_of_getElem? c,hk⟩)) (h.2.2 i cs x fp a b c)⟩
theorem Fj.inb{α:Type}{T:GT α}{w:World}{Ls:List (List Value)}{xs:List α}{fps:List (List Nat)}(h:Fj T w Ls xs fps):∀k∈fps.flatten,k<w.heap.size:=by intro k hk;obtain⟨f,hf,hk⟩:=List.mem_flatten.1 hk;obtain⟨i,hi,rfl⟩:=List.mem_iff_getElem.1 hf;have h1:=h.1;have h2:=h.2.1;exact T.inb (h.2.2 i (Ls[i]'(by omega)) (xs[i]'(by omega)) _ (by simp) (by simp) (by simp)) k hk
theorem Fj.snoc{α:Type}{T:GT α}{w:World}{Ls:List (List Value)}{xs:List α}{fps:List (List Nat)}{cs:List Value}{x:α}{fp:List Nat}(h:Fj T w Ls xs fps)(hx:T.rd w cs x fp):Fj T w (Ls++ [cs]) (xs++ [x]) (fps++ [fp]):=by
 refine⟨by simp[h.1],by simp[h.2.1],λi c y f hc hy hf=> ?_⟩;rcases Nat.lt_trichotomy i xs.length with hi|hi|hi
 ·exact h.2.2 i c y f (by rwa[List.getElem?_append_left (by rw[h.1];exact hi)]at hc) (by rwa[List.getElem?_append_left hi]at hy) (by rwa[List.getElem?_append_left (by rw[h.2.1];exact hi)]at hf)
 ·subst hi;rw[List.getElem?_append_right (by rw[h.1];exact AN _),h.1]at hc;rw[List.getElem?_append_right (AN _)]at hy;rw[List.getElem?_append_right (by rw[h.2.1];exact AN _),h.2.1]at hf;simp at hc hy hf;subst hc hy hf;exact hx
 ·rw[List.getElem?_eq_none (by simp;omega)]at hy;cases hy
theorem wL{β:Type}(P:Nat->β->Prop):∀n:Nat,(∀i,i<n-> ∃y,P i y)-> ∃L:List β,L.length=n/\ ∀(i:Nat) (y:β),L[i]?=some y->P i y
 |0,_=>⟨[],rfl,by simp⟩
 |n+1,h=>by
  obtain⟨L,hl,hL⟩:=wL P n (λi hi=>h i (by omega));obtain⟨y,hy⟩:=h n (by omega);refine⟨L++ [y],by simp[hl],λi z hz=> ?_⟩;rcases Nat.lt_trichotomy i n with hi|hi|hi
  ·exact hL i z (by rwa[List.getElem?_append_left (by omega)]at hz)
  ·subst hi;rw[List.getElem?_append_right (by omega),hl]at hz;simp at hz;subst hz;exact hy
  ·rw[List.getElem?_eq_none (by simp;omega)]at hz;cases hz
theorem G7.cells{α:Type}{T:GT α}{w:World}{b o:Nat}{xs:List α}{fps:List (List Nat)}(h:G7 T w b o xs fps)(hs:0<T.size):
  ∃Ls,Fj T w Ls xs fps/\ ∀j u,Ls.flatten[j]?=some u->w.cell? ⟨b,o+j,none⟩=some u:=by
 obtain⟨Ls,hn,hL⟩:=wL (λi cs=> ∃x fp,xs[i]?=some x/\fps[i]?=some fp/\T.rd w cs x fp/\ ∀j v,cs[j]?=some v->w.cell? ⟨b,o+i*T.size+j,none⟩=some v) xs.length (λi hi=>by obtain⟨cs,h1,h2⟩:=h.2 i xs[i] (fps[i]'(by rw[h.1];exact hi)) (by simp) (by simp);exact⟨cs,_,_,by simp,by simp,h1,h2⟩)
 have pA:Fj T w Ls xs fps:=by refine⟨hn,h.1,λi cs x fp hc hx hf=> ?_⟩;obtain⟨x',fp',e1,e2,e3,_⟩:=hL i cs hc;rw[e1]at hx;rw[e2]at hf;simp at hx hf;subst hx hf;exact e3
 refine⟨Ls,pA,λj u hu=> ?_⟩;rw[kD hs _ _ pA.lens]at hu;cases hd:Ls[j/T.size]? with
 |none=>rw[hd]at hu;cases hu
 |some cs=>rw[hd]at hu;obtain⟨_,_,_,_,_,e4⟩:=hL _ cs hd;have:=e4 _ u hu;rw[Nat.add_assoc,Nat.mul_comm,Nat.div_add_mod]at this;exact this
theorem Fj.jv{α:Type}{T:GT α}{w:World}{Ls:List (List Value)}{xs:List α}{fps:List (List Nat)}{b o:Nat}(h:Fj T w Ls xs fps)(hs:0<T.size)(hc:∀j u,Ls.flatten[j]?=some u->w.cell? ⟨b,o+j,none⟩=some u):G7 T w b o xs fps:=by
 refine⟨h.2.1,λi x fp hx hf=> ?_⟩;have hi:=VO hx;have h1:=h.1;refine⟨Ls[i]'(by omega),h.2.2 i _ x fp (by simp) hx hf,λj v hv=> ?_⟩;rw[Nat.add_assoc];refine hc _ _ ?_;have hj:j<T.size:=by rw[<-h.lens _ (Ay (by omega:i<Ls.length))];exact VO hv
 rw[kD hs _ _ h.lens,Nat.mul_comm,Nat.mul_add_div hs,Nat.div_eq_of_lt hj,Nat.add_zero,Nat.mul_add_mod,Nat.mod_eq_of_lt hj];simpa[show i<Ls.length by omega]using hv
def Gr{α:Type}(T:GT α)(E:TypeId)(B:Nat)(w:World)(v:Value)(xs:List α)(fps:List (List Nat)):Prop:=
 ∃Ls,Fj T w Ls xs fps/\w.ownsRow B E T.size v xs.length Ls.flatten/\ ∀g,v.ownBlock=some g->g∉fps.flatten
theorem Gr.nil{α:Type}(T:GT α)(E:TypeId)(B:Nat)(w:World):Gr T E B w (.slice none 0 0) [] []:=
 ⟨[],⟨rfl,rfl,by simp⟩,World.ownsRow_nil _ _ _ _,by simp⟩
theorem Gr.done{α:Type}{T:GT α}{E:TypeId}{B:Nat}{w:World}{v:Value}{xs:List α}{fps:List (List Nat)}(hs:0<T.size)(h:Gr T E B w v xs fps)(hf:Own B w fps.flatten):
  ∃a c fp,v= .slice a xs.length c/\xs.length<=c/\c<=maxLen/\EA T w a xs.length xs fp/\Own B w fp/\(∀q∈fp,q∈fps.flatten\/v.ownBlock=some q):=by
 obtain⟨Ls,hL,ho,hg⟩:=h;rcases ho.2 with⟨rfl,hn⟩|⟨g,cap,cur,rfl,hB,hh,LI,F6,BD,ht⟩
 ·have:xs=[]:=List.eq_nil_of_length_eq_zero hn;subst this;exact⟨none,0,[],rfl,AN _,by simp[maxLen],⟨rfl,Or.inl ⟨rfl,rfl⟩⟩,Own.nil _ _,by simp⟩
 ·refine⟨some ⟨g,0,none⟩,cap,g::fps.flatten,rfl,LI,F6,⟨rfl,Or.inr ⟨g,0,fps,rfl,rfl,De hh,hL.jv hs (λj u hu=> ?_)⟩⟩,⟨List.nodup_cons.2 ⟨hg g rfl,hf.1⟩,λb hb=> ?_⟩,λq hq=> ?_⟩
  ·rw[Nat.zero_add,ED hh];rw[<-ht]at hu;have:=VO hu;rw[List.getElem?_take]at hu;split at hu
   ·simpa using hu
   ·cases hu
  ·rcases Ae.1 hb with rfl|hb
   ·exact⟨hB,cur,E,hh⟩
   ·exact hf.2 b hb
  ·rcases Ae.1 hq with rfl|hq
   ·exact Or.inr rfl
   ·exact Or.inl hq
theorem EA.cells{α:Type}{T:GT α}{w:World}{ad:Addr}{n:Nat}{xs:List α}{fp:List Nat}(hs:0<T.size)(h:EA T w (some ad) n xs fp):
  ∃Ls fps,Fj T w Ls xs fps/\(∀j u,Ls.flatten[j]?=some u->w.cell? (ad.add j)=some u)/\(∀q∈fps.flatten,q∈fp)/\Ls.flatten.length=n*T.size:=by
 rcases h.2 with⟨rfl,rfl⟩|⟨b,o,fps,ha,rfl,hb,he⟩
 ·have:=h.1;simp at this;subst this;exact⟨[],[],⟨rfl,rfl,by simp⟩,by simp,by simp,by simp⟩
 ·simp at ha;subst ha;obtain⟨Ls,h1,h2⟩:=he.cells hs;refine⟨Ls,fps,h1,λj u hu=> ?_,λq hq=>by simp[hq],by rw[wR Ls h1.lens,h1.1,h.1]⟩;have:=h2 j u hu;simpa[Addr.add_lit]using this
theorem Mod.grown{S:List Nat}{a w w':World}{row:Option Nat}(h:Mod S a w)(hg:w.grownBy w' row)(hr:∀k,row=some k->k∈S\/a.heap.size<=k):Mod S a w':=
 h.trans (S':=row.toList) ⟨hg.os,hg.tape,hg.output,hg.size,λk hk hn=>hg.block k hk (λe=>hn (by rw[<-e];simp))⟩ (λx hx=>hr x (by cases row<;>simp at hx;subst hx;rfl))
theorem Fj.flat{α:Type}{T:GT α}{w:World}{Ls:List (List Value)}{xs:List α}{fps:List (List Nat)}(B7:∀w cs x f,T.rd w cs x f->f=[])(h:Fj T w Ls xs fps):fps.flatten=[]:=by rw[List.flatten_eq_nil_iff];intro f hf;obtain⟨i,hi,rfl⟩:=List.mem_iff_getElem.1 hf;have h1:=h.1;have h2:=h.2.1;exact B7 _ _ _ _ (h.2.2 i (Ls[i]'(by omega)) (xs[i]'(by omega)) _ (by simp) (by simp) (by simp))
theorem Mod.blk{S:List Nat}{w w1:World}(hm:Mod S w w1){b:Nat}{C:Array Value}{t:TypeId}(h:w.heap[b]?=some (.cells C t (0,0)))(hb:b∉S):w1.heap[b]?=some (.cells C t (0,0)):=by rw[hm.block b (De h) hb];exact h
theorem Sx{w:World}{b:Nat}{C:Array Value}{t:TypeId}(h:w.heap[b]?=some (.cells C t (0,0))):∀o,w.cell? ⟨b,o,none⟩=C[o]?:=λ_=>ED h
theorem zDj(w:World)(A:Obj):(w.alloc A).heap[w.heap.size]?=some A:=heap_alloc_new w A
end
section
open Go.ChangeShapes Go.WideShapes Go.ChangeAt Go.RowKit
theorem yY(a:Addr):a.add 0=a:=by simp[Addr.add]
theorem zM(b o n:Nat):Addr.add ⟨b,o,none⟩ n=⟨b,o+n,none⟩:=by
 unfold Addr.add;split
 ·subst_vars;rfl
 ·rfl
end
section
open Go.RowKit
inductive AV where
 |int (k:IntKind) (n:Int)
 |bool (b:Bool)
 |str (s:List UInt8)
 |sl (xs:List AV)
 |agg (cs:List AV)
 |tup (vs:List AV)
 |ref (x:AV)
 |fn (f:Nat) (caps:List AV)
 |dv
 |undef
def AV.cells:AV->List AV
 | .agg cs=>cs
 |x=> [x]
def Ao(xs:List AV):List AV:=xs.flatMap AV.cells
def E9(k:IntKind)(n:Int):Prop:=k.wrap n=n
inductive Rd(w:World):List Value->List AV->List Nat->Prop where
 |nil:Rd w [] [] []
 |int {k n vs xs f}:E9 k n->Rd w vs xs f->Rd w (.int k n::vs) (.int k n::xs) f
 |bool {b vs xs f}:Rd w vs xs f->Rd w (.bool b::vs) (.bool b::xs) f
 |str {s:ByteArray} {vs xs f}:s.size<=9223372036854775807->Rd w vs xs f->Rd w (.string s::vs) (.str s.data.toList::xs) f
 |ed {a c vs xs f}:Rd w vs xs f->Rd w (.slice a 0 c::vs) (.sl []::xs) f
 |scons {b o n c ys cs C t fz sz f1 vs xs f}:w.heap[b]?=some (.cells C t fz)->0<n->(n<=9223372036854775807/\n<=c)->ys.length=n->(∀y∈ys,y.cells.length=sz)->0<sz->
   (∀j v,cs[j]?=some v->C[o+j]?=some v)->(∀u∈cs,u.oneCell'=true)->Rd w cs (Ao ys) f1->Rd w vs xs f->Rd w (.slice (some ⟨b,o,none⟩) n c::vs) (.sl ys::xs) (b::(f1++f))
 |agg {as_ cs f1 vs xs f}:(∀u∈as_,u.oneCell'=true)->Rd w as_ cs f1->Rd w vs xs f->Rd w (.agg as_.toArray::vs) (.agg cs::xs) (f1++f)
 |tup {as_ cs f1 vs xs f}:Rd w as_ cs f1->Rd w vs xs f->Rd w (.tuple as_.toArray::vs) (.tup cs::xs) (f1++f)
 |ref {b C t fz x f1 vs xs f}:w.heap[b]?=some (.cells C t fz)->(∀u∈C.toList,u.oneCell'=true)->Rd w C.toList x.cells f1->Rd w vs xs f->Rd w (.pointer (some ⟨b,0,none⟩)::vs) (.ref x::xs) (b::(f1++f))
 |fn {g as_ cs f1 vs xs f}:Rd w as_ cs f1->Rd w vs xs f->Rd w (.func (.func g) #[] as_.toArray::vs) (.fn g cs::xs) (f1++f)
 |dv {vs xs f}:Rd w vs xs f->Rd w (.pointer none::vs) (.dv::xs) f
theorem Rd.frame{w w':World}{vs:List Value}{xs:List AV}{f:List Nat}(h:Rd w vs xs f):(∀b∈f,w'.heap[b]?=w.heap[b]?)->Rd w' vs xs f:=by
 induction h with
 |nil=>exact λ_=> .nil
 |int a _ ih=>exact λhf=> .int a (ih hf)
 |bool _ ih=>exact λhf=> .bool (ih hf)
 |str a _ ih=>exact λhf=> .str a (ih hf)
 |ed _ ih=>exact λhf=> .ed (ih hf)
 |scons hb h1 h2 h3 h4 h5 h6 HQ _ _ ih1 ih2=>exact λhf=> .scons (by rw[hf _ (by simp)];exact hb) h1 h2 h3 h4 h5 h6 HQ (ih1 λb m=>hf b (by simp[m])) (ih2 λb m=>hf b (by simp[m]))
 |agg h9 _ _ ih1 ih2=>exact λhf=> .agg h9 (ih1 λb m=>hf b (by simp[m])) (ih2 λb m=>hf b (by simp[m]))
 |tup _ _ ih1 ih2=>exact λhf=> .tup (ih1 λb m=>hf b (by simp[m])) (ih2 λb m=>hf b (by simp[m]))
 |ref hb h9 _ _ ih1 ih2=>exact λhf=> .ref (by rw[hf _ (by simp)];exact hb) h9 (ih1 λb m=>hf b (by simp[m])) (ih2 λb m=>hf b (by simp[m]))
 |fn _ _ ih1 ih2=>exact λhf=> .fn (ih1 λb m=>hf b (by simp[m])) (ih2 λb m=>hf b (by simp[m]))
 |dv _ ih=>exact λhf=> .dv (ih hf)
theorem Rd.inb{w:World}{vs:List Value}{xs:List AV}{f:List Nat}(h:Rd w vs xs f):∀b∈f,b<w.heap.size:=by
 induction h with
 |nil=>simp
 |int _ _ ih=>exact ih
 |bool _ ih=>exact ih
 |str _ _ ih=>exact ih
 |ed _ ih=>exact ih
 |scons hb _ _ _ _ _ _ _ _ _ ih1 ih2=>
  intro b m;simp only[Ae,Ac]at m;rcases m with rfl|m|m
  ·exact De hb
  ·exact ih1 b m
  ·exact ih2 b m
 |agg _ _ _ ih1 ih2=>intro b m;rcases Ac.1 m with m|m;exact ih1 b m;exact ih2 b m
 |tup _ _ ih1 ih2=>intro b m;rcases Ac.1 m with m|m;exact ih1 b m;exact ih2 b m
 |ref hb _ _ _ ih1 ih2=>
  intro b m;simp only[Ae,Ac]at m;rcases m with rfl|m|m
  ·exact De hb
  ·exact ih1 b m
  ·exact ih2 b m
 |fn _ _ ih1 ih2=>intro b m;rcases Ac.1 m with m|m;exact ih1 b m;exact ih2 b m
 |dv _ ih=>exact ih
theorem Rd.len{w:World}{vs:List Value}{xs:List AV}{f:List Nat}(h:Rd w vs xs f):vs.length=xs.length:=by induction h<;>simp_all
theorem Rd.app{w:World}{vs us:List Value}{xs ys:List AV}{f g:List Nat}(h:Rd w vs xs f)(k:Rd w us ys g):Rd w (vs++us) (xs++ys) (f++g):=by
 induction h with
 |nil=>exact k
 |int a _ ih=>exact .int a ih
 |bool _ ih=>exact .bool ih
 |str a _ ih=>exact .str a ih
 |ed _ ih=>exact .ed ih
 |scons hb h1 h2 h3 h4 h5 h6 HQ h7 _ _ ih2=>simp only[List.cons_append,List.append_assoc];exact Rd.scons hb h1 h2 h3 h4 h5 h6 HQ h7 ih2
 |agg h9 h1 _ _ ih2=>have:=Rd.agg h9 h1 ih2;simpa using this
 |tup h1 _ _ ih2=>have:=Rd.tup h1 ih2;simpa using this
 |ref hb h9 h1 _ _ ih2=>have:=Rd.ref hb h9 h1 ih2;simpa using this
 |fn h1 _ _ ih2=>simp only[List.cons_append,List.append_assoc];exact Rd.fn h1 ih2
 |dv _ ih=>exact .dv ih
theorem Rd.cr{w:World}{v:Value}{vs:List Value}{x:AV}{xs:List AV}{f:List Nat}(h:Rd w (v::vs) (x::xs) f):
  ∃f1 f2,f=f1++f2/\Rd w [v] [x] f1/\Rd w vs xs f2:=by
 cases h with
 |int a h=>exact⟨[],f,rfl, .int a .nil,h⟩
 |bool h=>exact⟨[],f,rfl, .bool .nil,h⟩
 |str a h=>exact⟨[],f,rfl, .str a .nil,h⟩
 |ed h=>exact⟨[],f,rfl, .ed .nil,h⟩
 |scons hb h1 h2 h3 h4 h5 h6 HQ h7 h=>rename_i b o n c ys cs C t fz sz f1 f2;exact⟨b::(f1++ []),f2,by simp, .scons hb h1 h2 h3 h4 h5 h6 HQ h7 .nil,h⟩
 |agg h9 h1 h=>rename_i f1 f2;exact⟨f1++ [],f2,by simp, .agg h9 h1 .nil,h⟩
 |tup h1 h=>rename_i f1 f2;exact⟨f1++ [],f2,by simp, .tup h1 .nil,h⟩
 |ref hb h9 h1 h=>rename_i b C t fz x f1 f2;exact⟨b::(f1++ []),f2,by simp, .ref hb h9 h1 .nil,h⟩
 |fn h1 h=>rename_i f1 f2;exact⟨f1++ [],f2,by simp, .fn h1 .nil,h⟩
 |dv h=>exact⟨[],f,rfl, .dv .nil,h⟩
theorem Rd.dy{w:World}:∀{vs us:List Value} {xs ys:List AV} {f:List Nat},vs.length=xs.length->Rd w (vs++us) (xs++ys) f-> ∃f1 f2,f=f1++f2/\Rd w vs xs f1/\Rd w us ys f2
 | [],us,[],ys,f,_,h=>⟨[],f,rfl, .nil,h⟩
 |v::vs,us,x::xs,ys,f,hl,h=>by obtain⟨f1,f2,rfl,h1,h2⟩:=Rd.cr h;obtain⟨f3,f4,rfl,h3,h4⟩:=Rd.dy (vs:=vs) (xs:=xs) (by simpa using hl) h2;exact⟨f1++f3,f4,by simp,h1.app h3,h4⟩
theorem Rd.piece{w:World}{vs:List Value}{xs:List AV}{f:List Nat}(h:Rd w vs xs f)(o n:Nat):
  ∃g,(∀b∈g,b∈f)/\Rd w ((vs.drop o).take n) ((xs.drop o).take n) g:=by
 have hl:=h.len;have e1:vs=vs.take o++vs.drop o:=(Cf o vs).symm;have e2:xs=xs.take o++xs.drop o:=(Cf o xs).symm;rw[e1,e2]at h;obtain⟨f1,f2,rfl,_,h2⟩:=Rd.dy (by simp[hl]) h;have e3:vs.drop o=(vs.drop o).take n++(vs.drop o).drop n:=(Cf _ _).symm;have e4:xs.drop o=(xs.drop o).take n++(xs.drop o).drop n:=(Cf _ _).symm;rw[e3,e4]at h2;obtain⟨f3,f4,rfl,h3,_⟩:=Rd.dy (by simp[hl]) h2;exact⟨f3,λb hb=>by simp[hb],h3⟩
theorem Rd.at{w:World}{vs:List Value}{xs:List AV}{f:List Nat}(h:Rd w vs xs f){i:Nat}{x:AV}(hx:xs[i]?=some x):
  ∃v g,vs[i]?=some v/\(∀b∈g,b∈f)/\Rd w [v] [x] g:=by
 have hi:=VO hx;have hl:=h.len;obtain⟨g,hg,hr⟩:=h.piece i 1;have hv:(vs.drop i).take 1=[vs[i]'(by omega)]:=by rw[Bl (by omega),List.take_succ_cons,List.take_zero]
 have D2:(xs.drop i).take 1=[x]:=by rw[Bl hi,List.take_succ_cons,List.take_zero];simpa[hi]using hx
 rw[hv,D2]at hr;exact⟨_,g,by simp[show i<vs.length by omega],hg,hr⟩
theorem Rd.kind{w:World}{v:Value}{x:AV}{f:List Nat}(h:Rd w [v] [x] f):
  (∃k n,v= .int k n/\x= .int k n/\E9 k n/\f=[])\/(∃b,v= .bool b/\x= .bool b/\f=[])\/(∃s:ByteArray,v= .string s/\x= .str s.data.toList/\s.size<=9223372036854775807/\f=[])\/
  (∃a c,v= .slice a 0 c/\x= .sl []/\f=[])\/
  (∃(b o n c:Nat) (ys:List AV) (cs:List Value) (C:Array Value) (t:TypeId) (fz:Nat × Nat) (sz:Nat) (f1:List Nat),v= .slice (some ⟨b,o,none⟩) n c/\x= .sl ys/\f=b::f1/\w.heap[b]?=some (.cells C t fz)/\0<n/\(n<=9223372036854775807/\n<=c)/\ys.length=n/\(∀y∈ys,y.cells.length=sz)/\0<sz/\
   (∀(j:Nat) (u:Value),cs[j]?=some u->C[o+j]?=some u)/\(∀u∈cs,u.oneCell'=true)/\Rd w cs (Ao ys) f1)\/
  (∃as_ cs,v= .agg as_.toArray/\x= .agg cs/\(∀u∈as_,u.oneCell'=true)/\Rd w as_ cs f)\/(∃as_ cs,v= .tuple as_.toArray/\x= .tup cs/\Rd w as_ cs f)\/
  (∃b C t fz y f1,v= .pointer (some ⟨b,0,none⟩)/\x= .ref y/\f=b::f1/\w.heap[b]?=some (.cells C t fz)/\(∀u∈C.toList,u.oneCell'=true)/\Rd w C.toList y.cells f1)\/
  (∃g as_ cs,v= .func (.func g) #[] as_.toArray/\x= .fn g cs/\Rd w as_ cs f)\/(v= .pointer none/\x= .dv/\f=[]):=by
 cases h with
 |int a h=>cases h;exact .inl ⟨_,_,rfl,rfl,a,rfl⟩
 |bool h=>cases h;exact .inr (.inl ⟨_,rfl,rfl,rfl⟩)
 |str a h=>cases h;exact .inr (.inr (.inl ⟨_,rfl,rfl,a,rfl⟩))
 |ed h=>cases h;exact .inr (.inr (.inr (.inl ⟨_,_,rfl,rfl,rfl⟩)))
 |scons hb h1 h2 h3 h4 h5 h6 HQ h7 h=>cases h;exact .inr (.inr (.inr (.inr (.inl ⟨_,_,_,_,_,_,_,_,_,_,_,rfl,rfl,by simp,hb,h1,h2,h3,h4,h5,h6,HQ,h7⟩))))
 |agg h9 h1 h=>cases h;exact .inr (.inr (.inr (.inr (.inr (.inl ⟨_,_,rfl,rfl,h9,by simpa using h1⟩)))))
 |tup h1 h=>cases h;exact .inr (.inr (.inr (.inr (.inr (.inr (.inl ⟨_,_,rfl,rfl,by simpa using h1⟩))))))
 |ref hb h9 h1 h=>cases h;exact .inr (.inr (.inr (.inr (.inr (.inr (.inr (.inl ⟨_,_,_,_,_,_,rfl,rfl,by simp,hb,h9,h1⟩)))))))
 |fn h1 h=>cases h;exact .inr (.inr (.inr (.inr (.inr (.inr (.inr (.inr (.inl ⟨_,_,_,rfl,rfl,by simpa using h1⟩))))))))
 |dv h=>cases h;exact .inr (.inr (.inr (.inr (.inr (.inr (.inr (.inr (.inr ⟨rfl,rfl,rfl⟩))))))))
def AV.fld(x:AV)(o n:Nat)(g:Bool):AV:=if g then .agg ((x.cells.drop o).take n)else(x.cells[o]?).getD .undef
def AV.proj(x:AV)(i:Nat):AV:=match x with| .tup vs=>(vs[i]?).getD .undef|_=> .undef
def AV.deref(x:AV):AV:=match x with| .ref y=>y|_=> .undef
def AV.len(x:AV):AV:=match x with| .sl xs=> .int .i64 xs.length|_=> .undef
def AV.slen(x:AV):AV:=match x with| .str s=> .int .i64 s.length|_=> .undef
def AV.nth(x:AV)(k:Nat):AV:=match x with| .sl xs=>(xs[k]?).getD .undef|_=> .undef
def AV.sidx(x i:AV):AV:=match x,i with| .str s, .int _ k=>(match s[k.toNat]? with|some b=> .int .u8 b.toNat|none=> .undef)|_,_=> .undef
def AV.idx(x i:AV):AV:=match i with| .int _ k=>x.nth k.toNat|_=> .undef
def AV.win(x lo hi:AV):AV:=
 match lo,hi with
 | .int _ a, .int _ b=>(match x with| .sl xs=> .sl ((xs.take b.toNat).drop a.toNat)|_=> .undef)
 |_,_=> .undef
def AV.swin(x lo hi:AV):AV:=
 match lo,hi with
 | .int _ a, .int _ b=>(match x with| .str s=> .str ((s.take b.toNat).drop a.toNat)|_=> .undef)
 |_,_=> .undef
def AV.app(x y:AV):AV:=match x,y with| .sl xs, .sl ys=> .sl (xs++ys)|_,_=> .undef
def AV.dd(x i v:AV):AV:=match x,i with| .sl xs, .int _ k=> .sl (xs.set k.toNat v)|_,_=> .undef
def AV.dg(x:AV)(o:Nat)(v:AV)(g:Bool):AV:=
 if g then .agg (x.cells.take o++v.cells++x.cells.drop (o+v.cells.length))else v
def AV.rep(n z:AV):AV:=match n with| .int _ k=> .sl (List.replicate k.toNat z)|_=> .undef
def AV.conv(k:IntKind)(x:AV):AV:=match x with| .int _ n=> .int k (k.wrap n)|_=> .undef
def AV.ey(x:AV):AV:=match x with| .bool b=> .bool (!b)|_=> .undef
def AV.ir(x:AV):AV:=match x with| .int k n=> .int k (k.wrap (0-n))|_=> .undef
def AV.cond(c x y:AV):AV:=match c with| .bool true=>x| .bool false=>y|_=> .undef
def AV.bytes(x:AV):AV:=match x with| .str s=> .sl (s.map λb=> .int .u8 b.toNat)|_=> .undef
def Nh:List AV->Option (List UInt8)
 | []=>some []
 | .int .u8 n::xs=>(Nh xs).map (UInt8.ofNat n.toNat:: ·)
 |_::_=>none
def AV.text(x:AV):AV:=match x with| .sl xs=>(match Nh xs with|some s=>if xs.length<=9223372036854775807 then .str s else .undef|none=> .undef)|_=> .undef
def CH(op:BinOp)(k:IntKind)(a b:Int):AV:=
 match op with
 | .add=> .int k (k.wrap (a+b))
 | .sub=> .int k (k.wrap (a-b))
 | .mul=> .int k (k.wrap (a*b))
 | .quo=> .int k (k.wrap (a.tdiv b))
 | .rem=> .int k (a.tmod b)
 | .eql=> .bool (a==b)
 | .neq=> .bool (a !=b)
 | .lss=> .bool (a<b)
 | .leq=> .bool (a<=b)
 | .gtr=> .bool (a>b)
 | .geq=> .bool (a>=b)
 | .and=> .int k (k.wrap (BitVec.ofInt k.bits a&&&BitVec.ofInt k.bits b).toNat)
 | .or=> .int k (k.wrap (BitVec.ofInt k.bits a|||BitVec.ofInt k.bits b).toNat)
 | .xor=> .int k (k.wrap (BitVec.ofInt k.bits a^^^BitVec.ofInt k.bits b).toNat)
 | .andNot=> .int k (k.wrap (BitVec.ofInt k.bits a&&& ~~~BitVec.ofInt k.bits b).toNat)
 | .shl=> .int k (k.wrap (a*2^(min b.toNat k.bits)))
 | .shr=> .int k (a.fdiv (2^(min b.toNat k.bits)))
def SZ(op:BinOp)(a b:List UInt8):AV:=
 match op with
 | .add=> .str (a++b)
 | .eql=> .bool (a==b)
 | .neq=> .bool (a !=b)
 | .lss=> .bool (Op.bytesLess a b)
 | .leq=> .bool (Op.bytesLess a b||a==b)
 | .gtr=> .bool (!(Op.bytesLess a b||a==b))
 | .geq=> .bool (!Op.bytesLess a b)
 |_=> .undef
def AV.bin(op:BinOp)(x y:AV):AV:=
 match x,y with
 | .int k a, .int k' b=>if k=k'\/op= .shl\/op= .shr then CH op k a b else .undef
 |_,_=> .undef
def AV.sbin(op:BinOp)(x y:AV):AV:=
 match x,y with
 | .str a, .str b=>SZ op a b
 |_,_=> .undef
def AV.bbin(op:BinOp)(x y:AV):AV:=
 match x,y with
 | .bool a, .bool b=>(match op with| .eql=> .bool (a==b)| .neq=> .bool (a !=b)|_=> .undef)
 |_,_=> .undef
inductive SK where
 |int (k:IntKind)
 |bool
 |str
def AV.sk:AV->Option SK
 | .int k _=>some (.int k)
 | .bool _=>some .bool
 | .str _=>some .str
 |_=>none
def AV.seq:AV->AV->Bool
 | .int _ a, .int _ b=>a==b
 | .bool a, .bool b=>a==b
 | .str a, .str b=>a==b
 |_,_=>false
def AV.leq:List AV->List AV->Bool
 | [],[]=>true
 |x::xs,y::ys=>x.seq y&&AV.leq xs ys
 |_,_=>false
def AV.aeq(x y:AV):AV:=match x,y with
 | .agg xs, .agg ys=> .bool (AV.leq xs ys)
 |_,_=> .undef
mutual
inductive E where
 |var (i:Nat)
 |int (k:IntKind) (n:Int)
 |bool (b:Bool)
 |str (s:ByteArray)
 |dv
 |lst (es:EL)
 |mk (es:EL)
 |tup (es:EL)
 |ref (e:E)
 |fn (f:Nat) (es:EL)
 |fld (e:E) (o n:Nat) (g:Bool)
 |proj (e:E) (i:Nat)
 |deref (e:E)
 |len (e:E)
 |slen (e:E)
 |idx (e i:E)
 |sidx (e i:E)
 |win (e lo hi:E)
 |swin (e lo hi:E)
 |app (a b:E)
 |set (x i v:E)
 |put (x:E) (o:Nat) (v:E) (g:Bool)
 |rep (n z:E)
 |conv (k:IntKind) (e:E)
 |bin (op:BinOp) (a b:E)
 |sbin (op:BinOp) (a b:E)
 |bbin (op:BinOp) (a b:E)
 |aeq (a b:E)
 |not (a:E)
 |neg (a:E)
 |ite (c a b:E)
 |bytes (a:E)
 |text (a:E)
inductive EL where
 |nil
 |cons (e:E) (es:EL)
end
mutual
def E.den(ρ:List AV):E->AV
 | .var i=>(ρ[i]?).getD .undef
 | .int k n=> .int k n
 | .bool b=> .bool b
 | .str s=> .str s.data.toList
 | .dv=> .dv
 | .lst es=> .sl (es.den ρ)
 | .mk es=> .agg (es.den ρ)
 | .tup es=> .tup (es.den ρ)
 | .ref e=> .ref (e.den ρ)
 | .fn f es=> .fn f (es.den ρ)
 | .fld e o n g=>(e.den ρ).fld o n g
 | .proj e i=>(e.den ρ).proj i
 | .deref e=>(e.den ρ).deref
 | .len e=>(e.den ρ).len
 | .slen e=>(e.den ρ).slen
 | .idx e i=>(e.den ρ).idx (i.den ρ)
 | .sidx e i=>(e.den ρ).sidx (i.den ρ)
 | .win e lo hi=>(e.den ρ).win (lo.den ρ) (hi.den ρ)
 | .swin e lo hi=>(e.den ρ).swin (lo.den ρ) (hi.den ρ)
 | .app a b=>(a.den ρ).app (b.den ρ)
 | .set x i v=>(x.den ρ).dd (i.den ρ) (v.den ρ)
 | .put x o v g=>(x.den ρ).dg o (v.den ρ) g
 | .rep n z=>AV.rep (n.den ρ) (z.den ρ)
 | .conv k e=>(e.den ρ).conv k
 | .bin op a b=>AV.bin op (a.den ρ) (b.den ρ)
 | .sbin op a b=>AV.sbin op (a.den ρ) (b.den ρ)
 | .bbin op a b=>AV.bbin op (a.den ρ) (b.den ρ)
 | .aeq a b=>AV.aeq (a.den ρ) (b.den ρ)
 | .not a=>(a.den ρ).ey
 | .neg a=>(a.den ρ).ir
 | .ite c a b=>AV.cond (c.den ρ) (a.den ρ) (b.den ρ)
 | .bytes a=>(a.den ρ).bytes
 | .text a=>(a.den ρ).text
def EL.den(ρ:List AV):EL->List AV
 | .nil=> []
 | .cons e es=>e.den ρ::es.den ρ
end
mutual
def E.beq:E->E->Bool
 | .var i, .var j=>i==j
 | .int k n, .int k' n'=>k==k'&&n==n'
 | .bool b, .bool b'=>b==b'
 | .str s, .str s'=>s.data.toList==s'.data.toList
 | .dv, .dv=>true
 | .lst a, .lst b=>a.beq b
 | .mk a, .mk b=>a.beq b
 | .tup a, .tup b=>a.beq b
 | .ref a, .ref b=>a.beq b
 | .fn f a, .fn g b=>f==g&&a.beq b
 | .fld a o n g, .fld b o' n' g'=>o==o'&&n==n'&&g==g'&&a.beq b
 | .proj a i, .proj b j=>i==j&&a.beq b
 | .deref a, .deref b=>a.beq b
 | .len a, .len b=>a.beq b
 | .slen a, .slen b=>a.beq b
 | .idx a i, .idx b j=>a.beq b&&i.beq j
 | .sidx a i, .sidx b j=>a.beq b&&i.beq j
 | .win a i j, .win b k l=>a.beq b&&i.beq k&&j.beq l
 | .swin a i j, .swin b k l=>a.beq b&&i.beq k&&j.beq l
 | .app a b, .app c d=>a.beq c&&b.beq d
 | .set a b c, .set d e f=>a.beq d&&b.beq e&&c.beq f
 | .put a o b g, .put c o' d g'=>o==o'&&g==g'&&a.beq c&&b.beq d
 | .rep a b, .rep c d=>a.beq c&&b.beq d
 | .conv k a, .conv k' b=>k==k'&&a.beq b
 | .bin o a b, .bin o' c d=>o==o'&&a.beq c&&b.beq d
 | .sbin o a b, .sbin o' c d=>o==o'&&a.beq c&&b.beq d
 | .bbin o a b, .bbin o' c d=>o==o'&&a.beq c&&b.beq d
 | .aeq a b, .aeq c d=>a.beq c&&b.beq d
 | .not a, .not b=>a.beq b
 | .neg a, .neg b=>a.beq b
 | .ite a b c, .ite d e f=>a.beq d&&b.beq e&&c.beq f
 | .bytes a, .bytes b=>a.beq b
 | .text a, .text b=>a.beq b
 |_,_=>false
def EL.beq:EL->EL->Bool
 | .nil, .nil=>true
 | .cons e es, .cons f fs=>e.beq f&&es.beq fs
 |_,_=>false
end
mutual
theorem E.ay(ρ:List AV):∀(a b:E),a.beq b=true->a.den ρ=b.den ρ
 |a,b,h=>by
  cases a<;>cases b<;>simp only[E.beq,Ab,AM,reduceCtorEq]at h<;>simp only[E.den]
  case var=>rw[h]
  case int=>rw[h.1,h.2]
  case bool=>rw[h]
  case str=>rw[h]
  case lst=>rw[EL.ay ρ _ _ h]
  case mk=>rw[EL.ay ρ _ _ h]
  case tup=>rw[EL.ay ρ _ _ h]
  case ref=>rw[E.ay ρ _ _ h]
  case fn=>rw[EL.ay ρ _ _ h.2,h.1]
  case fld=>rw[E.ay ρ _ _ h.2,h.1.1.1,h.1.1.2,h.1.2]
  case proj=>rw[E.ay ρ _ _ h.2,h.1]
  case deref=>rw[E.ay ρ _ _ h]
  case len=>rw[E.ay ρ _ _ h]
  case slen=>rw[E.ay ρ _ _ h]
  case idx=>rw[E.ay ρ _ _ h.1,E.ay ρ _ _ h.2]
  case sidx=>rw[E.ay ρ _ _ h.1,E.ay ρ _ _ h.2]
  case win=>rw[E.ay ρ _ _ h.1.1,E.ay ρ _ _ h.1.2,E.ay ρ _ _ h.2]
  case swin=>rw[E.ay ρ _ _ h.1.1,E.ay ρ _ _ h.1.2,E.ay ρ _ _ h.2]
  case app=>rw[E.ay ρ _ _ h.1,E.ay ρ _ _ h.2]
  case set=>rw[E.ay ρ _ _ h.1.1,E.ay ρ _ _ h.1.2,E.ay ρ _ _ h.2]
  case put=>rw[E.ay ρ _ _ h.1.2,E.ay ρ _ _ h.2,h.1.1.1,h.1.1.2]
  case rep=>rw[E.ay ρ _ _ h.1,E.ay ρ _ _ h.2]
  case conv=>rw[E.ay ρ _ _ h.2,h.1]
  case bin=>rw[E.ay ρ _ _ h.1.2,E.ay ρ _ _ h.2,h.1.1]
  case sbin=>rw[E.ay ρ _ _ h.1.2,E.ay ρ _ _ h.2,h.1.1]
  case bbin=>rw[E.ay ρ _ _ h.1.2,E.ay ρ _ _ h.2,h.1.1]
  case aeq=>rw[E.ay ρ _ _ h.1,E.ay ρ _ _ h.2]
  case not=>rw[E.ay ρ _ _ h]
  case neg=>rw[E.ay ρ _ _ h]
  case ite=>rw[E.ay ρ _ _ h.1.1,E.ay ρ _ _ h.1.2,E.ay ρ _ _ h.2]
  case bytes=>rw[E.ay ρ _ _ h]
  case text=>rw[E.ay ρ _ _ h]
theorem EL.ay(ρ:List AV):∀(a b:EL),a.beq b=true->a.den ρ=b.den ρ
 | .nil, .nil,_=>rfl
 | .cons a as_, .cons b bs,h=>by simp only[EL.beq,Ab]at h;simp only[EL.den];rw[E.ay ρ _ _ h.1,EL.ay ρ _ _ h.2]
 | .nil, .cons ..,h=>by simp[EL.beq]at h
 | .cons .., .nil,h=>by simp[EL.beq]at h
end
mutual
def E.sc(n:Nat):E->Bool
 | .var i=>decide (i<n)
 | .int .. | .bool _| .str _| .dv=>true
 | .lst es| .mk es| .tup es| .fn _ es=>es.sc n
 | .ref e| .fld e _ _ _| .proj e _| .deref e| .len e| .slen e| .conv _ e| .not e| .neg e| .bytes e| .text e=>e.sc n
 | .idx a b| .sidx a b| .app a b| .put a _ b _| .rep a b| .bin _ a b| .sbin _ a b| .bbin _ a b| .aeq a b=>a.sc n&&b.sc n
 | .win a b c| .swin a b c| .set a b c| .ite a b c=>a.sc n&&b.sc n&&c.sc n
def EL.sc(n:Nat):EL->Bool
 | .nil=>true
 | .cons e es=>e.sc n&&es.sc n
end
mutual
theorem E.bd(ρ τ τ':List AV):∀(a:E),a.sc ρ.length=true->a.den (ρ++τ)=a.den (ρ++τ')
 |a,h=>by
  cases a<;>simp only[E.sc,Ab,AI]at h<;>simp only[E.den]
  case var=>rw[List.getElem?_append_left h,List.getElem?_append_left h]
  case lst=>rw[EL.bd ρ τ τ' _ h]
  case mk=>rw[EL.bd ρ τ τ' _ h]
  case tup=>rw[EL.bd ρ τ τ' _ h]
  case ref=>rw[E.bd ρ τ τ' _ h]
  case fn=>rw[EL.bd ρ τ τ' _ h]
  case fld=>rw[E.bd ρ τ τ' _ h]
  case proj=>rw[E.bd ρ τ τ' _ h]
  case deref=>rw[E.bd ρ τ τ' _ h]
  case len=>rw[E.bd ρ τ τ' _ h]
  case slen=>rw[E.bd ρ τ τ' _ h]
  case idx=>rw[E.bd ρ τ τ' _ h.1,E.bd ρ τ τ' _ h.2]
  case sidx=>rw[E.bd ρ τ τ' _ h.1,E.bd ρ τ τ' _ h.2]
  case win=>rw[E.bd ρ τ τ' _ h.1.1,E.bd ρ τ τ' _ h.1.2,E.bd ρ τ τ' _ h.2]
  case swin=>rw[E.bd ρ τ τ' _ h.1.1,E.bd ρ τ τ' _ h.1.2,E.bd ρ τ τ' _ h.2]
  case app=>rw[E.bd ρ τ τ' _ h.1,E.bd ρ τ τ' _ h.2]
  case set=>rw[E.bd ρ τ τ' _ h.1.1,E.bd ρ τ τ' _ h.1.2,E.bd ρ τ τ' _ h.2]
  case put=>rw[E.bd ρ τ τ' _ h.1,E.bd ρ τ τ' _ h.2]
  case rep=>rw[E.bd ρ τ τ' _ h.1,E.bd ρ τ τ' _ h.2]
  case conv=>rw[E.bd ρ τ τ' _ h]
  case bin=>rw[E.bd ρ τ τ' _ h.1,E.bd ρ τ τ' _ h.2]
  case sbin=>rw[E.bd ρ τ τ' _ h.1,E.bd ρ τ τ' _ h.2]
  case bbin=>rw[E.bd ρ τ τ' _ h.1,E.bd ρ τ τ' _ h.2]
  case aeq=>rw[E.bd ρ τ τ' _ h.1,E.bd ρ τ τ' _ h.2]
  case not=>rw[E.bd ρ τ τ' _ h]
  case neg=>rw[E.bd ρ τ τ' _ h]
  case ite=>rw[E.bd ρ τ τ' _ h.1.1,E.bd ρ τ τ' _ h.1.2,E.bd ρ τ τ' _ h.2]
  case bytes=>rw[E.bd ρ τ τ' _ h]
  case text=>rw[E.bd ρ τ τ' _ h]
theorem EL.bd(ρ τ τ':List AV):∀(a:EL),a.sc ρ.length=true->a.den (ρ++τ)=a.den (ρ++τ')
 | .nil,_=>rfl
 | .cons a as_,h=>by simp only[EL.sc,Ab]at h;simp only[EL.den];rw[E.bd ρ τ τ' _ h.1,EL.bd ρ τ τ' _ h.2]
end
end
section
def shT(_:Nat):Bool:=false
end
section
open Go.RowKit
abbrev Gd:=List (E × Bool)
mutual
inductive DT where
 |flat
 |row (ety sz:Nat) (l:Av)
inductive Av where
 |nil
 |cons (d:DT) (l:Av)
end
def Av.toList:Av->List DT
 | .nil=> []
 | .cons s l=>s::l.toList
def Av.of:List DT->Av
 | []=> .nil
 |s::l=> .cons s (Av.of l)
mutual
def DT.beq:DT->DT->Bool
 | .flat, .flat=>true
 | .row e z l, .row e' z' l'=>e==e'&&z==z'&&l.beq l'
 |_,_=>false
def Av.beq:Av->Av->Bool
 | .nil, .nil=>true
 | .cons a as_, .cons b bs=>a.beq b&&as_.beq bs
 |_,_=>false
end
def DT.cc:DT->Bool
 | .flat=>true
 |_=>false
abbrev Oe:=Option (E × Nat × Nat)
mutual
inductive SV where
 |undef
 |e (x:E)
 |cm
 |emp
 |own (t g:Nat)
 |cw (t o:Nat)
 |cz (t g:Nat) (i:E) (sz o:Nat)
 |dj (x i:E) (sz o:Nat)
 |dn (x:E) (o:Nat)
 |agg (cs:BP)
 |tup (vs:BP)
 |fn (f:Nat) (cs:BP)
 |gd (gs:Gd) (s:SV)
 |via (t g n:Nat) (p:Oe) (x:E)
 |vptr (t g n:Nat) (p:Oe) (x i:E) (sz o:Nat)
 |wown (t g:Nat) (lo:E) (sz:Nat)
 |lent (i:Nat)
inductive BP where
 |nil
 |cons (s:SV) (l:BP)
end
def BP.toList:BP->List SV
 | .nil=> []
 | .cons s l=>s::l.toList
def BP.of:List SV->BP
 | []=> .nil
 |s::l=> .cons s (BP.of l)
def EL.of:List E->EL
 | []=> .nil
 |s::l=> .cons s (EL.of l)
inductive Af where
 |box (ty:Nat) (g:Bool) (cs:List SV)
 |row (ety sz g:Nat) (x:E) (deep:Bool)
 |ca (g:Nat) (x:E)
 |gd (gs:Gd) (e:Af)
 |dead
 |deep (ety sz:Nat) (l:List DT) (g ep:Nat) (x:E)
 |hol (ety sz:Nat) (l:List DT) (g ep:Nat) (x i:E) (o u:Nat)
 |pre (ety sz:Nat) (l:List DT) (g ep:Nat) (x k:E)
inductive Cn where
 |dfd (x:E)
 |agg (x:E) (n:Nat)
 |cells (x:E) (n:Nat)
 |inb (i x:E) (sz:Nat)
 |inbS (i x:E)
 |win (x lo hi:E)
 |winS (x lo hi:E)
 |room (x y:E) (bytes:Nat)
 |roomS (x y:E)
 |mkroom (n:E) (bytes:Nat)
 |nz (x:E)
 |nn (x:E)
 |isref (x:E) (n:Nat)
 |issl (x:E) (sz:Nat)
 |flat (x:E) (n:Nat) (g:Bool)
 |flatS (x:E) (sz:Nat)
 |kinds (x:E) (ks:List SK)
inductive PM where
 |ro
 |bx (own own':List Bool)
 |va (own:List Bool)
 |mu (own:List Bool)
structure G8 where
 b8:List PM
 res:List Bool
 ft:List TypeId:=[]
 dp:Bool:=false
 wn:Bool:=false
 fz:Bool:=false
 lo:List Bool:=[]
 sh:Bool:=false
structure BY where
 f:Nat->Option G8
 dp:Bool:=false
 wn:Bool:=false
 fz:Bool:=false
instance:CoeFun BY (λ_=>Nat->Option G8):=⟨BY.f⟩
structure zFm where
 fn:Nat ⊕ E
 args:List E
structure Bh where
 cj:List Cn:=[]
 call:Option zFm:=none
 ch:Option E:=none
 val:SV:= .undef
 bq:List (Nat × Af):=[]
def Oa(t:Nat):Bool:=decide (t<100000)&&(t % 1000==0||decide (500<=t % 1000))
structure St where
 sl:List SV
 hp:List (Nat × Af)
 nx:Nat
 nv:Nat
section
variable (P:Program)
def Uy(t:Nat):Nat:=t+2000000000
def Qx(t:Nat):Option Nat:=if 2000000000<=t then some (t-2000000000)else none
theorem zEt{t k:Nat}(h:Qx t=some k):Uy k=t:=by simp only[Qx,Option.ite_none_right_eq_some,Ad]at h;unfold Uy;omega
def zFA(t:TypeId):Bool:=match P.underlying t with|some (.struct _)=>true|some (.array _ _)=>true|_=>false
def Am(t:TypeId):Bool:=match P.underlying t with
 |some (.struct _)=>true
 |some (.array _ _)=>true
 |some _=>false
 |none=>match Qx t with|some k=>zFA P k|none=>false
def Hv(t:TypeId):Bool:=match P.info? t with
 |some i=>(match i.zero with|some z=>z.cells.size==i.size&&i.size !=0|none=>false)
 |none=>false
def DD(t:TypeId):Bool:=(P.info? t).isSome&&(P.underlying t).isSome
def Ml:Nat->TypeId->List TypeId
 |0,t=> [t]
 |n+1,t=>match P.underlying t with
  |some (.struct fs)=>fs.toList.flatMap λf=>Ml n f.type
  |some (.array k e)=>(List.replicate k (Ml n e)).flatten
  |_=> [t]
def Bf(t:TypeId):List TypeId:=match P.underlying t with
 |some _=>Ml P 6 t
 |none=>match Qx t with|some k=>(Ml P 6 k).map Uy|none=>Ml P 6 t
def Cc(t:TypeId):Bool:=(Bf P t).all λu=>match P.underlying u with|some (.int _)=>true|some .bool=>true|some .string=>true|_=>false
def Hu(t:TypeId):Option TypeId:=match P.underlying t with|some (.slice e)=>some e|_=>none
def CX(t:TypeId):Option TypeId:=match P.underlying t with
 |some (.slice e)=>some e
 |some _=>none
 |none=>match Qx t with|some k=>Hu P k|none=>none
def WN:Nat->TypeId->Option DT
 |0,_=>none
 |n+1,t=>match P.underlying t with
  |some (.int _)=>some .flat
  |some .bool=>some .flat
  |some .string=>some .flat
  |some (.slice e)=>if P.cellsOf e=0\/(Bf P e).length≠P.cellsOf e then none else((Bf P e).mapM (WN n)).map λl=> .row e (P.cellsOf e) (Av.of l)
  |_=>none
def DF(t:TypeId):Option DT:=if shT t then none else WN P 8 t
end
def Fg:Value->Option SV
 | .int k n=>if k.wrap n=n then some (.e (.int k n))else none
 | .bool b=>some (.e (.bool b))
 | .string s=>if s.size<=9223372036854775807 then some (.e (.str s))else none
 | .slice none 0 0=>some .cm
 | .pointer none=>some (.e .dv)
 | .agg cs=>go cs.toList>>=λl=>some (.agg (BP.of l))
 |_=>none
where
 go:List Value->Option (List SV)
 | []=>some []
 | .int k n::l=>if k.wrap n=n then(go l).map (.e (.int k n):: ·)else none
 | .bool b::l=>(go l).map (.e (.bool b):: ·)
 | .string s::l=>if s.size<=9223372036854775807 then(go l).map (.e (.str s):: ·)else none
 | .slice none 0 0::l=>(go l).map (.cm:: ·)
 | .pointer none::l=>(go l).map (.e .dv:: ·)
 |_=>none
def P7(g:E × Bool)(gs:Gd):Bool:=gs.any λh=>h.1.beq g.1&&h.2==g.2
def MD(hs gs:Gd):Bool:=hs.all λh=>P7 h gs
def ungd(gs:Gd):SV->Option SV
 | .gd hs s=>if MD hs gs then some s else none
 | .undef=>none
 |s=>some s
def Lm(gs:Gd):Af->Option Af
 | .gd hs e=>if MD hs gs then some e else none
 |e=>some e
def mkGd(gs:Gd)(s:SV):SV:=match gs with| []=>s|_=> .gd gs s
def C5(gs:Gd)(e:Af):Af:=match gs with| []=>e|_=> .gd gs e
section
variable (hp:Nat->Option Af) (gs:Gd)
def Dq(t:Nat):Option Af:=(hp t).bind (Lm gs)
def IU(t g:Nat):Option E:=match Dq hp gs t with
 |some (.row _ _ g' x _)=>if g=g' then some x else none
 |some (.ca g' x)=>if g=g' then some x else none
 |some (.deep _ _ _ g' _ x)=>if g=g' then some x else none
 |_=>none
def N8(t n:Nat):Bool:=match Dq hp gs t with
 |some (.deep _ _ _ _ ep _)=>n==ep
 |_=>false
mutual
def BF:Nat->SV->Option E
 |0,_=>none
 |n+1,s=>match s with
  | .undef=>none
  | .e x=>some x
  | .cm=>some (.lst .nil)
  | .emp=>some (.lst .nil)
  | .own t g=>IU hp gs t g
  | .cw t 0=>match Dq hp gs t with
   |some (.box _ _ cs)=>(CM n cs).map λl=> .ref (.mk l)
   |_=>none
  | .cw .. =>none
  | .cz .. =>none
  | .dj .. =>none
  | .dn x 0=>some x
  | .dn .. =>none
  | .agg cs=>(CM n cs.toList).map .mk
  | .tup cs=>(CM n cs.toList).map .tup
  | .fn f cs=>(CM n cs.toList).map (.fn f)
  | .gd hs s=>if MD hs gs then BF n s else none
  | .via t _ m _ x=>if N8 hp gs t m then some x else none
  | .vptr .. =>none
  | .wown t g lo z=>match Dq hp gs t with
   |some (.row _ z' g' x _)=>if g=g'/\z=z' then some (.win x lo (.len x))else none
   |_=>none
  | .lent _=>none
def CM:Nat->List SV->Option EL
 |0,_=>none
 |_+1,[]=>some .nil
 |n+1,s::l=>match BF n s,CM n l with
  |some x,some xs=>some (.cons x xs)
  |_,_=>none
end
def Cb:Nat->List SV->List Nat
 |0,_=> []
 |_+1,[]=> []
 |n+1,s::l=>(match s with
  | .own t _=> [t]
  | .cz t .. => [t]
  | .cw t _=>t::(match Dq hp gs t with|some (.box _ _ cs)=>Cb n cs|_=> [])
  | .agg cs=>Cb n cs.toList
  | .tup cs=>Cb n cs.toList
  | .fn _ cs=>Cb n cs.toList
  | .gd _ s=>Cb n [s]
  | .via t .. => [t]
  | .vptr t .. => [t]
  | .wown t .. => [t]
  |_=> [])++Cb n l
end
def A8:Nat:=200
def D3(hp:Nat->Option Af)(gs:Gd)(ts:List Nat):Option (List (Nat × Af)):=
 match ts with
 | []=>some []
 |t::ts=>match Dq hp gs t,D3 hp gs ts with
  |some (.row _ _ g x _),some l=>if gs.isEmpty then some ((t, .ca g x)::l)else none
  |some (.deep _ _ _ g _ x),some l=>if gs.isEmpty then some ((t, .ca g x)::l)else none
  |some (.ca ..),some l=>some l
  |some (.box ..),some l=>some l
  |_,_=>none
def Oc(hp:Nat->Option Af)(gs:Gd)(ts:List Nat):Bool:= !ts.any λt=>match Dq hp gs t with|some (.box ..)=>true|_=>false
def sO(P:Program)(t:TypeId)(x:E):Cn:=if Am P t then .agg x (P.cellsOf t)else .cells x 1
def aQ(P:Program)(hp:Nat->Option Af)(gs:Gd)(t:TypeId)(s:SV):Option (E × List (Nat × Af) × Bool × List Cn):=
 match BF hp gs A8 s with
 |none=>none
 |some x=>
  if Cc P t then some (x,[],true,[.flat x (P.cellsOf t) (Am P t)])else
  if Oc hp gs (Cb hp gs (A8+1) [s])then
   match D3 hp gs (Cb hp gs (A8+1) [s])with
   |none=>none
   |some l=>some (x,l,false,[sO P t x])
  else none
def UJ:E->Bool
 | .int .. =>true
 | .bool _=>true
 | .str _=>true
 |_=>false
def oQ(hp:Nat->Option Af)(gs:Gd)(d:DT)(s:SV):Option (List Nat × List Cn):=
 match d,s with
 | .flat, .e x=>some ([],if UJ x then []else [.flat x 1 false])
 | .row _ z l, .cm=>if 0<z/\l.toList.length=z then some ([],[])else none
 | .row _ z l, .emp=>if 0<z/\l.toList.length=z then some ([],[])else none
 | .row e z l, .own u g=>(match Dq hp gs u with
  |some (.deep e' z' l' g' _ _)=>if g=g'/\e=e'/\z=z'/\(Av.of l').beq l then some ([u],[])else none
  |some (.row e' z' g' _ true)=>if g=g'/\e=e'/\z=z'/\l.toList.all DT.cc/\l.toList.length=z then some ([u],[])else none
  |_=>none)
 |_,_=>none
def NR(hp:Nat->Option Af)(gs:Gd):List DT->List SV->Option (List Nat × List Cn)
 | [],[]=>some ([],[])
 |d::ds,s::ss=>match oQ hp gs d s,NR hp gs ds ss with
  |some (us,ck),some (vs,cks)=>some (us++vs,ck++cks)
  |_,_=>none
 |_,_=>none
def Ic:SV->List SV × Bool
 | .agg cs=>(cs.toList,true)
 |s=>([s],false)
def S6(P:Program)(hp:Nat->Option Af)(gs:Gd)(t:TypeId)(ds:List DT)(s:SV):Option (E × List Nat × List Cn):=
 match BF hp gs A8 s with
 |none=>none
 |some x=>
  if ds.all DT.cc then some (x,[],[.flat x (P.cellsOf t) (Am P t)])else
  if(Ic s).2 !=Am P t then none else(NR hp gs ds (Ic s).1).map λr=>(x,r.1,r.2)
def V1(P:Program)(hp:Nat->Option Af)(gs:Gd)(e:TypeId)(ds:List DT):List SV->Option (List E × List Nat × List Cn)
 | []=>some ([],[],[])
 |s::ss=>match S6 P hp gs e ds s,V1 P hp gs e ds ss with
  |some (x,us,ck),some (xs,vs,cks)=>some (x::xs,us++vs,ck++cks)
  |_,_=>none
def Ms:List Nat->Bool
 | []=>true
 |x::l=> !l.contains x&&Ms l
def Ez(l:List Nat):List (Nat × Af):=l.map λu=>(u,Af.dead)
def WC(hp:Nat->Option Af)(gs:Gd)(e z:Nat)(l:List DT)(s:SV):Option (List Nat):=
 match s with
 | .cm=>some []
 | .emp=>some []
 | .own u g=>(match Dq hp gs u with
  |some (.deep e' z' l' g' _ _)=>if g=g'/\e=e'/\z=z'/\(Av.of l').beq (Av.of l)then some [u]else none
  |_=>none)
 |_=>none
def SO(P:Program)(t:TypeId)(s:SV):Option (List SV × List Cn):=
 if Am P t then
  match s with
  | .agg cs=>some (cs.toList,[])
  | .e x=>some ((List.range (P.cellsOf t)).map λj=> .e (.fld x j 1 false),[.agg x (P.cellsOf t)])
  |_=>none
 else match s with
  | .e x=>some ([s],match x with| .int .. => []| .bool _=> []| .str _=> []| .dv=> []|x=> [.cells x 1])
  | .agg _=>none
  | .tup _=>none
  | .undef=>none
  | .gd .. =>none
  | .via .. =>none
  | .vptr .. =>none
  | .wown .. =>none
  | .lent _=>none
  |s=>some ([s],[])
def Qa(P:Program)(t:TypeId)(cs:List SV)(o:Nat):Option SV:=
 if Am P t then(if o+P.cellsOf t<=cs.length then some (.agg (BP.of ((cs.drop o).take (P.cellsOf t))))else none)else cs[o]?
def Th(cs:List SV)(o:Nat)(vs:List SV):List SV:=cs.take o++vs++cs.drop (o+vs.length)
def CI:E->Option IntKind
 | .int k _=>some k
 | .len _=>some .i64
 | .slen _=>some .i64
 | .conv k _=>some k
 | .bin .add a _=>CI a
 | .bin .sub a _=>CI a
 | .bin .mul a _=>CI a
 |_=>none
def SE:E->Bool
 | .bin op a b=>match op with
  | .add| .sub| .mul| .eql| .neq| .lss| .leq| .gtr| .geq=> !((CI a).isSome&&CI a==CI b)
  |_=>true
 |_=>true
def BM(sl:Nat->SV)(gs:Gd):Operand->Option SV
 | .tmp t=>ungd gs (sl t)
 | .const v=>Fg v
 | .func f=>some (.fn f .nil)
 | .global _=>none
def KU(P:Program)(t:TypeId):Option TypeId:=if 1000000000<=t then some (t-1000000000)else match P.underlying t with|some (.pointer e)=>some e|_=>none
def CR(P:Program)(t:TypeId):Bool:= !Cc P t
def Du(fn:Func)(s:G8):List TypeId:=if s.sh then fn.resultTypes.toList.map Uy else fn.resultTypes.toList
def S4(P:Program)(t e:TypeId)(g ep:Nat)(x:E):Af:=if Cc P e then .row e (P.cellsOf e) g x true else match DF P t with
 |some (.row e' z l)=> .deep e' z l.toList g ep x
 |_=> .row e (P.cellsOf e) g x false
def Dd(P:Program)(nx:Nat)(mk:Nat->E):Nat->List TypeId->List Bool->List SV × List (Nat × Af)
 |_,[],_=>([],[])
 |j,t::ts,fl=>
  let q:=Dd P nx mk (j+1) ts fl.tail
  match fl.headD false,CX P t with
  |true,some e=>(.own (nx+j) 0::q.1,(nx+j,S4 P t e 0 0 (mk j))::q.2)
  |_,_=>(.e (mk j)::q.1,q.2)
def F0(P:Program)(t:TypeId)(fl:List Bool):Bool:=(fl.take (Bf P t).length).any id
def DW(x:E)(g:Bool)(j:Nat):E:=if g then .fld x j 1 false else x
def PJ(P:Program)(nx:Nat)(t:TypeId)(fl:List Bool)(x:E):SV × List (Nat × Af):=
 if F0 P t fl then
  let l:=Dd P nx (DW x (Am P t)) 0 (Bf P t) fl
  (if Am P t then .agg (BP.of l.1)else l.1.headD .undef,l.2)
 else(.e x,[])
def zip(P:Program)(nx:Nat):List TypeId->List Bool->E->Nat->List SV × List (Nat × Af)
 | [],_,_,_=>([],[])
 |t::ts,fl,x,i=>
  let p:=PJ P nx t fl (.proj x i);let q:=zip P (nx+(Bf P t).length) ts (fl.drop (Bf P t).length) x (i+1)
  (p.1::q.1,p.2++q.2)
def aM(P:Program)(t:TypeId):Bool:=match CX P t with|some e=>Cc P e||(DF P t).isSome|none=>false
def E3(P:Program):List TypeId->List Bool->Bool
 | [],_=>false
 |t::ts,fl=>(!(fl.headD false&&aM P t)&&CR P t)||E3 P ts fl.tail
def fQ(P:Program)(t:TypeId)(fl:List Bool):Bool:=if F0 P t fl then E3 P (Bf P t) fl else CR P t
def DM(P:Program):List TypeId->List Bool->Bool
 | [],_=>false
 |t::ts,fl=>fQ P t fl||DM P ts (fl.drop (Bf P t).length)
end
section
open Go.ChangeShapes Go.WideShapes Go.ChangeAt Go.RowKit
def HG(P:Program)(t:TypeId)(Q:List AV->Prop):Prop:=
 0<P.cellsOf t/\ ∀(H:Type) (enc:TypeId × Value->H) (w:World) (spare:Nat->Bool) (held:Bool) (fuel:Nat) (cs:List Value) (x:DataW H × List MemPlace),
  DataW.trod enc P w 0 spare held fuel t cs=some x->cs.length=P.cellsOf t/\(∀u∈cs,u.oneCell'=true)/\ ∃xs f,Rd w cs xs f/\Q xs
theorem HG.mono{P:Program}{t:TypeId}{Q R:List AV->Prop}(h:HG P t Q)(hq:∀xs,Q xs->R xs):HG P t R:=
 ⟨h.1,λH enc w s hd fuel cs x hx=>by obtain⟨a,b,xs,f,c,d⟩:=h.2 H enc w s hd fuel cs x hx;exact⟨a,b,xs,f,c,hq _ d⟩⟩
theorem zDc{P:Program}{t:TypeId}{k:IntKind}(ht:P.underlying t=some (.int k))(hc:P.cellsOf t=1):HG P t λxs=> ∃n,E9 k n/\xs=[.int k n]:=by
 refine⟨by omega,λH enc w spare held fuel cs x h=> ?_⟩;obtain⟨n,rfl,_,hw⟩:=DataW.trod_int ht h;have hk:E9 k n:=by simp only[Lit.wf,Ab,AI]at hw;obtain⟨h1,h2⟩:=hw;unfold E9 IntKind.wrap;cases k<;>simp[IntKind.min,IntKind.max,IntKind.bits,IntKind.signed]at h1 h2 ⊢ <;>(try split)<;>omega
 exact⟨by simp[hc],by simp[Value.oneCell'],[.int k n],[], .int hk .nil,n,hk,rfl⟩
def KL(ag:Bool)(Q:List AV->Prop)(y:AV):Prop:=if ag then∃zs,y= .agg zs/\Q zs else y.cells=[y]/\Q [y]
theorem zEz{ag:Bool}{Q:List AV->Prop}{xs:List AV}(hq:Q xs)(h:ag=true\/(xs.length=1/\ ∀y∈xs,y.cells=[y])):∃y,KL ag Q y/\y.cells=xs:=by
 cases ag with
 |true=>exact⟨.agg xs,by simpa[KL]using hq,rfl⟩
 |false=>
  obtain⟨hl,hy⟩:=h.resolve_left (by simp)
  match xs,hl with
  | [y],_=>exact⟨y,by simpa[KL]using⟨hy y (by simp),hq⟩,hy y (by simp)⟩
theorem zx0{w:World}{v:Value}{x:AV}{f:List Nat}(h:Rd w [v] [x] f)(hv:v.oneCell'=true):x.cells=[x]:=by cases x<;>first|rfl|(cases h;simp[Value.oneCell']at hv)
theorem zC7{w:World}{b o sz:Nat}{C:Array Value}{T:TypeId}{fz}(hC:w.heap[b]?=some (.cells C T fz))(ag:Bool)(Q:List AV->Prop):
  ∀(n i:Nat),(∀k,k<n-> ∃cs y f,Rd w cs y.cells f/\KL ag Q y/\cs.length=sz/\(∀u∈cs,u.oneCell'=true)/\ ∀j v,cs[j]?=some v->w.cell? ⟨b,o+(i+k)*sz+j,none⟩=some v)->
   ∃cs ys f,ys.length=n/\Rd w cs (Ao ys) f/\(∀y∈ys,KL ag Q y/\y.cells.length=sz)/\(∀u∈cs,u.oneCell'=true)/\ ∀j v,cs[j]?=some v->C[o+i*sz+j]?=some v:=by
 intro n
 induction n with
 |zero=>exact λi _=>⟨[],[],[],rfl, .nil,by simp,by simp,by simp⟩
 |succ n ih=>
  intro i h;obtain⟨cs,y,f,h1,h2,h3,h4,h5⟩:=h 0 (by omega);obtain⟨cs',ys,f',g1,g2,g3,g4,g5⟩:=ih (i+1) λk hk=>by have:=h (k+1) (by omega);rw[show i+(k+1)=i+1+k by omega]at this;exact this
  refine⟨cs++cs',y::ys,f++f',by simp[g1],?_,?_,?_,?_⟩
  ·have e:Ao (y::ys)=y.cells++Ao ys:=by simp[Ao]
   rw[e];exact h1.app g2
  ·intro z hz;rcases Ae.1 hz with rfl|hz
   ·exact⟨h2,by rw[<-h1.len,h3]⟩
   ·exact g3 z hz
  ·intro u hu;rcases Ac.1 hu with hu|hu
   ·exact h4 u hu
   ·exact g4 u hu
  ·intro j v hj;rcases Nat.lt_or_ge j cs.length with hl|hl
   ·rw[List.getElem?_append_left hl]at hj;have:=h5 j v hj;unfold World.cell? at this;rw[hC]at this;simpa using this
   ·rw[List.getElem?_append_right hl]at hj;have:=g5 _ v hj;rw[h3]at this hl;rw[show o+i*sz+j=o+(i+1)*sz+(j-sz) by rw[Nat.add_mul];omega];exact this
theorem zy6{P:Program}{t e:TypeId}{Q:List AV->Prop}(ag:Bool)(ht:P.underlying t=some (.slice e))(hc:P.cellsOf t=1)(he:HG P e Q)(ha:ag=true\/P.cellsOf e=1):
  HG P t λxs=> ∃ys,ys.length<=9223372036854775807/\(∀y∈ys,KL ag Q y)/\xs=[.sl ys]:=by
 refine⟨by omega,λH enc w spare held fuel cs x h=> ?_⟩;have emp:∀a c,([Value.slice a 0 c]).length=P.cellsOf t/\(∀u∈ [Value.slice a 0 c],u.oneCell'=true)/\ ∃xs f,Rd w [.slice a 0 c] xs f/\ ∃ys,ys.length<=9223372036854775807/\(∀y∈ys,KL ag Q y)/\xs=[.sl ys]:=
  λa c=>⟨by simp[hc],by simp[Value.oneCell'],[.sl []],[], .ed .nil,[],by simp,by simp,rfl⟩
 rcases DataW.trod_slice ht h with⟨rfl,_⟩|⟨a,len,cap,elems,rest,n,_,rfl,_,_,hl,hm,hlen,Bx,_,_⟩
 ·exact emp none 0
 rcases Nat.eq_zero_or_pos len with h0|h0
 ·subst h0;exact emp (some a) cap
 have aX:=he.1;have Uj:a.spot=none:=by have hi:=Bx 0 h0;rw[Br (by rw[hlen];exact h0),Nat.zero_mul,yY]at hi;obtain⟨c1,h1,h2⟩:=Au.1 hi;obtain⟨_,Aw,B0⟩:=World.cells?_some h1;have h3:=B0 0 aX;rw[Br (by rw[Aw];exact aX),yY]at h3;exact World.cell?_spot h3
 obtain⟨b,o,s⟩:=a;dsimp only at Uj;subst Uj;have key:∀i,i<len-> ∃cs y f,Rd w cs y.cells f/\KL ag Q y/\cs.length=P.cellsOf e/\(∀u∈cs,u.oneCell'=true)/\ ∀j v,cs[j]?=some v->w.cell? ⟨b,o+(0+i)*P.cellsOf e+j,none⟩=some v:=by
  intro i Ax;have hi:=Bx i Ax;rw[Br (by rw[hlen];exact Ax),zM]at hi;obtain⟨c1,h1,h2⟩:=Au.1 hi;obtain⟨Cg,W5,xs,f,hr,hq⟩:=he.2 _ _ _ _ _ _ _ _ h2;obtain⟨_,Aw,B0⟩:=World.cells?_some h1;have Cp:ag=true\/(xs.length=1/\ ∀y∈xs,y.cells=[y]):=by
   rcases ha with ha|ha
   ·exact .inl ha
   ·have Xd:xs.length=1:=by rw[<-hr.len,Cg,ha]
    refine .inr ⟨Xd,λy hy=> ?_⟩;have bQ:c1.length=1:=by rw[Cg,ha]
    match xs,c1,Xd,bQ with
    | [z],[v],_,_=>obtain rfl:=List.mem_singleton.1 hy;exact zx0 hr (W5 v (by simp))
  obtain⟨y,hy,rfl⟩:=zEz hq Cp;refine⟨c1,y,f,hr,hy,Cg,W5,λj v hj=> ?_⟩;have HX:j<P.cellsOf e:=by
   rw[<-Aw];rcases Nat.lt_or_ge j c1.length with h|h
   ·exact h
   ·rw[List.getElem?_eq_none h]at hj;cases hj
  have h3:=B0 j HX;rw[hj,zM]at h3;rw[Nat.zero_add];exact h3
 obtain⟨C,T,fz,hC⟩:∃C T fz,w.heap[b]?=some (.cells C T fz):=by
  obtain⟨cs,y,f,_,_,Ja,_,Aw⟩:=key 0 h0;have h3:=Aw 0 _ (Br (by omega));unfold World.cell? at h3;split at h3
  ·next c t fz hh=>exact⟨c,t,fz,hh⟩
  ·cases h3
 obtain⟨cs,ys,f,g1,g2,g3,g4,g5⟩:=zC7 hC ag Q len 0 key;have T0:len<=9223372036854775807:=by have:maxLen=9223372036854775807:=(by decide+kernel);omega
 refine⟨by simp[hc],by simp[Value.oneCell'],[.sl ys],b::(f++ []), .scons hC h0 ⟨T0,hl⟩ g1 (λy hy=>(g3 y hy).2) aX (λj v hj=>by simpa using g5 j v hj) g4 g2 .nil,ys,by omega,λy hy=>(g3 y hy).1,rfl⟩
inductive fH(P:Program):List Field->List (List AV->Prop)->Prop where
 |nil:fH P [] []
 |cons {f fs Q Qs}:HG P f.type Q->fH P fs Qs->fH P (f::fs) (Q::Qs)
end
section
open Go.RowKit
inductive Xt where
 |normal
 |exit (id:Nat)
 |ret
inductive Tr where
 |leaf (x:Xt) (σ:St)
 |ret (r:E)
 |jmp (d:Nat) (es:EL)
 |ite (c:E) (a b:Tr)
 |cj (gs:Gd) (c:Cn) (k:Tr)
 |call (gs:Gd) (f:Nat ⊕ E) (args:EL) (k:Tr)
 |ch (gs:Gd) (x:E) (k:Tr)
 |stuck
 |join (t k:Tr)
 |loop (init:EL) (body k:Tr)
section
variable (P:Program) (sg:BY)
def rO(t:TypeId):Option SV:=((P.info? t).bind (·.zero)).bind Fg
inductive RI where
 |fl (u v e z:Nat) (d:Bool)
 |dp (u v:Nat) (e z:Nat) (l:List DT) (ep:Nat)
def RI.tag:RI->Nat
 | .fl u .. =>u
 | .dp u .. =>u
def KA:Option DT->Nat->Nat->List DT->Bool
 |some (.row e z l),e',z',l'=>e==e'&&z==z'&&(Av.of l').beq l
 |_,_,_,_=>false
def mV(hp:Nat->Option Af)(gs:Gd)(t:TypeId)(c:SV):Option (Option RI):=
 match CX P t with
 |none=>none
 |some el=>if P.cellsOf el=0 then none else match c with
  | .cm=>some none
  | .emp=>some none
  | .own u v=>(match Dq hp gs u with
   |some (.row e z v' _ d)=>if v=v'/\e=el/\z=P.cellsOf el/\(Cc P el/\d\/Cc P el=false/\(DF P t).isNone)then some (some (.fl u v e z (Cc P el)))else none
   |some (.deep e z l v' ep _)=>if v=v'/\Cc P el=false/\KA (DF P t) e z l then some (some (.dp u v e z l ep))else none
   |_=>none)
  |_=>none
def Hq(hp:Nat->Option Af)(gs:Gd):List TypeId->List SV->List Bool->Option (List (Option RI) × List Nat)
 | [],[],_=>some ([],[])
 |t::ts,c::cs,fl=>match Hq hp gs ts cs fl.tail with
  |none=>none
  |some (l,us)=>if fl.headD false then(match mV P hp gs t c with|some r=>some (r::l,us)|none=>none)else some (none::l,Cb hp gs (A8+1) [c]++us)
 |_,_,_=>none
def CW(l:List (Option RI)):List Nat:=l.filterMap λr=>r.map RI.tag
inductive PA where
 |box (t:Nat) (g:Bool) (own':List Bool) (ty:Nat) (olds:List Nat)
 |mu (rows:List (Option RI)) (g:Bool)
 |va (rows:List Nat)
def UG(hp:Nat->Option Af)(gs:Gd):List TypeId->List PM->List Bool->List SV->Option (List E × List PA × List Nat × List Nat)
 |_,_,_,[]=>some ([],[],[],[])
 |ts,ms,lo,s::ss=>
  match UG hp gs ts.tail ms.tail lo.tail ss with
  |none=>none
  |some (ys,bs,us,uz)=>
  match ms.headD .ro with
  | .ro=>if lo.headD false&& !ts.isEmpty then(match s with
    | .lent i=>some (.var i::ys,bs,us,uz)
    |s=>(BF hp gs A8 s).map λx=>(x::ys,bs,us,Cb hp gs (A8+1) [s]++uz))
   else(BF hp gs A8 s).map λx=>(x::ys,bs,Cb hp gs (A8+1) [s]++us,uz)
  | .bx own own'=>(match ts.head?.bind (KU P),s,gs with
   |some ty, .cw t 0,[]=>(match Dq hp gs t with
    |some (.box ty' g cs)=>if ty'≠ty then none else
     (match CM hp gs A8 cs,Hq P hp gs (Bf P ty) cs own with
     |some xs,some (rs,vs)=>some (.ref (.mk xs)::ys, .box t g own' ty (CW rs)::bs,vs++us,uz)
     |_,_=>none)
    |_=>none)
   |_,_,_=>none)
  | .mu own=>(match ts.head?,gs,BF hp gs A8 s with
   |some t,[],some x=>if(Ic s).2 !=Am P t then none else(match Hq P hp gs (Bf P t) (Ic s).1 own with
    |some (rs,vs)=>some (x::ys, .mu rs (Ic s).2::bs,vs++us,uz)
    |none=>none)
   |_,_,_=>none)
  | .va own=>(match ts.head?,gs,BF hp gs A8 s with
   |some t,[],some x=>if(Ic s).2 !=Am P t then none else(match Hq P hp gs (Bf P t) (Ic s).1 own with
    |some (rs,vs)=>some (x::ys, .va (CW rs)::bs,vs++us,uz)
    |none=>none)
   |_,_,_=>none)
def DS:List PA->List Nat
 | []=> []
 | .box t _ _ _ olds::l=>t::olds++DS l
 | .mu rows _::l=>CW rows++DS l
 | .va rows::l=>rows++DS l
def I1:List PA->Nat
 | []=>0
 | .va _::l=>I1 l
 |_::l=>I1 l+1
def Mr(mk:Nat->E):Nat->List (Option RI)->List (Nat × Af)
 |_,[]=> []
 |j,none::rs=>Mr mk (j+1) rs
 |j,some (.fl u v e z d)::rs=>(u, .row e z v (mk j) d)::Mr mk (j+1) rs
 |j,some (.dp u v e z l ep)::rs=>(u, .deep e z l v (ep+1) (mk j))::Mr mk (j+1) rs
def after(r:Nat):Nat->List PA->Nat->List (Nat × Af)
 |_,[],_=> []
 |nx, .box t g own' ty olds::bs,j=>
  let l:=Dd P nx (DW (.proj (.var r) (j+1)) true) 0 (Bf P ty) own'
  Ez olds++((t, .box ty g l.1)::l.2)++after r (nx+(Bf P ty).length) bs (j+1)
 |nx, .mu rows g::bs,j=>Mr (DW (.proj (.var r) (j+1)) g) 0 rows++after r nx bs (j+1)
 |nx, .va rows::bs,j=>Ez rows++after r nx bs j
def Lh:List PA->Nat
 | []=>0
 | .box _ _ _ ty _::l=>(Bf P ty).length+Lh l
 |_::l=>Lh l
def RI.lent:Option RI->Bool
 |some (.fl _ _ _ _ d)=> !d
 |_=>false
def Ej:List PA->Bool
 | []=>false
 | .box _ _ own' ty _::l=>E3 P (Bf P ty) own'||Ej l
 | .mu rows _::l=>rows.any RI.lent||Ej l
 |_::l=>Ej l
def WL(gs:Gd)(l:List (Nat × Af)):List (Nat × Af):=l.map λ(i,e)=>(i,C5 gs e)
def Wo(hp:Nat->Option Af)(gs:Gd)(nv nx f:Nat)(args:List SV):Option Bh:=
 match P.funcs[f]?,sg f with
 |some fn,some s=>
  if fn.body.isNone||args.length !=fn.params.size+fn.nfree||fn.nfree<s.ft.length then none else
  match UG P hp gs (fn.params.toList++s.ft) s.b8 s.lo args with
  |none=>none
  |some (es,bs,us,uz)=>
   if !Ms (DS bs)||us.any (λu=>(DS bs).contains u)||uz.any (λu=>(DS bs).contains u)then none else
   let ts:=(Du fn s)
   let r:E:=if I1 bs=0 then .var nv else .proj (.var nv) 0;let nl:=(ts.flatMap (Bf P)).length;let unfl:=DM P ts s.res||Ej P bs;let ba:=after P nv (nx+nl) bs 0
   if 999<=nl+Lh P bs then none else
   if unfl&& !Oc hp gs us then none else
   match(if unfl then D3 hp gs us else some [])with
   |none=>none
   |some fz=>
    match ts with
    | [t]=>let p:=PJ P nx t s.res r;some {call:=some ⟨.inl f,es⟩,val:=p.1,bq:=fz++(WL gs p.2++ba)}
    |_=>let p:=zip P nx ts s.res r 0;some {call:=some ⟨.inl f,es⟩,val:= .tup (BP.of p.1),bq:=fz++(WL gs p.2++ba)}
 |_,_=>none
def SQ(hp:Nat->Option Af)(gs:Gd)(nv:Nat)(t:TypeId)(f:E)(args:List SV):Option Bh:=
 if CR P t then none else
 match CM hp gs A8 args with
 |none=>none
 |some es=>some {call:=some ⟨.inr f,go es⟩,val:= .e (.var nv)}
where
 go:EL->List E
 | .nil=> []
 | .cons e es=>e::go es
def sD(hp:Nat->Option Af)(gs:Gd)(t:TypeId)(s:SV):Option Bh:=
 match P.underlying t with
 |some (.slice _)=>(BF hp gs A8 s).map λx=>{cj:=[.dfd (.len x)],val:= .e (.len x)}
 |some .string=>(BF hp gs A8 s).map λx=>{cj:=[.dfd (.slen x)],val:= .e (.slen x)}
 |_=>none
def Wp(hp:Nat->Option Af)(gs:Gd)(e:TypeId)(x:SV)(y:E):Option (List (Nat × Af) × Bool × Cn):=
 if Cc P e then some ([],true, .flatS y (P.cellsOf e))else
 if Oc hp gs (Cb hp gs (A8+1) [x])then(D3 hp gs (Cb hp gs (A8+1) [x])).map λl=>(l,false, .issl y (P.cellsOf e))else none
def ZB(hp:Nat->Option Af)(gs:Gd)(nx:Nat)(ts tx:TypeId)(s x:SV):Option Bh:=
 if ts≠tx then none else
 match Hu P ts,DF P ts,gs with
 |some e,some (.row e' z l),[]=>
  if !Hv P e\/Cc P e\/e'≠e\/z≠P.cellsOf e then none else
  (match BF hp [] A8 x,WC hp [] e z l.toList x with
  |some y,some us=>(match s with
   | .own t g=>(match Dq hp [] t with
    |some (.deep e2 z2 l2 g2 _ c)=>if e2=e/\z2=z/\(Av.of l2).beq l/\g=g2/\ !us.contains t then
      some {cj:=[.room c y (P.bytesOf e)],val:= .own nx 0,bq:=(nx, .deep e z l.toList 0 0 (.app c y))::Ez (t::us)}else none
    |_=>none)
   | .emp=>some {cj:=[.room (.lst .nil) y (P.bytesOf e)],val:= .own nx 0,bq:=(nx, .deep e z l.toList 0 0 (.app (.lst .nil) y))::Ez us}
   | .cm=>some {cj:=[.room (.lst .nil) y (P.bytesOf e)],val:= .own nx 0,bq:=(nx, .deep e z l.toList 0 0 (.app (.lst .nil) y))::Ez us}
   |_=>none)
  |_,_=>none)
 |_,_,_=>none
def lP(hp:Nat->Option Af)(gs:Gd)(nx:Nat)(ts tx:TypeId)(s x:SV):Option Bh:=
 if ts≠tx then none else
 match Hu P ts with
 |some e=>
  if !Hv P e then none else
  match BF hp gs A8 x with
  |none=>none
  |some y=>
   match Wp P hp gs e x y with
   |none=>none
   |some (fz,d,ck)=>
    match s with
    | .own t g=>(match Dq hp gs t with
     |some (.row e' sz' g' c d')=>if e=e'/\P.cellsOf e=sz'/\g=g'/\gs=[]/\ !(fz.map (·.1)).contains t then
       some {cj:=[.room c y (P.bytesOf e),ck],val:= .own t (g+1),bq:=fz++ [(t, .row e (P.cellsOf e) (g+1) (.app c y) (d&&d'))]}else none
     |_=>none)
    | .emp=>some {cj:=[.room (.lst .nil) y (P.bytesOf e),ck],val:= .own nx 0,bq:=fz++ [(nx,C5 gs (.row e (P.cellsOf e) 0 (.app (.lst .nil) y) d))]}
    | .cm=>some {cj:=[.room (.lst .nil) y (P.bytesOf e),ck],val:= .own nx 0,bq:=fz++ [(nx,C5 gs (.row e (P.cellsOf e) 0 (.app (.lst .nil) y) d))]}
    |_=>none
 |_=>none
def FE(s:SV):Option E:=match s with
 | .e x=>some x
 |_=>none
def S9:Nat->List Field->Option (List SK)
 |_,[]=>some []
 |j,f::fs=>if f.name= "_" \/f.offset≠j\/ !DD P f.type\/P.cellsOf f.type≠1 then none else match P.underlying f.type,S9 (j+1) fs with
  |some (.int k),some l=>some (.int k::l)
  |some .bool,some l=>some (.bool::l)
  |some .string,some l=>some (.str::l)
  |_,_=>none
def S8(hp:Nat->Option Af)(gs:Gd)(nv:Nat)(op:BinOp)(t:TypeId)(a b:SV):Option Bh:=
 match P.underlying t with
 |some (.slice _)=>(match a,b,op with
  | .cm, .cm, .eql=>some {val:= .e (.bool true)}
  | .cm, .cm, .neq=>some {val:= .e (.bool false)}
  |a, .cm, .eql=>(BF hp gs A8 a).map λx=>{cj:=[.dfd (.len x)],ch:=some x,val:= .e (.var nv)}
  |a, .cm, .neq=>(BF hp gs A8 a).map λx=>{cj:=[.dfd (.len x)],ch:=some x,val:= .e (.not (.var nv))}
  |_,_,_=>none)
 |some (.int _)=>(match FE a,FE b with
  |some x,some y=>
   let r:E:= .bin op x y;let c1:=if SE r then [Cn.dfd r]else []
   let c2:=match op with| .quo| .rem=> [Cn.nz y]| .shl| .shr=> [Cn.nn y]|_=> []
   some {cj:=c2++c1,val:= .e r}
  |_,_=>none)
 |some .string=>(match FE a,FE b with
  |some x,some y=>
   let r:E:= .sbin op x y
   some {cj:=(match op with| .add=> [Cn.roomS x y]|_=> [])++ [.dfd r],val:= .e r}
  |_,_=>none)
 |some .bool=>(match FE a,FE b with
  |some x,some y=>some {cj:=[.dfd (.bbin op x y)],val:= .e (.bbin op x y)}
  |_,_=>none)
 |some (.struct fs)=>
  if P.stoodInHeld t||P.eqGuardType P.depth t then none else
  (match S9 P 0 fs.toList,BF hp gs A8 a,BF hp gs A8 b with
  |some ks,some x,some y=>(match op with
   | .eql=>some {cj:=[.kinds x ks, .kinds y ks],val:= .e (.aeq x y)}
   | .neq=>some {cj:=[.kinds x ks, .kinds y ks],val:= .e (.not (.aeq x y))}
   |_=>none)
  |_,_,_=>none)
 |_=>none
def ZP(op:BinOp)(a b:SV):Option Bh:=match a,b with
 | .e x, .e y=>some {cj:=[.dfd (.bin op y x)],val:= .e (.ite (.bin op y x) y x)}
 |_,_=>none
def ptrOff(s:SV)(o:Nat):Option SV:=match s with
 | .cw t p=>some (.cw t (p+o))
 | .cz t g i sz p=>some (.cz t g i sz (p+o))
 | .dj x i sz p=>some (.dj x i sz (p+o))
 | .dn x p=>some (.dn x (p+o))
 | .vptr t g m q x i sz p=>some (.vptr t g m q x i sz (p+o))
 |_=>none
def zFt(hp:Nat->Option Af)(gs:Gd)(s:SV):Bool:=match s with
 | .vptr t _ m _ _ _ _ _=>N8 hp gs t m
 |_=>true
def asPtr(s:SV):SV × List Cn:=match s with
 | .e x=>(.dn x 0,[.isref x 0])
 |s=>(s,[])
def qY(hp:Nat->Option Af)(gs:Gd)(t:TypeId)(a:SV):Option Bh:=
 if !DD P t then none else
 match a with
 | .cw b o=>(match Dq hp gs b with
  |some (.box _ _ cs)=>(Qa P t cs o).map λs=>{val:=s}
  |_=>none)
 | .cz b g i sz o=>(match Dq hp gs b with
  |some (.row _ sz' g' c _)=>if g=g'/\sz=sz'/\o+P.cellsOf t<=sz/\(Am P t\/P.cellsOf t=1)then some {val:= .e (.fld (.idx c i) o (P.cellsOf t) (Am P t))}else none
  |some (.deep _ sz' l g' ep c)=>if g=g'/\sz=sz'/\o+P.cellsOf t<=sz/\(Am P t\/P.cellsOf t=1)then
    (if((l.drop o).take (P.cellsOf t)).all DT.cc then some {val:= .e (.fld (.idx c i) o (P.cellsOf t) (Am P t))}
    else some {val:= .via b g ep (if Am P t then none else some (i,sz,o)) (.fld (.idx c i) o (P.cellsOf t) (Am P t))})else none
  |_=>none)
 | .vptr b g m _ x i sz o=>if o+P.cellsOf t<=sz/\(Am P t\/P.cellsOf t=1)/\N8 hp gs b m then
   (if Cc P t then some {cj:=[.flat (.fld (.idx x i) o (P.cellsOf t) (Am P t)) (P.cellsOf t) (Am P t)],val:= .e (.fld (.idx x i) o (P.cellsOf t) (Am P t))}
   else some {val:= .via b g m none (.fld (.idx x i) o (P.cellsOf t) (Am P t))})else none
 | .dj x i sz o=>if o+P.cellsOf t<=sz/\(Am P t\/P.cellsOf t=1)then some {val:= .e (.fld (.idx x i) o (P.cellsOf t) (Am P t))}else none
 | .dn x o=>if Am P t\/P.cellsOf t=1 then some {cj:=[.isref x (o+P.cellsOf t)],val:= .e (.fld (.deref x) o (P.cellsOf t) (Am P t))}else none
 |_=>none
def NF(hp:Nat->Option Af)(gs:Gd)(t:TypeId)(a v:SV):Option Bh:=
 match a with
 | .cw b o=>(match Dq hp gs b,SO P t v with
  |some (.box ty g cs),some (vs,ck)=>if DD P t/\vs.length=P.cellsOf t/\o+vs.length<=cs.length/\gs=[]then some {cj:=ck,bq:=[(b, .box ty g (Th cs o vs))]}else none
  |_,_=>none)
 | .cz b g i sz o=>(match Dq hp gs b with
  |some (.row e sz' g' c d)=>if g=g'/\sz=sz'/\gs=[]/\DD P t/\o+P.cellsOf t<=sz/\(Am P e\/(sz=1/\ !Am P t))/\(Am P t\/P.cellsOf t=1)then
    (match aQ P hp gs t v with
    |some (x,fz,dx,ck)=>if(fz.map (·.1)).contains b then none else
     some {cj:=ck++(if d&&dx then [.flat (.fld (.idx c i) o (P.cellsOf t) (Am P t)) (P.cellsOf t) (Am P t)]else []),bq:=fz++ [(b, .row e sz g (.set c i (.put (.idx c i) o x (Am P e))) (d&&dx))]}
    |none=>none)else none
  |some (.deep e sz' l g' ep c)=>if g=g'/\sz=sz'/\gs=[]/\DD P t/\o+P.cellsOf t<=sz/\(Am P e\/(sz=1/\ !Am P t))/\(Am P t\/P.cellsOf t=1)then
    (match S6 P hp gs t ((l.drop o).take (P.cellsOf t)) v with
    |some (x,us,ck)=>if !Ms us||us.contains b then none else
     some {cj:=ck,bq:=(b, .deep e sz l g (ep+1) (.set c i (.put (.idx c i) o x (Am P e))))::Ez us}
    |none=>none)else none
  |some (.hol e sz' l g' ep c i' o' _)=>if g=g'/\sz=sz'/\gs=[]/\DD P t/\o=o'/\i.beq i'/\o+1<=sz/\P.cellsOf t=1/\ !Am P t/\(Am P e\/sz=1)then
    (match S6 P hp gs t ((l.drop o).take 1) v with
    |some (x,us,ck)=>if !Ms us||us.contains b then none else
     some {cj:=ck,bq:=(b, .deep e sz l g (ep+1) (.set c i (.put (.idx c i) o x (Am P e))))::Ez us}
    |none=>none)else none
  |_=>none)
 |_=>none
def WI(places:List (Nat × Nat))(tys:List TypeId):List (Nat × SV)->List SV->Option (List SV × List Cn)
 | [],cs=>some (cs,[])
 |(i,s)::ps,cs=>match places[i]?,tys[i]? with
  |some (off,sz),some t=>(match SO P t s with
   |some (vs,ck)=>if vs.length=sz/\off+vs.length<=cs.length then(WI places tys ps (Th cs off vs)).map λr=>(r.1,ck++r.2)else none
   |none=>none)
  |_,_=>none
def zxj(t:TypeId)(parts:List (Nat × SV)):Option Bh:=
 match P.info? t,P.underlying t with
 |some it,some (.struct fs)=>
  (match it.zero.bind Fg,fs.toList.mapM (λf=>(P.info? f.type).map λi=>(f.offset,i.size))with
  |some (.agg zs),some places=>(WI P places (fs.toList.map (·.type)) parts zs.toList).map λr=>{cj:=r.2,val:= .agg (BP.of r.1)}
  |_,_=>none)
 |_,_=>none
def Wk(hp:Nat->Option Af)(gs:Gd)(e:TypeId):List SV->Option (List E × List (Nat × Af) × Bool × List Cn)
 | []=>some ([],[],true,[])
 |s::ss=>match aQ P hp gs e s,Wk hp gs e ss with
  |some (x,fz,d,ck),some (xs,fzs,ds,cks)=>some (x::xs,fz++fzs,d&&ds,ck++cks)
  |_,_=>none
def jK(hp:Nat->Option Af)(gs:Gd)(nx:Nat)(t:TypeId)(n:Nat)(parts:List (Nat × SV)):Option Bh:=
 match Hu P t with
 |some e=>
  if !Hv P e\/ !DD P e\/ !(Am P e\/P.cellsOf e=1)\/10000<n*P.cellsOf e\/parts.map (·.1)≠List.range n then none else
  match Wk P hp gs e (parts.map (·.2))with
  |some (xs,fz,d,ck)=>if gs=[]\/fz=[]then some {cj:=ck,val:= .own nx 0,bq:=fz++ [(nx,C5 gs (.row e (P.cellsOf e) 0 (.lst (EL.of xs)) d))]}else none
  |none=>none
 |none=>none
def ZK(hp:Nat->Option Af)(gs:Gd)(nx:Nat)(t:TypeId)(n:Nat)(parts:List (Nat × SV)):Option Bh:=
 match Hu P t,DF P t,gs with
 |some e,some (.row e' z l),[]=>
  if !Hv P e\/Cc P e\/e'≠e\/z≠P.cellsOf e\/ !DD P e\/ !(Am P e\/P.cellsOf e=1)\/10000<n*P.cellsOf e\/parts.map (·.1)≠List.range n then none else
  (match V1 P hp [] e l.toList (parts.map (·.2))with
  |some (xs,us,ck)=>if Ms us then some {cj:=ck,val:= .own nx 0,bq:=(nx, .deep e z l.toList 0 0 (.lst (EL.of xs)))::Ez us}else none
  |none=>none)
 |_,_,_=>none
def qU(gs:Gd)(sl:Nat->SV)(c:E)(a b:Operand):Option Bh:=
 match c with
 | .bool true=>(BM sl gs a).map λs=>{val:=s}
 | .bool false=>(BM sl gs b).map λs=>{val:=s}
 |c=>
  match(BM sl ((c,true)::gs) a).bind FE,(BM sl ((c,false)::gs) b).bind FE with
  |some x,some y=>some {cj:=[.dfd (.not c)],val:= .e (.ite c x y)}
  |_,_=>none
def Np(s:Option SV)(d:E):Option E:=match s with|none=>some d|some (.e y)=>some y|some _=>none
def Iq(ev:Operand->Option SV)(y:Option Operand):Option (Option SV):=match y with|none=>some none|some y=>(ev y).map some
def ZY(hp:Nat->Option Af)(gs:Gd)(t:TypeId)(x:SV)(lo hi mx:Option SV):Option Bh:=
 match Hu P t,x,mx,gs with
 |some el, .own b g,none,[]=>if !DD P el then none else(match Dq hp [] b with
  |some (.row e z g' c d)=>if g≠g'\/e≠el\/z≠P.cellsOf el then none else(match lo,hi with
   |some (.e l),none=>some {cj:=[.win c l (.len c)],val:= .wown b g l z}
   |none,some (.e h)=>some {cj:=[.win c (.int .i64 0) h],val:= .own b (g+1),bq:=[(b, .row e z (g+1) (.win c (.int .i64 0) h) d)]}
   |_,_=>none)
  |_=>none)
 |_,_,_,_=>none
def aL(hp:Nat->Option Af)(gs:Gd)(nx:Nat)(t:TypeId)(x:SV)(lo hi mx:Option SV):Option Bh:=
 match Hu P t,x,mx,gs with
 |some el, .own b g,none,[]=>if !DD P el then none else(match Dq hp [] b with
  |some (.deep e z _ g' _ c)=>if g≠g'\/e≠el\/z≠P.cellsOf el then none else(match lo,hi with
   |some (.e l),none=>some {cj:=[.win c l (.len c)],val:= .wown b g l z}
   |_,_=>none)
  |some (.pre e z dl g' _ c k)=>if g≠g'\/e≠el\/z≠P.cellsOf el then none else(match lo,hi with
   |none,some (.e h)=>if h.beq k then some {cj:=[.win c (.int .i64 0) h],val:= .own nx 0,bq:=(nx, .deep e z dl 0 0 (.win c (.int .i64 0) h))::Ez [b]}else none
   |_,_=>none)
  |_=>none)
 |_,_,_,_=>none
def Z2(hp:Nat->Option Af)(gs:Gd)(nx:Nat)(ts tx:TypeId)(s x:SV):Option Bh:=
 if ts≠tx then none else
 match Hu P ts,DF P ts,gs,s,x with
 |some e,some (.row e' z l),[], .own t g2, .wown b g lo z'=>
  if !Hv P e\/e'≠e\/z≠P.cellsOf e\/z'≠z\/t=b then none else(match Dq hp [] t,Dq hp [] b with
  |some (.deep e2 z2 l2 g2' _ c2),some (.deep e3 z3 l3 g3 ep c)=>
   if e2=e/\z2=z/\(Av.of l2).beq l/\g2=g2'/\e3=e/\z3=z/\(Av.of l3).beq l/\g=g3 then
    some {cj:=[.win c lo (.len c), .room c2 (.win c lo (.len c)) (P.bytesOf e)],val:= .own nx 0,bq:=(nx, .deep e z l.toList 0 0 (.app c2 (.win c lo (.len c))))::(b, .pre e z l.toList g (ep+1) c lo)::Ez [t]}else none
  |_,_=>none)
 |_,_,_,_,_=>none
def mN(hp:Nat->Option Af)(gs:Gd)(t:TypeId)(x:SV):Option Bh:=
 match Hu P t,x,gs with
 |some el, .wown b g l z,[]=>(match Dq hp [] b with
  |some (.row e z' g' c d)=>if g≠g'\/e≠el\/z≠P.cellsOf el\/z'≠z\/ !Hv P e\/ !(Am P e\/z=1)then none else
   (match((P.info? e).bind (·.zero)).bind Fg with
   |some q=>(match BF hp [] A8 q with
    |some w=>some {cj:=[.win c l (.len c), .dfd (.bin .sub (.len c) l)],bq:=[(b, .row e z g (.app (.win c (.int .i64 0) l) (.rep (.bin .sub (.len c) l) w)) d)]}
    |none=>none)
   |none=>none)
  |_=>none)
 |_,_,_=>none
def mU(hp:Nat->Option Af)(gs:Gd)(t:TypeId)(x:SV)(lo hi mx:Option SV):Option Bh:=
 match BF hp gs A8 x with
 |none=>none
 |some y=>
  match mx with
  |some mm=>(match P.underlying t,hi,mm,lo with
   |some (.slice e),some (.e (.int _ 0)), .e (.int _ 0),none=>if DD P e then some {cj:=[.dfd (.len y)],val:= .emp}else none
   |_,_,_,_=>none)
  |none=>
   (match P.underlying t with
   |some .string=>(match Np lo (.int .i64 0),Np hi (.slen y),x with
    |some l,some h, .e _=>some {cj:=[.winS y l h],val:= .e (.swin y l h)}
    |_,_,_=>none)
   |some (.slice e)=>if !DD P e then none else(match Np lo (.int .i64 0),Np hi (.len y),(if Oc hp gs (Cb hp gs (A8+1) [x])then D3 hp gs (Cb hp gs (A8+1) [x])else none)with
    |some l,some h,some fz=>some {cj:=[.issl y (P.cellsOf e), .win y l h],val:= .e (.win y l h),bq:=fz}
    |_,_,_=>none)
   |_=>none)
def We(hp:Nat->Option Af)(gs:Gd)(src dst:TypeId)(x:SV):Option Bh:=
 match P.underlying src,P.underlying dst with
 |some (.int _),some (.int k)=>(FE x).map λy=>{cj:=[.dfd (.conv k y)],val:= .e (.conv k y)}
 |some .string,some .string=>(FE x).map λy=>{cj:=[.dfd (.slen y)],val:= .e y}
 |some (.slice el),some .string=>(match P.underlying el with|some (.int .u8)=>(BF hp gs A8 x).map λy=>{cj:=[.dfd (.text y)],val:= .e (.text y)}|_=>none)
 |_,_=>none
def ZX(hp:Nat->Option Af)(gs:Gd)(t:TypeId)(x i:SV):Option Bh:=
 match P.underlying t,i with
 |some (.slice e), .e k=>if P.cellsOf e=0 then none else(match x with
  | .own b g=>(match Dq hp gs b with
   |some (.row _ sz g' c _)=>if g=g'/\sz=P.cellsOf e then some {cj:=[.inb k c sz],val:= .cz b g k sz 0}else none
   |some (.ca g' c)=>if g=g' then some {cj:=[.inb k c (P.cellsOf e)],val:= .dj c k (P.cellsOf e) 0}else none
   |some (.deep _ sz _ g' _ c)=>if g=g'/\sz=P.cellsOf e then some {cj:=[.inb k c sz],val:= .cz b g k sz 0}else none
   |some (.hol _ sz _ g' _ c _ _ _)=>if g=g'/\sz=P.cellsOf e then some {cj:=[.inb k c sz],val:= .cz b g k sz 0}else none
   |_=>none)
  | .e y=>some {cj:=[.inb k y (P.cellsOf e)],val:= .dj y k (P.cellsOf e) 0}
  | .via b g m q y=>if N8 hp gs b m then some {cj:=[.inb k y (P.cellsOf e)],val:= .vptr b g m q y k (P.cellsOf e) 0}else none
  | .cm=>some {cj:=[.inb k (.lst .nil) (P.cellsOf e)],val:= .dj (.lst .nil) k (P.cellsOf e) 0}
  |_=>none)
 |some .string, .e k=>(match x with
  | .e y=>some {cj:=[.inbS k y],val:= .e (.sidx y k)}
  |_=>none)
 |_,_=>none
def oC(hp:Nat->Option Af)(gs:Gd)(nx:Nat)(t:TypeId)(n c:SV):Option Bh:=
 match Hu P t,n,c with
 |some e, .e x, .e y=>
  if !Hv P e then none else
  if x.beq y then
   match((P.info? e).bind (·.zero)).bind Fg with
   |some z=>(BF hp gs A8 z).map λw=>{cj:=[.mkroom x (P.bytesOf e)],val:= .own nx 0,bq:=[(nx,C5 gs (.row e (P.cellsOf e) 0 (.rep x w) true))]}
   |none=>none
  else match x with
   | .int _ 0=>some {cj:=[.mkroom y (P.bytesOf e)],val:= .own nx 0,bq:=[(nx,C5 gs (.row e (P.cellsOf e) 0 (.lst .nil) true))]}
   |_=>none
 |_,_,_=>none
def sM:DT->SV->Bool
 | .flat, .e x=>UJ x
 | .row _ z l, .cm=>decide (0<z)&&l.toList.length==z
 |_,_=>false
def P0:List DT->List SV->Bool
 | [],[]=>true
 |d::ds,s::ss=>sM d s&&P0 ds ss
 |_,_=>false
def rK(l:List DT)(q:SV):Bool:=match q with
 | .agg cs=>P0 l cs.toList
 | .cm=>P0 l [.cm]
 |_=>false
def Z3(hp:Nat->Option Af)(gs:Gd)(nx:Nat)(t:TypeId)(n c:SV):Option Bh:=
 match Hu P t,DF P t,n,c with
 |some e,some (.row e' z l), .e x, .e y=>
  if !Hv P e\/Cc P e\/e'≠e\/z≠P.cellsOf e\/ !(x.beq y)\/ !gs.isEmpty then none else
   (match((P.info? e).bind (·.zero)).bind Fg with
   |some q=>if rK l.toList q then(BF hp gs A8 q).map λw=>{cj:=[.mkroom x (P.bytesOf e)],val:= .own nx 0,bq:=[(nx, .deep e z l.toList 0 0 (.rep x w))]}else none
   |none=>none)
 |_,_,_,_=>none
def XF(t:TypeId):Bool:=match P.underlying t with|some .string=>true|_=>false
def BX(sl:Nat->SV)(hp:Nat->Option Af)(nv nx:Nat)(gs:Gd)(o:Oper):Option Bh:=
 let ev:=BM sl gs
 match o.op with
 | .move x| .assign x=>(ev x).map λs=>{val:=s}
 | .pick c a b=>(ev c).bind λs=>match s with| .e c=>qU gs sl c a b|_=>none
 | .alloc t=>((P.info? t).bind (·.zero)).bind λz=>(rO P t).bind λs=>(SO P t s).bind λ(cs,ck)=>if cs.isEmpty then none else if !ck.isEmpty then none else some {val:= .cw nx 0,bq:=[(nx,C5 gs (.box t (Am P t) cs))]}
 | .box t x=>(ev x).bind λs=>(SO P t s).bind λ(cs,ck)=>if cs.isEmpty then none else some {cj:=ck,val:= .cw nx 0,bq:=[(nx,C5 gs (.box t (Am P t) cs))]}
 | .build t parts=>(parts.toList.mapM λ(p:Nat × Operand)=>(ev p.2).map λs=>(p.1,s)).bind λps=>zxj P t ps
 | .buildSlice t n parts=>(parts.toList.mapM λ(p:Nat × Operand)=>(ev p.2).map λs=>(p.1,s)).bind λps=>if sg.dp&&(ZK P hp gs nx t n ps).isSome then ZK P hp gs nx t n ps else jK P hp gs nx t n ps
 | .load t a=>(ev a).bind λs=>(qY P hp gs t (asPtr s).1).map λe=>{e with cj:=(asPtr s).2++e.cj}
 | .store t a x=>(ev a).bind λp=>(ev x).bind λv=>NF P hp gs t p v
 | .nilCheck x=>(ev x).bind λs=>match s with
  | .e y=>some {cj:=[.isref y 0],val:= .dn y 0}
  | .cw t p=>some {val:= .cw t p}
  | .cz t g i sz p=>some {val:= .cz t g i sz p}
  | .dj y i sz p=>some {val:= .dj y i sz p}
  | .dn y p=>some {val:= .dn y p}
  | .vptr t g m q y i sz p=>if N8 hp gs t m then some {val:= .vptr t g m q y i sz p}else none
  |_=>none
 | .binOp op t x y _=>(ev x).bind λa=>(ev y).bind λb=>S8 P hp gs nv op t a b
 | .unOp .not _ x=>(ev x).bind λs=>(FE s).map λy=>match y with| .bool b=>{val:= .e (.bool (!b))}|y=>{cj:=[.dfd (.not y)],val:= .e (.not y)}
 | .unOp .neg _ x=>(ev x).bind λs=>(FE s).map λy=>{cj:=[.dfd (.neg y)],val:= .e (.neg y)}
 | .convert src dst x=>(ev x).bind λs=>We P hp gs src dst s
 | .makeFunc (.func f) first caps=>if first.isEmpty then(caps.toList.mapM ev).map λss=>{val:= .fn f (BP.of ss)}else none
 | .makeSlice t l c=>(ev l).bind λn=>(ev c).bind λm=>if sg.dp&&(Z3 P hp gs nx t n m).isSome then Z3 P hp gs nx t n m else oC P hp gs nx t n m
 | .slice t x lo hi mx=>(ev x).bind λs=>(Iq ev lo).bind λl=>(Iq ev hi).bind λh=>(Iq ev mx).bind λm=>if sg.wn&&(aL P hp gs nx t s l h m).isSome then aL P hp gs nx t s l h m else if sg.wn&&(ZY P hp gs t s l h m).isSome then ZY P hp gs t s l h m else mU P hp gs t s l h m
 | .fieldAddr t x f=>(ev x).bind λs=>match P.underlying t with
  |some (.struct fs)=>(match fs[f]? with|some fd=>if P.cellsOf fd.type=0\/ !zFt hp gs s then none else(ptrOff (asPtr s).1 fd.offset).map λv=>{cj:=(asPtr s).2,val:=v}|none=>none)
  |_=>none
 | .field t x f=>(ev x).bind λs=>match P.underlying t with
  |some (.struct fs)=>(match fs[f]? with
   |some fd=>if !DD P fd.type then none else(match s with
    | .agg cs=>(Qa P fd.type cs.toList fd.offset).map λv=>{val:=v}
    | .e y=>if fd.offset+P.cellsOf fd.type<=P.cellsOf t/\(Am P fd.type\/P.cellsOf fd.type=1)then some {cj:=[.agg y (P.cellsOf t)],val:= .e (.fld y fd.offset (P.cellsOf fd.type) (Am P fd.type))}else none
    | .via b g m _ y=>if fd.offset+P.cellsOf fd.type<=P.cellsOf t/\(Am P fd.type\/P.cellsOf fd.type=1)/\N8 hp gs b m then
      (if Cc P fd.type then some {cj:=[.agg y (P.cellsOf t), .flat (.fld y fd.offset (P.cellsOf fd.type) (Am P fd.type)) (P.cellsOf fd.type) (Am P fd.type)],val:= .e (.fld y fd.offset (P.cellsOf fd.type) (Am P fd.type))}
      else some {cj:=[.agg y (P.cellsOf t)],val:= .via b g m none (.fld y fd.offset (P.cellsOf fd.type) (Am P fd.type))})else none
    |_=>none)
   |none=>none)
  |_=>none
 | .indexAddr t x i=>(ev x).bind λs=>(ev i).bind λk=>if XF P t then none else ZX P hp gs t s k
 | .index t x i=>(ev x).bind λs=>(ev i).bind λk=>if XF P t then ZX P hp gs t s k else none
 | .extract t i=>(ev t).bind λs=>match s with
  | .tup vs=>(vs.toList[i]?).map λv=>{val:=v}
  | .e y=>some {cj:=[.dfd (.proj y i)],val:= .e (.proj y i)}
  |_=>none
 | .call c=>match c.callee with
  | .builtin .len=>(match c.args.toList,c.argTypes.toList with| [x],[tx]=>(ev x).bind λs=>sD P hp gs tx s|_,_=>none)
  | .builtin .append=>(match c.args.toList,c.argTypes.toList with| [x,y],[tx,ty]=>(ev x).bind λs=>(ev y).bind λv=>if sg.wn&&(Z2 P hp gs nx tx ty s v).isSome then Z2 P hp gs nx tx ty s v else if sg.dp&&(ZB P hp gs nx tx ty s v).isSome then ZB P hp gs nx tx ty s v else lP P hp gs nx tx ty s v|_,_=>none)
  | .builtin .clear=>(match c.args.toList,c.argTypes.toList with| [x],[tx]=>(ev x).bind λs=>mN P hp gs tx s|_,_=>none)
  | .builtin .max=>(match c.args.toList with| [x,y]=>(ev x).bind λs=>(ev y).bind λv=>ZP .gtr s v|_=>none)
  | .builtin .min=>(match c.args.toList with| [x,y]=>(ev x).bind λs=>(ev y).bind λv=>ZP .lss s v|_=>none)
  | .builtin _=>none
  | .value f=>(ev f).bind λs=>(c.args.toList.mapM ev).bind λas_=>match s with
   | .fn g caps=>Wo P sg hp gs nv nx g (as_++caps.toList)
   | .e y=>SQ P hp gs nv o.type y as_
   | .lent i=>SQ P hp gs nv o.type (.var i) as_
   |_=>none
  |_=>none
 |_=>none
def Wi(hp:Nat->Option Af)(T v m u:Nat)(p:E × Nat × Nat):Option (Af × Af):=
 match Dq hp [] T with
 |some (.deep e z l g ep c)=>if g=v/\ep=m/\p.2.1=z then(match l[p.2.2]? with
   |some (.row e2 z2 l2)=>some (.hol e z l g (ep+1) c p.1 p.2.2 u,if l2.toList.all DT.cc then .row e2 z2 0 (.fld (.idx c p.1) p.2.2 1 false) true else .deep e2 z2 l2.toList 0 0 (.fld (.idx c p.1) p.2.2 1 false))
   |_=>none)else none
 |_=>none
def Mj(sl:Nat->SV)(u:Nat):List Operand->Option (Nat × Nat × Nat × Nat × (E × Nat × Nat) × SV)
 | []=>none
 | .tmp t::l=>(match sl t with
  | .via T v m (some p) _=>some (t,T,v,m,p, .own u 0)
  | .vptr T v m (some p) _ k z q=>some (t,T,v,m,p, .cz u 0 k z q)
  |_=>Mj sl u l)
 |_::l=>Mj sl u l
def zBp(o:Oper):Bool:=match o.op with
 | .call c=>(match c.callee with| .builtin .append=>true|_=>false)
 |_=>false
def Mo:List (Nat × Af)->Nat->Option Af
 | [],_=>none
 |(t,e)::l,u=>match Mo l u with
  |some f=>some f
  |none=>if t=u then some e else none
def Wf(h r:Af):Option Af:=match h with
 | .hol e z l g ep c i o _=>(match l[o]?,r with
  |some (.row e2 z2 l2), .row e3 z3 0 x true=>if l2.toList.all DT.cc/\e3=e2/\z3=z2/\l2.toList.length=z2/\(Am P e\/z=1)then some (.deep e z l g (ep+1) (.set c i (.put (.idx c i) o x (Am P e))))else none
  |some (.row e2 z2 l2), .deep e3 z3 l3 0 _ x=>if e3=e2/\z3=z2/\(Av.of l3).beq l2/\(Am P e\/z=1)then some (.deep e z l g (ep+1) (.set c i (.put (.idx c i) o x (Am P e))))else none
  |_,_=>none)
 |_=>none
def Wt(sl:Nat->SV)(hp:Nat->Option Af)(nv nx:Nat)(o:Oper):Option Bh:=
 let u:=nx+999
 match Mj sl u o.op.operands.toList with
 |none=>none
 |some (t,T,v,m,p,s)=>(match Wi hp T v m u p with
  |none=>none
  |some (h,r)=>
   (match BX P sg (λi=>if i=t then s else sl i) (λw=>if w=T then some h else if w=u then some r else hp w) nv nx [] o with
   |none=>none
   |some e=>if e.ch.isSome then none else
    if zBp o then(match Mo e.bq T with|none=>some {e with bq:=(T,h)::(u,r)::e.bq}|some _=>none)else
    (match Mo e.bq u,Mo e.bq T with
    |some r',none=>(Wf P h r').map λd=>{e with bq:=(T,h)::(u,r)::e.bq++ [(T,d),(u, .dead)]}
    |_,_=>none)))
def zK(l:List (Nat × Af)):List Nat:=l.filterMap λp=>match p.2 with| .deep .. =>some p.1|_=>none
def KH(dp:Bool)(hp:Nat->Option Af)(gs:Gd)(e:Bh):Bh:=
 if dp|| !gs.isEmpty||e.call.isNone||e.ch.isSome then e else
 match D3 (λt=>match Mo e.bq t with|some f=>some f|none=>hp t) [] (zK e.bq)with
 |some l=>{e with bq:=e.bq++l}
 |none=>e
def KK(fz:Bool)(hp:Nat->Option Af)(gs:Gd)(e:Bh):Bh:=
 if !fz|| !gs.isEmpty||e.call.isSome||e.ch.isSome|| !e.bq.isEmpty then e else
 match e.val with
 | .via .. =>(match BF hp [] A8 e.val,D3 hp [] (Cb hp [] (A8+1) [e.val])with
  |some y,some l=>if Oc hp [] (Cb hp [] (A8+1) [e.val])then{e with val:= .e y,bq:=l}else e
  |_,_=>e)
 |_=>e
def Mt(sl:Nat->SV)(hp:Nat->Option Af)(nv nx:Nat)(gs:Gd)(o:Oper):Option Bh:=
 match BX P sg sl hp nv nx gs o with
 |some e=>some (KK sg.fz hp gs (KH sg.dp hp gs e))
 |none=>match gs with
  | []=>Wt P sg sl hp nv nx o
  |_=>none
def BR(σ:St)(i:Nat):SV:=(σ.sl[i]?).getD .undef
def AO(l:List (Nat × Af))(t:Nat):Option Af:=match l with| []=>none|(u,e)::l=>if u=t then some e else AO l t
def MC(l:List (Nat × Af))(t:Nat)(e:Af):List (Nat × Af):=match l with| []=> [(t,e)]|(u,f)::l=>if u=t then(u,e)::l else(u,f)::MC l t e
def Ie(σ:St)(d:Option Nat)(s:SV):St:=match d with|none=>σ|some d=>{σ with sl:=σ.sl.set d s}
def HB:SV:= .gd [(.bool false,true)] .cm
def zy4(gs:Gd):Bool:=gs.any λg=>match g.1 with| .bool x=>x !=g.2|_=>false
def PH(σ:St)(ops:Array Oper)(o:Oper):Option (Option Gd):=
 match o.guard with
 |none=>some (some [])
 |some (j,want)=>match(ops[j]?).bind (·.dst)with
  |none=>some none
  |some d=>match BR σ d with
   | .e (.bool b)=>some (if b==want then some []else none)
   | .e c=>some (some [(c,want)])
   | .gd hs s=>if zy4 hs then some none else(match s with
    | .e (.bool b)=>some (if b==want then some hs else none)
    | .e c=>some (some ((c,want)::hs))
    |_=>none)
   |_=>none
def BW:Nat:=1000
def Mf(σ:St)(gs:Gd)(o:Oper)(e:Bh):St:=
 let σ':=Ie σ o.dst (mkGd gs e.val)
 {σ' with hp:=e.bq.foldl (λl (t,x)=>MC l t x) σ'.hp,nv:=if e.call.isSome||e.ch.isSome then σ'.nv+1 else σ'.nv}
def aK(gs:Gd)(e:Bh)(k:Tr):Tr:=
 let k:=match e.call with|some c=> .call gs c.fn (EL.of c.args) k|none=>k
 let k:=match e.ch with|some x=> .ch gs x k|none=>k
 e.cj.foldr (λc k=> .cj gs c k) k
def assumeS(c:E)(b:Bool)(s:SV):SV:=match s with
 | .gd hs s=>if P7 (c, !b) hs then HB else mkGd (hs.filter λh=> !(h.1.beq c&&h.2==b)) s
 |s=>s
def assumeE(c:E)(b:Bool)(e:Af):Af:=match e with
 | .gd hs e=>if P7 (c, !b) hs then .dead else(match e with| .gd .. => .dead|e=>C5 (hs.filter λh=> !(h.1.beq c&&h.2==b)) e)
 |e=>e
def assume(c:E)(b:Bool)(d:Nat)(σ:St):St:=
 {σ with sl:=(σ.sl.map (assumeS c b)).set d (.e (.bool b)),hp:=σ.hp.map λ(t,e)=>(t,assumeE c b e)}
def yX:SV->List Nat
 | .cw t _=> [t]
 | .cz t .. => [t]
 | .via t .. => [t]
 | .vptr t .. => [t]
 | .wown t .. => [t]
 | .gd _ s=>(match s with| .cw t _=> [t]| .cz t .. => [t]| .via t .. => [t]| .vptr t .. => [t]| .wown t .. => [t]|_=> [])
 |_=> []
def rP:SV->List Nat
 | .via t .. => [t]
 | .vptr t .. => [t]
 | .gd _ s=>(match s with| .via t .. => [t]| .vptr t .. => [t]|_=> [])
 |_=> []
def Wc(σ:St)(gs:Gd)(o:Oper):List Nat:=
 let sv (x:Operand):List SV:=match x with| .tmp t=> [BR σ t]|_=> []
 match o.op with
 | .move _=> []
 | .assign _=> []
 | .nilCheck x=>(sv x).flatMap rP
 | .fieldAddr _ x _=>(sv x).flatMap rP
 | .extract .. => []
 | .makeFunc .. => []
 | .load _ a=>(sv a).flatMap yX
 | .store _ a v=>(sv a).flatMap yX++Cb (AO σ.hp) gs A8 (sv v)
 |op=>Cb (AO σ.hp) gs A8 (op.operands.toList.flatMap sv)
def QH(l:List (Nat × Af))(R:List Nat)(t:Nat):Option Af:=if R.contains t then AO l t else none
structure Log where
 i:Nat
 R:List Nat
 W:List Nat
def fF(a b:List Nat):Bool:=a.any λt=>b.contains t
def aN(ops:Array Oper)(o:Oper):List Nat:=
 (o.op.operands.toList.filterMap λx=>match x with| .tmp t=>some t|_=>none)++(match o.guard with|some (j,_)=>((ops[j]?).bind (·.dst)).toList|none=> [])
def nY(acc:List Nat)(o:Oper):Nat:=o.after.toList.foldl (λs e=>if Region.binds .any e then s|||2^e.on|||(acc[e.on]?).getD 0 else s) 0
def KY:List Oper->List Nat->List Nat
 | [],acc=>acc
 |o::os,acc=>KY os (acc++ [nY acc o])
def J9(bs:List Nat)(i j:Nat):Bool:=if i<j then((bs[j]?).getD 0).testBit i else((bs[i]?).getD 0).testBit j
def aR(ops:Array Oper)(l:List Log):Bool:=
 let bs:=KY ops.toList []
 (l.all λa=>l.all λb=>a.i==b.i|| !(fF a.W (b.R++b.W))||J9 bs a.i b.i)&&
 (ops.toList.zipIdx.all λ(o,j)=>o.after.toList.all λe=> !Region.binds .any e||decide (e.on<j))&&
 (ops.toList.zipIdx.all λ(o,j)=>ops.toList.zipIdx.all λ(p,i)=>i==j||(match p.dst with
  |some d=>(o.dst !=some d)&&(!(aN ops o).contains d||J9 bs i j)
  |none=>true))
def Cn.sc(n:Nat):Cn->Bool
 | .dfd x=>x.sc n
 | .agg x _=>x.sc n
 | .cells x _=>x.sc n
 | .inb i x _=>i.sc n&&x.sc n
 | .inbS i x=>i.sc n&&x.sc n
 | .win x lo hi=>x.sc n&&lo.sc n&&hi.sc n
 | .winS x lo hi=>x.sc n&&lo.sc n&&hi.sc n
 | .room x y _=>x.sc n&&y.sc n
 | .roomS x y=>x.sc n&&y.sc n
 | .mkroom x _=>x.sc n
 | .nz x=>x.sc n
 | .nn x=>x.sc n
 | .isref x _=>x.sc n
 | .issl x _=>x.sc n
 | .flat x _ _=>x.sc n
 | .flatS x _=>x.sc n
 | .kinds x _=>x.sc n
def UK(n:Nat)(gs:Gd):Bool:=gs.all λg=>g.1.sc n
def Td(n nx:Nat)(hp:List (Nat × Af))(gs:Gd)(e:Bh):Bool:=
 UK n gs&&e.cj.all (Cn.sc n)&&
 (match e.call with|some c=>(match c.fn with| .inl _=>true| .inr x=>x.sc n)&&c.args.all (E.sc n)|none=>true)&&
 (match e.ch with|some x=>x.sc n&&e.call.isNone|none=>true)&&
 e.bq.all (λ(t,x)=>(nx<=t&&t<nx+BW&&(gs.isEmpty||(match x with| .gd hs _=>MD gs hs|_=>false)))||(gs.isEmpty&&(AO hp t).isSome))
mutual
def SV.sc(n:Nat):SV->Bool
 | .undef| .cm| .emp| .own .. | .cw .. =>true
 | .e x=>x.sc n
 | .cz _ _ i _ _=>i.sc n
 | .dj x i _ _=>x.sc n&&i.sc n
 | .dn x _=>x.sc n
 | .via _ _ _ p x=>(match p with|some q=>q.1.sc n|none=>true)&&x.sc n
 | .vptr _ _ _ p x i _ _=>(match p with|some q=>q.1.sc n|none=>true)&&x.sc n&&i.sc n
 | .wown _ _ l _=>l.sc n
 | .lent i=>decide (i<n)
 | .agg cs=>cs.sc n
 | .tup cs=>cs.sc n
 | .fn _ cs=>cs.sc n
 | .gd gs s=>UK n gs&&s.sc n
def BP.sc(n:Nat):BP->Bool
 | .nil=>true
 | .cons s l=>s.sc n&&l.sc n
end
def Af.sc(n:Nat):Af->Bool
 | .box _ _ cs=>cs.all (SV.sc n)
 | .row _ _ _ x _=>x.sc n
 | .ca _ x=>x.sc n
 | .gd gs e=>UK n gs&&(match e with| .box _ _ cs=>cs.all (SV.sc n)| .row _ _ _ x _=>x.sc n| .ca _ x=>x.sc n| .deep _ _ _ _ _ x=>x.sc n| .hol _ _ _ _ _ x i _ _=>x.sc n&&i.sc n| .pre _ _ _ _ _ x k=>x.sc n&&k.sc n|_=>true)
 | .deep _ _ _ _ _ x=>x.sc n
 | .hol _ _ _ _ _ x i _ _=>x.sc n&&i.sc n
 | .pre _ _ _ _ _ x k=>x.sc n&&k.sc n
 | .dead=>true
def St.sc(σ:St):Bool:=σ.sl.all (SV.sc σ.nv)&&σ.hp.all λ(_,e)=>e.sc σ.nv
def isE:SV->Bool
 | .e _=>true
 |_=>false
def rN(ops:Array Oper):Bool:=ops.any λo=>match o.op with| .panic _=>true|_=>false
def zxu(σ:St)(ops:Array Oper):Nat->Oper->Option Nat
 |0,_=>none
 |n+1,o=>match o.guard with
  |none=>none
  |some (j,_)=>match ops[j]? with
   |none=>none
   |some p=>match p.dst with
    |none=>none
    |some d=>if isE (BR σ d)then some d else zxu σ ops n p
def UB(ops:Array Oper)(draw:Bool)(base:Nat)(next:List Log->St->Option Tr)(i:Nat)(o:Oper)(lg:List Log)(fail:Unit->Option Tr)(σ:St):Option Tr:=
 match PH σ ops o with
 |none=>none
 |some none=>next lg (Ie σ o.dst HB)
 |some (some gs)=>
  let R:=Wc σ gs o
  match Mt P sg (BR σ) (QH σ.hp R) σ.nv (base+BW*i) gs o with
  |some e=>
   if(draw&&e.ch.isSome)|| !Td σ.nv (base+BW*i) σ.hp gs e||(!draw&&(e.call.isSome||e.ch.isSome)&& !σ.sc)then none else
   (match next (⟨i,R,e.bq.map (·.1)⟩::lg) (Mf σ gs o e)with
   |none=>none
   |some k=>some (aK gs e k))
  |none=>fail ()
def UC(ops:Array Oper)(draw:Bool)(base:Nat)(next:List Log->St->Option Tr)(i:Nat)(o:Oper)(lg:List Log):Nat->St->Option Tr
 |0,σ=>UB P sg ops draw base next i o lg (λ_=>none) σ
 |n+1,σ=>UB P sg ops draw base next i o lg (λ_=>
  match draw,zxu σ ops 8 o with
  |false,some d=>(match BR σ d with
   | .e c=>(match UC ops draw base next i o lg n (assume c true d σ),UC ops draw base next i o lg n (assume c false d σ)with
    |some k1,some k0=>some (.ite c k1 k0)
    |_,_=>none)
   |_=>none)
  |_,_=>none) σ
def My(ops:Array Oper)(draw:Bool)(base:Nat):List Nat->List Log->St->Option Tr
 | [],lg,σ=>if draw&& !aR ops lg then none else some (.leaf .normal {σ with nx:=base+BW*ops.size})
 |i::is,lg,σ=>
  match ops[i]? with
  |none=>none
  |some o=>UC P sg ops draw base (λlg σ=>My ops draw base is lg σ) i o lg 4 σ
end
def bit(i:Nat):Nat:=1<<<i
def H8(l d:Nat):Nat:=l^^^(l&&&d)
def EC:List Operand->Nat
 | []=>0
 | .tmp t::l=>bit t|||EC l
 |_::l=>EC l
def zyB(ops:Array Oper)(l:Nat):Nat:=
 let r:=ops.toList.foldl (λ(acc:Nat × Nat) o=>
  let u:=EC o.op.operands.toList
  (acc.1|||H8 u acc.2,match o.dst,o.guard with|some d,none=>acc.2|||bit d|_,_=>acc.2)) (0,0)
 r.1|||H8 l r.2
def CG(rs:Nat):Code->List (Nat × Nat)->Nat->Nat
 | .skip,_,l=>l
 | .region _ ops _,_,l=>zyB ops l
 | .seq a b,ex,l=>CG rs a ex (CG rs b ex l)
 | .cond c a b,ex,l=>EC [c]|||CG rs a ex l|||CG rs b ex l
 | .block id b,ex,l=>CG rs b ((id,l)::ex) l
 | .loop b,ex,l=>let l1:=CG rs b ex 0;CG rs b ex l1|||l1
 | .exit id,ex,_=>(ex.lookup id).getD 0
 | .scope b,ex,l=>CG rs b ex l
 | .label _,_,l=>l
 | .ret,_,_=>rs
 |_,_,_=>0
def Tr.db:Tr->List St
 | .leaf .normal σ=> [σ]
 | .leaf _ _=> []
 | .ret _=> []
 | .stuck=> []
 | .jmp .. => []
 | .ite _ a b=>a.db++b.db
 | .cj _ _ k=>k.db
 | .call _ _ _ k=>k.db
 | .ch _ _ k=>k.db
 | .join t k=>t.db++k.db
 | .loop _ b k=>b.db++k.db
def Tr.ec(id:Nat):Tr->List St
 | .leaf (.exit j) σ=>if j=id then [σ]else []
 | .leaf _ _=> []
 | .ret _=> []
 | .stuck=> []
 | .jmp .. => []
 | .ite _ a b=>a.ec id++b.ec id
 | .cj _ _ k=>k.ec id
 | .call _ _ _ k=>k.ec id
 | .ch _ _ k=>k.ec id
 | .join t k=>t.ec id++k.ec id
 | .loop _ b k=>b.ec id++k.ec id
def Tr.cu:Tr->Option Nat
 | .leaf (.exit j) _=>some j
 | .leaf _ _=>none
 | .ret _=>none
 | .stuck=>none
 | .jmp .. =>none
 | .ite _ a b=>a.cu<|>b.cu
 | .cj _ _ k=>k.cu
 | .call _ _ _ k=>k.cu
 | .ch _ _ k=>k.cu
 | .join t k=>t.cu<|>k.cu
 | .loop _ b k=>b.cu<|>k.cu
def Tr.sub(f:Nat->Xt->St->Option Tr):Nat->Tr->Option Tr
 |d, .leaf x σ=>f d x σ
 |_, .ret r=>some (.ret r)
 |_, .stuck=>some .stuck
 |_, .jmp i es=>some (.jmp i es)
 |d, .ite c a b=>match a.sub f d,b.sub f d with|some x,some y=>some (.ite c x y)|_,_=>none
 |d, .cj g c k=>(k.sub f d).map (.cj g c)
 |d, .call g h as_ k=>(k.sub f d).map (.call g h as_)
 |d, .ch g x k=>(k.sub f d).map (.ch g x)
 |d, .join t k=>match t.sub f (d+1),k.sub f d with|some x,some y=>some (.join x y)|_,_=>none
 |d, .loop i b k=>match b.sub f (d+2),k.sub f d with|some x,some y=>some (.loop i x y)|_,_=>none
def SL:Nat:=100000
def zFF:E->Bool
 | .var i=>SL<=i
 |_=>false
structure Wd where
 hp:List (Nat × Af)
 nx:Nat
 n:Nat
 θ:List (Nat × Nat)
def wE(nv:Nat)(w:Wd)(p y:E):E × Wd:=
 if zFF p then(p,w)else if p.sc nv&&p.beq y then(p,w)else(.var (SL+w.n),{w with n:=w.n+1})
def K5(hp:List (Nat × Af))(t g:Nat):Bool:=match AO hp t with
 |some (.row _ _ g' _ _)=>g==g'
 |some (.ca g' _)=>g==g'
 |some (.deep _ _ _ g' _ _)=>g==g'
 |_=>false
def zDk(hp:List (Nat × Af))(t:Nat)(x:E):Option Af:=match AO hp t with
 |some (.row e s _ _ d)=>some (.row e s 0 x d)
 |some (.deep e s l _ _ _)=>some (.deep e s l 0 0 x)
 |_=>none
def Jw(leaf:St)(s:SV):Option E:=BF (AO leaf.hp) [] A8 s
def oR:Nat:=1000000000
def fA(w:Wd)(t t':Nat):Option Wd:=
 match w.θ.lookup t with
 |some u=>if u=t' then some w else none
 |none=>if w.θ.any (·.2==t')then none else some {w with θ:=(t,t')::w.θ}
def Mq(nv:Nat)(w:Wd)(p y:Option E):SV × Wd:=
 match y with
 |none=>(.undef,w)
 |some y=>match p with
  |some p=>let(x,w):=wE nv w p y;(.e x,w)
  |none=>(.e (.var (SL+w.n)),{w with n:=w.n+1})
mutual
def wS(nv:Nat)(pat leaf:St):Nat->Wd->SV->SV->SV × Wd
 |0,w,_,_=>(.undef,w)
 |n+1,w,p,s=>
  match p,s with
  | .undef,_=>(.undef,w)
  | .e x,s=>Mq nv w (some x) (Jw leaf s)
  | .cm, .cm=>(.cm,w)
  | .emp, .emp=>(.emp,w)
  | .emp,s=>Mq nv w none (Jw leaf s)
  | .cm, .own t' g'=>(match zDk leaf.hp t' (.var (SL+w.n)),K5 leaf.hp t' g' with
   |some e,true=>(match fA w w.nx t' with
    |some w'=>(.own w.nx 0,{w' with nx:=w.nx+1,n:=w'.n+1,hp:=w'.hp++ [(w.nx,e)]})
    |none=>Mq nv w none (Jw leaf s))
   |_,_=>Mq nv w none (Jw leaf s))
  | .cm,s=>Mq nv w none (Jw leaf s)
  | .own t g, .own t' g'=>
   if !K5 w.hp t g|| !K5 leaf.hp t' g' then(.undef,w)else
   (match fA w t t' with
   |some w'=>(.own t g,w')
   |none=>Mq nv w none (Jw leaf s))
  | .own t g, .cm=>if(w.θ.lookup t).isSome then Mq nv w none (Jw leaf s)else(.own t g,{w with θ:=(t,oR+t)::w.θ})
  | .own _ _,s=>Mq nv w none (Jw leaf s)
  | .cw t o, .cw t' o'=>if o=o' then(match fA w t t' with|some w'=>(.cw t o,w')|none=>(.undef,w))else(.undef,w)
  | .agg cs, .agg ds=>let(l,w'):=Qy nv pat leaf n w cs.toList ds.toList;(.agg (BP.of l),w')
  | .agg cs,s=>Mq nv w none (Jw leaf s)
  | .tup cs, .tup ds=>let(l,w'):=Qy nv pat leaf n w cs.toList ds.toList;(.tup (BP.of l),w')
  | .fn f cs, .fn g ds=>if f=g then let(l,w'):=Qy nv pat leaf n w cs.toList ds.toList;(.fn f (BP.of l),w')else(.undef,w)
  | .dn x o, .dn y o'=>if o=o'&&x.sc nv&&x.beq y then(p,w)else(.undef,w)
  | .dj x i z o, .dj y j z' o'=>if o=o'&&z=z'&&x.sc nv&&x.beq y&&i.sc nv&&i.beq j then(p,w)else(.undef,w)
  | .lent i, .lent j=>if i==j&&decide (i<nv)then(p,w)else(.undef,w)
  |_,_=>(.undef,w)
def Qy(nv:Nat)(pat leaf:St):Nat->Wd->List SV->List SV->List SV × Wd
 |0,w,_,_=>([],w)
 |n+1,w,p::ps,s::ss=>
  let(x,w):=wS nv pat leaf n w p s;let(xs,w):=Qy nv pat leaf n w ps ss
  (x::xs,w)
 |_,w,_,_=>([],w)
end
def Ta(nv:Nat)(pat leaf:St):List (Nat × Af)->Wd->List (Nat × Af)->List (Nat × Af) × Wd
 | [],w,acc=>(acc.reverse,w)
 |(t,e)::l,w,acc=>
  match e,(w.θ.lookup t)with
  | .box ty g cs,some t'=>(match AO leaf.hp t' with
   |some (.box ty' _ ds)=>if ty=ty' then
     let w0:=w;let(xs,w):=Qy nv pat leaf A8 w0 cs ds
     Ta nv pat leaf l w ((t, .box ty g xs)::acc)
    else Ta nv pat leaf l w acc
   |_=>Ta nv pat leaf l w acc)
  | .box ..,none=>Ta nv pat leaf l w acc
  |e,_=>Ta nv pat leaf l w ((t,e)::acc)
def F2(nv:Nat)(leaf:St):List (Nat × Af)->Wd->List (Nat × Af)->List (Nat × Af) × Wd
 | [],w,acc=>(acc.reverse,w)
 |(t,e)::l,w,acc=>
  match e with
  | .row et z g x d=>(match w.θ.lookup t with
   |some t'=>if oR<=t' then(let(x,w):=wE nv w x (.lst .nil);F2 nv leaf l w ((t, .row et z g x d)::acc))else(match AO leaf.hp t' with
    |some (.row _ _ _ y d')=>let(x,w):=wE nv w x y;F2 nv leaf l w ((t, .row et z g x (d&&d'))::acc)
    |some (.ca _ y)=>let(x,w):=wE nv w x y;F2 nv leaf l w ((t, .ca g x)::acc)
    |some (.deep _ _ _ _ _ y)=>let(x,w):=wE nv w x y;F2 nv leaf l w ((t, .row et z g x false)::acc)
    |_=>F2 nv leaf l w acc)
   |none=>F2 nv leaf l w acc)
  | .deep et z dl g ep x=>(match w.θ.lookup t with
   |some t'=>if oR<=t' then(let(x,w):=wE nv w x (.lst .nil);F2 nv leaf l w ((t, .deep et z dl g ep x)::acc))else(match AO leaf.hp t' with
    |some (.deep _ _ _ _ _ y)=>let(x,w):=wE nv w x y;F2 nv leaf l w ((t, .deep et z dl g ep x)::acc)
    |some (.row _ _ _ y _)=>let(x,w):=wE nv w x y;F2 nv leaf l w ((t, .row et z g x false)::acc)
    |some (.ca _ y)=>let(x,w):=wE nv w x y;F2 nv leaf l w ((t, .ca g x)::acc)
    |_=>F2 nv leaf l w acc)
   |none=>F2 nv leaf l w acc)
  | .ca g x=>(match w.θ.lookup t with
   |some t'=>(match AO leaf.hp t' with
    |some (.row _ _ _ y _)=>let(x,w):=wE nv w x y;F2 nv leaf l w ((t, .ca g x)::acc)
    |some (.ca _ y)=>let(x,w):=wE nv w x y;F2 nv leaf l w ((t, .ca g x)::acc)
    |some (.deep _ _ _ _ _ y)=>let(x,w):=wE nv w x y;F2 nv leaf l w ((t, .ca g x)::acc)
    |_=>F2 nv leaf l w acc)
   |none=>F2 nv leaf l w acc)
  |e=>F2 nv leaf l w ((t,e)::acc)
def sL(nv live:Nat)(pat:St × Nat)(leaf:St):St × Nat:=
 let w0:Wd:={hp:=pat.1.hp,nx:=max pat.1.nx leaf.nx,n:=pat.2,θ:=[]}
 let(sl,w):=Qy nv pat.1 leaf 2000 w0 (pat.1.sl.zipIdx.map λ(s,i)=>if live.testBit i then s else .undef) leaf.sl;let n0:=w.hp.length;let(hp,w):=Ta nv pat.1 leaf w.hp w [];let hp:=hp++w.hp.drop n0;let(hp,w):=F2 nv leaf hp w []
 ({sl,hp,nx:=max w.nx leaf.nx,nv:=pat.1.nv},w.n)
def Xi(nv:Nat):E->E
 | .var i=>if SL<=i then .var (nv+(i-SL))else .var i
 |e=>e
mutual
def eU(nv:Nat):SV->SV
 | .e x=> .e (Xi nv x)
 | .agg cs=> .agg (XE nv cs)
 | .tup cs=> .tup (XE nv cs)
 | .fn f cs=> .fn f (XE nv cs)
 | .gd _ _=> .undef
 |s=>s
def XE(nv:Nat):BP->BP
 | .nil=> .nil
 | .cons s l=> .cons (eU nv s) (XE nv l)
end
def zFC(nv:Nat):Af->Af
 | .box ty g cs=> .box ty g (cs.map (eU nv))
 | .row e z g x d=> .row e z g (Xi nv x) d
 | .ca g x=> .ca g (Xi nv x)
 | .deep e z l g ep x=> .deep e z l g ep (Xi nv x)
 | .gd _ _=> .dead
 |e=>e
def rU(nv:Nat)(p:St × Nat):St:={sl:=p.1.sl.map (eU nv),hp:=p.1.hp.map λ(t,e)=>(t,zFC nv e),nx:=p.1.nx,nv:=nv+p.2}
def J8(nv:Nat)(es:List E)(x y:E):Bool:=
 match x with
 | .var i=>if i<nv then x.beq y else(match es[i-nv]? with|some z=>z.beq y|none=>false)
 |_=>x.sc nv&&x.beq y
section
variable (nv:Nat) (es:List E) (θ:List (Nat × Option Nat)) (pat leaf:St)
mutual
def Uz:Nat->SV->SV->Bool
 |0,_,_=>false
 |n+1,p,s=>
  match p with
  | .undef=>true
  | .e x=>(match Jw leaf s with
   |some y=>J8 nv es x y&&(Cb (AO leaf.hp) [] (A8+1) [s]).all λt'=>θ.all λ(u,v)=>v !=some t'||(match AO pat.hp u with|some (.ca ..)=>true|none=>true|_=>false)
   |none=>false)
  | .cm=>(match s with| .cm=>true|_=>false)
  | .emp=>(match s with| .emp=>true| .cm=>true|_=>false)
  | .own t g=>(match AO pat.hp t with
   |some (.row _ _ g' _ _)=>g==g'&&(match s with
    | .own t' v=>θ.lookup t==some (some t')&&K5 leaf.hp t' v
    | .cm=>θ.lookup t==some none
    |_=>false)
   |some (.ca g' _)=>g==g'&&(match s with
    | .own t' v=>θ.lookup t==some (some t')&&K5 leaf.hp t' v
    |_=>false)
   |some (.deep _ _ _ g' _ _)=>g==g'&&(match s with
    | .own t' v=>θ.lookup t==some (some t')&&K5 leaf.hp t' v
    | .cm=>θ.lookup t==some none
    |_=>false)
   |_=>false)
  | .cw t o=>(match AO pat.hp t with
   |some (.box ..)=>(match s with| .cw t' o'=>o==o'&&θ.lookup t==some (some t')|_=>false)
   |_=>false)
  | .cz .. =>false
  | .dj x i z o=>(match s with| .dj y j z' o'=>z==z'&&o==o'&&x.sc nv&&x.beq y&&i.sc nv&&i.beq j|_=>false)
  | .dn x o=>(match s with| .dn y o'=>o==o'&&x.sc nv&&x.beq y|_=>false)
  | .agg cs=>(match s with| .agg ds=>Hz n cs.toList ds.toList|_=>false)
  | .tup cs=>(match s with| .tup ds=>Hz n cs.toList ds.toList|_=>false)
  | .fn f cs=>(match s with| .fn g ds=>f==g&&Hz n cs.toList ds.toList|_=>false)
  | .gd .. =>false
  | .via .. =>false
  | .vptr .. =>false
  | .wown .. =>false
  | .lent i=>(match s with| .lent j=>i==j&&decide (i<nv)|_=>false)
def Hz:Nat->List SV->List SV->Bool
 |0,_,_=>false
 |_+1,[],[]=>true
 |n+1,p::ps,s::ss=>Uz n p s&&Hz n ps ss
 |_,_,_=>false
end
def Io(t:Nat)(e:Af):Bool:=
 match e with
 | .box ty g cs=>(match θ.lookup t with
  |some (some t')=>(match AO leaf.hp t' with|some (.box ty' g' ds)=>ty==ty'&&g==g'&&Hz nv es θ pat leaf A8 cs ds|_=>false)
  |_=>false)
 | .row et z _ x d=>(match θ.lookup t with
  |some (some t')=>(match AO leaf.hp t' with|some (.row et' z' _ y d')=>et==et'&&z==z'&&J8 nv es x y&&(!d||d')|some (.deep et' z' _ _ _ y)=>et==et'&&z==z'&&J8 nv es x y&& !d|_=>false)
  |some none=>J8 nv es x (.lst .nil)&&0<z
  |none=>false)
 | .deep et z dl _ _ x=>(match θ.lookup t with
  |some (some t')=>(match AO leaf.hp t' with|some (.deep et' z' dl' _ _ y)=>et==et'&&z==z'&&(Av.of dl).beq (Av.of dl')&&J8 nv es x y|_=>false)
  |some none=>J8 nv es x (.lst .nil)&&0<z&&dl.length==z
  |none=>false)
 | .ca _ x=>(match θ.lookup t with
  |some (some t')=>(match AO leaf.hp t' with|some (.row _ _ _ y _)=>J8 nv es x y|some (.ca _ y)=>J8 nv es x y|some (.deep _ _ _ _ _ y)=>J8 nv es x y|_=>false)
  |_=>false)
 | .hol .. =>false
 | .pre .. =>false
 | .gd .. =>false
 | .dead=>true
def NS:List (Nat × Option Nat)->Bool
 | []=>true
 |(t,some u)::l=>l.all (λ(t',v)=>t !=t'&&v !=some u)&&NS l
 |(t,none)::l=>l.all (λ(t',_)=>t !=t')&&NS l
def Nf(t:Nat):Bool:=(match AO pat.hp t with
 |none=>true
 |some .dead=>true
 |some (.ca g _)=>g !=0
 |some (.row _ _ g _ _)=>g !=0||(θ.lookup t==some (some t)&&(match AO leaf.hp t with|some (.row _ _ g' _ _)=>g'==0|_=>false))
 |some (.deep _ _ _ g _ _)=>g !=0||(θ.lookup t==some (some t)&&(match AO leaf.hp t with|some (.deep _ _ _ g' _ _)=>g'==0|_=>false))
 |some (.box ..)=>θ.lookup t==some (some t)&&(match AO leaf.hp t with|some (.box ..)=>true|_=>false)
 |_=>false)
def sW:Bool:=
 pat.nv==nv+es.length&&NS θ&&pat.sl.length==leaf.sl.length&&Hz nv es θ pat leaf 2000 pat.sl leaf.sl&&(pat.hp.all λ(t,e)=>Io nv es θ pat leaf t e&&decide (t<pat.nx))&&decide (100000<=pat.nx)&&pat.hp.all λ(t,_)=> !Oa t||Nf θ pat leaf t
end
structure In where
 as_:List (Nat × E)
 θ:List (Nat × Option Nat)
def KR(a:In)(nv:Nat)(x y:E):In:=match x with| .var i=>if i<nv then a else{a with as_:=(i,y)::a.as_}|_=>a
def fO(a:In)(t:Nat)(t':Option Nat):In:=match a.θ.lookup t with|some _=>a|none=>{a with θ:=(t,t')::a.θ}
mutual
def inS(nv:Nat)(pat leaf:St):Nat->In->SV->SV->In
 |0,a,_,_=>a
 |n+1,a,p,s=>
  match p,s with
  | .e x,s=>(match Jw leaf s with|some y=>KR a nv x y|none=>a)
  | .own t g, .own t' _=>if K5 pat.hp t g then fO a t (some t')else a
  | .own t g, .cm=>if K5 pat.hp t g then fO a t none else a
  | .cw t _, .cw t' _=>fO a t (some t')
  | .agg cs, .agg ds=>No nv pat leaf n a cs.toList ds.toList
  | .tup cs, .tup ds=>No nv pat leaf n a cs.toList ds.toList
  | .fn _ cs, .fn _ ds=>No nv pat leaf n a cs.toList ds.toList
  |_,_=>a
def No(nv:Nat)(pat leaf:St):Nat->In->List SV->List SV->In
 |0,a,_,_=>a
 |n+1,a,p::ps,s::ss=>No nv pat leaf n (inS nv pat leaf n a p s) ps ss
 |_,a,_,_=>a
end
def PV(nv:Nat)(pat leaf:St)(rows:Bool):List (Nat × Af)->In->In
 | [],a=>a
 |(t,e)::l,a=>PV nv pat leaf rows l (match e,a.θ.lookup t with
  | .box _ _ cs,some (some t')=>if rows then a else(match AO leaf.hp t' with|some (.box _ _ ds)=>No nv pat leaf A8 a cs ds|_=>a)
  | .row _ _ _ x _,some (some t')=>if rows then(match AO leaf.hp t' with|some (.row _ _ _ y _)=>KR a nv x y|some (.ca _ y)=>KR a nv x y|some (.deep _ _ _ _ _ y)=>KR a nv x y|_=>a)else a
  | .deep _ _ _ _ _ x,some (some t')=>if rows then(match AO leaf.hp t' with|some (.deep _ _ _ _ _ y)=>KR a nv x y|_=>a)else a
  | .deep _ _ _ _ _ x,some none=>if rows then KR a nv x (.lst .nil)else a
  | .row _ _ _ x _,some none=>if rows then KR a nv x (.lst .nil)else a
  | .ca _ x,some (some t')=>if rows then(match AO leaf.hp t' with|some (.row _ _ _ y _)=>KR a nv x y|some (.ca _ y)=>KR a nv x y|some (.deep _ _ _ _ _ y)=>KR a nv x y|_=>a)else a
  |_,_=>a)
def KT(nv:Nat)(pat leaf:St):Option (List E):=
 let a:=No nv pat leaf 2000 ⟨[],[]⟩ pat.sl leaf.sl;let a:=PV nv pat leaf false pat.hp a;let a:=PV nv pat leaf true pat.hp a;let es:=(List.range (pat.nv-nv)).map λj=>(a.as_.lookup (nv+j)).getD (.int .i64 0)
 if sW nv es a.θ pat leaf then some es else none
def zzw(nv live:Nat):List St->Option St
 | []=>none
 |σ::ls=>some (rU nv ((σ::ls).foldl (sL nv live) ({σ with nv:=nv},0)))
section
variable (P:Program) (sg:BY) (rs:Nat)
def Wb(run:St->Option Tr)(nv live:Nat)(σ:St):Nat->St × Nat->Option (St × Tr)
 |0,_=>none
 |n+1,p=>
  let pat:=rU nv p
  match run pat with
  |none=>none
  |some t=>
   if t.db.all λl=>(KT nv pat l).isSome then some (pat,t)
   else Wb run nv live σ n (t.db.foldl (λp l=>sL nv live p (unname nv l)) p)
where
 unname (_:Nat) (l:St):St:=l
def EJ:Code->List (Nat × Nat)->Nat->St->Option Tr
 | .skip,_,_,σ=>some (.leaf .normal σ)
 | .label _,_,_,σ=>some (.leaf .normal σ)
 | .ret,_,_,σ=>some (.leaf .ret σ)
 | .exit id,_,_,σ=>some (.leaf (.exit id) σ)
 | .region _ ops draw,_,_,σ=>if rN ops then some .stuck else if !σ.sc|| !(σ.hp.all λ(t,_)=>decide (t<σ.nx))then none else My P sg ops draw σ.nx (List.range ops.size) [] σ
 | .scope b,ex,l,σ=>EJ b ex l σ
 | .cond c a b,ex,l,σ=>
  match BM (BR σ) [] c with
  |some (.e (.bool true))=>EJ a ex l σ
  |some (.e (.bool false))=>EJ b ex l σ
  |some (.e x)=>(match EJ a ex l σ,EJ b ex l σ with
   |some ta,some tb=>some (.ite x ta tb)
   |_,_=>none)
  |_=>none
 | .block id b,ex,l,σ=>(EJ b ((id,l)::ex) l σ).bind λt=>t.sub (λ_ x τ=>some (.leaf (match x with| .exit j=>if j=id then .normal else .exit j|x=>x) τ)) 0
 | .seq a b,ex,l,σ=>
  let lb:=CG rs b ex l
  match EJ a ex lb σ with
  |none=>none
  |some t=>
   match t.db with
   | []=>some t
   | [τ]=>(match EJ b ex l τ with
    |none=>none
    |some k=>t.sub (λ_ x τ=>some (match x with| .normal=>k|x=> .leaf x τ)) 0)
   |ls=>(match zzw σ.nv lb ls with
    |none=>none
    |some pat=>(match EJ b ex l pat with
     |none=>none
     |some k=>(t.sub (λd x τ=>match x with
       | .normal=>(KT σ.nv pat τ).map λes=> .jmp d (EL.of es)
       |x=>some (.leaf x τ)) 0).map λt'=> .join t' k))
 | .loop b,ex,l,σ=>
  let lh:=CG rs (.loop b) ex l
  match Wb (λτ=>EJ b ex lh τ) σ.nv lh σ 6 ({σ with sl:=σ.sl.zipIdx.map λ(s,i)=>if lh.testBit i then s else .undef},0)with
  |none=>none
  |some (pat,t)=>
   match KT σ.nv pat σ with
   |none=>none
   |some i0=>
    match t.cu with
    |none=>(t.sub (λd x τ=>match x with
      | .normal=>(KT σ.nv pat τ).map λes=> .jmp d (EL.of es)
      |x=>some (.leaf x τ)) 0).map λt'=> .loop (EL.of i0) t' (.ret (.int .i64 0))
    |some id=>
     match zzw σ.nv ((ex.lookup id).getD 0) (t.ec id)with
     |none=>none
     |some post=>(t.sub (λd x τ=>match x with
       | .normal=>(KT σ.nv pat τ).map λes=> .jmp d (EL.of es)
       | .exit j=>if j=id then(KT σ.nv post τ).map λes=> .jmp (d+1) (EL.of es)else some (.leaf x τ)
       |x=>some (.leaf x τ)) 0).map λt'=> .loop (EL.of i0) t' (.leaf (.exit id) post)
 |_,_,_,_=>none
end
section
variable (P:Program) (sg:BY)
def S7(i b:Nat)(t:TypeId)(own:List Bool):Option (SV × List (Nat × Af)):=
 let l:=Dd P (1000*i+b) (DW (.var i) (Am P t)) 0 (Bf P t) own
 if 400<(Bf P t).length then none else
 if Am P t then some (.agg (BP.of l.1),l.2)else(match l.1 with| [s]=>some (s,l.2)|_=>none)
def aS(i:Nat)(t:TypeId)(lo:Bool):PM->Option (SV × List (Nat × Af))
 | .ro=>some (if lo then .lent i else .e (.var i),[])
 | .va own=>S7 P i 1 t own
 | .mu own=>S7 P i 500 t own
 | .bx own _=>match KU P t with
  |some ty=>
   let l:=Dd P (1000*i+1) (DW (.deref (.var i)) true) 0 (Bf P ty) own
   if 400<(Bf P ty).length then none else some (.cw (1000*i) 0,(1000*i, .box ty (Am P ty) l.1)::l.2)
  |none=>none
def NH:Nat->List TypeId->List PM->List Bool->Option (List SV × List (Nat × Af))
 |_,[],_,_=>some ([],[])
 |i,t::ts,ms,lo=>match aS P i t (lo.headD false) (ms.headD .ro),NH (i+1) ts ms.tail lo.tail with
  |some (s,l),some (ss,ls)=>some (s::ss,l++ls)
  |_,_=>none
def oA(fn:Func)(s:G8):Option St:=
 match NH P 0 (fn.params.toList++s.ft) s.b8 s.lo with
 |none=>none
 |some (ss,l)=>
  let n:=fn.params.size+fn.nfree;let fr:=(List.range (fn.nfree-s.ft.length)).map λj=>SV.e (.var (fn.params.size+s.ft.length+j))
  if fn.ntmps<n||99<fn.params.size+s.ft.length||fn.nfree<s.ft.length then none else some {sl:=ss++fr++List.replicate (fn.ntmps-n) .undef,hp:=l,nx:=100000,nv:=n}
def SF(σ:St):ResultVar->Option SV
 | .tmp t=>some (BR σ t)
 | .cell a ty=>match BR σ a with
  | .cw b o=>(match AO σ.hp b with|some (.box _ _ cs)=>if DD P ty then Qa P ty cs o else none|_=>none)
  |_=>none
def Mw(σ:St):List TypeId->List Bool->List SV->Option (List Nat)
 | [],_,[]=>some []
 |t::ts,fl,c::cs=>(match Mw σ ts fl.tail cs with
  |none=>none
  |some l=>match fl.headD false,CX P t with
   |true,some e=>if P.cellsOf e=0 then none else(match c with
    | .cm=>some l
    | .own u g=>(match AO σ.hp u with
     |some (.row e' z g' _ d)=>if g=g'/\e'=e/\z=P.cellsOf e/\(Cc P e/\d\/Cc P e=false/\(DF P t).isNone)then some (u::l)else none
     |some (.deep e' z dl g' _ _)=>if g=g'/\Cc P e=false/\KA (DF P t) e' z dl then some (u::l)else none
     |_=>none)
    |_=>none)
   |_,_=>some l)
 |_,_,_=>none
def oO(σ:St)(t:TypeId)(fl:List Bool)(s:SV):Option (List Nat):=
 if F0 P t fl then
  if Am P t then(match s with| .agg cs=>Mw P σ (Bf P t) fl cs.toList|_=>none)else Mw P σ (Bf P t) fl [s]
 else some []
def PO(σ:St):List TypeId->List Bool->List SV->Option (List Nat)
 | [],_,[]=>some []
 |t::ts,fl,s::ss=>(match oO P σ t fl s,PO σ ts (fl.drop (Bf P t).length) ss with
  |some a,some b=>some (a++b)
  |_,_=>none)
 |_,_,_=>none
def WH(σ:St)(i:Nat)(mk:Nat->E):Nat->List TypeId->List Bool->Option (List E × List Nat)
 |_,[],_=>some ([],[])
 |j,t::ts,fl=>match WH σ i mk (j+1) ts fl.tail with
  |none=>none
  |some (xs,us)=>match fl.headD false,CX P t with
   |true,some e=>(match AO σ.hp (1000*i+500+j)with
    |some (.row e' z 0 y d)=>if e'=e/\z=P.cellsOf e/\(Cc P e/\d\/Cc P e=false/\(DF P t).isNone)then some (y::xs,(1000*i+500+j)::us)else none
    |some (.deep e' z dl 0 _ y)=>if Cc P e=false/\KA (DF P t) e' z dl then some (y::xs,(1000*i+500+j)::us)else none
    |_=>none)
   |_,_=>some (mk j::xs,us)
def Wa(σ:St):Nat->List TypeId->List PM->Option (List E × List Nat)
 |_,[],_=>some ([],[])
 |i,t::ts,ms=>match Wa σ (i+1) ts ms.tail with
  |none=>none
  |some (xs,us)=>if 99<i then none else match ms.headD .ro with
   | .ro=>some (xs,us)
   | .va _=>some (xs,us)
   | .mu own=>if 400<(Bf P t).length then none else(match WH P σ i (DW (.var i) (Am P t)) 0 (Bf P t) own with
    |some (es,vs)=>some ((if Am P t then .mk (EL.of es)else es.headD (.var i))::xs,vs++us)
    |none=>none)
   | .bx _ own'=>(match KU P t,AO σ.hp (1000*i)with
    |some ty,some (.box ty' _ cs)=>if ty'≠ty then none else(match CM (AO σ.hp) [] A8 cs,Mw P σ (Bf P ty) own' cs with
     |some es,some vs=>some (.mk es::xs,(1000*i)::vs++us)
     |_,_=>none)
    |_,_=>none)
def KJ(σ:St):List TypeId->List Bool->List SV->List Nat
 |t::ts,fl,c::cs=>(if fl.headD false&&(CX P t).isSome then []else Cb (AO σ.hp) [] (A8+1) [c])++KJ σ ts fl.tail cs
 |_,_,_=> []
def fK(σ:St)(t:TypeId)(fl:List Bool)(s:SV):List Nat:=
 if F0 P t fl then(if Am P t then(match s with| .agg cs=>KJ P σ (Bf P t) fl cs.toList|_=> [])else KJ P σ (Bf P t) fl [s])else Cb (AO σ.hp) [] (A8+1) [s]
def Wr(σ:St):List TypeId->List Bool->List SV->List Nat
 |t::ts,fl,s::ss=>fK P σ t fl s++Wr σ ts (fl.drop (Bf P t).length) ss
 |_,_,_=> []
def P1(σ:St):Nat->List TypeId->List PM->List Nat
 |_,[],_=> []
 |i,t::ts,ms=>(match ms.headD .ro,KU P t,AO σ.hp (1000*i)with
  | .bx _ own',some ty,some (.box _ _ cs)=>KJ P σ (Bf P ty) own' cs
  |_,_,_=> [])++P1 σ (i+1) ts ms.tail
def Xm(fn:Func)(s:G8)(σ:St):Option Tr:=
 match fn.results.toList.mapM (SF P σ),Wa P σ 0 (fn.params.toList++s.ft) s.b8 with
 |some rs,some (bx,us)=>
  match CM (AO σ.hp) [] A8 rs,PO P σ (Du fn s) s.res rs with
  |some es,some vs=>
   if !Ms (vs++us)||(Wr P σ (Du fn s) s.res rs++P1 P σ 0 (fn.params.toList++s.ft) s.b8).any (λt=>(vs++us).contains t)then none else
   let r:E:=match es with| .cons x .nil=>x|es=> .tup es
   some (.ret (if bx.isEmpty then r else .tup (EL.of (r::bx))))
  |_,_=>none
 |_,_=>none
def rG(fn:Func)(s:G8):Nat:=
 fn.results.toList.foldl (λl r=>l|||match r with| .tmp t=>bit t| .cell a _=>bit a) 0|||(s.b8.zipIdx.foldl (λl (m,i)=>match m with| .bx .. =>l|||bit i| .mu _=>l|||bit i|_=>l) 0)
def UI(f:Nat):Option Tr:=
 match P.funcs[f]?,sg f with
 |some fn,some s=>(match fn.body,oA P fn s with
  |some c,some σ=>(match EJ P {sg with dp:=s.dp,wn:=s.wn,fz:=s.fz} (rG fn s) c [] (rG fn s) σ with
   |some t=>t.sub (λ_ x τ=>match x with| .normal=>Xm P fn s τ| .ret=>Xm P fn s τ| .exit _=>none) 0
   |none=>none)
  |_,_=>none)
 |_,_=>none
end
def Db(w:World)(ety sz:Nat)(v:Value)(x:AV)(top N:List Nat):Prop:=
 ∃xs,x= .sl xs/\(∀y∈xs,y.cells.length=sz)/\0<sz/\
  ((xs=[]/\(∃a,v= .slice a 0 0)/\top=[]/\N=[])\/
   ∃g cap C,v= .slice (some ⟨g,0,none⟩) xs.length cap/\xs.length<=cap/\cap<=maxLen/\w.heap[g]?=some (.cells C ety (0,0))/\C.size=cap*sz/\top=[g]/\(∀u∈C.toList.take (xs.length*sz),u.oneCell'=true)/\Rd w (C.toList.take (xs.length*sz)) (Ao xs) N)
theorem Db.win{w:World}{ety sz:Nat}{q:Option Addr}{n cap:Nat}{x:AV}{top N:List Nat}(h:Db w ety sz (.slice q n cap) x top N){k r:Nat}{q':Option Addr}(hk:k<=n)(hq:k<n-> ∃b,q=some ⟨b,0,none⟩/\q'=some ⟨b,k*sz,none⟩/\r=cap-k):
  ∃xs f,x= .sl xs/\xs.length=n/\Rd w [.slice q' (n-k) r] [.sl (xs.drop k)] f/\ ∀b∈f,b∈top\/b∈N:=by
 obtain⟨xs,rfl,h2,h3,⟨rfl,⟨a,hv⟩,rfl,rfl⟩|⟨g,cap',C,hv,h6,h7,h8,h9,rfl,Fk,EM⟩⟩:=h
 ·cases hv;have:k=0:=by omega
  subst this;exact⟨[],[],rfl,rfl,by simpa using Rd.ed .nil,by simp⟩
 ·cases hv;refine⟨xs,?_⟩;rcases Nat.lt_or_ge k xs.length with Ax|MM
  ·obtain⟨b,hb,rfl,rfl⟩:=hq Ax;cases hb;have DL:C.toList.length=cap*sz:=by simpa using h9
   have hmul:xs.length*sz<=cap*sz:=By _ h6;have Gm:k*sz<=xs.length*sz:=By _ hk;obtain⟨g1,k1,k2⟩:=EM.piece (k*sz) ((xs.length-k)*sz);have e1:((Ao xs).drop (k*sz)).take ((xs.length-k)*sz)=Ao (xs.drop k):=by
    have hf:Ao xs=Ao (xs.take k)++Ao (xs.drop k):=by
     have h0:Ao (xs.take k++xs.drop k)=Ao (xs.take k)++Ao (xs.drop k):=by simp only[Ao,List.flatMap_append]
     rw[Cf]at h0;exact h0
    have hl:∀ys:List AV,(∀y∈ys,y.cells.length=sz)->(Ao ys).length=ys.length*sz:=by
     intro ys hy
     induction ys with
     |nil=>simp[Ao]
     |cons y ys ih=>simp only[Ao,List.flatMap_cons,AH,Bd]at ih ⊢;rw[hy y (by simp),ih λz hz=>hy z (by simp[hz]),Nat.add_mul];omega
    rw[hf,List.drop_append,List.drop_eq_nil_of_le (by rw[hl _ λy hy=>h2 y (Bt hy)];simp[Nat.min_eq_left hk]),hl _ λy hy=>h2 y (Bt hy)];simp only[Ar,Nat.min_eq_left hk,Nat.sub_self,List.drop_zero,List.nil_append];rw[List.take_of_length_le];rw[hl _ λy hy=>h2 y (BH hy)];simp
   rw[e1]at k2;refine⟨_,rfl,rfl,Rd.scons (sz:=sz) h8 (by omega) ⟨by have:maxLen=9223372036854775807:=rfl;omega,by omega⟩ (by simp) (λy hy=>h2 y (BH hy)) h3 (λj u hu=> ?_) (λu hu=>Fk u (BH (Bt hu))) k2 .nil,λb hb=> ?_⟩
   ·rw[List.getElem?_take]at hu;split at hu
    ·rw[List.getElem?_drop,List.getElem?_take]at hu;split at hu
     ·simpa using hu
     ·cases hu
    ·cases hu
   ·simp only[AB,Ae]at hb;rcases hb with rfl|hb
    ·exact .inl (by simp)
    ·exact .inr (k1 b hb)
  ·have e0:xs.length-k=0:=by omega
   rw[e0,List.drop_eq_nil_of_le MM];exact⟨[],rfl,rfl, .ed .nil,by simp⟩
def Bq(n:Nat)(l:List DT):List DT:=(List.replicate n l).flatten
theorem K6(n:Nat)(l:List DT):(Bq n l).length=n*l.length:=by
 induction n with
 |zero=>simp[Bq]
 |succ n ih=>simp only[Bq,List.replicate_succ,List.flatten_cons,AH]at ih ⊢;rw[ih,Nat.add_mul];omega
theorem zX(l:List DT):Bq 1 l=l:=by simp[Bq]
theorem PE(n:Nat)(l:List DT):Bq (n+1) l=l++Bq n l:=by simp[Bq,List.replicate_succ]
theorem K7(n m:Nat)(l:List DT):Bq (n+m) l=Bq n l++Bq m l:=by
 induction n with
 |zero=>simp[Bq]
 |succ n ih=>rw[show n+1+m=(n+m)+1 from by omega,PE,ih,PE,List.append_assoc]
theorem ZI(n:Nat){l:List DT}(h:l.all DT.cc=true):(Bq n l).all DT.cc=true:=by
 induction n with
 |zero=>rfl
 |succ n ih=>rw[PE,List.all_append,h,ih];rfl
mutual
theorem DT.beq_eq:∀(a b:DT),a.beq b=true->a=b
 | .flat, .flat,_=>rfl
 | .row e z l, .row e' z' l',h=>by simp only[DT.beq,Ab,AM]at h;rw[h.1.1,h.1.2,Av.beq_eq _ _ h.2]
 | .flat, .row ..,h=>by simp[DT.beq]at h
 | .row .., .flat,h=>by simp[DT.beq]at h
theorem Av.beq_eq:∀(a b:Av),a.beq b=true->a=b
 | .nil, .nil,_=>rfl
 | .cons a as_, .cons b bs,h=>by simp only[Av.beq,Ab]at h;rw[DT.beq_eq _ _ h.1,Av.beq_eq _ _ h.2]
 | .nil, .cons ..,h=>by simp[Av.beq]at h
 | .cons .., .nil,h=>by simp[Av.beq]at h
end
theorem Av.ax(l:List DT):(Av.of l).toList=l:=by induction l<;>simp[Av.of,Av.toList, *]
theorem Av.c8:∀l:Av,Av.of l.toList=l
 | .nil=>rfl
 | .cons d l=>by simp[Av.toList,Av.of,Av.c8 l]
theorem Av.fb{l l':List DT}(h:(Av.of l).beq (Av.of l')=true):l=l':=by have:=congrArg Av.toList (Av.beq_eq _ _ h);simpa[Av.ax]using this
theorem Av.of_eq{l:List DT}{l':Av}(h:(Av.of l).beq l'=true):l=l'.toList:=by have:=congrArg Av.toList (Av.beq_eq _ _ h);simpa[Av.ax]using this
theorem Nz{d:Option DT}{e z:Nat}{l:List DT}(h:KA d e z l=true):d=some (.row e z (Av.of l)):=by
 cases d with
 |none=>simp[KA]at h
 |some d=>
  cases d with
  |flat=>simp[KA]at h
  |row e' z' l'=>simp only[KA,Ab,AM]at h;obtain⟨⟨rfl,rfl⟩,h3⟩:=h;rw[Av.of_eq h3,Av.c8]
inductive DC(w:World):List DT->List Value->List AV->List Nat->Prop where
 |nil:DC w [] [] [] []
 |flat {v x ts vs xs N}:Rd w [v] [x] []->DC w ts vs xs N->DC w (.flat::ts) (v::vs) (x::xs) N
 |void {e z l a ts vs xs N}:0<z->l.toList.length=z->DC w ts vs xs N->DC w (.row e z l::ts) (.slice a 0 0::vs) (.sl []::xs) N
 |row {e z l g cap C ys N1 ts vs xs N}:0<z->l.toList.length=z->w.heap[g]?=some (.cells C e (0,0))->ys.length<=cap->cap<=maxLen->C.size=cap*z->(∀y∈ys,y.cells.length=z)->(∀u∈C.toList.take (ys.length*z),u.oneCell'=true)->
   DC w (Bq ys.length l.toList) (C.toList.take (ys.length*z)) (Ao ys) N1->DC w ts vs xs N->DC w (.row e z l::ts) (.slice (some ⟨g,0,none⟩) ys.length cap::vs) (.sl ys::xs) (g::(N1++N))
theorem DC.len{w:World}{ts:List DT}{vs:List Value}{xs:List AV}{N:List Nat}(h:DC w ts vs xs N):vs.length=ts.length/\xs.length=ts.length:=by
 induction h with
 |nil=>simp
 |flat _ _ ih=>simp[ih]
 |void _ _ _ ih=>simp[ih]
 |row _ _ _ _ _ _ _ _ _ _ _ ih=>simp[ih]
theorem DC.frame{w w':World}{ts:List DT}{vs:List Value}{xs:List AV}{N:List Nat}(h:DC w ts vs xs N):(∀b∈N,w'.heap[b]?=w.heap[b]?)->DC w' ts vs xs N:=by
 induction h with
 |nil=>exact λ_=> .nil
 |flat a _ ih=>exact λhf=> .flat (a.frame (by simp)) (ih hf)
 |void a b _ ih=>exact λhf=> .void a b (ih hf)
 |row h1 h2 h3 h4 h5 h6 h7 h8 _ _ ih1 ih2=>exact λhf=> .row h1 h2 (by rw[hf _ (by simp)];exact h3) h4 h5 h6 h7 h8 (ih1 λb m=>hf b (by simp[m])) (ih2 λb m=>hf b (by simp[m]))
theorem DC.inb{w:World}{ts:List DT}{vs:List Value}{xs:List AV}{N:List Nat}(h:DC w ts vs xs N):∀b∈N,b<w.heap.size:=by
 induction h with
 |nil=>simp
 |flat _ _ ih=>exact ih
 |void _ _ _ ih=>exact ih
 |row h1 h2 h3 h4 h5 h6 h7 h8 _ _ ih1 ih2=>
  intro b m;simp only[Ae,Ac]at m;rcases m with rfl|m|m
  ·exact De h3
  ·exact ih1 b m
  ·exact ih2 b m
theorem DC.app{w:World}{ts us:List DT}{vs ws:List Value}{xs ys:List AV}{N M:List Nat}(h:DC w ts vs xs N)(k:DC w us ws ys M):DC w (ts++us) (vs++ws) (xs++ys) (N++M):=by
 induction h with
 |nil=>exact k
 |flat a _ ih=>exact .flat a ih
 |void a b _ ih=>exact .void a b ih
 |row h1 h2 h3 h4 h5 h6 h7 h8 h9 _ _ ih2=>simp only[List.cons_append,List.append_assoc];exact DC.row h1 h2 h3 h4 h5 h6 h7 h8 h9 ih2
theorem DC.cr{w:World}{t:DT}{ts:List DT}{v:Value}{vs:List Value}{x:AV}{xs:List AV}{N:List Nat}(h:DC w (t::ts) (v::vs) (x::xs) N):
  ∃N1 N2,N=N1++N2/\DC w [t] [v] [x] N1/\DC w ts vs xs N2:=by
 cases h with
 |flat a h=>exact⟨[],N,rfl, .flat a .nil,h⟩
 |void a b h=>exact⟨[],N,rfl, .void a b .nil,h⟩
 |row h1 h2 h3 h4 h5 h6 h7 h8 h9 h=>rename_i g cap C ys N1 N2 l;exact⟨_::(_++ []),_,by simp, .row h1 h2 h3 h4 h5 h6 h7 h8 h9 .nil,h⟩
theorem DC.dy{w:World}:∀{ts us:List DT} {vs ws:List Value} {xs ys:List AV} {N:List Nat},vs.length=ts.length->xs.length=ts.length->DC w (ts++us) (vs++ws) (xs++ys) N-> ∃N1 N2,N=N1++N2/\DC w ts vs xs N1/\DC w us ws ys N2
 | [],us,[],ws,[],ys,N,_,_,h=>⟨[],N,rfl, .nil,h⟩
 |t::ts,us,v::vs,ws,x::xs,ys,N,hl,hk,h=>by obtain⟨f1,f2,rfl,h1,h2⟩:=DC.cr h;obtain⟨f3,f4,rfl,h3,h4⟩:=DC.dy (ts:=ts) (vs:=vs) (xs:=xs) (by simpa using hl) (by simpa using hk) h2;exact⟨f1++f3,f4,by simp,h1.app h3,h4⟩
 | [],_,_::_,_,_,_,_,h,_,_=>by simp at h
 | [],_,[],_,_::_,_,_,_,h,_=>by simp at h
 |_::_,_,[],_,_,_,_,h,_,_=>by simp at h
 |_::_,_,_::_,_,[],_,_,_,h,_=>by simp at h
theorem DC.split{w:World}{ts:List DT}{vs:List Value}{xs:List AV}{N:List Nat}(h:DC w ts vs xs N)(p n:Nat):
  ∃N1 N2 N3,N=N1++N2++N3/\DC w (ts.take p) (vs.take p) (xs.take p) N1/\DC w ((ts.drop p).take n) ((vs.drop p).take n) ((xs.drop p).take n) N2/\DC w (ts.drop (p+n)) (vs.drop (p+n)) (xs.drop (p+n)) N3:=by
 obtain⟨l1,l2⟩:=h.len;have h':=h;rw[<-Cf p ts,<-Cf p vs,<-Cf p xs]at h';obtain⟨N1,M,rfl,h1,h2⟩:=DC.dy (by simp[l1]) (by simp[l2]) h';rw[<-Cf n (ts.drop p),<-Cf n (vs.drop p),<-Cf n (xs.drop p)]at h2;obtain⟨N2,N3,rfl,h3,h4⟩:=DC.dy (by simp[l1]) (by simp[l2]) h2;refine⟨N1,N2,N3,by simp,h1,h3,?_⟩;simpa[List.drop_drop]using h4
theorem DC.rd{w:World}{ts:List DT}{vs:List Value}{xs:List AV}{N:List Nat}(h:DC w ts vs xs N):∃f,Rd w vs xs f/\ ∀b∈f,b∈N:=by
 induction h with
 |nil=>exact⟨[], .nil,by simp⟩
 |flat a _ ih=>obtain⟨f,h1,h2⟩:=ih;exact⟨[]++f,by simpa using a.app h1,by simpa using h2⟩
 |void _ _ _ ih=>obtain⟨f,h1,h2⟩:=ih;exact⟨f, .ed h1,h2⟩
 | @row e z l g cap C ys N1 ts vs xs N h1 h2 h3 h4 h5 h6 h7 h8 _ _ ih1 ih2=>
  obtain⟨f1,k1,k2⟩:=ih1;obtain⟨f2,k3,k4⟩:=ih2;rcases Nat.eq_zero_or_pos ys.length with h0|h0
  ·have:ys=[]:=List.eq_nil_of_length_eq_zero h0;subst this;exact⟨f2, .ed k3,λb hb=>by simp[k4 b hb]⟩
  ·refine⟨g::(f1++f2),Rd.scons (o:=0) (c:=cap) (cs:=C.toList.take (ys.length*z)) h3 h0 ⟨by have:maxLen=9223372036854775807:=rfl;omega,by omega⟩ rfl h7 h1 (λj u hu=>by
    rw[Nat.zero_add];rw[List.getElem?_take]at hu;split at hu
    ·simpa using hu
    ·cases hu) h8 k1 k3,λb hb=> ?_⟩
   simp only[Ae,Ac]at hb ⊢;rcases hb with hb|hb|hb
   ·exact .inl hb
   ·exact .inr (.inl (k2 b hb))
   ·exact .inr (.inr (k4 b hb))
theorem DC.ku{w:World}{ts:List DT}{vs:List Value}{xs:List AV}{N:List Nat}(h:DC w ts vs xs N):ts.all DT.cc=true->N=[]:=by
 induction h with
 |nil=>exact λ_=>rfl
 |flat _ _ ih=>exact λh=>ih (by simpa[DT.cc]using h)
 |void _ _ _ _=>exact λh=>by simp[DT.cc]at h
 |row _ _ _ _ _ _ _ _ _ _ _ _=>exact λh=>by simp[DT.cc]at h
theorem DC.je{w:World}{ts:List DT}{vs:List Value}{xs:List AV}{N:List Nat}(h:DC w ts vs xs N)(ht:ts.all DT.cc=true):Rd w vs xs []:=by
 have hN:=h.ku ht;subst hN;obtain⟨f,h1,h2⟩:=h.rd;have:f=[]:=List.eq_nil_iff_forall_not_mem.2 λb hb=>by simpa using h2 b hb
 rw[this]at h1;exact h1
theorem DC.kj{w:World}:∀{ts:List DT} {vs:List Value} {xs:List AV},Rd w vs xs []->ts.all DT.cc=true->ts.length=vs.length->DC w ts vs xs []
 | [],[],xs,h,_,_=>by cases h;exact .nil
 | .flat::ts,v::vs,xs,h,ha,hl=>by
  have hx:=h.len
  match xs,hx with
  |x::xs,_=>
   obtain⟨f1,f2,hf,h1,h2⟩:=h.cr;obtain⟨rfl,rfl⟩:f1=[]/\f2=[]:=by simpa using hf.symm
   exact .flat h1 (DC.kj h2 (by simpa[DT.cc]using ha) (by simpa using hl))
 | .row .. ::_,_::_,_,_,ha,_=>by simp[DT.cc]at ha
 | [],_::_,_,_,_,h=>by simp at h
 |_::_,[],_,_,_,h=>by simp at h
theorem DC.inv{w:World}{e z:Nat}{l:Av}{v:Value}{x:AV}{N:List Nat}(h:DC w [.row e z l] [v] [x] N):
  0<z/\l.toList.length=z/\((∃a,v= .slice a 0 0/\x= .sl []/\N=[])\/ ∃g cap C ys N1,v= .slice (some ⟨g,0,none⟩) ys.length cap/\x= .sl ys/\N=g::N1/\w.heap[g]?=some (.cells C e (0,0))/\ys.length<=cap/\cap<=maxLen/\C.size=cap*z/\(∀y∈ys,y.cells.length=z)/\
   (∀u∈C.toList.take (ys.length*z),u.oneCell'=true)/\DC w (Bq ys.length l.toList) (C.toList.take (ys.length*z)) (Ao ys) N1):=by
 cases h with
 |void a b h=>cases h;exact⟨a,b, .inl ⟨_,rfl,rfl,rfl⟩⟩
 |row h1 h2 h3 h4 h5 h6 h7 h8 h9 h=>cases h;exact⟨h1,h2, .inr ⟨_,_,_,_,_,rfl,rfl,by simp,h3,h4,h5,h6,h7,h8,h9⟩⟩
theorem DC.ko{w:World}{e z:Nat}{l:Av}{v:Value}{x:AV}{top:List Nat}(h:Db w e z v x top [])(ha:l.toList.all DT.cc=true)(hl:l.toList.length=z):DC w [.row e z l] [v] [x] top:=by
 obtain⟨xs,rfl,h2,h3,⟨rfl,⟨a,rfl⟩,rfl,_⟩|⟨g,cap,C,rfl,h6,h7,h8,h9,rfl,Fk,EM⟩⟩:=h
 ·exact .void h3 hl .nil
 ·have Aw:(C.toList.take (xs.length*z)).length=xs.length*z:=by
   have:C.toList.length=cap*z:=by simpa using h9
   rw[Ar,this];exact Nat.min_eq_left (By _ h6)
  have:=DC.row (l:=l) h3 hl h8 h6 h7 h9 h2 Fk (DC.kj EM (ZI _ ha) (by rw[K6,hl,Aw])) .nil;simpa using this
theorem DC.mc{w:World}{e z:Nat}{l:Av}{v:Value}{x:AV}{N:List Nat}(h:DC w [.row e z l] [v] [x] N)(ha:l.toList.all DT.cc=true):Db w e z v x N []:=by
 obtain⟨h1,h2,⟨a,rfl,rfl,rfl⟩|⟨g,cap,C,ys,N1,rfl,rfl,rfl,h3,h4,h5,h6,h7,h8,h9⟩⟩:=h.inv
 ·exact⟨[],rfl,by simp,h1, .inl ⟨rfl,⟨a,rfl⟩,rfl,rfl⟩⟩
 ·have hN:=h9.ku (ZI _ ha);subst hN;exact⟨ys,rfl,h7,h1, .inr ⟨g,cap,C,rfl,h4,h5,h3,h6,rfl,h8,h9.je (ZI _ ha)⟩⟩
theorem DC.ownRow{w:World}{e z:Nat}{l:Av}{v:Value}{x:AV}{N:List Nat}(h:DC w [.row e z l] [v] [x] N):∃f,Db w e z v x (N.take 1) f/\ ∀b∈f,b∈N.drop 1:=by
 obtain⟨h1,h2,⟨a,rfl,rfl,rfl⟩|⟨g,cap,C,ys,N1,rfl,rfl,rfl,h3,h4,h5,h6,h7,h8,h9⟩⟩:=h.inv
 ·exact⟨[],⟨[],rfl,by simp,h1, .inl ⟨rfl,⟨a,rfl⟩,rfl,rfl⟩⟩,by simp⟩
 ·obtain⟨f,k1,k2⟩:=h9.rd;exact⟨f,⟨ys,rfl,h7,h1, .inr ⟨g,cap,C,rfl,h4,h5,h3,h6,rfl,h8,k1⟩⟩,by simpa using k2⟩
theorem DC.head{w:World}{e z:Nat}{l:Av}{v:Value}{x:AV}{N:List Nat}(h:DC w [.row e z l] [v] [x] N):∃q n r,v= .slice q n r:=by
 obtain⟨_,_,⟨a,rfl,_⟩|⟨g,cap,C,ys,N1,rfl,_⟩⟩:=h.inv
 ·exact⟨_,_,_,rfl⟩
 ·exact⟨_,_,_,rfl⟩
def Src(w:World)(size:Nat)(a:Option Addr)(m:Nat)(news:List Value):Prop:=
 (a=none/\m=0/\news=[])\/ ∃ad,a=some ad/\news.length=m*size/\(∀j u,news[j]?=some u->w.cell? (ad.add j)=some u)/\ ∀u∈news,u.oneCell'=true
theorem Src.mod{w w':World}{size:Nat}{a:Option Addr}{m:Nat}{news:List Value}(h:Src w size a m news)(hm:Mod [] w w'):Src w' size a m news:=by
 rcases h with h|⟨ad,h1,h2,h3,h4⟩
 ·exact Or.inl h
 ·exact Or.inr ⟨ad,h1,h2,λj u hu=>by have:=h3 j u hu;rw[hm.cell (World.block_lt_of_cell? w _ this) (by simp)];exact this,h4⟩
section
variable {P:Program}
end
theorem EA.src{α:Type}{T:GT α}{w:World}{a:Option Addr}{n:Nat}{xs:List α}{fp:List Nat}(hs:0<T.size)(h:EA T w a n xs fp):
  ∃Ls fps,Fj T w Ls xs fps/\Src w T.size a n Ls.flatten/\(∀q∈fps.flatten,q∈fp):=by
 cases a with
 |none=>
  rcases h.2 with⟨rfl,_⟩|⟨b,o,fps,ha,_⟩
  ·have:=h.1;simp at this;subst this;exact⟨[],[],⟨rfl,rfl,by simp⟩,Or.inl ⟨rfl,rfl,rfl⟩,by simp⟩
  ·cases ha
 |some ad=>obtain⟨Ls,fps,h1,h2,h3,h4⟩:=h.cells hs;exact⟨Ls,fps,h1,Or.inr ⟨ad,rfl,h4,h2,h1.one⟩,h3⟩
structure PkS where
 n:Nat
 K:World->Prop
 mono:∀{w w':World},(∀b,b<n->w'.heap[b]?=w.heap[b]?)->K w->K w'
def LX:PkS:=⟨0,λ_=>True,λ_ h=>h⟩
def fY(w:World)(Mu:Nat->Prop):Prop:=LX.n<=w.heap.size/\LX.K w/\ ∀b,Mu b->LX.n<=b
end
end Go.Proofs.YtalagilebkaegaaGreat

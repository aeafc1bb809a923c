/- Parts of a proof, joined: Lib, Op, VA, VB, V1, VC, OA, VD, VE, VF, VGa, Lib2, V0. -/
import Derived.WalkKit
import Derived.WalkLawsBesides
import Derived.WalkSpells
import Derived.Lib.Hide
import Derived.Deep.Quiet
import Derived.ProofKit
import Derived.OpenShut
import Derived.ChangeOld
import Derived.Below
set_option linter.unusedVariables false
set_option linter.unusedSimpArgs false
namespace Go.Proofs.YtkpifpljpoochaaGreatDoor
section
open Go.RowKit
theorem Ay(n:Nat):n<=n:=Nat.le_refl n
theorem BV.{u}{α:Type u}(i:Nat)(l:List α):l.take i++l.drop i=l:=List.take_append_drop i l
theorem Ax.{u}{α:Type u}[BEq α][LawfulBEq α]{a b:α}:(a==b)=true↔a=b:=beq_iff_eq
theorem Cd.{u}{α:Type u}{a:α}{n:Nat}{l:List α}(h:a∈l.drop n):a∈l:=List.mem_of_mem_drop h
theorem BM.{u}{α:Type u}{a:α}{n:Nat}{l:List α}(h:a∈l.take n):a∈l:=List.mem_of_mem_take h
theorem BB{m n:Nat}(k:Nat)(h:m<=n):m*k<=n*k:=Nat.mul_le_mul_right k h
theorem BL.{u}{α:Type u}{i:Nat}{l:List α}(h:i<l.length):l.drop i=l[i]::l.drop (i+1):=List.drop_eq_getElem_cons h
theorem AN{p:Prop}[Decidable p]:(decide p=true)=p:=decide_eq_true_eq
theorem AJ.{u}{α:Type u}(l:List α):l++[]=l:=List.append_nil l
theorem A1.{u}{α:Type u}{i:Nat}{l:List α}:(l.take i).length=min i l.length:=List.length_take
theorem Bu.{u}{α:Type u}{l:List α}{n:Nat}(h:n<l.length):l[n]∈l:=List.getElem_mem h
theorem Bl.{u}{α:Type u}{l:List α}{i:Nat}(h:i<l.length):l[i]?=some l[i]:=List.getElem?_eq_getElem h
theorem As.{u,v}{α:Type u}{β:Type v}{o:Option α}{f:α->Option β}{b:β}:o.bind f=some b↔∃a,o=some a/\f a=some b:=Option.bind_eq_some_iff
theorem Ao.{u}{α:Type u}{a:α}{l:List α}:(a::l).length=l.length+1:=List.length_cons
theorem Ap.{u}{α:Type u}{s t:List α}:(s++t).length=s.length+t.length:=List.length_append
theorem Ag.{u}{α:Type u}{a:α}{s t:List α}:a∈s++t↔a∈s\/a∈t:=List.mem_append
theorem Ad.{u}{α:Type u}{a b:α}{l:List α}:a∈b::l↔a=b\/a∈l:=List.mem_cons
theorem Af.{u}{α:Type u}(a b:α):(some a=some b)=(a=b):=Option.some.injEq a b
theorem Ae(a b:Bool):((a&&b)=true)=(a=true/\b=true):=Bool.and_eq_true a b
structure Mod(S:List Nat)(w w':World):Prop where
 os:w'.os=w.os
 tape:w'.tape=w.tape
 output:w'.output=w.output
 size:w.heap.size<=w'.heap.size
 block:∀k,k<w.heap.size->k∉S->w'.heap[k]?=w.heap[k]?
theorem Mod.ic{B:Nat}{w w':World}(h:Below B w w')(hB:w.heap.size<=B):Mod [] w w':=
 ⟨h.os,h.tape,h.output,h.size,λk hk _=>h.block k (by omega)⟩
theorem Mod.below{w w':World}(h:Mod [] w w'):Below w.heap.size w w':=
 ⟨h.os,h.tape,h.output,h.size,λk hk=>h.block k hk (by simp)⟩
theorem Mod.refl(S:List Nat)(w:World):Mod S w w:=⟨rfl,rfl,rfl,Ay _,λ_ _ _=>rfl⟩
theorem Mod.trans{S S':List Nat}{a b c:World}(h:Mod S a b)(k:Mod S' b c)(hs:∀x∈S',x∈S\/a.heap.size<=x):Mod S a c:=
 ⟨k.os.trans h.os,k.tape.trans h.tape,k.output.trans h.output,Nat.le_trans h.size k.size,λi hi hn=>
  (k.block i (Nat.lt_of_lt_of_le hi h.size) (λhm=>by rcases hs i hm with h1|h1;exact hn h1;omega)).trans (h.block i hi hn)⟩
theorem Mod.weaken{S S':List Nat}{a b:World}(h:Mod S a b)(hs:∀x∈S,x∈S'\/a.heap.size<=x):Mod S' a b:=
 ⟨h.os,h.tape,h.output,h.size,λi hi hn=>h.block i hi (λhm=>by rcases hs i hm with h1|h1;exact hn h1;omega)⟩
theorem Mod.drew{S:List Nat}{a w:World}(h:Mod S a w):Mod S a w.drew:=⟨h.os,h.tape,h.output,h.size,h.block⟩
theorem Mod.alloc{S:List Nat}{a w:World}(h:Mod S a w)(o:Obj):Mod S a (w.alloc o):=
 h.trans (S':=[]) ⟨rfl,rfl,rfl,by simp,λk hk _=>Below.heap_alloc _ _ _ hk⟩ (by simp)
theorem Mod.setCell{S:List Nat}{a w:World}(h:Mod S a w){p:Addr}(hp:p.block∈S\/a.heap.size<=p.block)(u:Value):Mod S a (w.setCell p u):=
 h.trans (S':=[p.block]) ⟨rfl,rfl,rfl,by simp[World.setCell],λk _ hk=>Below.heap_setCell _ _ _ _ (by simpa using hk)⟩ (by simpa using hp)
theorem Mod.cell{S:List Nat}{w w':World}(h:Mod S w w'){p:Addr}(hp:p.block<w.heap.size)(hn:p.block∉S):w'.cell? p=w.cell? p:=World.cell?_of_block (w:=w) (h.block p.block hp hn)
theorem Mod.frozen{S:List Nat}{w w':World}(h:Mod S w w'){p:Addr}(hp:p.block<w.heap.size)(hn:p.block∉S):w'.frozen? p=w.frozen? p:=World.frozen?_of_block (w:=w) (h.block p.block hp hn)
structure GT(α:Type)where
 size:Nat
 rd:World->List Value->α->List Nat->Prop
 len:∀{w cs x fp},rd w cs x fp->cs.length=size
 frame:∀{w w' cs x fp},(∀b∈fp,w'.heap[b]?=w.heap[b]?)->rd w cs x fp->rd w' cs x fp
 inb:∀{w cs x fp},rd w cs x fp-> ∀b∈fp,b<w.heap.size
 one:∀{w cs x fp},rd w cs x fp-> ∀u∈cs,u.oneCell'=true
def Gh{α:Type}(T:GT α)(w:World)(b o:Nat)(xs:List α)(fps:List (List Nat)):Prop:=
 fps.length=xs.length/\ ∀i x fp,xs[i]?=some x->fps[i]?=some fp-> ∃cs,T.rd w cs x fp/\ ∀j v,cs[j]?=some v->w.cell? ⟨b,o+i*T.size+j,none⟩=some v
def D3{α:Type}(T:GT α)(w:World)(a:Option Addr)(n:Nat)(xs:List α)(fp:List Nat):Prop:=
 xs.length=n/\((xs=[]/\fp=[])\/ ∃b o fps,a=some ⟨b,o,none⟩/\fp=b::fps.flatten/\b<w.heap.size/\Gh T w b o xs fps)
theorem Gh.frame{α:Type}{T:GT α}{w w':World}{b o:Nat}{xs:List α}{fps:List (List Nat)}(hb:w'.heap[b]?=w.heap[b]?)(hf:∀k∈fps.flatten,w'.heap[k]?=w.heap[k]?)(h:Gh T w b o xs fps):Gh T w' b o xs fps:=by refine⟨h.1,λi x fp hx J4=> ?_⟩;obtain⟨cs,h1,h2⟩:=h.2 i x fp hx J4;refine⟨cs,T.frame (λk hk=>hf k (List.mem_flatten.2 ⟨fp,List.mem_of_getElem? J4,hk⟩)) h1,λj v hv=> ?_⟩;rw[World.cell?_of_block (w:=w) hb];exact h2 j v hv
theorem Gh.inb{α:Type}{T:GT α}{w:World}{b o:Nat}{xs:List α}{fps:List (List Nat)}(h:Gh T w b o xs fps):∀k∈fps.flatten,k<w.heap.size:=by intro k hk;obtain⟨fp,J4,hk⟩:=List.mem_flatten.1 hk;obtain⟨i,hi,rfl⟩:=List.mem_iff_getElem.1 J4;obtain⟨cs,h1,_⟩:=h.2 i (xs[i]'(by rw[<-h.1];exact hi)) fps[i] (by simp) (by simp);exact T.inb h1 k hk
theorem D3.frame{α:Type}{T:GT α}{w w':World}{a:Option Addr}{n:Nat}{xs:List α}{fp:List Nat}(hf:∀k∈fp,w'.heap[k]?=w.heap[k]?)(h:D3 T w a n xs fp):D3 T w' a n xs fp:=by
 refine⟨h.1,?_⟩;rcases h.2 with h|⟨b,o,fps,ha,rfl,hb,h⟩
 ·exact Or.inl h
 ·have e:=hf b (by simp);refine Or.inr ⟨b,o,fps,ha,rfl,?_,h.frame e (λk hk=>hf k (by simp[hk]))⟩;rcases Nat.lt_or_ge b w'.heap.size with h'|h'
  ·exact h'
  ·rw[Array.getElem?_eq_none h',Array.getElem?_eq_getElem hb]at e;cases e
theorem D3.inb{α:Type}{T:GT α}{w:World}{a:Option Addr}{n:Nat}{xs:List α}{fp:List Nat}(h:D3 T w a n xs fp):∀k∈fp,k<w.heap.size:=by
 rcases h.2 with h|⟨b,o,fps,ha,rfl,hb,h⟩
 ·simp[h.2]
 ·intro k hk;rcases Ad.1 hk with rfl|hk
  ·exact hb
  ·exact h.inb k hk
theorem D3.at{α:Type}{T:GT α}{w:World}{a:Option Addr}{n:Nat}{xs:List α}{fp:List Nat}(h:D3 T w a n xs fp){k:Nat}{x:α}(hx:xs[k]?=some x):
  ∃b o cs f,a=some ⟨b,o,none⟩/\b<w.heap.size/\b∈fp/\T.rd w cs x f/\(∀q∈f,q∈fp)/\ ∀j v,cs[j]?=some v->w.cell? ⟨b,o+k*T.size+j,none⟩=some v:=by
 have hk:k<xs.length:=by
  rcases Nat.lt_or_ge k xs.length with h|h
  ·exact h
  ·simp[List.getElem?_eq_none h]at hx
 rcases h.2 with⟨rfl,_⟩|⟨b,o,fps,rfl,rfl,hb,he⟩
 ·simp at hk
 have BH:k<fps.length:=by rw[he.1];exact hk
 obtain⟨cs,h1,h2⟩:=he.2 k x fps[k] hx (by simp);exact⟨b,o,cs,fps[k],rfl,hb,by simp,h1,λq hq=>List.mem_cons_of_mem _ (List.mem_flatten.2 ⟨_,Bu BH,hq⟩),h2⟩
theorem D3.len{α:Type}{T:GT α}{w:World}{a:Option Addr}{n:Nat}{xs:List α}{fp:List Nat}(h:D3 T w a n xs fp):xs.length=n:=h.1
def GT.via{α β:Type}(T:GT β)(f:α->β):GT α where
 size:=T.size
 rd:=λw cs x fp=>T.rd w cs (f x) fp
 len:=λh=>T.len h
 frame:=λhf h=>T.frame hf h
 inb:=λh=>T.inb h
 one:=λh=>T.one h
def Own(B:Nat)(w:World)(fp:List Nat):Prop:=fp.Nodup/\ ∀b∈fp,B<=b/\ ∃c t,w.heap[b]?=some (.cells c t (0,0))
theorem Own.nil(B:Nat)(w:World):Own B w []:=⟨by simp,by simp⟩
theorem Own.frame{B:Nat}{w w':World}{fp:List Nat}(hf:∀k∈fp,w'.heap[k]?=w.heap[k]?)(h:Own B w fp):Own B w' fp:=
 ⟨h.1,λb hb=>⟨(h.2 b hb).1,by rw[hf b hb];exact(h.2 b hb).2⟩⟩
theorem Own.mono{B B':Nat}{w:World}{fp:List Nat}(h:Own B w fp)(hB:B'<=B):Own B' w fp:=⟨h.1,λb hb=>⟨Nat.le_trans hB (h.2 b hb).1,(h.2 b hb).2⟩⟩
theorem Own.lt{B:Nat}{w:World}{fp:List Nat}(h:Own B w fp):∀b∈fp,b<w.heap.size:=by
 intro b hb;obtain⟨_,c,t,e⟩:=h.2 b hb;rcases Nat.lt_or_ge b w.heap.size with h'|h'
 ·exact h'
 ·simp[Array.getElem?_eq_none h']at e
def putCells(w:World)(b i:Nat):List Value->World
 | []=>w
 |v::vs=>putCells (w.setCell ⟨b,i,none⟩ v) b (i+1) vs
theorem YK:∀(cs:List Value) (w:World) (b i:Nat) (C:Array Value) (t:TypeId),w.heap[b]?=some (.cells C t (0,0))->i+cs.length<=C.size->
  Mod [b] w (putCells w b i cs)/\ ∃C',(putCells w b i cs).heap[b]?=some (.cells C' t (0,0))/\C'.size=C.size/\(∀j v,cs[j]?=some v->C'[i+j]?=some v)/\ ∀q,q<i\/i+cs.length<=q->C'[q]?=C[q]?:=by
 intro cs
 induction cs with
 |nil=>intro w b i C t h hs;exact⟨Mod.refl _ _,C,h,rfl,by simp,λ_ _=>rfl⟩
 |cons v vs ih=>
  intro w b i C t h hs;simp only[Ao]at hs;have h1:=heap_setCell_same w b i C t v h;obtain⟨hm,C',e1,e2,e3,e4⟩:=ih (w.setCell ⟨b,i,none⟩ v) b (i+1) _ t h1 (by simp;omega);refine⟨((Mod.refl [b] w).setCell (by simp) v).trans hm (by simp),C',e1,by simpa using e2,λj u hj=> ?_,λq hq=> ?_⟩
  ·cases j with
   |zero=>simp at hj;subst hj;rw[Nat.add_zero,e4 i (by omega)];rw[Array.getElem?_setIfInBounds];simp;omega
   |succ j=>have:=e3 j u (by simpa using hj);rw[show i+(j+1)=i+1+j from by omega];exact this
  ·simp only[Ao]at hq;rw[e4 q (by omega),Array.getElem?_setIfInBounds];rw[if_neg (by omega)]
theorem D5{w:World}{b i:Nat}{C:Array Value}{t:TypeId}{f:Nat × Nat}(h:w.heap[b]?=some (.cells C t f)):w.cell? ⟨b,i,none⟩=C[i]?:=by simp[World.cell?,h]
theorem fF{w:World}{b i:Nat}{C:Array Value}{t:TypeId}(h:w.heap[b]?=some (.cells C t (0,0))):w.frozen? ⟨b,i,none⟩=false:=by simp[World.frozen?,h]
theorem Fv{w:World}{b:Nat}{o:Obj}(h:w.heap[b]?=some o):b<w.heap.size:=lt_of_block h
theorem Gh.nil{α:Type}(T:GT α)(w:World)(b o:Nat):Gh T w b o [] []:=⟨rfl,by simp⟩
theorem Gh.snoc{α:Type}{T:GT α}{w w':World}{b o:Nat}{xs:List α}{fps:List (List Nat)}{x:α}{fp:List Nat}{cs:List Value}(h:Gh T w b o xs fps)
  (hc:∀i,i<xs.length*T.size->w'.cell? ⟨b,o+i,none⟩=w.cell? ⟨b,o+i,none⟩) (hf:∀k∈fps.flatten,w'.heap[k]?=w.heap[k]?)
  (hx:T.rd w' cs x fp) (hn:∀j v,cs[j]?=some v->w'.cell? ⟨b,o+xs.length*T.size+j,none⟩=some v):Gh T w' b o (xs++ [x]) (fps++ [fp]):=by
 refine⟨by simp[h.1],λi y f hy J4=> ?_⟩;rcases Nat.lt_trichotomy i xs.length with hi|hi|hi
 ·have Bo:xs[i]?=some y:=by rwa[List.getElem?_append_left hi]at hy
  have Qn:fps[i]?=some f:=by rwa[List.getElem?_append_left (by rw[h.1];exact hi)]at J4
  obtain⟨c,h1,h2⟩:=h.2 i y f Bo Qn;refine⟨c,T.frame (λk hk=>hf k (List.mem_flatten.2 ⟨f,List.mem_of_getElem? Qn,hk⟩)) h1,λj v hv=> ?_⟩;have hj:j<T.size:=by
   rw[<-T.len h1];rcases Nat.lt_or_ge j c.length with h|h
   ·exact h
   ·simp[List.getElem?_eq_none h]at hv
  have:=hc (i*T.size+j) (by have:(i+1)*T.size<=xs.length*T.size:=BB _ hi;rw[Nat.add_mul]at this;omega)
  rw[show o+i*T.size+j=o+(i*T.size+j)from by omega,this,<-Nat.add_assoc];exact h2 j v hv
 ·subst hi;simp at hy;subst hy;rw[List.getElem?_append_right (by rw[h.1];exact Ay _),h.1]at J4;simp at J4;subst J4;exact⟨cs,hx,hn⟩
 ·rw[List.getElem?_eq_none (by simp;omega)]at hy;cases hy
structure L7{α:Type}(T:GT α)(B:Nat)(w:World)(b:Nat)(t:TypeId)(tot:Nat)(xs:List α)(fps:List (List Nat)):Prop where
 blk:∃C,w.heap[b]?=some (.cells C t (0,0))/\C.size=tot
 rd:Gh T w b 0 xs fps
 own:Own B w (b::fps.flatten)
theorem L7.step{α:Type}{T:GT α}{B:Nat}{w w1:World}{b:Nat}{t:TypeId}{tot:Nat}{xs:List α}{fps:List (List Nat)}{x:α}{cs:List Value}{fp:List Nat}
  (h:L7 T B w b t tot xs fps) (hm:Mod [] w w1) (hx:T.rd w1 cs x fp) (ho:Own w.heap.size w1 fp) (hB:B<=w.heap.size) (hs:(xs.length+1)*T.size<=tot):
  L7 T B (putCells w1 b (xs.length*T.size) cs) b t tot (xs++ [x]) (fps++ [fp])/\Mod [b] w (putCells w1 b (xs.length*T.size) cs):=by
 obtain⟨C,hC,oX⟩:=h.blk;have hb:=Fv hC;have SS:w1.heap[b]?=some (.cells C t (0,0)):=by rw[hm.block b hb (by simp)];exact hC
 rw[Nat.add_mul,Nat.one_mul]at hs;have hlen:=T.len hx;obtain⟨m1,C',e1,e2,e3,e4⟩:=YK cs w1 b (xs.length*T.size) C t SS (by omega);have BS:=h.own.lt;have old:∀k∈fps.flatten,(putCells w1 b (xs.length*T.size) cs).heap[k]?=w.heap[k]?:=λk hk=>by
  have qG:k≠b:=λe=>by have:=h.own.1;rw[List.nodup_cons]at this;exact this.1 (e▸hk)
  have Hx:=BS k (by simp[hk]);rw[m1.block k (Nat.lt_of_lt_of_le Hx hm.size) (by simpa using qG),hm.block k Hx (by simp)]
 have new:∀k∈fp,(putCells w1 b (xs.length*T.size) cs).heap[k]?=w1.heap[k]?:=λk hk=>by have:=(ho.2 k hk).1;exact m1.block k (ho.lt k hk) (by simp;omega)
 refine⟨⟨⟨C',e1,by omega⟩,?_,?_⟩,(hm.weaken (S':=[b]) (by simp)).trans m1 (λx hx=>Or.inl hx)⟩
 ·refine h.rd.snoc (λi hi=> ?_) old (T.frame new hx) (λj v hv=> ?_)
  ·rw[D5 e1,D5 hC,Nat.zero_add,e4 i (by omega)]
  ·rw[D5 e1,Nat.zero_add];exact e3 j v hv
 ·refine⟨?_,λq hq=> ?_⟩
  ·have h1:=h.own.1;rw[List.nodup_cons]at h1 ⊢;refine⟨?_,?_⟩
   ·simp only[List.flatten_append,List.flatten_singleton,Ag,not_or];exact⟨h1.1,λhk=>by have:=(ho.2 b hk).1;omega⟩
   ·simp only[List.flatten_append,List.flatten_singleton];exact List.nodup_append.2 ⟨h1.2,ho.1,λa ha c hc e=>by have:=(ho.2 c hc).1;have:=BS a (by simp[ha]);omega⟩
  ·rcases Ad.1 hq with rfl|hq
   ·exact⟨(h.own.2 q (by simp)).1,C',t,e1⟩
   ·simp only[List.flatten_append,List.flatten_singleton,Ag]at hq;rcases hq with hq|hq
    ·rw[old q hq];exact h.own.2 q (by simp[hq])
    ·rw[new q hq];exact⟨Nat.le_trans hB (ho.2 q hq).1,(ho.2 q hq).2⟩
theorem L7.done{α:Type}{T:GT α}{B:Nat}{w:World}{b:Nat}{t:TypeId}{tot n:Nat}{xs:List α}{fps:List (List Nat)}(h:L7 T B w b t tot xs fps)(hn:xs.length=n):
  D3 T w (some ⟨b,0,none⟩) n xs (b::fps.flatten):=by
 obtain⟨C,hC,_⟩:=h.blk;exact⟨hn,Or.inr ⟨b,0,fps,rfl,rfl,Fv hC,h.rd⟩⟩
theorem D3.mj{α:Type}{T:GT α}{w:World}{a:Option Addr}{n:Nat}{xs:List α}{fp:List Nat}(h:D3 T w a n xs fp)(B8:fp.Nodup){k:Nat}{x:α}(hx:xs[k]?=some x):
  ∃b o cs f,a=some ⟨b,o,none⟩/\b<w.heap.size/\b∈fp/\b∉f/\T.rd w cs x f/\(∀q∈f,q∈fp)/\(∀j v,cs[j]?=some v->w.cell? ⟨b,o+k*T.size+j,none⟩=some v)/\
   ∀w' cs' x',b<w'.heap.size->T.rd w' cs' x' f->(∀q∈fp,q∉f->q≠b->w'.heap[q]?=w.heap[q]?)->(∀j v,cs'[j]?=some v->w'.cell? ⟨b,o+k*T.size+j,none⟩=some v)->
    (∀i,i<o+k*T.size\/o+k*T.size+T.size<=i->w'.cell? ⟨b,i,none⟩=w.cell? ⟨b,i,none⟩)->D3 T w' a n (xs.set k x') fp:=by
 have hk:k<xs.length:=by
  rcases Nat.lt_or_ge k xs.length with h|h
  ·exact h
  ·simp[List.getElem?_eq_none h]at hx
 rcases h.2 with⟨rfl,_⟩|⟨b,o,fps,rfl,rfl,hb,he⟩
 ·simp at hk
 have BH:k<fps.length:=by rw[he.1];exact hk
 obtain⟨cs,h1,h2⟩:=he.2 k x fps[k] hx (by simp);have Qc:b∉fps.flatten:=(List.nodup_cons.1 B8).1;have BS:∀q∈fps[k],q∈fps.flatten:=λq hq=>List.mem_flatten.2 ⟨_,Bu BH,hq⟩;refine⟨b,o,cs,fps[k],rfl,hb,by simp,λhm=>Qc (BS b hm),h1,λq hq=>List.mem_cons_of_mem _ (BS q hq),h2,λw' cs' x' BF Dm K2 AZ hold=>⟨by simp[h.1],Or.inr ⟨b,o,fps,rfl,rfl,BF,by simp[he.1],λi y f hy hf=> ?_⟩⟩⟩;by_cases hi:i=k
 ·subst hi;rw[List.getElem?_set_self hk]at hy;simp at hy;subst hy;have:f=fps[i]:=by simpa[BH]using hf.symm
  subst this;exact⟨cs',Dm,AZ⟩
 ·rw[List.getElem?_set_ne (Ne.symm hi)]at hy;obtain⟨c,g1,g2⟩:=he.2 i y f hy hf;have cU:f∈fps:=List.mem_of_getElem? hf;refine⟨c,T.frame (λq hq=>K2 q (List.mem_cons_of_mem _ (List.mem_flatten.2 ⟨f,cU,hq⟩)) (λdH=> ?_) (λe=>Qc (e▸List.mem_flatten.2 ⟨f,cU,hq⟩))) g1,λj v hv=> ?_⟩
  ·
   have hp:=List.pairwise_flatten.1 (List.nodup_cons.1 B8).2|>.2;have WN:i<fps.length:=by
    rcases Nat.lt_or_ge i fps.length with h|h
    ·exact h
    ·simp[List.getElem?_eq_none h]at hf
   have S3:fps[i]=f:=by simpa[WN]using hf
   rcases Nat.lt_or_gt_of_ne hi with AI|AI
   ·exact(List.pairwise_iff_getElem.1 hp i k WN BH AI) q (S3▸hq) q dH rfl
   ·exact(List.pairwise_iff_getElem.1 hp k i BH WN AI) q dH q (S3▸hq) rfl
  ·have hj:j<T.size:=by
    rw[<-T.len g1];rcases Nat.lt_or_ge j c.length with h|h
    ·exact h
    ·simp[List.getElem?_eq_none h]at hv
   rw[hold (o+i*T.size+j) ?_]
   ·exact g2 j v hv
   ·rcases Nat.lt_or_gt_of_ne hi with AI|AI
    ·have:(i+1)*T.size<=k*T.size:=BB _ AI;rw[Nat.add_mul]at this;omega
    ·have:(k+1)*T.size<=i*T.size:=BB _ AI;rw[Nat.add_mul]at this;omega
theorem RQ{α:Type}{xs:List α}{i:Nat}{x:α}(hx:xs[i]?=some x):i<xs.length:=by
 rcases Nat.lt_or_ge i xs.length with h|h
 ·exact h
 ·simp[List.getElem?_eq_none h]at hx
theorem D3.put{α:Type}{T:GT α}{w:World}{n:Nat}{xs:List α}{fp:List Nat}{b o k:Nat}{x x':α}{cs':List Value}(h:D3 T w (some ⟨b,o,none⟩) n xs fp)(ho:Own 0 w fp)
  (hx:xs[k]?=some x) (Bq:∀w cs x f,T.rd w cs x f->f=[]) (hs:0<T.size) (Dm:∀w',T.rd w' cs' x' []):
  D3 T (putCells w b (o+k*T.size) cs') (some ⟨b,o,none⟩) n (xs.set k x') fp/\Own 0 (putCells w b (o+k*T.size) cs') fp/\Mod fp w (putCells w b (o+k*T.size) cs'):=by
 obtain⟨b',o',cs,f,ha,hb,Qc,FP,hr,_,hc,hu⟩:=h.mj ho.1 hx;simp at ha;obtain⟨rfl,rfl⟩:=ha;obtain rfl:=Bq _ _ _ _ hr;obtain⟨_,C,t,hC⟩:=ho.2 b Qc;have hl:=T.len hr;have Bw:=T.len (Dm w);have BS:o+k*T.size+cs'.length<=C.size:=by
  have AI:T.size-1<cs.length:=by omega
  have:=hc (T.size-1) cs[T.size-1] (by simp);rw[D5 hC]at this;have:=RQ (xs:=C.toList) (i:=o+k*T.size+(T.size-1)) (x:=cs[T.size-1]) (by simpa using this);simp at this;omega
 obtain⟨m,C',e1,e2,e3,e4⟩:=YK cs' w b (o+k*T.size) C t hC BS;have old:∀q∈fp,q≠b->(putCells w b (o+k*T.size) cs').heap[q]?=w.heap[q]?:=λq hq NT=>m.block q (ho.lt q hq) (by simpa using NT);refine⟨hu _ cs' x' (Fv e1) (Dm _) (λq hq _ NT=>old q hq NT) (λj v hv=> ?_) (λi hi=> ?_),⟨ho.1,λq hq=>⟨Nat.zero_le _,?_⟩⟩,m.weaken (by simp[Qc])⟩
 ·rw[D5 e1];exact e3 j v hv
 ·rw[D5 e1,D5 hC];exact e4 i (by omega)
 ·by_cases NT:q=b
  ·subst NT;exact⟨C',t,e1⟩
  ·rw[old q hq NT];exact(ho.2 q hq).2
theorem L7.cell{α:Type}{T:GT α}{B:Nat}{w w1:World}{b:Nat}{t:TypeId}{tot:Nat}{xs:List α}{fps:List (List Nat)}(h:L7 T B w b t tot xs fps)(hm:Mod [] w w1){i:Nat}(hi:i<tot):
  (∃u,w1.cell? ⟨b,i,none⟩=some u)/\w1.frozen? ⟨b,i,none⟩=false:=by
 obtain⟨C,hC,oX⟩:=h.blk;have SS:w1.heap[b]?=some (.cells C t (0,0)):=by rw[hm.block b (Fv hC) (by simp)];exact hC
 exact⟨⟨C[i],by rw[D5 SS];simp⟩,fF SS⟩
theorem D3.mod{α:Type}{T:GT α}{S:List Nat}{w w':World}{a:Option Addr}{n:Nat}{xs:List α}{fp:List Nat}(h:D3 T w a n xs fp)(hm:Mod S w w')(hS:∀q∈fp,q∉S):D3 T w' a n xs fp:=
 h.frame λk hk=>hm.block k (h.inb k hk) (hS k hk)
theorem Own.mod{B:Nat}{S:List Nat}{w w':World}{fp:List Nat}(h:Own B w fp)(hm:Mod S w w')(hS:∀q∈fp,q∉S):Own B w' fp:=
 h.frame λk hk=>hm.block k (h.lt k hk) (hS k hk)
theorem Own.app{B:Nat}{w:World}{f g:List Nat}(h1:Own B w f)(h2:Own B w g)(hd:∀q∈f,q∉g):Own B w (f++g):=
 ⟨List.nodup_append.2 ⟨h1.1,h2.1,λa ha b hb e=>hd a ha (e▸hb)⟩,λb hb=>by
  rcases Ag.1 hb with h|h
  ·exact h1.2 b h
  ·exact h2.2 b h⟩
theorem Own.left{B:Nat}{w:World}{f g:List Nat}(h:Own B w (f++g)):Own B w f:=⟨(List.nodup_append.1 h.1).1,λb hb=>h.2 b (by simp[hb])⟩
theorem Own.right{B:Nat}{w:World}{f g:List Nat}(h:Own B w (f++g)):Own B w g:=⟨(List.nodup_append.1 h.1).2.1,λb hb=>h.2 b (by simp[hb])⟩
theorem Own.apart{B:Nat}{w:World}{f g:List Nat}(h:Own B w (f++g)):∀q∈f,q∉g:=λq hq hg=>(List.nodup_append.1 h.1).2.2 q hq q hg rfl
theorem YZ{α:Type}{s:Nat}(hs:0<s):∀(Ls:List (List α)) (j:Nat),(∀l∈Ls,l.length=s)->Ls.flatten[j]?=(Ls[j/s]?).bind (·[j % s]?)
 | [],j,_=>by simp
 |l::Ls,j,h=>by
  have hl:l.length=s:=h l (by simp);rw[List.flatten_cons];by_cases hj:j<s
  ·rw[List.getElem?_append_left (by omega),Nat.div_eq_of_lt hj,Nat.mod_eq_of_lt hj];simp
  ·rw[List.getElem?_append_right (by omega),hl,YZ hs Ls (j-s) (λl hl=>h l (by simp[hl]))];have e1:j/s=(j-s)/s+1:=by rw[Nat.div_eq_sub_div hs (by omega)]
   have e2:(j-s) % s=j % s:=(Nat.mod_eq_sub_mod (by omega)).symm;rw[e1,e2];simp
theorem gL{α:Type}{s:Nat}:∀(Ls:List (List α)),(∀l∈Ls,l.length=s)->Ls.flatten.length=Ls.length*s
 | [],_=>by simp
 |l::Ls,h=>by have:=gL Ls (λl hl=>h l (by simp[hl]));have hl:=h l (by simp);simp[Nat.add_mul];rw[<-hl]at this ⊢;simp at this;omega
def EK{α:Type}(T:GT α)(w:World)(Ls:List (List Value))(xs:List α)(fps:List (List Nat)):Prop:=
 Ls.length=xs.length/\fps.length=xs.length/\ ∀(i:Nat) (cs:List Value) (x:α) (fp:List Nat),Ls[i]?=some cs->xs[i]?=some x->fps[i]?=some fp->T.rd w cs x fp
theorem EK.lens{α:Type}{T:GT α}{w:World}{Ls:List (List Value)}{xs:List α}{fps:List (List Nat)}(h:EK T w Ls xs fps):∀l∈Ls,l.length=T.size:=by intro l hl;obtain⟨i,hi,rfl⟩:=List.mem_iff_getElem.1 hl;have h1:=h.1;have h2:=h.2.1;exact T.len (h.2.2 i _ (xs[i]'(by omega)) (fps[i]'(by omega)) (by simp) (by simp) (by simp))
theorem EK.one{α:Type}{T:GT α}{w:World}{Ls:List (List Value)}{xs:List α}{fps:List (List Nat)}(h:EK T w Ls xs fps):∀u∈Ls.flatten,u.oneCell'=true:=by intro u hu;obtain⟨l,hl,hu⟩:=List.mem_flatten.1 hu;obtain⟨i,hi,rfl⟩:=List.mem_iff_getElem.1 hl;have h1:=h.1;have h2:=h.2.1;exact T.one (h.2.2 i _ (xs[i]'(by omega)) (fps[i]'(by omega)) (by simp) (by simp) (by simp)) u hu
theorem EK.frame{α:Type}{T:GT α}{w w':World}{Ls:List (List Value)}{xs:List α}{fps:List (List Nat)}(h:EK T w Ls xs fps)(hf:∀k∈fps.flatten,w'.heap[k]?=w.heap[k]?):EK T w' Ls xs fps:=
 ⟨h.1,h.2.1,λi cs x fp a b c=>T.frame (λk hk=>hf k (List.mem_flatten.2 ⟨fp,List.mem_of_getElem? c,hk⟩)) (h.2.2 i cs x fp a b c)⟩
theorem EK.inb{α:Type}{T:GT α}{w:World}{Ls:List (List Value)}{xs:List α}{fps:List (List Nat)}(h:EK T w Ls xs fps):∀k∈fps.flatten,k<w.heap.size:=by intro k hk;obtain⟨f,hf,hk⟩:=List.mem_flatten.1 hk;obtain⟨i,hi,rfl⟩:=List.mem_iff_getElem.1 hf;have h1:=h.1;have h2:=h.2.1;exact T.inb (h.2.2 i (Ls[i]'(by omega)) (xs[i]'(by omega)) _ (by simp) (by simp) (by simp)) k hk
theorem EK.snoc{α:Type}{T:GT α}{w:World}{Ls:List (List Value)}{xs:List α}{fps:List (List Nat)}{cs:List Value}{x:α}{fp:List Nat}(h:EK T w Ls xs fps)(hx:T.rd w cs x fp):EK T w (Ls++ [cs]) (xs++ [x]) (fps++ [fp]):=by
 refine⟨by simp[h.1],by simp[h.2.1],λi c y f hc hy hf=> ?_⟩;rcases Nat.lt_trichotomy i xs.length with hi|hi|hi
 ·exact h.2.2 i c y f (by rwa[List.getElem?_append_left (by rw[h.1];exact hi)]at hc) (by rwa[List.getElem?_append_left hi]at hy) (by rwa[List.getElem?_append_left (by rw[h.2.1];exact hi)]at hf)
 ·subst hi;rw[List.getElem?_append_right (by rw[h.1];exact Ay _),h.1]at hc;rw[List.getElem?_append_right (Ay _)]at hy;rw[List.getElem?_append_right (by rw[h.2.1];exact Ay _),h.2.1]at hf;simp at hc hy hf;subst hc hy hf;exact hx
 ·rw[List.getElem?_eq_none (by simp;omega)]at hy;cases hy
theorem gN{β:Type}(P:Nat->β->Prop):∀n:Nat,(∀i,i<n-> ∃y,P i y)-> ∃L:List β,L.length=n/\ ∀(i:Nat) (y:β),L[i]?=some y->P i y
 |0,_=>⟨[],rfl,by simp⟩
 |n+1,h=>by
  obtain⟨L,hl,hL⟩:=gN P n (λi hi=>h i (by omega));obtain⟨y,hy⟩:=h n (by omega);refine⟨L++ [y],by simp[hl],λi z hz=> ?_⟩;rcases Nat.lt_trichotomy i n with hi|hi|hi
  ·exact hL i z (by rwa[List.getElem?_append_left (by omega)]at hz)
  ·subst hi;rw[List.getElem?_append_right (by omega),hl]at hz;simp at hz;subst hz;exact hy
  ·rw[List.getElem?_eq_none (by simp;omega)]at hz;cases hz
theorem Gh.cells{α:Type}{T:GT α}{w:World}{b o:Nat}{xs:List α}{fps:List (List Nat)}(h:Gh T w b o xs fps)(hs:0<T.size):
  ∃Ls,EK T w Ls xs fps/\ ∀j u,Ls.flatten[j]?=some u->w.cell? ⟨b,o+j,none⟩=some u:=by
 obtain⟨Ls,hn,hL⟩:=gN (λi cs=> ∃x fp,xs[i]?=some x/\fps[i]?=some fp/\T.rd w cs x fp/\ ∀j v,cs[j]?=some v->w.cell? ⟨b,o+i*T.size+j,none⟩=some v) xs.length (λi hi=>by obtain⟨cs,h1,h2⟩:=h.2 i xs[i] (fps[i]'(by rw[h.1];exact hi)) (by simp) (by simp);exact⟨cs,_,_,by simp,by simp,h1,h2⟩)
 have cM:EK T w Ls xs fps:=by refine⟨hn,h.1,λi cs x fp hc hx hf=> ?_⟩;obtain⟨x',fp',e1,e2,e3,_⟩:=hL i cs hc;rw[e1]at hx;rw[e2]at hf;simp at hx hf;subst hx hf;exact e3
 refine⟨Ls,cM,λj u hu=> ?_⟩;rw[YZ hs _ _ cM.lens]at hu;cases hd:Ls[j/T.size]? with
 |none=>rw[hd]at hu;cases hu
 |some cs=>rw[hd]at hu;obtain⟨_,_,_,_,_,e4⟩:=hL _ cs hd;have:=e4 _ u hu;rw[Nat.add_assoc,Nat.mul_comm,Nat.div_add_mod]at this;exact this
theorem EK.jg{α:Type}{T:GT α}{w:World}{Ls:List (List Value)}{xs:List α}{fps:List (List Nat)}{b o:Nat}(h:EK T w Ls xs fps)(hs:0<T.size)(hc:∀j u,Ls.flatten[j]?=some u->w.cell? ⟨b,o+j,none⟩=some u):Gh T w b o xs fps:=by
 refine⟨h.2.1,λi x fp hx hf=> ?_⟩;have hi:=RQ hx;have h1:=h.1;refine⟨Ls[i]'(by omega),h.2.2 i _ x fp (by simp) hx hf,λj v hv=> ?_⟩;rw[Nat.add_assoc];refine hc _ _ ?_;have hj:j<T.size:=by rw[<-h.lens _ (Bu (by omega:i<Ls.length))];exact RQ hv
 rw[YZ hs _ _ h.lens,Nat.mul_comm,Nat.mul_add_div hs,Nat.div_eq_of_lt hj,Nat.add_zero,Nat.mul_add_mod,Nat.mod_eq_of_lt hj];simpa[show i<Ls.length by omega]using hv
def Gr{α:Type}(T:GT α)(E:TypeId)(B:Nat)(w:World)(v:Value)(xs:List α)(fps:List (List Nat)):Prop:=
 ∃Ls,EK T w Ls xs fps/\w.ownsRow B E T.size v xs.length Ls.flatten/\ ∀g,v.ownBlock=some g->g∉fps.flatten
theorem Gr.nil{α:Type}(T:GT α)(E:TypeId)(B:Nat)(w:World):Gr T E B w (.slice none 0 0) [] []:=
 ⟨[],⟨rfl,rfl,by simp⟩,World.ownsRow_nil _ _ _ _,by simp⟩
theorem Gr.done{α:Type}{T:GT α}{E:TypeId}{B:Nat}{w:World}{v:Value}{xs:List α}{fps:List (List Nat)}(hs:0<T.size)(h:Gr T E B w v xs fps)(hf:Own B w fps.flatten):
  ∃a c fp,v= .slice a xs.length c/\xs.length<=c/\c<=maxLen/\D3 T w a xs.length xs fp/\Own B w fp/\(∀q∈fp,q∈fps.flatten\/v.ownBlock=some q):=by
 obtain⟨Ls,hL,ho,hg⟩:=h;rcases ho.2 with⟨rfl,hn⟩|⟨g,cap,cur,rfl,hB,hh,W8,Qh,Bi,ht⟩
 ·have:xs=[]:=List.eq_nil_of_length_eq_zero hn;subst this;exact⟨none,0,[],rfl,Ay _,by simp[maxLen],⟨rfl,Or.inl ⟨rfl,rfl⟩⟩,Own.nil _ _,by simp⟩
 ·refine⟨some ⟨g,0,none⟩,cap,g::fps.flatten,rfl,W8,Qh,⟨rfl,Or.inr ⟨g,0,fps,rfl,rfl,Fv hh,hL.jg hs (λj u hu=> ?_)⟩⟩,⟨List.nodup_cons.2 ⟨hg g rfl,hf.1⟩,λb hb=> ?_⟩,λq hq=> ?_⟩
  ·rw[Nat.zero_add,D5 hh];rw[<-ht]at hu;have:=RQ hu;rw[List.getElem?_take]at hu;split at hu
   ·simpa using hu
   ·cases hu
  ·rcases Ad.1 hb with rfl|hb
   ·exact⟨hB,cur,E,hh⟩
   ·exact hf.2 b hb
  ·rcases Ad.1 hq with rfl|hq
   ·exact Or.inr rfl
   ·exact Or.inl hq
theorem D3.cells{α:Type}{T:GT α}{w:World}{ad:Addr}{n:Nat}{xs:List α}{fp:List Nat}(hs:0<T.size)(h:D3 T w (some ad) n xs fp):
  ∃Ls fps,EK T w Ls xs fps/\(∀j u,Ls.flatten[j]?=some u->w.cell? (ad.add j)=some u)/\(∀q∈fps.flatten,q∈fp)/\Ls.flatten.length=n*T.size:=by
 rcases h.2 with⟨rfl,rfl⟩|⟨b,o,fps,ha,rfl,hb,he⟩
 ·have:=h.1;simp at this;subst this;exact⟨[],[],⟨rfl,rfl,by simp⟩,by simp,by simp,by simp⟩
 ·simp at ha;subst ha;obtain⟨Ls,h1,h2⟩:=he.cells hs;refine⟨Ls,fps,h1,λj u hu=> ?_,λq hq=>by simp[hq],by rw[gL Ls h1.lens,h1.1,h.1]⟩;have:=h2 j u hu;simpa[Addr.add_lit]using this
theorem Mod.grown{S:List Nat}{a w w':World}{row:Option Nat}(h:Mod S a w)(hg:w.grownBy w' row)(hr:∀k,row=some k->k∈S\/a.heap.size<=k):Mod S a w':=
 h.trans (S':=row.toList) ⟨hg.os,hg.tape,hg.output,hg.size,λk hk hn=>hg.block k hk (λe=>hn (by rw[<-e];simp))⟩ (λx hx=>hr x (by cases row<;>simp at hx;subst hx;rfl))
theorem EK.flat{α:Type}{T:GT α}{w:World}{Ls:List (List Value)}{xs:List α}{fps:List (List Nat)}(Bq:∀w cs x f,T.rd w cs x f->f=[])(h:EK T w Ls xs fps):fps.flatten=[]:=by rw[List.flatten_eq_nil_iff];intro f hf;obtain⟨i,hi,rfl⟩:=List.mem_iff_getElem.1 hf;have h1:=h.1;have h2:=h.2.1;exact Bq _ _ _ _ (h.2.2 i (Ls[i]'(by omega)) (xs[i]'(by omega)) _ (by simp) (by simp) (by simp))
def bO(P:Program){α:Type}(T:GT α)(val:List Value->Value)(g:Nat)(lb:Array Value)(p:α->Bool)(xs:List α)(w:World):Prop:=
 ∀(W:World) (cs:List Value) (x:α) (fp:List Nat),x∈xs->Mod [] w W->T.rd W cs x fp->Calls P g (#[val cs]++lb) W λe w'=>e= .returned (.bool (p x))/\Mod [] W w'
theorem bO.later{P:Program}{α:Type}{T:GT α}{val:List Value->Value}{g:Nat}{lb:Array Value}{p:α->Bool}{xs:List α}{w w1:World}(h:bO P T val g lb p xs w)(hm:Mod [] w w1):bO P T val g lb p xs w1:=
 λW cs x fp hx hW hr=>h W cs x fp hx (hm.trans hW (by simp)) hr
theorem Mod.blk{S:List Nat}{w w1:World}(hm:Mod S w w1){b:Nat}{C:Array Value}{t:TypeId}(h:w.heap[b]?=some (.cells C t (0,0)))(hb:b∉S):w1.heap[b]?=some (.cells C t (0,0)):=by rw[hm.block b (Fv h) hb];exact h
theorem Z2{w:World}{b:Nat}{C:Array Value}{t:TypeId}(h:w.heap[b]?=some (.cells C t (0,0))):∀o,w.cell? ⟨b,o,none⟩=C[o]?:=λ_=>D5 h
end
section
open Go.ChangeShapes Go.WideShapes Go.ChangeAt Go.RowKit
theorem jB(a:Addr):a.add 0=a:=by simp[Addr.add]
theorem kZ(b o n:Nat):Addr.add ⟨b,o,none⟩ n=⟨b,o+n,none⟩:=by
 unfold Addr.add;split
 ·subst_vars;rfl
 ·rfl
end
section
open Go.RowKit
inductive AV where
 |int (k:IntKind) (n:Int)
 |bool (b:Bool)
 |str (s:List UInt8)
 |sl (xs:List AV)
 |agg (cs:List AV)
 |tup (vs:List AV)
 |ref (x:AV)
 |fn (f:Nat) (caps:List AV)
 |dd
 |undef
def AV.cells:AV->List AV
 | .agg cs=>cs
 |x=> [x]
def AA(xs:List AV):List AV:=xs.flatMap AV.cells
def EV(k:IntKind)(n:Int):Prop:=k.wrap n=n
inductive Rd(w:World):List Value->List AV->List Nat->Prop where
 |nil:Rd w [] [] []
 |int {k n vs xs f}:EV k n->Rd w vs xs f->Rd w (.int k n::vs) (.int k n::xs) f
 |bool {b vs xs f}:Rd w vs xs f->Rd w (.bool b::vs) (.bool b::xs) f
 |str {s:ByteArray} {vs xs f}:s.size<=9223372036854775807->Rd w vs xs f->Rd w (.string s::vs) (.str s.data.toList::xs) f
 |di {a c vs xs f}:Rd w vs xs f->Rd w (.slice a 0 c::vs) (.sl []::xs) f
 |en {b o n c ys cs C t fz sz f1 vs xs f}:w.heap[b]?=some (.cells C t fz)->0<n->(n<=9223372036854775807/\n<=c)->ys.length=n->(∀y∈ys,y.cells.length=sz)->0<sz->
   (∀j v,cs[j]?=some v->C[o+j]?=some v)->(∀u∈cs,u.oneCell'=true)->Rd w cs (AA ys) f1->Rd w vs xs f->Rd w (.slice (some ⟨b,o,none⟩) n c::vs) (.sl ys::xs) (b::(f1++f))
 |agg {as_ cs f1 vs xs f}:(∀u∈as_,u.oneCell'=true)->Rd w as_ cs f1->Rd w vs xs f->Rd w (.agg as_.toArray::vs) (.agg cs::xs) (f1++f)
 |tup {as_ cs f1 vs xs f}:Rd w as_ cs f1->Rd w vs xs f->Rd w (.tuple as_.toArray::vs) (.tup cs::xs) (f1++f)
 |ref {b C t fz x f1 vs xs f}:w.heap[b]?=some (.cells C t fz)->(∀u∈C.toList,u.oneCell'=true)->Rd w C.toList x.cells f1->Rd w vs xs f->Rd w (.pointer (some ⟨b,0,none⟩)::vs) (.ref x::xs) (b::(f1++f))
 |fn {g as_ cs f1 vs xs f}:Rd w as_ cs f1->Rd w vs xs f->Rd w (.func (.func g) #[] as_.toArray::vs) (.fn g cs::xs) (f1++f)
 |dd {vs xs f}:Rd w vs xs f->Rd w (.pointer none::vs) (.dd::xs) f
theorem Rd.frame{w w':World}{vs:List Value}{xs:List AV}{f:List Nat}(h:Rd w vs xs f):(∀b∈f,w'.heap[b]?=w.heap[b]?)->Rd w' vs xs f:=by
 induction h with
 |nil=>exact λ_=> .nil
 |int a _ ih=>exact λhf=> .int a (ih hf)
 |bool _ ih=>exact λhf=> .bool (ih hf)
 |str a _ ih=>exact λhf=> .str a (ih hf)
 |di _ ih=>exact λhf=> .di (ih hf)
 |en hb h1 h2 h3 h4 h5 h6 Gi _ _ ih1 ih2=>exact λhf=> .en (by rw[hf _ (by simp)];exact hb) h1 h2 h3 h4 h5 h6 Gi (ih1 λb m=>hf b (by simp[m])) (ih2 λb m=>hf b (by simp[m]))
 |agg h9 _ _ ih1 ih2=>exact λhf=> .agg h9 (ih1 λb m=>hf b (by simp[m])) (ih2 λb m=>hf b (by simp[m]))
 |tup _ _ ih1 ih2=>exact λhf=> .tup (ih1 λb m=>hf b (by simp[m])) (ih2 λb m=>hf b (by simp[m]))
 |ref hb h9 _ _ ih1 ih2=>exact λhf=> .ref (by rw[hf _ (by simp)];exact hb) h9 (ih1 λb m=>hf b (by simp[m])) (ih2 λb m=>hf b (by simp[m]))
 |fn _ _ ih1 ih2=>exact λhf=> .fn (ih1 λb m=>hf b (by simp[m])) (ih2 λb m=>hf b (by simp[m]))
 |dd _ ih=>exact λhf=> .dd (ih hf)
theorem Rd.inb{w:World}{vs:List Value}{xs:List AV}{f:List Nat}(h:Rd w vs xs f):∀b∈f,b<w.heap.size:=by
 induction h with
 |nil=>simp
 |int _ _ ih=>exact ih
 |bool _ ih=>exact ih
 |str _ _ ih=>exact ih
 |di _ ih=>exact ih
 |en hb _ _ _ _ _ _ _ _ _ ih1 ih2=>
  intro b m;simp only[Ad,Ag]at m;rcases m with rfl|m|m
  ·exact Fv hb
  ·exact ih1 b m
  ·exact ih2 b m
 |agg _ _ _ ih1 ih2=>intro b m;rcases Ag.1 m with m|m;exact ih1 b m;exact ih2 b m
 |tup _ _ ih1 ih2=>intro b m;rcases Ag.1 m with m|m;exact ih1 b m;exact ih2 b m
 |ref hb _ _ _ ih1 ih2=>
  intro b m;simp only[Ad,Ag]at m;rcases m with rfl|m|m
  ·exact Fv hb
  ·exact ih1 b m
  ·exact ih2 b m
 |fn _ _ ih1 ih2=>intro b m;rcases Ag.1 m with m|m;exact ih1 b m;exact ih2 b m
 |dd _ ih=>exact ih
theorem Rd.len{w:World}{vs:List Value}{xs:List AV}{f:List Nat}(h:Rd w vs xs f):vs.length=xs.length:=by induction h<;>simp_all
theorem Rd.app{w:World}{vs us:List Value}{xs ys:List AV}{f g:List Nat}(h:Rd w vs xs f)(k:Rd w us ys g):Rd w (vs++us) (xs++ys) (f++g):=by
 induction h with
 |nil=>exact k
 |int a _ ih=>exact .int a ih
 |bool _ ih=>exact .bool ih
 |str a _ ih=>exact .str a ih
 |di _ ih=>exact .di ih
 |en hb h1 h2 h3 h4 h5 h6 Gi h7 _ _ ih2=>simp only[List.cons_append,List.append_assoc];exact Rd.en hb h1 h2 h3 h4 h5 h6 Gi h7 ih2
 |agg h9 h1 _ _ ih2=>have:=Rd.agg h9 h1 ih2;simpa using this
 |tup h1 _ _ ih2=>have:=Rd.tup h1 ih2;simpa using this
 |ref hb h9 h1 _ _ ih2=>have:=Rd.ref hb h9 h1 ih2;simpa using this
 |fn h1 _ _ ih2=>simp only[List.cons_append,List.append_assoc];exact Rd.fn h1 ih2
 |dd _ ih=>exact .dd ih
theorem Rd.bu{w:World}{v:Value}{vs:List Value}{x:AV}{xs:List AV}{f:List Nat}(h:Rd w (v::vs) (x::xs) f):
  ∃f1 f2,f=f1++f2/\Rd w [v] [x] f1/\Rd w vs xs f2:=by
 cases h with
 |int a h=>exact⟨[],f,rfl, .int a .nil,h⟩
 |bool h=>exact⟨[],f,rfl, .bool .nil,h⟩
 |str a h=>exact⟨[],f,rfl, .str a .nil,h⟩
 |di h=>exact⟨[],f,rfl, .di .nil,h⟩
 |en hb h1 h2 h3 h4 h5 h6 Gi h7 h=>rename_i b o n c ys cs C t fz sz f1 f2;exact⟨b::(f1++ []),f2,by simp, .en hb h1 h2 h3 h4 h5 h6 Gi h7 .nil,h⟩
 |agg h9 h1 h=>rename_i f1 f2;exact⟨f1++ [],f2,by simp, .agg h9 h1 .nil,h⟩
 |tup h1 h=>rename_i f1 f2;exact⟨f1++ [],f2,by simp, .tup h1 .nil,h⟩
 |ref hb h9 h1 h=>rename_i b C t fz x f1 f2;exact⟨b::(f1++ []),f2,by simp, .ref hb h9 h1 .nil,h⟩
 |fn h1 h=>rename_i f1 f2;exact⟨f1++ [],f2,by simp, .fn h1 .nil,h⟩
 |dd h=>exact⟨[],f,rfl, .dd .nil,h⟩
theorem Rd.df{w:World}:∀{vs us:List Value} {xs ys:List AV} {f:List Nat},vs.length=xs.length->Rd w (vs++us) (xs++ys) f-> ∃f1 f2,f=f1++f2/\Rd w vs xs f1/\Rd w us ys f2
 | [],us,[],ys,f,_,h=>⟨[],f,rfl, .nil,h⟩
 |v::vs,us,x::xs,ys,f,hl,h=>by obtain⟨f1,f2,rfl,h1,h2⟩:=Rd.bu h;obtain⟨f3,f4,rfl,h3,h4⟩:=Rd.df (vs:=vs) (xs:=xs) (by simpa using hl) h2;exact⟨f1++f3,f4,by simp,h1.app h3,h4⟩
theorem Rd.piece{w:World}{vs:List Value}{xs:List AV}{f:List Nat}(h:Rd w vs xs f)(o n:Nat):
  ∃g,(∀b∈g,b∈f)/\Rd w ((vs.drop o).take n) ((xs.drop o).take n) g:=by
 have hl:=h.len;have e1:vs=vs.take o++vs.drop o:=(BV o vs).symm;have e2:xs=xs.take o++xs.drop o:=(BV o xs).symm;rw[e1,e2]at h;obtain⟨f1,f2,rfl,_,h2⟩:=Rd.df (by simp[hl]) h;have e3:vs.drop o=(vs.drop o).take n++(vs.drop o).drop n:=(BV _ _).symm;have e4:xs.drop o=(xs.drop o).take n++(xs.drop o).drop n:=(BV _ _).symm;rw[e3,e4]at h2;obtain⟨f3,f4,rfl,h3,_⟩:=Rd.df (by simp[hl]) h2;exact⟨f3,λb hb=>by simp[hb],h3⟩
theorem Rd.at{w:World}{vs:List Value}{xs:List AV}{f:List Nat}(h:Rd w vs xs f){i:Nat}{x:AV}(hx:xs[i]?=some x):
  ∃v g,vs[i]?=some v/\(∀b∈g,b∈f)/\Rd w [v] [x] g:=by
 have hi:=RQ hx;have hl:=h.len;obtain⟨g,hg,hr⟩:=h.piece i 1;have hv:(vs.drop i).take 1=[vs[i]'(by omega)]:=by rw[BL (by omega),List.take_succ_cons,List.take_zero]
 have CT:(xs.drop i).take 1=[x]:=by rw[BL hi,List.take_succ_cons,List.take_zero];simpa[hi]using hx
 rw[hv,CT]at hr;exact⟨_,g,by simp[show i<vs.length by omega],hg,hr⟩
theorem Rd.kind{w:World}{v:Value}{x:AV}{f:List Nat}(h:Rd w [v] [x] f):
  (∃k n,v= .int k n/\x= .int k n/\EV k n/\f=[])\/(∃b,v= .bool b/\x= .bool b/\f=[])\/(∃s:ByteArray,v= .string s/\x= .str s.data.toList/\s.size<=9223372036854775807/\f=[])\/
  (∃a c,v= .slice a 0 c/\x= .sl []/\f=[])\/
  (∃(b o n c:Nat) (ys:List AV) (cs:List Value) (C:Array Value) (t:TypeId) (fz:Nat × Nat) (sz:Nat) (f1:List Nat),v= .slice (some ⟨b,o,none⟩) n c/\x= .sl ys/\f=b::f1/\w.heap[b]?=some (.cells C t fz)/\0<n/\(n<=9223372036854775807/\n<=c)/\ys.length=n/\(∀y∈ys,y.cells.length=sz)/\0<sz/\
   (∀(j:Nat) (u:Value),cs[j]?=some u->C[o+j]?=some u)/\(∀u∈cs,u.oneCell'=true)/\Rd w cs (AA ys) f1)\/
  (∃as_ cs,v= .agg as_.toArray/\x= .agg cs/\(∀u∈as_,u.oneCell'=true)/\Rd w as_ cs f)\/(∃as_ cs,v= .tuple as_.toArray/\x= .tup cs/\Rd w as_ cs f)\/
  (∃b C t fz y f1,v= .pointer (some ⟨b,0,none⟩)/\x= .ref y/\f=b::f1/\w.heap[b]?=some (.cells C t fz)/\(∀u∈C.toList,u.oneCell'=true)/\Rd w C.toList y.cells f1)\/
  (∃g as_ cs,v= .func (.func g) #[] as_.toArray/\x= .fn g cs/\Rd w as_ cs f)\/(v= .pointer none/\x= .dd/\f=[]):=by
 cases h with
 |int a h=>cases h;exact .inl ⟨_,_,rfl,rfl,a,rfl⟩
 |bool h=>cases h;exact .inr (.inl ⟨_,rfl,rfl,rfl⟩)
 |str a h=>cases h;exact .inr (.inr (.inl ⟨_,rfl,rfl,a,rfl⟩))
 |di h=>cases h;exact .inr (.inr (.inr (.inl ⟨_,_,rfl,rfl,rfl⟩)))
 |en hb h1 h2 h3 h4 h5 h6 Gi h7 h=>cases h;exact .inr (.inr (.inr (.inr (.inl ⟨_,_,_,_,_,_,_,_,_,_,_,rfl,rfl,by simp,hb,h1,h2,h3,h4,h5,h6,Gi,h7⟩))))
 |agg h9 h1 h=>cases h;exact .inr (.inr (.inr (.inr (.inr (.inl ⟨_,_,rfl,rfl,h9,by simpa using h1⟩)))))
 |tup h1 h=>cases h;exact .inr (.inr (.inr (.inr (.inr (.inr (.inl ⟨_,_,rfl,rfl,by simpa using h1⟩))))))
 |ref hb h9 h1 h=>cases h;exact .inr (.inr (.inr (.inr (.inr (.inr (.inr (.inl ⟨_,_,_,_,_,_,rfl,rfl,by simp,hb,h9,h1⟩)))))))
 |fn h1 h=>cases h;exact .inr (.inr (.inr (.inr (.inr (.inr (.inr (.inr (.inl ⟨_,_,_,rfl,rfl,by simpa using h1⟩))))))))
 |dd h=>cases h;exact .inr (.inr (.inr (.inr (.inr (.inr (.inr (.inr (.inr ⟨rfl,rfl,rfl⟩))))))))
def AV.fld(x:AV)(o n:Nat)(g:Bool):AV:=if g then .agg ((x.cells.drop o).take n)else(x.cells[o]?).getD .undef
def AV.proj(x:AV)(i:Nat):AV:=match x with| .tup vs=>(vs[i]?).getD .undef|_=> .undef
def AV.deref(x:AV):AV:=match x with| .ref y=>y|_=> .undef
def AV.len(x:AV):AV:=match x with| .sl xs=> .int .i64 xs.length|_=> .undef
def AV.slen(x:AV):AV:=match x with| .str s=> .int .i64 s.length|_=> .undef
def AV.nth(x:AV)(k:Nat):AV:=match x with| .sl xs=>(xs[k]?).getD .undef|_=> .undef
def AV.sidx(x i:AV):AV:=match x,i with| .str s, .int _ k=>(match s[k.toNat]? with|some b=> .int .u8 b.toNat|none=> .undef)|_,_=> .undef
def AV.idx(x i:AV):AV:=match i with| .int _ k=>x.nth k.toNat|_=> .undef
def AV.win(x lo hi:AV):AV:=
 match lo,hi with
 | .int _ a, .int _ b=>(match x with| .sl xs=> .sl ((xs.take b.toNat).drop a.toNat)|_=> .undef)
 |_,_=> .undef
def AV.swin(x lo hi:AV):AV:=
 match lo,hi with
 | .int _ a, .int _ b=>(match x with| .str s=> .str ((s.take b.toNat).drop a.toNat)|_=> .undef)
 |_,_=> .undef
def AV.app(x y:AV):AV:=match x,y with| .sl xs, .sl ys=> .sl (xs++ys)|_,_=> .undef
def AV.cr(x i v:AV):AV:=match x,i with| .sl xs, .int _ k=> .sl (xs.set k.toNat v)|_,_=> .undef
def AV.cx(x:AV)(o:Nat)(v:AV)(g:Bool):AV:=
 if g then .agg (x.cells.take o++v.cells++x.cells.drop (o+v.cells.length))else v
def AV.rep(n z:AV):AV:=match n with| .int _ k=> .sl (List.replicate k.toNat z)|_=> .undef
def AV.conv(k:IntKind)(x:AV):AV:=match x with| .int _ n=> .int k (k.wrap n)|_=> .undef
def AV.dz(x:AV):AV:=match x with| .bool b=> .bool (!b)|_=> .undef
def AV.gz(x:AV):AV:=match x with| .int k n=> .int k (k.wrap (0-n))|_=> .undef
def AV.cond(c x y:AV):AV:=match c with| .bool true=>x| .bool false=>y|_=> .undef
def AV.bytes(x:AV):AV:=match x with| .str s=> .sl (s.map λb=> .int .u8 b.toNat)|_=> .undef
def Lr:List AV->Option (List UInt8)
 | []=>some []
 | .int .u8 n::xs=>(Lr xs).map (UInt8.ofNat n.toNat:: ·)
 |_::_=>none
def AV.text(x:AV):AV:=match x with| .sl xs=>(match Lr xs with|some s=>if xs.length<=9223372036854775807 then .str s else .undef|none=> .undef)|_=> .undef
def BD(op:BinOp)(k:IntKind)(a b:Int):AV:=
 match op with
 | .add=> .int k (k.wrap (a+b))
 | .sub=> .int k (k.wrap (a-b))
 | .mul=> .int k (k.wrap (a*b))
 | .quo=> .int k (k.wrap (a.tdiv b))
 | .rem=> .int k (a.tmod b)
 | .eql=> .bool (a==b)
 | .neq=> .bool (a !=b)
 | .lss=> .bool (a<b)
 | .leq=> .bool (a<=b)
 | .gtr=> .bool (a>b)
 | .geq=> .bool (a>=b)
 | .and=> .int k (k.wrap (BitVec.ofInt k.bits a&&&BitVec.ofInt k.bits b).toNat)
 | .or=> .int k (k.wrap (BitVec.ofInt k.bits a|||BitVec.ofInt k.bits b).toNat)
 | .xor=> .int k (k.wrap (BitVec.ofInt k.bits a^^^BitVec.ofInt k.bits b).toNat)
 | .andNot=> .int k (k.wrap (BitVec.ofInt k.bits a&&& ~~~BitVec.ofInt k.bits b).toNat)
 | .shl=> .int k (k.wrap (a*2^(min b.toNat k.bits)))
 | .shr=> .int k (a.fdiv (2^(min b.toNat k.bits)))
def Px(op:BinOp)(a b:List UInt8):AV:=
 match op with
 | .add=> .str (a++b)
 | .eql=> .bool (a==b)
 | .neq=> .bool (a !=b)
 | .lss=> .bool (Op.bytesLess a b)
 | .leq=> .bool (Op.bytesLess a b||a==b)
 | .gtr=> .bool (!(Op.bytesLess a b||a==b))
 | .geq=> .bool (!Op.bytesLess a b)
 |_=> .undef
def AV.bin(op:BinOp)(x y:AV):AV:=
 match x,y with
 | .int k a, .int k' b=>if k=k'\/op= .shl\/op= .shr then BD op k a b else .undef
 |_,_=> .undef
def AV.sbin(op:BinOp)(x y:AV):AV:=
 match x,y with
 | .str a, .str b=>Px op a b
 |_,_=> .undef
def AV.bbin(op:BinOp)(x y:AV):AV:=
 match x,y with
 | .bool a, .bool b=>(match op with| .eql=> .bool (a==b)| .neq=> .bool (a !=b)|_=> .undef)
 |_,_=> .undef
inductive SK where
 |int (k:IntKind)
 |bool
 |str
def AV.sk:AV->Option SK
 | .int k _=>some (.int k)
 | .bool _=>some .bool
 | .str _=>some .str
 |_=>none
def AV.seq:AV->AV->Bool
 | .int _ a, .int _ b=>a==b
 | .bool a, .bool b=>a==b
 | .str a, .str b=>a==b
 |_,_=>false
def AV.leq:List AV->List AV->Bool
 | [],[]=>true
 |x::xs,y::ys=>x.seq y&&AV.leq xs ys
 |_,_=>false
def AV.aeq(x y:AV):AV:=match x,y with
 | .agg xs, .agg ys=> .bool (AV.leq xs ys)
 |_,_=> .undef
mutual
inductive E where
 |var (i:Nat)
 |int (k:IntKind) (n:Int)
 |bool (b:Bool)
 |str (s:ByteArray)
 |dd
 |lst (es:EL)
 |mk (es:EL)
 |tup (es:EL)
 |ref (e:E)
 |fn (f:Nat) (es:EL)
 |fld (e:E) (o n:Nat) (g:Bool)
 |proj (e:E) (i:Nat)
 |deref (e:E)
 |len (e:E)
 |slen (e:E)
 |idx (e i:E)
 |sidx (e i:E)
 |win (e lo hi:E)
 |swin (e lo hi:E)
 |app (a b:E)
 |set (x i v:E)
 |put (x:E) (o:Nat) (v:E) (g:Bool)
 |rep (n z:E)
 |conv (k:IntKind) (e:E)
 |bin (op:BinOp) (a b:E)
 |sbin (op:BinOp) (a b:E)
 |bbin (op:BinOp) (a b:E)
 |aeq (a b:E)
 |not (a:E)
 |neg (a:E)
 |ite (c a b:E)
 |bytes (a:E)
 |text (a:E)
inductive EL where
 |nil
 |cons (e:E) (es:EL)
end
mutual
def E.den(ρ:List AV):E->AV
 | .var i=>(ρ[i]?).getD .undef
 | .int k n=> .int k n
 | .bool b=> .bool b
 | .str s=> .str s.data.toList
 | .dd=> .dd
 | .lst es=> .sl (es.den ρ)
 | .mk es=> .agg (es.den ρ)
 | .tup es=> .tup (es.den ρ)
 | .ref e=> .ref (e.den ρ)
 | .fn f es=> .fn f (es.den ρ)
 | .fld e o n g=>(e.den ρ).fld o n g
 | .proj e i=>(e.den ρ).proj i
 | .deref e=>(e.den ρ).deref
 | .len e=>(e.den ρ).len
 | .slen e=>(e.den ρ).slen
 | .idx e i=>(e.den ρ).idx (i.den ρ)
 | .sidx e i=>(e.den ρ).sidx (i.den ρ)
 | .win e lo hi=>(e.den ρ).win (lo.den ρ) (hi.den ρ)
 | .swin e lo hi=>(e.den ρ).swin (lo.den ρ) (hi.den ρ)
 | .app a b=>(a.den ρ).app (b.den ρ)
 | .set x i v=>(x.den ρ).cr (i.den ρ) (v.den ρ)
 | .put x o v g=>(x.den ρ).cx o (v.den ρ) g
 | .rep n z=>AV.rep (n.den ρ) (z.den ρ)
 | .conv k e=>(e.den ρ).conv k
 | .bin op a b=>AV.bin op (a.den ρ) (b.den ρ)
 | .sbin op a b=>AV.sbin op (a.den ρ) (b.den ρ)
 | .bbin op a b=>AV.bbin op (a.den ρ) (b.den ρ)
 | .aeq a b=>AV.aeq (a.den ρ) (b.den ρ)
 | .not a=>(a.den ρ).dz
 | .neg a=>(a.den ρ).gz
 | .ite c a b=>AV.cond (c.den ρ) (a.den ρ) (b.den ρ)
 | .bytes a=>(a.den ρ).bytes
 | .text a=>(a.den ρ).text
def EL.den(ρ:List AV):EL->List AV
 | .nil=> []
 | .cons e es=>e.den ρ::es.den ρ
end
mutual
def E.beq:E->E->Bool
 | .var i, .var j=>i==j
 | .int k n, .int k' n'=>k==k'&&n==n'
 | .bool b, .bool b'=>b==b'
 | .str s, .str s'=>s.data.toList==s'.data.toList
 | .dd, .dd=>true
 | .lst a, .lst b=>a.beq b
 | .mk a, .mk b=>a.beq b
 | .tup a, .tup b=>a.beq b
 | .ref a, .ref b=>a.beq b
 | .fn f a, .fn g b=>f==g&&a.beq b
 | .fld a o n g, .fld b o' n' g'=>o==o'&&n==n'&&g==g'&&a.beq b
 | .proj a i, .proj b j=>i==j&&a.beq b
 | .deref a, .deref b=>a.beq b
 | .len a, .len b=>a.beq b
 | .slen a, .slen b=>a.beq b
 | .idx a i, .idx b j=>a.beq b&&i.beq j
 | .sidx a i, .sidx b j=>a.beq b&&i.beq j
 | .win a i j, .win b k l=>a.beq b&&i.beq k&&j.beq l
 | .swin a i j, .swin b k l=>a.beq b&&i.beq k&&j.beq l
 | .app a b, .app c d=>a.beq c&&b.beq d
 | .set a b c, .set d e f=>a.beq d&&b.beq e&&c.beq f
 | .put a o b g, .put c o' d g'=>o==o'&&g==g'&&a.beq c&&b.beq d
 | .rep a b, .rep c d=>a.beq c&&b.beq d
 | .conv k a, .conv k' b=>k==k'&&a.beq b
 | .bin o a b, .bin o' c d=>o==o'&&a.beq c&&b.beq d
 | .sbin o a b, .sbin o' c d=>o==o'&&a.beq c&&b.beq d
 | .bbin o a b, .bbin o' c d=>o==o'&&a.beq c&&b.beq d
 | .aeq a b, .aeq c d=>a.beq c&&b.beq d
 | .not a, .not b=>a.beq b
 | .neg a, .neg b=>a.beq b
 | .ite a b c, .ite d e f=>a.beq d&&b.beq e&&c.beq f
 | .bytes a, .bytes b=>a.beq b
 | .text a, .text b=>a.beq b
 |_,_=>false
def EL.beq:EL->EL->Bool
 | .nil, .nil=>true
 | .cons e es, .cons f fs=>e.beq f&&es.beq fs
 |_,_=>false
end
mutual
theorem E.aj(ρ:List AV):∀(a b:E),a.beq b=true->a.den ρ=b.den ρ
 |a,b,h=>by
  cases a<;>cases b<;>simp only[E.beq,Ae,Ax,reduceCtorEq]at h<;>simp only[E.den]
  case var=>rw[h]
  case int=>rw[h.1,h.2]
  case bool=>rw[h]
  case str=>rw[h]
  case lst=>rw[EL.aj ρ _ _ h]
  case mk=>rw[EL.aj ρ _ _ h]
  case tup=>rw[EL.aj ρ _ _ h]
  case ref=>rw[E.aj ρ _ _ h]
  case fn=>rw[EL.aj ρ _ _ h.2,h.1]
  case fld=>rw[E.aj ρ _ _ h.2,h.1.1.1,h.1.1.2,h.1.2]
  case proj=>rw[E.aj ρ _ _ h.2,h.1]
  case deref=>rw[E.aj ρ _ _ h]
  case len=>rw[E.aj ρ _ _ h]
  case slen=>rw[E.aj ρ _ _ h]
  case idx=>rw[E.aj ρ _ _ h.1,E.aj ρ _ _ h.2]
  case sidx=>rw[E.aj ρ _ _ h.1,E.aj ρ _ _ h.2]
  case win=>rw[E.aj ρ _ _ h.1.1,E.aj ρ _ _ h.1.2,E.aj ρ _ _ h.2]
  case swin=>rw[E.aj ρ _ _ h.1.1,E.aj ρ _ _ h.1.2,E.aj ρ _ _ h.2]
  case app=>rw[E.aj ρ _ _ h.1,E.aj ρ _ _ h.2]
  case set=>rw[E.aj ρ _ _ h.1.1,E.aj ρ _ _ h.1.2,E.aj ρ _ _ h.2]
  case put=>rw[E.aj ρ _ _ h.1.2,E.aj ρ _ _ h.2,h.1.1.1,h.1.1.2]
  case rep=>rw[E.aj ρ _ _ h.1,E.aj ρ _ _ h.2]
  case conv=>rw[E.aj ρ _ _ h.2,h.1]
  case bin=>rw[E.aj ρ _ _ h.1.2,E.aj ρ _ _ h.2,h.1.1]
  case sbin=>rw[E.aj ρ _ _ h.1.2,E.aj ρ _ _ h.2,h.1.1]
  case bbin=>rw[E.aj ρ _ _ h.1.2,E.aj ρ _ _ h.2,h.1.1]
  case aeq=>rw[E.aj ρ _ _ h.1,E.aj ρ _ _ h.2]
  case not=>rw[E.aj ρ _ _ h]
  case neg=>rw[E.aj ρ _ _ h]
  case ite=>rw[E.aj ρ _ _ h.1.1,E.aj ρ _ _ h.1.2,E.aj ρ _ _ h.2]
  case bytes=>rw[E.aj ρ _ _ h]
  case text=>rw[E.aj ρ _ _ h]
theorem EL.aj(ρ:List AV):∀(a b:EL),a.beq b=true->a.den ρ=b.den ρ
 | .nil, .nil,_=>rfl
 | .cons a as_, .cons b bs,h=>by simp only[EL.beq,Ae]at h;simp only[EL.den];rw[E.aj ρ _ _ h.1,EL.aj ρ _ _ h.2]
 | .nil, .cons ..,h=>by simp[EL.beq]at h
 | .cons .., .nil,h=>by simp[EL.beq]at h
end
mutual
def E.sc(n:Nat):E->Bool
 | .var i=>decide (i<n)
 | .int .. | .bool _| .str _| .dd=>true
 | .lst es| .mk es| .tup es| .fn _ es=>es.sc n
 | .ref e| .fld e _ _ _| .proj e _| .deref e| .len e| .slen e| .conv _ e| .not e| .neg e| .bytes e| .text e=>e.sc n
 | .idx a b| .sidx a b| .app a b| .put a _ b _| .rep a b| .bin _ a b| .sbin _ a b| .bbin _ a b| .aeq a b=>a.sc n&&b.sc n
 | .win a b c| .swin a b c| .set a b c| .ite a b c=>a.sc n&&b.sc n&&c.sc n
def EL.sc(n:Nat):EL->Bool
 | .nil=>true
 | .cons e es=>e.sc n&&es.sc n
end
mutual
theorem E.ao(ρ τ τ':List AV):∀(a:E),a.sc ρ.length=true->a.den (ρ++τ)=a.den (ρ++τ')
 |a,h=>by
  cases a<;>simp only[E.sc,Ae,AN]at h<;>simp only[E.den]
  case var=>rw[List.getElem?_append_left h,List.getElem?_append_left h]
  case lst=>rw[EL.ao ρ τ τ' _ h]
  case mk=>rw[EL.ao ρ τ τ' _ h]
  case tup=>rw[EL.ao ρ τ τ' _ h]
  case ref=>rw[E.ao ρ τ τ' _ h]
  case fn=>rw[EL.ao ρ τ τ' _ h]
  case fld=>rw[E.ao ρ τ τ' _ h]
  case proj=>rw[E.ao ρ τ τ' _ h]
  case deref=>rw[E.ao ρ τ τ' _ h]
  case len=>rw[E.ao ρ τ τ' _ h]
  case slen=>rw[E.ao ρ τ τ' _ h]
  case idx=>rw[E.ao ρ τ τ' _ h.1,E.ao ρ τ τ' _ h.2]
  case sidx=>rw[E.ao ρ τ τ' _ h.1,E.ao ρ τ τ' _ h.2]
  case win=>rw[E.ao ρ τ τ' _ h.1.1,E.ao ρ τ τ' _ h.1.2,E.ao ρ τ τ' _ h.2]
  case swin=>rw[E.ao ρ τ τ' _ h.1.1,E.ao ρ τ τ' _ h.1.2,E.ao ρ τ τ' _ h.2]
  case app=>rw[E.ao ρ τ τ' _ h.1,E.ao ρ τ τ' _ h.2]
  case set=>rw[E.ao ρ τ τ' _ h.1.1,E.ao ρ τ τ' _ h.1.2,E.ao ρ τ τ' _ h.2]
  case put=>rw[E.ao ρ τ τ' _ h.1,E.ao ρ τ τ' _ h.2]
  case rep=>rw[E.ao ρ τ τ' _ h.1,E.ao ρ τ τ' _ h.2]
  case conv=>rw[E.ao ρ τ τ' _ h]
  case bin=>rw[E.ao ρ τ τ' _ h.1,E.ao ρ τ τ' _ h.2]
  case sbin=>rw[E.ao ρ τ τ' _ h.1,E.ao ρ τ τ' _ h.2]
  case bbin=>rw[E.ao ρ τ τ' _ h.1,E.ao ρ τ τ' _ h.2]
  case aeq=>rw[E.ao ρ τ τ' _ h.1,E.ao ρ τ τ' _ h.2]
  case not=>rw[E.ao ρ τ τ' _ h]
  case neg=>rw[E.ao ρ τ τ' _ h]
  case ite=>rw[E.ao ρ τ τ' _ h.1.1,E.ao ρ τ τ' _ h.1.2,E.ao ρ τ τ' _ h.2]
  case bytes=>rw[E.ao ρ τ τ' _ h]
  case text=>rw[E.ao ρ τ τ' _ h]
theorem EL.ao(ρ τ τ':List AV):∀(a:EL),a.sc ρ.length=true->a.den (ρ++τ)=a.den (ρ++τ')
 | .nil,_=>rfl
 | .cons a as_,h=>by simp only[EL.sc,Ae]at h;simp only[EL.den];rw[E.ao ρ τ τ' _ h.1,EL.ao ρ τ τ' _ h.2]
end
end
section
def sF(_:Nat):Bool:=false
end
section
open Go.RowKit
abbrev Gd:=List (E × Bool)
mutual
inductive DT where
 |flat
 |row (ety sz:Nat) (l:AG)
inductive AG where
 |nil
 |cons (d:DT) (l:AG)
end
def AG.toList:AG->List DT
 | .nil=> []
 | .cons s l=>s::l.toList
def AG.of:List DT->AG
 | []=> .nil
 |s::l=> .cons s (AG.of l)
mutual
def DT.beq:DT->DT->Bool
 | .flat, .flat=>true
 | .row e z l, .row e' z' l'=>e==e'&&z==z'&&l.beq l'
 |_,_=>false
def AG.beq:AG->AG->Bool
 | .nil, .nil=>true
 | .cons a as_, .cons b bs=>a.beq b&&as_.beq bs
 |_,_=>false
end
def DT.bj:DT->Bool
 | .flat=>true
 |_=>false
abbrev L8:=Option (E × Nat × Nat)
mutual
inductive SV where
 |undef
 |e (x:E)
 |bq
 |emp
 |own (t g:Nat)
 |ca (t o:Nat)
 |cd (t g:Nat) (i:E) (sz o:Nat)
 |cz (x i:E) (sz o:Nat)
 |c7 (x:E) (o:Nat)
 |agg (cs:Bp)
 |tup (vs:Bp)
 |fn (f:Nat) (cs:Bp)
 |gd (gs:Gd) (s:SV)
 |via (t g n:Nat) (p:L8) (x:E)
 |vptr (t g n:Nat) (p:L8) (x i:E) (sz o:Nat)
 |wown (t g:Nat) (lo:E) (sz:Nat)
 |lent (i:Nat)
inductive Bp where
 |nil
 |cons (s:SV) (l:Bp)
end
def Bp.toList:Bp->List SV
 | .nil=> []
 | .cons s l=>s::l.toList
def Bp.of:List SV->Bp
 | []=> .nil
 |s::l=> .cons s (Bp.of l)
def EL.of:List E->EL
 | []=> .nil
 |s::l=> .cons s (EL.of l)
inductive Ah where
 |box (ty:Nat) (g:Bool) (cs:List SV)
 |row (ety sz g:Nat) (x:E) (deep:Bool)
 |bh (g:Nat) (x:E)
 |gd (gs:Gd) (e:Ah)
 |dead
 |deep (ety sz:Nat) (l:List DT) (g ep:Nat) (x:E)
 |hol (ety sz:Nat) (l:List DT) (g ep:Nat) (x i:E) (o u:Nat)
 |pre (ety sz:Nat) (l:List DT) (g ep:Nat) (x k:E)
inductive Cn where
 |dfd (x:E)
 |agg (x:E) (n:Nat)
 |cells (x:E) (n:Nat)
 |inb (i x:E) (sz:Nat)
 |inbS (i x:E)
 |win (x lo hi:E)
 |winS (x lo hi:E)
 |room (x y:E) (bytes:Nat)
 |roomS (x y:E)
 |mkroom (n:E) (bytes:Nat)
 |nz (x:E)
 |nn (x:E)
 |isref (x:E) (n:Nat)
 |issl (x:E) (sz:Nat)
 |flat (x:E) (n:Nat) (g:Bool)
 |flatS (x:E) (sz:Nat)
 |kinds (x:E) (ks:List SK)
inductive PM where
 |ro
 |bx (own own':List Bool)
 |va (own:List Bool)
 |mu (own:List Bool)
structure FF where
 cf:List PM
 res:List Bool
 ft:List TypeId:=[]
 dp:Bool:=false
 wn:Bool:=false
 fz:Bool:=false
 lo:List Bool:=[]
 sh:Bool:=false
 pv:Bool:=false
structure BR where
 f:Nat->Option FF
 dp:Bool:=false
 wn:Bool:=false
 fz:Bool:=false
instance:CoeFun BR (λ_=>Nat->Option FF):=⟨BR.f⟩
structure zzv where
 fn:Nat ⊕ E
 args:List E
structure A2 where
 bg:List Cn:=[]
 call:Option zzv:=none
 br:Option E:=none
 val:SV:= .undef
 a6:List (Nat × Ah):=[]
def LU(t:Nat):Bool:=decide (t<100000)&&(t % 1000==0||decide (500<=t % 1000))
structure St where
 sl:List SV
 hp:List (Nat × Ah)
 nx:Nat
 nv:Nat
section
variable (P:Program)
def NX(t:Nat):Nat:=t+2000000000
def N4(t:Nat):Option Nat:=if 2000000000<=t then some (t-2000000000)else none
theorem zyA{t k:Nat}(h:N4 t=some k):NX k=t:=by simp only[N4,Option.ite_none_right_eq_some,Af]at h;unfold NX;omega
def zzJ(t:TypeId):Bool:=match P.underlying t with|some (.struct _)=>true|some (.array _ _)=>true|_=>false
def An(t:TypeId):Bool:=match P.underlying t with
 |some (.struct _)=>true
 |some (.array _ _)=>true
 |some _=>false
 |none=>match N4 t with|some k=>zzJ P k|none=>false
def GB(t:TypeId):Bool:=match P.info? t with
 |some i=>(match i.zero with|some z=>z.cells.size==i.size&&i.size !=0|none=>false)
 |none=>false
def C2(t:TypeId):Bool:=(P.info? t).isSome&&(P.underlying t).isSome
def KD:Nat->TypeId->List TypeId
 |0,t=> [t]
 |n+1,t=>match P.underlying t with
  |some (.struct fs)=>fs.toList.flatMap λf=>KD n f.type
  |some (.array k e)=>(List.replicate k (KD n e)).flatten
  |_=> [t]
def A5(t:TypeId):List TypeId:=match P.underlying t with
 |some _=>KD P 6 t
 |none=>match N4 t with|some k=>(KD P 6 k).map NX|none=>KD P 6 t
def B1(t:TypeId):Bool:=(A5 P t).all λu=>match P.underlying u with|some (.int _)=>true|some .bool=>true|some .string=>true|_=>false
def GD(t:TypeId):Option TypeId:=match P.underlying t with|some (.slice e)=>some e|_=>none
def Da(t:TypeId):Option TypeId:=match P.underlying t with
 |some (.slice e)=>some e
 |some _=>none
 |none=>match N4 t with|some k=>GD P k|none=>none
def SO:Nat->TypeId->Option DT
 |0,_=>none
 |n+1,t=>match P.underlying t with
  |some (.int _)=>some .flat
  |some .bool=>some .flat
  |some .string=>some .flat
  |some (.slice e)=>if P.cellsOf e=0\/(A5 P e).length≠P.cellsOf e then none else((A5 P e).mapM (SO n)).map λl=> .row e (P.cellsOf e) (AG.of l)
  |_=>none
def DF(t:TypeId):Option DT:=if sF t then none else SO P 8 t
end
def ED:Value->Option SV
 | .int k n=>if k.wrap n=n then some (.e (.int k n))else none
 | .bool b=>some (.e (.bool b))
 | .string s=>if s.size<=9223372036854775807 then some (.e (.str s))else none
 | .slice none 0 0=>some .bq
 | .pointer none=>some (.e .dd)
 | .agg cs=>go cs.toList>>=λl=>some (.agg (Bp.of l))
 |_=>none
where
 go:List Value->Option (List SV)
 | []=>some []
 | .int k n::l=>if k.wrap n=n then(go l).map (.e (.int k n):: ·)else none
 | .bool b::l=>(go l).map (.e (.bool b):: ·)
 | .string s::l=>if s.size<=9223372036854775807 then(go l).map (.e (.str s):: ·)else none
 | .slice none 0 0::l=>(go l).map (.bq:: ·)
 | .pointer none::l=>(go l).map (.e .dd:: ·)
 |_=>none
def NC(g:E × Bool)(gs:Gd):Bool:=gs.any λh=>h.1.beq g.1&&h.2==g.2
def KT(hs gs:Gd):Bool:=hs.all λh=>NC h gs
def ungd(gs:Gd):SV->Option SV
 | .gd hs s=>if KT hs gs then some s else none
 | .undef=>none
 |s=>some s
def JI(gs:Gd):Ah->Option Ah
 | .gd hs e=>if KT hs gs then some e else none
 |e=>some e
def mkGd(gs:Gd)(s:SV):SV:=match gs with| []=>s|_=> .gd gs s
def CC(gs:Gd)(e:Ah):Ah:=match gs with| []=>e|_=> .gd gs e
section
variable (hp:Nat->Option Ah) (gs:Gd)
def CR(t:Nat):Option Ah:=(hp t).bind (JI gs)
def HE(t g:Nat):Option E:=match CR hp gs t with
 |some (.row _ _ g' x _)=>if g=g' then some x else none
 |some (.bh g' x)=>if g=g' then some x else none
 |some (.deep _ _ _ g' _ x)=>if g=g' then some x else none
 |_=>none
def LX(t n:Nat):Bool:=match CR hp gs t with
 |some (.deep _ _ _ _ ep _)=>n==ep
 |_=>false
mutual
def Bj:Nat->SV->Option E
 |0,_=>none
 |n+1,s=>match s with
  | .undef=>none
  | .e x=>some x
  | .bq=>some (.lst .nil)
  | .emp=>some (.lst .nil)
  | .own t g=>HE hp gs t g
  | .ca t 0=>match CR hp gs t with
   |some (.box _ _ cs)=>(Cm n cs).map λl=> .ref (.mk l)
   |_=>none
  | .ca .. =>none
  | .cd .. =>none
  | .cz .. =>none
  | .c7 x 0=>some x
  | .c7 .. =>none
  | .agg cs=>(Cm n cs.toList).map .mk
  | .tup cs=>(Cm n cs.toList).map .tup
  | .fn f cs=>(Cm n cs.toList).map (.fn f)
  | .gd hs s=>if KT hs gs then Bj n s else none
  | .via t _ m _ x=>if LX hp gs t m then some x else none
  | .vptr .. =>none
  | .wown t g lo z=>match CR hp gs t with
   |some (.row _ z' g' x _)=>if g=g'/\z=z' then some (.win x lo (.len x))else none
   |_=>none
  | .lent _=>none
def Cm:Nat->List SV->Option EL
 |0,_=>none
 |_+1,[]=>some .nil
 |n+1,s::l=>match Bj n s,Cm n l with
  |some x,some xs=>some (.cons x xs)
  |_,_=>none
end
def BN:Nat->List SV->List Nat
 |0,_=> []
 |_+1,[]=> []
 |n+1,s::l=>(match s with
  | .own t _=> [t]
  | .cd t .. => [t]
  | .ca t _=>t::(match CR hp gs t with|some (.box _ _ cs)=>BN n cs|_=> [])
  | .agg cs=>BN n cs.toList
  | .tup cs=>BN n cs.toList
  | .fn _ cs=>BN n cs.toList
  | .gd _ s=>BN n [s]
  | .via t .. => [t]
  | .vptr t .. => [t]
  | .wown t .. => [t]
  |_=> [])++BN n l
end
def AW:Nat:=200
def Dz(hp:Nat->Option Ah)(gs:Gd)(ts:List Nat):Option (List (Nat × Ah)):=
 match ts with
 | []=>some []
 |t::ts=>match CR hp gs t,Dz hp gs ts with
  |some (.row _ _ g x _),some l=>if gs.isEmpty then some ((t, .bh g x)::l)else none
  |some (.deep _ _ _ g _ x),some l=>if gs.isEmpty then some ((t, .bh g x)::l)else none
  |some (.bh ..),some l=>some l
  |some (.box ..),some l=>some l
  |_,_=>none
def LV(hp:Nat->Option Ah)(gs:Gd)(ts:List Nat):Bool:= !ts.any λt=>match CR hp gs t with|some (.box ..)=>true|_=>false
def oN(P:Program)(t:TypeId)(x:E):Cn:=if An P t then .agg x (P.cellsOf t)else .cells x 1
def VD(P:Program)(hp:Nat->Option Ah)(gs:Gd)(t:TypeId)(s:SV):Option (E × List (Nat × Ah) × Bool × List Cn):=
 match Bj hp gs AW s with
 |none=>none
 |some x=>
  if B1 P t then some (x,[],true,[.flat x (P.cellsOf t) (An P t)])else
  if LV hp gs (BN hp gs (AW+1) [s])then
   match Dz hp gs (BN hp gs (AW+1) [s])with
   |none=>none
   |some l=>some (x,l,false,[oN P t x])
  else none
def SI:E->Bool
 | .int .. =>true
 | .bool _=>true
 | .str _=>true
 |_=>false
def bA(hp:Nat->Option Ah)(gs:Gd)(d:DT)(s:SV):Option (List Nat × List Cn):=
 match d,s with
 | .flat, .e x=>some ([],if SI x then []else [.flat x 1 false])
 | .row _ z l, .bq=>if 0<z/\l.toList.length=z then some ([],[])else none
 | .row _ z l, .emp=>if 0<z/\l.toList.length=z then some ([],[])else none
 | .row e z l, .own u g=>(match CR hp gs u with
  |some (.deep e' z' l' g' _ _)=>if g=g'/\e=e'/\z=z'/\(AG.of l').beq l then some ([u],[])else none
  |some (.row e' z' g' _ true)=>if g=g'/\e=e'/\z=z'/\l.toList.all DT.bj/\l.toList.length=z then some ([u],[])else none
  |_=>none)
 |_,_=>none
def LM(hp:Nat->Option Ah)(gs:Gd):List DT->List SV->Option (List Nat × List Cn)
 | [],[]=>some ([],[])
 |d::ds,s::ss=>match bA hp gs d s,LM hp gs ds ss with
  |some (us,ck),some (vs,cks)=>some (us++vs,ck++cks)
  |_,_=>none
 |_,_=>none
def G9:SV->List SV × Bool
 | .agg cs=>(cs.toList,true)
 |s=>([s],false)
def PD(P:Program)(hp:Nat->Option Ah)(gs:Gd)(t:TypeId)(ds:List DT)(s:SV):Option (E × List Nat × List Cn):=
 match Bj hp gs AW s with
 |none=>none
 |some x=>
  if ds.all DT.bj then some (x,[],[.flat x (P.cellsOf t) (An P t)])else
  if(G9 s).2 !=An P t then none else(LM hp gs ds (G9 s).1).map λr=>(x,r.1,r.2)
def RZ(P:Program)(hp:Nat->Option Ah)(gs:Gd)(e:TypeId)(ds:List DT):List SV->Option (List E × List Nat × List Cn)
 | []=>some ([],[],[])
 |s::ss=>match PD P hp gs e ds s,RZ P hp gs e ds ss with
  |some (x,us,ck),some (xs,vs,cks)=>some (x::xs,us++vs,ck++cks)
  |_,_=>none
def KP:List Nat->Bool
 | []=>true
 |x::l=> !l.contains x&&KP l
def D2(l:List Nat):List (Nat × Ah):=l.map λu=>(u,Ah.dead)
def Sr(hp:Nat->Option Ah)(gs:Gd)(e z:Nat)(l:List DT)(s:SV):Option (List Nat):=
 match s with
 | .bq=>some []
 | .emp=>some []
 | .own u g=>(match CR hp gs u with
  |some (.deep e' z' l' g' _ _)=>if g=g'/\e=e'/\z=z'/\(AG.of l').beq (AG.of l)then some [u]else none
  |_=>none)
 |_=>none
def Pq(P:Program)(t:TypeId)(s:SV):Option (List SV × List Cn):=
 if An P t then
  match s with
  | .agg cs=>some (cs.toList,[])
  | .e x=>some ((List.range (P.cellsOf t)).map λj=> .e (.fld x j 1 false),[.agg x (P.cellsOf t)])
  |_=>none
 else match s with
  | .e x=>some ([s],match x with| .int .. => []| .bool _=> []| .str _=> []| .dd=> []|x=> [.cells x 1])
  | .agg _=>none
  | .tup _=>none
  | .undef=>none
  | .gd .. =>none
  | .via .. =>none
  | .vptr .. =>none
  | .wown .. =>none
  | .lent _=>none
  |s=>some ([s],[])
def Nx(P:Program)(t:TypeId)(cs:List SV)(o:Nat):Option SV:=
 if An P t then(if o+P.cellsOf t<=cs.length then some (.agg (Bp.of ((cs.drop o).take (P.cellsOf t))))else none)else cs[o]?
def PL(cs:List SV)(o:Nat)(vs:List SV):List SV:=cs.take o++vs++cs.drop (o+vs.length)
def Ck:E->Option IntKind
 | .int k _=>some k
 | .len _=>some .i64
 | .slen _=>some .i64
 | .conv k _=>some k
 | .bin .add a _=>Ck a
 | .bin .sub a _=>Ck a
 | .bin .mul a _=>Ck a
 |_=>none
def Pc:E->Bool
 | .bin op a b=>match op with
  | .add| .sub| .mul| .eql| .neq| .lss| .leq| .gtr| .geq=> !((Ck a).isSome&&Ck a==Ck b)
  |_=>true
 |_=>true
def Bn(sl:Nat->SV)(gs:Gd):Operand->Option SV
 | .tmp t=>ungd gs (sl t)
 | .const v=>ED v
 | .func f=>some (.fn f .nil)
 | .global _=>none
def JO(P:Program)(t:TypeId):Option TypeId:=if 1000000000<=t then some (t-1000000000)else match P.underlying t with|some (.pointer e)=>some e|_=>none
def Cy(P:Program)(t:TypeId):Bool:= !B1 P t
def Ew(fn:Func)(s:FF):List TypeId:=if s.pv then fn.params.toList.map NX else fn.params.toList
theorem Pe(fn:Func)(s:FF):(Ew fn s).length=fn.params.size:=by unfold Ew;split<;>simp
def DE(fn:Func)(s:FF):List TypeId:=if s.sh then fn.resultTypes.toList.map NX else fn.resultTypes.toList
def Ps(P:Program)(t e:TypeId)(g ep:Nat)(x:E):Ah:=if B1 P e then .row e (P.cellsOf e) g x true else match DF P t with
 |some (.row e' z l)=> .deep e' z l.toList g ep x
 |_=> .row e (P.cellsOf e) g x false
def CI(P:Program)(nx:Nat)(mk:Nat->E):Nat->List TypeId->List Bool->List SV × List (Nat × Ah)
 |_,[],_=>([],[])
 |j,t::ts,fl=>
  let q:=CI P nx mk (j+1) ts fl.tail
  match fl.headD false,Da P t with
  |true,some e=>(.own (nx+j) 0::q.1,(nx+j,Ps P t e 0 0 (mk j))::q.2)
  |_,_=>(.e (mk j)::q.1,q.2)
def HM(P:Program)(t:TypeId)(fl:List Bool):Bool:=(fl.take (A5 P t).length).any id
def Dt(x:E)(g:Bool)(j:Nat):E:=if g then .fld x j 1 false else x
def Nb(P:Program)(nx:Nat)(t:TypeId)(fl:List Bool)(x:E):SV × List (Nat × Ah):=
 if HM P t fl then
  let l:=CI P nx (Dt x (An P t)) 0 (A5 P t) fl
  (if An P t then .agg (Bp.of l.1)else l.1.headD .undef,l.2)
 else(.e x,[])
def LA(P:Program)(nx:Nat):List TypeId->List Bool->E->Nat->List SV × List (Nat × Ah)
 | [],_,_,_=>([],[])
 |t::ts,fl,x,i=>
  let p:=Nb P nx t fl (.proj x i);let q:=LA P (nx+(A5 P t).length) ts (fl.drop (A5 P t).length) x (i+1)
  (p.1::q.1,p.2++q.2)
def VK(P:Program)(t:TypeId):Bool:=match Da P t with|some e=>B1 P e||(DF P t).isSome|none=>false
def Ep(P:Program):List TypeId->List Bool->Bool
 | [],_=>false
 |t::ts,fl=>(!(fl.headD false&&VK P t)&&Cy P t)||Ep P ts fl.tail
def bI(P:Program)(t:TypeId)(fl:List Bool):Bool:=if HM P t fl then Ep P (A5 P t) fl else Cy P t
def Dc(P:Program):List TypeId->List Bool->Bool
 | [],_=>false
 |t::ts,fl=>bI P t fl||Dc P ts (fl.drop (A5 P t).length)
end
section
open Go.ChangeShapes Go.WideShapes Go.ChangeAt Go.RowKit
def GM(P:Program)(t:TypeId)(Q:List AV->Prop):Prop:=
 0<P.cellsOf t/\ ∀(H:Type) (enc:TypeId × Value->H) (w:World) (spare:Nat->Bool) (held:Bool) (fuel:Nat) (cs:List Value) (x:DataW H × List MemPlace),
  DataW.trod enc P w 0 spare held fuel t cs=some x->cs.length=P.cellsOf t/\(∀u∈cs,u.oneCell'=true)/\ ∃xs f,Rd w cs xs f/\Q xs
theorem GM.mono{P:Program}{t:TypeId}{Q R:List AV->Prop}(h:GM P t Q)(hq:∀xs,Q xs->R xs):GM P t R:=
 ⟨h.1,λH enc w s hd fuel cs x hx=>by obtain⟨a,b,xs,f,c,d⟩:=h.2 H enc w s hd fuel cs x hx;exact⟨a,b,xs,f,c,hq _ d⟩⟩
theorem zxq{P:Program}{t:TypeId}{k:IntKind}(ht:P.underlying t=some (.int k))(hc:P.cellsOf t=1):GM P t λxs=> ∃n,EV k n/\xs=[.int k n]:=by
 refine⟨by omega,λH enc w spare held fuel cs x h=> ?_⟩;obtain⟨n,rfl,_,hw⟩:=DataW.trod_int ht h;have hk:EV k n:=by simp only[Lit.wf,Ae,AN]at hw;obtain⟨h1,h2⟩:=hw;unfold EV IntKind.wrap;cases k<;>simp[IntKind.min,IntKind.max,IntKind.bits,IntKind.signed]at h1 h2 ⊢ <;>(try split)<;>omega
 exact⟨by simp[hc],by simp[Value.oneCell'],[.int k n],[], .int hk .nil,n,hk,rfl⟩
def Jk(ag:Bool)(Q:List AV->Prop)(y:AV):Prop:=if ag then∃zs,y= .agg zs/\Q zs else y.cells=[y]/\Q [y]
theorem zyJ{ag:Bool}{Q:List AV->Prop}{xs:List AV}(hq:Q xs)(h:ag=true\/(xs.length=1/\ ∀y∈xs,y.cells=[y])):∃y,Jk ag Q y/\y.cells=xs:=by
 cases ag with
 |true=>exact⟨.agg xs,by simpa[Jk]using hq,rfl⟩
 |false=>
  obtain⟨hl,hy⟩:=h.resolve_left (by simp)
  match xs,hl with
  | [y],_=>exact⟨y,by simpa[Jk]using⟨hy y (by simp),hq⟩,hy y (by simp)⟩
theorem zM{w:World}{v:Value}{x:AV}{f:List Nat}(h:Rd w [v] [x] f)(hv:v.oneCell'=true):x.cells=[x]:=by cases x<;>first|rfl|(cases h;simp[Value.oneCell']at hv)
theorem zxj{w:World}{b o sz:Nat}{C:Array Value}{T:TypeId}{fz}(hC:w.heap[b]?=some (.cells C T fz))(ag:Bool)(Q:List AV->Prop):
  ∀(n i:Nat),(∀k,k<n-> ∃cs y f,Rd w cs y.cells f/\Jk ag Q y/\cs.length=sz/\(∀u∈cs,u.oneCell'=true)/\ ∀j v,cs[j]?=some v->w.cell? ⟨b,o+(i+k)*sz+j,none⟩=some v)->
   ∃cs ys f,ys.length=n/\Rd w cs (AA ys) f/\(∀y∈ys,Jk ag Q y/\y.cells.length=sz)/\(∀u∈cs,u.oneCell'=true)/\ ∀j v,cs[j]?=some v->C[o+i*sz+j]?=some v:=by
 intro n
 induction n with
 |zero=>exact λi _=>⟨[],[],[],rfl, .nil,by simp,by simp,by simp⟩
 |succ n ih=>
  intro i h;obtain⟨cs,y,f,h1,h2,h3,h4,h5⟩:=h 0 (by omega);obtain⟨cs',ys,f',g1,g2,g3,g4,g5⟩:=ih (i+1) λk hk=>by have:=h (k+1) (by omega);rw[show i+(k+1)=i+1+k by omega]at this;exact this
  refine⟨cs++cs',y::ys,f++f',by simp[g1],?_,?_,?_,?_⟩
  ·have e:AA (y::ys)=y.cells++AA ys:=by simp[AA]
   rw[e];exact h1.app g2
  ·intro z hz;rcases Ad.1 hz with rfl|hz
   ·exact⟨h2,by rw[<-h1.len,h3]⟩
   ·exact g3 z hz
  ·intro u hu;rcases Ag.1 hu with hu|hu
   ·exact h4 u hu
   ·exact g4 u hu
  ·intro j v hj;rcases Nat.lt_or_ge j cs.length with hl|hl
   ·rw[List.getElem?_append_left hl]at hj;have:=h5 j v hj;unfold World.cell? at this;rw[hC]at this;simpa using this
   ·rw[List.getElem?_append_right hl]at hj;have:=g5 _ v hj;rw[h3]at this hl;rw[show o+i*sz+j=o+(i+1)*sz+(j-sz) by rw[Nat.add_mul];omega];exact this
theorem ztS{P:Program}{t e:TypeId}{Q:List AV->Prop}(ag:Bool)(ht:P.underlying t=some (.slice e))(hc:P.cellsOf t=1)(he:GM P e Q)(ha:ag=true\/P.cellsOf e=1):
  GM P t λxs=> ∃ys,ys.length<=9223372036854775807/\(∀y∈ys,Jk ag Q y)/\xs=[.sl ys]:=by
 refine⟨by omega,λH enc w spare held fuel cs x h=> ?_⟩;have emp:∀a c,([Value.slice a 0 c]).length=P.cellsOf t/\(∀u∈ [Value.slice a 0 c],u.oneCell'=true)/\ ∃xs f,Rd w [.slice a 0 c] xs f/\ ∃ys,ys.length<=9223372036854775807/\(∀y∈ys,Jk ag Q y)/\xs=[.sl ys]:=
  λa c=>⟨by simp[hc],by simp[Value.oneCell'],[.sl []],[], .di .nil,[],by simp,by simp,rfl⟩
 rcases DataW.trod_slice ht h with⟨rfl,_⟩|⟨a,len,cap,elems,rest,n,_,rfl,_,_,hl,hm,hlen,Ba,_,_⟩
 ·exact emp none 0
 rcases Nat.eq_zero_or_pos len with h0|h0
 ·subst h0;exact emp (some a) cap
 have V4:=he.1;have Kd:a.spot=none:=by have hi:=Ba 0 h0;rw[Bl (by rw[hlen];exact h0),Nat.zero_mul,jB]at hi;obtain⟨c1,h1,h2⟩:=As.1 hi;obtain⟨_,AF,B2⟩:=World.cells?_some h1;have h3:=B2 0 V4;rw[Bl (by rw[AF];exact V4),jB]at h3;exact World.cell?_spot h3
 obtain⟨b,o,s⟩:=a;dsimp only at Kd;subst Kd;have key:∀i,i<len-> ∃cs y f,Rd w cs y.cells f/\Jk ag Q y/\cs.length=P.cellsOf e/\(∀u∈cs,u.oneCell'=true)/\ ∀j v,cs[j]?=some v->w.cell? ⟨b,o+(0+i)*P.cellsOf e+j,none⟩=some v:=by
  intro i AI;have hi:=Ba i AI;rw[Bl (by rw[hlen];exact AI),kZ]at hi;obtain⟨c1,h1,h2⟩:=As.1 hi;obtain⟨BG,Tb,xs,f,hr,hq⟩:=he.2 _ _ _ _ _ _ _ _ h2;obtain⟨_,AF,B2⟩:=World.cells?_some h1;have CA:ag=true\/(xs.length=1/\ ∀y∈xs,y.cells=[y]):=by
   rcases ha with ha|ha
   ·exact .inl ha
   ·have NU:xs.length=1:=by rw[<-hr.len,BG,ha]
    refine .inr ⟨NU,λy hy=> ?_⟩;have Wm:c1.length=1:=by rw[BG,ha]
    match xs,c1,NU,Wm with
    | [z],[v],_,_=>obtain rfl:=List.mem_singleton.1 hy;exact zM hr (Tb v (by simp))
  obtain⟨y,hy,rfl⟩:=zyJ hq CA;refine⟨c1,y,f,hr,hy,BG,Tb,λj v hj=> ?_⟩;have WS:j<P.cellsOf e:=by
   rw[<-AF];rcases Nat.lt_or_ge j c1.length with h|h
   ·exact h
   ·rw[List.getElem?_eq_none h]at hj;cases hj
  have h3:=B2 j WS;rw[hj,kZ]at h3;rw[Nat.zero_add];exact h3
 obtain⟨C,T,fz,hC⟩:∃C T fz,w.heap[b]?=some (.cells C T fz):=by
  obtain⟨cs,y,f,_,_,J7,_,AF⟩:=key 0 h0;have h3:=AF 0 _ (Bl (by omega));unfold World.cell? at h3;split at h3
  ·next c t fz hh=>exact⟨c,t,fz,hh⟩
  ·cases h3
 obtain⟨cs,ys,f,g1,g2,g3,g4,g5⟩:=zxj hC ag Q len 0 key;have Qy:len<=9223372036854775807:=by have:maxLen=9223372036854775807:=(by decide+kernel);omega
 refine⟨by simp[hc],by simp[Value.oneCell'],[.sl ys],b::(f++ []), .en hC h0 ⟨Qy,hl⟩ g1 (λy hy=>(g3 y hy).2) V4 (λj v hj=>by simpa using g5 j v hj) g4 g2 .nil,ys,by omega,λy hy=>(g3 y hy).1,rfl⟩
inductive bP(P:Program):List Field->List (List AV->Prop)->Prop where
 |nil:bP P [] []
 |cons {f fs Q Qs}:GM P f.type Q->bP P fs Qs->bP P (f::fs) (Q::Qs)
end
section
open Go.RowKit
inductive Xt where
 |normal
 |exit (id:Nat)
 |ret
inductive Tr where
 |leaf (x:Xt) (σ:St)
 |ret (r:E)
 |jmp (d:Nat) (es:EL)
 |ite (c:E) (a b:Tr)
 |bg (gs:Gd) (c:Cn) (k:Tr)
 |call (gs:Gd) (f:Nat ⊕ E) (args:EL) (k:Tr)
 |br (gs:Gd) (x:E) (k:Tr)
 |stuck
 |join (t k:Tr)
 |loop (init:EL) (body k:Tr)
section
variable (P:Program) (sg:BR)
def nO(t:TypeId):Option SV:=((P.info? t).bind (·.zero)).bind ED
inductive RI where
 |fl (u v e z:Nat) (d:Bool)
 |dp (u v:Nat) (e z:Nat) (l:List DT) (ep:Nat)
def RI.tag:RI->Nat
 | .fl u .. =>u
 | .dp u .. =>u
def Nq:Option DT->Nat->Nat->List DT->Bool
 |some (.row e z l),e',z',l'=>e==e'&&z==z'&&(AG.of l').beq l
 |_,_,_,_=>false
def ZS(hp:Nat->Option Ah)(gs:Gd)(t:TypeId)(c:SV):Option (Option RI):=
 match Da P t with
 |none=>none
 |some el=>if P.cellsOf el=0 then none else match c with
  | .bq=>some none
  | .emp=>some none
  | .own u v=>(match CR hp gs u with
   |some (.row e z v' _ d)=>if v=v'/\e=el/\z=P.cellsOf el/\(B1 P el/\d\/B1 P el=false/\(DF P t).isNone)then some (some (.fl u v e z (B1 P el)))else none
   |some (.deep e z l v' ep _)=>if v=v'/\B1 P el=false/\Nq (DF P t) e z l then some (some (.dp u v e z l ep))else none
   |_=>none)
  |_=>none
def GA(hp:Nat->Option Ah)(gs:Gd):List TypeId->List SV->List Bool->Option (List (Option RI) × List Nat)
 | [],[],_=>some ([],[])
 |t::ts,c::cs,fl=>match GA hp gs ts cs fl.tail with
  |none=>none
  |some (l,us)=>if fl.headD false then(match ZS P hp gs t c with|some r=>some (r::l,us)|none=>none)else some (none::l,BN hp gs (AW+1) [c]++us)
 |_,_,_=>none
def CB(l:List (Option RI)):List Nat:=l.filterMap λr=>r.map RI.tag
inductive PA where
 |box (t:Nat) (g:Bool) (own':List Bool) (ty:Nat) (olds:List Nat)
 |mu (AS:List (Option RI)) (g:Bool)
 |va (AS:List Nat)
def SA(hp:Nat->Option Ah)(gs:Gd):List TypeId->List PM->List Bool->List SV->Option (List E × List PA × List Nat × List Nat)
 |_,_,_,[]=>some ([],[],[],[])
 |ts,ms,lo,s::ss=>
  match SA hp gs ts.tail ms.tail lo.tail ss with
  |none=>none
  |some (ys,bs,us,uz)=>
  match ms.headD .ro with
  | .ro=>if lo.headD false&& !ts.isEmpty then(match s with
    | .lent i=>some (.var i::ys,bs,us,uz)
    |s=>(Bj hp gs AW s).map λx=>(x::ys,bs,us,BN hp gs (AW+1) [s]++uz))
   else(Bj hp gs AW s).map λx=>(x::ys,bs,BN hp gs (AW+1) [s]++us,uz)
  | .bx own own'=>(match ts.head?.bind (JO P),s,gs with
   |some ty, .ca t 0,[]=>(match CR hp gs t with
    |some (.box ty' g cs)=>if ty'≠ty then none else
     (match Cm hp gs AW cs,GA P hp gs (A5 P ty) cs own with
     |some xs,some (rs,vs)=>some (.ref (.mk xs)::ys, .box t g own' ty (CB rs)::bs,vs++us,uz)
     |_,_=>none)
    |_=>none)
   |_,_,_=>none)
  | .mu own=>(match ts.head?,gs,Bj hp gs AW s with
   |some t,[],some x=>if(G9 s).2 !=An P t then none else(match GA P hp gs (A5 P t) (G9 s).1 own with
    |some (rs,vs)=>some (x::ys, .mu rs (G9 s).2::bs,vs++us,uz)
    |none=>none)
   |_,_,_=>none)
  | .va own=>(match ts.head?,gs,Bj hp gs AW s with
   |some t,[],some x=>if(G9 s).2 !=An P t then none else(match GA P hp gs (A5 P t) (G9 s).1 own with
    |some (rs,vs)=>some (x::ys, .va (CB rs)::bs,vs++us,uz)
    |none=>none)
   |_,_,_=>none)
def Dq:List PA->List Nat
 | []=> []
 | .box t _ _ _ olds::l=>t::olds++Dq l
 | .mu AS _::l=>CB AS++Dq l
 | .va AS::l=>AS++Dq l
def HN:List PA->Nat
 | []=>0
 | .va _::l=>HN l
 |_::l=>HN l+1
def KN(mk:Nat->E):Nat->List (Option RI)->List (Nat × Ah)
 |_,[]=> []
 |j,none::rs=>KN mk (j+1) rs
 |j,some (.fl u v e z d)::rs=>(u, .row e z v (mk j) d)::KN mk (j+1) rs
 |j,some (.dp u v e z l ep)::rs=>(u, .deep e z l v (ep+1) (mk j))::KN mk (j+1) rs
def after(r:Nat):Nat->List PA->Nat->List (Nat × Ah)
 |_,[],_=> []
 |nx, .box t g own' ty olds::bs,j=>
  let l:=CI P nx (Dt (.proj (.var r) (j+1)) true) 0 (A5 P ty) own'
  D2 olds++((t, .box ty g l.1)::l.2)++after r (nx+(A5 P ty).length) bs (j+1)
 |nx, .mu AS g::bs,j=>KN (Dt (.proj (.var r) (j+1)) g) 0 AS++after r nx bs (j+1)
 |nx, .va AS::bs,j=>D2 AS++after r nx bs j
def JC:List PA->Nat
 | []=>0
 | .box _ _ _ ty _::l=>(A5 P ty).length+JC l
 |_::l=>JC l
def RI.lent:Option RI->Bool
 |some (.fl _ _ _ _ d)=> !d
 |_=>false
def DP:List PA->Bool
 | []=>false
 | .box _ _ own' ty _::l=>Ep P (A5 P ty) own'||DP l
 | .mu AS _::l=>AS.any RI.lent||DP l
 |_::l=>DP l
def Sw(gs:Gd)(l:List (Nat × Ah)):List (Nat × Ah):=l.map λ(i,e)=>(i,CC gs e)
def Si(hp:Nat->Option Ah)(gs:Gd)(nv nx f:Nat)(args:List SV):Option A2:=
 match P.funcs[f]?,sg f with
 |some fn,some s=>
  if fn.body.isNone||args.length !=fn.params.size+fn.nfree||fn.nfree<s.ft.length then none else
  match SA P hp gs (Ew fn s++s.ft) s.cf s.lo args with
  |none=>none
  |some (es,bs,us,uz)=>
   if !KP (Dq bs)||us.any (λu=>(Dq bs).contains u)||uz.any (λu=>(Dq bs).contains u)then none else
   let ts:=(DE fn s)
   let r:E:=if HN bs=0 then .var nv else .proj (.var nv) 0;let nl:=(ts.flatMap (A5 P)).length;let unfl:=Dc P ts s.res||DP P bs;let ba:=after P nv (nx+nl) bs 0
   if 999<=nl+JC P bs then none else
   if unfl&& !LV hp gs us then none else
   match(if unfl then Dz hp gs us else some [])with
   |none=>none
   |some fz=>
    match ts with
    | [t]=>let p:=Nb P nx t s.res r;some {call:=some ⟨.inl f,es⟩,val:=p.1,a6:=fz++(Sw gs p.2++ba)}
    |_=>let p:=LA P nx ts s.res r 0;some {call:=some ⟨.inl f,es⟩,val:= .tup (Bp.of p.1),a6:=fz++(Sw gs p.2++ba)}
 |_,_=>none
def Pr(hp:Nat->Option Ah)(gs:Gd)(nv:Nat)(t:TypeId)(f:E)(args:List SV):Option A2:=
 if Cy P t then none else
 match Cm hp gs AW args with
 |none=>none
 |some es=>some {call:=some ⟨.inr f,go es⟩,val:= .e (.var nv)}
where
 go:EL->List E
 | .nil=> []
 | .cons e es=>e::go es
def mX(hp:Nat->Option Ah)(gs:Gd)(t:TypeId)(s:SV):Option A2:=
 match P.underlying t with
 |some (.slice _)=>(Bj hp gs AW s).map λx=>{bg:=[.dfd (.len x)],val:= .e (.len x)}
 |some .string=>(Bj hp gs AW s).map λx=>{bg:=[.dfd (.slen x)],val:= .e (.slen x)}
 |_=>none
def Sa(hp:Nat->Option Ah)(gs:Gd)(e:TypeId)(x:SV)(y:E):Option (List (Nat × Ah) × Bool × Cn):=
 if B1 P e then some ([],true, .flatS y (P.cellsOf e))else
 if LV hp gs (BN hp gs (AW+1) [x])then(Dz hp gs (BN hp gs (AW+1) [x])).map λl=>(l,false, .issl y (P.cellsOf e))else none
def UW(hp:Nat->Option Ah)(gs:Gd)(nx:Nat)(ts tx:TypeId)(s x:SV):Option A2:=
 if ts≠tx then none else
 match GD P ts,DF P ts,gs with
 |some e,some (.row e' z l),[]=>
  if !GB P e\/B1 P e\/e'≠e\/z≠P.cellsOf e then none else
  (match Bj hp [] AW x,Sr hp [] e z l.toList x with
  |some y,some us=>(match s with
   | .own t g=>(match CR hp [] t with
    |some (.deep e2 z2 l2 g2 _ c)=>if e2=e/\z2=z/\(AG.of l2).beq l/\g=g2/\ !us.contains t then
      some {bg:=[.room c y (P.bytesOf e)],val:= .own nx 0,a6:=(nx, .deep e z l.toList 0 0 (.app c y))::D2 (t::us)}else none
    |_=>none)
   | .emp=>some {bg:=[.room (.lst .nil) y (P.bytesOf e)],val:= .own nx 0,a6:=(nx, .deep e z l.toList 0 0 (.app (.lst .nil) y))::D2 us}
   | .bq=>some {bg:=[.room (.lst .nil) y (P.bytesOf e)],val:= .own nx 0,a6:=(nx, .deep e z l.toList 0 0 (.app (.lst .nil) y))::D2 us}
   |_=>none)
  |_,_=>none)
 |_,_,_=>none
def Zq(hp:Nat->Option Ah)(gs:Gd)(nx:Nat)(ts tx:TypeId)(s x:SV):Option A2:=
 if ts≠tx then none else
 match GD P ts with
 |some e=>
  if !GB P e then none else
  match Bj hp gs AW x with
  |none=>none
  |some y=>
   match Sa P hp gs e x y with
   |none=>none
   |some (fz,d,ck)=>
    match s with
    | .own t g=>(match CR hp gs t with
     |some (.row e' sz' g' c d')=>if e=e'/\P.cellsOf e=sz'/\g=g'/\gs=[]/\ !(fz.map (·.1)).contains t then
       some {bg:=[.room c y (P.bytesOf e),ck],val:= .own t (g+1),a6:=fz++ [(t, .row e (P.cellsOf e) (g+1) (.app c y) (d&&d'))]}else none
     |_=>none)
    | .emp=>some {bg:=[.room (.lst .nil) y (P.bytesOf e),ck],val:= .own nx 0,a6:=fz++ [(nx,CC gs (.row e (P.cellsOf e) 0 (.app (.lst .nil) y) d))]}
    | .bq=>some {bg:=[.room (.lst .nil) y (P.bytesOf e),ck],val:= .own nx 0,a6:=fz++ [(nx,CC gs (.row e (P.cellsOf e) 0 (.app (.lst .nil) y) d))]}
    |_=>none
 |_=>none
def E9(s:SV):Option E:=match s with
 | .e x=>some x
 |_=>none
def Pt:Nat->List Field->Option (List SK)
 |_,[]=>some []
 |j,f::fs=>if f.name= "_" \/f.offset≠j\/ !C2 P f.type\/P.cellsOf f.type≠1 then none else match P.underlying f.type,Pt (j+1) fs with
  |some (.int k),some l=>some (.int k::l)
  |some .bool,some l=>some (.bool::l)
  |some .string,some l=>some (.str::l)
  |_,_=>none
def PG(hp:Nat->Option Ah)(gs:Gd)(nv:Nat)(op:BinOp)(t:TypeId)(a b:SV):Option A2:=
 match P.underlying t with
 |some (.slice _)=>(match a,b,op with
  | .bq, .bq, .eql=>some {val:= .e (.bool true)}
  | .bq, .bq, .neq=>some {val:= .e (.bool false)}
  |a, .bq, .eql=>(Bj hp gs AW a).map λx=>{bg:=[.dfd (.len x)],br:=some x,val:= .e (.var nv)}
  |a, .bq, .neq=>(Bj hp gs AW a).map λx=>{bg:=[.dfd (.len x)],br:=some x,val:= .e (.not (.var nv))}
  |_,_,_=>none)
 |some (.int _)=>(match E9 a,E9 b with
  |some x,some y=>
   let r:E:= .bin op x y;let c1:=if Pc r then [Cn.dfd r]else []
   let c2:=match op with| .quo| .rem=> [Cn.nz y]| .shl| .shr=> [Cn.nn y]|_=> []
   some {bg:=c2++c1,val:= .e r}
  |_,_=>none)
 |some .string=>(match E9 a,E9 b with
  |some x,some y=>
   let r:E:= .sbin op x y
   some {bg:=(match op with| .add=> [Cn.roomS x y]|_=> [])++ [.dfd r],val:= .e r}
  |_,_=>none)
 |some .bool=>(match E9 a,E9 b with
  |some x,some y=>some {bg:=[.dfd (.bbin op x y)],val:= .e (.bbin op x y)}
  |_,_=>none)
 |some (.struct fs)=>
  if P.stoodInHeld t||P.eqGuardType P.depth t then none else
  (match Pt P 0 fs.toList,Bj hp gs AW a,Bj hp gs AW b with
  |some ks,some x,some y=>(match op with
   | .eql=>some {bg:=[.kinds x ks, .kinds y ks],val:= .e (.aeq x y)}
   | .neq=>some {bg:=[.kinds x ks, .kinds y ks],val:= .e (.not (.aeq x y))}
   |_=>none)
  |_,_,_=>none)
 |_=>none
def Vg(op:BinOp)(a b:SV):Option A2:=match a,b with
 | .e x, .e y=>some {bg:=[.dfd (.bin op y x)],val:= .e (.ite (.bin op y x) y x)}
 |_,_=>none
def ptrOff(s:SV)(o:Nat):Option SV:=match s with
 | .ca t p=>some (.ca t (p+o))
 | .cd t g i sz p=>some (.cd t g i sz (p+o))
 | .cz x i sz p=>some (.cz x i sz (p+o))
 | .c7 x p=>some (.c7 x (p+o))
 | .vptr t g m q x i sz p=>some (.vptr t g m q x i sz (p+o))
 |_=>none
def zzC(hp:Nat->Option Ah)(gs:Gd)(s:SV):Bool:=match s with
 | .vptr t _ m _ _ _ _ _=>LX hp gs t m
 |_=>true
def asPtr(s:SV):SV × List Cn:=match s with
 | .e x=>(.c7 x 0,[.isref x 0])
 |s=>(s,[])
def mS(hp:Nat->Option Ah)(gs:Gd)(t:TypeId)(a:SV):Option A2:=
 if !C2 P t then none else
 match a with
 | .ca b o=>(match CR hp gs b with
  |some (.box _ _ cs)=>(Nx P t cs o).map λs=>{val:=s}
  |_=>none)
 | .cd b g i sz o=>(match CR hp gs b with
  |some (.row _ sz' g' c _)=>if g=g'/\sz=sz'/\o+P.cellsOf t<=sz/\(An P t\/P.cellsOf t=1)then some {val:= .e (.fld (.idx c i) o (P.cellsOf t) (An P t))}else none
  |some (.deep _ sz' l g' ep c)=>if g=g'/\sz=sz'/\o+P.cellsOf t<=sz/\(An P t\/P.cellsOf t=1)then
    (if((l.drop o).take (P.cellsOf t)).all DT.bj then some {val:= .e (.fld (.idx c i) o (P.cellsOf t) (An P t))}
    else some {val:= .via b g ep (if An P t then none else some (i,sz,o)) (.fld (.idx c i) o (P.cellsOf t) (An P t))})else none
  |_=>none)
 | .vptr b g m _ x i sz o=>if o+P.cellsOf t<=sz/\(An P t\/P.cellsOf t=1)/\LX hp gs b m then
   (if B1 P t then some {bg:=[.flat (.fld (.idx x i) o (P.cellsOf t) (An P t)) (P.cellsOf t) (An P t)],val:= .e (.fld (.idx x i) o (P.cellsOf t) (An P t))}
   else some {val:= .via b g m none (.fld (.idx x i) o (P.cellsOf t) (An P t))})else none
 | .cz x i sz o=>if o+P.cellsOf t<=sz/\(An P t\/P.cellsOf t=1)then some {val:= .e (.fld (.idx x i) o (P.cellsOf t) (An P t))}else none
 | .c7 x o=>if An P t\/P.cellsOf t=1 then some {bg:=[.isref x (o+P.cellsOf t)],val:= .e (.fld (.deref x) o (P.cellsOf t) (An P t))}else none
 |_=>none
def LG(hp:Nat->Option Ah)(gs:Gd)(t:TypeId)(a v:SV):Option A2:=
 match a with
 | .ca b o=>(match CR hp gs b,Pq P t v with
  |some (.box ty g cs),some (vs,ck)=>if C2 P t/\vs.length=P.cellsOf t/\o+vs.length<=cs.length/\gs=[]then some {bg:=ck,a6:=[(b, .box ty g (PL cs o vs))]}else none
  |_,_=>none)
 | .cd b g i sz o=>(match CR hp gs b with
  |some (.row e sz' g' c d)=>if g=g'/\sz=sz'/\gs=[]/\C2 P t/\o+P.cellsOf t<=sz/\(An P e\/(sz=1/\ !An P t))/\(An P t\/P.cellsOf t=1)then
    (match VD P hp gs t v with
    |some (x,fz,dx,ck)=>if(fz.map (·.1)).contains b then none else
     some {bg:=ck++(if d&&dx then [.flat (.fld (.idx c i) o (P.cellsOf t) (An P t)) (P.cellsOf t) (An P t)]else []),a6:=fz++ [(b, .row e sz g (.set c i (.put (.idx c i) o x (An P e))) (d&&dx))]}
    |none=>none)else none
  |some (.deep e sz' l g' ep c)=>if g=g'/\sz=sz'/\gs=[]/\C2 P t/\o+P.cellsOf t<=sz/\(An P e\/(sz=1/\ !An P t))/\(An P t\/P.cellsOf t=1)then
    (match PD P hp gs t ((l.drop o).take (P.cellsOf t)) v with
    |some (x,us,ck)=>if !KP us||us.contains b then none else
     some {bg:=ck,a6:=(b, .deep e sz l g (ep+1) (.set c i (.put (.idx c i) o x (An P e))))::D2 us}
    |none=>none)else none
  |some (.hol e sz' l g' ep c i' o' _)=>if g=g'/\sz=sz'/\gs=[]/\C2 P t/\o=o'/\i.beq i'/\o+1<=sz/\P.cellsOf t=1/\ !An P t/\(An P e\/sz=1)then
    (match PD P hp gs t ((l.drop o).take 1) v with
    |some (x,us,ck)=>if !KP us||us.contains b then none else
     some {bg:=ck,a6:=(b, .deep e sz l g (ep+1) (.set c i (.put (.idx c i) o x (An P e))))::D2 us}
    |none=>none)else none
  |_=>none)
 |_=>none
def SC(places:List (Nat × Nat))(tys:List TypeId):List (Nat × SV)->List SV->Option (List SV × List Cn)
 | [],cs=>some (cs,[])
 |(i,s)::ps,cs=>match places[i]?,tys[i]? with
  |some (off,sz),some t=>(match Pq P t s with
   |some (vs,ck)=>if vs.length=sz/\off+vs.length<=cs.length then(SC places tys ps (PL cs off vs)).map λr=>(r.1,ck++r.2)else none
   |none=>none)
  |_,_=>none
def lL(t:TypeId)(parts:List (Nat × SV)):Option A2:=
 match P.info? t,P.underlying t with
 |some it,some (.struct fs)=>
  (match it.zero.bind ED,fs.toList.mapM (λf=>(P.info? f.type).map λi=>(f.offset,i.size))with
  |some (.agg zs),some places=>(SC P places (fs.toList.map (·.type)) parts zs.toList).map λr=>{bg:=r.2,val:= .agg (Bp.of r.1)}
  |_,_=>none)
 |_,_=>none
def R4(hp:Nat->Option Ah)(gs:Gd)(e:TypeId):List SV->Option (List E × List (Nat × Ah) × Bool × List Cn)
 | []=>some ([],[],true,[])
 |s::ss=>match VD P hp gs e s,R4 hp gs e ss with
  |some (x,fz,d,ck),some (xs,fzs,ds,cks)=>some (x::xs,fz++fzs,d&&ds,ck++cks)
  |_,_=>none
def YL(hp:Nat->Option Ah)(gs:Gd)(nx:Nat)(t:TypeId)(n:Nat)(parts:List (Nat × SV)):Option A2:=
 match GD P t with
 |some e=>
  if !GB P e\/ !C2 P e\/ !(An P e\/P.cellsOf e=1)\/10000<n*P.cellsOf e\/parts.map (·.1)≠List.range n then none else
  match R4 P hp gs e (parts.map (·.2))with
  |some (xs,fz,d,ck)=>if gs=[]\/fz=[]then some {bg:=ck,val:= .own nx 0,a6:=fz++ [(nx,CC gs (.row e (P.cellsOf e) 0 (.lst (EL.of xs)) d))]}else none
  |none=>none
 |none=>none
def Vj(hp:Nat->Option Ah)(gs:Gd)(nx:Nat)(t:TypeId)(n:Nat)(parts:List (Nat × SV)):Option A2:=
 match GD P t,DF P t,gs with
 |some e,some (.row e' z l),[]=>
  if !GB P e\/B1 P e\/e'≠e\/z≠P.cellsOf e\/ !C2 P e\/ !(An P e\/P.cellsOf e=1)\/10000<n*P.cellsOf e\/parts.map (·.1)≠List.range n then none else
  (match RZ P hp [] e l.toList (parts.map (·.2))with
  |some (xs,us,ck)=>if KP us then some {bg:=ck,val:= .own nx 0,a6:=(nx, .deep e z l.toList 0 0 (.lst (EL.of xs)))::D2 us}else none
  |none=>none)
 |_,_,_=>none
def mO(gs:Gd)(sl:Nat->SV)(c:E)(a b:Operand):Option A2:=
 match c with
 | .bool true=>(Bn sl gs a).map λs=>{val:=s}
 | .bool false=>(Bn sl gs b).map λs=>{val:=s}
 |c=>
  match(Bn sl ((c,true)::gs) a).bind E9,(Bn sl ((c,false)::gs) b).bind E9 with
  |some x,some y=>some {bg:=[.dfd (.not c)],val:= .e (.ite c x y)}
  |_,_=>none
def L0(s:Option SV)(d:E):Option E:=match s with|none=>some d|some (.e y)=>some y|some _=>none
def Hf(ev:Operand->Option SV)(y:Option Operand):Option (Option SV):=match y with|none=>some none|some y=>(ev y).map some
def Vn(hp:Nat->Option Ah)(gs:Gd)(t:TypeId)(x:SV)(lo hi mx:Option SV):Option A2:=
 match GD P t,x,mx,gs with
 |some el, .own b g,none,[]=>if !C2 P el then none else(match CR hp [] b with
  |some (.row e z g' c d)=>if g≠g'\/e≠el\/z≠P.cellsOf el then none else(match lo,hi with
   |some (.e l),none=>some {bg:=[.win c l (.len c)],val:= .wown b g l z}
   |none,some (.e h)=>some {bg:=[.win c (.int .i64 0) h],val:= .own b (g+1),a6:=[(b, .row e z (g+1) (.win c (.int .i64 0) h) d)]}
   |_,_=>none)
  |_=>none)
 |_,_,_,_=>none
def Vw(hp:Nat->Option Ah)(gs:Gd)(nx:Nat)(t:TypeId)(x:SV)(lo hi mx:Option SV):Option A2:=
 match GD P t,x,mx,gs with
 |some el, .own b g,none,[]=>if !C2 P el then none else(match CR hp [] b with
  |some (.deep e z _ g' _ c)=>if g≠g'\/e≠el\/z≠P.cellsOf el then none else(match lo,hi with
   |some (.e l),none=>some {bg:=[.win c l (.len c)],val:= .wown b g l z}
   |_,_=>none)
  |some (.pre e z dl g' _ c k)=>if g≠g'\/e≠el\/z≠P.cellsOf el then none else(match lo,hi with
   |none,some (.e h)=>if h.beq k then some {bg:=[.win c (.int .i64 0) h],val:= .own nx 0,a6:=(nx, .deep e z dl 0 0 (.win c (.int .i64 0) h))::D2 [b]}else none
   |_,_=>none)
  |_=>none)
 |_,_,_,_=>none
def Vr(hp:Nat->Option Ah)(gs:Gd)(nx:Nat)(ts tx:TypeId)(s x:SV):Option A2:=
 if ts≠tx then none else
 match GD P ts,DF P ts,gs,s,x with
 |some e,some (.row e' z l),[], .own t g2, .wown b g lo z'=>
  if !GB P e\/e'≠e\/z≠P.cellsOf e\/z'≠z\/t=b then none else(match CR hp [] t,CR hp [] b with
  |some (.deep e2 z2 l2 g2' _ c2),some (.deep e3 z3 l3 g3 ep c)=>
   if e2=e/\z2=z/\(AG.of l2).beq l/\g2=g2'/\e3=e/\z3=z/\(AG.of l3).beq l/\g=g3 then
    some {bg:=[.win c lo (.len c), .room c2 (.win c lo (.len c)) (P.bytesOf e)],val:= .own nx 0,a6:=(nx, .deep e z l.toList 0 0 (.app c2 (.win c lo (.len c))))::(b, .pre e z l.toList g (ep+1) c lo)::D2 [t]}else none
  |_,_=>none)
 |_,_,_,_,_=>none
def ZJ(hp:Nat->Option Ah)(gs:Gd)(t:TypeId)(x:SV):Option A2:=
 match GD P t,x,gs with
 |some el, .wown b g l z,[]=>(match CR hp [] b with
  |some (.row e z' g' c d)=>if g≠g'\/e≠el\/z≠P.cellsOf el\/z'≠z\/ !GB P e\/ !(An P e\/z=1)then none else
   (match((P.info? e).bind (·.zero)).bind ED with
   |some q=>(match Bj hp [] AW q with
    |some w=>some {bg:=[.win c l (.len c), .dfd (.bin .sub (.len c) l)],a6:=[(b, .row e z g (.app (.win c (.int .i64 0) l) (.rep (.bin .sub (.len c) l) w)) d)]}
    |none=>none)
   |none=>none)
  |_=>none)
 |_,_,_=>none
def ZR(hp:Nat->Option Ah)(gs:Gd)(t:TypeId)(x:SV)(lo hi mx:Option SV):Option A2:=
 match Bj hp gs AW x with
 |none=>none
 |some y=>
  match mx with
  |some mm=>(match P.underlying t,hi,mm,lo with
   |some (.slice e),some (.e (.int _ 0)), .e (.int _ 0),none=>if C2 P e then some {bg:=[.dfd (.len y)],val:= .emp}else none
   |_,_,_,_=>none)
  |none=>
   (match P.underlying t with
   |some .string=>(match L0 lo (.int .i64 0),L0 hi (.slen y),x with
    |some l,some h, .e _=>some {bg:=[.winS y l h],val:= .e (.swin y l h)}
    |_,_,_=>none)
   |some (.slice e)=>if !C2 P e then none else(match L0 lo (.int .i64 0),L0 hi (.len y),(if LV hp gs (BN hp gs (AW+1) [x])then Dz hp gs (BN hp gs (AW+1) [x])else none)with
    |some l,some h,some fz=>some {bg:=[.issl y (P.cellsOf e), .win y l h],val:= .e (.win y l h),a6:=fz}
    |_,_,_=>none)
   |_=>none)
def R6(hp:Nat->Option Ah)(gs:Gd)(src dst:TypeId)(x:SV):Option A2:=
 match P.underlying src,P.underlying dst with
 |some (.int _),some (.int k)=>(E9 x).map λy=>{bg:=[.dfd (.conv k y)],val:= .e (.conv k y)}
 |some .string,some .string=>(E9 x).map λy=>{bg:=[.dfd (.slen y)],val:= .e y}
 |some (.slice el),some .string=>(match P.underlying el with|some (.int .u8)=>(Bj hp gs AW x).map λy=>{bg:=[.dfd (.text y)],val:= .e (.text y)}|_=>none)
 |_,_=>none
def Vm(hp:Nat->Option Ah)(gs:Gd)(t:TypeId)(x i:SV):Option A2:=
 match P.underlying t,i with
 |some (.slice e), .e k=>if P.cellsOf e=0 then none else(match x with
  | .own b g=>(match CR hp gs b with
   |some (.row _ sz g' c _)=>if g=g'/\sz=P.cellsOf e then some {bg:=[.inb k c sz],val:= .cd b g k sz 0}else none
   |some (.bh g' c)=>if g=g' then some {bg:=[.inb k c (P.cellsOf e)],val:= .cz c k (P.cellsOf e) 0}else none
   |some (.deep _ sz _ g' _ c)=>if g=g'/\sz=P.cellsOf e then some {bg:=[.inb k c sz],val:= .cd b g k sz 0}else none
   |some (.hol _ sz _ g' _ c _ _ _)=>if g=g'/\sz=P.cellsOf e then some {bg:=[.inb k c sz],val:= .cd b g k sz 0}else none
   |_=>none)
  | .e y=>some {bg:=[.inb k y (P.cellsOf e)],val:= .cz y k (P.cellsOf e) 0}
  | .via b g m q y=>if LX hp gs b m then some {bg:=[.inb k y (P.cellsOf e)],val:= .vptr b g m q y k (P.cellsOf e) 0}else none
  | .bq=>some {bg:=[.inb k (.lst .nil) (P.cellsOf e)],val:= .cz (.lst .nil) k (P.cellsOf e) 0}
  |_=>none)
 |some .string, .e k=>(match x with
  | .e y=>some {bg:=[.inbS k y],val:= .e (.sidx y k)}
  |_=>none)
 |_,_=>none
def aF(hp:Nat->Option Ah)(gs:Gd)(nx:Nat)(t:TypeId)(n c:SV):Option A2:=
 match GD P t,n,c with
 |some e, .e x, .e y=>
  if !GB P e then none else
  if x.beq y then
   match((P.info? e).bind (·.zero)).bind ED with
   |some z=>(Bj hp gs AW z).map λw=>{bg:=[.mkroom x (P.bytesOf e)],val:= .own nx 0,a6:=[(nx,CC gs (.row e (P.cellsOf e) 0 (.rep x w) true))]}
   |none=>none
  else match x with
   | .int _ 0=>some {bg:=[.mkroom y (P.bytesOf e)],val:= .own nx 0,a6:=[(nx,CC gs (.row e (P.cellsOf e) 0 (.lst .nil) true))]}
   |_=>none
 |_,_,_=>none
def nZ:DT->SV->Bool
 | .flat, .e x=>SI x
 | .row _ z l, .bq=>decide (0<z)&&l.toList.length==z
 |_,_=>false
def Nu:List DT->List SV->Bool
 | [],[]=>true
 |d::ds,s::ss=>nZ d s&&Nu ds ss
 |_,_=>false
def mZ(l:List DT)(q:SV):Bool:=match q with
 | .agg cs=>Nu l cs.toList
 | .bq=>Nu l [.bq]
 |_=>false
def Vs(hp:Nat->Option Ah)(gs:Gd)(nx:Nat)(t:TypeId)(n c:SV):Option A2:=
 match GD P t,DF P t,n,c with
 |some e,some (.row e' z l), .e x, .e y=>
  if !GB P e\/B1 P e\/e'≠e\/z≠P.cellsOf e\/ !(x.beq y)\/ !gs.isEmpty then none else
   (match((P.info? e).bind (·.zero)).bind ED with
   |some q=>if mZ l.toList q then(Bj hp gs AW q).map λw=>{bg:=[.mkroom x (P.bytesOf e)],val:= .own nx 0,a6:=[(nx, .deep e z l.toList 0 0 (.rep x w))]}else none
   |none=>none)
 |_,_,_,_=>none
def V2(t:TypeId):Bool:=match P.underlying t with|some .string=>true|_=>false
def Bz(sl:Nat->SV)(hp:Nat->Option Ah)(nv nx:Nat)(gs:Gd)(o:Oper):Option A2:=
 let ev:=Bn sl gs
 match o.op with
 | .move x| .assign x=>(ev x).map λs=>{val:=s}
 | .pick c a b=>(ev c).bind λs=>match s with| .e c=>mO gs sl c a b|_=>none
 | .alloc t=>((P.info? t).bind (·.zero)).bind λz=>(nO P t).bind λs=>(Pq P t s).bind λ(cs,ck)=>if cs.isEmpty then none else if !ck.isEmpty then none else some {val:= .ca nx 0,a6:=[(nx,CC gs (.box t (An P t) cs))]}
 | .box t x=>(ev x).bind λs=>(Pq P t s).bind λ(cs,ck)=>if cs.isEmpty then none else some {bg:=ck,val:= .ca nx 0,a6:=[(nx,CC gs (.box t (An P t) cs))]}
 | .build t parts=>(parts.toList.mapM λ(p:Nat × Operand)=>(ev p.2).map λs=>(p.1,s)).bind λps=>lL P t ps
 | .buildSlice t n parts=>(parts.toList.mapM λ(p:Nat × Operand)=>(ev p.2).map λs=>(p.1,s)).bind λps=>if sg.dp&&(Vj P hp gs nx t n ps).isSome then Vj P hp gs nx t n ps else YL P hp gs nx t n ps
 | .load t a=>(ev a).bind λs=>(mS P hp gs t (asPtr s).1).map λe=>{e with bg:=(asPtr s).2++e.bg}
 | .store t a x=>(ev a).bind λp=>(ev x).bind λv=>LG P hp gs t p v
 | .nilCheck x=>(ev x).bind λs=>match s with
  | .e y=>some {bg:=[.isref y 0],val:= .c7 y 0}
  | .ca t p=>some {val:= .ca t p}
  | .cd t g i sz p=>some {val:= .cd t g i sz p}
  | .cz y i sz p=>some {val:= .cz y i sz p}
  | .c7 y p=>some {val:= .c7 y p}
  | .vptr t g m q y i sz p=>if LX hp gs t m then some {val:= .vptr t g m q y i sz p}else none
  |_=>none
 | .binOp op t x y _=>(ev x).bind λa=>(ev y).bind λb=>PG P hp gs nv op t a b
 | .unOp .not _ x=>(ev x).bind λs=>(E9 s).map λy=>match y with| .bool b=>{val:= .e (.bool (!b))}|y=>{bg:=[.dfd (.not y)],val:= .e (.not y)}
 | .unOp .neg _ x=>(ev x).bind λs=>(E9 s).map λy=>{bg:=[.dfd (.neg y)],val:= .e (.neg y)}
 | .convert src dst x=>(ev x).bind λs=>R6 P hp gs src dst s
 | .makeFunc (.func f) first caps=>if first.isEmpty then(caps.toList.mapM ev).map λss=>{val:= .fn f (Bp.of ss)}else none
 | .makeSlice t l c=>(ev l).bind λn=>(ev c).bind λm=>if sg.dp&&(Vs P hp gs nx t n m).isSome then Vs P hp gs nx t n m else aF P hp gs nx t n m
 | .slice t x lo hi mx=>(ev x).bind λs=>(Hf ev lo).bind λl=>(Hf ev hi).bind λh=>(Hf ev mx).bind λm=>if sg.wn&&(Vw P hp gs nx t s l h m).isSome then Vw P hp gs nx t s l h m else if sg.wn&&(Vn P hp gs t s l h m).isSome then Vn P hp gs t s l h m else ZR P hp gs t s l h m
 | .fieldAddr t x f=>(ev x).bind λs=>match P.underlying t with
  |some (.struct fs)=>(match fs[f]? with|some fd=>if P.cellsOf fd.type=0\/ !zzC hp gs s then none else(ptrOff (asPtr s).1 fd.offset).map λv=>{bg:=(asPtr s).2,val:=v}|none=>none)
  |_=>none
 | .field t x f=>(ev x).bind λs=>match P.underlying t with
  |some (.struct fs)=>(match fs[f]? with
   |some fd=>if !C2 P fd.type then none else(match s with
    | .agg cs=>(Nx P fd.type cs.toList fd.offset).map λv=>{val:=v}
    | .e y=>if fd.offset+P.cellsOf fd.type<=P.cellsOf t/\(An P fd.type\/P.cellsOf fd.type=1)then some {bg:=[.agg y (P.cellsOf t)],val:= .e (.fld y fd.offset (P.cellsOf fd.type) (An P fd.type))}else none
    | .via b g m _ y=>if fd.offset+P.cellsOf fd.type<=P.cellsOf t/\(An P fd.type\/P.cellsOf fd.type=1)/\LX hp gs b m then
      (if B1 P fd.type then some {bg:=[.agg y (P.cellsOf t), .flat (.fld y fd.offset (P.cellsOf fd.type) (An P fd.type)) (P.cellsOf fd.type) (An P fd.type)],val:= .e (.fld y fd.offset (P.cellsOf fd.type) (An P fd.type))}
      else some {bg:=[.agg y (P.cellsOf t)],val:= .via b g m none (.fld y fd.offset (P.cellsOf fd.type) (An P fd.type))})else none
    |_=>none)
   |none=>none)
  |_=>none
 | .indexAddr t x i=>(ev x).bind λs=>(ev i).bind λk=>if V2 P t then none else Vm P hp gs t s k
 | .index t x i=>(ev x).bind λs=>(ev i).bind λk=>if V2 P t then Vm P hp gs t s k else none
 | .extract t i=>(ev t).bind λs=>match s with
  | .tup vs=>(vs.toList[i]?).map λv=>{val:=v}
  | .e y=>some {bg:=[.dfd (.proj y i)],val:= .e (.proj y i)}
  |_=>none
 | .call c=>match c.callee with
  | .builtin .len=>(match c.args.toList,c.argTypes.toList with| [x],[tx]=>(ev x).bind λs=>mX P hp gs tx s|_,_=>none)
  | .builtin .append=>(match c.args.toList,c.argTypes.toList with| [x,y],[tx,ty]=>(ev x).bind λs=>(ev y).bind λv=>if sg.wn&&(Vr P hp gs nx tx ty s v).isSome then Vr P hp gs nx tx ty s v else if sg.dp&&(UW P hp gs nx tx ty s v).isSome then UW P hp gs nx tx ty s v else Zq P hp gs nx tx ty s v|_,_=>none)
  | .builtin .clear=>(match c.args.toList,c.argTypes.toList with| [x],[tx]=>(ev x).bind λs=>ZJ P hp gs tx s|_,_=>none)
  | .builtin .max=>(match c.args.toList with| [x,y]=>(ev x).bind λs=>(ev y).bind λv=>Vg .gtr s v|_=>none)
  | .builtin .min=>(match c.args.toList with| [x,y]=>(ev x).bind λs=>(ev y).bind λv=>Vg .lss s v|_=>none)
  | .builtin _=>none
  | .value f=>(ev f).bind λs=>(c.args.toList.mapM ev).bind λas_=>match s with
   | .fn g caps=>Si P sg hp gs nv nx g (as_++caps.toList)
   | .e y=>Pr P hp gs nv o.type y as_
   | .lent i=>Pr P hp gs nv o.type (.var i) as_
   |_=>none
  |_=>none
 |_=>none
def R9(hp:Nat->Option Ah)(T v m u:Nat)(p:E × Nat × Nat):Option (Ah × Ah):=
 match CR hp [] T with
 |some (.deep e z l g ep c)=>if g=v/\ep=m/\p.2.1=z then(match l[p.2.2]? with
   |some (.row e2 z2 l2)=>some (.hol e z l g (ep+1) c p.1 p.2.2 u,if l2.toList.all DT.bj then .row e2 z2 0 (.fld (.idx c p.1) p.2.2 1 false) true else .deep e2 z2 l2.toList 0 0 (.fld (.idx c p.1) p.2.2 1 false))
   |_=>none)else none
 |_=>none
def KI(sl:Nat->SV)(u:Nat):List Operand->Option (Nat × Nat × Nat × Nat × (E × Nat × Nat) × SV)
 | []=>none
 | .tmp t::l=>(match sl t with
  | .via T v m (some p) _=>some (t,T,v,m,p, .own u 0)
  | .vptr T v m (some p) _ k z q=>some (t,T,v,m,p, .cd u 0 k z q)
  |_=>KI sl u l)
 |_::l=>KI sl u l
def zvP(o:Oper):Bool:=match o.op with
 | .call c=>(match c.callee with| .builtin .append=>true|_=>false)
 |_=>false
def KB:List (Nat × Ah)->Nat->Option Ah
 | [],_=>none
 |(t,e)::l,u=>match KB l u with
  |some f=>some f
  |none=>if t=u then some e else none
def R8(h r:Ah):Option Ah:=match h with
 | .hol e z l g ep c i o _=>(match l[o]?,r with
  |some (.row e2 z2 l2), .row e3 z3 0 x true=>if l2.toList.all DT.bj/\e3=e2/\z3=z2/\l2.toList.length=z2/\(An P e\/z=1)then some (.deep e z l g (ep+1) (.set c i (.put (.idx c i) o x (An P e))))else none
  |some (.row e2 z2 l2), .deep e3 z3 l3 0 _ x=>if e3=e2/\z3=z2/\(AG.of l3).beq l2/\(An P e\/z=1)then some (.deep e z l g (ep+1) (.set c i (.put (.idx c i) o x (An P e))))else none
  |_,_=>none)
 |_=>none
def Sj(sl:Nat->SV)(hp:Nat->Option Ah)(nv nx:Nat)(o:Oper):Option A2:=
 let u:=nx+999
 match KI sl u o.op.operands.toList with
 |none=>none
 |some (t,T,v,m,p,s)=>(match R9 hp T v m u p with
  |none=>none
  |some (h,r)=>
   (match Bz P sg (λi=>if i=t then s else sl i) (λw=>if w=T then some h else if w=u then some r else hp w) nv nx [] o with
   |none=>none
   |some e=>if e.br.isSome then none else
    if zvP o then(match KB e.a6 T with|none=>some {e with a6:=(T,h)::(u,r)::e.a6}|some _=>none)else
    (match KB e.a6 u,KB e.a6 T with
    |some r',none=>(R8 P h r').map λd=>{e with a6:=(T,h)::(u,r)::e.a6++ [(T,d),(u, .dead)]}
    |_,_=>none)))
def kY(l:List (Nat × Ah)):List Nat:=l.filterMap λp=>match p.2 with| .deep .. =>some p.1|_=>none
def Jg(dp:Bool)(hp:Nat->Option Ah)(gs:Gd)(e:A2):A2:=
 if dp|| !gs.isEmpty||e.call.isNone||e.br.isSome then e else
 match Dz (λt=>match KB e.a6 t with|some f=>some f|none=>hp t) [] (kY e.a6)with
 |some l=>{e with a6:=e.a6++l}
 |none=>e
def Jj(fz:Bool)(hp:Nat->Option Ah)(gs:Gd)(e:A2):A2:=
 if !fz|| !gs.isEmpty||e.call.isSome||e.br.isSome|| !e.a6.isEmpty then e else
 match e.val with
 | .via .. =>(match Bj hp [] AW e.val,Dz hp [] (BN hp [] (AW+1) [e.val])with
  |some y,some l=>if LV hp [] (BN hp [] (AW+1) [e.val])then{e with val:= .e y,a6:=l}else e
  |_,_=>e)
 |_=>e
def KK(sl:Nat->SV)(hp:Nat->Option Ah)(nv nx:Nat)(gs:Gd)(o:Oper):Option A2:=
 match Bz P sg sl hp nv nx gs o with
 |some e=>some (Jj sg.fz hp gs (Jg sg.dp hp gs e))
 |none=>match gs with
  | []=>Sj P sg sl hp nv nx o
  |_=>none
def Bv(σ:St)(i:Nat):SV:=(σ.sl[i]?).getD .undef
def AD(l:List (Nat × Ah))(t:Nat):Option Ah:=match l with| []=>none|(u,e)::l=>if u=t then some e else AD l t
def KS(l:List (Nat × Ah))(t:Nat)(e:Ah):List (Nat × Ah):=match l with| []=> [(t,e)]|(u,f)::l=>if u=t then(u,e)::l else(u,f)::KS l t e
def Hb(σ:St)(d:Option Nat)(s:SV):St:=match d with|none=>σ|some d=>{σ with sl:=σ.sl.set d s}
def GK:SV:= .gd [(.bool false,true)] .bq
def lU(gs:Gd):Bool:=gs.any λg=>match g.1 with| .bool x=>x !=g.2|_=>false
def Nf(σ:St)(ops:Array Oper)(o:Oper):Option (Option Gd):=
 match o.guard with
 |none=>some (some [])
 |some (j,want)=>match(ops[j]?).bind (·.dst)with
  |none=>some none
  |some d=>match Bv σ d with
   | .e (.bool b)=>some (if b==want then some []else none)
   | .e c=>some (some [(c,want)])
   | .gd hs s=>if lU hs then some none else(match s with
    | .e (.bool b)=>some (if b==want then some hs else none)
    | .e c=>some (some ((c,want)::hs))
    |_=>none)
   |_=>none
def Bx:Nat:=1000
def Ky(σ:St)(gs:Gd)(o:Oper)(e:A2):St:=
 let σ':=Hb σ o.dst (mkGd gs e.val)
 {σ' with hp:=e.a6.foldl (λl (t,x)=>KS l t x) σ'.hp,nv:=if e.call.isSome||e.br.isSome then σ'.nv+1 else σ'.nv}
def Vx(gs:Gd)(e:A2)(k:Tr):Tr:=
 let k:=match e.call with|some c=> .call gs c.fn (EL.of c.args) k|none=>k
 let k:=match e.br with|some x=> .br gs x k|none=>k
 e.bg.foldr (λc k=> .bg gs c k) k
def assumeS(c:E)(b:Bool)(s:SV):SV:=match s with
 | .gd hs s=>if NC (c, !b) hs then GK else mkGd (hs.filter λh=> !(h.1.beq c&&h.2==b)) s
 |s=>s
def assumeE(c:E)(b:Bool)(e:Ah):Ah:=match e with
 | .gd hs e=>if NC (c, !b) hs then .dead else(match e with| .gd .. => .dead|e=>CC (hs.filter λh=> !(h.1.beq c&&h.2==b)) e)
 |e=>e
def assume(c:E)(b:Bool)(d:Nat)(σ:St):St:=
 {σ with sl:=(σ.sl.map (assumeS c b)).set d (.e (.bool b)),hp:=σ.hp.map λ(t,e)=>(t,assumeE c b e)}
def jA:SV->List Nat
 | .ca t _=> [t]
 | .cd t .. => [t]
 | .via t .. => [t]
 | .vptr t .. => [t]
 | .wown t .. => [t]
 | .gd _ s=>(match s with| .ca t _=> [t]| .cd t .. => [t]| .via t .. => [t]| .vptr t .. => [t]| .wown t .. => [t]|_=> [])
 |_=> []
def nQ:SV->List Nat
 | .via t .. => [t]
 | .vptr t .. => [t]
 | .gd _ s=>(match s with| .via t .. => [t]| .vptr t .. => [t]|_=> [])
 |_=> []
def Sg(σ:St)(gs:Gd)(o:Oper):List Nat:=
 let sv (x:Operand):List SV:=match x with| .tmp t=> [Bv σ t]|_=> []
 match o.op with
 | .move _=> []
 | .assign _=> []
 | .nilCheck x=>(sv x).flatMap nQ
 | .fieldAddr _ x _=>(sv x).flatMap nQ
 | .extract .. => []
 | .makeFunc .. => []
 | .load _ a=>(sv a).flatMap jA
 | .store _ a v=>(sv a).flatMap jA++BN (AD σ.hp) gs AW (sv v)
 |op=>BN (AD σ.hp) gs AW (op.operands.toList.flatMap sv)
def PW(l:List (Nat × Ah))(R:List Nat)(t:Nat):Option Ah:=if R.contains t then AD l t else none
structure Log where
 i:Nat
 R:List Nat
 W:List Nat
def bM(a b:List Nat):Bool:=a.any λt=>b.contains t
def VM(ops:Array Oper)(o:Oper):List Nat:=
 (o.op.operands.toList.filterMap λx=>match x with| .tmp t=>some t|_=>none)++(match o.guard with|some (j,_)=>((ops[j]?).bind (·.dst)).toList|none=> [])
def aO(acc:List Nat)(o:Oper):Nat:=o.after.toList.foldl (λs e=>if Region.binds .any e then s|||2^e.on|||(acc[e.on]?).getD 0 else s) 0
def JQ:List Oper->List Nat->List Nat
 | [],acc=>acc
 |o::os,acc=>JQ os (acc++ [aO acc o])
def IT(bs:List Nat)(i j:Nat):Bool:=if i<j then((bs[j]?).getD 0).testBit i else((bs[i]?).getD 0).testBit j
def VF(ops:Array Oper)(l:List Log):Bool:=
 let bs:=JQ ops.toList []
 (l.all λa=>l.all λb=>a.i==b.i|| !(bM a.W (b.R++b.W))||IT bs a.i b.i)&&
 (ops.toList.zipIdx.all λ(o,j)=>o.after.toList.all λe=> !Region.binds .any e||decide (e.on<j))&&
 (ops.toList.zipIdx.all λ(o,j)=>ops.toList.zipIdx.all λ(p,i)=>i==j||(match p.dst with
  |some d=>(o.dst !=some d)&&(!(VM ops o).contains d||IT bs i j)
  |none=>true))
def Cn.sc(n:Nat):Cn->Bool
 | .dfd x=>x.sc n
 | .agg x _=>x.sc n
 | .cells x _=>x.sc n
 | .inb i x _=>i.sc n&&x.sc n
 | .inbS i x=>i.sc n&&x.sc n
 | .win x lo hi=>x.sc n&&lo.sc n&&hi.sc n
 | .winS x lo hi=>x.sc n&&lo.sc n&&hi.sc n
 | .room x y _=>x.sc n&&y.sc n
 | .roomS x y=>x.sc n&&y.sc n
 | .mkroom x _=>x.sc n
 | .nz x=>x.sc n
 | .nn x=>x.sc n
 | .isref x _=>x.sc n
 | .issl x _=>x.sc n
 | .flat x _ _=>x.sc n
 | .flatS x _=>x.sc n
 | .kinds x _=>x.sc n
def SJ(n:Nat)(gs:Gd):Bool:=gs.all λg=>g.1.sc n
def PI(n nx:Nat)(hp:List (Nat × Ah))(gs:Gd)(e:A2):Bool:=
 SJ n gs&&e.bg.all (Cn.sc n)&&
 (match e.call with|some c=>(match c.fn with| .inl _=>true| .inr x=>x.sc n)&&c.args.all (E.sc n)|none=>true)&&
 (match e.br with|some x=>x.sc n&&e.call.isNone|none=>true)&&
 e.a6.all (λ(t,x)=>(nx<=t&&t<nx+Bx&&(gs.isEmpty||(match x with| .gd hs _=>KT gs hs|_=>false)))||(gs.isEmpty&&(AD hp t).isSome))
mutual
def SV.sc(n:Nat):SV->Bool
 | .undef| .bq| .emp| .own .. | .ca .. =>true
 | .e x=>x.sc n
 | .cd _ _ i _ _=>i.sc n
 | .cz x i _ _=>x.sc n&&i.sc n
 | .c7 x _=>x.sc n
 | .via _ _ _ p x=>(match p with|some q=>q.1.sc n|none=>true)&&x.sc n
 | .vptr _ _ _ p x i _ _=>(match p with|some q=>q.1.sc n|none=>true)&&x.sc n&&i.sc n
 | .wown _ _ l _=>l.sc n
 | .lent i=>decide (i<n)
 | .agg cs=>cs.sc n
 | .tup cs=>cs.sc n
 | .fn _ cs=>cs.sc n
 | .gd gs s=>SJ n gs&&s.sc n
def Bp.sc(n:Nat):Bp->Bool
 | .nil=>true
 | .cons s l=>s.sc n&&l.sc n
end
def Ah.sc(n:Nat):Ah->Bool
 | .box _ _ cs=>cs.all (SV.sc n)
 | .row _ _ _ x _=>x.sc n
 | .bh _ x=>x.sc n
 | .gd gs e=>SJ n gs&&(match e with| .box _ _ cs=>cs.all (SV.sc n)| .row _ _ _ x _=>x.sc n| .bh _ x=>x.sc n| .deep _ _ _ _ _ x=>x.sc n| .hol _ _ _ _ _ x i _ _=>x.sc n&&i.sc n| .pre _ _ _ _ _ x k=>x.sc n&&k.sc n|_=>true)
 | .deep _ _ _ _ _ x=>x.sc n
 | .hol _ _ _ _ _ x i _ _=>x.sc n&&i.sc n
 | .pre _ _ _ _ _ x k=>x.sc n&&k.sc n
 | .dead=>true
def St.sc(σ:St):Bool:=σ.sl.all (SV.sc σ.nv)&&σ.hp.all λ(_,e)=>e.sc σ.nv
def sD:SV->Bool
 | .e _=>true
 |_=>false
def nN(ops:Array Oper):Bool:=ops.any λo=>match o.op with| .panic _=>true|_=>false
def kP(σ:St)(ops:Array Oper):Nat->Oper->Option Nat
 |0,_=>none
 |n+1,o=>match o.guard with
  |none=>none
  |some (j,_)=>match ops[j]? with
   |none=>none
   |some p=>match p.dst with
    |none=>none
    |some d=>if sD (Bv σ d)then some d else kP σ ops n p
def SH(ops:Array Oper)(draw:Bool)(base:Nat)(next:List Log->St->Option Tr)(i:Nat)(o:Oper)(lg:List Log)(fail:Unit->Option Tr)(σ:St):Option Tr:=
 match Nf σ ops o with
 |none=>none
 |some none=>next lg (Hb σ o.dst GK)
 |some (some gs)=>
  let R:=Sg σ gs o
  match KK P sg (Bv σ) (PW σ.hp R) σ.nv (base+Bx*i) gs o with
  |some e=>
   if(draw&&e.br.isSome)|| !PI σ.nv (base+Bx*i) σ.hp gs e||(!draw&&(e.call.isSome||e.br.isSome)&& !σ.sc)then none else
   (match next (⟨i,R,e.a6.map (·.1)⟩::lg) (Ky σ gs o e)with
   |none=>none
   |some k=>some (Vx gs e k))
  |none=>fail ()
def SE(ops:Array Oper)(draw:Bool)(base:Nat)(next:List Log->St->Option Tr)(i:Nat)(o:Oper)(lg:List Log):Nat->St->Option Tr
 |0,σ=>SH P sg ops draw base next i o lg (λ_=>none) σ
 |n+1,σ=>SH P sg ops draw base next i o lg (λ_=>
  match draw,kP σ ops 8 o with
  |false,some d=>(match Bv σ d with
   | .e c=>(match SE ops draw base next i o lg n (assume c true d σ),SE ops draw base next i o lg n (assume c false d σ)with
    |some k1,some k0=>some (.ite c k1 k0)
    |_,_=>none)
   |_=>none)
  |_,_=>none) σ
def KQ(ops:Array Oper)(draw:Bool)(base:Nat):List Nat->List Log->St->Option Tr
 | [],lg,σ=>if draw&& !VF ops lg then none else some (.leaf .normal {σ with nx:=base+Bx*ops.size})
 |i::is,lg,σ=>
  match ops[i]? with
  |none=>none
  |some o=>SE P sg ops draw base (λlg σ=>KQ ops draw base is lg σ) i o lg 4 σ
end
def bit(i:Nat):Nat:=1<<<i
def G4(l d:Nat):Nat:=l^^^(l&&&d)
def D4:List Operand->Nat
 | []=>0
 | .tmp t::l=>bit t|||D4 l
 |_::l=>D4 l
def ztv(ops:Array Oper)(l:Nat):Nat:=
 let r:=ops.toList.foldl (λ(acc:Nat × Nat) o=>
  let u:=D4 o.op.operands.toList
  (acc.1|||G4 u acc.2,match o.dst,o.guard with|some d,none=>acc.2|||bit d|_,_=>acc.2)) (0,0)
 r.1|||G4 l r.2
def Cj(rs:Nat):Code->List (Nat × Nat)->Nat->Nat
 | .skip,_,l=>l
 | .region _ ops _,_,l=>ztv ops l
 | .seq a b,ex,l=>Cj rs a ex (Cj rs b ex l)
 | .cond c a b,ex,l=>D4 [c]|||Cj rs a ex l|||Cj rs b ex l
 | .block id b,ex,l=>Cj rs b ((id,l)::ex) l
 | .loop b,ex,l=>let l1:=Cj rs b ex 0;Cj rs b ex l1|||l1
 | .exit id,ex,_=>(ex.lookup id).getD 0
 | .scope b,ex,l=>Cj rs b ex l
 | .label _,_,l=>l
 | .ret,_,_=>rs
 |_,_,_=>0
def Tr.cw:Tr->List St
 | .leaf .normal σ=> [σ]
 | .leaf _ _=> []
 | .ret _=> []
 | .stuck=> []
 | .jmp .. => []
 | .ite _ a b=>a.cw++b.cw
 | .bg _ _ k=>k.cw
 | .call _ _ _ k=>k.cw
 | .br _ _ k=>k.cw
 | .join t k=>t.cw++k.cw
 | .loop _ b k=>b.cw++k.cw
def Tr.dh(id:Nat):Tr->List St
 | .leaf (.exit j) σ=>if j=id then [σ]else []
 | .leaf _ _=> []
 | .ret _=> []
 | .stuck=> []
 | .jmp .. => []
 | .ite _ a b=>a.dh id++b.dh id
 | .bg _ _ k=>k.dh id
 | .call _ _ _ k=>k.dh id
 | .br _ _ k=>k.dh id
 | .join t k=>t.dh id++k.dh id
 | .loop _ b k=>b.dh id++k.dh id
def Tr.b8:Tr->Option Nat
 | .leaf (.exit j) _=>some j
 | .leaf _ _=>none
 | .ret _=>none
 | .stuck=>none
 | .jmp .. =>none
 | .ite _ a b=>a.b8<|>b.b8
 | .bg _ _ k=>k.b8
 | .call _ _ _ k=>k.b8
 | .br _ _ k=>k.b8
 | .join t k=>t.b8<|>k.b8
 | .loop _ b k=>b.b8<|>k.b8
def Tr.sub(f:Nat->Xt->St->Option Tr):Nat->Tr->Option Tr
 |d, .leaf x σ=>f d x σ
 |_, .ret r=>some (.ret r)
 |_, .stuck=>some .stuck
 |_, .jmp i es=>some (.jmp i es)
 |d, .ite c a b=>match a.sub f d,b.sub f d with|some x,some y=>some (.ite c x y)|_,_=>none
 |d, .bg g c k=>(k.sub f d).map (.bg g c)
 |d, .call g h as_ k=>(k.sub f d).map (.call g h as_)
 |d, .br g x k=>(k.sub f d).map (.br g x)
 |d, .join t k=>match t.sub f (d+1),k.sub f d with|some x,some y=>some (.join x y)|_,_=>none
 |d, .loop i b k=>match b.sub f (d+2),k.sub f d with|some x,some y=>some (.loop i x y)|_,_=>none
def Pm:Nat:=100000
def zzN:E->Bool
 | .var i=>Pm<=i
 |_=>false
structure Wd where
 hp:List (Nat × Ah)
 nx:Nat
 n:Nat
 θ:List (Nat × Nat)
def wE(nv:Nat)(w:Wd)(p y:E):E × Wd:=
 if zzN p then(p,w)else if p.sc nv&&p.beq y then(p,w)else(.var (Pm+w.n),{w with n:=w.n+1})
def Jy(hp:List (Nat × Ah))(t g:Nat):Bool:=match AD hp t with
 |some (.row _ _ g' _ _)=>g==g'
 |some (.bh g' _)=>g==g'
 |some (.deep _ _ _ g' _ _)=>g==g'
 |_=>false
def zxw(hp:List (Nat × Ah))(t:Nat)(x:E):Option Ah:=match AD hp t with
 |some (.row e s _ _ d)=>some (.row e s 0 x d)
 |some (.deep e s l _ _ _)=>some (.deep e s l 0 0 x)
 |_=>none
def Ie(leaf:St)(s:SV):Option E:=Bj (AD leaf.hp) [] AW s
def bB:Nat:=1000000000
def bV(w:Wd)(t t':Nat):Option Wd:=
 match w.θ.lookup t with
 |some u=>if u=t' then some w else none
 |none=>if w.θ.any (·.2==t')then none else some {w with θ:=(t,t')::w.θ}
def KL(nv:Nat)(w:Wd)(p y:Option E):SV × Wd:=
 match y with
 |none=>(.undef,w)
 |some y=>match p with
  |some p=>let(x,w):=wE nv w p y;(.e x,w)
  |none=>(.e (.var (Pm+w.n)),{w with n:=w.n+1})
mutual
def wS(nv:Nat)(pat leaf:St):Nat->Wd->SV->SV->SV × Wd
 |0,w,_,_=>(.undef,w)
 |n+1,w,p,s=>
  match p,s with
  | .undef,_=>(.undef,w)
  | .e x,s=>KL nv w (some x) (Ie leaf s)
  | .bq, .bq=>(.bq,w)
  | .emp, .emp=>(.emp,w)
  | .emp,s=>KL nv w none (Ie leaf s)
  | .bq, .own t' g'=>(match zxw leaf.hp t' (.var (Pm+w.n)),Jy leaf.hp t' g' with
   |some e,true=>(match bV w w.nx t' with
    |some w'=>(.own w.nx 0,{w' with nx:=w.nx+1,n:=w'.n+1,hp:=w'.hp++ [(w.nx,e)]})
    |none=>KL nv w none (Ie leaf s))
   |_,_=>KL nv w none (Ie leaf s))
  | .bq,s=>KL nv w none (Ie leaf s)
  | .own t g, .own t' g'=>
   if !Jy w.hp t g|| !Jy leaf.hp t' g' then(.undef,w)else
   (match bV w t t' with
   |some w'=>(.own t g,w')
   |none=>KL nv w none (Ie leaf s))
  | .own t g, .bq=>if(w.θ.lookup t).isSome then KL nv w none (Ie leaf s)else(.own t g,{w with θ:=(t,bB+t)::w.θ})
  | .own _ _,s=>KL nv w none (Ie leaf s)
  | .ca t o, .ca t' o'=>if o=o' then(match bV w t t' with|some w'=>(.ca t o,w')|none=>(.undef,w))else(.undef,w)
  | .agg cs, .agg ds=>let(l,w'):=N5 nv pat leaf n w cs.toList ds.toList;(.agg (Bp.of l),w')
  | .agg cs,s=>KL nv w none (Ie leaf s)
  | .tup cs, .tup ds=>let(l,w'):=N5 nv pat leaf n w cs.toList ds.toList;(.tup (Bp.of l),w')
  | .fn f cs, .fn g ds=>if f=g then let(l,w'):=N5 nv pat leaf n w cs.toList ds.toList;(.fn f (Bp.of l),w')else(.undef,w)
  | .c7 x o, .c7 y o'=>if o=o'&&x.sc nv&&x.beq y then(p,w)else(.undef,w)
  | .cz x i z o, .cz y j z' o'=>if o=o'&&z=z'&&x.sc nv&&x.beq y&&i.sc nv&&i.beq j then(p,w)else(.undef,w)
  | .lent i, .lent j=>if i==j&&decide (i<nv)then(p,w)else(.undef,w)
  |_,_=>(.undef,w)
def N5(nv:Nat)(pat leaf:St):Nat->Wd->List SV->List SV->List SV × Wd
 |0,w,_,_=>([],w)
 |n+1,w,p::ps,s::ss=>
  let(x,w):=wS nv pat leaf n w p s;let(xs,w):=N5 nv pat leaf n w ps ss
  (x::xs,w)
 |_,w,_,_=>([],w)
end
def Pv(nv:Nat)(pat leaf:St):List (Nat × Ah)->Wd->List (Nat × Ah)->List (Nat × Ah) × Wd
 | [],w,acc=>(acc.reverse,w)
 |(t,e)::l,w,acc=>
  match e,(w.θ.lookup t)with
  | .box ty g cs,some t'=>(match AD leaf.hp t' with
   |some (.box ty' _ ds)=>if ty=ty' then
     let w0:=w;let(xs,w):=N5 nv pat leaf AW w0 cs ds
     Pv nv pat leaf l w ((t, .box ty g xs)::acc)
    else Pv nv pat leaf l w acc
   |_=>Pv nv pat leaf l w acc)
  | .box ..,none=>Pv nv pat leaf l w acc
  |e,_=>Pv nv pat leaf l w ((t,e)::acc)
def Fy(nv:Nat)(leaf:St):List (Nat × Ah)->Wd->List (Nat × Ah)->List (Nat × Ah) × Wd
 | [],w,acc=>(acc.reverse,w)
 |(t,e)::l,w,acc=>
  match e with
  | .row et z g x d=>(match w.θ.lookup t with
   |some t'=>if bB<=t' then(let(x,w):=wE nv w x (.lst .nil);Fy nv leaf l w ((t, .row et z g x d)::acc))else(match AD leaf.hp t' with
    |some (.row _ _ _ y d')=>let(x,w):=wE nv w x y;Fy nv leaf l w ((t, .row et z g x (d&&d'))::acc)
    |some (.bh _ y)=>let(x,w):=wE nv w x y;Fy nv leaf l w ((t, .bh g x)::acc)
    |some (.deep _ _ _ _ _ y)=>let(x,w):=wE nv w x y;Fy nv leaf l w ((t, .row et z g x false)::acc)
    |_=>Fy nv leaf l w acc)
   |none=>Fy nv leaf l w acc)
  | .deep et z dl g ep x=>(match w.θ.lookup t with
   |some t'=>if bB<=t' then(let(x,w):=wE nv w x (.lst .nil);Fy nv leaf l w ((t, .deep et z dl g ep x)::acc))else(match AD leaf.hp t' with
    |some (.deep _ _ _ _ _ y)=>let(x,w):=wE nv w x y;Fy nv leaf l w ((t, .deep et z dl g ep x)::acc)
    |some (.row _ _ _ y _)=>let(x,w):=wE nv w x y;Fy nv leaf l w ((t, .row et z g x false)::acc)
    |some (.bh _ y)=>let(x,w):=wE nv w x y;Fy nv leaf l w ((t, .bh g x)::acc)
    |_=>Fy nv leaf l w acc)
   |none=>Fy nv leaf l w acc)
  | .bh g x=>(match w.θ.lookup t with
   |some t'=>(match AD leaf.hp t' with
    |some (.row _ _ _ y _)=>let(x,w):=wE nv w x y;Fy nv leaf l w ((t, .bh g x)::acc)
    |some (.bh _ y)=>let(x,w):=wE nv w x y;Fy nv leaf l w ((t, .bh g x)::acc)
    |some (.deep _ _ _ _ _ y)=>let(x,w):=wE nv w x y;Fy nv leaf l w ((t, .bh g x)::acc)
    |_=>Fy nv leaf l w acc)
   |none=>Fy nv leaf l w acc)
  |e=>Fy nv leaf l w ((t,e)::acc)
def nY(nv live:Nat)(pat:St × Nat)(leaf:St):St × Nat:=
 let w0:Wd:={hp:=pat.1.hp,nx:=max pat.1.nx leaf.nx,n:=pat.2,θ:=[]}
 let(sl,w):=N5 nv pat.1 leaf 2000 w0 (pat.1.sl.zipIdx.map λ(s,i)=>if live.testBit i then s else .undef) leaf.sl;let n0:=w.hp.length;let(hp,w):=Pv nv pat.1 leaf w.hp w [];let hp:=hp++w.hp.drop n0;let(hp,w):=Fy nv leaf hp w []
 ({sl,hp,nx:=max w.nx leaf.nx,nv:=pat.1.nv},w.n)
def Tp(nv:Nat):E->E
 | .var i=>if Pm<=i then .var (nv+(i-Pm))else .var i
 |e=>e
mutual
def XN(nv:Nat):SV->SV
 | .e x=> .e (Tp nv x)
 | .agg cs=> .agg (V0 nv cs)
 | .tup cs=> .tup (V0 nv cs)
 | .fn f cs=> .fn f (V0 nv cs)
 | .gd _ _=> .undef
 |s=>s
def V0(nv:Nat):Bp->Bp
 | .nil=> .nil
 | .cons s l=> .cons (XN nv s) (V0 nv l)
end
def zzK(nv:Nat):Ah->Ah
 | .box ty g cs=> .box ty g (cs.map (XN nv))
 | .row e z g x d=> .row e z g (Tp nv x) d
 | .bh g x=> .bh g (Tp nv x)
 | .deep e z l g ep x=> .deep e z l g ep (Tp nv x)
 | .gd _ _=> .dead
 |e=>e
def nC(nv:Nat)(p:St × Nat):St:={sl:=p.1.sl.map (XN nv),hp:=p.1.hp.map λ(t,e)=>(t,zzK nv e),nx:=p.1.nx,nv:=nv+p.2}
def IS(nv:Nat)(es:List E)(x y:E):Bool:=
 match x with
 | .var i=>if i<nv then x.beq y else(match es[i-nv]? with|some z=>z.beq y|none=>false)
 |_=>x.sc nv&&x.beq y
section
variable (nv:Nat) (es:List E) (θ:List (Nat × Option Nat)) (pat leaf:St)
mutual
def Q3:Nat->SV->SV->Bool
 |0,_,_=>false
 |n+1,p,s=>
  match p with
  | .undef=>true
  | .e x=>(match Ie leaf s with
   |some y=>IS nv es x y&&(BN (AD leaf.hp) [] (AW+1) [s]).all λt'=>θ.all λ(u,v)=>v !=some t'||(match AD pat.hp u with|some (.bh ..)=>true|none=>true|_=>false)
   |none=>false)
  | .bq=>(match s with| .bq=>true|_=>false)
  | .emp=>(match s with| .emp=>true| .bq=>true|_=>false)
  | .own t g=>(match AD pat.hp t with
   |some (.row _ _ g' _ _)=>g==g'&&(match s with
    | .own t' v=>θ.lookup t==some (some t')&&Jy leaf.hp t' v
    | .bq=>θ.lookup t==some none
    |_=>false)
   |some (.bh g' _)=>g==g'&&(match s with
    | .own t' v=>θ.lookup t==some (some t')&&Jy leaf.hp t' v
    |_=>false)
   |some (.deep _ _ _ g' _ _)=>g==g'&&(match s with
    | .own t' v=>θ.lookup t==some (some t')&&Jy leaf.hp t' v
    | .bq=>θ.lookup t==some none
    |_=>false)
   |_=>false)
  | .ca t o=>(match AD pat.hp t with
   |some (.box ..)=>(match s with| .ca t' o'=>o==o'&&θ.lookup t==some (some t')|_=>false)
   |_=>false)
  | .cd .. =>false
  | .cz x i z o=>(match s with| .cz y j z' o'=>z==z'&&o==o'&&x.sc nv&&x.beq y&&i.sc nv&&i.beq j|_=>false)
  | .c7 x o=>(match s with| .c7 y o'=>o==o'&&x.sc nv&&x.beq y|_=>false)
  | .agg cs=>(match s with| .agg ds=>GJ n cs.toList ds.toList|_=>false)
  | .tup cs=>(match s with| .tup ds=>GJ n cs.toList ds.toList|_=>false)
  | .fn f cs=>(match s with| .fn g ds=>f==g&&GJ n cs.toList ds.toList|_=>false)
  | .gd .. =>false
  | .via .. =>false
  | .vptr .. =>false
  | .wown .. =>false
  | .lent i=>(match s with| .lent j=>i==j&&decide (i<nv)|_=>false)
def GJ:Nat->List SV->List SV->Bool
 |0,_,_=>false
 |_+1,[],[]=>true
 |n+1,p::ps,s::ss=>Q3 n p s&&GJ n ps ss
 |_,_,_=>false
end
def Hi(t:Nat)(e:Ah):Bool:=
 match e with
 | .box ty g cs=>(match θ.lookup t with
  |some (some t')=>(match AD leaf.hp t' with|some (.box ty' g' ds)=>ty==ty'&&g==g'&&GJ nv es θ pat leaf AW cs ds|_=>false)
  |_=>false)
 | .row et z _ x d=>(match θ.lookup t with
  |some (some t')=>(match AD leaf.hp t' with|some (.row et' z' _ y d')=>et==et'&&z==z'&&IS nv es x y&&(!d||d')|some (.deep et' z' _ _ _ y)=>et==et'&&z==z'&&IS nv es x y&& !d|_=>false)
  |some none=>IS nv es x (.lst .nil)&&0<z
  |none=>false)
 | .deep et z dl _ _ x=>(match θ.lookup t with
  |some (some t')=>(match AD leaf.hp t' with|some (.deep et' z' dl' _ _ y)=>et==et'&&z==z'&&(AG.of dl).beq (AG.of dl')&&IS nv es x y|_=>false)
  |some none=>IS nv es x (.lst .nil)&&0<z&&dl.length==z
  |none=>false)
 | .bh _ x=>(match θ.lookup t with
  |some (some t')=>(match AD leaf.hp t' with|some (.row _ _ _ y _)=>IS nv es x y|some (.bh _ y)=>IS nv es x y|some (.deep _ _ _ _ _ y)=>IS nv es x y|_=>false)
  |_=>false)
 | .hol .. =>false
 | .pre .. =>false
 | .gd .. =>false
 | .dead=>true
def LN:List (Nat × Option Nat)->Bool
 | []=>true
 |(t,some u)::l=>l.all (λ(t',v)=>t !=t'&&v !=some u)&&LN l
 |(t,none)::l=>l.all (λ(t',_)=>t !=t')&&LN l
def Lp(t:Nat):Bool:=(match AD pat.hp t with
 |none=>true
 |some .dead=>true
 |some (.bh g _)=>g !=0
 |some (.row _ _ g _ _)=>g !=0||(θ.lookup t==some (some t)&&(match AD leaf.hp t with|some (.row _ _ g' _ _)=>g'==0|_=>false))
 |some (.deep _ _ _ g _ _)=>g !=0||(θ.lookup t==some (some t)&&(match AD leaf.hp t with|some (.deep _ _ _ g' _ _)=>g'==0|_=>false))
 |some (.box ..)=>θ.lookup t==some (some t)&&(match AD leaf.hp t with|some (.box ..)=>true|_=>false)
 |_=>false)
def oE:Bool:=
 pat.nv==nv+es.length&&LN θ&&pat.sl.length==leaf.sl.length&&GJ nv es θ pat leaf 2000 pat.sl leaf.sl&&(pat.hp.all λ(t,e)=>Hi nv es θ pat leaf t e&&decide (t<pat.nx))&&decide (100000<=pat.nx)&&pat.hp.all λ(t,_)=> !LU t||Lp θ pat leaf t
end
structure In where
 as_:List (Nat × E)
 θ:List (Nat × Option Nat)
def Jq(a:In)(nv:Nat)(x y:E):In:=match x with| .var i=>if i<nv then a else{a with as_:=(i,y)::a.as_}|_=>a
def bH(a:In)(t:Nat)(t':Option Nat):In:=match a.θ.lookup t with|some _=>a|none=>{a with θ:=(t,t')::a.θ}
mutual
def sC(nv:Nat)(pat leaf:St):Nat->In->SV->SV->In
 |0,a,_,_=>a
 |n+1,a,p,s=>
  match p,s with
  | .e x,s=>(match Ie leaf s with|some y=>Jq a nv x y|none=>a)
  | .own t g, .own t' _=>if Jy pat.hp t g then bH a t (some t')else a
  | .own t g, .bq=>if Jy pat.hp t g then bH a t none else a
  | .ca t _, .ca t' _=>bH a t (some t')
  | .agg cs, .agg ds=>LZ nv pat leaf n a cs.toList ds.toList
  | .tup cs, .tup ds=>LZ nv pat leaf n a cs.toList ds.toList
  | .fn _ cs, .fn _ ds=>LZ nv pat leaf n a cs.toList ds.toList
  |_,_=>a
def LZ(nv:Nat)(pat leaf:St):Nat->In->List SV->List SV->In
 |0,a,_,_=>a
 |n+1,a,p::ps,s::ss=>LZ nv pat leaf n (sC nv pat leaf n a p s) ps ss
 |_,a,_,_=>a
end
def Nr(nv:Nat)(pat leaf:St)(AS:Bool):List (Nat × Ah)->In->In
 | [],a=>a
 |(t,e)::l,a=>Nr nv pat leaf AS l (match e,a.θ.lookup t with
  | .box _ _ cs,some (some t')=>if AS then a else(match AD leaf.hp t' with|some (.box _ _ ds)=>LZ nv pat leaf AW a cs ds|_=>a)
  | .row _ _ _ x _,some (some t')=>if AS then(match AD leaf.hp t' with|some (.row _ _ _ y _)=>Jq a nv x y|some (.bh _ y)=>Jq a nv x y|some (.deep _ _ _ _ _ y)=>Jq a nv x y|_=>a)else a
  | .deep _ _ _ _ _ x,some (some t')=>if AS then(match AD leaf.hp t' with|some (.deep _ _ _ _ _ y)=>Jq a nv x y|_=>a)else a
  | .deep _ _ _ _ _ x,some none=>if AS then Jq a nv x (.lst .nil)else a
  | .row _ _ _ x _,some none=>if AS then Jq a nv x (.lst .nil)else a
  | .bh _ x,some (some t')=>if AS then(match AD leaf.hp t' with|some (.row _ _ _ y _)=>Jq a nv x y|some (.bh _ y)=>Jq a nv x y|some (.deep _ _ _ _ _ y)=>Jq a nv x y|_=>a)else a
  |_,_=>a)
def JN(nv:Nat)(pat leaf:St):Option (List E):=
 let a:=LZ nv pat leaf 2000 ⟨[],[]⟩ pat.sl leaf.sl;let a:=Nr nv pat leaf false pat.hp a;let a:=Nr nv pat leaf true pat.hp a;let es:=(List.range (pat.nv-nv)).map λj=>(a.as_.lookup (nv+j)).getD (.int .i64 0)
 if oE nv es a.θ pat leaf then some es else none
def mI(nv live:Nat):List St->Option St
 | []=>none
 |σ::ls=>some (nC nv ((σ::ls).foldl (nY nv live) ({σ with nv:=nv},0)))
section
variable (P:Program) (sg:BR) (rs:Nat)
def Sf(run:St->Option Tr)(nv live:Nat)(σ:St):Nat->St × Nat->Option (St × Tr)
 |0,_=>none
 |n+1,p=>
  let pat:=nC nv p
  match run pat with
  |none=>none
  |some t=>
   if t.cw.all λl=>(JN nv pat l).isSome then some (pat,t)
   else Sf run nv live σ n (t.cw.foldl (λp l=>nY nv live p (unname nv l)) p)
where
 unname (_:Nat) (l:St):St:=l
def D8:Code->List (Nat × Nat)->Nat->St->Option Tr
 | .skip,_,_,σ=>some (.leaf .normal σ)
 | .label _,_,_,σ=>some (.leaf .normal σ)
 | .ret,_,_,σ=>some (.leaf .ret σ)
 | .exit id,_,_,σ=>some (.leaf (.exit id) σ)
 | .region _ ops draw,_,_,σ=>if nN ops then some .stuck else if !σ.sc|| !(σ.hp.all λ(t,_)=>decide (t<σ.nx))then none else KQ P sg ops draw σ.nx (List.range ops.size) [] σ
 | .scope b,ex,l,σ=>D8 b ex l σ
 | .cond c a b,ex,l,σ=>
  match Bn (Bv σ) [] c with
  |some (.e (.bool true))=>D8 a ex l σ
  |some (.e (.bool false))=>D8 b ex l σ
  |some (.e x)=>(match D8 a ex l σ,D8 b ex l σ with
   |some ta,some tb=>some (.ite x ta tb)
   |_,_=>none)
  |_=>none
 | .block id b,ex,l,σ=>(D8 b ((id,l)::ex) l σ).bind λt=>t.sub (λ_ x τ=>some (.leaf (match x with| .exit j=>if j=id then .normal else .exit j|x=>x) τ)) 0
 | .seq a b,ex,l,σ=>
  let lb:=Cj rs b ex l
  match D8 a ex lb σ with
  |none=>none
  |some t=>
   match t.cw with
   | []=>some t
   | [τ]=>(match D8 b ex l τ with
    |none=>none
    |some k=>t.sub (λ_ x τ=>some (match x with| .normal=>k|x=> .leaf x τ)) 0)
   |ls=>(match mI σ.nv lb ls with
    |none=>none
    |some pat=>(match D8 b ex l pat with
     |none=>none
     |some k=>(t.sub (λd x τ=>match x with
       | .normal=>(JN σ.nv pat τ).map λes=> .jmp d (EL.of es)
       |x=>some (.leaf x τ)) 0).map λt'=> .join t' k))
 | .loop b,ex,l,σ=>
  let lh:=Cj rs (.loop b) ex l
  match Sf (λτ=>D8 b ex lh τ) σ.nv lh σ 6 ({σ with sl:=σ.sl.zipIdx.map λ(s,i)=>if lh.testBit i then s else .undef},0)with
  |none=>none
  |some (pat,t)=>
   match JN σ.nv pat σ with
   |none=>none
   |some i0=>
    match t.b8 with
    |none=>(t.sub (λd x τ=>match x with
      | .normal=>(JN σ.nv pat τ).map λes=> .jmp d (EL.of es)
      |x=>some (.leaf x τ)) 0).map λt'=> .loop (EL.of i0) t' (.ret (.int .i64 0))
    |some id=>
     match mI σ.nv ((ex.lookup id).getD 0) (t.dh id)with
     |none=>none
     |some post=>(t.sub (λd x τ=>match x with
       | .normal=>(JN σ.nv pat τ).map λes=> .jmp d (EL.of es)
       | .exit j=>if j=id then(JN σ.nv post τ).map λes=> .jmp (d+1) (EL.of es)else some (.leaf x τ)
       |x=>some (.leaf x τ)) 0).map λt'=> .loop (EL.of i0) t' (.leaf (.exit id) post)
 |_,_,_,_=>none
end
section
variable (P:Program) (sg:BR)
def PE(i b:Nat)(t:TypeId)(own:List Bool):Option (SV × List (Nat × Ah)):=
 let l:=CI P (1000*i+b) (Dt (.var i) (An P t)) 0 (A5 P t) own
 if 400<(A5 P t).length then none else
 if An P t then some (.agg (Bp.of l.1),l.2)else(match l.1 with| [s]=>some (s,l.2)|_=>none)
def VN(i:Nat)(t:TypeId)(lo:Bool):PM->Option (SV × List (Nat × Ah))
 | .ro=>some (if lo then .lent i else .e (.var i),[])
 | .va own=>PE P i 1 t own
 | .mu own=>PE P i 500 t own
 | .bx own _=>match JO P t with
  |some ty=>
   let l:=CI P (1000*i+1) (Dt (.deref (.var i)) true) 0 (A5 P ty) own
   if 400<(A5 P ty).length then none else some (.ca (1000*i) 0,(1000*i, .box ty (An P ty) l.1)::l.2)
  |none=>none
def Ly:Nat->List TypeId->List PM->List Bool->Option (List SV × List (Nat × Ah))
 |_,[],_,_=>some ([],[])
 |i,t::ts,ms,lo=>match VN P i t (lo.headD false) (ms.headD .ro),Ly (i+1) ts ms.tail lo.tail with
  |some (s,l),some (ss,ls)=>some (s::ss,l++ls)
  |_,_=>none
def aB(fn:Func)(s:FF):Option St:=
 match Ly P 0 (Ew fn s++s.ft) s.cf s.lo with
 |none=>none
 |some (ss,l)=>
  let n:=fn.params.size+fn.nfree;let fr:=(List.range (fn.nfree-s.ft.length)).map λj=>SV.e (.var (fn.params.size+s.ft.length+j))
  if fn.ntmps<n||99<fn.params.size+s.ft.length||fn.nfree<s.ft.length then none else some {sl:=ss++fr++List.replicate (fn.ntmps-n) .undef,hp:=l,nx:=100000,nv:=n}
def Pf(σ:St):ResultVar->Option SV
 | .tmp t=>some (Bv σ t)
 | .cell a ty=>match Bv σ a with
  | .ca b o=>(match AD σ.hp b with|some (.box _ _ cs)=>if C2 P ty then Nx P ty cs o else none|_=>none)
  |_=>none
def KM(σ:St):List TypeId->List Bool->List SV->Option (List Nat)
 | [],_,[]=>some []
 |t::ts,fl,c::cs=>(match KM σ ts fl.tail cs with
  |none=>none
  |some l=>match fl.headD false,Da P t with
   |true,some e=>if P.cellsOf e=0 then none else(match c with
    | .bq=>some l
    | .own u g=>(match AD σ.hp u with
     |some (.row e' z g' _ d)=>if g=g'/\e'=e/\z=P.cellsOf e/\(B1 P e/\d\/B1 P e=false/\(DF P t).isNone)then some (u::l)else none
     |some (.deep e' z dl g' _ _)=>if g=g'/\B1 P e=false/\Nq (DF P t) e' z dl then some (u::l)else none
     |_=>none)
    |_=>none)
   |_,_=>some l)
 |_,_,_=>none
def aU(σ:St)(t:TypeId)(fl:List Bool)(s:SV):Option (List Nat):=
 if HM P t fl then
  if An P t then(match s with| .agg cs=>KM P σ (A5 P t) fl cs.toList|_=>none)else KM P σ (A5 P t) fl [s]
 else some []
def Nn(σ:St):List TypeId->List Bool->List SV->Option (List Nat)
 | [],_,[]=>some []
 |t::ts,fl,s::ss=>(match aU P σ t fl s,Nn σ ts (fl.drop (A5 P t).length) ss with
  |some a,some b=>some (a++b)
  |_,_=>none)
 |_,_,_=>none
def SB(σ:St)(i:Nat)(mk:Nat->E):Nat->List TypeId->List Bool->Option (List E × List Nat)
 |_,[],_=>some ([],[])
 |j,t::ts,fl=>match SB σ i mk (j+1) ts fl.tail with
  |none=>none
  |some (xs,us)=>match fl.headD false,Da P t with
   |true,some e=>(match AD σ.hp (1000*i+500+j)with
    |some (.row e' z 0 y d)=>if e'=e/\z=P.cellsOf e/\(B1 P e/\d\/B1 P e=false/\(DF P t).isNone)then some (y::xs,(1000*i+500+j)::us)else none
    |some (.deep e' z dl 0 _ y)=>if B1 P e=false/\Nq (DF P t) e' z dl then some (y::xs,(1000*i+500+j)::us)else none
    |_=>none)
   |_,_=>some (mk j::xs,us)
def Se(σ:St):Nat->List TypeId->List PM->Option (List E × List Nat)
 |_,[],_=>some ([],[])
 |i,t::ts,ms=>match Se σ (i+1) ts ms.tail with
  |none=>none
  |some (xs,us)=>if 99<i then none else match ms.headD .ro with
   | .ro=>some (xs,us)
   | .va _=>some (xs,us)
   | .mu own=>if 400<(A5 P t).length then none else(match SB P σ i (Dt (.var i) (An P t)) 0 (A5 P t) own with
    |some (es,vs)=>some ((if An P t then .mk (EL.of es)else es.headD (.var i))::xs,vs++us)
    |none=>none)
   | .bx _ own'=>(match JO P t,AD σ.hp (1000*i)with
    |some ty,some (.box ty' _ cs)=>if ty'≠ty then none else(match Cm (AD σ.hp) [] AW cs,KM P σ (A5 P ty) own' cs with
     |some es,some vs=>some (.mk es::xs,(1000*i)::vs++us)
     |_,_=>none)
    |_,_=>none)
def Jf(σ:St):List TypeId->List Bool->List SV->List Nat
 |t::ts,fl,c::cs=>(if fl.headD false&&(Da P t).isSome then []else BN (AD σ.hp) [] (AW+1) [c])++Jf σ ts fl.tail cs
 |_,_,_=> []
def bR(σ:St)(t:TypeId)(fl:List Bool)(s:SV):List Nat:=
 if HM P t fl then(if An P t then(match s with| .agg cs=>Jf P σ (A5 P t) fl cs.toList|_=> [])else Jf P σ (A5 P t) fl [s])else BN (AD σ.hp) [] (AW+1) [s]
def Sm(σ:St):List TypeId->List Bool->List SV->List Nat
 |t::ts,fl,s::ss=>bR P σ t fl s++Sm σ ts (fl.drop (A5 P t).length) ss
 |_,_,_=> []
def Nz(σ:St):Nat->List TypeId->List PM->List Nat
 |_,[],_=> []
 |i,t::ts,ms=>(match ms.headD .ro,JO P t,AD σ.hp (1000*i)with
  | .bx _ own',some ty,some (.box _ _ cs)=>Jf P σ (A5 P ty) own' cs
  |_,_,_=> [])++Nz σ (i+1) ts ms.tail
def VO(fn:Func)(s:FF)(σ:St):Option Tr:=
 match fn.results.toList.mapM (Pf P σ),Se P σ 0 (Ew fn s++s.ft) s.cf with
 |some rs,some (bx,us)=>
  match Cm (AD σ.hp) [] AW rs,Nn P σ (DE fn s) s.res rs with
  |some es,some vs=>
   if !KP (vs++us)||(Sm P σ (DE fn s) s.res rs++Nz P σ 0 (Ew fn s++s.ft) s.cf).any (λt=>(vs++us).contains t)then none else
   let r:E:=match es with| .cons x .nil=>x|es=> .tup es
   some (.ret (if bx.isEmpty then r else .tup (EL.of (r::bx))))
  |_,_=>none
 |_,_=>none
def lY(fn:Func)(s:FF):Nat:=
 fn.results.toList.foldl (λl r=>l|||match r with| .tmp t=>bit t| .cell a _=>bit a) 0|||(s.cf.zipIdx.foldl (λl (m,i)=>match m with| .bx .. =>l|||bit i| .mu _=>l|||bit i|_=>l) 0)
def SL(f:Nat):Option Tr:=
 match P.funcs[f]?,sg f with
 |some fn,some s=>(match fn.body,aB P fn s with
  |some c,some σ=>(match D8 P {sg with dp:=s.dp,wn:=s.wn,fz:=s.fz} (lY fn s) c [] (lY fn s) σ with
   |some t=>t.sub (λ_ x τ=>match x with| .normal=>VO P fn s τ| .ret=>VO P fn s τ| .exit _=>none) 0
   |none=>none)
  |_,_=>none)
 |_,_=>none
end
def CQ(w:World)(ety sz:Nat)(v:Value)(x:AV)(top N:List Nat):Prop:=
 ∃xs,x= .sl xs/\(∀y∈xs,y.cells.length=sz)/\0<sz/\
  ((xs=[]/\(∃a,v= .slice a 0 0)/\top=[]/\N=[])\/
   ∃g cap C,v= .slice (some ⟨g,0,none⟩) xs.length cap/\xs.length<=cap/\cap<=maxLen/\w.heap[g]?=some (.cells C ety (0,0))/\C.size=cap*sz/\top=[g]/\(∀u∈C.toList.take (xs.length*sz),u.oneCell'=true)/\Rd w (C.toList.take (xs.length*sz)) (AA xs) N)
theorem CQ.win{w:World}{ety sz:Nat}{q:Option Addr}{n cap:Nat}{x:AV}{top N:List Nat}(h:CQ w ety sz (.slice q n cap) x top N){k r:Nat}{q':Option Addr}(hk:k<=n)(hq:k<n-> ∃b,q=some ⟨b,0,none⟩/\q'=some ⟨b,k*sz,none⟩/\r=cap-k):
  ∃xs f,x= .sl xs/\xs.length=n/\Rd w [.slice q' (n-k) r] [.sl (xs.drop k)] f/\ ∀b∈f,b∈top\/b∈N:=by
 obtain⟨xs,rfl,h2,h3,⟨rfl,⟨a,hv⟩,rfl,rfl⟩|⟨g,cap',C,hv,h6,h7,h8,h9,rfl,EM,Ea⟩⟩:=h
 ·cases hv;have:k=0:=by omega
  subst this;exact⟨[],[],rfl,rfl,by simpa using Rd.di .nil,by simp⟩
 ·cases hv;refine⟨xs,?_⟩;rcases Nat.lt_or_ge k xs.length with AI|Iv
  ·obtain⟨b,hb,rfl,rfl⟩:=hq AI;cases hb;have Du:C.toList.length=cap*sz:=by simpa using h9
   have hmul:xs.length*sz<=cap*sz:=BB _ h6;have FL:k*sz<=xs.length*sz:=BB _ hk;obtain⟨g1,k1,k2⟩:=Ea.piece (k*sz) ((xs.length-k)*sz);have e1:((AA xs).drop (k*sz)).take ((xs.length-k)*sz)=AA (xs.drop k):=by
    have hf:AA xs=AA (xs.take k)++AA (xs.drop k):=by
     have h0:AA (xs.take k++xs.drop k)=AA (xs.take k)++AA (xs.drop k):=by simp only[AA,List.flatMap_append]
     rw[BV]at h0;exact h0
    have hl:∀ys:List AV,(∀y∈ys,y.cells.length=sz)->(AA ys).length=ys.length*sz:=by
     intro ys hy
     induction ys with
     |nil=>simp[AA]
     |cons y ys ih=>simp only[AA,List.flatMap_cons,Ap,Ao]at ih ⊢;rw[hy y (by simp),ih λz hz=>hy z (by simp[hz]),Nat.add_mul];omega
    rw[hf,List.drop_append,List.drop_eq_nil_of_le (by rw[hl _ λy hy=>h2 y (BM hy)];simp[Nat.min_eq_left hk]),hl _ λy hy=>h2 y (BM hy)];simp only[A1,Nat.min_eq_left hk,Nat.sub_self,List.drop_zero,List.nil_append];rw[List.take_of_length_le];rw[hl _ λy hy=>h2 y (Cd hy)];simp
   rw[e1]at k2;refine⟨_,rfl,rfl,Rd.en (sz:=sz) h8 (by omega) ⟨by have:maxLen=9223372036854775807:=rfl;omega,by omega⟩ (by simp) (λy hy=>h2 y (Cd hy)) h3 (λj u hu=> ?_) (λu hu=>EM u (Cd (BM hu))) k2 .nil,λb hb=> ?_⟩
   ·rw[List.getElem?_take]at hu;split at hu
    ·rw[List.getElem?_drop,List.getElem?_take]at hu;split at hu
     ·simpa using hu
     ·cases hu
    ·cases hu
   ·simp only[AJ,Ad]at hb;rcases hb with rfl|hb
    ·exact .inl (by simp)
    ·exact .inr (k1 b hb)
  ·have e0:xs.length-k=0:=by omega
   rw[e0,List.drop_eq_nil_of_le Iv];exact⟨[],rfl,rfl, .di .nil,by simp⟩
def Ci(n:Nat)(l:List DT):List DT:=(List.replicate n l).flatten
theorem Vu(n:Nat)(l:List DT):(Ci n l).length=n*l.length:=by
 induction n with
 |zero=>simp[Ci]
 |succ n ih=>simp only[Ci,List.replicate_succ,List.flatten_cons,Ap]at ih ⊢;rw[ih,Nat.add_mul];omega
theorem Na(n:Nat)(l:List DT):Ci (n+1) l=l++Ci n l:=by simp[Ci,List.replicate_succ]
theorem ZK(n m:Nat)(l:List DT):Ci (n+m) l=Ci n l++Ci m l:=by
 induction n with
 |zero=>simp[Ci]
 |succ n ih=>rw[show n+1+m=(n+m)+1 from by omega,Na,ih,Na,List.append_assoc]
theorem Zr(n:Nat){l:List DT}(h:l.all DT.bj=true):(Ci n l).all DT.bj=true:=by
 induction n with
 |zero=>rfl
 |succ n ih=>rw[Na,List.all_append,h,ih];rfl
mutual
theorem DT.beq_eq:∀(a b:DT),a.beq b=true->a=b
 | .flat, .flat,_=>rfl
 | .row e z l, .row e' z' l',h=>by simp only[DT.beq,Ae,Ax]at h;rw[h.1.1,h.1.2,AG.beq_eq _ _ h.2]
 | .flat, .row ..,h=>by simp[DT.beq]at h
 | .row .., .flat,h=>by simp[DT.beq]at h
theorem AG.beq_eq:∀(a b:AG),a.beq b=true->a=b
 | .nil, .nil,_=>rfl
 | .cons a as_, .cons b bs,h=>by simp only[AG.beq,Ae]at h;rw[DT.beq_eq _ _ h.1,AG.beq_eq _ _ h.2]
 | .nil, .cons ..,h=>by simp[AG.beq]at h
 | .cons .., .nil,h=>by simp[AG.beq]at h
end
theorem AG.ak(l:List DT):(AG.of l).toList=l:=by induction l<;>simp[AG.of,AG.toList, *]
theorem AG.cj:∀l:AG,AG.of l.toList=l
 | .nil=>rfl
 | .cons d l=>by simp[AG.toList,AG.of,AG.cj l]
theorem AG.ej{l l':List DT}(h:(AG.of l).beq (AG.of l')=true):l=l':=by have:=congrArg AG.toList (AG.beq_eq _ _ h);simpa[AG.ak]using this
theorem AG.of_eq{l:List DT}{l':AG}(h:(AG.of l).beq l'=true):l=l'.toList:=by have:=congrArg AG.toList (AG.beq_eq _ _ h);simpa[AG.ak]using this
theorem U5{d:Option DT}{e z:Nat}{l:List DT}(h:Nq d e z l=true):d=some (.row e z (AG.of l)):=by
 cases d with
 |none=>simp[Nq]at h
 |some d=>
  cases d with
  |flat=>simp[Nq]at h
  |row e' z' l'=>simp only[Nq,Ae,Ax]at h;obtain⟨⟨rfl,rfl⟩,h3⟩:=h;rw[AG.of_eq h3,AG.cj]
inductive DC(w:World):List DT->List Value->List AV->List Nat->Prop where
 |nil:DC w [] [] [] []
 |flat {v x ts vs xs N}:Rd w [v] [x] []->DC w ts vs xs N->DC w (.flat::ts) (v::vs) (x::xs) N
 |void {e z l a ts vs xs N}:0<z->l.toList.length=z->DC w ts vs xs N->DC w (.row e z l::ts) (.slice a 0 0::vs) (.sl []::xs) N
 |row {e z l g cap C ys N1 ts vs xs N}:0<z->l.toList.length=z->w.heap[g]?=some (.cells C e (0,0))->ys.length<=cap->cap<=maxLen->C.size=cap*z->(∀y∈ys,y.cells.length=z)->(∀u∈C.toList.take (ys.length*z),u.oneCell'=true)->
   DC w (Ci ys.length l.toList) (C.toList.take (ys.length*z)) (AA ys) N1->DC w ts vs xs N->DC w (.row e z l::ts) (.slice (some ⟨g,0,none⟩) ys.length cap::vs) (.sl ys::xs) (g::(N1++N))
theorem DC.len{w:World}{ts:List DT}{vs:List Value}{xs:List AV}{N:List Nat}(h:DC w ts vs xs N):vs.length=ts.length/\xs.length=ts.length:=by
 induction h with
 |nil=>simp
 |flat _ _ ih=>simp[ih]
 |void _ _ _ ih=>simp[ih]
 |row _ _ _ _ _ _ _ _ _ _ _ ih=>simp[ih]
theorem DC.frame{w w':World}{ts:List DT}{vs:List Value}{xs:List AV}{N:List Nat}(h:DC w ts vs xs N):(∀b∈N,w'.heap[b]?=w.heap[b]?)->DC w' ts vs xs N:=by
 induction h with
 |nil=>exact λ_=> .nil
 |flat a _ ih=>exact λhf=> .flat (a.frame (by simp)) (ih hf)
 |void a b _ ih=>exact λhf=> .void a b (ih hf)
 |row h1 h2 h3 h4 h5 h6 h7 h8 _ _ ih1 ih2=>exact λhf=> .row h1 h2 (by rw[hf _ (by simp)];exact h3) h4 h5 h6 h7 h8 (ih1 λb m=>hf b (by simp[m])) (ih2 λb m=>hf b (by simp[m]))
theorem DC.inb{w:World}{ts:List DT}{vs:List Value}{xs:List AV}{N:List Nat}(h:DC w ts vs xs N):∀b∈N,b<w.heap.size:=by
 induction h with
 |nil=>simp
 |flat _ _ ih=>exact ih
 |void _ _ _ ih=>exact ih
 |row h1 h2 h3 h4 h5 h6 h7 h8 _ _ ih1 ih2=>
  intro b m;simp only[Ad,Ag]at m;rcases m with rfl|m|m
  ·exact Fv h3
  ·exact ih1 b m
  ·exact ih2 b m
theorem DC.app{w:World}{ts us:List DT}{vs ws:List Value}{xs ys:List AV}{N M:List Nat}(h:DC w ts vs xs N)(k:DC w us ws ys M):DC w (ts++us) (vs++ws) (xs++ys) (N++M):=by
 induction h with
 |nil=>exact k
 |flat a _ ih=>exact .flat a ih
 |void a b _ ih=>exact .void a b ih
 |row h1 h2 h3 h4 h5 h6 h7 h8 h9 _ _ ih2=>simp only[List.cons_append,List.append_assoc];exact DC.row h1 h2 h3 h4 h5 h6 h7 h8 h9 ih2
theorem DC.bu{w:World}{t:DT}{ts:List DT}{v:Value}{vs:List Value}{x:AV}{xs:List AV}{N:List Nat}(h:DC w (t::ts) (v::vs) (x::xs) N):
  ∃N1 N2,N=N1++N2/\DC w [t] [v] [x] N1/\DC w ts vs xs N2:=by
 cases h with
 |flat a h=>exact⟨[],N,rfl, .flat a .nil,h⟩
 |void a b h=>exact⟨[],N,rfl, .void a b .nil,h⟩
 |row h1 h2 h3 h4 h5 h6 h7 h8 h9 h=>rename_i g cap C ys N1 N2 l;exact⟨_::(_++ []),_,by simp, .row h1 h2 h3 h4 h5 h6 h7 h8 h9 .nil,h⟩
theorem DC.df{w:World}:∀{ts us:List DT} {vs ws:List Value} {xs ys:List AV} {N:List Nat},vs.length=ts.length->xs.length=ts.length->DC w (ts++us) (vs++ws) (xs++ys) N-> ∃N1 N2,N=N1++N2/\DC w ts vs xs N1/\DC w us ws ys N2
 | [],us,[],ws,[],ys,N,_,_,h=>⟨[],N,rfl, .nil,h⟩
 |t::ts,us,v::vs,ws,x::xs,ys,N,hl,hk,h=>by obtain⟨f1,f2,rfl,h1,h2⟩:=DC.bu h;obtain⟨f3,f4,rfl,h3,h4⟩:=DC.df (ts:=ts) (vs:=vs) (xs:=xs) (by simpa using hl) (by simpa using hk) h2;exact⟨f1++f3,f4,by simp,h1.app h3,h4⟩
 | [],_,_::_,_,_,_,_,h,_,_=>by simp at h
 | [],_,[],_,_::_,_,_,_,h,_=>by simp at h
 |_::_,_,[],_,_,_,_,h,_,_=>by simp at h
 |_::_,_,_::_,_,[],_,_,_,h,_=>by simp at h
theorem DC.split{w:World}{ts:List DT}{vs:List Value}{xs:List AV}{N:List Nat}(h:DC w ts vs xs N)(p n:Nat):
  ∃N1 N2 N3,N=N1++N2++N3/\DC w (ts.take p) (vs.take p) (xs.take p) N1/\DC w ((ts.drop p).take n) ((vs.drop p).take n) ((xs.drop p).take n) N2/\DC w (ts.drop (p+n)) (vs.drop (p+n)) (xs.drop (p+n)) N3:=by
 obtain⟨l1,l2⟩:=h.len;have h':=h;rw[<-BV p ts,<-BV p vs,<-BV p xs]at h';obtain⟨N1,M,rfl,h1,h2⟩:=DC.df (by simp[l1]) (by simp[l2]) h';rw[<-BV n (ts.drop p),<-BV n (vs.drop p),<-BV n (xs.drop p)]at h2;obtain⟨N2,N3,rfl,h3,h4⟩:=DC.df (by simp[l1]) (by simp[l2]) h2;refine⟨N1,N2,N3,by simp,h1,h3,?_⟩;simpa[List.drop_drop]using h4
theorem DC.rd{w:World}{ts:List DT}{vs:List Value}{xs:List AV}{N:List Nat}(h:DC w ts vs xs N):∃f,Rd w vs xs f/\ ∀b∈f,b∈N:=by
 induction h with
 |nil=>exact⟨[], .nil,by simp⟩
 |flat a _ ih=>obtain⟨f,h1,h2⟩:=ih;exact⟨[]++f,by simpa using a.app h1,by simpa using h2⟩
 |void _ _ _ ih=>obtain⟨f,h1,h2⟩:=ih;exact⟨f, .di h1,h2⟩
 | @row e z l g cap C ys N1 ts vs xs N h1 h2 h3 h4 h5 h6 h7 h8 _ _ ih1 ih2=>
  obtain⟨f1,k1,k2⟩:=ih1;obtain⟨f2,k3,k4⟩:=ih2;rcases Nat.eq_zero_or_pos ys.length with h0|h0
  ·have:ys=[]:=List.eq_nil_of_length_eq_zero h0;subst this;exact⟨f2, .di k3,λb hb=>by simp[k4 b hb]⟩
  ·refine⟨g::(f1++f2),Rd.en (o:=0) (c:=cap) (cs:=C.toList.take (ys.length*z)) h3 h0 ⟨by have:maxLen=9223372036854775807:=rfl;omega,by omega⟩ rfl h7 h1 (λj u hu=>by
    rw[Nat.zero_add];rw[List.getElem?_take]at hu;split at hu
    ·simpa using hu
    ·cases hu) h8 k1 k3,λb hb=> ?_⟩
   simp only[Ad,Ag]at hb ⊢;rcases hb with hb|hb|hb
   ·exact .inl hb
   ·exact .inr (.inl (k2 b hb))
   ·exact .inr (.inr (k4 b hb))
theorem DC.j9{w:World}{ts:List DT}{vs:List Value}{xs:List AV}{N:List Nat}(h:DC w ts vs xs N):ts.all DT.bj=true->N=[]:=by
 induction h with
 |nil=>exact λ_=>rfl
 |flat _ _ ih=>exact λh=>ih (by simpa[DT.bj]using h)
 |void _ _ _ _=>exact λh=>by simp[DT.bj]at h
 |row _ _ _ _ _ _ _ _ _ _ _ _=>exact λh=>by simp[DT.bj]at h
theorem DC.ir{w:World}{ts:List DT}{vs:List Value}{xs:List AV}{N:List Nat}(h:DC w ts vs xs N)(ht:ts.all DT.bj=true):Rd w vs xs []:=by
 have hN:=h.j9 ht;subst hN;obtain⟨f,h1,h2⟩:=h.rd;have:f=[]:=List.eq_nil_iff_forall_not_mem.2 λb hb=>by simpa using h2 b hb
 rw[this]at h1;exact h1
theorem DC.k8{w:World}:∀{ts:List DT} {vs:List Value} {xs:List AV},Rd w vs xs []->ts.all DT.bj=true->ts.length=vs.length->DC w ts vs xs []
 | [],[],xs,h,_,_=>by cases h;exact .nil
 | .flat::ts,v::vs,xs,h,ha,hl=>by
  have hx:=h.len
  match xs,hx with
  |x::xs,_=>
   obtain⟨f1,f2,hf,h1,h2⟩:=h.bu;obtain⟨rfl,rfl⟩:f1=[]/\f2=[]:=by simpa using hf.symm
   exact .flat h1 (DC.k8 h2 (by simpa[DT.bj]using ha) (by simpa using hl))
 | .row .. ::_,_::_,_,_,ha,_=>by simp[DT.bj]at ha
 | [],_::_,_,_,_,h=>by simp at h
 |_::_,[],_,_,_,h=>by simp at h
theorem DC.inv{w:World}{e z:Nat}{l:AG}{v:Value}{x:AV}{N:List Nat}(h:DC w [.row e z l] [v] [x] N):
  0<z/\l.toList.length=z/\((∃a,v= .slice a 0 0/\x= .sl []/\N=[])\/ ∃g cap C ys N1,v= .slice (some ⟨g,0,none⟩) ys.length cap/\x= .sl ys/\N=g::N1/\w.heap[g]?=some (.cells C e (0,0))/\ys.length<=cap/\cap<=maxLen/\C.size=cap*z/\(∀y∈ys,y.cells.length=z)/\
   (∀u∈C.toList.take (ys.length*z),u.oneCell'=true)/\DC w (Ci ys.length l.toList) (C.toList.take (ys.length*z)) (AA ys) N1):=by
 cases h with
 |void a b h=>cases h;exact⟨a,b, .inl ⟨_,rfl,rfl,rfl⟩⟩
 |row h1 h2 h3 h4 h5 h6 h7 h8 h9 h=>cases h;exact⟨h1,h2, .inr ⟨_,_,_,_,_,rfl,rfl,by simp,h3,h4,h5,h6,h7,h8,h9⟩⟩
theorem DC.jy{w:World}{e z:Nat}{l:AG}{v:Value}{x:AV}{top:List Nat}(h:CQ w e z v x top [])(ha:l.toList.all DT.bj=true)(hl:l.toList.length=z):DC w [.row e z l] [v] [x] top:=by
 obtain⟨xs,rfl,h2,h3,⟨rfl,⟨a,rfl⟩,rfl,_⟩|⟨g,cap,C,rfl,h6,h7,h8,h9,rfl,EM,Ea⟩⟩:=h
 ·exact .void h3 hl .nil
 ·have AF:(C.toList.take (xs.length*z)).length=xs.length*z:=by
   have:C.toList.length=cap*z:=by simpa using h9
   rw[A1,this];exact Nat.min_eq_left (BB _ h6)
  have:=DC.row (l:=l) h3 hl h8 h6 h7 h9 h2 EM (DC.k8 Ea (Zr _ ha) (by rw[Vu,hl,AF])) .nil;simpa using this
theorem DC.lu{w:World}{e z:Nat}{l:AG}{v:Value}{x:AV}{N:List Nat}(h:DC w [.row e z l] [v] [x] N)(ha:l.toList.all DT.bj=true):CQ w e z v x N []:=by
 obtain⟨h1,h2,⟨a,rfl,rfl,rfl⟩|⟨g,cap,C,ys,N1,rfl,rfl,rfl,h3,h4,h5,h6,h7,h8,h9⟩⟩:=h.inv
 ·exact⟨[],rfl,by simp,h1, .inl ⟨rfl,⟨a,rfl⟩,rfl,rfl⟩⟩
 ·have hN:=h9.j9 (Zr _ ha);subst hN;exact⟨ys,rfl,h7,h1, .inr ⟨g,cap,C,rfl,h4,h5,h3,h6,rfl,h8,h9.ir (Zr _ ha)⟩⟩
theorem DC.ownRow{w:World}{e z:Nat}{l:AG}{v:Value}{x:AV}{N:List Nat}(h:DC w [.row e z l] [v] [x] N):∃f,CQ w e z v x (N.take 1) f/\ ∀b∈f,b∈N.drop 1:=by
 obtain⟨h1,h2,⟨a,rfl,rfl,rfl⟩|⟨g,cap,C,ys,N1,rfl,rfl,rfl,h3,h4,h5,h6,h7,h8,h9⟩⟩:=h.inv
 ·exact⟨[],⟨[],rfl,by simp,h1, .inl ⟨rfl,⟨a,rfl⟩,rfl,rfl⟩⟩,by simp⟩
 ·obtain⟨f,k1,k2⟩:=h9.rd;exact⟨f,⟨ys,rfl,h7,h1, .inr ⟨g,cap,C,rfl,h4,h5,h3,h6,rfl,h8,k1⟩⟩,by simpa using k2⟩
theorem DC.head{w:World}{e z:Nat}{l:AG}{v:Value}{x:AV}{N:List Nat}(h:DC w [.row e z l] [v] [x] N):∃q n r,v= .slice q n r:=by
 obtain⟨_,_,⟨a,rfl,_⟩|⟨g,cap,C,ys,N1,rfl,_⟩⟩:=h.inv
 ·exact⟨_,_,_,rfl⟩
 ·exact⟨_,_,_,rfl⟩
def Src(w:World)(size:Nat)(a:Option Addr)(m:Nat)(news:List Value):Prop:=
 (a=none/\m=0/\news=[])\/ ∃ad,a=some ad/\news.length=m*size/\(∀j u,news[j]?=some u->w.cell? (ad.add j)=some u)/\ ∀u∈news,u.oneCell'=true
theorem Src.mod{w w':World}{size:Nat}{a:Option Addr}{m:Nat}{news:List Value}(h:Src w size a m news)(hm:Mod [] w w'):Src w' size a m news:=by
 rcases h with h|⟨ad,h1,h2,h3,h4⟩
 ·exact Or.inl h
 ·exact Or.inr ⟨ad,h1,h2,λj u hu=>by have:=h3 j u hu;rw[hm.cell (World.block_lt_of_cell? w _ this) (by simp)];exact this,h4⟩
section
variable {P:Program}
end
theorem D3.src{α:Type}{T:GT α}{w:World}{a:Option Addr}{n:Nat}{xs:List α}{fp:List Nat}(hs:0<T.size)(h:D3 T w a n xs fp):
  ∃Ls fps,EK T w Ls xs fps/\Src w T.size a n Ls.flatten/\(∀q∈fps.flatten,q∈fp):=by
 cases a with
 |none=>
  rcases h.2 with⟨rfl,_⟩|⟨b,o,fps,ha,_⟩
  ·have:=h.1;simp at this;subst this;exact⟨[],[],⟨rfl,rfl,by simp⟩,Or.inl ⟨rfl,rfl,rfl⟩,by simp⟩
  ·cases ha
 |some ad=>obtain⟨Ls,fps,h1,h2,h3,h4⟩:=h.cells hs;exact⟨Ls,fps,h1,Or.inr ⟨ad,rfl,h4,h2,h1.one⟩,h3⟩
structure oR where
 n:Nat
 K:World->Prop
 mono:∀{w w':World},(∀b,b<n->w'.heap[b]?=w.heap[b]?)->K w->K w'
def Kl:oR:=⟨0,λ_=>True,λ_ h=>h⟩
def bY(w:World)(Mu:Nat->Prop):Prop:=Kl.n<=w.heap.size/\Kl.K w/\ ∀b,Mu b->Kl.n<=b
end
end Go.Proofs.YtkpifpljpoochaaGreatDoor

/- Parts of a proof, joined: Lib, Op, VA, VB, V1, VC, OA, VD, VE, VF, VGa, Lib2, V0. -/
import Derived.WalkKit
import Derived.WalkLawsBesides
import Derived.WalkSpells
import Derived.Lib.Hide
import Derived.Deep.Quiet
import Derived.ProofKit
import Derived.OpenShut
import Derived.ChangeOld
import Derived.Below
import Derived.Test.YtfdfahjmonlbiaaGreatDoorProg
set_option linter.unusedVariables false
set_option linter.unusedSimpArgs false
section
namespace Go.Proofs.YtfdfahjmonlbiaaGreatDoor
open Go.RowKit
theorem Aw.{u,v} {α:Type u} {β:Type v} {o:Option α} {f:α→Option β} {b:β}:o.bind f=some b↔∃a,o=some a∧f a=some b:=Option.bind_eq_some_iff
theorem Ap.{u} {α:Type u} {a:α} {l:List α}:(a::l).length=l.length+1:=List.length_cons
theorem As.{u} {α:Type u} {s t:List α}:(s++t).length=s.length+t.length:=List.length_append
theorem Ai.{u} {α:Type u} {a:α} {s t:List α}:a∈s++t↔a∈s∨a∈t:=List.mem_append
theorem Ag.{u} {α:Type u} {a b:α} {l:List α}:a∈b::l↔a=b∨a∈l:=List.mem_cons
theorem Ae (a b:Bool):((a&&b)=true)=(a=true∧b=true):=Bool.and_eq_true a b
theorem Aa.{u,v} {α:Type u} {β:Type v} (a:α) (f:α→Option β):(some a).bind f=f a:=rfl
structure Mod (S:List Nat) (w w':World):Prop where
 os:w'.os=w.os
 tape:w'.tape=w.tape
 output:w'.output=w.output
 size:w.heap.size≤w'.heap.size
 block: ∀k,k<w.heap.size→k∉S→w'.heap[k]?=w.heap[k]?
theorem Mod.eo {B:Nat} {w w':World} (h:Below B w w') (hB:w.heap.size≤B):Mod [] w w':=
 ⟨h.os,h.tape,h.output,h.size,fun k hk _=>h.block k (by omega)⟩
theorem Mod.below {w w':World} (h:Mod [] w w'):Below w.heap.size w w':=
 ⟨h.os,h.tape,h.output,h.size,fun k hk=>h.block k hk (by simp)⟩
theorem Mod.refl (S:List Nat) (w:World):Mod S w w:=⟨rfl,rfl,rfl,Nat.le_refl _,fun _ _ _=>rfl⟩
theorem Mod.trans {S S':List Nat} {a b c:World} (h:Mod S a b) (k:Mod S' b c) (hs: ∀x∈S',x∈S∨a.heap.size≤x):Mod S a c:=
 ⟨k.os.trans h.os,k.tape.trans h.tape,k.output.trans h.output,Nat.le_trans h.size k.size,fun i hi hn=>
  (k.block i (Nat.lt_of_lt_of_le hi h.size) (fun hm=>by rcases hs i hm with h1|h1;exact hn h1;omega)).trans (h.block i hi hn)⟩
theorem Mod.weaken {S S':List Nat} {a b:World} (h:Mod S a b) (hs: ∀x∈S,x∈S'∨a.heap.size≤x):Mod S' a b:=
 ⟨h.os,h.tape,h.output,h.size,fun i hi hn=>h.block i hi (fun hm=>by rcases hs i hm with h1|h1;exact hn h1;omega)⟩
theorem Mod.drew {S:List Nat} {a w:World} (h:Mod S a w):Mod S a w.drew:=⟨h.os,h.tape,h.output,h.size,h.block⟩
theorem Mod.alloc {S:List Nat} {a w:World} (h:Mod S a w) (o:Obj):Mod S a (w.alloc o):=
 h.trans (S':= []) ⟨rfl,rfl,rfl,by simp,fun k hk _=>Below.heap_alloc _ _ _ hk⟩ (by simp)
theorem Mod.setCell {S:List Nat} {a w:World} (h:Mod S a w) {p:Addr} (hp:p.block∈S∨a.heap.size≤p.block) (u:Value):Mod S a (w.setCell p u):=
 h.trans (S':= [p.block]) ⟨rfl,rfl,rfl,by simp [World.setCell],fun k _ hk=>Below.heap_setCell _ _ _ _ (by simpa using hk)⟩ (by simpa using hp)
theorem Mod.cell {S:List Nat} {w w':World} (h:Mod S w w') {p:Addr} (hp:p.block<w.heap.size) (hn:p.block∉S):w'.cell? p=w.cell? p:=World.cell?_of_block (w:=w) (h.block p.block hp hn)
theorem Mod.frozen {S:List Nat} {w w':World} (h:Mod S w w') {p:Addr} (hp:p.block<w.heap.size) (hn:p.block∉S):w'.frozen? p=w.frozen? p:=World.frozen?_of_block (w:=w) (h.block p.block hp hn)
structure GT (α:Type)where
 size:Nat
 rd:World→List Value→α→List Nat→Prop
 len: ∀{w cs x fp},rd w cs x fp→cs.length=size
 frame: ∀{w w' cs x fp},(∀b∈fp,w'.heap[b]?=w.heap[b]?)→rd w cs x fp→rd w' cs x fp
 inb: ∀{w cs x fp},rd w cs x fp→ ∀b∈fp,b<w.heap.size
 one: ∀{w cs x fp},rd w cs x fp→ ∀u∈cs,u.oneCell'=true
def G2 {α:Type} (T:GT α) (w:World) (b o:Nat) (xs:List α) (fps:List (List Nat)):Prop:=
 fps.length=xs.length∧ ∀i x fp,xs[i]?=some x→fps[i]?=some fp→ ∃cs,T.rd w cs x fp∧ ∀j v,cs[j]?=some v→w.cell? ⟨b,o+i*T.size+j,none⟩=some v
def Ei {α:Type} (T:GT α) (w:World) (a:Option Addr) (n:Nat) (xs:List α) (fp:List Nat):Prop:=
 xs.length=n∧((xs= []∧fp= [])∨ ∃b o fps,a=some ⟨b,o,none⟩∧fp=b::fps.flatten∧b<w.heap.size∧G2 T w b o xs fps)
theorem G2.frame {α:Type} {T:GT α} {w w':World} {b o:Nat} {xs:List α} {fps:List (List Nat)} (hb:w'.heap[b]?=w.heap[b]?) (hf: ∀k∈fps.flatten,w'.heap[k]?=w.heap[k]?) (h:G2 T w b o xs fps):G2 T w' b o xs fps:=by refine⟨h.1,fun i x fp hx K6=> ?_⟩;obtain⟨cs,h1,h2⟩:=h.2 i x fp hx K6;refine⟨cs,T.frame (fun k hk=>hf k (List.mem_flatten.2 ⟨fp,List.mem_of_getElem? K6,hk⟩)) h1,fun j v hv=> ?_⟩;rw [World.cell?_of_block (w:=w) hb];exact h2 j v hv
theorem G2.inb {α:Type} {T:GT α} {w:World} {b o:Nat} {xs:List α} {fps:List (List Nat)} (h:G2 T w b o xs fps): ∀k∈fps.flatten,k<w.heap.size:=by intro k hk;obtain⟨fp,K6,hk⟩:=List.mem_flatten.1 hk;obtain⟨i,hi,rfl⟩:=List.mem_iff_getElem.1 K6;obtain⟨cs,h1,_⟩:=h.2 i (xs[i]'(by rw [←h.1];exact hi)) fps[i] (by simp) (by simp);exact T.inb h1 k hk
theorem Ei.frame {α:Type} {T:GT α} {w w':World} {a:Option Addr} {n:Nat} {xs:List α} {fp:List Nat} (hf: ∀k∈fp,w'.heap[k]?=w.heap[k]?) (h:Ei T w a n xs fp):Ei T w' a n xs fp:=by
 refine⟨h.1, ?_⟩;rcases h.2 with h|⟨b,o,fps,ha,rfl,hb,h⟩
 ·exact Or.inl h
 ·have e:=hf b (by simp);refine Or.inr ⟨b,o,fps,ha,rfl, ?_,h.frame e (fun k hk=>hf k (by simp [hk]))⟩;rcases Nat.lt_or_ge b w'.heap.size with h'|h'
  ·exact h'
  ·rw [Array.getElem?_eq_none h',Array.getElem?_eq_getElem hb]at e;cases e
theorem Ei.inb {α:Type} {T:GT α} {w:World} {a:Option Addr} {n:Nat} {xs:List α} {fp:List Nat} (h:Ei T w a n xs fp): ∀k∈fp,k<w.heap.size:=by
 rcases h.2 with h|⟨b,o,fps,ha,rfl,hb,h⟩
 ·simp [h.2]
 ·intro k hk;rcases Ag.1 hk with rfl|hk
  ·exact hb
  ·exact h.inb k hk
theorem Ei.at {α:Type} {T:GT α} {w:World} {a:Option Addr} {n:Nat} {xs:List α} {fp:List Nat} (h:Ei T w a n xs fp) {k:Nat} {x:α} (hx:xs[k]?=some x):
  ∃b o cs f,a=some ⟨b,o,none⟩∧b<w.heap.size∧b∈fp∧T.rd w cs x f∧(∀q∈f,q∈fp)∧ ∀j v,cs[j]?=some v→w.cell? ⟨b,o+k*T.size+j,none⟩=some v:=by
 have hk:k<xs.length:=by
  rcases Nat.lt_or_ge k xs.length with h|h
  ·exact h
  ·simp [List.getElem?_eq_none h]at hx
 rcases h.2 with⟨rfl,_⟩|⟨b,o,fps,rfl,rfl,hb,he⟩
 ·simp at hk
 have BV:k<fps.length:=by rw [he.1];exact hk
 obtain⟨cs,h1,h2⟩:=he.2 k x fps[k] hx (by simp);exact⟨b,o,cs,fps[k],rfl,hb,by simp,h1,fun q hq=>List.mem_cons_of_mem _ (List.mem_flatten.2 ⟨_,List.getElem_mem BV,hq⟩),h2⟩
theorem Ei.len {α:Type} {T:GT α} {w:World} {a:Option Addr} {n:Nat} {xs:List α} {fp:List Nat} (h:Ei T w a n xs fp):xs.length=n:=h.1
def GT.via {α β:Type} (T:GT β) (f:α→β):GT α where
 size:=T.size
 rd:=fun w cs x fp=>T.rd w cs (f x) fp
 len:=fun h=>T.len h
 frame:=fun hf h=>T.frame hf h
 inb:=fun h=>T.inb h
 one:=fun h=>T.one h
def Own (B:Nat) (w:World) (fp:List Nat):Prop:=fp.Nodup∧ ∀b∈fp,B≤b∧ ∃c t,w.heap[b]?=some (.cells c t (0,0))
theorem Own.nil (B:Nat) (w:World):Own B w []:=⟨by simp,by simp⟩
theorem Own.frame {B:Nat} {w w':World} {fp:List Nat} (hf: ∀k∈fp,w'.heap[k]?=w.heap[k]?) (h:Own B w fp):Own B w' fp:=
 ⟨h.1,fun b hb=>⟨(h.2 b hb).1,by rw [hf b hb];exact(h.2 b hb).2⟩⟩
theorem Own.mono {B B':Nat} {w:World} {fp:List Nat} (h:Own B w fp) (hB:B'≤B):Own B' w fp:=⟨h.1,fun b hb=>⟨Nat.le_trans hB (h.2 b hb).1,(h.2 b hb).2⟩⟩
theorem Own.lt {B:Nat} {w:World} {fp:List Nat} (h:Own B w fp): ∀b∈fp,b<w.heap.size:=by
 intro b hb;obtain⟨_,c,t,e⟩:=h.2 b hb;rcases Nat.lt_or_ge b w.heap.size with h'|h'
 ·exact h'
 ·simp [Array.getElem?_eq_none h']at e
def C7 (w:World) (b i:Nat):List Value→World
 | []=>w
 |v::vs=>C7 (w.setCell ⟨b,i,none⟩ v) b (i+1) vs
theorem oC: ∀(cs:List Value) (w:World) (b i:Nat) (C:Array Value) (t:TypeId),w.heap[b]?=some (.cells C t (0,0))→i+cs.length≤C.size→
  Mod [b] w (C7 w b i cs)∧ ∃C',(C7 w b i cs).heap[b]?=some (.cells C' t (0,0))∧C'.size=C.size∧(∀j v,cs[j]?=some v→C'[i+j]?=some v)∧ ∀q,q<i∨i+cs.length≤q→C'[q]?=C[q]?:=by
 intro cs
 induction cs with
 |nil=>intro w b i C t h hs;exact⟨Mod.refl _ _,C,h,rfl,by simp,fun _ _=>rfl⟩
 |cons v vs ih=>
  intro w b i C t h hs;simp only [Ap]at hs;have h1:=heap_setCell_same w b i C t v h;obtain⟨hm,C',e1,e2,e3,e4⟩:=ih (w.setCell ⟨b,i,none⟩ v) b (i+1) _ t h1 (by simp;omega);refine⟨((Mod.refl [b] w).setCell (by simp) v).trans hm (by simp),C',e1,by simpa using e2,fun j u hj=> ?_,fun q hq=> ?_⟩
  ·cases j with
   |zero=>simp at hj;subst hj;rw [Nat.add_zero,e4 i (by omega)];rw [Array.getElem?_setIfInBounds];simp;omega
   |succ j=>have:=e3 j u (by simpa using hj);rw [show i+(j+1)=i+1+j from by omega];exact this
  ·simp only [Ap]at hq;rw [e4 q (by omega),Array.getElem?_setIfInBounds];rw [if_neg (by omega)]
theorem EY {w:World} {b i:Nat} {C:Array Value} {t:TypeId} {f:Nat × Nat} (h:w.heap[b]?=some (.cells C t f)):w.cell? ⟨b,i,none⟩=C[i]?:=by simp [World.cell?,h]
theorem zxK {w:World} {b i:Nat} {C:Array Value} {t:TypeId} (h:w.heap[b]?=some (.cells C t (0,0))):w.frozen? ⟨b,i,none⟩=false:=by simp [World.frozen?,h]
theorem FM {w:World} {b:Nat} {o:Obj} (h:w.heap[b]?=some o):b<w.heap.size:=lt_of_block h
theorem G2.nil {α:Type} (T:GT α) (w:World) (b o:Nat):G2 T w b o [] []:=⟨rfl,by simp⟩
theorem G2.snoc {α:Type} {T:GT α} {w w':World} {b o:Nat} {xs:List α} {fps:List (List Nat)} {x:α} {fp:List Nat} {cs:List Value} (h:G2 T w b o xs fps)
  (hc: ∀i,i<xs.length*T.size→w'.cell? ⟨b,o+i,none⟩=w.cell? ⟨b,o+i,none⟩) (hf: ∀k∈fps.flatten,w'.heap[k]?=w.heap[k]?)
  (hx:T.rd w' cs x fp) (hn: ∀j v,cs[j]?=some v→w'.cell? ⟨b,o+xs.length*T.size+j,none⟩=some v):G2 T w' b o (xs++ [x]) (fps++ [fp]):=by
 refine⟨by simp [h.1],fun i y f hy K6=> ?_⟩;rcases Nat.lt_trichotomy i xs.length with hi|hi|hi
 ·have Bv:xs[i]?=some y:=by rwa [List.getElem?_append_left hi]at hy
  have Ts:fps[i]?=some f:=by rwa [List.getElem?_append_left (by rw [h.1];exact hi)]at K6
  obtain⟨c,h1,h2⟩:=h.2 i y f Bv Ts;refine⟨c,T.frame (fun k hk=>hf k (List.mem_flatten.2 ⟨f,List.mem_of_getElem? Ts,hk⟩)) h1,fun j v hv=> ?_⟩;have hj:j<T.size:=by
   rw [←T.len h1];rcases Nat.lt_or_ge j c.length with h|h
   ·exact h
   ·simp [List.getElem?_eq_none h]at hv
  have:=hc (i*T.size+j) (by have:(i+1)*T.size≤xs.length*T.size:=Nat.mul_le_mul_right _ hi;rw [Nat.add_mul]at this;omega)
  rw [show o+i*T.size+j=o+(i*T.size+j)from by omega,this,←Nat.add_assoc];exact h2 j v hv
 ·subst hi;simp at hy;subst hy;rw [List.getElem?_append_right (by rw [h.1];exact Nat.le_refl _),h.1]at K6;simp at K6;subst K6;exact⟨cs,hx,hn⟩
 ·rw [List.getElem?_eq_none (by simp;omega)]at hy;cases hy
structure NM {α:Type} (T:GT α) (B:Nat) (w:World) (b:Nat) (t:TypeId) (tot:Nat) (xs:List α) (fps:List (List Nat)):Prop where
 nq: ∃C,w.heap[b]?=some (.cells C t (0,0))∧C.size=tot
 rd:G2 T w b 0 xs fps
 own:Own B w (b::fps.flatten)
theorem NM.step {α:Type} {T:GT α} {B:Nat} {w w1:World} {b:Nat} {t:TypeId} {tot:Nat} {xs:List α} {fps:List (List Nat)} {x:α} {cs:List Value} {fp:List Nat}
  (h:NM T B w b t tot xs fps) (hm:Mod [] w w1) (hx:T.rd w1 cs x fp) (ho:Own w.heap.size w1 fp) (hB:B≤w.heap.size) (hs:(xs.length+1)*T.size≤tot):
  NM T B (C7 w1 b (xs.length*T.size) cs) b t tot (xs++ [x]) (fps++ [fp])∧Mod [b] w (C7 w1 b (xs.length*T.size) cs):=by
 obtain⟨C,hC,S6⟩:=h.nq;have hb:=FM hC;have KV:w1.heap[b]?=some (.cells C t (0,0)):=by rw [hm.block b hb (by simp)];exact hC
 rw [Nat.add_mul,Nat.one_mul]at hs;have hlen:=T.len hx;obtain⟨m1,C',e1,e2,e3,e4⟩:=oC cs w1 b (xs.length*T.size) C t KV (by omega);have Cb:=h.own.lt;have old: ∀k∈fps.flatten,(C7 w1 b (xs.length*T.size) cs).heap[k]?=w.heap[k]?:=fun k hk=>by
  have P2:k≠b:=fun e=>by have:=h.own.1;rw [List.nodup_cons]at this;exact this.1 (e▸hk)
  have GC:=Cb k (by simp [hk]);rw [m1.block k (Nat.lt_of_lt_of_le GC hm.size) (by simpa using P2),hm.block k GC (by simp)]
 have new: ∀k∈fp,(C7 w1 b (xs.length*T.size) cs).heap[k]?=w1.heap[k]?:=fun k hk=>by have:=(ho.2 k hk).1;exact m1.block k (ho.lt k hk) (by simp;omega)
 refine⟨⟨⟨C',e1,by omega⟩, ?_, ?_⟩,(hm.weaken (S':= [b]) (by simp)).trans m1 (fun x hx=>Or.inl hx)⟩
 ·refine h.rd.snoc (fun i hi=> ?_) old (T.frame new hx) (fun j v hv=> ?_)
  ·rw [EY e1,EY hC,Nat.zero_add,e4 i (by omega)]
  ·rw [EY e1,Nat.zero_add];exact e3 j v hv
 ·refine⟨?_,fun q hq=> ?_⟩
  ·have h1:=h.own.1;rw [List.nodup_cons]at h1 ⊢;refine⟨?_, ?_⟩
   ·simp only [List.flatten_append,List.flatten_singleton,Ai,not_or];exact⟨h1.1,fun hk=>by have:=(ho.2 b hk).1;omega⟩
   ·simp only [List.flatten_append,List.flatten_singleton];exact List.nodup_append.2 ⟨h1.2,ho.1,fun a ha c hc e=>by have:=(ho.2 c hc).1;have:=Cb a (by simp [ha]);omega⟩
  ·rcases Ag.1 hq with rfl|hq
   ·exact⟨(h.own.2 q (by simp)).1,C',t,e1⟩
   ·simp only [List.flatten_append,List.flatten_singleton,Ai]at hq;rcases hq with hq|hq
    ·rw [old q hq];exact h.own.2 q (by simp [hq])
    ·rw [new q hq];exact⟨Nat.le_trans hB (ho.2 q hq).1,(ho.2 q hq).2⟩
theorem NM.done {α:Type} {T:GT α} {B:Nat} {w:World} {b:Nat} {t:TypeId} {tot n:Nat} {xs:List α} {fps:List (List Nat)} (h:NM T B w b t tot xs fps) (hn:xs.length=n):
  Ei T w (some ⟨b,0,none⟩) n xs (b::fps.flatten):=by
 obtain⟨C,hC,_⟩:=h.nq;exact⟨hn,Or.inr ⟨b,0,fps,rfl,rfl,FM hC,h.rd⟩⟩
theorem Ei.oc {α:Type} {T:GT α} {w:World} {a:Option Addr} {n:Nat} {xs:List α} {fp:List Nat} (h:Ei T w a n xs fp) (Ce:fp.Nodup) {k:Nat} {x:α} (hx:xs[k]?=some x):
  ∃b o cs f,a=some ⟨b,o,none⟩∧b<w.heap.size∧b∈fp∧b∉f∧T.rd w cs x f∧(∀q∈f,q∈fp)∧(∀j v,cs[j]?=some v→w.cell? ⟨b,o+k*T.size+j,none⟩=some v)∧
   ∀w' cs' x',b<w'.heap.size→T.rd w' cs' x' f→(∀q∈fp,q∉f→q≠b→w'.heap[q]?=w.heap[q]?)→(∀j v,cs'[j]?=some v→w'.cell? ⟨b,o+k*T.size+j,none⟩=some v)→
    (∀i,i<o+k*T.size∨o+k*T.size+T.size≤i→w'.cell? ⟨b,i,none⟩=w.cell? ⟨b,i,none⟩)→Ei T w' a n (xs.set k x') fp:=by
 have hk:k<xs.length:=by
  rcases Nat.lt_or_ge k xs.length with h|h
  ·exact h
  ·simp [List.getElem?_eq_none h]at hx
 rcases h.2 with⟨rfl,_⟩|⟨b,o,fps,rfl,rfl,hb,he⟩
 ·simp at hk
 have BV:k<fps.length:=by rw [he.1];exact hk
 obtain⟨cs,h1,h2⟩:=he.2 k x fps[k] hx (by simp);have Tf:b∉fps.flatten:=(List.nodup_cons.1 Ce).1;have Cb: ∀q∈fps[k],q∈fps.flatten:=fun q hq=>List.mem_flatten.2 ⟨_,List.getElem_mem BV,hq⟩;refine⟨b,o,cs,fps[k],rfl,hb,by simp,fun hm=>Tf (Cb b hm),h1,fun q hq=>List.mem_cons_of_mem _ (Cb q hq),h2,fun w' cs' x' BX Dz IP A2 hold=>⟨by simp [h.1],Or.inr ⟨b,o,fps,rfl,rfl,BX,by simp [he.1],fun i y f hy hf=> ?_⟩⟩⟩;by_cases hi:i=k
 ·subst hi;rw [List.getElem?_set_self hk]at hy;simp at hy;subst hy;have:f=fps[i]:=by simpa [BV]using hf.symm
  subst this;exact⟨cs',Dz,A2⟩
 ·rw [List.getElem?_set_ne (Ne.symm hi)]at hy;obtain⟨c,g1,g2⟩:=he.2 i y f hy hf;have tS:f∈fps:=List.mem_of_getElem? hf;refine⟨c,T.frame (fun q hq=>IP q (List.mem_cons_of_mem _ (List.mem_flatten.2 ⟨f,tS,hq⟩)) (fun uB=> ?_) (fun e=>Tf (e▸List.mem_flatten.2 ⟨f,tS,hq⟩))) g1,fun j v hv=> ?_⟩
  ·
   have hp:=List.pairwise_flatten.1 (List.nodup_cons.1 Ce).2|>.2;have fM:i<fps.length:=by
    rcases Nat.lt_or_ge i fps.length with h|h
    ·exact h
    ·simp [List.getElem?_eq_none h]at hf
   have Xa:fps[i]=f:=by simpa [fM]using hf
   rcases Nat.lt_or_gt_of_ne hi with An|An
   ·exact(List.pairwise_iff_getElem.1 hp i k fM BV An) q (Xa▸hq) q uB rfl
   ·exact(List.pairwise_iff_getElem.1 hp k i BV fM An) q uB q (Xa▸hq) rfl
  ·have hj:j<T.size:=by
    rw [←T.len g1];rcases Nat.lt_or_ge j c.length with h|h
    ·exact h
    ·simp [List.getElem?_eq_none h]at hv
   rw [hold (o+i*T.size+j) ?_]
   ·exact g2 j v hv
   ·rcases Nat.lt_or_gt_of_ne hi with An|An
    ·have:(i+1)*T.size≤k*T.size:=Nat.mul_le_mul_right _ An;rw [Nat.add_mul]at this;omega
    ·have:(k+1)*T.size≤i*T.size:=Nat.mul_le_mul_right _ An;rw [Nat.add_mul]at this;omega
theorem VW {α:Type} {xs:List α} {i:Nat} {x:α} (hx:xs[i]?=some x):i<xs.length:=by
 rcases Nat.lt_or_ge i xs.length with h|h
 ·exact h
 ·simp [List.getElem?_eq_none h]at hx
theorem Ei.put {α:Type} {T:GT α} {w:World} {n:Nat} {xs:List α} {fp:List Nat} {b o k:Nat} {x x':α} {cs':List Value} (h:Ei T w (some ⟨b,o,none⟩) n xs fp) (ho:Own 0 w fp)
  (hx:xs[k]?=some x) (BB: ∀w cs x f,T.rd w cs x f→f= []) (hs:0<T.size) (Dz: ∀w',T.rd w' cs' x' []):
  Ei T (C7 w b (o+k*T.size) cs') (some ⟨b,o,none⟩) n (xs.set k x') fp∧Own 0 (C7 w b (o+k*T.size) cs') fp∧Mod fp w (C7 w b (o+k*T.size) cs'):=by
 obtain⟨b',o',cs,f,ha,hb,Tf,Gg,hr,_,hc,hu⟩:=h.oc ho.1 hx;simp at ha;obtain⟨rfl,rfl⟩:=ha;obtain rfl:=BB _ _ _ _ hr;obtain⟨_,C,t,hC⟩:=ho.2 b Tf;have hl:=T.len hr;have Bu:=T.len (Dz w);have Cb:o+k*T.size+cs'.length≤C.size:=by
  have An:T.size-1<cs.length:=by omega
  have:=hc (T.size-1) cs[T.size-1] (by simp);rw [EY hC]at this;have:=VW (xs:=C.toList) (i:=o+k*T.size+(T.size-1)) (x:=cs[T.size-1]) (by simpa using this);simp at this;omega
 obtain⟨m,C',e1,e2,e3,e4⟩:=oC cs' w b (o+k*T.size) C t hC Cb;have old: ∀q∈fp,q≠b→(C7 w b (o+k*T.size) cs').heap[q]?=w.heap[q]?:=fun q hq Km=>m.block q (ho.lt q hq) (by simpa using Km);refine⟨hu _ cs' x' (FM e1) (Dz _) (fun q hq _ Km=>old q hq Km) (fun j v hv=> ?_) (fun i hi=> ?_),⟨ho.1,fun q hq=>⟨Nat.zero_le _, ?_⟩⟩,m.weaken (by simp [Tf])⟩
 ·rw [EY e1];exact e3 j v hv
 ·rw [EY e1,EY hC];exact e4 i (by omega)
 ·by_cases Km:q=b
  ·subst Km;exact⟨C',t,e1⟩
  ·rw [old q hq Km];exact(ho.2 q hq).2
theorem NM.cell {α:Type} {T:GT α} {B:Nat} {w w1:World} {b:Nat} {t:TypeId} {tot:Nat} {xs:List α} {fps:List (List Nat)} (h:NM T B w b t tot xs fps) (hm:Mod [] w w1) {i:Nat} (hi:i<tot):
  (∃u,w1.cell? ⟨b,i,none⟩=some u)∧w1.frozen? ⟨b,i,none⟩=false:=by
 obtain⟨C,hC,S6⟩:=h.nq;have KV:w1.heap[b]?=some (.cells C t (0,0)):=by rw [hm.block b (FM hC) (by simp)];exact hC
 exact⟨⟨C[i],by rw [EY KV];simp⟩,zxK KV⟩
theorem Ei.mod {α:Type} {T:GT α} {S:List Nat} {w w':World} {a:Option Addr} {n:Nat} {xs:List α} {fp:List Nat} (h:Ei T w a n xs fp) (hm:Mod S w w') (hS: ∀q∈fp,q∉S):Ei T w' a n xs fp:=
 h.frame fun k hk=>hm.block k (h.inb k hk) (hS k hk)
theorem Own.mod {B:Nat} {S:List Nat} {w w':World} {fp:List Nat} (h:Own B w fp) (hm:Mod S w w') (hS: ∀q∈fp,q∉S):Own B w' fp:=
 h.frame fun k hk=>hm.block k (h.lt k hk) (hS k hk)
theorem Own.app {B:Nat} {w:World} {f g:List Nat} (h1:Own B w f) (h2:Own B w g) (hd: ∀q∈f,q∉g):Own B w (f++g):=
 ⟨List.nodup_append.2 ⟨h1.1,h2.1,fun a ha b hb e=>hd a ha (e▸hb)⟩,fun b hb=>by
  rcases Ai.1 hb with h|h
  ·exact h1.2 b h
  ·exact h2.2 b h⟩
theorem Own.left {B:Nat} {w:World} {f g:List Nat} (h:Own B w (f++g)):Own B w f:=⟨(List.nodup_append.1 h.1).1,fun b hb=>h.2 b (by simp [hb])⟩
theorem Own.right {B:Nat} {w:World} {f g:List Nat} (h:Own B w (f++g)):Own B w g:=⟨(List.nodup_append.1 h.1).2.1,fun b hb=>h.2 b (by simp [hb])⟩
theorem Own.apart {B:Nat} {w:World} {f g:List Nat} (h:Own B w (f++g)): ∀q∈f,q∉g:=fun q hq hg=>(List.nodup_append.1 h.1).2.2 q hq q hg rfl
theorem o9 {α:Type} {s:Nat} (hs:0<s): ∀(Ls:List (List α)) (j:Nat),(∀l∈Ls,l.length=s)→Ls.flatten[j]?=(Ls[j/s]?).bind (·[j % s]?)
 | [],j,_=>by simp
 |l::Ls,j,h=>by
  have hl:l.length=s:=h l (by simp);rw [List.flatten_cons];by_cases hj:j<s
  ·rw [List.getElem?_append_left (by omega),Nat.div_eq_of_lt hj,Nat.mod_eq_of_lt hj];simp
  ·rw [List.getElem?_append_right (by omega),hl,o9 hs Ls (j-s) (fun l hl=>h l (by simp [hl]))];have e1:j/s=(j-s)/s+1:=by rw [Nat.div_eq_sub_div hs (by omega)]
   have e2:(j-s) % s=j % s:=(Nat.mod_eq_sub_mod (by omega)).symm;rw [e1,e2];simp
theorem zt9 {α:Type} {s:Nat}: ∀(Ls:List (List α)),(∀l∈Ls,l.length=s)→Ls.flatten.length=Ls.length*s
 | [],_=>by simp
 |l::Ls,h=>by have:=zt9 Ls (fun l hl=>h l (by simp [hl]));have hl:=h l (by simp);simp [Nat.add_mul];rw [←hl]at this ⊢;simp at this;omega
def E6 {α:Type} (T:GT α) (w:World) (Ls:List (List Value)) (xs:List α) (fps:List (List Nat)):Prop:=
 Ls.length=xs.length∧fps.length=xs.length∧ ∀(i:Nat) (cs:List Value) (x:α) (fp:List Nat),Ls[i]?=some cs→xs[i]?=some x→fps[i]?=some fp→T.rd w cs x fp
theorem E6.lens {α:Type} {T:GT α} {w:World} {Ls:List (List Value)} {xs:List α} {fps:List (List Nat)} (h:E6 T w Ls xs fps): ∀l∈Ls,l.length=T.size:=by intro l hl;obtain⟨i,hi,rfl⟩:=List.mem_iff_getElem.1 hl;have h1:=h.1;have h2:=h.2.1;exact T.len (h.2.2 i _ (xs[i]'(by omega)) (fps[i]'(by omega)) (by simp) (by simp) (by simp))
theorem E6.one {α:Type} {T:GT α} {w:World} {Ls:List (List Value)} {xs:List α} {fps:List (List Nat)} (h:E6 T w Ls xs fps): ∀u∈Ls.flatten,u.oneCell'=true:=by intro u hu;obtain⟨l,hl,hu⟩:=List.mem_flatten.1 hu;obtain⟨i,hi,rfl⟩:=List.mem_iff_getElem.1 hl;have h1:=h.1;have h2:=h.2.1;exact T.one (h.2.2 i _ (xs[i]'(by omega)) (fps[i]'(by omega)) (by simp) (by simp) (by simp)) u hu
theorem E6.frame {α:Type} {T:GT α} {w w':World} {Ls:List (List Value)} {xs:List α} {fps:List (List Nat)} (h:E6 T w Ls xs fps) (hf: ∀k∈fps.flatten,w'.heap[k]?=w.heap[k]?):E6 T w' Ls xs fps:=
 ⟨h.1,h.2.1,fun i cs x fp a b c=>T.frame (fun k hk=>hf k (List.mem_flatten.2 ⟨fp,List.mem_of_getElem? c,hk⟩)) (h.2.2 i cs x fp a b c)⟩
theorem E6.inb {α:Type} {T:GT α} {w:World} {Ls:List (List Value)} {xs:List α} {fps:List (List Nat)} (h:E6 T w Ls xs fps): ∀k∈fps.flatten,k<w.heap.size:=by intro k hk;obtain⟨f,hf,hk⟩:=List.mem_flatten.1 hk;obtain⟨i,hi,rfl⟩:=List.mem_iff_getElem.1 hf;have h1:=h.1;have h2:=h.2.1;exact T.inb (h.2.2 i (Ls[i]'(by omega)) (xs[i]'(by omega)) _ (by simp) (by simp) (by simp)) k hk
theorem E6.snoc {α:Type} {T:GT α} {w:World} {Ls:List (List Value)} {xs:List α} {fps:List (List Nat)} {cs:List Value} {x:α} {fp:List Nat} (h:E6 T w Ls xs fps) (hx:T.rd w cs x fp):E6 T w (Ls++ [cs]) (xs++ [x]) (fps++ [fp]):=by
 refine⟨by simp [h.1],by simp [h.2.1],fun i c y f hc hy hf=> ?_⟩;rcases Nat.lt_trichotomy i xs.length with hi|hi|hi
 ·exact h.2.2 i c y f (by rwa [List.getElem?_append_left (by rw [h.1];exact hi)]at hc) (by rwa [List.getElem?_append_left hi]at hy) (by rwa [List.getElem?_append_left (by rw [h.2.1];exact hi)]at hf)
 ·subst hi;rw [List.getElem?_append_right (by rw [h.1];exact Nat.le_refl _),h.1]at hc;rw [List.getElem?_append_right (Nat.le_refl _)]at hy;rw [List.getElem?_append_right (by rw [h.2.1];exact Nat.le_refl _),h.2.1]at hf;simp at hc hy hf;subst hc hy hf;exact hx
 ·rw [List.getElem?_eq_none (by simp;omega)]at hy;cases hy
theorem zts {β:Type} (P:Nat→β→Prop): ∀n:Nat,(∀i,i<n→ ∃y,P i y)→ ∃L:List β,L.length=n∧ ∀(i:Nat) (y:β),L[i]?=some y→P i y
 |0,_=>⟨[],rfl,by simp⟩
 |n+1,h=>by
  obtain⟨L,hl,hL⟩:=zts P n (fun i hi=>h i (by omega));obtain⟨y,hy⟩:=h n (by omega);refine⟨L++ [y],by simp [hl],fun i z hz=> ?_⟩;rcases Nat.lt_trichotomy i n with hi|hi|hi
  ·exact hL i z (by rwa [List.getElem?_append_left (by omega)]at hz)
  ·subst hi;rw [List.getElem?_append_right (by omega),hl]at hz;simp at hz;subst hz;exact hy
  ·rw [List.getElem?_eq_none (by simp;omega)]at hz;cases hz
theorem G2.cells {α:Type} {T:GT α} {w:World} {b o:Nat} {xs:List α} {fps:List (List Nat)} (h:G2 T w b o xs fps) (hs:0<T.size):
  ∃Ls,E6 T w Ls xs fps∧ ∀j u,Ls.flatten[j]?=some u→w.cell? ⟨b,o+j,none⟩=some u:=by
 obtain⟨Ls,hn,hL⟩:=zts (fun i cs=> ∃x fp,xs[i]?=some x∧fps[i]?=some fp∧T.rd w cs x fp∧ ∀j v,cs[j]?=some v→w.cell? ⟨b,o+i*T.size+j,none⟩=some v) xs.length (fun i hi=>by obtain⟨cs,h1,h2⟩:=h.2 i xs[i] (fps[i]'(by rw [h.1];exact hi)) (by simp) (by simp);exact⟨cs,_,_,by simp,by simp,h1,h2⟩)
 have tH:E6 T w Ls xs fps:=by refine⟨hn,h.1,fun i cs x fp hc hx hf=> ?_⟩;obtain⟨x',fp',e1,e2,e3,_⟩:=hL i cs hc;rw [e1]at hx;rw [e2]at hf;simp at hx hf;subst hx hf;exact e3
 refine⟨Ls,tH,fun j u hu=> ?_⟩;rw [o9 hs _ _ tH.lens]at hu;cases hd:Ls[j/T.size]? with
 |none=>rw [hd]at hu;cases hu
 |some cs=>rw [hd]at hu;obtain⟨_,_,_,_,_,e4⟩:=hL _ cs hd;have:=e4 _ u hu;rw [Nat.add_assoc,Nat.mul_comm,Nat.div_add_mod]at this;exact this
theorem E6.ku {α:Type} {T:GT α} {w:World} {Ls:List (List Value)} {xs:List α} {fps:List (List Nat)} {b o:Nat} (h:E6 T w Ls xs fps) (hs:0<T.size) (hc: ∀j u,Ls.flatten[j]?=some u→w.cell? ⟨b,o+j,none⟩=some u):G2 T w b o xs fps:=by
 refine⟨h.2.1,fun i x fp hx hf=> ?_⟩;have hi:=VW hx;have h1:=h.1;refine⟨Ls[i]'(by omega),h.2.2 i _ x fp (by simp) hx hf,fun j v hv=> ?_⟩;rw [Nat.add_assoc];refine hc _ _ ?_;have hj:j<T.size:=by rw [←h.lens _ (List.getElem_mem (by omega:i<Ls.length))];exact VW hv
 rw [o9 hs _ _ h.lens,Nat.mul_comm,Nat.mul_add_div hs,Nat.div_eq_of_lt hj,Nat.add_zero,Nat.mul_add_mod,Nat.mod_eq_of_lt hj];simpa [show i<Ls.length by omega]using hv
def Gr {α:Type} (T:GT α) (E:TypeId) (B:Nat) (w:World) (v:Value) (xs:List α) (fps:List (List Nat)):Prop:=
 ∃Ls,E6 T w Ls xs fps∧w.ownsRow B E T.size v xs.length Ls.flatten∧ ∀g,v.ownBlock=some g→g∉fps.flatten
theorem Gr.nil {α:Type} (T:GT α) (E:TypeId) (B:Nat) (w:World):Gr T E B w (.slice none 0 0) [] []:=
 ⟨[],⟨rfl,rfl,by simp⟩,World.ownsRow_nil _ _ _ _,by simp⟩
theorem Gr.done {α:Type} {T:GT α} {E:TypeId} {B:Nat} {w:World} {v:Value} {xs:List α} {fps:List (List Nat)} (hs:0<T.size) (h:Gr T E B w v xs fps) (hf:Own B w fps.flatten):
  ∃a c fp,v= .slice a xs.length c∧xs.length≤c∧c≤maxLen∧Ei T w a xs.length xs fp∧Own B w fp∧(∀q∈fp,q∈fps.flatten∨v.ownBlock=some q):=by
 obtain⟨Ls,hL,ho,hg⟩:=h;rcases ho.2 with⟨rfl,hn⟩|⟨g,cap,cur,rfl,hB,hh,TI,K2,Bi,ht⟩
 ·have:xs= []:=List.eq_nil_of_length_eq_zero hn;subst this;exact⟨none,0, [],rfl,Nat.le_refl _,by simp [maxLen],⟨rfl,Or.inl ⟨rfl,rfl⟩⟩,Own.nil _ _,by simp⟩
 ·refine⟨some ⟨g,0,none⟩,cap,g::fps.flatten,rfl,TI,K2,⟨rfl,Or.inr ⟨g,0,fps,rfl,rfl,FM hh,hL.ku hs (fun j u hu=> ?_)⟩⟩,⟨List.nodup_cons.2 ⟨hg g rfl,hf.1⟩,fun b hb=> ?_⟩,fun q hq=> ?_⟩
  ·rw [Nat.zero_add,EY hh];rw [←ht]at hu;have:=VW hu;rw [List.getElem?_take]at hu;split at hu
   ·simpa using hu
   ·cases hu
  ·rcases Ag.1 hb with rfl|hb
   ·exact⟨hB,cur,E,hh⟩
   ·exact hf.2 b hb
  ·rcases Ag.1 hq with rfl|hq
   ·exact Or.inr rfl
   ·exact Or.inl hq
theorem Ei.cells {α:Type} {T:GT α} {w:World} {ad:Addr} {n:Nat} {xs:List α} {fp:List Nat} (hs:0<T.size) (h:Ei T w (some ad) n xs fp):
  ∃Ls fps,E6 T w Ls xs fps∧(∀j u,Ls.flatten[j]?=some u→w.cell? (ad.add j)=some u)∧(∀q∈fps.flatten,q∈fp)∧Ls.flatten.length=n*T.size:=by
 rcases h.2 with⟨rfl,rfl⟩|⟨b,o,fps,ha,rfl,hb,he⟩
 ·have:=h.1;simp at this;subst this;exact⟨[], [],⟨rfl,rfl,by simp⟩,by simp,by simp,by simp⟩
 ·simp at ha;subst ha;obtain⟨Ls,h1,h2⟩:=he.cells hs;refine⟨Ls,fps,h1,fun j u hu=> ?_,fun q hq=>by simp [hq],by rw [zt9 Ls h1.lens,h1.1,h.1]⟩;have:=h2 j u hu;simpa [Addr.add_lit]using this
theorem Mod.grown {S:List Nat} {a w w':World} {row:Option Nat} (h:Mod S a w) (hg:w.grownBy w' row) (hr: ∀k,row=some k→k∈S∨a.heap.size≤k):Mod S a w':=
 h.trans (S':=row.toList) ⟨hg.os,hg.tape,hg.output,hg.size,fun k hk hn=>hg.block k hk (fun e=>hn (by rw [←e];simp))⟩ (fun x hx=>hr x (by cases row<;>simp at hx;subst hx;rfl))
theorem E6.flat {α:Type} {T:GT α} {w:World} {Ls:List (List Value)} {xs:List α} {fps:List (List Nat)} (BB: ∀w cs x f,T.rd w cs x f→f= []) (h:E6 T w Ls xs fps):fps.flatten= []:=by rw [List.flatten_eq_nil_iff];intro f hf;obtain⟨i,hi,rfl⟩:=List.mem_iff_getElem.1 hf;have h1:=h.1;have h2:=h.2.1;exact BB _ _ _ _ (h.2.2 i (Ls[i]'(by omega)) (xs[i]'(by omega)) _ (by simp) (by simp) (by simp))
def kM (P:Program) {α:Type} (T:GT α) (val:List Value→Value) (g:Nat) (lb:Array Value) (p:α→Bool) (xs:List α) (w:World):Prop:=
 ∀(W:World) (cs:List Value) (x:α) (fp:List Nat),x∈xs→Mod [] w W→T.rd W cs x fp→Calls P g (#[val cs]++lb) W fun e w'=>e= .returned (.bool (p x))∧Mod [] W w'
theorem kM.later {P:Program} {α:Type} {T:GT α} {val:List Value→Value} {g:Nat} {lb:Array Value} {p:α→Bool} {xs:List α} {w w1:World} (h:kM P T val g lb p xs w) (hm:Mod [] w w1):kM P T val g lb p xs w1:=
 fun W cs x fp hx hW hr=>h W cs x fp hx (hm.trans hW (by simp)) hr
theorem Mod.nq {S:List Nat} {w w1:World} (hm:Mod S w w1) {b:Nat} {C:Array Value} {t:TypeId} (h:w.heap[b]?=some (.cells C t (0,0))) (hb:b∉S):w1.heap[b]?=some (.cells C t (0,0)):=by rw [hm.block b (FM h) hb];exact h
end Go.Proofs.YtfdfahjmonlbiaaGreatDoor
end
section
namespace Go.Proofs.YtfdfahjmonlbiaaGreatDoor
open Go.ChangeShapes Go.WideShapes Go.ChangeAt Go.RowKit
theorem zy7 (a:Addr):a.add 0=a:=by simp [Addr.add]
theorem uQ (b o n:Nat):Addr.add ⟨b,o,none⟩ n=⟨b,o+n,none⟩:=by
 unfold Addr.add;split
 ·subst_vars;rfl
 ·rfl
end Go.Proofs.YtfdfahjmonlbiaaGreatDoor
end
section
namespace Go.Proofs.YtfdfahjmonlbiaaGreatDoor
open Go.RowKit
inductive AV where
 |int (k:IntKind) (n:Int)
 |bool (b:Bool)
 |str (s:List UInt8)
 |sl (xs:List AV)
 |agg (cs:List AV)
 |tup (vs:List AV)
 |ref (x:AV)
 |fn (f:Nat) (caps:List AV)
 |dy
 |undef
def AV.cells:AV→List AV
 | .agg cs=>cs
 |x=> [x]
def AP (xs:List AV):List AV:=xs.flatMap AV.cells
def ET (k:IntKind) (n:Int):Prop:=k.wrap n=n
inductive Rd (w:World):List Value→List AV→List Nat→Prop where
 |nil:Rd w [] [] []
 |int {k n vs xs f}:ET k n→Rd w vs xs f→Rd w (.int k n::vs) (.int k n::xs) f
 |bool {b vs xs f}:Rd w vs xs f→Rd w (.bool b::vs) (.bool b::xs) f
 |str {s:ByteArray} {vs xs f}:s.size≤9223372036854775807→Rd w vs xs f→Rd w (.string s::vs) (.str s.data.toList::xs) f
 |ej {a c vs xs f}:Rd w vs xs f→Rd w (.slice a 0 c::vs) (.sl []::xs) f
 |fu {b o n c ys cs C t fz sz f1 vs xs f}:w.heap[b]?=some (.cells C t fz)→0<n→(n≤9223372036854775807∧n≤c)→ys.length=n→(∀y∈ys,y.cells.length=sz)→0<sz→
   (∀j v,cs[j]?=some v→C[o+j]?=some v)→(∀u∈cs,u.oneCell'=true)→Rd w cs (AP ys) f1→Rd w vs xs f→Rd w (.slice (some ⟨b,o,none⟩) n c::vs) (.sl ys::xs) (b::(f1++f))
 |agg {as_ cs f1 vs xs f}:(∀u∈as_,u.oneCell'=true)→Rd w as_ cs f1→Rd w vs xs f→Rd w (.agg as_.toArray::vs) (.agg cs::xs) (f1++f)
 |tup {as_ cs f1 vs xs f}:Rd w as_ cs f1→Rd w vs xs f→Rd w (.tuple as_.toArray::vs) (.tup cs::xs) (f1++f)
 |ref {b C t fz x f1 vs xs f}:w.heap[b]?=some (.cells C t fz)→(∀u∈C.toList,u.oneCell'=true)→Rd w C.toList x.cells f1→Rd w vs xs f→Rd w (.pointer (some ⟨b,0,none⟩)::vs) (.ref x::xs) (b::(f1++f))
 |fn {g as_ cs f1 vs xs f}:Rd w as_ cs f1→Rd w vs xs f→Rd w (.func (.func g) #[] as_.toArray::vs) (.fn g cs::xs) (f1++f)
 |dy {vs xs f}:Rd w vs xs f→Rd w (.pointer none::vs) (.dy::xs) f
theorem Rd.frame {w w':World} {vs:List Value} {xs:List AV} {f:List Nat} (h:Rd w vs xs f):(∀b∈f,w'.heap[b]?=w.heap[b]?)→Rd w' vs xs f:=by
 induction h with
 |nil=>exact fun _=> .nil
 |int a _ ih=>exact fun hf=> .int a (ih hf)
 |bool _ ih=>exact fun hf=> .bool (ih hf)
 |str a _ ih=>exact fun hf=> .str a (ih hf)
 |ej _ ih=>exact fun hf=> .ej (ih hf)
 |fu hb h1 h2 h3 h4 h5 h6 G4 _ _ ih1 ih2=>exact fun hf=> .fu (by rw [hf _ (by simp)];exact hb) h1 h2 h3 h4 h5 h6 G4 (ih1 fun b m=>hf b (by simp [m])) (ih2 fun b m=>hf b (by simp [m]))
 |agg h9 _ _ ih1 ih2=>exact fun hf=> .agg h9 (ih1 fun b m=>hf b (by simp [m])) (ih2 fun b m=>hf b (by simp [m]))
 |tup _ _ ih1 ih2=>exact fun hf=> .tup (ih1 fun b m=>hf b (by simp [m])) (ih2 fun b m=>hf b (by simp [m]))
 |ref hb h9 _ _ ih1 ih2=>exact fun hf=> .ref (by rw [hf _ (by simp)];exact hb) h9 (ih1 fun b m=>hf b (by simp [m])) (ih2 fun b m=>hf b (by simp [m]))
 |fn _ _ ih1 ih2=>exact fun hf=> .fn (ih1 fun b m=>hf b (by simp [m])) (ih2 fun b m=>hf b (by simp [m]))
 |dy _ ih=>exact fun hf=> .dy (ih hf)
theorem Rd.inb {w:World} {vs:List Value} {xs:List AV} {f:List Nat} (h:Rd w vs xs f): ∀b∈f,b<w.heap.size:=by
 induction h with
 |nil=>simp
 |int _ _ ih=>exact ih
 |bool _ ih=>exact ih
 |str _ _ ih=>exact ih
 |ej _ ih=>exact ih
 |fu hb _ _ _ _ _ _ _ _ _ ih1 ih2=>
  intro b m;simp only [Ag,Ai]at m;rcases m with rfl|m|m
  ·exact FM hb
  ·exact ih1 b m
  ·exact ih2 b m
 |agg _ _ _ ih1 ih2=>intro b m;rcases Ai.1 m with m|m;exact ih1 b m;exact ih2 b m
 |tup _ _ ih1 ih2=>intro b m;rcases Ai.1 m with m|m;exact ih1 b m;exact ih2 b m
 |ref hb _ _ _ ih1 ih2=>
  intro b m;simp only [Ag,Ai]at m;rcases m with rfl|m|m
  ·exact FM hb
  ·exact ih1 b m
  ·exact ih2 b m
 |fn _ _ ih1 ih2=>intro b m;rcases Ai.1 m with m|m;exact ih1 b m;exact ih2 b m
 |dy _ ih=>exact ih
theorem Rd.len {w:World} {vs:List Value} {xs:List AV} {f:List Nat} (h:Rd w vs xs f):vs.length=xs.length:=by induction h<;>simp_all
theorem Rd.app {w:World} {vs us:List Value} {xs ys:List AV} {f g:List Nat} (h:Rd w vs xs f) (k:Rd w us ys g):Rd w (vs++us) (xs++ys) (f++g):=by
 induction h with
 |nil=>exact k
 |int a _ ih=>exact .int a ih
 |bool _ ih=>exact .bool ih
 |str a _ ih=>exact .str a ih
 |ej _ ih=>exact .ej ih
 |fu hb h1 h2 h3 h4 h5 h6 G4 h7 _ _ ih2=>simp only [List.cons_append,List.append_assoc];exact Rd.fu hb h1 h2 h3 h4 h5 h6 G4 h7 ih2
 |agg h9 h1 _ _ ih2=>have:=Rd.agg h9 h1 ih2;simpa using this
 |tup h1 _ _ ih2=>have:=Rd.tup h1 ih2;simpa using this
 |ref hb h9 h1 _ _ ih2=>have:=Rd.ref hb h9 h1 ih2;simpa using this
 |fn h1 _ _ ih2=>simp only [List.cons_append,List.append_assoc];exact Rd.fn h1 ih2
 |dy _ ih=>exact .dy ih
theorem Rd.cg {w:World} {v:Value} {vs:List Value} {x:AV} {xs:List AV} {f:List Nat} (h:Rd w (v::vs) (x::xs) f):
  ∃f1 f2,f=f1++f2∧Rd w [v] [x] f1∧Rd w vs xs f2:=by
 cases h with
 |int a h=>exact⟨[],f,rfl, .int a .nil,h⟩
 |bool h=>exact⟨[],f,rfl, .bool .nil,h⟩
 |str a h=>exact⟨[],f,rfl, .str a .nil,h⟩
 |ej h=>exact⟨[],f,rfl, .ej .nil,h⟩
 |fu hb h1 h2 h3 h4 h5 h6 G4 h7 h=>rename_i b o n c ys cs C t fz sz f1 f2;exact⟨b::(f1++ []),f2,by simp, .fu hb h1 h2 h3 h4 h5 h6 G4 h7 .nil,h⟩
 |agg h9 h1 h=>rename_i f1 f2;exact⟨f1++ [],f2,by simp, .agg h9 h1 .nil,h⟩
 |tup h1 h=>rename_i f1 f2;exact⟨f1++ [],f2,by simp, .tup h1 .nil,h⟩
 |ref hb h9 h1 h=>rename_i b C t fz x f1 f2;exact⟨b::(f1++ []),f2,by simp, .ref hb h9 h1 .nil,h⟩
 |fn h1 h=>rename_i f1 f2;exact⟨f1++ [],f2,by simp, .fn h1 .nil,h⟩
 |dy h=>exact⟨[],f,rfl, .dy .nil,h⟩
theorem Rd.ff {w:World}: ∀{vs us:List Value} {xs ys:List AV} {f:List Nat},vs.length=xs.length→Rd w (vs++us) (xs++ys) f→ ∃f1 f2,f=f1++f2∧Rd w vs xs f1∧Rd w us ys f2
 | [],us, [],ys,f,_,h=>⟨[],f,rfl, .nil,h⟩
 |v::vs,us,x::xs,ys,f,hl,h=>by obtain⟨f1,f2,rfl,h1,h2⟩:=Rd.cg h;obtain⟨f3,f4,rfl,h3,h4⟩:=Rd.ff (vs:=vs) (xs:=xs) (by simpa using hl) h2;exact⟨f1++f3,f4,by simp,h1.app h3,h4⟩
theorem Rd.piece {w:World} {vs:List Value} {xs:List AV} {f:List Nat} (h:Rd w vs xs f) (o n:Nat):
  ∃g,(∀b∈g,b∈f)∧Rd w ((vs.drop o).take n) ((xs.drop o).take n) g:=by
 have hl:=h.len;have e1:vs=vs.take o++vs.drop o:=(List.take_append_drop o vs).symm;have e2:xs=xs.take o++xs.drop o:=(List.take_append_drop o xs).symm;rw [e1,e2]at h;obtain⟨f1,f2,rfl,_,h2⟩:=Rd.ff (by simp [hl]) h;have e3:vs.drop o=(vs.drop o).take n++(vs.drop o).drop n:=(List.take_append_drop _ _).symm;have e4:xs.drop o=(xs.drop o).take n++(xs.drop o).drop n:=(List.take_append_drop _ _).symm;rw [e3,e4]at h2;obtain⟨f3,f4,rfl,h3,_⟩:=Rd.ff (by simp [hl]) h2;exact⟨f3,fun b hb=>by simp [hb],h3⟩
theorem Rd.at {w:World} {vs:List Value} {xs:List AV} {f:List Nat} (h:Rd w vs xs f) {i:Nat} {x:AV} (hx:xs[i]?=some x):
  ∃v g,vs[i]?=some v∧(∀b∈g,b∈f)∧Rd w [v] [x] g:=by
 have hi:=VW hx;have hl:=h.len;obtain⟨g,hg,hr⟩:=h.piece i 1;have hv:(vs.drop i).take 1= [vs[i]'(by omega)]:=by rw [List.drop_eq_getElem_cons (by omega),List.take_succ_cons,List.take_zero]
 have C6:(xs.drop i).take 1= [x]:=by rw [List.drop_eq_getElem_cons hi,List.take_succ_cons,List.take_zero];simpa [hi]using hx
 rw [hv,C6]at hr;exact⟨_,g,by simp [show i<vs.length by omega],hg,hr⟩
theorem Rd.kind {w:World} {v:Value} {x:AV} {f:List Nat} (h:Rd w [v] [x] f):
  (∃k n,v= .int k n∧x= .int k n∧ET k n∧f= [])∨(∃b,v= .bool b∧x= .bool b∧f= [])∨(∃s:ByteArray,v= .string s∧x= .str s.data.toList∧s.size≤9223372036854775807∧f= [])∨
  (∃a c,v= .slice a 0 c∧x= .sl []∧f= [])∨
  (∃(b o n c:Nat) (ys:List AV) (cs:List Value) (C:Array Value) (t:TypeId) (fz:Nat × Nat) (sz:Nat) (f1:List Nat),v= .slice (some ⟨b,o,none⟩) n c∧x= .sl ys∧f=b::f1∧w.heap[b]?=some (.cells C t fz)∧0<n∧(n≤9223372036854775807∧n≤c)∧ys.length=n∧(∀y∈ys,y.cells.length=sz)∧0<sz∧
   (∀(j:Nat) (u:Value),cs[j]?=some u→C[o+j]?=some u)∧(∀u∈cs,u.oneCell'=true)∧Rd w cs (AP ys) f1)∨
  (∃as_ cs,v= .agg as_.toArray∧x= .agg cs∧(∀u∈as_,u.oneCell'=true)∧Rd w as_ cs f)∨(∃as_ cs,v= .tuple as_.toArray∧x= .tup cs∧Rd w as_ cs f)∨
  (∃b C t fz y f1,v= .pointer (some ⟨b,0,none⟩)∧x= .ref y∧f=b::f1∧w.heap[b]?=some (.cells C t fz)∧(∀u∈C.toList,u.oneCell'=true)∧Rd w C.toList y.cells f1)∨
  (∃g as_ cs,v= .func (.func g) #[] as_.toArray∧x= .fn g cs∧Rd w as_ cs f)∨(v= .pointer none∧x= .dy∧f= []):=by
 cases h with
 |int a h=>cases h;exact .inl ⟨_,_,rfl,rfl,a,rfl⟩
 |bool h=>cases h;exact .inr (.inl ⟨_,rfl,rfl,rfl⟩)
 |str a h=>cases h;exact .inr (.inr (.inl ⟨_,rfl,rfl,a,rfl⟩))
 |ej h=>cases h;exact .inr (.inr (.inr (.inl ⟨_,_,rfl,rfl,rfl⟩)))
 |fu hb h1 h2 h3 h4 h5 h6 G4 h7 h=>cases h;exact .inr (.inr (.inr (.inr (.inl ⟨_,_,_,_,_,_,_,_,_,_,_,rfl,rfl,by simp,hb,h1,h2,h3,h4,h5,h6,G4,h7⟩))))
 |agg h9 h1 h=>cases h;exact .inr (.inr (.inr (.inr (.inr (.inl ⟨_,_,rfl,rfl,h9,by simpa using h1⟩)))))
 |tup h1 h=>cases h;exact .inr (.inr (.inr (.inr (.inr (.inr (.inl ⟨_,_,rfl,rfl,by simpa using h1⟩))))))
 |ref hb h9 h1 h=>cases h;exact .inr (.inr (.inr (.inr (.inr (.inr (.inr (.inl ⟨_,_,_,_,_,_,rfl,rfl,by simp,hb,h9,h1⟩)))))))
 |fn h1 h=>cases h;exact .inr (.inr (.inr (.inr (.inr (.inr (.inr (.inr (.inl ⟨_,_,_,rfl,rfl,by simpa using h1⟩))))))))
 |dy h=>cases h;exact .inr (.inr (.inr (.inr (.inr (.inr (.inr (.inr (.inr ⟨rfl,rfl,rfl⟩))))))))
def AV.fld (x:AV) (o n:Nat) (g:Bool):AV:=if g then .agg ((x.cells.drop o).take n)else(x.cells[o]?).getD .undef
def AV.proj (x:AV) (i:Nat):AV:=match x with| .tup vs=>(vs[i]?).getD .undef|_=> .undef
def AV.deref (x:AV):AV:=match x with| .ref y=>y|_=> .undef
def AV.len (x:AV):AV:=match x with| .sl xs=> .int .i64 xs.length|_=> .undef
def AV.slen (x:AV):AV:=match x with| .str s=> .int .i64 s.length|_=> .undef
def AV.nth (x:AV) (k:Nat):AV:=match x with| .sl xs=>(xs[k]?).getD .undef|_=> .undef
def AV.sidx (x i:AV):AV:=match x,i with| .str s, .int _ k=>(match s[k.toNat]? with|some b=> .int .u8 b.toNat|none=> .undef)|_,_=> .undef
def AV.idx (x i:AV):AV:=match i with| .int _ k=>x.nth k.toNat|_=> .undef
def AV.win (x lo hi:AV):AV:=
 match lo,hi with
 | .int _ a, .int _ b=>(match x with| .sl xs=> .sl ((xs.take b.toNat).drop a.toNat)|_=> .undef)
 |_,_=> .undef
def AV.swin (x lo hi:AV):AV:=
 match lo,hi with
 | .int _ a, .int _ b=>(match x with| .str s=> .str ((s.take b.toNat).drop a.toNat)|_=> .undef)
 |_,_=> .undef
def AV.app (x y:AV):AV:=match x,y with| .sl xs, .sl ys=> .sl (xs++ys)|_,_=> .undef
def AV.cz (x i v:AV):AV:=match x,i with| .sl xs, .int _ k=> .sl (xs.set k.toNat v)|_,_=> .undef
def AV.dd (x:AV) (o:Nat) (v:AV) (g:Bool):AV:=
 if g then .agg (x.cells.take o++v.cells++x.cells.drop (o+v.cells.length))else v
def AV.rep (n z:AV):AV:=match n with| .int _ k=> .sl (List.replicate k.toNat z)|_=> .undef
def AV.conv (k:IntKind) (x:AV):AV:=match x with| .int _ n=> .int k (k.wrap n)|_=> .undef
def AV.fm (x:AV):AV:=match x with| .bool b=> .bool (!b)|_=> .undef
def AV.jt (x:AV):AV:=match x with| .int k n=> .int k (k.wrap (0-n))|_=> .undef
def AV.cond (c x y:AV):AV:=match c with| .bool true=>x| .bool false=>y|_=> .undef
def AV.bytes (x:AV):AV:=match x with| .str s=> .sl (s.map fun b=> .int .u8 b.toNat)|_=> .undef
def MP:List AV→Option (List UInt8)
 | []=>some []
 | .int .u8 n::xs=>(MP xs).map (UInt8.ofNat n.toNat:: ·)
 |_::_=>none
def AV.text (x:AV):AV:=match x with| .sl xs=>(match MP xs with|some s=>if xs.length≤9223372036854775807 then .str s else .undef|none=> .undef)|_=> .undef
def BL (op:BinOp) (k:IntKind) (a b:Int):AV:=
 match op with
 | .add=> .int k (k.wrap (a+b))
 | .sub=> .int k (k.wrap (a-b))
 | .mul=> .int k (k.wrap (a*b))
 | .quo=> .int k (k.wrap (a.tdiv b))
 | .rem=> .int k (a.tmod b)
 | .eql=> .bool (a==b)
 | .neq=> .bool (a !=b)
 | .lss=> .bool (a<b)
 | .leq=> .bool (a≤b)
 | .gtr=> .bool (a>b)
 | .geq=> .bool (a≥b)
 | .and=> .int k (k.wrap (BitVec.ofInt k.bits a&&&BitVec.ofInt k.bits b).toNat)
 | .or=> .int k (k.wrap (BitVec.ofInt k.bits a|||BitVec.ofInt k.bits b).toNat)
 | .xor=> .int k (k.wrap (BitVec.ofInt k.bits a^^^BitVec.ofInt k.bits b).toNat)
 | .andNot=> .int k (k.wrap (BitVec.ofInt k.bits a&&& ~~~BitVec.ofInt k.bits b).toNat)
 | .shl=> .int k (k.wrap (a*2^(min b.toNat k.bits)))
 | .shr=> .int k (a.fdiv (2^(min b.toNat k.bits)))
def SI (op:BinOp) (a b:List UInt8):AV:=
 match op with
 | .add=> .str (a++b)
 | .eql=> .bool (a==b)
 | .neq=> .bool (a !=b)
 | .lss=> .bool (Op.bytesLess a b)
 | .leq=> .bool (Op.bytesLess a b||a==b)
 | .gtr=> .bool (!(Op.bytesLess a b||a==b))
 | .geq=> .bool (!Op.bytesLess a b)
 |_=> .undef
def AV.bin (op:BinOp) (x y:AV):AV:=
 match x,y with
 | .int k a, .int k' b=>if k=k'∨op= .shl∨op= .shr then BL op k a b else .undef
 |_,_=> .undef
def AV.sbin (op:BinOp) (x y:AV):AV:=
 match x,y with
 | .str a, .str b=>SI op a b
 |_,_=> .undef
def AV.bbin (op:BinOp) (x y:AV):AV:=
 match x,y with
 | .bool a, .bool b=>(match op with| .eql=> .bool (a==b)| .neq=> .bool (a !=b)|_=> .undef)
 |_,_=> .undef
inductive SK where
 |int (k:IntKind)
 |bool
 |str
def AV.sk:AV→Option SK
 | .int k _=>some (.int k)
 | .bool _=>some .bool
 | .str _=>some .str
 |_=>none
def AV.seq:AV→AV→Bool
 | .int _ a, .int _ b=>a==b
 | .bool a, .bool b=>a==b
 | .str a, .str b=>a==b
 |_,_=>false
def AV.leq:List AV→List AV→Bool
 | [], []=>true
 |x::xs,y::ys=>x.seq y&&AV.leq xs ys
 |_,_=>false
def AV.aeq (x y:AV):AV:=match x,y with
 | .agg xs, .agg ys=> .bool (AV.leq xs ys)
 |_,_=> .undef
mutual
inductive E where
 |var (i:Nat)
 |int (k:IntKind) (n:Int)
 |bool (b:Bool)
 |str (s:ByteArray)
 |dy
 |lst (es:EL)
 |mk (es:EL)
 |tup (es:EL)
 |ref (e:E)
 |fn (f:Nat) (es:EL)
 |fld (e:E) (o n:Nat) (g:Bool)
 |proj (e:E) (i:Nat)
 |deref (e:E)
 |len (e:E)
 |slen (e:E)
 |idx (e i:E)
 |sidx (e i:E)
 |win (e lo hi:E)
 |swin (e lo hi:E)
 |app (a b:E)
 |set (x i v:E)
 |put (x:E) (o:Nat) (v:E) (g:Bool)
 |rep (n z:E)
 |conv (k:IntKind) (e:E)
 |bin (op:BinOp) (a b:E)
 |sbin (op:BinOp) (a b:E)
 |bbin (op:BinOp) (a b:E)
 |aeq (a b:E)
 |not (a:E)
 |neg (a:E)
 |ite (c a b:E)
 |bytes (a:E)
 |text (a:E)
inductive EL where
 |nil
 |cons (e:E) (es:EL)
end
mutual
def E.den (ρ:List AV):E→AV
 | .var i=>(ρ[i]?).getD .undef
 | .int k n=> .int k n
 | .bool b=> .bool b
 | .str s=> .str s.data.toList
 | .dy=> .dy
 | .lst es=> .sl (es.den ρ)
 | .mk es=> .agg (es.den ρ)
 | .tup es=> .tup (es.den ρ)
 | .ref e=> .ref (e.den ρ)
 | .fn f es=> .fn f (es.den ρ)
 | .fld e o n g=>(e.den ρ).fld o n g
 | .proj e i=>(e.den ρ).proj i
 | .deref e=>(e.den ρ).deref
 | .len e=>(e.den ρ).len
 | .slen e=>(e.den ρ).slen
 | .idx e i=>(e.den ρ).idx (i.den ρ)
 | .sidx e i=>(e.den ρ).sidx (i.den ρ)
 | .win e lo hi=>(e.den ρ).win (lo.den ρ) (hi.den ρ)
 | .swin e lo hi=>(e.den ρ).swin (lo.den ρ) (hi.den ρ)
 | .app a b=>(a.den ρ).app (b.den ρ)
 | .set x i v=>(x.den ρ).cz (i.den ρ) (v.den ρ)
 | .put x o v g=>(x.den ρ).dd o (v.den ρ) g
 | .rep n z=>AV.rep (n.den ρ) (z.den ρ)
 | .conv k e=>(e.den ρ).conv k
 | .bin op a b=>AV.bin op (a.den ρ) (b.den ρ)
 | .sbin op a b=>AV.sbin op (a.den ρ) (b.den ρ)
 | .bbin op a b=>AV.bbin op (a.den ρ) (b.den ρ)
 | .aeq a b=>AV.aeq (a.den ρ) (b.den ρ)
 | .not a=>(a.den ρ).fm
 | .neg a=>(a.den ρ).jt
 | .ite c a b=>AV.cond (c.den ρ) (a.den ρ) (b.den ρ)
 | .bytes a=>(a.den ρ).bytes
 | .text a=>(a.den ρ).text
def EL.den (ρ:List AV):EL→List AV
 | .nil=> []
 | .cons e es=>e.den ρ::es.den ρ
end
mutual
def E.beq:E→E→Bool
 | .var i, .var j=>i==j
 | .int k n, .int k' n'=>k==k'&&n==n'
 | .bool b, .bool b'=>b==b'
 | .str s, .str s'=>s.data.toList==s'.data.toList
 | .dy, .dy=>true
 | .lst a, .lst b=>a.beq b
 | .mk a, .mk b=>a.beq b
 | .tup a, .tup b=>a.beq b
 | .ref a, .ref b=>a.beq b
 | .fn f a, .fn g b=>f==g&&a.beq b
 | .fld a o n g, .fld b o' n' g'=>o==o'&&n==n'&&g==g'&&a.beq b
 | .proj a i, .proj b j=>i==j&&a.beq b
 | .deref a, .deref b=>a.beq b
 | .len a, .len b=>a.beq b
 | .slen a, .slen b=>a.beq b
 | .idx a i, .idx b j=>a.beq b&&i.beq j
 | .sidx a i, .sidx b j=>a.beq b&&i.beq j
 | .win a i j, .win b k l=>a.beq b&&i.beq k&&j.beq l
 | .swin a i j, .swin b k l=>a.beq b&&i.beq k&&j.beq l
 | .app a b, .app c d=>a.beq c&&b.beq d
 | .set a b c, .set d e f=>a.beq d&&b.beq e&&c.beq f
 | .put a o b g, .put c o' d g'=>o==o'&&g==g'&&a.beq c&&b.beq d
 | .rep a b, .rep c d=>a.beq c&&b.beq d
 | .conv k a, .conv k' b=>k==k'&&a.beq b
 | .bin o a b, .bin o' c d=>o==o'&&a.beq c&&b.beq d
 | .sbin o a b, .sbin o' c d=>o==o'&&a.beq c&&b.beq d
 | .bbin o a b, .bbin o' c d=>o==o'&&a.beq c&&b.beq d
 | .aeq a b, .aeq c d=>a.beq c&&b.beq d
 | .not a, .not b=>a.beq b
 | .neg a, .neg b=>a.beq b
 | .ite a b c, .ite d e f=>a.beq d&&b.beq e&&c.beq f
 | .bytes a, .bytes b=>a.beq b
 | .text a, .text b=>a.beq b
 |_,_=>false
def EL.beq:EL→EL→Bool
 | .nil, .nil=>true
 | .cons e es, .cons f fs=>e.beq f&&es.beq fs
 |_,_=>false
end
mutual
theorem E.aw (ρ:List AV): ∀(a b:E),a.beq b=true→a.den ρ=b.den ρ
 |a,b,h=>by
  cases a<;>cases b<;>simp only [E.beq,Ae,beq_iff_eq,reduceCtorEq]at h<;>simp only [E.den]
  case var=>rw [h]
  case int=>rw [h.1,h.2]
  case bool=>rw [h]
  case str=>rw [h]
  case lst=>rw [EL.aw ρ _ _ h]
  case mk=>rw [EL.aw ρ _ _ h]
  case tup=>rw [EL.aw ρ _ _ h]
  case ref=>rw [E.aw ρ _ _ h]
  case fn=>rw [EL.aw ρ _ _ h.2,h.1]
  case fld=>rw [E.aw ρ _ _ h.2,h.1.1.1,h.1.1.2,h.1.2]
  case proj=>rw [E.aw ρ _ _ h.2,h.1]
  case deref=>rw [E.aw ρ _ _ h]
  case len=>rw [E.aw ρ _ _ h]
  case slen=>rw [E.aw ρ _ _ h]
  case idx=>rw [E.aw ρ _ _ h.1,E.aw ρ _ _ h.2]
  case sidx=>rw [E.aw ρ _ _ h.1,E.aw ρ _ _ h.2]
  case win=>rw [E.aw ρ _ _ h.1.1,E.aw ρ _ _ h.1.2,E.aw ρ _ _ h.2]
  case swin=>rw [E.aw ρ _ _ h.1.1,E.aw ρ _ _ h.1.2,E.aw ρ _ _ h.2]
  case app=>rw [E.aw ρ _ _ h.1,E.aw ρ _ _ h.2]
  case set=>rw [E.aw ρ _ _ h.1.1,E.aw ρ _ _ h.1.2,E.aw ρ _ _ h.2]
  case put=>rw [E.aw ρ _ _ h.1.2,E.aw ρ _ _ h.2,h.1.1.1,h.1.1.2]
  case rep=>rw [E.aw ρ _ _ h.1,E.aw ρ _ _ h.2]
  case conv=>rw [E.aw ρ _ _ h.2,h.1]
  case bin=>rw [E.aw ρ _ _ h.1.2,E.aw ρ _ _ h.2,h.1.1]
  case sbin=>rw [E.aw ρ _ _ h.1.2,E.aw ρ _ _ h.2,h.1.1]
  case bbin=>rw [E.aw ρ _ _ h.1.2,E.aw ρ _ _ h.2,h.1.1]
  case aeq=>rw [E.aw ρ _ _ h.1,E.aw ρ _ _ h.2]
  case not=>rw [E.aw ρ _ _ h]
  case neg=>rw [E.aw ρ _ _ h]
  case ite=>rw [E.aw ρ _ _ h.1.1,E.aw ρ _ _ h.1.2,E.aw ρ _ _ h.2]
  case bytes=>rw [E.aw ρ _ _ h]
  case text=>rw [E.aw ρ _ _ h]
theorem EL.aw (ρ:List AV): ∀(a b:EL),a.beq b=true→a.den ρ=b.den ρ
 | .nil, .nil,_=>rfl
 | .cons a as_, .cons b bs,h=>by simp only [EL.beq,Ae]at h;simp only [EL.den];rw [E.aw ρ _ _ h.1,EL.aw ρ _ _ h.2]
 | .nil, .cons ..,h=>by simp [EL.beq]at h
 | .cons .., .nil,h=>by simp [EL.beq]at h
end
mutual
def E.sc (n:Nat):E→Bool
 | .var i=>decide (i<n)
 | .int .. | .bool _| .str _| .dy=>true
 | .lst es| .mk es| .tup es| .fn _ es=>es.sc n
 | .ref e| .fld e _ _ _| .proj e _| .deref e| .len e| .slen e| .conv _ e| .not e| .neg e| .bytes e| .text e=>e.sc n
 | .idx a b| .sidx a b| .app a b| .put a _ b _| .rep a b| .bin _ a b| .sbin _ a b| .bbin _ a b| .aeq a b=>a.sc n&&b.sc n
 | .win a b c| .swin a b c| .set a b c| .ite a b c=>a.sc n&&b.sc n&&c.sc n
def EL.sc (n:Nat):EL→Bool
 | .nil=>true
 | .cons e es=>e.sc n&&es.sc n
end
mutual
theorem E.az (ρ τ τ':List AV): ∀(a:E),a.sc ρ.length=true→a.den (ρ++τ)=a.den (ρ++τ')
 |a,h=>by
  cases a<;>simp only [E.sc,Ae,decide_eq_true_eq]at h<;>simp only [E.den]
  case var=>rw [List.getElem?_append_left h,List.getElem?_append_left h]
  case lst=>rw [EL.az ρ τ τ' _ h]
  case mk=>rw [EL.az ρ τ τ' _ h]
  case tup=>rw [EL.az ρ τ τ' _ h]
  case ref=>rw [E.az ρ τ τ' _ h]
  case fn=>rw [EL.az ρ τ τ' _ h]
  case fld=>rw [E.az ρ τ τ' _ h]
  case proj=>rw [E.az ρ τ τ' _ h]
  case deref=>rw [E.az ρ τ τ' _ h]
  case len=>rw [E.az ρ τ τ' _ h]
  case slen=>rw [E.az ρ τ τ' _ h]
  case idx=>rw [E.az ρ τ τ' _ h.1,E.az ρ τ τ' _ h.2]
  case sidx=>rw [E.az ρ τ τ' _ h.1,E.az ρ τ τ' _ h.2]
  case win=>rw [E.az ρ τ τ' _ h.1.1,E.az ρ τ τ' _ h.1.2,E.az ρ τ τ' _ h.2]
  case swin=>rw [E.az ρ τ τ' _ h.1.1,E.az ρ τ τ' _ h.1.2,E.az ρ τ τ' _ h.2]
  case app=>rw [E.az ρ τ τ' _ h.1,E.az ρ τ τ' _ h.2]
  case set=>rw [E.az ρ τ τ' _ h.1.1,E.az ρ τ τ' _ h.1.2,E.az ρ τ τ' _ h.2]
  case put=>rw [E.az ρ τ τ' _ h.1,E.az ρ τ τ' _ h.2]
  case rep=>rw [E.az ρ τ τ' _ h.1,E.az ρ τ τ' _ h.2]
  case conv=>rw [E.az ρ τ τ' _ h]
  case bin=>rw [E.az ρ τ τ' _ h.1,E.az ρ τ τ' _ h.2]
  case sbin=>rw [E.az ρ τ τ' _ h.1,E.az ρ τ τ' _ h.2]
  case bbin=>rw [E.az ρ τ τ' _ h.1,E.az ρ τ τ' _ h.2]
  case aeq=>rw [E.az ρ τ τ' _ h.1,E.az ρ τ τ' _ h.2]
  case not=>rw [E.az ρ τ τ' _ h]
  case neg=>rw [E.az ρ τ τ' _ h]
  case ite=>rw [E.az ρ τ τ' _ h.1.1,E.az ρ τ τ' _ h.1.2,E.az ρ τ τ' _ h.2]
  case bytes=>rw [E.az ρ τ τ' _ h]
  case text=>rw [E.az ρ τ τ' _ h]
theorem EL.az (ρ τ τ':List AV): ∀(a:EL),a.sc ρ.length=true→a.den (ρ++τ)=a.den (ρ++τ')
 | .nil,_=>rfl
 | .cons a as_,h=>by simp only [EL.sc,Ae]at h;simp only [EL.den];rw [E.az ρ τ τ' _ h.1,EL.az ρ τ τ' _ h.2]
end
end Go.Proofs.YtfdfahjmonlbiaaGreatDoor
end
section
namespace Go.Proofs.YtfdfahjmonlbiaaGreatDoor
def shT (t:Nat):Bool:=t==115
end Go.Proofs.YtfdfahjmonlbiaaGreatDoor
end
section
namespace Go.Proofs.YtfdfahjmonlbiaaGreatDoor
open Go.RowKit
abbrev Gd:=List (E × Bool)
mutual
inductive DT where
 |flat
 |row (ety sz:Nat) (l:AY)
inductive AY where
 |nil
 |cons (d:DT) (l:AY)
end
def AY.toList:AY→List DT
 | .nil=> []
 | .cons s l=>s::l.toList
def AY.of:List DT→AY
 | []=> .nil
 |s::l=> .cons s (AY.of l)
mutual
def DT.beq:DT→DT→Bool
 | .flat, .flat=>true
 | .row e z l, .row e' z' l'=>e==e'&&z==z'&&l.beq l'
 |_,_=>false
def AY.beq:AY→AY→Bool
 | .nil, .nil=>true
 | .cons a as_, .cons b bs=>a.beq b&&as_.beq bs
 |_,_=>false
end
def DT.bw:DT→Bool
 | .flat=>true
 |_=>false
abbrev NN:=Option (E × Nat × Nat)
mutual
inductive SV where
 |undef
 |e (x:E)
 |cf
 |emp
 |own (t g:Nat)
 |cm (t o:Nat)
 |cx (t g:Nat) (i:E) (sz o:Nat)
 |dn (x i:E) (sz o:Nat)
 |dj (x:E) (o:Nat)
 |agg (cs:Bz)
 |tup (vs:Bz)
 |fn (f:Nat) (cs:Bz)
 |gd (gs:Gd) (s:SV)
 |via (t g n:Nat) (p:NN) (x:E)
 |vptr (t g n:Nat) (p:NN) (x i:E) (sz o:Nat)
 |wown (t g:Nat) (lo:E) (sz:Nat)
 |lent (i:Nat)
inductive Bz where
 |nil
 |cons (s:SV) (l:Bz)
end
def Bz.toList:Bz→List SV
 | .nil=> []
 | .cons s l=>s::l.toList
def Bz.of:List SV→Bz
 | []=> .nil
 |s::l=> .cons s (Bz.of l)
def EL.of:List E→EL
 | []=> .nil
 |s::l=> .cons s (EL.of l)
inductive Aj where
 |box (ty:Nat) (g:Bool) (cs:List SV)
 |row (ety sz g:Nat) (x:E) (deep:Bool)
 |bu (g:Nat) (x:E)
 |gd (gs:Gd) (e:Aj)
 |dead
 |deep (ety sz:Nat) (l:List DT) (g ep:Nat) (x:E)
 |hol (ety sz:Nat) (l:List DT) (g ep:Nat) (x i:E) (o u:Nat)
inductive Cn where
 |dfd (x:E)
 |agg (x:E) (n:Nat)
 |cells (x:E) (n:Nat)
 |inb (i x:E) (sz:Nat)
 |inbS (i x:E)
 |win (x lo hi:E)
 |winS (x lo hi:E)
 |room (x y:E) (bytes:Nat)
 |roomS (x y:E)
 |mkroom (n:E) (bytes:Nat)
 |nz (x:E)
 |nn (x:E)
 |isref (x:E) (n:Nat)
 |issl (x:E) (sz:Nat)
 |flat (x:E) (n:Nat) (g:Bool)
 |flatS (x:E) (sz:Nat)
 |kinds (x:E) (ks:List SK)
inductive PM where
 |ro
 |bx (own own':List Bool)
 |va (own:List Bool)
 |mu (own:List Bool)
structure HC where
 cr:List PM
 res:List Bool
 ft:List TypeId:= []
 dp:Bool:=false
 wn:Bool:=false
 fz:Bool:=false
 lo:List Bool:= []
structure BT where
 f:Nat→Option HC
 dp:Bool:=false
 wn:Bool:=false
 fz:Bool:=false
instance:CoeFun BT (fun _=>Nat→Option HC):=⟨BT.f⟩
structure zJ6 where
 fn:Nat ⊕ E
 args:List E
structure A5 where
 bt:List Cn:= []
 call:Option zJ6:=none
 cd:Option E:=none
 val:SV:= .undef
 bq:List (Nat × Aj):= []
def NG (t:Nat):Bool:=decide (t<100000)&&(t % 1000==0||decide (500≤t % 1000))
structure St where
 sl:List SV
 hp:List (Nat × Aj)
 nx:Nat
 nv:Nat
section
variable (P:Program)
def Aq (t:TypeId):Bool:=match P.underlying t with|some (.struct _)=>true|some (.array _ _)=>true|_=>false
def IE (t:TypeId):Bool:=match P.info? t with
 |some i=>(match i.zero with|some z=>z.cells.size==i.size&&i.size !=0|none=>false)
 |none=>false
def Dv (t:TypeId):Bool:=(P.info? t).isSome&&(P.underlying t).isSome
def dB:Nat→TypeId→List TypeId
 |0,t=> [t]
 |n+1,t=>match P.underlying t with
  |some (.struct fs)=>fs.toList.flatMap fun f=>dB n f.type
  |some (.array k e)=>(List.replicate k (dB n e)).flatten
  |_=> [t]
def A6 (t:TypeId):List TypeId:=dB P 6 t
def Ca (t:TypeId):Bool:=(A6 P t).all fun u=>match P.underlying u with|some (.int _)=>true|some .bool=>true|some .string=>true|_=>false
def CI (t:TypeId):Option TypeId:=match P.underlying t with|some (.slice e)=>some e|_=>none
def dI:Nat→TypeId→Option DT
 |0,_=>none
 |n+1,t=>match P.underlying t with
  |some (.int _)=>some .flat
  |some .bool=>some .flat
  |some .string=>some .flat
  |some (.slice e)=>if P.cellsOf e=0∨(A6 P e).length≠P.cellsOf e then none else((A6 P e).mapM (dI n)).map fun l=> .row e (P.cellsOf e) (AY.of l)
  |_=>none
def D5 (t:TypeId):Option DT:=if shT t then none else dI P 8 t
end
def E1:Value→Option SV
 | .int k n=>if k.wrap n=n then some (.e (.int k n))else none
 | .bool b=>some (.e (.bool b))
 | .string s=>if s.size≤9223372036854775807 then some (.e (.str s))else none
 | .slice none 0 0=>some .cf
 | .pointer none=>some (.e .dy)
 | .agg cs=>go cs.toList>>=fun l=>some (.agg (Bz.of l))
 |_=>none
where
 go:List Value→Option (List SV)
 | []=>some []
 | .int k n::l=>if k.wrap n=n then(go l).map (.e (.int k n):: ·)else none
 | .bool b::l=>(go l).map (.e (.bool b):: ·)
 | .string s::l=>if s.size≤9223372036854775807 then(go l).map (.e (.str s):: ·)else none
 | .slice none 0 0::l=>(go l).map (.cf:: ·)
 | .pointer none::l=>(go l).map (.e .dy:: ·)
 |_=>none
def PN (g:E × Bool) (gs:Gd):Bool:=gs.any fun h=>h.1.beq g.1&&h.2==g.2
def Mb (hs gs:Gd):Bool:=hs.all fun h=>PN h gs
def ungd (gs:Gd):SV→Option SV
 | .gd hs s=>if Mb hs gs then some s else none
 | .undef=>none
 |s=>some s
def Me (gs:Gd):Aj→Option Aj
 | .gd hs e=>if Mb hs gs then some e else none
 |e=>some e
def mkGd (gs:Gd) (s:SV):SV:=match gs with| []=>s|_=> .gd gs s
def CP (gs:Gd) (e:Aj):Aj:=match gs with| []=>e|_=> .gd gs e
section
variable (hp:Nat→Option Aj) (gs:Gd)
def Dp (t:Nat):Option Aj:=(hp t).bind (Me gs)
def Iw (t g:Nat):Option E:=match Dp hp gs t with
 |some (.row _ _ g' x _)=>if g=g' then some x else none
 |some (.bu g' x)=>if g=g' then some x else none
 |some (.deep _ _ _ g' _ x)=>if g=g' then some x else none
 |_=>none
def NI (t n:Nat):Bool:=match Dp hp gs t with
 |some (.deep _ _ _ _ ep _)=>n==ep
 |_=>false
mutual
def Bq:Nat→SV→Option E
 |0,_=>none
 |n+1,s=>match s with
  | .undef=>none
  | .e x=>some x
  | .cf=>some (.lst .nil)
  | .emp=>some (.lst .nil)
  | .own t g=>Iw hp gs t g
  | .cm t 0=>match Dp hp gs t with
   |some (.box _ _ cs)=>(Cr n cs).map fun l=> .ref (.mk l)
   |_=>none
  | .cm .. =>none
  | .cx .. =>none
  | .dn .. =>none
  | .dj x 0=>some x
  | .dj .. =>none
  | .agg cs=>(Cr n cs.toList).map .mk
  | .tup cs=>(Cr n cs.toList).map .tup
  | .fn f cs=>(Cr n cs.toList).map (.fn f)
  | .gd hs s=>if Mb hs gs then Bq n s else none
  | .via t _ m _ x=>if NI hp gs t m then some x else none
  | .vptr .. =>none
  | .wown t g lo z=>match Dp hp gs t with
   |some (.row _ z' g' x _)=>if g=g'∧z=z' then some (.win x lo (.len x))else none
   |_=>none
  | .lent _=>none
def Cr:Nat→List SV→Option EL
 |0,_=>none
 |_+1, []=>some .nil
 |n+1,s::l=>match Bq n s,Cr n l with
  |some x,some xs=>some (.cons x xs)
  |_,_=>none
end
def BR:Nat→List SV→List Nat
 |0,_=> []
 |_+1, []=> []
 |n+1,s::l=>(match s with
  | .own t _=> [t]
  | .cx t .. => [t]
  | .cm t _=>t::(match Dp hp gs t with|some (.box _ _ cs)=>BR n cs|_=> [])
  | .agg cs=>BR n cs.toList
  | .tup cs=>BR n cs.toList
  | .fn _ cs=>BR n cs.toList
  | .gd _ s=>BR n [s]
  | .via t .. => [t]
  | .vptr t .. => [t]
  | .wown t .. => [t]
  |_=> [])++BR n l
end
def A1:Nat:=200
def DH (hp:Nat→Option Aj) (gs:Gd) (ts:List Nat):Option (List (Nat × Aj)):=
 match ts with
 | []=>some []
 |t::ts=>match Dp hp gs t,DH hp gs ts with
  |some (.row _ _ g x _),some l=>if gs.isEmpty then some ((t, .bu g x)::l)else none
  |some (.deep _ _ _ g _ x),some l=>if gs.isEmpty then some ((t, .bu g x)::l)else none
  |some (.bu ..),some l=>some l
  |some (.box ..),some l=>some l
  |_,_=>none
def NJ (hp:Nat→Option Aj) (gs:Gd) (ts:List Nat):Bool:= !ts.any fun t=>match Dp hp gs t with|some (.box ..)=>true|_=>false
def zN (P:Program) (t:TypeId) (x:E):Cn:=if Aq P t then .agg x (P.cellsOf t)else .cells x 1
def XF (P:Program) (hp:Nat→Option Aj) (gs:Gd) (t:TypeId) (s:SV):Option (E × List (Nat × Aj) × Bool × List Cn):=
 match Bq hp gs A1 s with
 |none=>none
 |some x=>
  if Ca P t then some (x, [],true, [.flat x (P.cellsOf t) (Aq P t)])else
  if NJ hp gs (BR hp gs (A1+1) [s])then
   match DH hp gs (BR hp gs (A1+1) [s])with
   |none=>none
   |some l=>some (x,l,false, [zN P t x])
  else none
def Us:E→Bool
 | .int .. =>true
 | .bool _=>true
 | .str _=>true
 |_=>false
def jH (hp:Nat→Option Aj) (gs:Gd) (d:DT) (s:SV):Option (List Nat × List Cn):=
 match d,s with
 | .flat, .e x=>some ([],if Us x then []else [.flat x 1 false])
 | .row _ z l, .cf=>if 0<z∧l.toList.length=z then some ([], [])else none
 | .row _ z l, .emp=>if 0<z∧l.toList.length=z then some ([], [])else none
 | .row e z l, .own u g=>(match Dp hp gs u with
  |some (.deep e' z' l' g' _ _)=>if g=g'∧e=e'∧z=z'∧(AY.of l').beq l then some ([u], [])else none
  |some (.row e' z' g' _ true)=>if g=g'∧e=e'∧z=z'∧l.toList.all DT.bw∧l.toList.length=z then some ([u], [])else none
  |_=>none)
 |_,_=>none
def Nx (hp:Nat→Option Aj) (gs:Gd):List DT→List SV→Option (List Nat × List Cn)
 | [], []=>some ([], [])
 |d::ds,s::ss=>match jH hp gs d s,Nx hp gs ds ss with
  |some (us,ck),some (vs,cks)=>some (us++vs,ck++cks)
  |_,_=>none
 |_,_=>none
def HZ:SV→List SV × Bool
 | .agg cs=>(cs.toList,true)
 |s=>([s],false)
def SO (P:Program) (hp:Nat→Option Aj) (gs:Gd) (t:TypeId) (ds:List DT) (s:SV):Option (E × List Nat × List Cn):=
 match Bq hp gs A1 s with
 |none=>none
 |some x=>
  if ds.all DT.bw then some (x, [], [.flat x (P.cellsOf t) (Aq P t)])else
  if(HZ s).2 !=Aq P t then none else(Nx hp gs ds (HZ s).1).map fun r=>(x,r.1,r.2)
def V8 (P:Program) (hp:Nat→Option Aj) (gs:Gd) (e:TypeId) (ds:List DT):List SV→Option (List E × List Nat × List Cn)
 | []=>some ([], [], [])
 |s::ss=>match SO P hp gs e ds s,V8 P hp gs e ds ss with
  |some (x,us,ck),some (xs,vs,cks)=>some (x::xs,us++vs,ck++cks)
  |_,_=>none
def L5:List Nat→Bool
 | []=>true
 |x::l=> !l.contains x&&L5 l
def Fi (l:List Nat):List (Nat × Aj):=l.map fun u=>(u,Aj.dead)
def WJ (hp:Nat→Option Aj) (gs:Gd) (e z:Nat) (l:List DT) (s:SV):Option (List Nat):=
 match s with
 | .cf=>some []
 | .emp=>some []
 | .own u g=>(match Dp hp gs u with
  |some (.deep e' z' l' g' _ _)=>if g=g'∧e=e'∧z=z'∧(AY.of l').beq (AY.of l)then some [u]else none
  |_=>none)
 |_=>none
def SC (P:Program) (t:TypeId) (s:SV):Option (List SV × List Cn):=
 if Aq P t then
  match s with
  | .agg cs=>some (cs.toList, [])
  | .e x=>some ((List.range (P.cellsOf t)).map fun j=> .e (.fld x j 1 false), [.agg x (P.cellsOf t)])
  |_=>none
 else match s with
  | .e x=>some ([s],match x with| .int .. => []| .bool _=> []| .str _=> []| .dy=> []|x=> [.cells x 1])
  | .agg _=>none
  | .tup _=>none
  | .undef=>none
  | .gd .. =>none
  | .via .. =>none
  | .vptr .. =>none
  | .wown .. =>none
  | .lent _=>none
  |s=>some ([s], [])
def OJ (P:Program) (t:TypeId) (cs:List SV) (o:Nat):Option SV:=
 if Aq P t then(if o+P.cellsOf t≤cs.length then some (.agg (Bz.of ((cs.drop o).take (P.cellsOf t))))else none)else cs[o]?
def Qg (cs:List SV) (o:Nat) (vs:List SV):List SV:=cs.take o++vs++cs.drop (o+vs.length)
def Co:E→Option IntKind
 | .int k _=>some k
 | .len _=>some .i64
 | .slen _=>some .i64
 | .conv k _=>some k
 | .bin .add a _=>Co a
 | .bin .sub a _=>Co a
 | .bin .mul a _=>Co a
 |_=>none
def Sn:E→Bool
 | .bin op a b=>match op with
  | .add| .sub| .mul| .eql| .neq| .lss| .leq| .gtr| .geq=> !((Co a).isSome&&Co a==Co b)
  |_=>true
 |_=>true
def BN (sl:Nat→SV) (gs:Gd):Operand→Option SV
 | .tmp t=>ungd gs (sl t)
 | .const v=>E1 v
 | .func f=>some (.fn f .nil)
 | .global _=>none
def Kr (P:Program) (t:TypeId):Option TypeId:=if 1000000000≤t then some (t-1000000000)else match P.underlying t with|some (.pointer e)=>some e|_=>none
def CQ (P:Program) (t:TypeId):Bool:= !Ca P t
def SM (P:Program) (t e:TypeId) (g ep:Nat) (x:E):Aj:=if Ca P e then .row e (P.cellsOf e) g x true else match D5 P t with
 |some (.row e' z l)=> .deep e' z l.toList g ep x
 |_=> .row e (P.cellsOf e) g x false
def CO (P:Program) (nx:Nat) (mk:Nat→E):Nat→List TypeId→List Bool→List SV × List (Nat × Aj)
 |_, [],_=>([], [])
 |j,t::ts,fl=>
  let q:=CO P nx mk (j+1) ts fl.tail
  match fl.headD false,CI P t with
  |true,some e=>(.own (nx+j) 0::q.1,(nx+j,SM P t e 0 0 (mk j))::q.2)
  |_,_=>(.e (mk j)::q.1,q.2)
def GV (P:Program) (t:TypeId) (fl:List Bool):Bool:=(fl.take (A6 P t).length).any id
def DD (x:E) (g:Bool) (j:Nat):E:=if g then .fld x j 1 false else x
def Pp (P:Program) (nx:Nat) (t:TypeId) (fl:List Bool) (x:E):SV × List (Nat × Aj):=
 if GV P t fl then
  let l:=CO P nx (DD x (Aq P t)) 0 (A6 P t) fl
  (if Aq P t then .agg (Bz.of l.1)else l.1.headD .undef,l.2)
 else(.e x, [])
def Nl (P:Program) (nx:Nat):List TypeId→List Bool→E→Nat→List SV × List (Nat × Aj)
 | [],_,_,_=>([], [])
 |t::ts,fl,x,i=>
  let p:=Pp P nx t fl (.proj x i);let q:=Nl P (nx+(A6 P t).length) ts (fl.drop (A6 P t).length) x (i+1)
  (p.1::q.1,p.2++q.2)
def Xy (P:Program) (t:TypeId):Bool:=match CI P t with|some e=>Ca P e||(D5 P t).isSome|none=>false
def EK (P:Program):List TypeId→List Bool→Bool
 | [],_=>false
 |t::ts,fl=>(!(fl.headD false&&Xy P t)&&CQ P t)||EK P ts fl.tail
def kD (P:Program) (t:TypeId) (fl:List Bool):Bool:=if GV P t fl then EK P (A6 P t) fl else CQ P t
def Dt (P:Program):List TypeId→List Bool→Bool
 | [],_=>false
 |t::ts,fl=>kD P t fl||Dt P ts (fl.drop (A6 P t).length)
end Go.Proofs.YtfdfahjmonlbiaaGreatDoor
end
section
namespace Go.Proofs.YtfdfahjmonlbiaaGreatDoor
open Go.ChangeShapes Go.WideShapes Go.ChangeAt Go.RowKit
def CB (P:Program) (t:TypeId) (Q:List AV→Prop):Prop:=
 0<P.cellsOf t∧ ∀(H:Type) (enc:TypeId × Value→H) (w:World) (spare:Nat→Bool) (held:Bool) (fuel:Nat) (cs:List Value) (x:DataW H × List MemPlace),
  DataW.trod enc P w 0 spare held fuel t cs=some x→cs.length=P.cellsOf t∧(∀u∈cs,u.oneCell'=true)∧ ∃xs f,Rd w cs xs f∧Q xs
theorem CB.mono {P:Program} {t:TypeId} {Q R:List AV→Prop} (h:CB P t Q) (hq: ∀xs,Q xs→R xs):CB P t R:=
 ⟨h.1,fun H enc w s hd fuel cs x hx=>by obtain⟨a,b,xs,f,c,d⟩:=h.2 H enc w s hd fuel cs x hx;exact⟨a,b,xs,f,c,hq _ d⟩⟩
theorem zHw {P:Program} {t:TypeId} {k:IntKind} (ht:P.underlying t=some (.int k)) (hc:P.cellsOf t=1):CB P t fun xs=> ∃n,ET k n∧xs= [.int k n]:=by
 refine⟨by omega,fun H enc w spare held fuel cs x h=> ?_⟩;obtain⟨n,rfl,_,hw⟩:=DataW.trod_int ht h;have hk:ET k n:=by simp only [Lit.wf,Ae,decide_eq_true_eq]at hw;obtain⟨h1,h2⟩:=hw;unfold ET IntKind.wrap;cases k<;>simp [IntKind.min,IntKind.max,IntKind.bits,IntKind.signed]at h1 h2 ⊢ <;>(try split)<;>omega
 exact⟨by simp [hc],by simp [Value.oneCell'], [.int k n], [], .int hk .nil,n,hk,rfl⟩
theorem zFi {P:Program} {t:TypeId} (ht:P.underlying t=some .bool) (hc:P.cellsOf t=1):CB P t fun xs=> ∃b,xs= [.bool b]:=by refine⟨by omega,fun H enc w spare held fuel cs x h=> ?_⟩;obtain⟨b,rfl,_⟩:=DataW.trod_bool ht h;exact⟨by simp [hc],by simp [Value.oneCell'], [.bool b], [], .bool .nil,b,rfl⟩
theorem zCd {P:Program} {t:TypeId} (ht:P.underlying t=some .string) (hc:P.cellsOf t=1):CB P t fun xs=> ∃s:List UInt8,s.length≤9223372036854775807∧xs= [.str s]:=by refine⟨by omega,fun H enc w spare held fuel cs x h=> ?_⟩;obtain⟨s,rfl,_,hs⟩:=DataW.trod_string ht h;have Bb:s.size≤9223372036854775807:=hs;exact⟨by simp [hc],by simp [Value.oneCell'], [.str s.data.toList], [], .str Bb .nil,s.data.toList,by simpa using Bb,rfl⟩
def IK (ag:Bool) (Q:List AV→Prop) (y:AV):Prop:=if ag then∃zs,y= .agg zs∧Q zs else y.cells= [y]∧Q [y]
theorem zIY {ag:Bool} {Q:List AV→Prop} {xs:List AV} (hq:Q xs) (h:ag=true∨(xs.length=1∧ ∀y∈xs,y.cells= [y])): ∃y,IK ag Q y∧y.cells=xs:=by
 cases ag with
 |true=>exact⟨.agg xs,by simpa [IK]using hq,rfl⟩
 |false=>
  obtain⟨hl,hy⟩:=h.resolve_left (by simp)
  match xs,hl with
  | [y],_=>exact⟨y,by simpa [IK]using⟨hy y (by simp),hq⟩,hy y (by simp)⟩
theorem zBA {w:World} {v:Value} {x:AV} {f:List Nat} (h:Rd w [v] [x] f) (hv:v.oneCell'=true):x.cells= [x]:=by cases x<;>first|rfl|(cases h;simp [Value.oneCell']at hv)
theorem zHp {w:World} {b o sz:Nat} {C:Array Value} {T:TypeId} {fz} (hC:w.heap[b]?=some (.cells C T fz)) (ag:Bool) (Q:List AV→Prop):
  ∀(n i:Nat),(∀k,k<n→ ∃cs y f,Rd w cs y.cells f∧IK ag Q y∧cs.length=sz∧(∀u∈cs,u.oneCell'=true)∧ ∀j v,cs[j]?=some v→w.cell? ⟨b,o+(i+k)*sz+j,none⟩=some v)→
   ∃cs ys f,ys.length=n∧Rd w cs (AP ys) f∧(∀y∈ys,IK ag Q y∧y.cells.length=sz)∧(∀u∈cs,u.oneCell'=true)∧ ∀j v,cs[j]?=some v→C[o+i*sz+j]?=some v:=by
 intro n
 induction n with
 |zero=>exact fun i _=>⟨[], [], [],rfl, .nil,by simp,by simp,by simp⟩
 |succ n ih=>
  intro i h;obtain⟨cs,y,f,h1,h2,h3,h4,h5⟩:=h 0 (by omega);obtain⟨cs',ys,f',g1,g2,g3,g4,g5⟩:=ih (i+1) fun k hk=>by have:=h (k+1) (by omega);rw [show i+(k+1)=i+1+k by omega]at this;exact this
  refine⟨cs++cs',y::ys,f++f',by simp [g1], ?_, ?_, ?_, ?_⟩
  ·have e:AP (y::ys)=y.cells++AP ys:=by simp [AP]
   rw [e];exact h1.app g2
  ·intro z hz;rcases Ag.1 hz with rfl|hz
   ·exact⟨h2,by rw [←h1.len,h3]⟩
   ·exact g3 z hz
  ·intro u hu;rcases Ai.1 hu with hu|hu
   ·exact h4 u hu
   ·exact g4 u hu
  ·intro j v hj;rcases Nat.lt_or_ge j cs.length with hl|hl
   ·rw [List.getElem?_append_left hl]at hj;have:=h5 j v hj;unfold World.cell? at this;rw [hC]at this;simpa using this
   ·rw [List.getElem?_append_right hl]at hj;have:=g5 _ v hj;rw [h3]at this hl;rw [show o+i*sz+j=o+(i+1)*sz+(j-sz) by rw [Nat.add_mul];omega];exact this
theorem zyJ {P:Program} {t e:TypeId} {Q:List AV→Prop} (ag:Bool) (ht:P.underlying t=some (.slice e)) (hc:P.cellsOf t=1) (he:CB P e Q) (ha:ag=true∨P.cellsOf e=1):
  CB P t fun xs=> ∃ys,ys.length≤9223372036854775807∧(∀y∈ys,IK ag Q y)∧xs= [.sl ys]:=by
 refine⟨by omega,fun H enc w spare held fuel cs x h=> ?_⟩;have emp: ∀a c,([Value.slice a 0 c]).length=P.cellsOf t∧(∀u∈ [Value.slice a 0 c],u.oneCell'=true)∧ ∃xs f,Rd w [.slice a 0 c] xs f∧ ∃ys,ys.length≤9223372036854775807∧(∀y∈ys,IK ag Q y)∧xs= [.sl ys]:=
  fun a c=>⟨by simp [hc],by simp [Value.oneCell'], [.sl []], [], .ej .nil, [],by simp,by simp,rfl⟩
 rcases DataW.trod_slice ht h with⟨rfl,_⟩|⟨a,len,cap,elems,rest,n,_,rfl,_,_,hl,hm,hlen,BA,_,_⟩
 ·exact emp none 0
 rcases Nat.eq_zero_or_pos len with h0|h0
 ·subst h0;exact emp (some a) cap
 have dJ:=he.1;have Le:a.spot=none:=by have hi:=BA 0 h0;rw [List.getElem?_eq_getElem (by rw [hlen];exact h0),Nat.zero_mul,zy7]at hi;obtain⟨c1,h1,h2⟩:=Aw.1 hi;obtain⟨_,AH,Ct⟩:=World.cells?_some h1;have h3:=Ct 0 dJ;rw [List.getElem?_eq_getElem (by rw [AH];exact dJ),zy7]at h3;exact World.cell?_spot h3
 obtain⟨b,o,s⟩:=a;dsimp only at Le;subst Le;have key: ∀i,i<len→ ∃cs y f,Rd w cs y.cells f∧IK ag Q y∧cs.length=P.cellsOf e∧(∀u∈cs,u.oneCell'=true)∧ ∀j v,cs[j]?=some v→w.cell? ⟨b,o+(0+i)*P.cellsOf e+j,none⟩=some v:=by
  intro i An;have hi:=BA i An;rw [List.getElem?_eq_getElem (by rw [hlen];exact An),uQ]at hi;obtain⟨c1,h1,h2⟩:=Aw.1 hi;obtain⟨BY,Xe,xs,f,hr,hq⟩:=he.2 _ _ _ _ _ _ _ _ h2;obtain⟨_,AH,Ct⟩:=World.cells?_some h1;have CS:ag=true∨(xs.length=1∧ ∀y∈xs,y.cells= [y]):=by
   rcases ha with ha|ha
   ·exact .inl ha
   ·have Ll:xs.length=1:=by rw [←hr.len,BY,ha]
    refine .inr ⟨Ll,fun y hy=> ?_⟩;have eI:c1.length=1:=by rw [BY,ha]
    match xs,c1,Ll,eI with
    | [z], [v],_,_=>obtain rfl:=List.mem_singleton.1 hy;exact zBA hr (Xe v (by simp))
  obtain⟨y,hy,rfl⟩:=zIY hq CS;refine⟨c1,y,f,hr,hy,BY,Xe,fun j v hj=> ?_⟩;have fR:j<P.cellsOf e:=by
   rw [←AH];rcases Nat.lt_or_ge j c1.length with h|h
   ·exact h
   ·rw [List.getElem?_eq_none h]at hj;cases hj
  have h3:=Ct j fR;rw [hj,uQ]at h3;rw [Nat.zero_add];exact h3
 obtain⟨C,T,fz,hC⟩: ∃C T fz,w.heap[b]?=some (.cells C T fz):=by
  obtain⟨cs,y,f,_,_,La,_,AH⟩:=key 0 h0;have h3:=AH 0 _ (List.getElem?_eq_getElem (by omega));unfold World.cell? at h3;split at h3
  ·next c t fz hh=>exact⟨c,t,fz,hh⟩
  ·cases h3
 obtain⟨cs,ys,f,g1,g2,g3,g4,g5⟩:=zHp hC ag Q len 0 key;have TC:len≤9223372036854775807:=by have:maxLen=9223372036854775807:=(by decide+kernel);omega
 refine⟨by simp [hc],by simp [Value.oneCell'], [.sl ys],b::(f++ []), .fu hC h0 ⟨TC,hl⟩ g1 (fun y hy=>(g3 y hy).2) dJ (fun j v hj=>by simpa using g5 j v hj) g4 g2 .nil,ys,by omega,fun y hy=>(g3 y hy).1,rfl⟩
def Uf (P:Program):Nat→List Field→Nat→Bool
 |o, [],n=>o==n
 |o,f::fs,n=>f.offset==o&&Uf P (o+P.cellsOf f.type) fs n
inductive Uj (P:Program):List Field→List (List AV→Prop)→Prop where
 |nil:Uj P [] []
 |cons {f fs Q Qs}:CB P f.type Q→Uj P fs Qs→Uj P (f::fs) (Q::Qs)
def jZ:List (List AV→Prop)→List AV→Prop
 | [],xs=>xs= []
 |Q::Qs,xs=> ∃a b,xs=a++b∧Q a∧jZ Qs b
theorem zIf {P:Program} {H:Type} {enc:TypeId × Value→H} {w:World} {spare:Nat→Bool} {held:Bool} {n:Nat} {cs:List Value} {fs:List Field} {Qs:List (List AV→Prop)} (hF:Uj P fs Qs):
  ∀o,Uf P o fs cs.length=true→(∀f∈fs,∃x,DataW.trod enc P w 0 spare held n f.type ((cs.drop f.offset).take (P.cellsOf f.type))=some x)→
   (∀u∈cs.drop o,u.oneCell'=true)∧ ∃xs f,Rd w (cs.drop o) xs f∧jZ Qs xs:=by
 induction hF with
 |nil=>
  intro o ho _;have:o=cs.length:=by simpa [Uf]using ho
  subst this;simp only [List.drop_length];exact⟨by simp, [], [], .nil,rfl⟩
 | @cons fd fs' Q Qs' hQ _ ih=>
  intro o ho hx;simp only [Uf,Ae,beq_iff_eq]at ho;obtain⟨rfl,ho⟩:=ho;obtain⟨x,h1⟩:=hx _ (List.mem_cons_self ..);obtain⟨hl,h2,xs,f,h3,h4⟩:=hQ.2 _ _ _ _ _ _ _ _ h1;obtain⟨k2,ys,g,k3,k4⟩:=ih _ ho fun f hf=>hx f (List.mem_cons_of_mem _ hf);rw [←List.drop_drop]at k2 k3;rw [←List.take_append_drop (P.cellsOf fd.type) (cs.drop fd.offset)];refine⟨fun u hu=> ?_,xs++ys,f++g,h3.app k3,xs,ys,rfl,h4,k4⟩;rcases Ai.1 hu with hu|hu
  ·exact h2 u hu
  ·exact k2 u hu
theorem KB {P:Program} {t:TypeId} {fs:Array Field} {Qs:List (List AV→Prop)} (ht:P.underlying t=some (.struct fs)) (h0:0<P.cellsOf t) (ho:Uf P 0 fs.toList (P.cellsOf t)=true) (hF:Uj P fs.toList Qs):
  CB P t (jZ Qs):=by
 refine⟨h0,fun H enc w spare held fuel cs x h=> ?_⟩;obtain⟨xs,n,_,_,hl,hlen,hf⟩:=DataW.trod_struct ht h;have:=zIf (cs:=cs) (enc:=enc) (w:=w) (spare:=spare) (held:=held) (n:=n) hF 0 (by rw [hl];exact ho) fun f hm=>by
  obtain⟨i,hi⟩:=List.getElem?_of_mem hm;have Bt:fs[i]?=some f:=by simpa using hi
  have An:i<xs.length:=by
   rw [hlen];rcases Nat.lt_or_ge i fs.size with h|h
   ·exact h
   ·rw [Array.getElem?_eq_none h]at Bt;cases Bt
  exact⟨xs[i],by rw [hf i f Bt,List.getElem?_eq_getElem An]⟩
 rw [List.drop_zero]at this;exact⟨hl,this⟩
end Go.Proofs.YtfdfahjmonlbiaaGreatDoor
end
section
namespace Go.Proofs.YtfdfahjmonlbiaaGreatDoor
open Go.RowKit
inductive Xt where
 |normal
 |exit (id:Nat)
 |ret
inductive Tr where
 |leaf (x:Xt) (σ:St)
 |ret (r:E)
 |jmp (d:Nat) (es:EL)
 |ite (c:E) (a b:Tr)
 |bt (gs:Gd) (c:Cn) (k:Tr)
 |call (gs:Gd) (f:Nat ⊕ E) (args:EL) (k:Tr)
 |cd (gs:Gd) (x:E) (k:Tr)
 |stuck
 |join (t k:Tr)
 |loop (init:EL) (body k:Tr)
section
variable (P:Program) (sg:BT)
def zC (t:TypeId):Option SV:=((P.info? t).bind (·.zero)).bind E1
inductive RI where
 |fl (u v e z:Nat) (d:Bool)
 |dp (u v:Nat) (e z:Nat) (l:List DT) (ep:Nat)
def RI.tag:RI→Nat
 | .fl u .. =>u
 | .dp u .. =>u
def Pu:Option DT→Nat→Nat→List DT→Bool
 |some (.row e z l),e',z',l'=>e==e'&&z==z'&&(AY.of l').beq l
 |_,_,_,_=>false
def rQ (hp:Nat→Option Aj) (gs:Gd) (t:TypeId) (c:SV):Option (Option RI):=
 match CI P t with
 |none=>none
 |some el=>if P.cellsOf el=0 then none else match c with
  | .cf=>some none
  | .emp=>some none
  | .own u v=>(match Dp hp gs u with
   |some (.row e z v' _ d)=>if v=v'∧e=el∧z=P.cellsOf el∧(Ca P el∧d∨Ca P el=false∧(D5 P t).isNone)then some (some (.fl u v e z (Ca P el)))else none
   |some (.deep e z l v' ep _)=>if v=v'∧Ca P el=false∧Pu (D5 P t) e z l then some (some (.dp u v e z l ep))else none
   |_=>none)
  |_=>none
def Hs (hp:Nat→Option Aj) (gs:Gd):List TypeId→List SV→List Bool→Option (List (Option RI) × List Nat)
 | [], [],_=>some ([], [])
 |t::ts,c::cs,fl=>match Hs hp gs ts cs fl.tail with
  |none=>none
  |some (l,us)=>if fl.headD false then(match rQ P hp gs t c with|some r=>some (r::l,us)|none=>none)else some (none::l,BR hp gs (A1+1) [c]++us)
 |_,_,_=>none
def CE (l:List (Option RI)):List Nat:=l.filterMap fun r=>r.map RI.tag
inductive PA where
 |box (t:Nat) (g:Bool) (own':List Bool) (ty:Nat) (olds:List Nat)
 |mu (rows:List (Option RI)) (g:Bool)
 |va (rows:List Nat)
def Up (hp:Nat→Option Aj) (gs:Gd):List TypeId→List PM→List Bool→List SV→Option (List E × List PA × List Nat × List Nat)
 |_,_,_, []=>some ([], [], [], [])
 |ts,ms,lo,s::ss=>
  match Up hp gs ts.tail ms.tail lo.tail ss with
  |none=>none
  |some (ys,bs,us,uz)=>
  match ms.headD .ro with
  | .ro=>if lo.headD false&& !ts.isEmpty then(match s with
    | .lent i=>some (.var i::ys,bs,us,uz)
    |s=>(Bq hp gs A1 s).map fun x=>(x::ys,bs,us,BR hp gs (A1+1) [s]++uz))
   else(Bq hp gs A1 s).map fun x=>(x::ys,bs,BR hp gs (A1+1) [s]++us,uz)
  | .bx own own'=>(match ts.head?.bind (Kr P),s,gs with
   |some ty, .cm t 0, []=>(match Dp hp gs t with
    |some (.box ty' g cs)=>if ty'≠ty then none else
     (match Cr hp gs A1 cs,Hs P hp gs (A6 P ty) cs own with
     |some xs,some (rs,vs)=>some (.ref (.mk xs)::ys, .box t g own' ty (CE rs)::bs,vs++us,uz)
     |_,_=>none)
    |_=>none)
   |_,_,_=>none)
  | .mu own=>(match ts.head?,gs,Bq hp gs A1 s with
   |some t, [],some x=>if(HZ s).2 !=Aq P t then none else(match Hs P hp gs (A6 P t) (HZ s).1 own with
    |some (rs,vs)=>some (x::ys, .mu rs (HZ s).2::bs,vs++us,uz)
    |none=>none)
   |_,_,_=>none)
  | .va own=>(match ts.head?,gs,Bq hp gs A1 s with
   |some t, [],some x=>if(HZ s).2 !=Aq P t then none else(match Hs P hp gs (A6 P t) (HZ s).1 own with
    |some (rs,vs)=>some (x::ys, .va (CE rs)::bs,vs++us,uz)
    |none=>none)
   |_,_,_=>none)
def DB:List PA→List Nat
 | []=> []
 | .box t _ _ _ olds::l=>t::olds++DB l
 | .mu rows _::l=>CE rows++DB l
 | .va rows::l=>rows++DB l
def IF:List PA→Nat
 | []=>0
 | .va _::l=>IF l
 |_::l=>IF l+1
def L4 (mk:Nat→E):Nat→List (Option RI)→List (Nat × Aj)
 |_, []=> []
 |j,none::rs=>L4 mk (j+1) rs
 |j,some (.fl u v e z d)::rs=>(u, .row e z v (mk j) d)::L4 mk (j+1) rs
 |j,some (.dp u v e z l ep)::rs=>(u, .deep e z l v (ep+1) (mk j))::L4 mk (j+1) rs
def after (r:Nat):Nat→List PA→Nat→List (Nat × Aj)
 |_, [],_=> []
 |nx, .box t g own' ty olds::bs,j=>
  let l:=CO P nx (DD (.proj (.var r) (j+1)) true) 0 (A6 P ty) own'
  Fi olds++((t, .box ty g l.1)::l.2)++after r (nx+(A6 P ty).length) bs (j+1)
 |nx, .mu rows g::bs,j=>L4 (DD (.proj (.var r) (j+1)) g) 0 rows++after r nx bs (j+1)
 |nx, .va rows::bs,j=>Fi rows++after r nx bs j
def KI:List PA→Nat
 | []=>0
 | .box _ _ _ ty _::l=>(A6 P ty).length+KI l
 |_::l=>KI l
def RI.lent:Option RI→Bool
 |some (.fl _ _ _ _ d)=> !d
 |_=>false
def D0:List PA→Bool
 | []=>false
 | .box _ _ own' ty _::l=>EK P (A6 P ty) own'||D0 l
 | .mu rows _::l=>rows.any RI.lent||D0 l
 |_::l=>D0 l
def T9 (gs:Gd) (l:List (Nat × Aj)):List (Nat × Aj):=l.map fun(i,e)=>(i,CP gs e)
def Wq (hp:Nat→Option Aj) (gs:Gd) (nv nx f:Nat) (args:List SV):Option A5:=
 match P.funcs[f]?,sg f with
 |some fn,some s=>
  if fn.body.isNone||args.length !=fn.params.size+fn.nfree||fn.nfree<s.ft.length then none else
  match Up P hp gs (fn.params.toList++s.ft) s.cr s.lo args with
  |none=>none
  |some (es,bs,us,uz)=>
   if !L5 (DB bs)||us.any (fun u=>(DB bs).contains u)||uz.any (fun u=>(DB bs).contains u)then none else
   let ts:=fn.resultTypes.toList;let r:E:=if IF bs=0 then .var nv else .proj (.var nv) 0;let nl:=(ts.flatMap (A6 P)).length;let unfl:=Dt P ts s.res||D0 P bs;let ba:=after P nv (nx+nl) bs 0
   if 999≤nl+KI P bs then none else
   if unfl&& !NJ hp gs us then none else
   match(if unfl then DH hp gs us else some [])with
   |none=>none
   |some fz=>
    match ts with
    | [t]=>let p:=Pp P nx t s.res r;some {call:=some ⟨.inl f,es⟩,val:=p.1,bq:=fz++(T9 gs p.2++ba)}
    |_=>let p:=Nl P nx ts s.res r 0;some {call:=some ⟨.inl f,es⟩,val:= .tup (Bz.of p.1),bq:=fz++(T9 gs p.2++ba)}
 |_,_=>none
def Sy (hp:Nat→Option Aj) (gs:Gd) (nv:Nat) (t:TypeId) (f:E) (args:List SV):Option A5:=
 if CQ P t then none else
 match Cr hp gs A1 args with
 |none=>none
 |some es=>some {call:=some ⟨.inr f,go es⟩,val:= .e (.var nv)}
where
 go:EL→List E
 | .nil=> []
 | .cons e es=>e::go es
def yT (hp:Nat→Option Aj) (gs:Gd) (t:TypeId) (s:SV):Option A5:=
 match P.underlying t with
 |some (.slice _)=>(Bq hp gs A1 s).map fun x=>{bt:= [.dfd (.len x)],val:= .e (.len x)}
 |some .string=>(Bq hp gs A1 s).map fun x=>{bt:= [.dfd (.slen x)],val:= .e (.slen x)}
 |_=>none
def Ww (hp:Nat→Option Aj) (gs:Gd) (e:TypeId) (x:SV) (y:E):Option (List (Nat × Aj) × Bool × Cn):=
 if Ca P e then some ([],true, .flatS y (P.cellsOf e))else
 if NJ hp gs (BR hp gs (A1+1) [x])then(DH hp gs (BR hp gs (A1+1) [x])).map fun l=>(l,false, .issl y (P.cellsOf e))else none
def aX (hp:Nat→Option Aj) (gs:Gd) (nx:Nat) (ts tx:TypeId) (s x:SV):Option A5:=
 if ts≠tx then none else
 match CI P ts,D5 P ts,gs with
 |some e,some (.row e' z l), []=>
  if !IE P e∨Ca P e∨e'≠e∨z≠P.cellsOf e then none else
  (match Bq hp [] A1 x,WJ hp [] e z l.toList x with
  |some y,some us=>(match s with
   | .own t g=>(match Dp hp [] t with
    |some (.deep e2 z2 l2 g2 _ c)=>if e2=e∧z2=z∧(AY.of l2).beq l∧g=g2∧ !us.contains t then
      some {bt:= [.room c y (P.bytesOf e)],val:= .own nx 0,bq:=(nx, .deep e z l.toList 0 0 (.app c y))::Fi (t::us)}else none
    |_=>none)
   | .emp=>some {bt:= [.room (.lst .nil) y (P.bytesOf e)],val:= .own nx 0,bq:=(nx, .deep e z l.toList 0 0 (.app (.lst .nil) y))::Fi us}
   | .cf=>some {bt:= [.room (.lst .nil) y (P.bytesOf e)],val:= .own nx 0,bq:=(nx, .deep e z l.toList 0 0 (.app (.lst .nil) y))::Fi us}
   |_=>none)
  |_,_=>none)
 |_,_,_=>none
def qO (hp:Nat→Option Aj) (gs:Gd) (nx:Nat) (ts tx:TypeId) (s x:SV):Option A5:=
 if ts≠tx then none else
 match CI P ts with
 |some e=>
  if !IE P e then none else
  match Bq hp gs A1 x with
  |none=>none
  |some y=>
   match Ww P hp gs e x y with
   |none=>none
   |some (fz,d,ck)=>
    match s with
    | .own t g=>(match Dp hp gs t with
     |some (.row e' sz' g' c d')=>if e=e'∧P.cellsOf e=sz'∧g=g'∧gs= []∧ !(fz.map (·.1)).contains t then
       some {bt:= [.room c y (P.bytesOf e),ck],val:= .own t (g+1),bq:=fz++ [(t, .row e (P.cellsOf e) (g+1) (.app c y) (d&&d'))]}else none
     |_=>none)
    | .emp=>some {bt:= [.room (.lst .nil) y (P.bytesOf e),ck],val:= .own nx 0,bq:=fz++ [(nx,CP gs (.row e (P.cellsOf e) 0 (.app (.lst .nil) y) d))]}
    | .cf=>some {bt:= [.room (.lst .nil) y (P.bytesOf e),ck],val:= .own nx 0,bq:=fz++ [(nx,CP gs (.row e (P.cellsOf e) 0 (.app (.lst .nil) y) d))]}
    |_=>none
 |_=>none
def Fx (s:SV):Option E:=match s with
 | .e x=>some x
 |_=>none
def SW:Nat→List Field→Option (List SK)
 |_, []=>some []
 |j,f::fs=>if f.name= "_" ∨f.offset≠j∨ !Dv P f.type∨P.cellsOf f.type≠1 then none else match P.underlying f.type,SW (j+1) fs with
  |some (.int k),some l=>some (.int k::l)
  |some .bool,some l=>some (.bool::l)
  |some .string,some l=>some (.str::l)
  |_,_=>none
def SU (hp:Nat→Option Aj) (gs:Gd) (nv:Nat) (op:BinOp) (t:TypeId) (a b:SV):Option A5:=
 match P.underlying t with
 |some (.slice _)=>(match a,b,op with
  | .cf, .cf, .eql=>some {val:= .e (.bool true)}
  | .cf, .cf, .neq=>some {val:= .e (.bool false)}
  |a, .cf, .eql=>(Bq hp gs A1 a).map fun x=>{bt:= [.dfd (.len x)],cd:=some x,val:= .e (.var nv)}
  |a, .cf, .neq=>(Bq hp gs A1 a).map fun x=>{bt:= [.dfd (.len x)],cd:=some x,val:= .e (.not (.var nv))}
  |_,_,_=>none)
 |some (.int _)=>(match Fx a,Fx b with
  |some x,some y=>
   let r:E:= .bin op x y;let c1:=if Sn r then [Cn.dfd r]else []
   let c2:=match op with| .quo| .rem=> [Cn.nz y]| .shl| .shr=> [Cn.nn y]|_=> []
   some {bt:=c2++c1,val:= .e r}
  |_,_=>none)
 |some .string=>(match Fx a,Fx b with
  |some x,some y=>
   let r:E:= .sbin op x y
   some {bt:=(match op with| .add=> [Cn.roomS x y]|_=> [])++ [.dfd r],val:= .e r}
  |_,_=>none)
 |some .bool=>(match Fx a,Fx b with
  |some x,some y=>some {bt:= [.dfd (.bbin op x y)],val:= .e (.bbin op x y)}
  |_,_=>none)
 |some (.struct fs)=>
  if P.stoodInHeld t||P.eqGuardType P.depth t then none else
  (match SW P 0 fs.toList,Bq hp gs A1 a,Bq hp gs A1 b with
  |some ks,some x,some y=>(match op with
   | .eql=>some {bt:= [.kinds x ks, .kinds y ks],val:= .e (.aeq x y)}
   | .neq=>some {bt:= [.kinds x ks, .kinds y ks],val:= .e (.not (.aeq x y))}
   |_=>none)
  |_,_,_=>none)
 |_=>none
def bX (op:BinOp) (a b:SV):Option A5:=match a,b with
 | .e x, .e y=>some {bt:= [.dfd (.bin op y x)],val:= .e (.ite (.bin op y x) y x)}
 |_,_=>none
def ptrOff (s:SV) (o:Nat):Option SV:=match s with
 | .cm t p=>some (.cm t (p+o))
 | .cx t g i sz p=>some (.cx t g i sz (p+o))
 | .dn x i sz p=>some (.dn x i sz (p+o))
 | .dj x p=>some (.dj x (p+o))
 | .vptr t g m q x i sz p=>some (.vptr t g m q x i sz (p+o))
 |_=>none
def zKm (hp:Nat→Option Aj) (gs:Gd) (s:SV):Bool:=match s with
 | .vptr t _ m _ _ _ _ _=>NI hp gs t m
 |_=>true
def asPtr (s:SV):SV × List Cn:=match s with
 | .e x=>(.dj x 0, [.isref x 0])
 |s=>(s, [])
def xT (hp:Nat→Option Aj) (gs:Gd) (t:TypeId) (a:SV):Option A5:=
 if !Dv P t then none else
 match a with
 | .cm b o=>(match Dp hp gs b with
  |some (.box _ _ cs)=>(OJ P t cs o).map fun s=>{val:=s}
  |_=>none)
 | .cx b g i sz o=>(match Dp hp gs b with
  |some (.row _ sz' g' c _)=>if g=g'∧sz=sz'∧o+P.cellsOf t≤sz∧(Aq P t∨P.cellsOf t=1)then some {val:= .e (.fld (.idx c i) o (P.cellsOf t) (Aq P t))}else none
  |some (.deep _ sz' l g' ep c)=>if g=g'∧sz=sz'∧o+P.cellsOf t≤sz∧(Aq P t∨P.cellsOf t=1)then
    (if((l.drop o).take (P.cellsOf t)).all DT.bw then some {val:= .e (.fld (.idx c i) o (P.cellsOf t) (Aq P t))}
    else some {val:= .via b g ep (if Aq P t then none else some (i,sz,o)) (.fld (.idx c i) o (P.cellsOf t) (Aq P t))})else none
  |_=>none)
 | .vptr b g m _ x i sz o=>if o+P.cellsOf t≤sz∧(Aq P t∨P.cellsOf t=1)∧NI hp gs b m then
   (if Ca P t then some {bt:= [.flat (.fld (.idx x i) o (P.cellsOf t) (Aq P t)) (P.cellsOf t) (Aq P t)],val:= .e (.fld (.idx x i) o (P.cellsOf t) (Aq P t))}
   else some {val:= .via b g m none (.fld (.idx x i) o (P.cellsOf t) (Aq P t))})else none
 | .dn x i sz o=>if o+P.cellsOf t≤sz∧(Aq P t∨P.cellsOf t=1)then some {val:= .e (.fld (.idx x i) o (P.cellsOf t) (Aq P t))}else none
 | .dj x o=>if Aq P t∨P.cellsOf t=1 then some {bt:= [.isref x (o+P.cellsOf t)],val:= .e (.fld (.deref x) o (P.cellsOf t) (Aq P t))}else none
 |_=>none
def Nu (hp:Nat→Option Aj) (gs:Gd) (t:TypeId) (a v:SV):Option A5:=
 match a with
 | .cm b o=>(match Dp hp gs b,SC P t v with
  |some (.box ty g cs),some (vs,ck)=>if Dv P t∧vs.length=P.cellsOf t∧o+vs.length≤cs.length∧gs= []then some {bt:=ck,bq:= [(b, .box ty g (Qg cs o vs))]}else none
  |_,_=>none)
 | .cx b g i sz o=>(match Dp hp gs b with
  |some (.row e sz' g' c d)=>if g=g'∧sz=sz'∧gs= []∧Dv P t∧o+P.cellsOf t≤sz∧(Aq P e∨(sz=1∧ !Aq P t))∧(Aq P t∨P.cellsOf t=1)then
    (match XF P hp gs t v with
    |some (x,fz,dx,ck)=>if(fz.map (·.1)).contains b then none else
     some {bt:=ck++(if d&&dx then [.flat (.fld (.idx c i) o (P.cellsOf t) (Aq P t)) (P.cellsOf t) (Aq P t)]else []),bq:=fz++ [(b, .row e sz g (.set c i (.put (.idx c i) o x (Aq P e))) (d&&dx))]}
    |none=>none)else none
  |some (.deep e sz' l g' ep c)=>if g=g'∧sz=sz'∧gs= []∧Dv P t∧o+P.cellsOf t≤sz∧(Aq P e∨(sz=1∧ !Aq P t))∧(Aq P t∨P.cellsOf t=1)then
    (match SO P hp gs t ((l.drop o).take (P.cellsOf t)) v with
    |some (x,us,ck)=>if !L5 us||us.contains b then none else
     some {bt:=ck,bq:=(b, .deep e sz l g (ep+1) (.set c i (.put (.idx c i) o x (Aq P e))))::Fi us}
    |none=>none)else none
  |some (.hol e sz' l g' ep c i' o' _)=>if g=g'∧sz=sz'∧gs= []∧Dv P t∧o=o'∧i.beq i'∧o+1≤sz∧P.cellsOf t=1∧ !Aq P t∧(Aq P e∨sz=1)then
    (match SO P hp gs t ((l.drop o).take 1) v with
    |some (x,us,ck)=>if !L5 us||us.contains b then none else
     some {bt:=ck,bq:=(b, .deep e sz l g (ep+1) (.set c i (.put (.idx c i) o x (Aq P e))))::Fi us}
    |none=>none)else none
  |_=>none)
 |_=>none
def Um (places:List (Nat × Nat)) (tys:List TypeId):List (Nat × SV)→List SV→Option (List SV × List Cn)
 | [],cs=>some (cs, [])
 |(i,s)::ps,cs=>match places[i]?,tys[i]? with
  |some (off,sz),some t=>(match SC P t s with
   |some (vs,ck)=>if vs.length=sz∧off+vs.length≤cs.length then(Um places tys ps (Qg cs off vs)).map fun r=>(r.1,ck++r.2)else none
   |none=>none)
  |_,_=>none
def uT (t:TypeId) (parts:List (Nat × SV)):Option A5:=
 match P.info? t,P.underlying t with
 |some it,some (.struct fs)=>
  (match it.zero.bind E1,fs.toList.mapM (fun f=>(P.info? f.type).map fun i=>(f.offset,i.size))with
  |some (.agg zs),some places=>(Um P places (fs.toList.map (·.type)) parts zs.toList).map fun r=>{bt:=r.2,val:= .agg (Bz.of r.1)}
  |_,_=>none)
 |_,_=>none
def Wr (hp:Nat→Option Aj) (gs:Gd) (e:TypeId):List SV→Option (List E × List (Nat × Aj) × Bool × List Cn)
 | []=>some ([], [],true, [])
 |s::ss=>match XF P hp gs e s,Wr hp gs e ss with
  |some (x,fz,d,ck),some (xs,fzs,ds,cks)=>some (x::xs,fz++fzs,d&&ds,ck++cks)
  |_,_=>none
def oI (hp:Nat→Option Aj) (gs:Gd) (nx:Nat) (t:TypeId) (n:Nat) (parts:List (Nat × SV)):Option A5:=
 match CI P t with
 |some e=>
  if !IE P e∨ !Dv P e∨ !(Aq P e∨P.cellsOf e=1)∨10000<n*P.cellsOf e∨parts.map (·.1)≠List.range n then none else
  match Wr P hp gs e (parts.map (·.2))with
  |some (xs,fz,d,ck)=>if gs= []∨fz= []then some {bt:=ck,val:= .own nx 0,bq:=fz++ [(nx,CP gs (.row e (P.cellsOf e) 0 (.lst (EL.of xs)) d))]}else none
  |none=>none
 |none=>none
def cA (hp:Nat→Option Aj) (gs:Gd) (nx:Nat) (t:TypeId) (n:Nat) (parts:List (Nat × SV)):Option A5:=
 match CI P t,D5 P t,gs with
 |some e,some (.row e' z l), []=>
  if !IE P e∨Ca P e∨e'≠e∨z≠P.cellsOf e∨ !Dv P e∨ !(Aq P e∨P.cellsOf e=1)∨10000<n*P.cellsOf e∨parts.map (·.1)≠List.range n then none else
  (match V8 P hp [] e l.toList (parts.map (·.2))with
  |some (xs,us,ck)=>if L5 us then some {bt:=ck,val:= .own nx 0,bq:=(nx, .deep e z l.toList 0 0 (.lst (EL.of xs)))::Fi us}else none
  |none=>none)
 |_,_,_=>none
def xO (gs:Gd) (sl:Nat→SV) (c:E) (a b:Operand):Option A5:=
 match c with
 | .bool true=>(BN sl gs a).map fun s=>{val:=s}
 | .bool false=>(BN sl gs b).map fun s=>{val:=s}
 |c=>
  match(BN sl ((c,true)::gs) a).bind Fx,(BN sl ((c,false)::gs) b).bind Fx with
  |some x,some y=>some {bt:= [.dfd (.not c)],val:= .e (.ite c x y)}
  |_,_=>none
def MW (s:Option SV) (d:E):Option E:=match s with|none=>some d|some (.e y)=>some y|some _=>none
def Kh (ev:Operand→Option SV) (y:Option Operand):Option (Option SV):=match y with|none=>some none|some y=>(ev y).map some
def cN (hp:Nat→Option Aj) (gs:Gd) (t:TypeId) (x:SV) (lo hi mx:Option SV):Option A5:=
 match CI P t,x,mx,gs with
 |some el, .own b g,none, []=>if !Dv P el then none else(match Dp hp [] b with
  |some (.row e z g' c d)=>if g≠g'∨e≠el∨z≠P.cellsOf el then none else(match lo,hi with
   |some (.e l),none=>some {bt:= [.win c l (.len c)],val:= .wown b g l z}
   |none,some (.e h)=>some {bt:= [.win c (.int .i64 0) h],val:= .own b (g+1),bq:= [(b, .row e z (g+1) (.win c (.int .i64 0) h) d)]}
   |_,_=>none)
  |_=>none)
 |_,_,_,_=>none
def rE (hp:Nat→Option Aj) (gs:Gd) (t:TypeId) (x:SV):Option A5:=
 match CI P t,x,gs with
 |some el, .wown b g l z, []=>(match Dp hp [] b with
  |some (.row e z' g' c d)=>if g≠g'∨e≠el∨z≠P.cellsOf el∨z'≠z∨ !IE P e∨ !(Aq P e∨z=1)then none else
   (match((P.info? e).bind (·.zero)).bind E1 with
   |some q=>(match Bq hp [] A1 q with
    |some w=>some {bt:= [.win c l (.len c), .dfd (.bin .sub (.len c) l)],bq:= [(b, .row e z g (.app (.win c (.int .i64 0) l) (.rep (.bin .sub (.len c) l) w)) d)]}
    |none=>none)
   |none=>none)
  |_=>none)
 |_,_,_=>none
def rO (hp:Nat→Option Aj) (gs:Gd) (t:TypeId) (x:SV) (lo hi mx:Option SV):Option A5:=
 match Bq hp gs A1 x with
 |none=>none
 |some y=>
  match mx with
  |some mm=>(match P.underlying t,hi,mm,lo with
   |some (.slice e),some (.e (.int _ 0)), .e (.int _ 0),none=>if Dv P e then some {bt:= [.dfd (.len y)],val:= .emp}else none
   |_,_,_,_=>none)
  |none=>
   (match P.underlying t with
   |some .string=>(match MW lo (.int .i64 0),MW hi (.slen y),x with
    |some l,some h, .e _=>some {bt:= [.winS y l h],val:= .e (.swin y l h)}
    |_,_,_=>none)
   |some (.slice e)=>if !Dv P e then none else(match MW lo (.int .i64 0),MW hi (.len y),(if NJ hp gs (BR hp gs (A1+1) [x])then DH hp gs (BR hp gs (A1+1) [x])else none)with
    |some l,some h,some fz=>some {bt:= [.issl y (P.cellsOf e), .win y l h],val:= .e (.win y l h),bq:=fz}
    |_,_,_=>none)
   |_=>none)
def Wl (hp:Nat→Option Aj) (gs:Gd) (src dst:TypeId) (x:SV):Option A5:=
 match P.underlying src,P.underlying dst with
 |some (.int _),some (.int k)=>(Fx x).map fun y=>{bt:= [.dfd (.conv k y)],val:= .e (.conv k y)}
 |some .string,some .string=>(Fx x).map fun y=>{bt:= [.dfd (.slen y)],val:= .e y}
 |some (.slice el),some .string=>(match P.underlying el with|some (.int .u8)=>(Bq hp gs A1 x).map fun y=>{bt:= [.dfd (.text y)],val:= .e (.text y)}|_=>none)
 |_,_=>none
def cI (hp:Nat→Option Aj) (gs:Gd) (t:TypeId) (x i:SV):Option A5:=
 match P.underlying t,i with
 |some (.slice e), .e k=>if P.cellsOf e=0 then none else(match x with
  | .own b g=>(match Dp hp gs b with
   |some (.row _ sz g' c _)=>if g=g'∧sz=P.cellsOf e then some {bt:= [.inb k c sz],val:= .cx b g k sz 0}else none
   |some (.bu g' c)=>if g=g' then some {bt:= [.inb k c (P.cellsOf e)],val:= .dn c k (P.cellsOf e) 0}else none
   |some (.deep _ sz _ g' _ c)=>if g=g'∧sz=P.cellsOf e then some {bt:= [.inb k c sz],val:= .cx b g k sz 0}else none
   |_=>none)
  | .e y=>some {bt:= [.inb k y (P.cellsOf e)],val:= .dn y k (P.cellsOf e) 0}
  | .via b g m q y=>if NI hp gs b m then some {bt:= [.inb k y (P.cellsOf e)],val:= .vptr b g m q y k (P.cellsOf e) 0}else none
  |_=>none)
 |some .string, .e k=>(match x with
  | .e y=>some {bt:= [.inbS k y],val:= .e (.sidx y k)}
  |_=>none)
 |_,_=>none
def sP (hp:Nat→Option Aj) (gs:Gd) (nx:Nat) (t:TypeId) (n c:SV):Option A5:=
 match CI P t,n,c with
 |some e, .e x, .e y=>
  if !IE P e then none else
  if x.beq y then
   match((P.info? e).bind (·.zero)).bind E1 with
   |some z=>(Bq hp gs A1 z).map fun w=>{bt:= [.mkroom x (P.bytesOf e)],val:= .own nx 0,bq:= [(nx,CP gs (.row e (P.cellsOf e) 0 (.rep x w) true))]}
   |none=>none
  else match x with
   | .int _ 0=>some {bt:= [.mkroom y (P.bytesOf e)],val:= .own nx 0,bq:= [(nx,CP gs (.row e (P.cellsOf e) 0 (.lst .nil) true))]}
   |_=>none
 |_,_,_=>none
def zM:DT→SV→Bool
 | .flat, .e x=>Us x
 | .row _ z l, .cf=>decide (0<z)&&l.toList.length==z
 |_,_=>false
def PJ:List DT→List SV→Bool
 | [], []=>true
 |d::ds,s::ss=>zM d s&&PJ ds ss
 |_,_=>false
def yQ (l:List DT) (q:SV):Bool:=match q with
 | .agg cs=>PJ l cs.toList
 | .cf=>PJ l [.cf]
 |_=>false
def cT (hp:Nat→Option Aj) (gs:Gd) (nx:Nat) (t:TypeId) (n c:SV):Option A5:=
 match CI P t,D5 P t,n,c with
 |some e,some (.row e' z l), .e x, .e y=>
  if !IE P e∨Ca P e∨e'≠e∨z≠P.cellsOf e∨ !(x.beq y)∨ !gs.isEmpty then none else
   (match((P.info? e).bind (·.zero)).bind E1 with
   |some q=>if yQ l.toList q then(Bq hp gs A1 q).map fun w=>{bt:= [.mkroom x (P.bytesOf e)],val:= .own nx 0,bq:= [(nx, .deep e z l.toList 0 0 (.rep x w))]}else none
   |none=>none)
 |_,_,_,_=>none
def XY (t:TypeId):Bool:=match P.underlying t with|some .string=>true|_=>false
def BF (sl:Nat→SV) (hp:Nat→Option Aj) (nv nx:Nat) (gs:Gd) (o:Oper):Option A5:=
 let ev:=BN sl gs
 match o.op with
 | .move x| .assign x=>(ev x).map fun s=>{val:=s}
 | .pick c a b=>(ev c).bind fun s=>match s with| .e c=>xO gs sl c a b|_=>none
 | .alloc t=>((P.info? t).bind (·.zero)).bind fun z=>(zC P t).bind fun s=>(SC P t s).bind fun(cs,ck)=>if cs.isEmpty then none else if !ck.isEmpty then none else some {val:= .cm nx 0,bq:= [(nx,CP gs (.box t (Aq P t) cs))]}
 | .box t x=>(ev x).bind fun s=>(SC P t s).bind fun(cs,ck)=>if cs.isEmpty then none else some {bt:=ck,val:= .cm nx 0,bq:= [(nx,CP gs (.box t (Aq P t) cs))]}
 | .build t parts=>(parts.toList.mapM fun(p:Nat × Operand)=>(ev p.2).map fun s=>(p.1,s)).bind fun ps=>uT P t ps
 | .buildSlice t n parts=>(parts.toList.mapM fun(p:Nat × Operand)=>(ev p.2).map fun s=>(p.1,s)).bind fun ps=>if sg.dp&&(cA P hp gs nx t n ps).isSome then cA P hp gs nx t n ps else oI P hp gs nx t n ps
 | .load t a=>(ev a).bind fun s=>(xT P hp gs t (asPtr s).1).map fun e=>{e with bt:=(asPtr s).2++e.bt}
 | .store t a x=>(ev a).bind fun p=>(ev x).bind fun v=>Nu P hp gs t p v
 | .nilCheck x=>(ev x).bind fun s=>match s with
  | .e y=>some {bt:= [.isref y 0],val:= .dj y 0}
  | .cm t p=>some {val:= .cm t p}
  | .cx t g i sz p=>some {val:= .cx t g i sz p}
  | .dn y i sz p=>some {val:= .dn y i sz p}
  | .dj y p=>some {val:= .dj y p}
  | .vptr t g m q y i sz p=>if NI hp gs t m then some {val:= .vptr t g m q y i sz p}else none
  |_=>none
 | .binOp op t x y _=>(ev x).bind fun a=>(ev y).bind fun b=>SU P hp gs nv op t a b
 | .unOp .not _ x=>(ev x).bind fun s=>(Fx s).map fun y=>match y with| .bool b=>{val:= .e (.bool (!b))}|y=>{bt:= [.dfd (.not y)],val:= .e (.not y)}
 | .unOp .neg _ x=>(ev x).bind fun s=>(Fx s).map fun y=>{bt:= [.dfd (.neg y)],val:= .e (.neg y)}
 | .convert src dst x=>(ev x).bind fun s=>Wl P hp gs src dst s
 | .makeFunc (.func f) first caps=>if first.isEmpty then(caps.toList.mapM ev).map fun ss=>{val:= .fn f (Bz.of ss)}else none
 | .makeSlice t l c=>(ev l).bind fun n=>(ev c).bind fun m=>if sg.dp&&(cT P hp gs nx t n m).isSome then cT P hp gs nx t n m else sP P hp gs nx t n m
 | .slice t x lo hi mx=>(ev x).bind fun s=>(Kh ev lo).bind fun l=>(Kh ev hi).bind fun h=>(Kh ev mx).bind fun m=>if sg.wn&&(cN P hp gs t s l h m).isSome then cN P hp gs t s l h m else rO P hp gs t s l h m
 | .fieldAddr t x f=>(ev x).bind fun s=>match P.underlying t with
  |some (.struct fs)=>(match fs[f]? with|some fd=>if P.cellsOf fd.type=0∨ !zKm hp gs s then none else(ptrOff (asPtr s).1 fd.offset).map fun v=>{bt:=(asPtr s).2,val:=v}|none=>none)
  |_=>none
 | .field t x f=>(ev x).bind fun s=>match P.underlying t with
  |some (.struct fs)=>(match fs[f]? with
   |some fd=>if !Dv P fd.type then none else(match s with
    | .agg cs=>(OJ P fd.type cs.toList fd.offset).map fun v=>{val:=v}
    | .e y=>if fd.offset+P.cellsOf fd.type≤P.cellsOf t∧(Aq P fd.type∨P.cellsOf fd.type=1)then some {bt:= [.agg y (P.cellsOf t)],val:= .e (.fld y fd.offset (P.cellsOf fd.type) (Aq P fd.type))}else none
    | .via b g m _ y=>if fd.offset+P.cellsOf fd.type≤P.cellsOf t∧(Aq P fd.type∨P.cellsOf fd.type=1)∧NI hp gs b m then
      (if Ca P fd.type then some {bt:= [.agg y (P.cellsOf t), .flat (.fld y fd.offset (P.cellsOf fd.type) (Aq P fd.type)) (P.cellsOf fd.type) (Aq P fd.type)],val:= .e (.fld y fd.offset (P.cellsOf fd.type) (Aq P fd.type))}
      else some {bt:= [.agg y (P.cellsOf t)],val:= .via b g m none (.fld y fd.offset (P.cellsOf fd.type) (Aq P fd.type))})else none
    |_=>none)
   |none=>none)
  |_=>none
 | .indexAddr t x i=>(ev x).bind fun s=>(ev i).bind fun k=>if XY P t then none else cI P hp gs t s k
 | .index t x i=>(ev x).bind fun s=>(ev i).bind fun k=>if XY P t then cI P hp gs t s k else none
 | .extract t i=>(ev t).bind fun s=>match s with
  | .tup vs=>(vs.toList[i]?).map fun v=>{val:=v}
  | .e y=>some {bt:= [.dfd (.proj y i)],val:= .e (.proj y i)}
  |_=>none
 | .call c=>match c.callee with
  | .builtin .len=>(match c.args.toList,c.argTypes.toList with| [x], [tx]=>(ev x).bind fun s=>yT P hp gs tx s|_,_=>none)
  | .builtin .append=>(match c.args.toList,c.argTypes.toList with| [x,y], [tx,ty]=>(ev x).bind fun s=>(ev y).bind fun v=>if sg.dp&&(aX P hp gs nx tx ty s v).isSome then aX P hp gs nx tx ty s v else qO P hp gs nx tx ty s v|_,_=>none)
  | .builtin .clear=>(match c.args.toList,c.argTypes.toList with| [x], [tx]=>(ev x).bind fun s=>rE P hp gs tx s|_,_=>none)
  | .builtin .max=>(match c.args.toList with| [x,y]=>(ev x).bind fun s=>(ev y).bind fun v=>bX .gtr s v|_=>none)
  | .builtin .min=>(match c.args.toList with| [x,y]=>(ev x).bind fun s=>(ev y).bind fun v=>bX .lss s v|_=>none)
  | .builtin _=>none
  | .value f=>(ev f).bind fun s=>(c.args.toList.mapM ev).bind fun as_=>match s with
   | .fn g caps=>Wq P sg hp gs nv nx g (as_++caps.toList)
   | .e y=>Sy P hp gs nv o.type y as_
   | .lent i=>Sy P hp gs nv o.type (.var i) as_
   |_=>none
  |_=>none
 |_=>none
def Wi (hp:Nat→Option Aj) (T v m u:Nat) (p:E × Nat × Nat):Option (Aj × Aj):=
 match Dp hp [] T with
 |some (.deep e z l g ep c)=>if g=v∧ep=m∧p.2.1=z then(match l[p.2.2]? with
   |some (.row e2 z2 l2)=>some (.hol e z l g (ep+1) c p.1 p.2.2 u,if l2.toList.all DT.bw then .row e2 z2 0 (.fld (.idx c p.1) p.2.2 1 false) true else .deep e2 z2 l2.toList 0 0 (.fld (.idx c p.1) p.2.2 1 false))
   |_=>none)else none
 |_=>none
def L1 (sl:Nat→SV) (u:Nat):List Operand→Option (Nat × Nat × Nat × Nat × (E × Nat × Nat) × SV)
 | []=>none
 | .tmp t::l=>(match sl t with
  | .via T v m (some p) _=>some (t,T,v,m,p, .own u 0)
  | .vptr T v m (some p) _ k z q=>some (t,T,v,m,p, .cx u 0 k z q)
  |_=>L1 sl u l)
 |_::l=>L1 sl u l
def zFh (o:Oper):Bool:=match o.op with
 | .call c=>(match c.callee with| .builtin .append=>true|_=>false)
 |_=>false
def LX:List (Nat × Aj)→Nat→Option Aj
 | [],_=>none
 |(t,e)::l,u=>match LX l u with
  |some f=>some f
  |none=>if t=u then some e else none
def Wm (h r:Aj):Option Aj:=match h with
 | .hol e z l g ep c i o _=>(match l[o]?,r with
  |some (.row e2 z2 l2), .row e3 z3 0 x true=>if l2.toList.all DT.bw∧e3=e2∧z3=z2∧l2.toList.length=z2∧(Aq P e∨z=1)then some (.deep e z l g (ep+1) (.set c i (.put (.idx c i) o x (Aq P e))))else none
  |some (.row e2 z2 l2), .deep e3 z3 l3 0 _ x=>if e3=e2∧z3=z2∧(AY.of l3).beq l2∧(Aq P e∨z=1)then some (.deep e z l g (ep+1) (.set c i (.put (.idx c i) o x (Aq P e))))else none
  |_,_=>none)
 |_=>none
def WC (sl:Nat→SV) (hp:Nat→Option Aj) (nv nx:Nat) (o:Oper):Option A5:=
 let u:=nx+999
 match L1 sl u o.op.operands.toList with
 |none=>none
 |some (t,T,v,m,p,s)=>(match Wi hp T v m u p with
  |none=>none
  |some (h,r)=>
   (match BF P sg (fun i=>if i=t then s else sl i) (fun w=>if w=T then some h else if w=u then some r else hp w) nv nx [] o with
   |none=>none
   |some e=>if e.cd.isSome then none else
    if zFh o then(match LX e.bq T with|none=>some {e with bq:=(T,h)::(u,r)::e.bq}|some _=>none)else
    (match LX e.bq u,LX e.bq T with
    |some r',none=>(Wm P h r').map fun d=>{e with bq:=(T,h)::(u,r)::e.bq++ [(T,d),(u, .dead)]}
    |_,_=>none)))
def vN (l:List (Nat × Aj)):List Nat:=l.filterMap fun p=>match p.2 with| .deep .. =>some p.1|_=>none
def Kg (dp:Bool) (hp:Nat→Option Aj) (gs:Gd) (e:A5):A5:=
 if dp|| !gs.isEmpty||e.call.isNone||e.cd.isSome then e else
 match DH (fun t=>match LX e.bq t with|some f=>some f|none=>hp t) [] (vN e.bq)with
 |some l=>{e with bq:=e.bq++l}
 |none=>e
def J1 (fz:Bool) (hp:Nat→Option Aj) (gs:Gd) (e:A5):A5:=
 if !fz|| !gs.isEmpty||e.call.isSome||e.cd.isSome|| !e.bq.isEmpty then e else
 match e.val with
 | .via .. =>(match Bq hp [] A1 e.val,DH hp [] (BR hp [] (A1+1) [e.val])with
  |some y,some l=>if NJ hp [] (BR hp [] (A1+1) [e.val])then{e with val:= .e y,bq:=l}else e
  |_,_=>e)
 |_=>e
def L8 (sl:Nat→SV) (hp:Nat→Option Aj) (nv nx:Nat) (gs:Gd) (o:Oper):Option A5:=
 match BF P sg sl hp nv nx gs o with
 |some e=>some (J1 sg.fz hp gs (Kg sg.dp hp gs e))
 |none=>match gs with
  | []=>WC P sg sl hp nv nx o
  |_=>none
def BD (σ:St) (i:Nat):SV:=(σ.sl[i]?).getD .undef
def AG (l:List (Nat × Aj)) (t:Nat):Option Aj:=match l with| []=>none|(u,e)::l=>if u=t then some e else AG l t
def Mc (l:List (Nat × Aj)) (t:Nat) (e:Aj):List (Nat × Aj):=match l with| []=> [(t,e)]|(u,f)::l=>if u=t then(u,e)::l else(u,f)::Mc l t e
def H4 (σ:St) (d:Option Nat) (s:SV):St:=match d with|none=>σ|some d=>{σ with sl:=σ.sl.set d s}
def HB:SV:= .gd [(.bool false,true)] .cf
def xF (gs:Gd):Bool:=gs.any fun g=>match g.1 with| .bool x=>x !=g.2|_=>false
def Pq (σ:St) (ops:Array Oper) (o:Oper):Option (Option Gd):=
 match o.guard with
 |none=>some (some [])
 |some (j,want)=>match(ops[j]?).bind (·.dst)with
  |none=>some none
  |some d=>match BD σ d with
   | .e (.bool b)=>some (if b==want then some []else none)
   | .e c=>some (some [(c,want)])
   | .gd hs s=>if xF hs then some none else(match s with
    | .e (.bool b)=>some (if b==want then some hs else none)
    | .e c=>some (some ((c,want)::hs))
    |_=>none)
   |_=>none
def BH:Nat:=1000
def LQ (σ:St) (gs:Gd) (o:Oper) (e:A5):St:=
 let σ':=H4 σ o.dst (mkGd gs e.val)
 {σ' with hp:=e.bq.foldl (fun l (t,x)=>Mc l t x) σ'.hp,nv:=if e.call.isSome||e.cd.isSome then σ'.nv+1 else σ'.nv}
def cZ (gs:Gd) (e:A5) (k:Tr):Tr:=
 let k:=match e.call with|some c=> .call gs c.fn (EL.of c.args) k|none=>k
 let k:=match e.cd with|some x=> .cd gs x k|none=>k
 e.bt.foldr (fun c k=> .bt gs c k) k
def assumeS (c:E) (b:Bool) (s:SV):SV:=match s with
 | .gd hs s=>if PN (c, !b) hs then HB else mkGd (hs.filter fun h=> !(h.1.beq c&&h.2==b)) s
 |s=>s
def assumeE (c:E) (b:Bool) (e:Aj):Aj:=match e with
 | .gd hs e=>if PN (c, !b) hs then .dead else(match e with| .gd .. => .dead|e=>CP (hs.filter fun h=> !(h.1.beq c&&h.2==b)) e)
 |e=>e
def assume (c:E) (b:Bool) (d:Nat) (σ:St):St:=
 {σ with sl:=(σ.sl.map (assumeS c b)).set d (.e (.bool b)),hp:=σ.hp.map fun(t,e)=>(t,assumeE c b e)}
def zyk:SV→List Nat
 | .cm t _=> [t]
 | .cx t .. => [t]
 | .via t .. => [t]
 | .vptr t .. => [t]
 | .wown t .. => [t]
 | .gd _ s=>(match s with| .cm t _=> [t]| .cx t .. => [t]| .via t .. => [t]| .vptr t .. => [t]| .wown t .. => [t]|_=> [])
 |_=> []
def zD:SV→List Nat
 | .via t .. => [t]
 | .vptr t .. => [t]
 | .gd _ s=>(match s with| .via t .. => [t]| .vptr t .. => [t]|_=> [])
 |_=> []
def Wp (σ:St) (gs:Gd) (o:Oper):List Nat:=
 let sv (x:Operand):List SV:=match x with| .tmp t=> [BD σ t]|_=> []
 match o.op with
 | .move _=> []
 | .assign _=> []
 | .nilCheck x=>(sv x).flatMap zD
 | .fieldAddr _ x _=>(sv x).flatMap zD
 | .extract .. => []
 | .makeFunc .. => []
 | .load _ a=>(sv a).flatMap zyk
 | .store _ a v=>(sv a).flatMap zyk++BR (AG σ.hp) gs A1 (sv v)
 |op=>BR (AG σ.hp) gs A1 (op.operands.toList.flatMap sv)
def Qn (l:List (Nat × Aj)) (R:List Nat) (t:Nat):Option Aj:=if R.contains t then AG l t else none
structure Log where
 i:Nat
 R:List Nat
 W:List Nat
def kG (a b:List Nat):Bool:=a.any fun t=>b.contains t
def XI (ops:Array Oper) (o:Oper):List Nat:=
 (o.op.operands.toList.filterMap fun x=>match x with| .tmp t=>some t|_=>none)++(match o.guard with|some (j,_)=>((ops[j]?).bind (·.dst)).toList|none=> [])
def sU (acc:List Nat) (o:Oper):Nat:=o.after.toList.foldl (fun s e=>if Region.binds .any e then s|||2^e.on|||(acc[e.on]?).getD 0 else s) 0
def Kt:List Oper→List Nat→List Nat
 | [],acc=>acc
 |o::os,acc=>Kt os (acc++ [sU acc o])
def JZ (bs:List Nat) (i j:Nat):Bool:=if i<j then((bs[j]?).getD 0).testBit i else((bs[i]?).getD 0).testBit j
def XG (ops:Array Oper) (l:List Log):Bool:=
 let bs:=Kt ops.toList []
 (l.all fun a=>l.all fun b=>a.i==b.i|| !(kG a.W (b.R++b.W))||JZ bs a.i b.i)&&
 (ops.toList.zipIdx.all fun(o,j)=>o.after.toList.all fun e=> !Region.binds .any e||decide (e.on<j))&&
 (ops.toList.zipIdx.all fun(o,j)=>ops.toList.zipIdx.all fun(p,i)=>i==j||(match p.dst with
  |some d=>(o.dst !=some d)&&(!(XI ops o).contains d||JZ bs i j)
  |none=>true))
def Cn.sc (n:Nat):Cn→Bool
 | .dfd x=>x.sc n
 | .agg x _=>x.sc n
 | .cells x _=>x.sc n
 | .inb i x _=>i.sc n&&x.sc n
 | .inbS i x=>i.sc n&&x.sc n
 | .win x lo hi=>x.sc n&&lo.sc n&&hi.sc n
 | .winS x lo hi=>x.sc n&&lo.sc n&&hi.sc n
 | .room x y _=>x.sc n&&y.sc n
 | .roomS x y=>x.sc n&&y.sc n
 | .mkroom x _=>x.sc n
 | .nz x=>x.sc n
 | .nn x=>x.sc n
 | .isref x _=>x.sc n
 | .issl x _=>x.sc n
 | .flat x _ _=>x.sc n
 | .flatS x _=>x.sc n
 | .kinds x _=>x.sc n
def Ur (n:Nat) (gs:Gd):Bool:=gs.all fun g=>g.1.sc n
def Qj (n nx:Nat) (hp:List (Nat × Aj)) (gs:Gd) (e:A5):Bool:=
 Ur n gs&&e.bt.all (Cn.sc n)&&
 (match e.call with|some c=>(match c.fn with| .inl _=>true| .inr x=>x.sc n)&&c.args.all (E.sc n)|none=>true)&&
 (match e.cd with|some x=>x.sc n&&e.call.isNone|none=>true)&&
 e.bq.all (fun(t,x)=>(nx≤t&&t<nx+BH&&(gs.isEmpty||(match x with| .gd hs _=>Mb gs hs|_=>false)))||(gs.isEmpty&&(AG hp t).isSome))
mutual
def SV.sc (n:Nat):SV→Bool
 | .undef| .cf| .emp| .own .. | .cm .. =>true
 | .e x=>x.sc n
 | .cx _ _ i _ _=>i.sc n
 | .dn x i _ _=>x.sc n&&i.sc n
 | .dj x _=>x.sc n
 | .via _ _ _ p x=>(match p with|some q=>q.1.sc n|none=>true)&&x.sc n
 | .vptr _ _ _ p x i _ _=>(match p with|some q=>q.1.sc n|none=>true)&&x.sc n&&i.sc n
 | .wown _ _ l _=>l.sc n
 | .lent i=>decide (i<n)
 | .agg cs=>cs.sc n
 | .tup cs=>cs.sc n
 | .fn _ cs=>cs.sc n
 | .gd gs s=>Ur n gs&&s.sc n
def Bz.sc (n:Nat):Bz→Bool
 | .nil=>true
 | .cons s l=>s.sc n&&l.sc n
end
def Aj.sc (n:Nat):Aj→Bool
 | .box _ _ cs=>cs.all (SV.sc n)
 | .row _ _ _ x _=>x.sc n
 | .bu _ x=>x.sc n
 | .gd gs e=>Ur n gs&&(match e with| .box _ _ cs=>cs.all (SV.sc n)| .row _ _ _ x _=>x.sc n| .bu _ x=>x.sc n| .deep _ _ _ _ _ x=>x.sc n| .hol _ _ _ _ _ x i _ _=>x.sc n&&i.sc n|_=>true)
 | .deep _ _ _ _ _ x=>x.sc n
 | .hol _ _ _ _ _ x i _ _=>x.sc n&&i.sc n
 | .dead=>true
def St.sc (σ:St):Bool:=σ.sl.all (SV.sc σ.nv)&&σ.hp.all fun(_,e)=>e.sc σ.nv
def isE:SV→Bool
 | .e _=>true
 |_=>false
def zB (ops:Array Oper):Bool:=ops.any fun o=>match o.op with| .panic _=>true|_=>false
def wK (σ:St) (ops:Array Oper):Nat→Oper→Option Nat
 |0,_=>none
 |n+1,o=>match o.guard with
  |none=>none
  |some (j,_)=>match ops[j]? with
   |none=>none
   |some p=>match p.dst with
    |none=>none
    |some d=>if isE (BD σ d)then some d else wK σ ops n p
def Ui (ops:Array Oper) (draw:Bool) (base:Nat) (next:List Log→St→Option Tr) (i:Nat) (o:Oper) (lg:List Log) (fail:Unit→Option Tr) (σ:St):Option Tr:=
 match Pq σ ops o with
 |none=>none
 |some none=>next lg (H4 σ o.dst HB)
 |some (some gs)=>
  let R:=Wp σ gs o
  match L8 P sg (BD σ) (Qn σ.hp R) σ.nv (base+BH*i) gs o with
  |some e=>
   if(draw&&e.cd.isSome)|| !Qj σ.nv (base+BH*i) σ.hp gs e||(!draw&&(e.call.isSome||e.cd.isSome)&& !σ.sc)then none else
   (match next (⟨i,R,e.bq.map (·.1)⟩::lg) (LQ σ gs o e)with
   |none=>none
   |some k=>some (cZ gs e k))
  |none=>fail ()
def Uk (ops:Array Oper) (draw:Bool) (base:Nat) (next:List Log→St→Option Tr) (i:Nat) (o:Oper) (lg:List Log):Nat→St→Option Tr
 |0,σ=>Ui P sg ops draw base next i o lg (fun _=>none) σ
 |n+1,σ=>Ui P sg ops draw base next i o lg (fun _=>
  match draw,wK σ ops 8 o with
  |false,some d=>(match BD σ d with
   | .e c=>(match Uk ops draw base next i o lg n (assume c true d σ),Uk ops draw base next i o lg n (assume c false d σ)with
    |some k1,some k0=>some (.ite c k1 k0)
    |_,_=>none)
   |_=>none)
  |_,_=>none) σ
def Ma (ops:Array Oper) (draw:Bool) (base:Nat):List Nat→List Log→St→Option Tr
 | [],lg,σ=>if draw&& !XG ops lg then none else some (.leaf .normal {σ with nx:=base+BH*ops.size})
 |i::is,lg,σ=>
  match ops[i]? with
  |none=>none
  |some o=>Uk P sg ops draw base (fun lg σ=>Ma ops draw base is lg σ) i o lg 4 σ
end
def bit (i:Nat):Nat:=1<<<i
def HR (l d:Nat):Nat:=l^^^(l&&&d)
def Em:List Operand→Nat
 | []=>0
 | .tmp t::l=>bit t|||Em l
 |_::l=>Em l
def zCr (ops:Array Oper) (l:Nat):Nat:=
 let r:=ops.toList.foldl (fun(acc:Nat × Nat) o=>
  let u:=Em o.op.operands.toList
  (acc.1|||HR u acc.2,match o.dst,o.guard with|some d,none=>acc.2|||bit d|_,_=>acc.2)) (0,0)
 r.1|||HR l r.2
def Cl (rs:Nat):Code→List (Nat × Nat)→Nat→Nat
 | .skip,_,l=>l
 | .region _ ops _,_,l=>zCr ops l
 | .seq a b,ex,l=>Cl rs a ex (Cl rs b ex l)
 | .cond c a b,ex,l=>Em [c]|||Cl rs a ex l|||Cl rs b ex l
 | .block id b,ex,l=>Cl rs b ((id,l)::ex) l
 | .loop b,ex,l=>let l1:=Cl rs b ex 0;Cl rs b ex l1|||l1
 | .exit id,ex,_=>(ex.lookup id).getD 0
 | .scope b,ex,l=>Cl rs b ex l
 | .label _,_,l=>l
 | .ret,_,_=>rs
 |_,_,_=>0
def Tr.da:Tr→List St
 | .leaf .normal σ=> [σ]
 | .leaf _ _=> []
 | .ret _=> []
 | .stuck=> []
 | .jmp .. => []
 | .ite _ a b=>a.da++b.da
 | .bt _ _ k=>k.da
 | .call _ _ _ k=>k.da
 | .cd _ _ k=>k.da
 | .join t k=>t.da++k.da
 | .loop _ b k=>b.da++k.da
def Tr.eg (id:Nat):Tr→List St
 | .leaf (.exit j) σ=>if j=id then [σ]else []
 | .leaf _ _=> []
 | .ret _=> []
 | .stuck=> []
 | .jmp .. => []
 | .ite _ a b=>a.eg id++b.eg id
 | .bt _ _ k=>k.eg id
 | .call _ _ _ k=>k.eg id
 | .cd _ _ k=>k.eg id
 | .join t k=>t.eg id++k.eg id
 | .loop _ b k=>b.eg id++k.eg id
def Tr.cj:Tr→Option Nat
 | .leaf (.exit j) _=>some j
 | .leaf _ _=>none
 | .ret _=>none
 | .stuck=>none
 | .jmp .. =>none
 | .ite _ a b=>a.cj<|>b.cj
 | .bt _ _ k=>k.cj
 | .call _ _ _ k=>k.cj
 | .cd _ _ k=>k.cj
 | .join t k=>t.cj<|>k.cj
 | .loop _ b k=>b.cj<|>k.cj
def Tr.sub (f:Nat→Xt→St→Option Tr):Nat→Tr→Option Tr
 |d, .leaf x σ=>f d x σ
 |_, .ret r=>some (.ret r)
 |_, .stuck=>some .stuck
 |_, .jmp i es=>some (.jmp i es)
 |d, .ite c a b=>match a.sub f d,b.sub f d with|some x,some y=>some (.ite c x y)|_,_=>none
 |d, .bt g c k=>(k.sub f d).map (.bt g c)
 |d, .call g h as_ k=>(k.sub f d).map (.call g h as_)
 |d, .cd g x k=>(k.sub f d).map (.cd g x)
 |d, .join t k=>match t.sub f (d+1),k.sub f d with|some x,some y=>some (.join x y)|_,_=>none
 |d, .loop i b k=>match b.sub f (d+2),k.sub f d with|some x,some y=>some (.loop i x y)|_,_=>none
def Sv:Nat:=100000
def zKe:E→Bool
 | .var i=>Sv≤i
 |_=>false
structure Wd where
 hp:List (Nat × Aj)
 nx:Nat
 n:Nat
 θ:List (Nat × Nat)
def wE (nv:Nat) (w:Wd) (p y:E):E × Wd:=
 if zKe p then(p,w)else if p.sc nv&&p.beq y then(p,w)else(.var (Sv+w.n),{w with n:=w.n+1})
def KD (hp:List (Nat × Aj)) (t g:Nat):Bool:=match AG hp t with
 |some (.row _ _ g' _ _)=>g==g'
 |some (.bu g' _)=>g==g'
 |some (.deep _ _ _ g' _ _)=>g==g'
 |_=>false
def zIe (hp:List (Nat × Aj)) (t:Nat) (x:E):Option Aj:=match AG hp t with
 |some (.row e s _ _ d)=>some (.row e s 0 x d)
 |some (.deep e s l _ _ _)=>some (.deep e s l 0 0 x)
 |_=>none
def Jf (leaf:St) (s:SV):Option E:=Bq (AG leaf.hp) [] A1 s
def jD:Nat:=1000000000
def jW (w:Wd) (t t':Nat):Option Wd:=
 match w.θ.lookup t with
 |some u=>if u=t' then some w else none
 |none=>if w.θ.any (·.2==t')then none else some {w with θ:=(t,t')::w.θ}
def L2 (nv:Nat) (w:Wd) (p y:Option E):SV × Wd:=
 match y with
 |none=>(.undef,w)
 |some y=>match p with
  |some p=>let(x,w):=wE nv w p y;(.e x,w)
  |none=>(.e (.var (Sv+w.n)),{w with n:=w.n+1})
mutual
def wS (nv:Nat) (pat leaf:St):Nat→Wd→SV→SV→SV × Wd
 |0,w,_,_=>(.undef,w)
 |n+1,w,p,s=>
  match p,s with
  | .undef,_=>(.undef,w)
  | .e x,s=>L2 nv w (some x) (Jf leaf s)
  | .cf, .cf=>(.cf,w)
  | .emp, .emp=>(.emp,w)
  | .emp,s=>L2 nv w none (Jf leaf s)
  | .cf, .own t' g'=>(match zIe leaf.hp t' (.var (Sv+w.n)),KD leaf.hp t' g' with
   |some e,true=>(match jW w w.nx t' with
    |some w'=>(.own w.nx 0,{w' with nx:=w.nx+1,n:=w'.n+1,hp:=w'.hp++ [(w.nx,e)]})
    |none=>L2 nv w none (Jf leaf s))
   |_,_=>L2 nv w none (Jf leaf s))
  | .cf,s=>L2 nv w none (Jf leaf s)
  | .own t g, .own t' g'=>
   if !KD w.hp t g|| !KD leaf.hp t' g' then(.undef,w)else
   (match jW w t t' with
   |some w'=>(.own t g,w')
   |none=>L2 nv w none (Jf leaf s))
  | .own t g, .cf=>if(w.θ.lookup t).isSome then L2 nv w none (Jf leaf s)else(.own t g,{w with θ:=(t,jD+t)::w.θ})
  | .own _ _,s=>L2 nv w none (Jf leaf s)
  | .cm t o, .cm t' o'=>if o=o' then(match jW w t t' with|some w'=>(.cm t o,w')|none=>(.undef,w))else(.undef,w)
  | .agg cs, .agg ds=>let(l,w'):=Qd nv pat leaf n w cs.toList ds.toList;(.agg (Bz.of l),w')
  | .agg cs,s=>L2 nv w none (Jf leaf s)
  | .tup cs, .tup ds=>let(l,w'):=Qd nv pat leaf n w cs.toList ds.toList;(.tup (Bz.of l),w')
  | .fn f cs, .fn g ds=>if f=g then let(l,w'):=Qd nv pat leaf n w cs.toList ds.toList;(.fn f (Bz.of l),w')else(.undef,w)
  | .dj x o, .dj y o'=>if o=o'&&x.sc nv&&x.beq y then(p,w)else(.undef,w)
  | .dn x i z o, .dn y j z' o'=>if o=o'&&z=z'&&x.sc nv&&x.beq y&&i.sc nv&&i.beq j then(p,w)else(.undef,w)
  | .lent i, .lent j=>if i==j&&decide (i<nv)then(p,w)else(.undef,w)
  |_,_=>(.undef,w)
def Qd (nv:Nat) (pat leaf:St):Nat→Wd→List SV→List SV→List SV × Wd
 |0,w,_,_=>([],w)
 |n+1,w,p::ps,s::ss=>
  let(x,w):=wS nv pat leaf n w p s;let(xs,w):=Qd nv pat leaf n w ps ss
  (x::xs,w)
 |_,w,_,_=>([],w)
end
def SF (nv:Nat) (pat leaf:St):List (Nat × Aj)→Wd→List (Nat × Aj)→List (Nat × Aj) × Wd
 | [],w,acc=>(acc.reverse,w)
 |(t,e)::l,w,acc=>
  match e,(w.θ.lookup t)with
  | .box ty g cs,some t'=>(match AG leaf.hp t' with
   |some (.box ty' _ ds)=>if ty=ty' then
     let w0:=w;let(xs,w):=Qd nv pat leaf A1 w0 cs ds
     SF nv pat leaf l w ((t, .box ty g xs)::acc)
    else SF nv pat leaf l w acc
   |_=>SF nv pat leaf l w acc)
  | .box ..,none=>SF nv pat leaf l w acc
  |e,_=>SF nv pat leaf l w ((t,e)::acc)
def FT (nv:Nat) (leaf:St):List (Nat × Aj)→Wd→List (Nat × Aj)→List (Nat × Aj) × Wd
 | [],w,acc=>(acc.reverse,w)
 |(t,e)::l,w,acc=>
  match e with
  | .row et z g x d=>(match w.θ.lookup t with
   |some t'=>if jD≤t' then(let(x,w):=wE nv w x (.lst .nil);FT nv leaf l w ((t, .row et z g x d)::acc))else(match AG leaf.hp t' with
    |some (.row _ _ _ y d')=>let(x,w):=wE nv w x y;FT nv leaf l w ((t, .row et z g x (d&&d'))::acc)
    |some (.bu _ y)=>let(x,w):=wE nv w x y;FT nv leaf l w ((t, .bu g x)::acc)
    |some (.deep _ _ _ _ _ y)=>let(x,w):=wE nv w x y;FT nv leaf l w ((t, .row et z g x false)::acc)
    |_=>FT nv leaf l w acc)
   |none=>FT nv leaf l w acc)
  | .deep et z dl g ep x=>(match w.θ.lookup t with
   |some t'=>if jD≤t' then(let(x,w):=wE nv w x (.lst .nil);FT nv leaf l w ((t, .deep et z dl g ep x)::acc))else(match AG leaf.hp t' with
    |some (.deep _ _ _ _ _ y)=>let(x,w):=wE nv w x y;FT nv leaf l w ((t, .deep et z dl g ep x)::acc)
    |some (.row _ _ _ y _)=>let(x,w):=wE nv w x y;FT nv leaf l w ((t, .row et z g x false)::acc)
    |some (.bu _ y)=>let(x,w):=wE nv w x y;FT nv leaf l w ((t, .bu g x)::acc)
    |_=>FT nv leaf l w acc)
   |none=>FT nv leaf l w acc)
  | .bu g x=>(match w.θ.lookup t with
   |some t'=>(match AG leaf.hp t' with
    |some (.row _ _ _ y _)=>let(x,w):=wE nv w x y;FT nv leaf l w ((t, .bu g x)::acc)
    |some (.bu _ y)=>let(x,w):=wE nv w x y;FT nv leaf l w ((t, .bu g x)::acc)
    |some (.deep _ _ _ _ _ y)=>let(x,w):=wE nv w x y;FT nv leaf l w ((t, .bu g x)::acc)
    |_=>FT nv leaf l w acc)
   |none=>FT nv leaf l w acc)
  |e=>FT nv leaf l w ((t,e)::acc)
def zK (nv live:Nat) (pat:St × Nat) (leaf:St):St × Nat:=
 let w0:Wd:={hp:=pat.1.hp,nx:=max pat.1.nx leaf.nx,n:=pat.2,θ:= []}
 let(sl,w):=Qd nv pat.1 leaf 2000 w0 (pat.1.sl.zipIdx.map fun(s,i)=>if live.testBit i then s else .undef) leaf.sl;let n0:=w.hp.length;let(hp,w):=SF nv pat.1 leaf w.hp w [];let hp:=hp++w.hp.drop n0;let(hp,w):=FT nv leaf hp w []
 ({sl,hp,nx:=max w.nx leaf.nx,nv:=pat.1.nv},w.n)
def Xv (nv:Nat):E→E
 | .var i=>if Sv≤i then .var (nv+(i-Sv))else .var i
 |e=>e
mutual
def iU (nv:Nat):SV→SV
 | .e x=> .e (Xv nv x)
 | .agg cs=> .agg (XW nv cs)
 | .tup cs=> .tup (XW nv cs)
 | .fn f cs=> .fn f (XW nv cs)
 | .gd _ _=> .undef
 |s=>s
def XW (nv:Nat):Bz→Bz
 | .nil=> .nil
 | .cons s l=> .cons (iU nv s) (XW nv l)
end
def zKs (nv:Nat):Aj→Aj
 | .box ty g cs=> .box ty g (cs.map (iU nv))
 | .row e z g x d=> .row e z g (Xv nv x) d
 | .bu g x=> .bu g (Xv nv x)
 | .deep e z l g ep x=> .deep e z l g ep (Xv nv x)
 |e=>e
def yI (nv:Nat) (p:St × Nat):St:={sl:=p.1.sl.map (iU nv),hp:=p.1.hp.map fun(t,e)=>(t,zKs nv e),nx:=p.1.nx,nv:=nv+p.2}
def JY (nv:Nat) (es:List E) (x y:E):Bool:=
 match x with
 | .var i=>if i<nv then x.beq y else(match es[i-nv]? with|some z=>z.beq y|none=>false)
 |_=>x.sc nv&&x.beq y
section
variable (nv:Nat) (es:List E) (θ:List (Nat × Option Nat)) (pat leaf:St)
mutual
def T6:Nat→SV→SV→Bool
 |0,_,_=>false
 |n+1,p,s=>
  match p with
  | .undef=>true
  | .e x=>(match Jf leaf s with
   |some y=>JY nv es x y&&(BR (AG leaf.hp) [] (A1+1) [s]).all fun t'=>θ.all fun(u,v)=>v !=some t'||(match AG pat.hp u with|some (.bu ..)=>true|none=>true|_=>false)
   |none=>false)
  | .cf=>(match s with| .cf=>true|_=>false)
  | .emp=>(match s with| .emp=>true| .cf=>true|_=>false)
  | .own t g=>(match AG pat.hp t with
   |some (.row _ _ g' _ _)=>g==g'&&(match s with
    | .own t' v=>θ.lookup t==some (some t')&&KD leaf.hp t' v
    | .cf=>θ.lookup t==some none
    |_=>false)
   |some (.bu g' _)=>g==g'&&(match s with
    | .own t' v=>θ.lookup t==some (some t')&&KD leaf.hp t' v
    |_=>false)
   |some (.deep _ _ _ g' _ _)=>g==g'&&(match s with
    | .own t' v=>θ.lookup t==some (some t')&&KD leaf.hp t' v
    | .cf=>θ.lookup t==some none
    |_=>false)
   |_=>false)
  | .cm t o=>(match AG pat.hp t with
   |some (.box ..)=>(match s with| .cm t' o'=>o==o'&&θ.lookup t==some (some t')|_=>false)
   |_=>false)
  | .cx .. =>false
  | .dn x i z o=>(match s with| .dn y j z' o'=>z==z'&&o==o'&&x.sc nv&&x.beq y&&i.sc nv&&i.beq j|_=>false)
  | .dj x o=>(match s with| .dj y o'=>o==o'&&x.sc nv&&x.beq y|_=>false)
  | .agg cs=>(match s with| .agg ds=>HA n cs.toList ds.toList|_=>false)
  | .tup cs=>(match s with| .tup ds=>HA n cs.toList ds.toList|_=>false)
  | .fn f cs=>(match s with| .fn g ds=>f==g&&HA n cs.toList ds.toList|_=>false)
  | .gd .. =>false
  | .via .. =>false
  | .vptr .. =>false
  | .wown .. =>false
  | .lent i=>(match s with| .lent j=>i==j&&decide (i<nv)|_=>false)
def HA:Nat→List SV→List SV→Bool
 |0,_,_=>false
 |_+1, [], []=>true
 |n+1,p::ps,s::ss=>T6 n p s&&HA n ps ss
 |_,_,_=>false
end
def IH (t:Nat) (e:Aj):Bool:=
 match e with
 | .box ty g cs=>(match θ.lookup t with
  |some (some t')=>(match AG leaf.hp t' with|some (.box ty' g' ds)=>ty==ty'&&g==g'&&HA nv es θ pat leaf A1 cs ds|_=>false)
  |_=>false)
 | .row et z _ x d=>(match θ.lookup t with
  |some (some t')=>(match AG leaf.hp t' with|some (.row et' z' _ y d')=>et==et'&&z==z'&&JY nv es x y&&(!d||d')|some (.deep et' z' _ _ _ y)=>et==et'&&z==z'&&JY nv es x y&& !d|_=>false)
  |some none=>JY nv es x (.lst .nil)&&0<z
  |none=>false)
 | .deep et z dl _ _ x=>(match θ.lookup t with
  |some (some t')=>(match AG leaf.hp t' with|some (.deep et' z' dl' _ _ y)=>et==et'&&z==z'&&(AY.of dl).beq (AY.of dl')&&JY nv es x y|_=>false)
  |some none=>JY nv es x (.lst .nil)&&0<z&&dl.length==z
  |none=>false)
 | .bu _ x=>(match θ.lookup t with
  |some (some t')=>(match AG leaf.hp t' with|some (.row _ _ _ y _)=>JY nv es x y|some (.bu _ y)=>JY nv es x y|some (.deep _ _ _ _ _ y)=>JY nv es x y|_=>false)
  |_=>false)
 | .hol .. =>false
 | .gd .. =>false
 | .dead=>true
def Ny:List (Nat × Option Nat)→Bool
 | []=>true
 |(t,some u)::l=>l.all (fun(t',v)=>t !=t'&&v !=some u)&&Ny l
 |(t,none)::l=>l.all (fun(t',_)=>t !=t')&&Ny l
def MM (t:Nat):Bool:=(match AG pat.hp t with
 |none=>true
 |some .dead=>true
 |some (.bu g _)=>g !=0
 |some (.row _ _ g _ _)=>g !=0||(θ.lookup t==some (some t)&&(match AG leaf.hp t with|some (.row _ _ g' _ _)=>g'==0|_=>false))
 |some (.deep _ _ _ g _ _)=>g !=0||(θ.lookup t==some (some t)&&(match AG leaf.hp t with|some (.deep _ _ _ g' _ _)=>g'==0|_=>false))
 |some (.box ..)=>θ.lookup t==some (some t)&&(match AG leaf.hp t with|some (.box ..)=>true|_=>false)
 |_=>false)
def z6:Bool:=
 pat.nv==nv+es.length&&Ny θ&&pat.sl.length==leaf.sl.length&&HA nv es θ pat leaf 2000 pat.sl leaf.sl&&(pat.hp.all fun(t,e)=>IH nv es θ pat leaf t e&&decide (t<pat.nx))&&decide (100000≤pat.nx)&&pat.hp.all fun(t,_)=> !NG t||MM θ pat leaf t
end
structure In where
 as_:List (Nat × E)
 θ:List (Nat × Option Nat)
def Kq (a:In) (nv:Nat) (x y:E):In:=match x with| .var i=>if i<nv then a else{a with as_:=(i,y)::a.as_}|_=>a
def kL (a:In) (t:Nat) (t':Option Nat):In:=match a.θ.lookup t with|some _=>a|none=>{a with θ:=(t,t')::a.θ}
mutual
def inS (nv:Nat) (pat leaf:St):Nat→In→SV→SV→In
 |0,a,_,_=>a
 |n+1,a,p,s=>
  match p,s with
  | .e x,s=>(match Jf leaf s with|some y=>Kq a nv x y|none=>a)
  | .own t g, .own t' _=>if KD pat.hp t g then kL a t (some t')else a
  | .own t g, .cf=>if KD pat.hp t g then kL a t none else a
  | .cm t _, .cm t' _=>kL a t (some t')
  | .agg cs, .agg ds=>MU nv pat leaf n a cs.toList ds.toList
  | .tup cs, .tup ds=>MU nv pat leaf n a cs.toList ds.toList
  | .fn _ cs, .fn _ ds=>MU nv pat leaf n a cs.toList ds.toList
  |_,_=>a
def MU (nv:Nat) (pat leaf:St):Nat→In→List SV→List SV→In
 |0,a,_,_=>a
 |n+1,a,p::ps,s::ss=>MU nv pat leaf n (inS nv pat leaf n a p s) ps ss
 |_,a,_,_=>a
end
def PB (nv:Nat) (pat leaf:St) (rows:Bool):List (Nat × Aj)→In→In
 | [],a=>a
 |(t,e)::l,a=>PB nv pat leaf rows l (match e,a.θ.lookup t with
  | .box _ _ cs,some (some t')=>if rows then a else(match AG leaf.hp t' with|some (.box _ _ ds)=>MU nv pat leaf A1 a cs ds|_=>a)
  | .row _ _ _ x _,some (some t')=>if rows then(match AG leaf.hp t' with|some (.row _ _ _ y _)=>Kq a nv x y|some (.bu _ y)=>Kq a nv x y|some (.deep _ _ _ _ _ y)=>Kq a nv x y|_=>a)else a
  | .deep _ _ _ _ _ x,some (some t')=>if rows then(match AG leaf.hp t' with|some (.deep _ _ _ _ _ y)=>Kq a nv x y|_=>a)else a
  | .deep _ _ _ _ _ x,some none=>if rows then Kq a nv x (.lst .nil)else a
  | .row _ _ _ x _,some none=>if rows then Kq a nv x (.lst .nil)else a
  | .bu _ x,some (some t')=>if rows then(match AG leaf.hp t' with|some (.row _ _ _ y _)=>Kq a nv x y|some (.bu _ y)=>Kq a nv x y|some (.deep _ _ _ _ _ y)=>Kq a nv x y|_=>a)else a
  |_,_=>a)
def Ku (nv:Nat) (pat leaf:St):Option (List E):=
 let a:=MU nv pat leaf 2000 ⟨[], []⟩ pat.sl leaf.sl;let a:=PB nv pat leaf false pat.hp a;let a:=PB nv pat leaf true pat.hp a;let es:=(List.range (pat.nv-nv)).map fun j=>(a.as_.lookup (nv+j)).getD (.int .i64 0)
 if z6 nv es a.θ pat leaf then some es else none
def wX (nv live:Nat):List St→Option St
 | []=>none
 |σ::ls=>some (yI nv ((σ::ls).foldl (zK nv live) ({σ with nv:=nv},0)))
section
variable (P:Program) (sg:BT) (rs:Nat)
def Wo (run:St→Option Tr) (nv live:Nat) (σ:St):Nat→St × Nat→Option (St × Tr)
 |0,_=>none
 |n+1,p=>
  let pat:=yI nv p
  match run pat with
  |none=>none
  |some t=>
   if t.da.all fun l=>(Ku nv pat l).isSome then some (pat,t)
   else Wo run nv live σ n (t.da.foldl (fun p l=>zK nv live p (unname nv l)) p)
where
 unname (_:Nat) (l:St):St:=l
def Et:Code→List (Nat × Nat)→Nat→St→Option Tr
 | .skip,_,_,σ=>some (.leaf .normal σ)
 | .label _,_,_,σ=>some (.leaf .normal σ)
 | .ret,_,_,σ=>some (.leaf .ret σ)
 | .exit id,_,_,σ=>some (.leaf (.exit id) σ)
 | .region _ ops draw,_,_,σ=>if zB ops then some .stuck else if !σ.sc|| !(σ.hp.all fun(t,_)=>decide (t<σ.nx))then none else Ma P sg ops draw σ.nx (List.range ops.size) [] σ
 | .scope b,ex,l,σ=>Et b ex l σ
 | .cond c a b,ex,l,σ=>
  match BN (BD σ) [] c with
  |some (.e (.bool true))=>Et a ex l σ
  |some (.e (.bool false))=>Et b ex l σ
  |some (.e x)=>(match Et a ex l σ,Et b ex l σ with
   |some ta,some tb=>some (.ite x ta tb)
   |_,_=>none)
  |_=>none
 | .block id b,ex,l,σ=>(Et b ((id,l)::ex) l σ).bind fun t=>t.sub (fun _ x τ=>some (.leaf (match x with| .exit j=>if j=id then .normal else .exit j|x=>x) τ)) 0
 | .seq a b,ex,l,σ=>
  let lb:=Cl rs b ex l
  match Et a ex lb σ with
  |none=>none
  |some t=>
   match t.da with
   | []=>some t
   | [τ]=>(match Et b ex l τ with
    |none=>none
    |some k=>t.sub (fun _ x τ=>some (match x with| .normal=>k|x=> .leaf x τ)) 0)
   |ls=>(match wX σ.nv lb ls with
    |none=>none
    |some pat=>(match Et b ex l pat with
     |none=>none
     |some k=>(t.sub (fun d x τ=>match x with
       | .normal=>(Ku σ.nv pat τ).map fun es=> .jmp d (EL.of es)
       |x=>some (.leaf x τ)) 0).map fun t'=> .join t' k))
 | .loop b,ex,l,σ=>
  let lh:=Cl rs (.loop b) ex l
  match Wo (fun τ=>Et b ex lh τ) σ.nv lh σ 6 ({σ with sl:=σ.sl.zipIdx.map fun(s,i)=>if lh.testBit i then s else .undef},0)with
  |none=>none
  |some (pat,t)=>
   match Ku σ.nv pat σ with
   |none=>none
   |some i0=>
    match t.cj with
    |none=>(t.sub (fun d x τ=>match x with
      | .normal=>(Ku σ.nv pat τ).map fun es=> .jmp d (EL.of es)
      |x=>some (.leaf x τ)) 0).map fun t'=> .loop (EL.of i0) t' (.ret (.int .i64 0))
    |some id=>
     match wX σ.nv ((ex.lookup id).getD 0) (t.eg id)with
     |none=>none
     |some post=>(t.sub (fun d x τ=>match x with
       | .normal=>(Ku σ.nv pat τ).map fun es=> .jmp d (EL.of es)
       | .exit j=>if j=id then(Ku σ.nv post τ).map fun es=> .jmp (d+1) (EL.of es)else some (.leaf x τ)
       |x=>some (.leaf x τ)) 0).map fun t'=> .loop (EL.of i0) t' (.leaf (.exit id) post)
 |_,_,_,_=>none
end
section
variable (P:Program) (sg:BT)
def SP (i b:Nat) (t:TypeId) (own:List Bool):Option (SV × List (Nat × Aj)):=
 let l:=CO P (1000*i+b) (DD (.var i) (Aq P t)) 0 (A6 P t) own
 if 400<(A6 P t).length then none else
 if Aq P t then some (.agg (Bz.of l.1),l.2)else(match l.1 with| [s]=>some (s,l.2)|_=>none)
def XA (i:Nat) (t:TypeId) (lo:Bool):PM→Option (SV × List (Nat × Aj))
 | .ro=>some (if lo then .lent i else .e (.var i), [])
 | .va own=>SP P i 1 t own
 | .mu own=>SP P i 500 t own
 | .bx own _=>match Kr P t with
  |some ty=>
   let l:=CO P (1000*i+1) (DD (.deref (.var i)) true) 0 (A6 P ty) own
   if 400<(A6 P ty).length then none else some (.cm (1000*i) 0,(1000*i, .box ty (Aq P ty) l.1)::l.2)
  |none=>none
def Nq:Nat→List TypeId→List PM→List Bool→Option (List SV × List (Nat × Aj))
 |_, [],_,_=>some ([], [])
 |i,t::ts,ms,lo=>match XA P i t (lo.headD false) (ms.headD .ro),Nq (i+1) ts ms.tail lo.tail with
  |some (s,l),some (ss,ls)=>some (s::ss,l++ls)
  |_,_=>none
def s5 (fn:Func) (s:HC):Option St:=
 match Nq P 0 (fn.params.toList++s.ft) s.cr s.lo with
 |none=>none
 |some (ss,l)=>
  let n:=fn.params.size+fn.nfree;let fr:=(List.range (fn.nfree-s.ft.length)).map fun j=>SV.e (.var (fn.params.size+s.ft.length+j))
  if fn.ntmps<n||99<fn.params.size+s.ft.length||fn.nfree<s.ft.length then none else some {sl:=ss++fr++List.replicate (fn.ntmps-n) .undef,hp:=l,nx:=100000,nv:=n}
def Sp (σ:St):ResultVar→Option SV
 | .tmp t=>some (BD σ t)
 | .cell a ty=>match BD σ a with
  | .cm b o=>(match AG σ.hp b with|some (.box _ _ cs)=>if Dv P ty then OJ P ty cs o else none|_=>none)
  |_=>none
def L7 (σ:St):List TypeId→List Bool→List SV→Option (List Nat)
 | [],_, []=>some []
 |t::ts,fl,c::cs=>(match L7 σ ts fl.tail cs with
  |none=>none
  |some l=>match fl.headD false,CI P t with
   |true,some e=>if P.cellsOf e=0 then none else(match c with
    | .cf=>some l
    | .own u g=>(match AG σ.hp u with
     |some (.row e' z g' _ d)=>if g=g'∧e'=e∧z=P.cellsOf e∧(Ca P e∧d∨Ca P e=false∧(D5 P t).isNone)then some (u::l)else none
     |some (.deep e' z dl g' _ _)=>if g=g'∧Ca P e=false∧Pu (D5 P t) e' z dl then some (u::l)else none
     |_=>none)
    |_=>none)
   |_,_=>some l)
 |_,_,_=>none
def jL (σ:St) (t:TypeId) (fl:List Bool) (s:SV):Option (List Nat):=
 if GV P t fl then
  if Aq P t then(match s with| .agg cs=>L7 P σ (A6 P t) fl cs.toList|_=>none)else L7 P σ (A6 P t) fl [s]
 else some []
def Pv (σ:St):List TypeId→List Bool→List SV→Option (List Nat)
 | [],_, []=>some []
 |t::ts,fl,s::ss=>(match jL P σ t fl s,Pv σ ts (fl.drop (A6 P t).length) ss with
  |some a,some b=>some (a++b)
  |_,_=>none)
 |_,_,_=>none
def Ua (σ:St) (i:Nat) (mk:Nat→E):Nat→List TypeId→List Bool→Option (List E × List Nat)
 |_, [],_=>some ([], [])
 |j,t::ts,fl=>match Ua σ i mk (j+1) ts fl.tail with
  |none=>none
  |some (xs,us)=>match fl.headD false,CI P t with
   |true,some e=>(match AG σ.hp (1000*i+500+j)with
    |some (.row e' z 0 y d)=>if e'=e∧z=P.cellsOf e∧(Ca P e∧d∨Ca P e=false∧(D5 P t).isNone)then some (y::xs,(1000*i+500+j)::us)else none
    |some (.deep e' z dl 0 _ y)=>if Ca P e=false∧Pu (D5 P t) e' z dl then some (y::xs,(1000*i+500+j)::us)else none
    |_=>none)
   |_,_=>some (mk j::xs,us)
def Wh (σ:St):Nat→List TypeId→List PM→Option (List E × List Nat)
 |_, [],_=>some ([], [])
 |i,t::ts,ms=>match Wh σ (i+1) ts ms.tail with
  |none=>none
  |some (xs,us)=>if 99<i then none else match ms.headD .ro with
   | .ro=>some (xs,us)
   | .va _=>some (xs,us)
   | .mu own=>if 400<(A6 P t).length then none else(match Ua P σ i (DD (.var i) (Aq P t)) 0 (A6 P t) own with
    |some (es,vs)=>some ((if Aq P t then .mk (EL.of es)else es.headD (.var i))::xs,vs++us)
    |none=>none)
   | .bx _ own'=>(match Kr P t,AG σ.hp (1000*i)with
    |some ty,some (.box ty' _ cs)=>if ty'≠ty then none else(match Cr (AG σ.hp) [] A1 cs,L7 P σ (A6 P ty) own' cs with
     |some es,some vs=>some (.mk es::xs,(1000*i)::vs++us)
     |_,_=>none)
    |_,_=>none)
def Kc (σ:St):List TypeId→List Bool→List SV→List Nat
 |t::ts,fl,c::cs=>(if fl.headD false&&(CI P t).isSome then []else BR (AG σ.hp) [] (A1+1) [c])++Kc σ ts fl.tail cs
 |_,_,_=> []
def kK (σ:St) (t:TypeId) (fl:List Bool) (s:SV):List Nat:=
 if GV P t fl then(if Aq P t then(match s with| .agg cs=>Kc P σ (A6 P t) fl cs.toList|_=> [])else Kc P σ (A6 P t) fl [s])else BR (AG σ.hp) [] (A1+1) [s]
def WH (σ:St):List TypeId→List Bool→List SV→List Nat
 |t::ts,fl,s::ss=>kK P σ t fl s++WH σ ts (fl.drop (A6 P t).length) ss
 |_,_,_=> []
def PL (σ:St):Nat→List TypeId→List PM→List Nat
 |_, [],_=> []
 |i,t::ts,ms=>(match ms.headD .ro,Kr P t,AG σ.hp (1000*i)with
  | .bx _ own',some ty,some (.box _ _ cs)=>Kc P σ (A6 P ty) own' cs
  |_,_,_=> [])++PL σ (i+1) ts ms.tail
def XR (fn:Func) (s:HC) (σ:St):Option Tr:=
 match fn.results.toList.mapM (Sp P σ),Wh P σ 0 (fn.params.toList++s.ft) s.cr with
 |some rs,some (bx,us)=>
  match Cr (AG σ.hp) [] A1 rs,Pv P σ fn.resultTypes.toList s.res rs with
  |some es,some vs=>
   if !L5 (vs++us)||(WH P σ fn.resultTypes.toList s.res rs++PL P σ 0 (fn.params.toList++s.ft) s.cr).any (fun t=>(vs++us).contains t)then none else
   let r:E:=match es with| .cons x .nil=>x|es=> .tup es
   some (.ret (if bx.isEmpty then r else .tup (EL.of (r::bx))))
  |_,_=>none
 |_,_=>none
def xM (fn:Func) (s:HC):Nat:=
 fn.results.toList.foldl (fun l r=>l|||match r with| .tmp t=>bit t| .cell a _=>bit a) 0|||(s.cr.zipIdx.foldl (fun l (m,i)=>match m with| .bx .. =>l|||bit i| .mu _=>l|||bit i|_=>l) 0)
def Uq (f:Nat):Option Tr:=
 match P.funcs[f]?,sg f with
 |some fn,some s=>(match fn.body,s5 P fn s with
  |some c,some σ=>(match Et P {sg with dp:=s.dp,wn:=s.wn,fz:=s.fz} (xM fn s) c [] (xM fn s) σ with
   |some t=>t.sub (fun _ x τ=>match x with| .normal=>XR P fn s τ| .ret=>XR P fn s τ| .exit _=>none) 0
   |none=>none)
  |_,_=>none)
 |_,_=>none
end
def CZ (w:World) (ety sz:Nat) (v:Value) (x:AV) (top N:List Nat):Prop:=
 ∃xs,x= .sl xs∧(∀y∈xs,y.cells.length=sz)∧0<sz∧
  ((xs= []∧(∃a,v= .slice a 0 0)∧top= []∧N= [])∨
   ∃g cap C,v= .slice (some ⟨g,0,none⟩) xs.length cap∧xs.length≤cap∧cap≤maxLen∧w.heap[g]?=some (.cells C ety (0,0))∧C.size=cap*sz∧top= [g]∧(∀u∈C.toList.take (xs.length*sz),u.oneCell'=true)∧Rd w (C.toList.take (xs.length*sz)) (AP xs) N)
theorem CZ.win {w:World} {ety sz:Nat} {q:Option Addr} {n cap:Nat} {x:AV} {top N:List Nat} (h:CZ w ety sz (.slice q n cap) x top N) {k r:Nat} {q':Option Addr} (hk:k≤n) (hq:k<n→ ∃b,q=some ⟨b,0,none⟩∧q'=some ⟨b,k*sz,none⟩∧r=cap-k):
  ∃xs f,x= .sl xs∧xs.length=n∧Rd w [.slice q' (n-k) r] [.sl (xs.drop k)] f∧ ∀b∈f,b∈top∨b∈N:=by
 obtain⟨xs,rfl,h2,h3,⟨rfl,⟨a,hv⟩,rfl,rfl⟩|⟨g,cap',C,hv,h6,h7,h8,h9,rfl,G3,F4⟩⟩:=h
 ·cases hv;have:k=0:=by omega
  subst this;exact⟨[], [],rfl,rfl,by simpa using Rd.ej .nil,by simp⟩
 ·cases hv;refine⟨xs, ?_⟩;rcases Nat.lt_or_ge k xs.length with An|Jy
  ·obtain⟨b,hb,rfl,rfl⟩:=hq An;cases hb;have DY:C.toList.length=cap*sz:=by simpa using h9
   have hmul:xs.length*sz≤cap*sz:=Nat.mul_le_mul_right _ h6;have Gb:k*sz≤xs.length*sz:=Nat.mul_le_mul_right _ hk;obtain⟨g1,k1,k2⟩:=F4.piece (k*sz) ((xs.length-k)*sz);have e1:((AP xs).drop (k*sz)).take ((xs.length-k)*sz)=AP (xs.drop k):=by
    have hf:AP xs=AP (xs.take k)++AP (xs.drop k):=by
     have h0:AP (xs.take k++xs.drop k)=AP (xs.take k)++AP (xs.drop k):=by simp only [AP,List.flatMap_append]
     rw [List.take_append_drop]at h0;exact h0
    have hl: ∀ys:List AV,(∀y∈ys,y.cells.length=sz)→(AP ys).length=ys.length*sz:=by
     intro ys hy
     induction ys with
     |nil=>simp [AP]
     |cons y ys ih=>simp only [AP,List.flatMap_cons,As,Ap]at ih ⊢;rw [hy y (by simp),ih fun z hz=>hy z (by simp [hz]),Nat.add_mul];omega
    rw [hf,List.drop_append,List.drop_eq_nil_of_le (by rw [hl _ fun y hy=>h2 y (List.mem_of_mem_take hy)];simp [Nat.min_eq_left hk]),hl _ fun y hy=>h2 y (List.mem_of_mem_take hy)];simp only [List.length_take,Nat.min_eq_left hk,Nat.sub_self,List.drop_zero,List.nil_append];rw [List.take_of_length_le];rw [hl _ fun y hy=>h2 y (List.mem_of_mem_drop hy)];simp
   rw [e1]at k2;refine⟨_,rfl,rfl,Rd.fu (sz:=sz) h8 (by omega) ⟨by have:maxLen=9223372036854775807:=rfl;omega,by omega⟩ (by simp) (fun y hy=>h2 y (List.mem_of_mem_drop hy)) h3 (fun j u hu=> ?_) (fun u hu=>G3 u (List.mem_of_mem_drop (List.mem_of_mem_take hu))) k2 .nil,fun b hb=> ?_⟩
   ·rw [List.getElem?_take]at hu;split at hu
    ·rw [List.getElem?_drop,List.getElem?_take]at hu;split at hu
     ·simpa using hu
     ·cases hu
    ·cases hu
   ·simp only [List.append_nil,Ag]at hb;rcases hb with rfl|hb
    ·exact .inl (by simp)
    ·exact .inr (k1 b hb)
  ·have e0:xs.length-k=0:=by omega
   rw [e0,List.drop_eq_nil_of_le Jy];exact⟨[],rfl,rfl, .ej .nil,by simp⟩
def Di (n:Nat) (l:List DT):List DT:=(List.replicate n l).flatten
theorem zGD (n:Nat) (l:List DT):(Di n l).length=n*l.length:=by
 induction n with
 |zero=>simp [Di]
 |succ n ih=>simp only [Di,List.replicate_succ,List.flatten_cons,As]at ih ⊢;rw [ih,Nat.add_mul];omega
theorem Pm (n:Nat) (l:List DT):Di (n+1) l=l++Di n l:=by simp [Di,List.replicate_succ]
theorem zF3 (n m:Nat) (l:List DT):Di (n+m) l=Di n l++Di m l:=by
 induction n with
 |zero=>simp [Di]
 |succ n ih=>rw [show n+1+m=(n+m)+1 from by omega,Pm,ih,Pm,List.append_assoc]
theorem qV (n:Nat) {l:List DT} (h:l.all DT.bw=true):(Di n l).all DT.bw=true:=by
 induction n with
 |zero=>rfl
 |succ n ih=>rw [Pm,List.all_append,h,ih];rfl
mutual
theorem DT.beq_eq: ∀(a b:DT),a.beq b=true→a=b
 | .flat, .flat,_=>rfl
 | .row e z l, .row e' z' l',h=>by simp only [DT.beq,Ae,beq_iff_eq]at h;rw [h.1.1,h.1.2,AY.beq_eq _ _ h.2]
 | .flat, .row ..,h=>by simp [DT.beq]at h
 | .row .., .flat,h=>by simp [DT.beq]at h
theorem AY.beq_eq: ∀(a b:AY),a.beq b=true→a=b
 | .nil, .nil,_=>rfl
 | .cons a as_, .cons b bs,h=>by simp only [AY.beq,Ae]at h;rw [DT.beq_eq _ _ h.1,AY.beq_eq _ _ h.2]
 | .nil, .cons ..,h=>by simp [AY.beq]at h
 | .cons .., .nil,h=>by simp [AY.beq]at h
end
theorem AY.bb (l:List DT):(AY.of l).toList=l:=by induction l<;>simp [AY.of,AY.toList, *]
theorem AY.cy: ∀l:AY,AY.of l.toList=l
 | .nil=>rfl
 | .cons d l=>by simp [AY.toList,AY.of,AY.cy l]
theorem AY.iw {l l':List DT} (h:(AY.of l).beq (AY.of l')=true):l=l':=by have:=congrArg AY.toList (AY.beq_eq _ _ h);simpa [AY.bb]using this
theorem AY.of_eq {l:List DT} {l':AY} (h:(AY.of l).beq l'=true):l=l'.toList:=by have:=congrArg AY.toList (AY.beq_eq _ _ h);simpa [AY.bb]using this
theorem bL {d:Option DT} {e z:Nat} {l:List DT} (h:Pu d e z l=true):d=some (.row e z (AY.of l)):=by
 cases d with
 |none=>simp [Pu]at h
 |some d=>
  cases d with
  |flat=>simp [Pu]at h
  |row e' z' l'=>simp only [Pu,Ae,beq_iff_eq]at h;obtain⟨⟨rfl,rfl⟩,h3⟩:=h;rw [AY.of_eq h3,AY.cy]
inductive DC (w:World):List DT→List Value→List AV→List Nat→Prop where
 |nil:DC w [] [] [] []
 |flat {v x ts vs xs N}:Rd w [v] [x] []→DC w ts vs xs N→DC w (.flat::ts) (v::vs) (x::xs) N
 |void {e z l a ts vs xs N}:0<z→l.toList.length=z→DC w ts vs xs N→DC w (.row e z l::ts) (.slice a 0 0::vs) (.sl []::xs) N
 |row {e z l g cap C ys N1 ts vs xs N}:0<z→l.toList.length=z→w.heap[g]?=some (.cells C e (0,0))→ys.length≤cap→cap≤maxLen→C.size=cap*z→(∀y∈ys,y.cells.length=z)→(∀u∈C.toList.take (ys.length*z),u.oneCell'=true)→
   DC w (Di ys.length l.toList) (C.toList.take (ys.length*z)) (AP ys) N1→DC w ts vs xs N→DC w (.row e z l::ts) (.slice (some ⟨g,0,none⟩) ys.length cap::vs) (.sl ys::xs) (g::(N1++N))
theorem DC.len {w:World} {ts:List DT} {vs:List Value} {xs:List AV} {N:List Nat} (h:DC w ts vs xs N):vs.length=ts.length∧xs.length=ts.length:=by
 induction h with
 |nil=>simp
 |flat _ _ ih=>simp [ih]
 |void _ _ _ ih=>simp [ih]
 |row _ _ _ _ _ _ _ _ _ _ _ ih=>simp [ih]
theorem DC.frame {w w':World} {ts:List DT} {vs:List Value} {xs:List AV} {N:List Nat} (h:DC w ts vs xs N):(∀b∈N,w'.heap[b]?=w.heap[b]?)→DC w' ts vs xs N:=by
 induction h with
 |nil=>exact fun _=> .nil
 |flat a _ ih=>exact fun hf=> .flat (a.frame (by simp)) (ih hf)
 |void a b _ ih=>exact fun hf=> .void a b (ih hf)
 |row h1 h2 h3 h4 h5 h6 h7 h8 _ _ ih1 ih2=>exact fun hf=> .row h1 h2 (by rw [hf _ (by simp)];exact h3) h4 h5 h6 h7 h8 (ih1 fun b m=>hf b (by simp [m])) (ih2 fun b m=>hf b (by simp [m]))
theorem DC.inb {w:World} {ts:List DT} {vs:List Value} {xs:List AV} {N:List Nat} (h:DC w ts vs xs N): ∀b∈N,b<w.heap.size:=by
 induction h with
 |nil=>simp
 |flat _ _ ih=>exact ih
 |void _ _ _ ih=>exact ih
 |row h1 h2 h3 h4 h5 h6 h7 h8 _ _ ih1 ih2=>
  intro b m;simp only [Ag,Ai]at m;rcases m with rfl|m|m
  ·exact FM h3
  ·exact ih1 b m
  ·exact ih2 b m
theorem DC.app {w:World} {ts us:List DT} {vs ws:List Value} {xs ys:List AV} {N M:List Nat} (h:DC w ts vs xs N) (k:DC w us ws ys M):DC w (ts++us) (vs++ws) (xs++ys) (N++M):=by
 induction h with
 |nil=>exact k
 |flat a _ ih=>exact .flat a ih
 |void a b _ ih=>exact .void a b ih
 |row h1 h2 h3 h4 h5 h6 h7 h8 h9 _ _ ih2=>simp only [List.cons_append,List.append_assoc];exact DC.row h1 h2 h3 h4 h5 h6 h7 h8 h9 ih2
theorem DC.cg {w:World} {t:DT} {ts:List DT} {v:Value} {vs:List Value} {x:AV} {xs:List AV} {N:List Nat} (h:DC w (t::ts) (v::vs) (x::xs) N):
  ∃N1 N2,N=N1++N2∧DC w [t] [v] [x] N1∧DC w ts vs xs N2:=by
 cases h with
 |flat a h=>exact⟨[],N,rfl, .flat a .nil,h⟩
 |void a b h=>exact⟨[],N,rfl, .void a b .nil,h⟩
 |row h1 h2 h3 h4 h5 h6 h7 h8 h9 h=>rename_i g cap C ys N1 N2 l;exact⟨_::(_++ []),_,by simp, .row h1 h2 h3 h4 h5 h6 h7 h8 h9 .nil,h⟩
theorem DC.ff {w:World}: ∀{ts us:List DT} {vs ws:List Value} {xs ys:List AV} {N:List Nat},vs.length=ts.length→xs.length=ts.length→DC w (ts++us) (vs++ws) (xs++ys) N→ ∃N1 N2,N=N1++N2∧DC w ts vs xs N1∧DC w us ws ys N2
 | [],us, [],ws, [],ys,N,_,_,h=>⟨[],N,rfl, .nil,h⟩
 |t::ts,us,v::vs,ws,x::xs,ys,N,hl,hk,h=>by obtain⟨f1,f2,rfl,h1,h2⟩:=DC.cg h;obtain⟨f3,f4,rfl,h3,h4⟩:=DC.ff (ts:=ts) (vs:=vs) (xs:=xs) (by simpa using hl) (by simpa using hk) h2;exact⟨f1++f3,f4,by simp,h1.app h3,h4⟩
 | [],_,_::_,_,_,_,_,h,_,_=>by simp at h
 | [],_, [],_,_::_,_,_,_,h,_=>by simp at h
 |_::_,_, [],_,_,_,_,h,_,_=>by simp at h
 |_::_,_,_::_,_, [],_,_,_,h,_=>by simp at h
theorem DC.split {w:World} {ts:List DT} {vs:List Value} {xs:List AV} {N:List Nat} (h:DC w ts vs xs N) (p n:Nat):
  ∃N1 N2 N3,N=N1++N2++N3∧DC w (ts.take p) (vs.take p) (xs.take p) N1∧DC w ((ts.drop p).take n) ((vs.drop p).take n) ((xs.drop p).take n) N2∧DC w (ts.drop (p+n)) (vs.drop (p+n)) (xs.drop (p+n)) N3:=by
 obtain⟨l1,l2⟩:=h.len;have h':=h;rw [←List.take_append_drop p ts,←List.take_append_drop p vs,←List.take_append_drop p xs]at h';obtain⟨N1,M,rfl,h1,h2⟩:=DC.ff (by simp [l1]) (by simp [l2]) h';rw [←List.take_append_drop n (ts.drop p),←List.take_append_drop n (vs.drop p),←List.take_append_drop n (xs.drop p)]at h2;obtain⟨N2,N3,rfl,h3,h4⟩:=DC.ff (by simp [l1]) (by simp [l2]) h2;refine⟨N1,N2,N3,by simp,h1,h3, ?_⟩;simpa [List.drop_drop]using h4
theorem DC.rd {w:World} {ts:List DT} {vs:List Value} {xs:List AV} {N:List Nat} (h:DC w ts vs xs N): ∃f,Rd w vs xs f∧ ∀b∈f,b∈N:=by
 induction h with
 |nil=>exact⟨[], .nil,by simp⟩
 |flat a _ ih=>obtain⟨f,h1,h2⟩:=ih;exact⟨[]++f,by simpa using a.app h1,by simpa using h2⟩
 |void _ _ _ ih=>obtain⟨f,h1,h2⟩:=ih;exact⟨f, .ej h1,h2⟩
 | @row e z l g cap C ys N1 ts vs xs N h1 h2 h3 h4 h5 h6 h7 h8 _ _ ih1 ih2=>
  obtain⟨f1,k1,k2⟩:=ih1;obtain⟨f2,k3,k4⟩:=ih2;rcases Nat.eq_zero_or_pos ys.length with h0|h0
  ·have:ys= []:=List.eq_nil_of_length_eq_zero h0;subst this;exact⟨f2, .ej k3,fun b hb=>by simp [k4 b hb]⟩
  ·refine⟨g::(f1++f2),Rd.fu (o:=0) (c:=cap) (cs:=C.toList.take (ys.length*z)) h3 h0 ⟨by have:maxLen=9223372036854775807:=rfl;omega,by omega⟩ rfl h7 h1 (fun j u hu=>by
    rw [Nat.zero_add];rw [List.getElem?_take]at hu;split at hu
    ·simpa using hu
    ·cases hu) h8 k1 k3,fun b hb=> ?_⟩
   simp only [Ag,Ai]at hb ⊢;rcases hb with hb|hb|hb
   ·exact .inl hb
   ·exact .inr (.inl (k2 b hb))
   ·exact .inr (.inr (k4 b hb))
theorem DC.l8 {w:World} {ts:List DT} {vs:List Value} {xs:List AV} {N:List Nat} (h:DC w ts vs xs N):ts.all DT.bw=true→N= []:=by
 induction h with
 |nil=>exact fun _=>rfl
 |flat _ _ ih=>exact fun h=>ih (by simpa [DT.bw]using h)
 |void _ _ _ _=>exact fun h=>by simp [DT.bw]at h
 |row _ _ _ _ _ _ _ _ _ _ _ _=>exact fun h=>by simp [DT.bw]at h
theorem DC.j8 {w:World} {ts:List DT} {vs:List Value} {xs:List AV} {N:List Nat} (h:DC w ts vs xs N) (ht:ts.all DT.bw=true):Rd w vs xs []:=by
 have hN:=h.l8 ht;subst hN;obtain⟨f,h1,h2⟩:=h.rd;have:f= []:=List.eq_nil_iff_forall_not_mem.2 fun b hb=>by simpa using h2 b hb
 rw [this]at h1;exact h1
theorem DC.mr {w:World}: ∀{ts:List DT} {vs:List Value} {xs:List AV},Rd w vs xs []→ts.all DT.bw=true→ts.length=vs.length→DC w ts vs xs []
 | [], [],xs,h,_,_=>by cases h;exact .nil
 | .flat::ts,v::vs,xs,h,ha,hl=>by
  have hx:=h.len
  match xs,hx with
  |x::xs,_=>
   obtain⟨f1,f2,hf,h1,h2⟩:=h.cg;obtain⟨rfl,rfl⟩:f1= []∧f2= []:=by simpa using hf.symm
   exact .flat h1 (DC.mr h2 (by simpa [DT.bw]using ha) (by simpa using hl))
 | .row .. ::_,_::_,_,_,ha,_=>by simp [DT.bw]at ha
 | [],_::_,_,_,_,h=>by simp at h
 |_::_, [],_,_,_,h=>by simp at h
theorem DC.inv {w:World} {e z:Nat} {l:AY} {v:Value} {x:AV} {N:List Nat} (h:DC w [.row e z l] [v] [x] N):
  0<z∧l.toList.length=z∧((∃a,v= .slice a 0 0∧x= .sl []∧N= [])∨ ∃g cap C ys N1,v= .slice (some ⟨g,0,none⟩) ys.length cap∧x= .sl ys∧N=g::N1∧w.heap[g]?=some (.cells C e (0,0))∧ys.length≤cap∧cap≤maxLen∧C.size=cap*z∧(∀y∈ys,y.cells.length=z)∧
   (∀u∈C.toList.take (ys.length*z),u.oneCell'=true)∧DC w (Di ys.length l.toList) (C.toList.take (ys.length*z)) (AP ys) N1):=by
 cases h with
 |void a b h=>cases h;exact⟨a,b, .inl ⟨_,rfl,rfl,rfl⟩⟩
 |row h1 h2 h3 h4 h5 h6 h7 h8 h9 h=>cases h;exact⟨h1,h2, .inr ⟨_,_,_,_,_,rfl,rfl,by simp,h3,h4,h5,h6,h7,h8,h9⟩⟩
theorem DC.l0 {w:World} {e z:Nat} {l:AY} {v:Value} {x:AV} {top:List Nat} (h:CZ w e z v x top []) (ha:l.toList.all DT.bw=true) (hl:l.toList.length=z):DC w [.row e z l] [v] [x] top:=by
 obtain⟨xs,rfl,h2,h3,⟨rfl,⟨a,rfl⟩,rfl,_⟩|⟨g,cap,C,rfl,h6,h7,h8,h9,rfl,G3,F4⟩⟩:=h
 ·exact .void h3 hl .nil
 ·have AH:(C.toList.take (xs.length*z)).length=xs.length*z:=by
   have:C.toList.length=cap*z:=by simpa using h9
   rw [List.length_take,this];exact Nat.min_eq_left (Nat.mul_le_mul_right _ h6)
  have:=DC.row (l:=l) h3 hl h8 h6 h7 h9 h2 G3 (DC.mr F4 (qV _ ha) (by rw [zGD,hl,AH])) .nil;simpa using this
theorem DC.nf {w:World} {e z:Nat} {l:AY} {v:Value} {x:AV} {N:List Nat} (h:DC w [.row e z l] [v] [x] N) (ha:l.toList.all DT.bw=true):CZ w e z v x N []:=by
 obtain⟨h1,h2,⟨a,rfl,rfl,rfl⟩|⟨g,cap,C,ys,N1,rfl,rfl,rfl,h3,h4,h5,h6,h7,h8,h9⟩⟩:=h.inv
 ·exact⟨[],rfl,by simp,h1, .inl ⟨rfl,⟨a,rfl⟩,rfl,rfl⟩⟩
 ·have hN:=h9.l8 (qV _ ha);subst hN;exact⟨ys,rfl,h7,h1, .inr ⟨g,cap,C,rfl,h4,h5,h3,h6,rfl,h8,h9.j8 (qV _ ha)⟩⟩
theorem DC.ownRow {w:World} {e z:Nat} {l:AY} {v:Value} {x:AV} {N:List Nat} (h:DC w [.row e z l] [v] [x] N): ∃f,CZ w e z v x (N.take 1) f∧ ∀b∈f,b∈N.drop 1:=by
 obtain⟨h1,h2,⟨a,rfl,rfl,rfl⟩|⟨g,cap,C,ys,N1,rfl,rfl,rfl,h3,h4,h5,h6,h7,h8,h9⟩⟩:=h.inv
 ·exact⟨[],⟨[],rfl,by simp,h1, .inl ⟨rfl,⟨a,rfl⟩,rfl,rfl⟩⟩,by simp⟩
 ·obtain⟨f,k1,k2⟩:=h9.rd;exact⟨f,⟨ys,rfl,h7,h1, .inr ⟨g,cap,C,rfl,h4,h5,h3,h6,rfl,h8,k1⟩⟩,by simpa using k2⟩
theorem DC.head {w:World} {e z:Nat} {l:AY} {v:Value} {x:AV} {N:List Nat} (h:DC w [.row e z l] [v] [x] N): ∃q n r,v= .slice q n r:=by
 obtain⟨_,_,⟨a,rfl,_⟩|⟨g,cap,C,ys,N1,rfl,_⟩⟩:=h.inv
 ·exact⟨_,_,_,rfl⟩
 ·exact⟨_,_,_,rfl⟩
def Src (w:World) (size:Nat) (a:Option Addr) (m:Nat) (news:List Value):Prop:=
 (a=none∧m=0∧news= [])∨ ∃ad,a=some ad∧news.length=m*size∧(∀j u,news[j]?=some u→w.cell? (ad.add j)=some u)∧ ∀u∈news,u.oneCell'=true
theorem Src.mod {w w':World} {size:Nat} {a:Option Addr} {m:Nat} {news:List Value} (h:Src w size a m news) (hm:Mod [] w w'):Src w' size a m news:=by
 rcases h with h|⟨ad,h1,h2,h3,h4⟩
 ·exact Or.inl h
 ·exact Or.inr ⟨ad,h1,h2,fun j u hu=>by have:=h3 j u hu;rw [hm.cell (World.block_lt_of_cell? w _ this) (by simp)];exact this,h4⟩
section
variable {P:Program}
end
theorem Ei.src {α:Type} {T:GT α} {w:World} {a:Option Addr} {n:Nat} {xs:List α} {fp:List Nat} (hs:0<T.size) (h:Ei T w a n xs fp):
  ∃Ls fps,E6 T w Ls xs fps∧Src w T.size a n Ls.flatten∧(∀q∈fps.flatten,q∈fp):=by
 cases a with
 |none=>
  rcases h.2 with⟨rfl,_⟩|⟨b,o,fps,ha,_⟩
  ·have:=h.1;simp at this;subst this;exact⟨[], [],⟨rfl,rfl,by simp⟩,Or.inl ⟨rfl,rfl,rfl⟩,by simp⟩
  ·cases ha
 |some ad=>obtain⟨Ls,fps,h1,h2,h3,h4⟩:=h.cells hs;exact⟨Ls,fps,h1,Or.inr ⟨ad,rfl,h4,h2,h1.one⟩,h3⟩
structure PkS where
 n:Nat
 K:World→Prop
 mono: ∀{w w':World},(∀b,b<n→w'.heap[b]?=w.heap[b]?)→K w→K w'
noncomputable def Ki (s:String):Nat:=(Tryz.prog.globalNamed s).getD 0
def zKR:Array Value:=((List.range 20).map fun i=>Value.int .u64 ((10^i:Nat):Int)).toArray
noncomputable def J0:Nat:=max (Ki "strconv.ErrSyntax") (max (Ki "strconv.ErrRange") (Ki "internal/strconv.uint64pow10"))+1
def iT (w:World):Prop:=
 (∃t p,w.var? Tryz.prog "strconv.ErrSyntax" =some #[.iface t p])∧(∃t p,w.var? Tryz.prog "strconv.ErrRange" =some #[.iface t p])∧
 w.var? Tryz.prog "internal/strconv.uint64pow10" =some zKR
theorem sD {s:String} {w w':World} (hs:Ki s<J0) (h: ∀b,b<J0→w'.heap[b]?=w.heap[b]?):w'.var? Tryz.prog s=w.var? Tryz.prog s:=by
 unfold World.var?;unfold Ki at hs;cases hg:Tryz.prog.globalNamed s with
 |none=>rfl
 |some g=>rw [hg]at hs;simp only [Aa];rw [h g hs]
theorem jE {s:String} {w:World} {cs:Array Value} (h:w.var? Tryz.prog s=some cs):Ki s<w.heap.size:=by
 unfold World.var? at h;unfold Ki;cases hg:Tryz.prog.globalNamed s with
 |none=>rw [hg]at h;cases h
 |some g=>
  rw [hg]at h;simp only [Aa]at h;show g<_;by_cases hl:g<w.heap.size
  ·exact hl
  ·rw [Array.getElem?_eq_none (by omega)]at h;cases h
theorem zKZ:Ki "strconv.ErrSyntax" <J0:=by unfold J0;omega
theorem zKV:Ki "strconv.ErrRange" <J0:=by unfold J0;omega
theorem zKU:Ki "internal/strconv.uint64pow10" <J0:=by unfold J0;omega
noncomputable def FL:PkS:=⟨J0,iT,fun{w w'} h k=>by obtain⟨⟨t1,p1,k1⟩,⟨t2,p2,k2⟩,k3⟩:=k;refine⟨⟨t1,p1,by rw [sD zKZ h];exact k1⟩,⟨t2,p2,by rw [sD zKV h];exact k2⟩, ?_⟩;rw [sD zKU h];exact k3⟩
theorem zIU {w:World} (k:iT w):J0≤w.heap.size:=by obtain⟨⟨t1,p1,k1⟩,⟨t2,p2,k2⟩,k3⟩:=k;have h1:=jE k1;have h2:=jE k2;have h3:=jE k3;unfold J0;omega
def kO (w:World) (Mu:Nat→Prop):Prop:=FL.n≤w.heap.size∧FL.K w∧ ∀b,Mu b→FL.n≤b
end Go.Proofs.YtfdfahjmonlbiaaGreatDoor
end

/- Parts of a proof, joined: Lib, Op, VA, VB, V1, VC, OA, VD, VE, VF, VGa, Lib2, V0. -/
import Derived.WalkKit
import Derived.WalkLawsBesides
import Derived.WalkSpells
import Derived.Lib.Hide
import Derived.Deep.Quiet
import Derived.ProofKit
import Derived.OpenShut
import Derived.ChangeOld
import Derived.Below
set_option linter.unusedVariables false
set_option linter.unusedSimpArgs false
section
namespace Go.Proofs.YtagokdejdanfcaaGreatDoor
open Go.RowKit
theorem Aq.{u,v} {α:Type u} {β:Type v} {o:Option α} {f:α→Option β} {b:β}:o.bind f=some b↔∃a,o=some a∧f a=some b:=Option.bind_eq_some_iff
theorem An.{u} {α:Type u} {a:α} {l:List α}:(a::l).length=l.length+1:=List.length_cons
theorem Aj.{u} {α:Type u} {s t:List α}:(s++t).length=s.length+t.length:=List.length_append
theorem Ag.{u} {α:Type u} {a:α} {s t:List α}:a∈s++t↔a∈s∨a∈t:=List.mem_append
theorem Ad.{u} {α:Type u} {a b:α} {l:List α}:a∈b::l↔a=b∨a∈l:=List.mem_cons
theorem Ac (a b:Bool):((a&&b)=true)=(a=true∧b=true):=Bool.and_eq_true a b
structure Mod (S:List Nat) (w w':World):Prop where
 os:w'.os=w.os
 tape:w'.tape=w.tape
 output:w'.output=w.output
 size:w.heap.size≤w'.heap.size
 block: ∀k,k<w.heap.size→k∉S→w'.heap[k]?=w.heap[k]?
theorem Mod.gr {B:Nat} {w w':World} (h:Below B w w') (hB:w.heap.size≤B):Mod [] w w':=
 ⟨h.os,h.tape,h.output,h.size,fun k hk _=>h.block k (by omega)⟩
theorem Mod.below {w w':World} (h:Mod [] w w'):Below w.heap.size w w':=
 ⟨h.os,h.tape,h.output,h.size,fun k hk=>h.block k hk (by simp)⟩
theorem Mod.refl (S:List Nat) (w:World):Mod S w w:=⟨rfl,rfl,rfl,Nat.le_refl _,fun _ _ _=>rfl⟩
theorem Mod.trans {S S':List Nat} {a b c:World} (h:Mod S a b) (k:Mod S' b c) (hs: ∀x∈S',x∈S∨a.heap.size≤x):Mod S a c:=
 ⟨k.os.trans h.os,k.tape.trans h.tape,k.output.trans h.output,Nat.le_trans h.size k.size,fun i hi hn=>
  (k.block i (Nat.lt_of_lt_of_le hi h.size) (fun hm=>by rcases hs i hm with h1|h1;exact hn h1;omega)).trans (h.block i hi hn)⟩
theorem Mod.weaken {S S':List Nat} {a b:World} (h:Mod S a b) (hs: ∀x∈S,x∈S'∨a.heap.size≤x):Mod S' a b:=
 ⟨h.os,h.tape,h.output,h.size,fun i hi hn=>h.block i hi (fun hm=>by rcases hs i hm with h1|h1;exact hn h1;omega)⟩
theorem Mod.drew {S:List Nat} {a w:World} (h:Mod S a w):Mod S a w.drew:=⟨h.os,h.tape,h.output,h.size,h.block⟩
theorem Mod.alloc {S:List Nat} {a w:World} (h:Mod S a w) (o:Obj):Mod S a (w.alloc o):=
 h.trans (S':= []) ⟨rfl,rfl,rfl,by simp,fun k hk _=>Below.heap_alloc _ _ _ hk⟩ (by simp)
theorem Mod.setCell {S:List Nat} {a w:World} (h:Mod S a w) {p:Addr} (hp:p.block∈S∨a.heap.size≤p.block) (u:Value):Mod S a (w.setCell p u):=
 h.trans (S':= [p.block]) ⟨rfl,rfl,rfl,by simp [World.setCell],fun k _ hk=>Below.heap_setCell _ _ _ _ (by simpa using hk)⟩ (by simpa using hp)
theorem Mod.cell {S:List Nat} {w w':World} (h:Mod S w w') {p:Addr} (hp:p.block<w.heap.size) (hn:p.block∉S):w'.cell? p=w.cell? p:=World.cell?_of_block (w:=w) (h.block p.block hp hn)
theorem Mod.frozen {S:List Nat} {w w':World} (h:Mod S w w') {p:Addr} (hp:p.block<w.heap.size) (hn:p.block∉S):w'.frozen? p=w.frozen? p:=World.frozen?_of_block (w:=w) (h.block p.block hp hn)
structure GT (α:Type)where
 size:Nat
 rd:World→List Value→α→List Nat→Prop
 len: ∀{w cs x fp},rd w cs x fp→cs.length=size
 frame: ∀{w w' cs x fp},(∀b∈fp,w'.heap[b]?=w.heap[b]?)→rd w cs x fp→rd w' cs x fp
 inb: ∀{w cs x fp},rd w cs x fp→ ∀b∈fp,b<w.heap.size
 one: ∀{w cs x fp},rd w cs x fp→ ∀u∈cs,u.oneCell'=true
def E9 {α:Type} (T:GT α) (w:World) (b o:Nat) (xs:List α) (fps:List (List Nat)):Prop:=
 fps.length=xs.length∧ ∀i x fp,xs[i]?=some x→fps[i]?=some fp→ ∃cs,T.rd w cs x fp∧ ∀j v,cs[j]?=some v→w.cell? ⟨b,o+i*T.size+j,none⟩=some v
def Dr {α:Type} (T:GT α) (w:World) (a:Option Addr) (n:Nat) (xs:List α) (fp:List Nat):Prop:=
 xs.length=n∧((xs= []∧fp= [])∨ ∃b o fps,a=some ⟨b,o,none⟩∧fp=b::fps.flatten∧b<w.heap.size∧E9 T w b o xs fps)
theorem E9.frame {α:Type} {T:GT α} {w w':World} {b o:Nat} {xs:List α} {fps:List (List Nat)} (hb:w'.heap[b]?=w.heap[b]?) (hf: ∀k∈fps.flatten,w'.heap[k]?=w.heap[k]?) (h:E9 T w b o xs fps):E9 T w' b o xs fps:=by refine⟨h.1,fun i x fp hx Iz=> ?_⟩;obtain⟨cs,h1,h2⟩:=h.2 i x fp hx Iz;refine⟨cs,T.frame (fun k hk=>hf k (List.mem_flatten.2 ⟨fp,List.mem_of_getElem? Iz,hk⟩)) h1,fun j v hv=> ?_⟩;rw [World.cell?_of_block (w:=w) hb];exact h2 j v hv
theorem E9.inb {α:Type} {T:GT α} {w:World} {b o:Nat} {xs:List α} {fps:List (List Nat)} (h:E9 T w b o xs fps): ∀k∈fps.flatten,k<w.heap.size:=by intro k hk;obtain⟨fp,Iz,hk⟩:=List.mem_flatten.1 hk;obtain⟨i,hi,rfl⟩:=List.mem_iff_getElem.1 Iz;obtain⟨cs,h1,_⟩:=h.2 i (xs[i]'(by rw [←h.1];exact hi)) fps[i] (by simp) (by simp);exact T.inb h1 k hk
theorem Dr.frame {α:Type} {T:GT α} {w w':World} {a:Option Addr} {n:Nat} {xs:List α} {fp:List Nat} (hf: ∀k∈fp,w'.heap[k]?=w.heap[k]?) (h:Dr T w a n xs fp):Dr T w' a n xs fp:=by
 refine⟨h.1, ?_⟩;rcases h.2 with h|⟨b,o,fps,ha,rfl,hb,h⟩
 ·exact Or.inl h
 ·have e:=hf b (by simp);refine Or.inr ⟨b,o,fps,ha,rfl, ?_,h.frame e (fun k hk=>hf k (by simp [hk]))⟩;rcases Nat.lt_or_ge b w'.heap.size with h'|h'
  ·exact h'
  ·rw [Array.getElem?_eq_none h',Array.getElem?_eq_getElem hb]at e;cases e
theorem Dr.inb {α:Type} {T:GT α} {w:World} {a:Option Addr} {n:Nat} {xs:List α} {fp:List Nat} (h:Dr T w a n xs fp): ∀k∈fp,k<w.heap.size:=by
 rcases h.2 with h|⟨b,o,fps,ha,rfl,hb,h⟩
 ·simp [h.2]
 ·intro k hk;rcases Ad.1 hk with rfl|hk
  ·exact hb
  ·exact h.inb k hk
theorem Dr.at {α:Type} {T:GT α} {w:World} {a:Option Addr} {n:Nat} {xs:List α} {fp:List Nat} (h:Dr T w a n xs fp) {k:Nat} {x:α} (hx:xs[k]?=some x):
  ∃b o cs f,a=some ⟨b,o,none⟩∧b<w.heap.size∧b∈fp∧T.rd w cs x f∧(∀q∈f,q∈fp)∧ ∀j v,cs[j]?=some v→w.cell? ⟨b,o+k*T.size+j,none⟩=some v:=by
 have hk:k<xs.length:=by
  rcases Nat.lt_or_ge k xs.length with h|h
  ·exact h
  ·simp [List.getElem?_eq_none h]at hx
 rcases h.2 with⟨rfl,_⟩|⟨b,o,fps,rfl,rfl,hb,he⟩
 ·simp at hk
 have Bw:k<fps.length:=by rw [he.1];exact hk
 obtain⟨cs,h1,h2⟩:=he.2 k x fps[k] hx (by simp);exact⟨b,o,cs,fps[k],rfl,hb,by simp,h1,fun q hq=>List.mem_cons_of_mem _ (List.mem_flatten.2 ⟨_,List.getElem_mem Bw,hq⟩),h2⟩
theorem Dr.len {α:Type} {T:GT α} {w:World} {a:Option Addr} {n:Nat} {xs:List α} {fp:List Nat} (h:Dr T w a n xs fp):xs.length=n:=h.1
def GT.via {α β:Type} (T:GT β) (f:α→β):GT α where
 size:=T.size
 rd:=fun w cs x fp=>T.rd w cs (f x) fp
 len:=fun h=>T.len h
 frame:=fun hf h=>T.frame hf h
 inb:=fun h=>T.inb h
 one:=fun h=>T.one h
def Own (B:Nat) (w:World) (fp:List Nat):Prop:=fp.Nodup∧ ∀b∈fp,B≤b∧ ∃c t,w.heap[b]?=some (.cells c t (0,0))
theorem Own.nil (B:Nat) (w:World):Own B w []:=⟨by simp,by simp⟩
theorem Own.frame {B:Nat} {w w':World} {fp:List Nat} (hf: ∀k∈fp,w'.heap[k]?=w.heap[k]?) (h:Own B w fp):Own B w' fp:=
 ⟨h.1,fun b hb=>⟨(h.2 b hb).1,by rw [hf b hb];exact(h.2 b hb).2⟩⟩
theorem Own.mono {B B':Nat} {w:World} {fp:List Nat} (h:Own B w fp) (hB:B'≤B):Own B' w fp:=⟨h.1,fun b hb=>⟨Nat.le_trans hB (h.2 b hb).1,(h.2 b hb).2⟩⟩
theorem Own.lt {B:Nat} {w:World} {fp:List Nat} (h:Own B w fp): ∀b∈fp,b<w.heap.size:=by
 intro b hb;obtain⟨_,c,t,e⟩:=h.2 b hb;rcases Nat.lt_or_ge b w.heap.size with h'|h'
 ·exact h'
 ·simp [Array.getElem?_eq_none h']at e
def Ch (w:World) (b i:Nat):List Value→World
 | []=>w
 |v::vs=>Ch (w.setCell ⟨b,i,none⟩ v) b (i+1) vs
theorem Vk: ∀(cs:List Value) (w:World) (b i:Nat) (C:Array Value) (t:TypeId),w.heap[b]?=some (.cells C t (0,0))→i+cs.length≤C.size→
  Mod [b] w (Ch w b i cs)∧ ∃C',(Ch w b i cs).heap[b]?=some (.cells C' t (0,0))∧C'.size=C.size∧(∀j v,cs[j]?=some v→C'[i+j]?=some v)∧ ∀q,q<i∨i+cs.length≤q→C'[q]?=C[q]?:=by
 intro cs
 induction cs with
 |nil=>intro w b i C t h hs;exact⟨Mod.refl _ _,C,h,rfl,by simp,fun _ _=>rfl⟩
 |cons v vs ih=>
  intro w b i C t h hs;simp only [An]at hs;have h1:=heap_setCell_same w b i C t v h;obtain⟨hm,C',e1,e2,e3,e4⟩:=ih (w.setCell ⟨b,i,none⟩ v) b (i+1) _ t h1 (by simp;omega);refine⟨((Mod.refl [b] w).setCell (by simp) v).trans hm (by simp),C',e1,by simpa using e2,fun j u hj=> ?_,fun q hq=> ?_⟩
  ·cases j with
   |zero=>simp at hj;subst hj;rw [Nat.add_zero,e4 i (by omega)];rw [Array.getElem?_setIfInBounds];simp;omega
   |succ j=>have:=e3 j u (by simpa using hj);rw [show i+(j+1)=i+1+j from by omega];exact this
  ·simp only [An]at hq;rw [e4 q (by omega),Array.getElem?_setIfInBounds];rw [if_neg (by omega)]
theorem DS {w:World} {b i:Nat} {C:Array Value} {t:TypeId} {f:Nat × Nat} (h:w.heap[b]?=some (.cells C t f)):w.cell? ⟨b,i,none⟩=C[i]?:=by simp [World.cell?,h]
theorem lU {w:World} {b i:Nat} {C:Array Value} {t:TypeId} (h:w.heap[b]?=some (.cells C t (0,0))):w.frozen? ⟨b,i,none⟩=false:=by simp [World.frozen?,h]
theorem Fy {w:World} {b:Nat} {o:Obj} (h:w.heap[b]?=some o):b<w.heap.size:=lt_of_block h
theorem E9.nil {α:Type} (T:GT α) (w:World) (b o:Nat):E9 T w b o [] []:=⟨rfl,by simp⟩
theorem E9.snoc {α:Type} {T:GT α} {w w':World} {b o:Nat} {xs:List α} {fps:List (List Nat)} {x:α} {fp:List Nat} {cs:List Value} (h:E9 T w b o xs fps)
  (hc: ∀i,i<xs.length*T.size→w'.cell? ⟨b,o+i,none⟩=w.cell? ⟨b,o+i,none⟩) (hf: ∀k∈fps.flatten,w'.heap[k]?=w.heap[k]?)
  (hx:T.rd w' cs x fp) (hn: ∀j v,cs[j]?=some v→w'.cell? ⟨b,o+xs.length*T.size+j,none⟩=some v):E9 T w' b o (xs++ [x]) (fps++ [fp]):=by
 refine⟨by simp [h.1],fun i y f hy Iz=> ?_⟩;rcases Nat.lt_trichotomy i xs.length with hi|hi|hi
 ·have Bc:xs[i]?=some y:=by rwa [List.getElem?_append_left hi]at hy
  have NY:fps[i]?=some f:=by rwa [List.getElem?_append_left (by rw [h.1];exact hi)]at Iz
  obtain⟨c,h1,h2⟩:=h.2 i y f Bc NY;refine⟨c,T.frame (fun k hk=>hf k (List.mem_flatten.2 ⟨f,List.mem_of_getElem? NY,hk⟩)) h1,fun j v hv=> ?_⟩;have hj:j<T.size:=by
   rw [←T.len h1];rcases Nat.lt_or_ge j c.length with h|h
   ·exact h
   ·simp [List.getElem?_eq_none h]at hv
  have:=hc (i*T.size+j) (by have:(i+1)*T.size≤xs.length*T.size:=Nat.mul_le_mul_right _ hi;rw [Nat.add_mul]at this;omega)
  rw [show o+i*T.size+j=o+(i*T.size+j)from by omega,this,←Nat.add_assoc];exact h2 j v hv
 ·subst hi;simp at hy;subst hy;rw [List.getElem?_append_right (by rw [h.1];exact Nat.le_refl _),h.1]at Iz;simp at Iz;subst Iz;exact⟨cs,hx,hn⟩
 ·rw [List.getElem?_eq_none (by simp;omega)]at hy;cases hy
structure KD {α:Type} (T:GT α) (B:Nat) (w:World) (b:Nat) (t:TypeId) (tot:Nat) (xs:List α) (fps:List (List Nat)):Prop where
 la: ∃C,w.heap[b]?=some (.cells C t (0,0))∧C.size=tot
 rd:E9 T w b 0 xs fps
 own:Own B w (b::fps.flatten)
theorem KD.step {α:Type} {T:GT α} {B:Nat} {w w1:World} {b:Nat} {t:TypeId} {tot:Nat} {xs:List α} {fps:List (List Nat)} {x:α} {cs:List Value} {fp:List Nat}
  (h:KD T B w b t tot xs fps) (hm:Mod [] w w1) (hx:T.rd w1 cs x fp) (ho:Own w.heap.size w1 fp) (hB:B≤w.heap.size) (hs:(xs.length+1)*T.size≤tot):
  KD T B (Ch w1 b (xs.length*T.size) cs) b t tot (xs++ [x]) (fps++ [fp])∧Mod [b] w (Ch w1 b (xs.length*T.size) cs):=by
 obtain⟨C,hC,dY⟩:=h.la;have hb:=Fy hC;have Qj:w1.heap[b]?=some (.cells C t (0,0)):=by rw [hm.block b hb (by simp)];exact hC
 rw [Nat.add_mul,Nat.one_mul]at hs;have hlen:=T.len hx;obtain⟨m1,C',e1,e2,e3,e4⟩:=Vk cs w1 b (xs.length*T.size) C t Qj (by omega);have B6:=h.own.lt;have old: ∀k∈fps.flatten,(Ch w1 b (xs.length*T.size) cs).heap[k]?=w.heap[k]?:=fun k hk=>by
  have fJ:k≠b:=fun e=>by have:=h.own.1;rw [List.nodup_cons]at this;exact this.1 (e▸hk)
  have Ga:=B6 k (by simp [hk]);rw [m1.block k (Nat.lt_of_lt_of_le Ga hm.size) (by simpa using fJ),hm.block k Ga (by simp)]
 have new: ∀k∈fp,(Ch w1 b (xs.length*T.size) cs).heap[k]?=w1.heap[k]?:=fun k hk=>by have:=(ho.2 k hk).1;exact m1.block k (ho.lt k hk) (by simp;omega)
 refine⟨⟨⟨C',e1,by omega⟩, ?_, ?_⟩,(hm.weaken (S':= [b]) (by simp)).trans m1 (fun x hx=>Or.inl hx)⟩
 ·refine h.rd.snoc (fun i hi=> ?_) old (T.frame new hx) (fun j v hv=> ?_)
  ·rw [DS e1,DS hC,Nat.zero_add,e4 i (by omega)]
  ·rw [DS e1,Nat.zero_add];exact e3 j v hv
 ·refine⟨?_,fun q hq=> ?_⟩
  ·have h1:=h.own.1;rw [List.nodup_cons]at h1 ⊢;refine⟨?_, ?_⟩
   ·simp only [List.flatten_append,List.flatten_singleton,Ag,not_or];exact⟨h1.1,fun hk=>by have:=(ho.2 b hk).1;omega⟩
   ·simp only [List.flatten_append,List.flatten_singleton];exact List.nodup_append.2 ⟨h1.2,ho.1,fun a ha c hc e=>by have:=(ho.2 c hc).1;have:=B6 a (by simp [ha]);omega⟩
  ·rcases Ad.1 hq with rfl|hq
   ·exact⟨(h.own.2 q (by simp)).1,C',t,e1⟩
   ·simp only [List.flatten_append,List.flatten_singleton,Ag]at hq;rcases hq with hq|hq
    ·rw [old q hq];exact h.own.2 q (by simp [hq])
    ·rw [new q hq];exact⟨Nat.le_trans hB (ho.2 q hq).1,(ho.2 q hq).2⟩
theorem KD.done {α:Type} {T:GT α} {B:Nat} {w:World} {b:Nat} {t:TypeId} {tot n:Nat} {xs:List α} {fps:List (List Nat)} (h:KD T B w b t tot xs fps) (hn:xs.length=n):
  Dr T w (some ⟨b,0,none⟩) n xs (b::fps.flatten):=by
 obtain⟨C,hC,_⟩:=h.la;exact⟨hn,Or.inr ⟨b,0,fps,rfl,rfl,Fy hC,h.rd⟩⟩
theorem Dr.lr {α:Type} {T:GT α} {w:World} {a:Option Addr} {n:Nat} {xs:List α} {fp:List Nat} (h:Dr T w a n xs fp) (BO:fp.Nodup) {k:Nat} {x:α} (hx:xs[k]?=some x):
  ∃b o cs f,a=some ⟨b,o,none⟩∧b<w.heap.size∧b∈fp∧b∉f∧T.rd w cs x f∧(∀q∈f,q∈fp)∧(∀j v,cs[j]?=some v→w.cell? ⟨b,o+k*T.size+j,none⟩=some v)∧
   ∀w' cs' x',b<w'.heap.size→T.rd w' cs' x' f→(∀q∈fp,q∉f→q≠b→w'.heap[q]?=w.heap[q]?)→(∀j v,cs'[j]?=some v→w'.cell? ⟨b,o+k*T.size+j,none⟩=some v)→
    (∀i,i<o+k*T.size∨o+k*T.size+T.size≤i→w'.cell? ⟨b,i,none⟩=w.cell? ⟨b,i,none⟩)→Dr T w' a n (xs.set k x') fp:=by
 have hk:k<xs.length:=by
  rcases Nat.lt_or_ge k xs.length with h|h
  ·exact h
  ·simp [List.getElem?_eq_none h]at hx
 rcases h.2 with⟨rfl,_⟩|⟨b,o,fps,rfl,rfl,hb,he⟩
 ·simp at hk
 have Bw:k<fps.length:=by rw [he.1];exact hk
 obtain⟨cs,h1,h2⟩:=he.2 k x fps[k] hx (by simp);have NM:b∉fps.flatten:=(List.nodup_cons.1 BO).1;have B6: ∀q∈fps[k],q∈fps.flatten:=fun q hq=>List.mem_flatten.2 ⟨_,List.getElem_mem Bw,hq⟩;refine⟨b,o,cs,fps[k],rfl,hb,by simp,fun hm=>NM (B6 b hm),h1,fun q hq=>List.mem_cons_of_mem _ (B6 q hq),h2,fun w' cs' x' BE CZ JC AS hold=>⟨by simp [h.1],Or.inr ⟨b,o,fps,rfl,rfl,BE,by simp [he.1],fun i y f hy hf=> ?_⟩⟩⟩;by_cases hi:i=k
 ·subst hi;rw [List.getElem?_set_self hk]at hy;simp at hy;subst hy;have:f=fps[i]:=by simpa [Bw]using hf.symm
  subst this;exact⟨cs',CZ,AS⟩
 ·rw [List.getElem?_set_ne (Ne.symm hi)]at hy;obtain⟨c,g1,g2⟩:=he.2 i y f hy hf;have XN:f∈fps:=List.mem_of_getElem? hf;refine⟨c,T.frame (fun q hq=>JC q (List.mem_cons_of_mem _ (List.mem_flatten.2 ⟨f,XN,hq⟩)) (fun XY=> ?_) (fun e=>NM (e▸List.mem_flatten.2 ⟨f,XN,hq⟩))) g1,fun j v hv=> ?_⟩
  ·
   have hp:=List.pairwise_flatten.1 (List.nodup_cons.1 BO).2|>.2;have Qv:i<fps.length:=by
    rcases Nat.lt_or_ge i fps.length with h|h
    ·exact h
    ·simp [List.getElem?_eq_none h]at hf
   have Qt:fps[i]=f:=by simpa [Qv]using hf
   rcases Nat.lt_or_gt_of_ne hi with AD|AD
   ·exact(List.pairwise_iff_getElem.1 hp i k Qv Bw AD) q (Qt▸hq) q XY rfl
   ·exact(List.pairwise_iff_getElem.1 hp k i Bw Qv AD) q XY q (Qt▸hq) rfl
  ·have hj:j<T.size:=by
    rw [←T.len g1];rcases Nat.lt_or_ge j c.length with h|h
    ·exact h
    ·simp [List.getElem?_eq_none h]at hv
   rw [hold (o+i*T.size+j) ?_]
   ·exact g2 j v hv
   ·rcases Nat.lt_or_gt_of_ne hi with AD|AD
    ·have:(i+1)*T.size≤k*T.size:=Nat.mul_le_mul_right _ AD;rw [Nat.add_mul]at this;omega
    ·have:(k+1)*T.size≤i*T.size:=Nat.mul_le_mul_right _ AD;rw [Nat.add_mul]at this;omega
theorem Pf {α:Type} {xs:List α} {i:Nat} {x:α} (hx:xs[i]?=some x):i<xs.length:=by
 rcases Nat.lt_or_ge i xs.length with h|h
 ·exact h
 ·simp [List.getElem?_eq_none h]at hx
theorem Dr.put {α:Type} {T:GT α} {w:World} {n:Nat} {xs:List α} {fp:List Nat} {b o k:Nat} {x x':α} {cs':List Value} (h:Dr T w (some ⟨b,o,none⟩) n xs fp) (ho:Own 0 w fp)
  (hx:xs[k]?=some x) (BD: ∀w cs x f,T.rd w cs x f→f= []) (hs:0<T.size) (CZ: ∀w',T.rd w' cs' x' []):
  Dr T (Ch w b (o+k*T.size) cs') (some ⟨b,o,none⟩) n (xs.set k x') fp∧Own 0 (Ch w b (o+k*T.size) cs') fp∧Mod fp w (Ch w b (o+k*T.size) cs'):=by
 obtain⟨b',o',cs,f,ha,hb,NM,EJ,hr,_,hc,hu⟩:=h.lr ho.1 hx;simp at ha;obtain⟨rfl,rfl⟩:=ha;obtain rfl:=BD _ _ _ _ hr;obtain⟨_,C,t,hC⟩:=ho.2 b NM;have hl:=T.len hr;have Bm:=T.len (CZ w);have B6:o+k*T.size+cs'.length≤C.size:=by
  have AD:T.size-1<cs.length:=by omega
  have:=hc (T.size-1) cs[T.size-1] (by simp);rw [DS hC]at this;have:=Pf (xs:=C.toList) (i:=o+k*T.size+(T.size-1)) (x:=cs[T.size-1]) (by simpa using this);simp at this;omega
 obtain⟨m,C',e1,e2,e3,e4⟩:=Vk cs' w b (o+k*T.size) C t hC B6;have old: ∀q∈fp,q≠b→(Ch w b (o+k*T.size) cs').heap[q]?=w.heap[q]?:=fun q hq L9=>m.block q (ho.lt q hq) (by simpa using L9);refine⟨hu _ cs' x' (Fy e1) (CZ _) (fun q hq _ L9=>old q hq L9) (fun j v hv=> ?_) (fun i hi=> ?_),⟨ho.1,fun q hq=>⟨Nat.zero_le _, ?_⟩⟩,m.weaken (by simp [NM])⟩
 ·rw [DS e1];exact e3 j v hv
 ·rw [DS e1,DS hC];exact e4 i (by omega)
 ·by_cases L9:q=b
  ·subst L9;exact⟨C',t,e1⟩
  ·rw [old q hq L9];exact(ho.2 q hq).2
theorem KD.cell {α:Type} {T:GT α} {B:Nat} {w w1:World} {b:Nat} {t:TypeId} {tot:Nat} {xs:List α} {fps:List (List Nat)} (h:KD T B w b t tot xs fps) (hm:Mod [] w w1) {i:Nat} (hi:i<tot):
  (∃u,w1.cell? ⟨b,i,none⟩=some u)∧w1.frozen? ⟨b,i,none⟩=false:=by
 obtain⟨C,hC,dY⟩:=h.la;have Qj:w1.heap[b]?=some (.cells C t (0,0)):=by rw [hm.block b (Fy hC) (by simp)];exact hC
 exact⟨⟨C[i],by rw [DS Qj];simp⟩,lU Qj⟩
theorem Dr.mod {α:Type} {T:GT α} {S:List Nat} {w w':World} {a:Option Addr} {n:Nat} {xs:List α} {fp:List Nat} (h:Dr T w a n xs fp) (hm:Mod S w w') (hS: ∀q∈fp,q∉S):Dr T w' a n xs fp:=
 h.frame fun k hk=>hm.block k (h.inb k hk) (hS k hk)
theorem Own.mod {B:Nat} {S:List Nat} {w w':World} {fp:List Nat} (h:Own B w fp) (hm:Mod S w w') (hS: ∀q∈fp,q∉S):Own B w' fp:=
 h.frame fun k hk=>hm.block k (h.lt k hk) (hS k hk)
theorem Own.app {B:Nat} {w:World} {f g:List Nat} (h1:Own B w f) (h2:Own B w g) (hd: ∀q∈f,q∉g):Own B w (f++g):=
 ⟨List.nodup_append.2 ⟨h1.1,h2.1,fun a ha b hb e=>hd a ha (e▸hb)⟩,fun b hb=>by
  rcases Ag.1 hb with h|h
  ·exact h1.2 b h
  ·exact h2.2 b h⟩
theorem Own.left {B:Nat} {w:World} {f g:List Nat} (h:Own B w (f++g)):Own B w f:=⟨(List.nodup_append.1 h.1).1,fun b hb=>h.2 b (by simp [hb])⟩
theorem Own.right {B:Nat} {w:World} {f g:List Nat} (h:Own B w (f++g)):Own B w g:=⟨(List.nodup_append.1 h.1).2.1,fun b hb=>h.2 b (by simp [hb])⟩
theorem Own.apart {B:Nat} {w:World} {f g:List Nat} (h:Own B w (f++g)): ∀q∈f,q∉g:=fun q hq hg=>(List.nodup_append.1 h.1).2.2 q hq q hg rfl
theorem VB {α:Type} {s:Nat} (hs:0<s): ∀(Ls:List (List α)) (j:Nat),(∀l∈Ls,l.length=s)→Ls.flatten[j]?=(Ls[j/s]?).bind (·[j % s]?)
 | [],j,_=>by simp
 |l::Ls,j,h=>by
  have hl:l.length=s:=h l (by simp);rw [List.flatten_cons];by_cases hj:j<s
  ·rw [List.getElem?_append_left (by omega),Nat.div_eq_of_lt hj,Nat.mod_eq_of_lt hj];simp
  ·rw [List.getElem?_append_right (by omega),hl,VB hs Ls (j-s) (fun l hl=>h l (by simp [hl]))];have e1:j/s=(j-s)/s+1:=by rw [Nat.div_eq_sub_div hs (by omega)]
   have e2:(j-s) % s=j % s:=(Nat.mod_eq_sub_mod (by omega)).symm;rw [e1,e2];simp
theorem YY {α:Type} {s:Nat}: ∀(Ls:List (List α)),(∀l∈Ls,l.length=s)→Ls.flatten.length=Ls.length*s
 | [],_=>by simp
 |l::Ls,h=>by have:=YY Ls (fun l hl=>h l (by simp [hl]));have hl:=h l (by simp);simp [Nat.add_mul];rw [←hl]at this ⊢;simp at this;omega
def DX {α:Type} (T:GT α) (w:World) (Ls:List (List Value)) (xs:List α) (fps:List (List Nat)):Prop:=
 Ls.length=xs.length∧fps.length=xs.length∧ ∀(i:Nat) (cs:List Value) (x:α) (fp:List Nat),Ls[i]?=some cs→xs[i]?=some x→fps[i]?=some fp→T.rd w cs x fp
theorem DX.lens {α:Type} {T:GT α} {w:World} {Ls:List (List Value)} {xs:List α} {fps:List (List Nat)} (h:DX T w Ls xs fps): ∀l∈Ls,l.length=T.size:=by intro l hl;obtain⟨i,hi,rfl⟩:=List.mem_iff_getElem.1 hl;have h1:=h.1;have h2:=h.2.1;exact T.len (h.2.2 i _ (xs[i]'(by omega)) (fps[i]'(by omega)) (by simp) (by simp) (by simp))
theorem DX.one {α:Type} {T:GT α} {w:World} {Ls:List (List Value)} {xs:List α} {fps:List (List Nat)} (h:DX T w Ls xs fps): ∀u∈Ls.flatten,u.oneCell'=true:=by intro u hu;obtain⟨l,hl,hu⟩:=List.mem_flatten.1 hu;obtain⟨i,hi,rfl⟩:=List.mem_iff_getElem.1 hl;have h1:=h.1;have h2:=h.2.1;exact T.one (h.2.2 i _ (xs[i]'(by omega)) (fps[i]'(by omega)) (by simp) (by simp) (by simp)) u hu
theorem DX.frame {α:Type} {T:GT α} {w w':World} {Ls:List (List Value)} {xs:List α} {fps:List (List Nat)} (h:DX T w Ls xs fps) (hf: ∀k∈fps.flatten,w'.heap[k]?=w.heap[k]?):DX T w' Ls xs fps:=
 ⟨h.1,h.2.1,fun i cs x fp a b c=>T.frame (fun k hk=>hf k (List.mem_flatten.2 ⟨fp,List.mem_of_getElem? c,hk⟩)) (h.2.2 i cs x fp a b c)⟩
theorem DX.inb {α:Type} {T:GT α} {w:World} {Ls:List (List Value)} {xs:List α} {fps:List (List Nat)} (h:DX T w Ls xs fps): ∀k∈fps.flatten,k<w.heap.size:=by intro k hk;obtain⟨f,hf,hk⟩:=List.mem_flatten.1 hk;obtain⟨i,hi,rfl⟩:=List.mem_iff_getElem.1 hf;have h1:=h.1;have h2:=h.2.1;exact T.inb (h.2.2 i (Ls[i]'(by omega)) (xs[i]'(by omega)) _ (by simp) (by simp) (by simp)) k hk
theorem DX.snoc {α:Type} {T:GT α} {w:World} {Ls:List (List Value)} {xs:List α} {fps:List (List Nat)} {cs:List Value} {x:α} {fp:List Nat} (h:DX T w Ls xs fps) (hx:T.rd w cs x fp):DX T w (Ls++ [cs]) (xs++ [x]) (fps++ [fp]):=by
 refine⟨by simp [h.1],by simp [h.2.1],fun i c y f hc hy hf=> ?_⟩;rcases Nat.lt_trichotomy i xs.length with hi|hi|hi
 ·exact h.2.2 i c y f (by rwa [List.getElem?_append_left (by rw [h.1];exact hi)]at hc) (by rwa [List.getElem?_append_left hi]at hy) (by rwa [List.getElem?_append_left (by rw [h.2.1];exact hi)]at hf)
 ·subst hi;rw [List.getElem?_append_right (by rw [h.1];exact Nat.le_refl _),h.1]at hc;rw [List.getElem?_append_right (Nat.le_refl _)]at hy;rw [List.getElem?_append_right (by rw [h.2.1];exact Nat.le_refl _),h.2.1]at hf;simp at hc hy hf;subst hc hy hf;exact hx
 ·rw [List.getElem?_eq_none (by simp;omega)]at hy;cases hy
theorem Y0 {β:Type} (P:Nat→β→Prop): ∀n:Nat,(∀i,i<n→ ∃y,P i y)→ ∃L:List β,L.length=n∧ ∀(i:Nat) (y:β),L[i]?=some y→P i y
 |0,_=>⟨[],rfl,by simp⟩
 |n+1,h=>by
  obtain⟨L,hl,hL⟩:=Y0 P n (fun i hi=>h i (by omega));obtain⟨y,hy⟩:=h n (by omega);refine⟨L++ [y],by simp [hl],fun i z hz=> ?_⟩;rcases Nat.lt_trichotomy i n with hi|hi|hi
  ·exact hL i z (by rwa [List.getElem?_append_left (by omega)]at hz)
  ·subst hi;rw [List.getElem?_append_right (by omega),hl]at hz;simp at hz;subst hz;exact hy
  ·rw [List.getElem?_eq_none (by simp;omega)]at hz;cases hz
theorem E9.cells {α:Type} {T:GT α} {w:World} {b o:Nat} {xs:List α} {fps:List (List Nat)} (h:E9 T w b o xs fps) (hs:0<T.size):
  ∃Ls,DX T w Ls xs fps∧ ∀j u,Ls.flatten[j]?=some u→w.cell? ⟨b,o+j,none⟩=some u:=by
 obtain⟨Ls,hn,hL⟩:=Y0 (fun i cs=> ∃x fp,xs[i]?=some x∧fps[i]?=some fp∧T.rd w cs x fp∧ ∀j v,cs[j]?=some v→w.cell? ⟨b,o+i*T.size+j,none⟩=some v) xs.length (fun i hi=>by obtain⟨cs,h1,h2⟩:=h.2 i xs[i] (fps[i]'(by rw [h.1];exact hi)) (by simp) (by simp);exact⟨cs,_,_,by simp,by simp,h1,h2⟩)
 have XC:DX T w Ls xs fps:=by refine⟨hn,h.1,fun i cs x fp hc hx hf=> ?_⟩;obtain⟨x',fp',e1,e2,e3,_⟩:=hL i cs hc;rw [e1]at hx;rw [e2]at hf;simp at hx hf;subst hx hf;exact e3
 refine⟨Ls,XC,fun j u hu=> ?_⟩;rw [VB hs _ _ XC.lens]at hu;cases hd:Ls[j/T.size]? with
 |none=>rw [hd]at hu;cases hu
 |some cs=>rw [hd]at hu;obtain⟨_,_,_,_,_,e4⟩:=hL _ cs hd;have:=e4 _ u hu;rw [Nat.add_assoc,Nat.mul_comm,Nat.div_add_mod]at this;exact this
theorem DX.iy {α:Type} {T:GT α} {w:World} {Ls:List (List Value)} {xs:List α} {fps:List (List Nat)} {b o:Nat} (h:DX T w Ls xs fps) (hs:0<T.size) (hc: ∀j u,Ls.flatten[j]?=some u→w.cell? ⟨b,o+j,none⟩=some u):E9 T w b o xs fps:=by
 refine⟨h.2.1,fun i x fp hx hf=> ?_⟩;have hi:=Pf hx;have h1:=h.1;refine⟨Ls[i]'(by omega),h.2.2 i _ x fp (by simp) hx hf,fun j v hv=> ?_⟩;rw [Nat.add_assoc];refine hc _ _ ?_;have hj:j<T.size:=by rw [←h.lens _ (List.getElem_mem (by omega:i<Ls.length))];exact Pf hv
 rw [VB hs _ _ h.lens,Nat.mul_comm,Nat.mul_add_div hs,Nat.div_eq_of_lt hj,Nat.add_zero,Nat.mul_add_mod,Nat.mod_eq_of_lt hj];simpa [show i<Ls.length by omega]using hv
def Gr {α:Type} (T:GT α) (E:TypeId) (B:Nat) (w:World) (v:Value) (xs:List α) (fps:List (List Nat)):Prop:=
 ∃Ls,DX T w Ls xs fps∧w.ownsRow B E T.size v xs.length Ls.flatten∧ ∀g,v.ownBlock=some g→g∉fps.flatten
theorem Gr.nil {α:Type} (T:GT α) (E:TypeId) (B:Nat) (w:World):Gr T E B w (.slice none 0 0) [] []:=
 ⟨[],⟨rfl,rfl,by simp⟩,World.ownsRow_nil _ _ _ _,by simp⟩
theorem Gr.done {α:Type} {T:GT α} {E:TypeId} {B:Nat} {w:World} {v:Value} {xs:List α} {fps:List (List Nat)} (hs:0<T.size) (h:Gr T E B w v xs fps) (hf:Own B w fps.flatten):
  ∃a c fp,v= .slice a xs.length c∧xs.length≤c∧c≤maxLen∧Dr T w a xs.length xs fp∧Own B w fp∧(∀q∈fp,q∈fps.flatten∨v.ownBlock=some q):=by
 obtain⟨Ls,hL,ho,hg⟩:=h;rcases ho.2 with⟨rfl,hn⟩|⟨g,cap,cur,rfl,hB,hh,T9,NT,Bp,ht⟩
 ·have:xs= []:=List.eq_nil_of_length_eq_zero hn;subst this;exact⟨none,0, [],rfl,Nat.le_refl _,by simp [maxLen],⟨rfl,Or.inl ⟨rfl,rfl⟩⟩,Own.nil _ _,by simp⟩
 ·refine⟨some ⟨g,0,none⟩,cap,g::fps.flatten,rfl,T9,NT,⟨rfl,Or.inr ⟨g,0,fps,rfl,rfl,Fy hh,hL.iy hs (fun j u hu=> ?_)⟩⟩,⟨List.nodup_cons.2 ⟨hg g rfl,hf.1⟩,fun b hb=> ?_⟩,fun q hq=> ?_⟩
  ·rw [Nat.zero_add,DS hh];rw [←ht]at hu;have:=Pf hu;rw [List.getElem?_take]at hu;split at hu
   ·simpa using hu
   ·cases hu
  ·rcases Ad.1 hb with rfl|hb
   ·exact⟨hB,cur,E,hh⟩
   ·exact hf.2 b hb
  ·rcases Ad.1 hq with rfl|hq
   ·exact Or.inr rfl
   ·exact Or.inl hq
theorem Dr.cells {α:Type} {T:GT α} {w:World} {ad:Addr} {n:Nat} {xs:List α} {fp:List Nat} (hs:0<T.size) (h:Dr T w (some ad) n xs fp):
  ∃Ls fps,DX T w Ls xs fps∧(∀j u,Ls.flatten[j]?=some u→w.cell? (ad.add j)=some u)∧(∀q∈fps.flatten,q∈fp)∧Ls.flatten.length=n*T.size:=by
 rcases h.2 with⟨rfl,rfl⟩|⟨b,o,fps,ha,rfl,hb,he⟩
 ·have:=h.1;simp at this;subst this;exact⟨[], [],⟨rfl,rfl,by simp⟩,by simp,by simp,by simp⟩
 ·simp at ha;subst ha;obtain⟨Ls,h1,h2⟩:=he.cells hs;refine⟨Ls,fps,h1,fun j u hu=> ?_,fun q hq=>by simp [hq],by rw [YY Ls h1.lens,h1.1,h.1]⟩;have:=h2 j u hu;simpa [Addr.add_lit]using this
theorem Mod.grown {S:List Nat} {a w w':World} {row:Option Nat} (h:Mod S a w) (hg:w.grownBy w' row) (hr: ∀k,row=some k→k∈S∨a.heap.size≤k):Mod S a w':=
 h.trans (S':=row.toList) ⟨hg.os,hg.tape,hg.output,hg.size,fun k hk hn=>hg.block k hk (fun e=>hn (by rw [←e];simp))⟩ (fun x hx=>hr x (by cases row<;>simp at hx;subst hx;rfl))
theorem DX.flat {α:Type} {T:GT α} {w:World} {Ls:List (List Value)} {xs:List α} {fps:List (List Nat)} (BD: ∀w cs x f,T.rd w cs x f→f= []) (h:DX T w Ls xs fps):fps.flatten= []:=by rw [List.flatten_eq_nil_iff];intro f hf;obtain⟨i,hi,rfl⟩:=List.mem_iff_getElem.1 hf;have h1:=h.1;have h2:=h.2.1;exact BD _ _ _ _ (h.2.2 i (Ls[i]'(by omega)) (xs[i]'(by omega)) _ (by simp) (by simp) (by simp))
def Xe (P:Program) {α:Type} (T:GT α) (val:List Value→Value) (g:Nat) (lb:Array Value) (p:α→Bool) (xs:List α) (w:World):Prop:=
 ∀(W:World) (cs:List Value) (x:α) (fp:List Nat),x∈xs→Mod [] w W→T.rd W cs x fp→Calls P g (#[val cs]++lb) W fun e w'=>e= .returned (.bool (p x))∧Mod [] W w'
theorem Xe.later {P:Program} {α:Type} {T:GT α} {val:List Value→Value} {g:Nat} {lb:Array Value} {p:α→Bool} {xs:List α} {w w1:World} (h:Xe P T val g lb p xs w) (hm:Mod [] w w1):Xe P T val g lb p xs w1:=
 fun W cs x fp hx hW hr=>h W cs x fp hx (hm.trans hW (by simp)) hr
theorem Mod.la {S:List Nat} {w w1:World} (hm:Mod S w w1) {b:Nat} {C:Array Value} {t:TypeId} (h:w.heap[b]?=some (.cells C t (0,0))) (hb:b∉S):w1.heap[b]?=some (.cells C t (0,0)):=by rw [hm.block b (Fy h) hb];exact h
end Go.Proofs.YtagokdejdanfcaaGreatDoor
end
section
namespace Go.Proofs.YtagokdejdanfcaaGreatDoor
open Go.ChangeShapes Go.WideShapes Go.ChangeAt Go.RowKit
theorem Zz (a:Addr):a.add 0=a:=by simp [Addr.add]
theorem ZU (b o n:Nat):Addr.add ⟨b,o,none⟩ n=⟨b,o+n,none⟩:=by
 unfold Addr.add;split
 ·subst_vars;rfl
 ·rfl
end Go.Proofs.YtagokdejdanfcaaGreatDoor
end
section
namespace Go.Proofs.YtagokdejdanfcaaGreatDoor
open Go.RowKit
inductive AV where
 |int (k:IntKind) (n:Int)
 |bool (b:Bool)
 |str (s:List UInt8)
 |sl (xs:List AV)
 |agg (cs:List AV)
 |tup (vs:List AV)
 |ref (x:AV)
 |fn (f:Nat) (caps:List AV)
 |dd
 |undef
def AV.cells:AV→List AV
 | .agg cs=>cs
 |x=> [x]
def AH (xs:List AV):List AV:=xs.flatMap AV.cells
def D7 (k:IntKind) (n:Int):Prop:=k.wrap n=n
inductive Rd (w:World):List Value→List AV→List Nat→Prop where
 |nil:Rd w [] [] []
 |int {k n vs xs f}:D7 k n→Rd w vs xs f→Rd w (.int k n::vs) (.int k n::xs) f
 |bool {b vs xs f}:Rd w vs xs f→Rd w (.bool b::vs) (.bool b::xs) f
 |str {s:ByteArray} {vs xs f}:s.size≤9223372036854775807→Rd w vs xs f→Rd w (.string s::vs) (.str s.data.toList::xs) f
 |dh {a c vs xs f}:Rd w vs xs f→Rd w (.slice a 0 c::vs) (.sl []::xs) f
 |dw {b o n c ys cs C t fz sz f1 vs xs f}:w.heap[b]?=some (.cells C t fz)→0<n→(n≤9223372036854775807∧n≤c)→ys.length=n→(∀y∈ys,y.cells.length=sz)→0<sz→
   (∀j v,cs[j]?=some v→C[o+j]?=some v)→(∀u∈cs,u.oneCell'=true)→Rd w cs (AH ys) f1→Rd w vs xs f→Rd w (.slice (some ⟨b,o,none⟩) n c::vs) (.sl ys::xs) (b::(f1++f))
 |agg {as_ cs f1 vs xs f}:(∀u∈as_,u.oneCell'=true)→Rd w as_ cs f1→Rd w vs xs f→Rd w (.agg as_.toArray::vs) (.agg cs::xs) (f1++f)
 |tup {as_ cs f1 vs xs f}:Rd w as_ cs f1→Rd w vs xs f→Rd w (.tuple as_.toArray::vs) (.tup cs::xs) (f1++f)
 |ref {b C t fz x f1 vs xs f}:w.heap[b]?=some (.cells C t fz)→(∀u∈C.toList,u.oneCell'=true)→Rd w C.toList x.cells f1→Rd w vs xs f→Rd w (.pointer (some ⟨b,0,none⟩)::vs) (.ref x::xs) (b::(f1++f))
 |fn {g as_ cs f1 vs xs f}:Rd w as_ cs f1→Rd w vs xs f→Rd w (.func (.func g) #[] as_.toArray::vs) (.fn g cs::xs) (f1++f)
 |dd {vs xs f}:Rd w vs xs f→Rd w (.pointer none::vs) (.dd::xs) f
theorem Rd.frame {w w':World} {vs:List Value} {xs:List AV} {f:List Nat} (h:Rd w vs xs f):(∀b∈f,w'.heap[b]?=w.heap[b]?)→Rd w' vs xs f:=by
 induction h with
 |nil=>exact fun _=> .nil
 |int a _ ih=>exact fun hf=> .int a (ih hf)
 |bool _ ih=>exact fun hf=> .bool (ih hf)
 |str a _ ih=>exact fun hf=> .str a (ih hf)
 |dh _ ih=>exact fun hf=> .dh (ih hf)
 |dw hb h1 h2 h3 h4 h5 h6 Fc _ _ ih1 ih2=>exact fun hf=> .dw (by rw [hf _ (by simp)];exact hb) h1 h2 h3 h4 h5 h6 Fc (ih1 fun b m=>hf b (by simp [m])) (ih2 fun b m=>hf b (by simp [m]))
 |agg h9 _ _ ih1 ih2=>exact fun hf=> .agg h9 (ih1 fun b m=>hf b (by simp [m])) (ih2 fun b m=>hf b (by simp [m]))
 |tup _ _ ih1 ih2=>exact fun hf=> .tup (ih1 fun b m=>hf b (by simp [m])) (ih2 fun b m=>hf b (by simp [m]))
 |ref hb h9 _ _ ih1 ih2=>exact fun hf=> .ref (by rw [hf _ (by simp)];exact hb) h9 (ih1 fun b m=>hf b (by simp [m])) (ih2 fun b m=>hf b (by simp [m]))
 |fn _ _ ih1 ih2=>exact fun hf=> .fn (ih1 fun b m=>hf b (by simp [m])) (ih2 fun b m=>hf b (by simp [m]))
 |dd _ ih=>exact fun hf=> .dd (ih hf)
theorem Rd.inb {w:World} {vs:List Value} {xs:List AV} {f:List Nat} (h:Rd w vs xs f): ∀b∈f,b<w.heap.size:=by
 induction h with
 |nil=>simp
 |int _ _ ih=>exact ih
 |bool _ ih=>exact ih
 |str _ _ ih=>exact ih
 |dh _ ih=>exact ih
 |dw hb _ _ _ _ _ _ _ _ _ ih1 ih2=>
  intro b m;simp only [Ad,Ag]at m;rcases m with rfl|m|m
  ·exact Fy hb
  ·exact ih1 b m
  ·exact ih2 b m
 |agg _ _ _ ih1 ih2=>intro b m;rcases Ag.1 m with m|m;exact ih1 b m;exact ih2 b m
 |tup _ _ ih1 ih2=>intro b m;rcases Ag.1 m with m|m;exact ih1 b m;exact ih2 b m
 |ref hb _ _ _ ih1 ih2=>
  intro b m;simp only [Ad,Ag]at m;rcases m with rfl|m|m
  ·exact Fy hb
  ·exact ih1 b m
  ·exact ih2 b m
 |fn _ _ ih1 ih2=>intro b m;rcases Ag.1 m with m|m;exact ih1 b m;exact ih2 b m
 |dd _ ih=>exact ih
theorem Rd.len {w:World} {vs:List Value} {xs:List AV} {f:List Nat} (h:Rd w vs xs f):vs.length=xs.length:=by induction h<;>simp_all
theorem Rd.app {w:World} {vs us:List Value} {xs ys:List AV} {f g:List Nat} (h:Rd w vs xs f) (k:Rd w us ys g):Rd w (vs++us) (xs++ys) (f++g):=by
 induction h with
 |nil=>exact k
 |int a _ ih=>exact .int a ih
 |bool _ ih=>exact .bool ih
 |str a _ ih=>exact .str a ih
 |dh _ ih=>exact .dh ih
 |dw hb h1 h2 h3 h4 h5 h6 Fc h7 _ _ ih2=>simp only [List.cons_append,List.append_assoc];exact Rd.dw hb h1 h2 h3 h4 h5 h6 Fc h7 ih2
 |agg h9 h1 _ _ ih2=>have:=Rd.agg h9 h1 ih2;simpa using this
 |tup h1 _ _ ih2=>have:=Rd.tup h1 ih2;simpa using this
 |ref hb h9 h1 _ _ ih2=>have:=Rd.ref hb h9 h1 ih2;simpa using this
 |fn h1 _ _ ih2=>simp only [List.cons_append,List.append_assoc];exact Rd.fn h1 ih2
 |dd _ ih=>exact .dd ih
theorem Rd.br {w:World} {v:Value} {vs:List Value} {x:AV} {xs:List AV} {f:List Nat} (h:Rd w (v::vs) (x::xs) f):
  ∃f1 f2,f=f1++f2∧Rd w [v] [x] f1∧Rd w vs xs f2:=by
 cases h with
 |int a h=>exact⟨[],f,rfl, .int a .nil,h⟩
 |bool h=>exact⟨[],f,rfl, .bool .nil,h⟩
 |str a h=>exact⟨[],f,rfl, .str a .nil,h⟩
 |dh h=>exact⟨[],f,rfl, .dh .nil,h⟩
 |dw hb h1 h2 h3 h4 h5 h6 Fc h7 h=>rename_i b o n c ys cs C t fz sz f1 f2;exact⟨b::(f1++ []),f2,by simp, .dw hb h1 h2 h3 h4 h5 h6 Fc h7 .nil,h⟩
 |agg h9 h1 h=>rename_i f1 f2;exact⟨f1++ [],f2,by simp, .agg h9 h1 .nil,h⟩
 |tup h1 h=>rename_i f1 f2;exact⟨f1++ [],f2,by simp, .tup h1 .nil,h⟩
 |ref hb h9 h1 h=>rename_i b C t fz x f1 f2;exact⟨b::(f1++ []),f2,by simp, .ref hb h9 h1 .nil,h⟩
 |fn h1 h=>rename_i f1 f2;exact⟨f1++ [],f2,by simp, .fn h1 .nil,h⟩
 |dd h=>exact⟨[],f,rfl, .dd .nil,h⟩
theorem Rd.dq {w:World}: ∀{vs us:List Value} {xs ys:List AV} {f:List Nat},vs.length=xs.length→Rd w (vs++us) (xs++ys) f→ ∃f1 f2,f=f1++f2∧Rd w vs xs f1∧Rd w us ys f2
 | [],us, [],ys,f,_,h=>⟨[],f,rfl, .nil,h⟩
 |v::vs,us,x::xs,ys,f,hl,h=>by obtain⟨f1,f2,rfl,h1,h2⟩:=Rd.br h;obtain⟨f3,f4,rfl,h3,h4⟩:=Rd.dq (vs:=vs) (xs:=xs) (by simpa using hl) h2;exact⟨f1++f3,f4,by simp,h1.app h3,h4⟩
theorem Rd.piece {w:World} {vs:List Value} {xs:List AV} {f:List Nat} (h:Rd w vs xs f) (o n:Nat):
  ∃g,(∀b∈g,b∈f)∧Rd w ((vs.drop o).take n) ((xs.drop o).take n) g:=by
 have hl:=h.len;have e1:vs=vs.take o++vs.drop o:=(List.take_append_drop o vs).symm;have e2:xs=xs.take o++xs.drop o:=(List.take_append_drop o xs).symm;rw [e1,e2]at h;obtain⟨f1,f2,rfl,_,h2⟩:=Rd.dq (by simp [hl]) h;have e3:vs.drop o=(vs.drop o).take n++(vs.drop o).drop n:=(List.take_append_drop _ _).symm;have e4:xs.drop o=(xs.drop o).take n++(xs.drop o).drop n:=(List.take_append_drop _ _).symm;rw [e3,e4]at h2;obtain⟨f3,f4,rfl,h3,_⟩:=Rd.dq (by simp [hl]) h2;exact⟨f3,fun b hb=>by simp [hb],h3⟩
theorem Rd.at {w:World} {vs:List Value} {xs:List AV} {f:List Nat} (h:Rd w vs xs f) {i:Nat} {x:AV} (hx:xs[i]?=some x):
  ∃v g,vs[i]?=some v∧(∀b∈g,b∈f)∧Rd w [v] [x] g:=by
 have hi:=Pf hx;have hl:=h.len;obtain⟨g,hg,hr⟩:=h.piece i 1;have hv:(vs.drop i).take 1= [vs[i]'(by omega)]:=by rw [List.drop_eq_getElem_cons (by omega),List.take_succ_cons,List.take_zero]
 have Cg:(xs.drop i).take 1= [x]:=by rw [List.drop_eq_getElem_cons hi,List.take_succ_cons,List.take_zero];simpa [hi]using hx
 rw [hv,Cg]at hr;exact⟨_,g,by simp [show i<vs.length by omega],hg,hr⟩
theorem Rd.kind {w:World} {v:Value} {x:AV} {f:List Nat} (h:Rd w [v] [x] f):
  (∃k n,v= .int k n∧x= .int k n∧D7 k n∧f= [])∨(∃b,v= .bool b∧x= .bool b∧f= [])∨(∃s:ByteArray,v= .string s∧x= .str s.data.toList∧s.size≤9223372036854775807∧f= [])∨
  (∃a c,v= .slice a 0 c∧x= .sl []∧f= [])∨
  (∃(b o n c:Nat) (ys:List AV) (cs:List Value) (C:Array Value) (t:TypeId) (fz:Nat × Nat) (sz:Nat) (f1:List Nat),v= .slice (some ⟨b,o,none⟩) n c∧x= .sl ys∧f=b::f1∧w.heap[b]?=some (.cells C t fz)∧0<n∧(n≤9223372036854775807∧n≤c)∧ys.length=n∧(∀y∈ys,y.cells.length=sz)∧0<sz∧
   (∀(j:Nat) (u:Value),cs[j]?=some u→C[o+j]?=some u)∧(∀u∈cs,u.oneCell'=true)∧Rd w cs (AH ys) f1)∨
  (∃as_ cs,v= .agg as_.toArray∧x= .agg cs∧(∀u∈as_,u.oneCell'=true)∧Rd w as_ cs f)∨(∃as_ cs,v= .tuple as_.toArray∧x= .tup cs∧Rd w as_ cs f)∨
  (∃b C t fz y f1,v= .pointer (some ⟨b,0,none⟩)∧x= .ref y∧f=b::f1∧w.heap[b]?=some (.cells C t fz)∧(∀u∈C.toList,u.oneCell'=true)∧Rd w C.toList y.cells f1)∨
  (∃g as_ cs,v= .func (.func g) #[] as_.toArray∧x= .fn g cs∧Rd w as_ cs f)∨(v= .pointer none∧x= .dd∧f= []):=by
 cases h with
 |int a h=>cases h;exact .inl ⟨_,_,rfl,rfl,a,rfl⟩
 |bool h=>cases h;exact .inr (.inl ⟨_,rfl,rfl,rfl⟩)
 |str a h=>cases h;exact .inr (.inr (.inl ⟨_,rfl,rfl,a,rfl⟩))
 |dh h=>cases h;exact .inr (.inr (.inr (.inl ⟨_,_,rfl,rfl,rfl⟩)))
 |dw hb h1 h2 h3 h4 h5 h6 Fc h7 h=>cases h;exact .inr (.inr (.inr (.inr (.inl ⟨_,_,_,_,_,_,_,_,_,_,_,rfl,rfl,by simp,hb,h1,h2,h3,h4,h5,h6,Fc,h7⟩))))
 |agg h9 h1 h=>cases h;exact .inr (.inr (.inr (.inr (.inr (.inl ⟨_,_,rfl,rfl,h9,by simpa using h1⟩)))))
 |tup h1 h=>cases h;exact .inr (.inr (.inr (.inr (.inr (.inr (.inl ⟨_,_,rfl,rfl,by simpa using h1⟩))))))
 |ref hb h9 h1 h=>cases h;exact .inr (.inr (.inr (.inr (.inr (.inr (.inr (.inl ⟨_,_,_,_,_,_,rfl,rfl,by simp,hb,h9,h1⟩)))))))
 |fn h1 h=>cases h;exact .inr (.inr (.inr (.inr (.inr (.inr (.inr (.inr (.inl ⟨_,_,_,rfl,rfl,by simpa using h1⟩))))))))
 |dd h=>cases h;exact .inr (.inr (.inr (.inr (.inr (.inr (.inr (.inr (.inr ⟨rfl,rfl,rfl⟩))))))))
def AV.fld (x:AV) (o n:Nat) (g:Bool):AV:=if g then .agg ((x.cells.drop o).take n)else(x.cells[o]?).getD .undef
def AV.proj (x:AV) (i:Nat):AV:=match x with| .tup vs=>(vs[i]?).getD .undef|_=> .undef
def AV.deref (x:AV):AV:=match x with| .ref y=>y|_=> .undef
def AV.len (x:AV):AV:=match x with| .sl xs=> .int .i64 xs.length|_=> .undef
def AV.slen (x:AV):AV:=match x with| .str s=> .int .i64 s.length|_=> .undef
def AV.nth (x:AV) (k:Nat):AV:=match x with| .sl xs=>(xs[k]?).getD .undef|_=> .undef
def AV.sidx (x i:AV):AV:=match x,i with| .str s, .int _ k=>(match s[k.toNat]? with|some b=> .int .u8 b.toNat|none=> .undef)|_,_=> .undef
def AV.idx (x i:AV):AV:=match i with| .int _ k=>x.nth k.toNat|_=> .undef
def AV.win (x lo hi:AV):AV:=
 match lo,hi with
 | .int _ a, .int _ b=>(match x with| .sl xs=> .sl ((xs.take b.toNat).drop a.toNat)|_=> .undef)
 |_,_=> .undef
def AV.swin (x lo hi:AV):AV:=
 match lo,hi with
 | .int _ a, .int _ b=>(match x with| .str s=> .str ((s.take b.toNat).drop a.toNat)|_=> .undef)
 |_,_=> .undef
def AV.app (x y:AV):AV:=match x,y with| .sl xs, .sl ys=> .sl (xs++ys)|_,_=> .undef
def AV.da (x i v:AV):AV:=match x,i with| .sl xs, .int _ k=> .sl (xs.set k.toNat v)|_,_=> .undef
def AV.c9 (x:AV) (o:Nat) (v:AV) (g:Bool):AV:=
 if g then .agg (x.cells.take o++v.cells++x.cells.drop (o+v.cells.length))else v
def AV.rep (n z:AV):AV:=match n with| .int _ k=> .sl (List.replicate k.toNat z)|_=> .undef
def AV.conv (k:IntKind) (x:AV):AV:=match x with| .int _ n=> .int k (k.wrap n)|_=> .undef
def AV.dv (x:AV):AV:=match x with| .bool b=> .bool (!b)|_=> .undef
def AV.gn (x:AV):AV:=match x with| .int k n=> .int k (k.wrap (0-n))|_=> .undef
def AV.cond (c x y:AV):AV:=match c with| .bool true=>x| .bool false=>y|_=> .undef
def AV.bytes (x:AV):AV:=match x with| .str s=> .sl (s.map fun b=> .int .u8 b.toNat)|_=> .undef
def J4:List AV→Option (List UInt8)
 | []=>some []
 | .int .u8 n::xs=>(J4 xs).map (UInt8.ofNat n.toNat:: ·)
 |_::_=>none
def AV.text (x:AV):AV:=match x with| .sl xs=>(match J4 xs with|some s=>if xs.length≤9223372036854775807 then .str s else .undef|none=> .undef)|_=> .undef
def CH (op:BinOp) (k:IntKind) (a b:Int):AV:=
 match op with
 | .add=> .int k (k.wrap (a+b))
 | .sub=> .int k (k.wrap (a-b))
 | .mul=> .int k (k.wrap (a*b))
 | .quo=> .int k (k.wrap (a.tdiv b))
 | .rem=> .int k (a.tmod b)
 | .eql=> .bool (a==b)
 | .neq=> .bool (a !=b)
 | .lss=> .bool (a<b)
 | .leq=> .bool (a≤b)
 | .gtr=> .bool (a>b)
 | .geq=> .bool (a≥b)
 | .and=> .int k (k.wrap (BitVec.ofInt k.bits a&&&BitVec.ofInt k.bits b).toNat)
 | .or=> .int k (k.wrap (BitVec.ofInt k.bits a|||BitVec.ofInt k.bits b).toNat)
 | .xor=> .int k (k.wrap (BitVec.ofInt k.bits a^^^BitVec.ofInt k.bits b).toNat)
 | .andNot=> .int k (k.wrap (BitVec.ofInt k.bits a&&& ~~~BitVec.ofInt k.bits b).toNat)
 | .shl=> .int k (k.wrap (a*2^(min b.toNat k.bits)))
 | .shr=> .int k (a.fdiv (2^(min b.toNat k.bits)))
def M7 (op:BinOp) (a b:List UInt8):AV:=
 match op with
 | .add=> .str (a++b)
 | .eql=> .bool (a==b)
 | .neq=> .bool (a !=b)
 | .lss=> .bool (Op.bytesLess a b)
 | .leq=> .bool (Op.bytesLess a b||a==b)
 | .gtr=> .bool (!(Op.bytesLess a b||a==b))
 | .geq=> .bool (!Op.bytesLess a b)
 |_=> .undef
def AV.bin (op:BinOp) (x y:AV):AV:=
 match x,y with
 | .int k a, .int k' b=>if k=k'∨op= .shl∨op= .shr then CH op k a b else .undef
 |_,_=> .undef
def AV.sbin (op:BinOp) (x y:AV):AV:=
 match x,y with
 | .str a, .str b=>M7 op a b
 |_,_=> .undef
def AV.bbin (op:BinOp) (x y:AV):AV:=
 match x,y with
 | .bool a, .bool b=>(match op with| .eql=> .bool (a==b)| .neq=> .bool (a !=b)|_=> .undef)
 |_,_=> .undef
inductive SK where
 |int (k:IntKind)
 |bool
 |str
def AV.sk:AV→Option SK
 | .int k _=>some (.int k)
 | .bool _=>some .bool
 | .str _=>some .str
 |_=>none
def AV.seq:AV→AV→Bool
 | .int _ a, .int _ b=>a==b
 | .bool a, .bool b=>a==b
 | .str a, .str b=>a==b
 |_,_=>false
def AV.leq:List AV→List AV→Bool
 | [], []=>true
 |x::xs,y::ys=>x.seq y&&AV.leq xs ys
 |_,_=>false
def AV.aeq (x y:AV):AV:=match x,y with
 | .agg xs, .agg ys=> .bool (AV.leq xs ys)
 |_,_=> .undef
mutual
inductive E where
 |var (i:Nat)
 |int (k:IntKind) (n:Int)
 |bool (b:Bool)
 |str (s:ByteArray)
 |dd
 |lst (es:EL)
 |mk (es:EL)
 |tup (es:EL)
 |ref (e:E)
 |fn (f:Nat) (es:EL)
 |fld (e:E) (o n:Nat) (g:Bool)
 |proj (e:E) (i:Nat)
 |deref (e:E)
 |len (e:E)
 |slen (e:E)
 |idx (e i:E)
 |sidx (e i:E)
 |win (e lo hi:E)
 |swin (e lo hi:E)
 |app (a b:E)
 |set (x i v:E)
 |put (x:E) (o:Nat) (v:E) (g:Bool)
 |rep (n z:E)
 |conv (k:IntKind) (e:E)
 |bin (op:BinOp) (a b:E)
 |sbin (op:BinOp) (a b:E)
 |bbin (op:BinOp) (a b:E)
 |aeq (a b:E)
 |not (a:E)
 |neg (a:E)
 |ite (c a b:E)
 |bytes (a:E)
 |text (a:E)
inductive EL where
 |nil
 |cons (e:E) (es:EL)
end
mutual
def E.den (ρ:List AV):E→AV
 | .var i=>(ρ[i]?).getD .undef
 | .int k n=> .int k n
 | .bool b=> .bool b
 | .str s=> .str s.data.toList
 | .dd=> .dd
 | .lst es=> .sl (es.den ρ)
 | .mk es=> .agg (es.den ρ)
 | .tup es=> .tup (es.den ρ)
 | .ref e=> .ref (e.den ρ)
 | .fn f es=> .fn f (es.den ρ)
 | .fld e o n g=>(e.den ρ).fld o n g
 | .proj e i=>(e.den ρ).proj i
 | .deref e=>(e.den ρ).deref
 | .len e=>(e.den ρ).len
 | .slen e=>(e.den ρ).slen
 | .idx e i=>(e.den ρ).idx (i.den ρ)
 | .sidx e i=>(e.den ρ).sidx (i.den ρ)
 | .win e lo hi=>(e.den ρ).win (lo.den ρ) (hi.den ρ)
 | .swin e lo hi=>(e.den ρ).swin (lo.den ρ) (hi.den ρ)
 | .app a b=>(a.den ρ).app (b.den ρ)
 | .set x i v=>(x.den ρ).da (i.den ρ) (v.den ρ)
 | .put x o v g=>(x.den ρ).c9 o (v.den ρ) g
 | .rep n z=>AV.rep (n.den ρ) (z.den ρ)
 | .conv k e=>(e.den ρ).conv k
 | .bin op a b=>AV.bin op (a.den ρ) (b.den ρ)
 | .sbin op a b=>AV.sbin op (a.den ρ) (b.den ρ)
 | .bbin op a b=>AV.bbin op (a.den ρ) (b.den ρ)
 | .aeq a b=>AV.aeq (a.den ρ) (b.den ρ)
 | .not a=>(a.den ρ).dv
 | .neg a=>(a.den ρ).gn
 | .ite c a b=>AV.cond (c.den ρ) (a.den ρ) (b.den ρ)
 | .bytes a=>(a.den ρ).bytes
 | .text a=>(a.den ρ).text
def EL.den (ρ:List AV):EL→List AV
 | .nil=> []
 | .cons e es=>e.den ρ::es.den ρ
end
mutual
def E.beq:E→E→Bool
 | .var i, .var j=>i==j
 | .int k n, .int k' n'=>k==k'&&n==n'
 | .bool b, .bool b'=>b==b'
 | .str s, .str s'=>s.data.toList==s'.data.toList
 | .dd, .dd=>true
 | .lst a, .lst b=>a.beq b
 | .mk a, .mk b=>a.beq b
 | .tup a, .tup b=>a.beq b
 | .ref a, .ref b=>a.beq b
 | .fn f a, .fn g b=>f==g&&a.beq b
 | .fld a o n g, .fld b o' n' g'=>o==o'&&n==n'&&g==g'&&a.beq b
 | .proj a i, .proj b j=>i==j&&a.beq b
 | .deref a, .deref b=>a.beq b
 | .len a, .len b=>a.beq b
 | .slen a, .slen b=>a.beq b
 | .idx a i, .idx b j=>a.beq b&&i.beq j
 | .sidx a i, .sidx b j=>a.beq b&&i.beq j
 | .win a i j, .win b k l=>a.beq b&&i.beq k&&j.beq l
 | .swin a i j, .swin b k l=>a.beq b&&i.beq k&&j.beq l
 | .app a b, .app c d=>a.beq c&&b.beq d
 | .set a b c, .set d e f=>a.beq d&&b.beq e&&c.beq f
 | .put a o b g, .put c o' d g'=>o==o'&&g==g'&&a.beq c&&b.beq d
 | .rep a b, .rep c d=>a.beq c&&b.beq d
 | .conv k a, .conv k' b=>k==k'&&a.beq b
 | .bin o a b, .bin o' c d=>o==o'&&a.beq c&&b.beq d
 | .sbin o a b, .sbin o' c d=>o==o'&&a.beq c&&b.beq d
 | .bbin o a b, .bbin o' c d=>o==o'&&a.beq c&&b.beq d
 | .aeq a b, .aeq c d=>a.beq c&&b.beq d
 | .not a, .not b=>a.beq b
 | .neg a, .neg b=>a.beq b
 | .ite a b c, .ite d e f=>a.beq d&&b.beq e&&c.beq f
 | .bytes a, .bytes b=>a.beq b
 | .text a, .text b=>a.beq b
 |_,_=>false
def EL.beq:EL→EL→Bool
 | .nil, .nil=>true
 | .cons e es, .cons f fs=>e.beq f&&es.beq fs
 |_,_=>false
end
mutual
theorem E.aj (ρ:List AV): ∀(a b:E),a.beq b=true→a.den ρ=b.den ρ
 |a,b,h=>by
  cases a<;>cases b<;>simp only [E.beq,Ac,beq_iff_eq,reduceCtorEq]at h<;>simp only [E.den]
  case var=>rw [h]
  case int=>rw [h.1,h.2]
  case bool=>rw [h]
  case str=>rw [h]
  case lst=>rw [EL.aj ρ _ _ h]
  case mk=>rw [EL.aj ρ _ _ h]
  case tup=>rw [EL.aj ρ _ _ h]
  case ref=>rw [E.aj ρ _ _ h]
  case fn=>rw [EL.aj ρ _ _ h.2,h.1]
  case fld=>rw [E.aj ρ _ _ h.2,h.1.1.1,h.1.1.2,h.1.2]
  case proj=>rw [E.aj ρ _ _ h.2,h.1]
  case deref=>rw [E.aj ρ _ _ h]
  case len=>rw [E.aj ρ _ _ h]
  case slen=>rw [E.aj ρ _ _ h]
  case idx=>rw [E.aj ρ _ _ h.1,E.aj ρ _ _ h.2]
  case sidx=>rw [E.aj ρ _ _ h.1,E.aj ρ _ _ h.2]
  case win=>rw [E.aj ρ _ _ h.1.1,E.aj ρ _ _ h.1.2,E.aj ρ _ _ h.2]
  case swin=>rw [E.aj ρ _ _ h.1.1,E.aj ρ _ _ h.1.2,E.aj ρ _ _ h.2]
  case app=>rw [E.aj ρ _ _ h.1,E.aj ρ _ _ h.2]
  case set=>rw [E.aj ρ _ _ h.1.1,E.aj ρ _ _ h.1.2,E.aj ρ _ _ h.2]
  case put=>rw [E.aj ρ _ _ h.1.2,E.aj ρ _ _ h.2,h.1.1.1,h.1.1.2]
  case rep=>rw [E.aj ρ _ _ h.1,E.aj ρ _ _ h.2]
  case conv=>rw [E.aj ρ _ _ h.2,h.1]
  case bin=>rw [E.aj ρ _ _ h.1.2,E.aj ρ _ _ h.2,h.1.1]
  case sbin=>rw [E.aj ρ _ _ h.1.2,E.aj ρ _ _ h.2,h.1.1]
  case bbin=>rw [E.aj ρ _ _ h.1.2,E.aj ρ _ _ h.2,h.1.1]
  case aeq=>rw [E.aj ρ _ _ h.1,E.aj ρ _ _ h.2]
  case not=>rw [E.aj ρ _ _ h]
  case neg=>rw [E.aj ρ _ _ h]
  case ite=>rw [E.aj ρ _ _ h.1.1,E.aj ρ _ _ h.1.2,E.aj ρ _ _ h.2]
  case bytes=>rw [E.aj ρ _ _ h]
  case text=>rw [E.aj ρ _ _ h]
theorem EL.aj (ρ:List AV): ∀(a b:EL),a.beq b=true→a.den ρ=b.den ρ
 | .nil, .nil,_=>rfl
 | .cons a as_, .cons b bs,h=>by simp only [EL.beq,Ac]at h;simp only [EL.den];rw [E.aj ρ _ _ h.1,EL.aj ρ _ _ h.2]
 | .nil, .cons ..,h=>by simp [EL.beq]at h
 | .cons .., .nil,h=>by simp [EL.beq]at h
end
mutual
def E.sc (n:Nat):E→Bool
 | .var i=>decide (i<n)
 | .int .. | .bool _| .str _| .dd=>true
 | .lst es| .mk es| .tup es| .fn _ es=>es.sc n
 | .ref e| .fld e _ _ _| .proj e _| .deref e| .len e| .slen e| .conv _ e| .not e| .neg e| .bytes e| .text e=>e.sc n
 | .idx a b| .sidx a b| .app a b| .put a _ b _| .rep a b| .bin _ a b| .sbin _ a b| .bbin _ a b| .aeq a b=>a.sc n&&b.sc n
 | .win a b c| .swin a b c| .set a b c| .ite a b c=>a.sc n&&b.sc n&&c.sc n
def EL.sc (n:Nat):EL→Bool
 | .nil=>true
 | .cons e es=>e.sc n&&es.sc n
end
mutual
theorem E.ao (ρ τ τ':List AV): ∀(a:E),a.sc ρ.length=true→a.den (ρ++τ)=a.den (ρ++τ')
 |a,h=>by
  cases a<;>simp only [E.sc,Ac,decide_eq_true_eq]at h<;>simp only [E.den]
  case var=>rw [List.getElem?_append_left h,List.getElem?_append_left h]
  case lst=>rw [EL.ao ρ τ τ' _ h]
  case mk=>rw [EL.ao ρ τ τ' _ h]
  case tup=>rw [EL.ao ρ τ τ' _ h]
  case ref=>rw [E.ao ρ τ τ' _ h]
  case fn=>rw [EL.ao ρ τ τ' _ h]
  case fld=>rw [E.ao ρ τ τ' _ h]
  case proj=>rw [E.ao ρ τ τ' _ h]
  case deref=>rw [E.ao ρ τ τ' _ h]
  case len=>rw [E.ao ρ τ τ' _ h]
  case slen=>rw [E.ao ρ τ τ' _ h]
  case idx=>rw [E.ao ρ τ τ' _ h.1,E.ao ρ τ τ' _ h.2]
  case sidx=>rw [E.ao ρ τ τ' _ h.1,E.ao ρ τ τ' _ h.2]
  case win=>rw [E.ao ρ τ τ' _ h.1.1,E.ao ρ τ τ' _ h.1.2,E.ao ρ τ τ' _ h.2]
  case swin=>rw [E.ao ρ τ τ' _ h.1.1,E.ao ρ τ τ' _ h.1.2,E.ao ρ τ τ' _ h.2]
  case app=>rw [E.ao ρ τ τ' _ h.1,E.ao ρ τ τ' _ h.2]
  case set=>rw [E.ao ρ τ τ' _ h.1.1,E.ao ρ τ τ' _ h.1.2,E.ao ρ τ τ' _ h.2]
  case put=>rw [E.ao ρ τ τ' _ h.1,E.ao ρ τ τ' _ h.2]
  case rep=>rw [E.ao ρ τ τ' _ h.1,E.ao ρ τ τ' _ h.2]
  case conv=>rw [E.ao ρ τ τ' _ h]
  case bin=>rw [E.ao ρ τ τ' _ h.1,E.ao ρ τ τ' _ h.2]
  case sbin=>rw [E.ao ρ τ τ' _ h.1,E.ao ρ τ τ' _ h.2]
  case bbin=>rw [E.ao ρ τ τ' _ h.1,E.ao ρ τ τ' _ h.2]
  case aeq=>rw [E.ao ρ τ τ' _ h.1,E.ao ρ τ τ' _ h.2]
  case not=>rw [E.ao ρ τ τ' _ h]
  case neg=>rw [E.ao ρ τ τ' _ h]
  case ite=>rw [E.ao ρ τ τ' _ h.1.1,E.ao ρ τ τ' _ h.1.2,E.ao ρ τ τ' _ h.2]
  case bytes=>rw [E.ao ρ τ τ' _ h]
  case text=>rw [E.ao ρ τ τ' _ h]
theorem EL.ao (ρ τ τ':List AV): ∀(a:EL),a.sc ρ.length=true→a.den (ρ++τ)=a.den (ρ++τ')
 | .nil,_=>rfl
 | .cons a as_,h=>by simp only [EL.sc,Ac]at h;simp only [EL.den];rw [E.ao ρ τ τ' _ h.1,EL.ao ρ τ τ' _ h.2]
end
end Go.Proofs.YtagokdejdanfcaaGreatDoor
end
section
namespace Go.Proofs.YtagokdejdanfcaaGreatDoor
def iE (_:Nat):Bool:=false
end Go.Proofs.YtagokdejdanfcaaGreatDoor
end
section
namespace Go.Proofs.YtagokdejdanfcaaGreatDoor
open Go.RowKit
abbrev Gd:=List (E × Bool)
mutual
inductive DT where
 |flat
 |row (ety sz:Nat) (l:AF)
inductive AF where
 |nil
 |cons (d:DT) (l:AF)
end
def AF.toList:AF→List DT
 | .nil=> []
 | .cons s l=>s::l.toList
def AF.of:List DT→AF
 | []=> .nil
 |s::l=> .cons s (AF.of l)
mutual
def DT.beq:DT→DT→Bool
 | .flat, .flat=>true
 | .row e z l, .row e' z' l'=>e==e'&&z==z'&&l.beq l'
 |_,_=>false
def AF.beq:AF→AF→Bool
 | .nil, .nil=>true
 | .cons a as_, .cons b bs=>a.beq b&&as_.beq bs
 |_,_=>false
end
def DT.bh:DT→Bool
 | .flat=>true
 |_=>false
abbrev KE:=Option (E × Nat × Nat)
mutual
inductive SV where
 |undef
 |e (x:E)
 |bp
 |emp
 |own (t g:Nat)
 |bz (t o:Nat)
 |cg (t g:Nat) (i:E) (sz o:Nat)
 |cz (x i:E) (sz o:Nat)
 |cx (x:E) (o:Nat)
 |agg (cs:Be)
 |tup (vs:Be)
 |fn (f:Nat) (cs:Be)
 |gd (gs:Gd) (s:SV)
 |via (t g n:Nat) (p:KE) (x:E)
 |vptr (t g n:Nat) (p:KE) (x i:E) (sz o:Nat)
 |wown (t g:Nat) (lo:E) (sz:Nat)
 |lent (i:Nat)
inductive Be where
 |nil
 |cons (s:SV) (l:Be)
end
def Be.toList:Be→List SV
 | .nil=> []
 | .cons s l=>s::l.toList
def Be.of:List SV→Be
 | []=> .nil
 |s::l=> .cons s (Be.of l)
def EL.of:List E→EL
 | []=> .nil
 |s::l=> .cons s (EL.of l)
inductive Af where
 |box (ty:Nat) (g:Bool) (cs:List SV)
 |row (ety sz g:Nat) (x:E) (deep:Bool)
 |bg (g:Nat) (x:E)
 |gd (gs:Gd) (e:Af)
 |dead
 |deep (ety sz:Nat) (l:List DT) (g ep:Nat) (x:E)
 |hol (ety sz:Nat) (l:List DT) (g ep:Nat) (x i:E) (o u:Nat)
inductive Cn where
 |dfd (x:E)
 |agg (x:E) (n:Nat)
 |cells (x:E) (n:Nat)
 |inb (i x:E) (sz:Nat)
 |inbS (i x:E)
 |win (x lo hi:E)
 |winS (x lo hi:E)
 |room (x y:E) (bytes:Nat)
 |roomS (x y:E)
 |mkroom (n:E) (bytes:Nat)
 |nz (x:E)
 |nn (x:E)
 |isref (x:E) (n:Nat)
 |issl (x:E) (sz:Nat)
 |flat (x:E) (n:Nat) (g:Bool)
 |flatS (x:E) (sz:Nat)
 |kinds (x:E) (ks:List SK)
inductive PM where
 |ro
 |bx (own own':List Bool)
 |va (own:List Bool)
 |mu (own:List Bool)
structure FD where
 ch:List PM
 res:List Bool
 ft:List TypeId:= []
 dp:Bool:=false
 wn:Bool:=false
 fz:Bool:=false
 lo:List Bool:= []
structure BB where
 f:Nat→Option FD
 dp:Bool:=false
 wn:Bool:=false
 fz:Bool:=false
instance:CoeFun BB (fun _=>Nat→Option FD):=⟨BB.f⟩
structure uY where
 fn:Nat ⊕ E
 args:List E
structure AO where
 cd:List Cn:= []
 call:Option uY:=none
 bq:Option E:=none
 val:SV:= .undef
 bb:List (Nat × Af):= []
def Ku (t:Nat):Bool:=decide (t<100000)&&(t % 1000==0||decide (500≤t % 1000))
structure St where
 sl:List SV
 hp:List (Nat × Af)
 nx:Nat
 nv:Nat
section
variable (P:Program)
def Ak (t:TypeId):Bool:=match P.underlying t with|some (.struct _)=>true|some (.array _ _)=>true|_=>false
def Gk (t:TypeId):Bool:=match P.info? t with
 |some i=>(match i.zero with|some z=>z.cells.size==i.size&&i.size !=0|none=>false)
 |none=>false
def CA (t:TypeId):Bool:=(P.info? t).isSome&&(P.underlying t).isSome
def Ss:Nat→TypeId→List TypeId
 |0,t=> [t]
 |n+1,t=>match P.underlying t with
  |some (.struct fs)=>fs.toList.flatMap fun f=>Ss n f.type
  |some (.array k e)=>(List.replicate k (Ss n e)).flatten
  |_=> [t]
def A0 (t:TypeId):List TypeId:=Ss P 6 t
def BH (t:TypeId):Bool:=(A0 P t).all fun u=>match P.underlying u with|some (.int _)=>true|some .bool=>true|some .string=>true|_=>false
def Cf (t:TypeId):Option TypeId:=match P.underlying t with|some (.slice e)=>some e|_=>none
def S8:Nat→TypeId→Option DT
 |0,_=>none
 |n+1,t=>match P.underlying t with
  |some (.int _)=>some .flat
  |some .bool=>some .flat
  |some .string=>some .flat
  |some (.slice e)=>if P.cellsOf e=0∨(A0 P e).length≠P.cellsOf e then none else((A0 P e).mapM (S8 n)).map fun l=> .row e (P.cellsOf e) (AF.of l)
  |_=>none
def De (t:TypeId):Option DT:=if iE t then none else S8 P 8 t
end
def DU:Value→Option SV
 | .int k n=>if k.wrap n=n then some (.e (.int k n))else none
 | .bool b=>some (.e (.bool b))
 | .string s=>if s.size≤9223372036854775807 then some (.e (.str s))else none
 | .slice none 0 0=>some .bp
 | .pointer none=>some (.e .dd)
 | .agg cs=>go cs.toList>>=fun l=>some (.agg (Be.of l))
 |_=>none
where
 go:List Value→Option (List SV)
 | []=>some []
 | .int k n::l=>if k.wrap n=n then(go l).map (.e (.int k n):: ·)else none
 | .bool b::l=>(go l).map (.e (.bool b):: ·)
 | .string s::l=>if s.size≤9223372036854775807 then(go l).map (.e (.str s):: ·)else none
 | .slice none 0 0::l=>(go l).map (.bp:: ·)
 | .pointer none::l=>(go l).map (.e .dd:: ·)
 |_=>none
def LQ (g:E × Bool) (gs:Gd):Bool:=gs.any fun h=>h.1.beq g.1&&h.2==g.2
def Jt (hs gs:Gd):Bool:=hs.all fun h=>LQ h gs
def ungd (gs:Gd):SV→Option SV
 | .gd hs s=>if Jt hs gs then some s else none
 | .undef=>none
 |s=>some s
def Ju (gs:Gd):Af→Option Af
 | .gd hs e=>if Jt hs gs then some e else none
 |e=>some e
def mkGd (gs:Gd) (s:SV):SV:=match gs with| []=>s|_=> .gd gs s
def B9 (gs:Gd) (e:Af):Af:=match gs with| []=>e|_=> .gd gs e
section
variable (hp:Nat→Option Af) (gs:Gd)
def Cs (t:Nat):Option Af:=(hp t).bind (Ju gs)
def Gh (t g:Nat):Option E:=match Cs hp gs t with
 |some (.row _ _ g' x _)=>if g=g' then some x else none
 |some (.bg g' x)=>if g=g' then some x else none
 |some (.deep _ _ _ g' _ x)=>if g=g' then some x else none
 |_=>none
def Kt (t n:Nat):Bool:=match Cs hp gs t with
 |some (.deep _ _ _ _ ep _)=>n==ep
 |_=>false
mutual
def A9:Nat→SV→Option E
 |0,_=>none
 |n+1,s=>match s with
  | .undef=>none
  | .e x=>some x
  | .bp=>some (.lst .nil)
  | .emp=>some (.lst .nil)
  | .own t g=>Gh hp gs t g
  | .bz t 0=>match Cs hp gs t with
   |some (.box _ _ cs)=>(BQ n cs).map fun l=> .ref (.mk l)
   |_=>none
  | .bz .. =>none
  | .cg .. =>none
  | .cz .. =>none
  | .cx x 0=>some x
  | .cx .. =>none
  | .agg cs=>(BQ n cs.toList).map .mk
  | .tup cs=>(BQ n cs.toList).map .tup
  | .fn f cs=>(BQ n cs.toList).map (.fn f)
  | .gd hs s=>if Jt hs gs then A9 n s else none
  | .via t _ m _ x=>if Kt hp gs t m then some x else none
  | .vptr .. =>none
  | .wown t g lo z=>match Cs hp gs t with
   |some (.row _ z' g' x _)=>if g=g'∧z=z' then some (.win x lo (.len x))else none
   |_=>none
  | .lent _=>none
def BQ:Nat→List SV→Option EL
 |0,_=>none
 |_+1, []=>some .nil
 |n+1,s::l=>match A9 n s,BQ n l with
  |some x,some xs=>some (.cons x xs)
  |_,_=>none
end
def Bt:Nat→List SV→List Nat
 |0,_=> []
 |_+1, []=> []
 |n+1,s::l=>(match s with
  | .own t _=> [t]
  | .cg t .. => [t]
  | .bz t _=>t::(match Cs hp gs t with|some (.box _ _ cs)=>Bt n cs|_=> [])
  | .agg cs=>Bt n cs.toList
  | .tup cs=>Bt n cs.toList
  | .fn _ cs=>Bt n cs.toList
  | .gd _ s=>Bt n [s]
  | .via t .. => [t]
  | .vptr t .. => [t]
  | .wown t .. => [t]
  |_=> [])++Bt n l
end
def AK:Nat:=200
def CN (hp:Nat→Option Af) (gs:Gd) (ts:List Nat):Option (List (Nat × Af)):=
 match ts with
 | []=>some []
 |t::ts=>match Cs hp gs t,CN hp gs ts with
  |some (.row _ _ g x _),some l=>if gs.isEmpty then some ((t, .bg g x)::l)else none
  |some (.deep _ _ _ g _ x),some l=>if gs.isEmpty then some ((t, .bg g x)::l)else none
  |some (.bg ..),some l=>some l
  |some (.box ..),some l=>some l
  |_,_=>none
def Kq (hp:Nat→Option Af) (gs:Gd) (ts:List Nat):Bool:= !ts.any fun t=>match Cs hp gs t with|some (.box ..)=>true|_=>false
def dN (P:Program) (t:TypeId) (x:E):Cn:=if Ak P t then .agg x (P.cellsOf t)else .cells x 1
def SI (P:Program) (hp:Nat→Option Af) (gs:Gd) (t:TypeId) (s:SV):Option (E × List (Nat × Af) × Bool × List Cn):=
 match A9 hp gs AK s with
 |none=>none
 |some x=>
  if BH P t then some (x, [],true, [.flat x (P.cellsOf t) (Ak P t)])else
  if Kq hp gs (Bt hp gs (AK+1) [s])then
   match CN hp gs (Bt hp gs (AK+1) [s])with
   |none=>none
   |some l=>some (x,l,false, [dN P t x])
  else none
def Qc:E→Bool
 | .int .. =>true
 | .bool _=>true
 | .str _=>true
 |_=>false
def W1 (hp:Nat→Option Af) (gs:Gd) (d:DT) (s:SV):Option (List Nat × List Cn):=
 match d,s with
 | .flat, .e x=>some ([],if Qc x then []else [.flat x 1 false])
 | .row _ z l, .bp=>if 0<z∧l.toList.length=z then some ([], [])else none
 | .row _ z l, .emp=>if 0<z∧l.toList.length=z then some ([], [])else none
 | .row e z l, .own u g=>(match Cs hp gs u with
  |some (.deep e' z' l' g' _ _)=>if g=g'∧e=e'∧z=z'∧(AF.of l').beq l then some ([u], [])else none
  |some (.row e' z' g' _ true)=>if g=g'∧e=e'∧z=z'∧l.toList.all DT.bh∧l.toList.length=z then some ([u], [])else none
  |_=>none)
 |_,_=>none
def Ko (hp:Nat→Option Af) (gs:Gd):List DT→List SV→Option (List Nat × List Cn)
 | [], []=>some ([], [])
 |d::ds,s::ss=>match W1 hp gs d s,Ko hp gs ds ss with
  |some (us,ck),some (vs,cks)=>some (us++vs,ck++cks)
  |_,_=>none
 |_,_=>none
def FQ:SV→List SV × Bool
 | .agg cs=>(cs.toList,true)
 |s=>([s],false)
def Nc (P:Program) (hp:Nat→Option Af) (gs:Gd) (t:TypeId) (ds:List DT) (s:SV):Option (E × List Nat × List Cn):=
 match A9 hp gs AK s with
 |none=>none
 |some x=>
  if ds.all DT.bh then some (x, [], [.flat x (P.cellsOf t) (Ak P t)])else
  if(FQ s).2 !=Ak P t then none else(Ko hp gs ds (FQ s).1).map fun r=>(x,r.1,r.2)
def Pq (P:Program) (hp:Nat→Option Af) (gs:Gd) (e:TypeId) (ds:List DT):List SV→Option (List E × List Nat × List Cn)
 | []=>some ([], [], [])
 |s::ss=>match Nc P hp gs e ds s,Pq P hp gs e ds ss with
  |some (x,us,ck),some (xs,vs,cks)=>some (x::xs,us++vs,ck++cks)
  |_,_=>none
def Jl:List Nat→Bool
 | []=>true
 |x::l=> !l.contains x&&Jl l
def D5 (l:List Nat):List (Nat × Af):=l.map fun u=>(u,Af.dead)
def PR (hp:Nat→Option Af) (gs:Gd) (e z:Nat) (l:List DT) (s:SV):Option (List Nat):=
 match s with
 | .bp=>some []
 | .emp=>some []
 | .own u g=>(match Cs hp gs u with
  |some (.deep e' z' l' g' _ _)=>if g=g'∧e=e'∧z=z'∧(AF.of l').beq (AF.of l)then some [u]else none
  |_=>none)
 |_=>none
def M0 (P:Program) (t:TypeId) (s:SV):Option (List SV × List Cn):=
 if Ak P t then
  match s with
  | .agg cs=>some (cs.toList, [])
  | .e x=>some ((List.range (P.cellsOf t)).map fun j=> .e (.fld x j 1 false), [.agg x (P.cellsOf t)])
  |_=>none
 else match s with
  | .e x=>some ([s],match x with| .int .. => []| .bool _=> []| .str _=> []| .dd=> []|x=> [.cells x 1])
  | .agg _=>none
  | .tup _=>none
  | .undef=>none
  | .gd .. =>none
  | .via .. =>none
  | .vptr .. =>none
  | .wown .. =>none
  | .lent _=>none
  |s=>some ([s], [])
def LU (P:Program) (t:TypeId) (cs:List SV) (o:Nat):Option SV:=
 if Ak P t then(if o+P.cellsOf t≤cs.length then some (.agg (Be.of ((cs.drop o).take (P.cellsOf t))))else none)else cs[o]?
def Nk (cs:List SV) (o:Nat) (vs:List SV):List SV:=cs.take o++vs++cs.drop (o+vs.length)
def BL:E→Option IntKind
 | .int k _=>some k
 | .len _=>some .i64
 | .slen _=>some .i64
 | .conv k _=>some k
 | .bin .add a _=>BL a
 | .bin .sub a _=>BL a
 | .bin .mul a _=>BL a
 |_=>none
def MN:E→Bool
 | .bin op a b=>match op with
  | .add| .sub| .mul| .eql| .neq| .lss| .leq| .gtr| .geq=> !((BL a).isSome&&BL a==BL b)
  |_=>true
 |_=>true
def Bo (sl:Nat→SV) (gs:Gd):Operand→Option SV
 | .tmp t=>ungd gs (sl t)
 | .const v=>DU v
 | .func f=>some (.fn f .nil)
 | .global _=>none
def Im (P:Program) (t:TypeId):Option TypeId:=if 1000000000≤t then some (t-1000000000)else match P.underlying t with|some (.pointer e)=>some e|_=>none
def Ca (P:Program) (t:TypeId):Bool:= !BH P t
def Na (P:Program) (t e:TypeId) (g ep:Nat) (x:E):Af:=if BH P e then .row e (P.cellsOf e) g x true else match De P t with
 |some (.row e' z l)=> .deep e' z l.toList g ep x
 |_=> .row e (P.cellsOf e) g x false
def B8 (P:Program) (nx:Nat) (mk:Nat→E):Nat→List TypeId→List Bool→List SV × List (Nat × Af)
 |_, [],_=>([], [])
 |j,t::ts,fl=>
  let q:=B8 P nx mk (j+1) ts fl.tail
  match fl.headD false,Cf P t with
  |true,some e=>(.own (nx+j) 0::q.1,(nx+j,Na P t e 0 0 (mk j))::q.2)
  |_,_=>(.e (mk j)::q.1,q.2)
def Gs (P:Program) (t:TypeId) (fl:List Bool):Bool:=(fl.take (A0 P t).length).any id
def CK (x:E) (g:Bool) (j:Nat):E:=if g then .fld x j 1 false else x
def Ly (P:Program) (nx:Nat) (t:TypeId) (fl:List Bool) (x:E):SV × List (Nat × Af):=
 if Gs P t fl then
  let l:=B8 P nx (CK x (Ak P t)) 0 (A0 P t) fl
  (if Ak P t then .agg (Be.of l.1)else l.1.headD .undef,l.2)
 else(.e x, [])
def Kd (P:Program) (nx:Nat):List TypeId→List Bool→E→Nat→List SV × List (Nat × Af)
 | [],_,_,_=>([], [])
 |t::ts,fl,x,i=>
  let p:=Ly P nx t fl (.proj x i);let q:=Kd P (nx+(A0 P t).length) ts (fl.drop (A0 P t).length) x (i+1)
  (p.1::q.1,p.2++q.2)
def SD (P:Program) (t:TypeId):Bool:=match Cf P t with|some e=>BH P e||(De P t).isSome|none=>false
def DJ (P:Program):List TypeId→List Bool→Bool
 | [],_=>false
 |t::ts,fl=>(!(fl.headD false&&SD P t)&&Ca P t)||DJ P ts fl.tail
def Xm (P:Program) (t:TypeId) (fl:List Bool):Bool:=if Gs P t fl then DJ P (A0 P t) fl else Ca P t
def Cv (P:Program):List TypeId→List Bool→Bool
 | [],_=>false
 |t::ts,fl=>Xm P t fl||Cv P ts (fl.drop (A0 P t).length)
end Go.Proofs.YtagokdejdanfcaaGreatDoor
end
section
namespace Go.Proofs.YtagokdejdanfcaaGreatDoor
open Go.ChangeShapes Go.WideShapes Go.ChangeAt Go.RowKit
def FC (P:Program) (t:TypeId) (Q:List AV→Prop):Prop:=
 0<P.cellsOf t∧ ∀(H:Type) (enc:TypeId × Value→H) (w:World) (spare:Nat→Bool) (held:Bool) (fuel:Nat) (cs:List Value) (x:DataW H × List MemPlace),
  DataW.trod enc P w 0 spare held fuel t cs=some x→cs.length=P.cellsOf t∧(∀u∈cs,u.oneCell'=true)∧ ∃xs f,Rd w cs xs f∧Q xs
theorem FC.mono {P:Program} {t:TypeId} {Q R:List AV→Prop} (h:FC P t Q) (hq: ∀xs,Q xs→R xs):FC P t R:=
 ⟨h.1,fun H enc w s hd fuel cs x hx=>by obtain⟨a,b,xs,f,c,d⟩:=h.2 H enc w s hd fuel cs x hx;exact⟨a,b,xs,f,c,hq _ d⟩⟩
theorem sZ {P:Program} {t:TypeId} {k:IntKind} (ht:P.underlying t=some (.int k)) (hc:P.cellsOf t=1):FC P t fun xs=> ∃n,D7 k n∧xs= [.int k n]:=by
 refine⟨by omega,fun H enc w spare held fuel cs x h=> ?_⟩;obtain⟨n,rfl,_,hw⟩:=DataW.trod_int ht h;have hk:D7 k n:=by simp only [Lit.wf,Ac,decide_eq_true_eq]at hw;obtain⟨h1,h2⟩:=hw;unfold D7 IntKind.wrap;cases k<;>simp [IntKind.min,IntKind.max,IntKind.bits,IntKind.signed]at h1 h2 ⊢ <;>(try split)<;>omega
 exact⟨by simp [hc],by simp [Value.oneCell'], [.int k n], [], .int hk .nil,n,hk,rfl⟩
def HW (ag:Bool) (Q:List AV→Prop) (y:AV):Prop:=if ag then∃zs,y= .agg zs∧Q zs else y.cells= [y]∧Q [y]
theorem tP {ag:Bool} {Q:List AV→Prop} {xs:List AV} (hq:Q xs) (h:ag=true∨(xs.length=1∧ ∀y∈xs,y.cells= [y])): ∃y,HW ag Q y∧y.cells=xs:=by
 cases ag with
 |true=>exact⟨.agg xs,by simpa [HW]using hq,rfl⟩
 |false=>
  obtain⟨hl,hy⟩:=h.resolve_left (by simp)
  match xs,hl with
  | [y],_=>exact⟨y,by simpa [HW]using⟨hy y (by simp),hq⟩,hy y (by simp)⟩
theorem n6 {w:World} {v:Value} {x:AV} {f:List Nat} (h:Rd w [v] [x] f) (hv:v.oneCell'=true):x.cells= [x]:=by cases x<;>first|rfl|(cases h;simp [Value.oneCell']at hv)
theorem sT {w:World} {b o sz:Nat} {C:Array Value} {T:TypeId} {fz} (hC:w.heap[b]?=some (.cells C T fz)) (ag:Bool) (Q:List AV→Prop):
  ∀(n i:Nat),(∀k,k<n→ ∃cs y f,Rd w cs y.cells f∧HW ag Q y∧cs.length=sz∧(∀u∈cs,u.oneCell'=true)∧ ∀j v,cs[j]?=some v→w.cell? ⟨b,o+(i+k)*sz+j,none⟩=some v)→
   ∃cs ys f,ys.length=n∧Rd w cs (AH ys) f∧(∀y∈ys,HW ag Q y∧y.cells.length=sz)∧(∀u∈cs,u.oneCell'=true)∧ ∀j v,cs[j]?=some v→C[o+i*sz+j]?=some v:=by
 intro n
 induction n with
 |zero=>exact fun i _=>⟨[], [], [],rfl, .nil,by simp,by simp,by simp⟩
 |succ n ih=>
  intro i h;obtain⟨cs,y,f,h1,h2,h3,h4,h5⟩:=h 0 (by omega);obtain⟨cs',ys,f',g1,g2,g3,g4,g5⟩:=ih (i+1) fun k hk=>by have:=h (k+1) (by omega);rw [show i+(k+1)=i+1+k by omega]at this;exact this
  refine⟨cs++cs',y::ys,f++f',by simp [g1], ?_, ?_, ?_, ?_⟩
  ·have e:AH (y::ys)=y.cells++AH ys:=by simp [AH]
   rw [e];exact h1.app g2
  ·intro z hz;rcases Ad.1 hz with rfl|hz
   ·exact⟨h2,by rw [←h1.len,h3]⟩
   ·exact g3 z hz
  ·intro u hu;rcases Ag.1 hu with hu|hu
   ·exact h4 u hu
   ·exact g4 u hu
  ·intro j v hj;rcases Nat.lt_or_ge j cs.length with hl|hl
   ·rw [List.getElem?_append_left hl]at hj;have:=h5 j v hj;unfold World.cell? at this;rw [hC]at this;simpa using this
   ·rw [List.getElem?_append_right hl]at hj;have:=g5 _ v hj;rw [h3]at this hl;rw [show o+i*sz+j=o+(i+1)*sz+(j-sz) by rw [Nat.add_mul];omega];exact this
theorem pJ {P:Program} {t e:TypeId} {Q:List AV→Prop} (ag:Bool) (ht:P.underlying t=some (.slice e)) (hc:P.cellsOf t=1) (he:FC P e Q) (ha:ag=true∨P.cellsOf e=1):
  FC P t fun xs=> ∃ys,ys.length≤9223372036854775807∧(∀y∈ys,HW ag Q y)∧xs= [.sl ys]:=by
 refine⟨by omega,fun H enc w spare held fuel cs x h=> ?_⟩;have emp: ∀a c,([Value.slice a 0 c]).length=P.cellsOf t∧(∀u∈ [Value.slice a 0 c],u.oneCell'=true)∧ ∃xs f,Rd w [.slice a 0 c] xs f∧ ∃ys,ys.length≤9223372036854775807∧(∀y∈ys,HW ag Q y)∧xs= [.sl ys]:=
  fun a c=>⟨by simp [hc],by simp [Value.oneCell'], [.sl []], [], .dh .nil, [],by simp,by simp,rfl⟩
 rcases DataW.trod_slice ht h with⟨rfl,_⟩|⟨a,len,cap,elems,rest,n,_,rfl,_,_,hl,hm,hlen,A7,_,_⟩
 ·exact emp none 0
 rcases Nat.eq_zero_or_pos len with h0|h0
 ·subst h0;exact emp (some a) cap
 have S9:=he.1;have Ma:a.spot=none:=by have hi:=A7 0 h0;rw [List.getElem?_eq_getElem (by rw [hlen];exact h0),Nat.zero_mul,Zz]at hi;obtain⟨c1,h1,h2⟩:=Aq.1 hi;obtain⟨_,At,BS⟩:=World.cells?_some h1;have h3:=BS 0 S9;rw [List.getElem?_eq_getElem (by rw [At];exact S9),Zz]at h3;exact World.cell?_spot h3
 obtain⟨b,o,s⟩:=a;dsimp only at Ma;subst Ma;have key: ∀i,i<len→ ∃cs y f,Rd w cs y.cells f∧HW ag Q y∧cs.length=P.cellsOf e∧(∀u∈cs,u.oneCell'=true)∧ ∀j v,cs[j]?=some v→w.cell? ⟨b,o+(0+i)*P.cellsOf e+j,none⟩=some v:=by
  intro i AD;have hi:=A7 i AD;rw [List.getElem?_eq_getElem (by rw [hlen];exact AD),ZU]at hi;obtain⟨c1,h1,h2⟩:=Aq.1 hi;obtain⟨Bu,Qz,xs,f,hr,hq⟩:=he.2 _ _ _ _ _ _ _ _ h2;obtain⟨_,At,BS⟩:=World.cells?_some h1;have Cc:ag=true∨(xs.length=1∧ ∀y∈xs,y.cells= [y]):=by
   rcases ha with ha|ha
   ·exact .inl ha
   ·have IM:xs.length=1:=by rw [←hr.len,Bu,ha]
    refine .inr ⟨IM,fun y hy=> ?_⟩;have To:c1.length=1:=by rw [Bu,ha]
    match xs,c1,IM,To with
    | [z], [v],_,_=>obtain rfl:=List.mem_singleton.1 hy;exact n6 hr (Qz v (by simp))
  obtain⟨y,hy,rfl⟩:=tP hq Cc;refine⟨c1,y,f,hr,hy,Bu,Qz,fun j v hj=> ?_⟩;have TR:j<P.cellsOf e:=by
   rw [←At];rcases Nat.lt_or_ge j c1.length with h|h
   ·exact h
   ·rw [List.getElem?_eq_none h]at hj;cases hj
  have h3:=BS j TR;rw [hj,ZU]at h3;rw [Nat.zero_add];exact h3
 obtain⟨C,T,fz,hC⟩: ∃C T fz,w.heap[b]?=some (.cells C T fz):=by
  obtain⟨cs,y,f,_,_,IB,_,At⟩:=key 0 h0;have h3:=At 0 _ (List.getElem?_eq_getElem (by omega));unfold World.cell? at h3;split at h3
  ·next c t fz hh=>exact⟨c,t,fz,hh⟩
  ·cases h3
 obtain⟨cs,ys,f,g1,g2,g3,g4,g5⟩:=sT hC ag Q len 0 key;have Oe:len≤9223372036854775807:=by have:maxLen=9223372036854775807:=(by decide+kernel);omega
 refine⟨by simp [hc],by simp [Value.oneCell'], [.sl ys],b::(f++ []), .dw hC h0 ⟨Oe,hl⟩ g1 (fun y hy=>(g3 y hy).2) S9 (fun j v hj=>by simpa using g5 j v hj) g4 g2 .nil,ys,by omega,fun y hy=>(g3 y hy).1,rfl⟩
inductive Xf (P:Program):List Field→List (List AV→Prop)→Prop where
 |nil:Xf P [] []
 |cons {f fs Q Qs}:FC P f.type Q→Xf P fs Qs→Xf P (f::fs) (Q::Qs)
end Go.Proofs.YtagokdejdanfcaaGreatDoor
end
section
namespace Go.Proofs.YtagokdejdanfcaaGreatDoor
open Go.RowKit
inductive Xt where
 |normal
 |exit (id:Nat)
 |ret
inductive Tr where
 |leaf (x:Xt) (σ:St)
 |ret (r:E)
 |jmp (d:Nat) (es:EL)
 |ite (c:E) (a b:Tr)
 |cd (gs:Gd) (c:Cn) (k:Tr)
 |call (gs:Gd) (f:Nat ⊕ E) (args:EL) (k:Tr)
 |bq (gs:Gd) (x:E) (k:Tr)
 |stuck
 |join (t k:Tr)
 |loop (init:EL) (body k:Tr)
section
variable (P:Program) (sg:BB)
def bZ (t:TypeId):Option SV:=((P.info? t).bind (·.zero)).bind DU
inductive RI where
 |fl (u v e z:Nat) (d:Bool)
 |dp (u v:Nat) (e z:Nat) (l:List DT) (ep:Nat)
def RI.tag:RI→Nat
 | .fl u .. =>u
 | .dp u .. =>u
def LG:Option DT→Nat→Nat→List DT→Bool
 |some (.row e z l),e',z',l'=>e==e'&&z==z'&&(AF.of l').beq l
 |_,_,_,_=>false
def Wt (hp:Nat→Option Af) (gs:Gd) (t:TypeId) (c:SV):Option (Option RI):=
 match Cf P t with
 |none=>none
 |some el=>if P.cellsOf el=0 then none else match c with
  | .bp=>some none
  | .emp=>some none
  | .own u v=>(match Cs hp gs u with
   |some (.row e z v' _ d)=>if v=v'∧e=el∧z=P.cellsOf el∧(BH P el∧d∨BH P el=false∧(De P t).isNone)then some (some (.fl u v e z (BH P el)))else none
   |some (.deep e z l v' ep _)=>if v=v'∧BH P el=false∧LG (De P t) e z l then some (some (.dp u v e z l ep))else none
   |_=>none)
  |_=>none
def Fx (hp:Nat→Option Af) (gs:Gd):List TypeId→List SV→List Bool→Option (List (Option RI) × List Nat)
 | [], [],_=>some ([], [])
 |t::ts,c::cs,fl=>match Fx hp gs ts cs fl.tail with
  |none=>none
  |some (l,us)=>if fl.headD false then(match Wt P hp gs t c with|some r=>some (r::l,us)|none=>none)else some (none::l,Bt hp gs (AK+1) [c]++us)
 |_,_,_=>none
def B0 (l:List (Option RI)):List Nat:=l.filterMap fun r=>r.map RI.tag
inductive PA where
 |box (t:Nat) (g:Bool) (own':List Bool) (ty:Nat) (olds:List Nat)
 |mu (Cj:List (Option RI)) (g:Bool)
 |va (Cj:List Nat)
def Qa (hp:Nat→Option Af) (gs:Gd):List TypeId→List PM→List Bool→List SV→Option (List E × List PA × List Nat × List Nat)
 |_,_,_, []=>some ([], [], [], [])
 |ts,ms,lo,s::ss=>
  match Qa hp gs ts.tail ms.tail lo.tail ss with
  |none=>none
  |some (ys,bs,us,uz)=>
  match ms.headD .ro with
  | .ro=>if lo.headD false&& !ts.isEmpty then(match s with
    | .lent i=>some (.var i::ys,bs,us,uz)
    |s=>(A9 hp gs AK s).map fun x=>(x::ys,bs,us,Bt hp gs (AK+1) [s]++uz))
   else(A9 hp gs AK s).map fun x=>(x::ys,bs,Bt hp gs (AK+1) [s]++us,uz)
  | .bx own own'=>(match ts.head?.bind (Im P),s,gs with
   |some ty, .bz t 0, []=>(match Cs hp gs t with
    |some (.box ty' g cs)=>if ty'≠ty then none else
     (match BQ hp gs AK cs,Fx P hp gs (A0 P ty) cs own with
     |some xs,some (rs,vs)=>some (.ref (.mk xs)::ys, .box t g own' ty (B0 rs)::bs,vs++us,uz)
     |_,_=>none)
    |_=>none)
   |_,_,_=>none)
  | .mu own=>(match ts.head?,gs,A9 hp gs AK s with
   |some t, [],some x=>if(FQ s).2 !=Ak P t then none else(match Fx P hp gs (A0 P t) (FQ s).1 own with
    |some (rs,vs)=>some (x::ys, .mu rs (FQ s).2::bs,vs++us,uz)
    |none=>none)
   |_,_,_=>none)
  | .va own=>(match ts.head?,gs,A9 hp gs AK s with
   |some t, [],some x=>if(FQ s).2 !=Ak P t then none else(match Fx P hp gs (A0 P t) (FQ s).1 own with
    |some (rs,vs)=>some (x::ys, .va (B0 rs)::bs,vs++us,uz)
    |none=>none)
   |_,_,_=>none)
def CI:List PA→List Nat
 | []=> []
 | .box t _ _ _ olds::l=>t::olds++CI l
 | .mu Cj _::l=>B0 Cj++CI l
 | .va Cj::l=>Cj++CI l
def Gt:List PA→Nat
 | []=>0
 | .va _::l=>Gt l
 |_::l=>Gt l+1
def Jj (mk:Nat→E):Nat→List (Option RI)→List (Nat × Af)
 |_, []=> []
 |j,none::rs=>Jj mk (j+1) rs
 |j,some (.fl u v e z d)::rs=>(u, .row e z v (mk j) d)::Jj mk (j+1) rs
 |j,some (.dp u v e z l ep)::rs=>(u, .deep e z l v (ep+1) (mk j))::Jj mk (j+1) rs
def after (r:Nat):Nat→List PA→Nat→List (Nat × Af)
 |_, [],_=> []
 |nx, .box t g own' ty olds::bs,j=>
  let l:=B8 P nx (CK (.proj (.var r) (j+1)) true) 0 (A0 P ty) own'
  D5 olds++((t, .box ty g l.1)::l.2)++after r (nx+(A0 P ty).length) bs (j+1)
 |nx, .mu Cj g::bs,j=>Jj (CK (.proj (.var r) (j+1)) g) 0 Cj++after r nx bs (j+1)
 |nx, .va Cj::bs,j=>D5 Cj++after r nx bs j
def Ig:List PA→Nat
 | []=>0
 | .box _ _ _ ty _::l=>(A0 P ty).length+Ig l
 |_::l=>Ig l
def RI.lent:Option RI→Bool
 |some (.fl _ _ _ _ d)=> !d
 |_=>false
def C6:List PA→Bool
 | []=>false
 | .box _ _ own' ty _::l=>DJ P (A0 P ty) own'||C6 l
 | .mu Cj _::l=>Cj.any RI.lent||C6 l
 |_::l=>C6 l
def P1 (gs:Gd) (l:List (Nat × Af)):List (Nat × Af):=l.map fun(i,e)=>(i,B9 gs e)
def Pz (hp:Nat→Option Af) (gs:Gd) (nv nx f:Nat) (args:List SV):Option AO:=
 match P.funcs[f]?,sg f with
 |some fn,some s=>
  if fn.body.isNone||args.length !=fn.params.size+fn.nfree||fn.nfree<s.ft.length then none else
  match Qa P hp gs (fn.params.toList++s.ft) s.ch s.lo args with
  |none=>none
  |some (es,bs,us,uz)=>
   if !Jl (CI bs)||us.any (fun u=>(CI bs).contains u)||uz.any (fun u=>(CI bs).contains u)then none else
   let ts:=fn.resultTypes.toList;let r:E:=if Gt bs=0 then .var nv else .proj (.var nv) 0;let nl:=(ts.flatMap (A0 P)).length;let unfl:=Cv P ts s.res||C6 P bs;let ba:=after P nv (nx+nl) bs 0
   if 999≤nl+Ig P bs then none else
   if unfl&& !Kq hp gs us then none else
   match(if unfl then CN hp gs us else some [])with
   |none=>none
   |some fz=>
    match ts with
    | [t]=>let p:=Ly P nx t s.res r;some {call:=some ⟨.inl f,es⟩,val:=p.1,bb:=fz++(P1 gs p.2++ba)}
    |_=>let p:=Kd P nx ts s.res r 0;some {call:=some ⟨.inl f,es⟩,val:= .tup (Be.of p.1),bb:=fz++(P1 gs p.2++ba)}
 |_,_=>none
def M1 (hp:Nat→Option Af) (gs:Gd) (nv:Nat) (t:TypeId) (f:E) (args:List SV):Option AO:=
 if Ca P t then none else
 match BQ hp gs AK args with
 |none=>none
 |some es=>some {call:=some ⟨.inr f,go es⟩,val:= .e (.var nv)}
where
 go:EL→List E
 | .nil=> []
 | .cons e es=>e::go es
def cJ (hp:Nat→Option Af) (gs:Gd) (t:TypeId) (s:SV):Option AO:=
 match P.underlying t with
 |some (.slice _)=>(A9 hp gs AK s).map fun x=>{cd:= [.dfd (.len x)],val:= .e (.len x)}
 |some .string=>(A9 hp gs AK s).map fun x=>{cd:= [.dfd (.slen x)],val:= .e (.slen x)}
 |_=>none
def PB (hp:Nat→Option Af) (gs:Gd) (e:TypeId) (x:SV) (y:E):Option (List (Nat × Af) × Bool × Cn):=
 if BH P e then some ([],true, .flatS y (P.cellsOf e))else
 if Kq hp gs (Bt hp gs (AK+1) [x])then(CN hp gs (Bt hp gs (AK+1) [x])).map fun l=>(l,false, .issl y (P.cellsOf e))else none
def R1 (hp:Nat→Option Af) (gs:Gd) (nx:Nat) (ts tx:TypeId) (s x:SV):Option AO:=
 if ts≠tx then none else
 match Cf P ts,De P ts,gs with
 |some e,some (.row e' z l), []=>
  if !Gk P e∨BH P e∨e'≠e∨z≠P.cellsOf e then none else
  (match A9 hp [] AK x,PR hp [] e z l.toList x with
  |some y,some us=>(match s with
   | .own t g=>(match Cs hp [] t with
    |some (.deep e2 z2 l2 g2 _ c)=>if e2=e∧z2=z∧(AF.of l2).beq l∧g=g2∧ !us.contains t then
      some {cd:= [.room c y (P.bytesOf e)],val:= .own nx 0,bb:=(nx, .deep e z l.toList 0 0 (.app c y))::D5 (t::us)}else none
    |_=>none)
   | .emp=>some {cd:= [.room (.lst .nil) y (P.bytesOf e)],val:= .own nx 0,bb:=(nx, .deep e z l.toList 0 0 (.app (.lst .nil) y))::D5 us}
   | .bp=>some {cd:= [.room (.lst .nil) y (P.bytesOf e)],val:= .own nx 0,bb:=(nx, .deep e z l.toList 0 0 (.app (.lst .nil) y))::D5 us}
   |_=>none)
  |_,_=>none)
 |_,_,_=>none
def V9 (hp:Nat→Option Af) (gs:Gd) (nx:Nat) (ts tx:TypeId) (s x:SV):Option AO:=
 if ts≠tx then none else
 match Cf P ts with
 |some e=>
  if !Gk P e then none else
  match A9 hp gs AK x with
  |none=>none
  |some y=>
   match PB P hp gs e x y with
   |none=>none
   |some (fz,d,ck)=>
    match s with
    | .own t g=>(match Cs hp gs t with
     |some (.row e' sz' g' c d')=>if e=e'∧P.cellsOf e=sz'∧g=g'∧gs= []∧ !(fz.map (·.1)).contains t then
       some {cd:= [.room c y (P.bytesOf e),ck],val:= .own t (g+1),bb:=fz++ [(t, .row e (P.cellsOf e) (g+1) (.app c y) (d&&d'))]}else none
     |_=>none)
    | .emp=>some {cd:= [.room (.lst .nil) y (P.bytesOf e),ck],val:= .own nx 0,bb:=fz++ [(nx,B9 gs (.row e (P.cellsOf e) 0 (.app (.lst .nil) y) d))]}
    | .bp=>some {cd:= [.room (.lst .nil) y (P.bytesOf e),ck],val:= .own nx 0,bb:=fz++ [(nx,B9 gs (.row e (P.cellsOf e) 0 (.app (.lst .nil) y) d))]}
    |_=>none
 |_=>none
def Eh (s:SV):Option E:=match s with
 | .e x=>some x
 |_=>none
def Nh:Nat→List Field→Option (List SK)
 |_, []=>some []
 |j,f::fs=>if f.name= "_" ∨f.offset≠j∨ !CA P f.type∨P.cellsOf f.type≠1 then none else match P.underlying f.type,Nh (j+1) fs with
  |some (.int k),some l=>some (.int k::l)
  |some .bool,some l=>some (.bool::l)
  |some .string,some l=>some (.str::l)
  |_,_=>none
def Ng (hp:Nat→Option Af) (gs:Gd) (nv:Nat) (op:BinOp) (t:TypeId) (a b:SV):Option AO:=
 match P.underlying t with
 |some (.slice _)=>(match a,b,op with
  | .bp, .bp, .eql=>some {val:= .e (.bool true)}
  | .bp, .bp, .neq=>some {val:= .e (.bool false)}
  |a, .bp, .eql=>(A9 hp gs AK a).map fun x=>{cd:= [.dfd (.len x)],bq:=some x,val:= .e (.var nv)}
  |a, .bp, .neq=>(A9 hp gs AK a).map fun x=>{cd:= [.dfd (.len x)],bq:=some x,val:= .e (.not (.var nv))}
  |_,_,_=>none)
 |some (.int _)=>(match Eh a,Eh b with
  |some x,some y=>
   let r:E:= .bin op x y;let c1:=if MN r then [Cn.dfd r]else []
   let c2:=match op with| .quo| .rem=> [Cn.nz y]| .shl| .shr=> [Cn.nn y]|_=> []
   some {cd:=c2++c1,val:= .e r}
  |_,_=>none)
 |some .string=>(match Eh a,Eh b with
  |some x,some y=>
   let r:E:= .sbin op x y
   some {cd:=(match op with| .add=> [Cn.roomS x y]|_=> [])++ [.dfd r],val:= .e r}
  |_,_=>none)
 |some .bool=>(match Eh a,Eh b with
  |some x,some y=>some {cd:= [.dfd (.bbin op x y)],val:= .e (.bbin op x y)}
  |_,_=>none)
 |some (.struct fs)=>
  if P.stoodInHeld t||P.eqGuardType P.depth t then none else
  (match Nh P 0 fs.toList,A9 hp gs AK a,A9 hp gs AK b with
  |some ks,some x,some y=>(match op with
   | .eql=>some {cd:= [.kinds x ks, .kinds y ks],val:= .e (.aeq x y)}
   | .neq=>some {cd:= [.kinds x ks, .kinds y ks],val:= .e (.not (.aeq x y))}
   |_=>none)
  |_,_,_=>none)
 |_=>none
def R5 (op:BinOp) (a b:SV):Option AO:=match a,b with
 | .e x, .e y=>some {cd:= [.dfd (.bin op y x)],val:= .e (.ite (.bin op y x) y x)}
 |_,_=>none
def ptrOff (s:SV) (o:Nat):Option SV:=match s with
 | .bz t p=>some (.bz t (p+o))
 | .cg t g i sz p=>some (.cg t g i sz (p+o))
 | .cz x i sz p=>some (.cz x i sz (p+o))
 | .cx x p=>some (.cx x (p+o))
 | .vptr t g m q x i sz p=>some (.vptr t g m q x i sz (p+o))
 |_=>none
def u6 (hp:Nat→Option Af) (gs:Gd) (s:SV):Bool:=match s with
 | .vptr t _ m _ _ _ _ _=>Kt hp gs t m
 |_=>true
def asPtr (s:SV):SV × List Cn:=match s with
 | .e x=>(.cx x 0, [.isref x 0])
 |s=>(s, [])
def bQ (hp:Nat→Option Af) (gs:Gd) (t:TypeId) (a:SV):Option AO:=
 if !CA P t then none else
 match a with
 | .bz b o=>(match Cs hp gs b with
  |some (.box _ _ cs)=>(LU P t cs o).map fun s=>{val:=s}
  |_=>none)
 | .cg b g i sz o=>(match Cs hp gs b with
  |some (.row _ sz' g' c _)=>if g=g'∧sz=sz'∧o+P.cellsOf t≤sz∧(Ak P t∨P.cellsOf t=1)then some {val:= .e (.fld (.idx c i) o (P.cellsOf t) (Ak P t))}else none
  |some (.deep _ sz' l g' ep c)=>if g=g'∧sz=sz'∧o+P.cellsOf t≤sz∧(Ak P t∨P.cellsOf t=1)then
    (if((l.drop o).take (P.cellsOf t)).all DT.bh then some {val:= .e (.fld (.idx c i) o (P.cellsOf t) (Ak P t))}
    else some {val:= .via b g ep (if Ak P t then none else some (i,sz,o)) (.fld (.idx c i) o (P.cellsOf t) (Ak P t))})else none
  |_=>none)
 | .vptr b g m _ x i sz o=>if o+P.cellsOf t≤sz∧(Ak P t∨P.cellsOf t=1)∧Kt hp gs b m then
   (if BH P t then some {cd:= [.flat (.fld (.idx x i) o (P.cellsOf t) (Ak P t)) (P.cellsOf t) (Ak P t)],val:= .e (.fld (.idx x i) o (P.cellsOf t) (Ak P t))}
   else some {val:= .via b g m none (.fld (.idx x i) o (P.cellsOf t) (Ak P t))})else none
 | .cz x i sz o=>if o+P.cellsOf t≤sz∧(Ak P t∨P.cellsOf t=1)then some {val:= .e (.fld (.idx x i) o (P.cellsOf t) (Ak P t))}else none
 | .cx x o=>if Ak P t∨P.cellsOf t=1 then some {cd:= [.isref x (o+P.cellsOf t)],val:= .e (.fld (.deref x) o (P.cellsOf t) (Ak P t))}else none
 |_=>none
def Kc (hp:Nat→Option Af) (gs:Gd) (t:TypeId) (a v:SV):Option AO:=
 match a with
 | .bz b o=>(match Cs hp gs b,M0 P t v with
  |some (.box ty g cs),some (vs,ck)=>if CA P t∧vs.length=P.cellsOf t∧o+vs.length≤cs.length∧gs= []then some {cd:=ck,bb:= [(b, .box ty g (Nk cs o vs))]}else none
  |_,_=>none)
 | .cg b g i sz o=>(match Cs hp gs b with
  |some (.row e sz' g' c d)=>if g=g'∧sz=sz'∧gs= []∧CA P t∧o+P.cellsOf t≤sz∧(Ak P e∨(sz=1∧ !Ak P t))∧(Ak P t∨P.cellsOf t=1)then
    (match SI P hp gs t v with
    |some (x,fz,dx,ck)=>if(fz.map (·.1)).contains b then none else
     some {cd:=ck++(if d&&dx then [.flat (.fld (.idx c i) o (P.cellsOf t) (Ak P t)) (P.cellsOf t) (Ak P t)]else []),bb:=fz++ [(b, .row e sz g (.set c i (.put (.idx c i) o x (Ak P e))) (d&&dx))]}
    |none=>none)else none
  |some (.deep e sz' l g' ep c)=>if g=g'∧sz=sz'∧gs= []∧CA P t∧o+P.cellsOf t≤sz∧(Ak P e∨(sz=1∧ !Ak P t))∧(Ak P t∨P.cellsOf t=1)then
    (match Nc P hp gs t ((l.drop o).take (P.cellsOf t)) v with
    |some (x,us,ck)=>if !Jl us||us.contains b then none else
     some {cd:=ck,bb:=(b, .deep e sz l g (ep+1) (.set c i (.put (.idx c i) o x (Ak P e))))::D5 us}
    |none=>none)else none
  |some (.hol e sz' l g' ep c i' o' _)=>if g=g'∧sz=sz'∧gs= []∧CA P t∧o=o'∧i.beq i'∧o+1≤sz∧P.cellsOf t=1∧ !Ak P t∧(Ak P e∨sz=1)then
    (match Nc P hp gs t ((l.drop o).take 1) v with
    |some (x,us,ck)=>if !Jl us||us.contains b then none else
     some {cd:=ck,bb:=(b, .deep e sz l g (ep+1) (.set c i (.put (.idx c i) o x (Ak P e))))::D5 us}
    |none=>none)else none
  |_=>none)
 |_=>none
def PY (places:List (Nat × Nat)) (tys:List TypeId):List (Nat × SV)→List SV→Option (List SV × List Cn)
 | [],cs=>some (cs, [])
 |(i,s)::ps,cs=>match places[i]?,tys[i]? with
  |some (off,sz),some t=>(match M0 P t s with
   |some (vs,ck)=>if vs.length=sz∧off+vs.length≤cs.length then(PY places tys ps (Nk cs off vs)).map fun r=>(r.1,ck++r.2)else none
   |none=>none)
  |_,_=>none
def aO (t:TypeId) (parts:List (Nat × SV)):Option AO:=
 match P.info? t,P.underlying t with
 |some it,some (.struct fs)=>
  (match it.zero.bind DU,fs.toList.mapM (fun f=>(P.info? f.type).map fun i=>(f.offset,i.size))with
  |some (.agg zs),some places=>(PY P places (fs.toList.map (·.type)) parts zs.toList).map fun r=>{cd:=r.2,val:= .agg (Be.of r.1)}
  |_,_=>none)
 |_,_=>none
def Px (hp:Nat→Option Af) (gs:Gd) (e:TypeId):List SV→Option (List E × List (Nat × Af) × Bool × List Cn)
 | []=>some ([], [],true, [])
 |s::ss=>match SI P hp gs e s,Px hp gs e ss with
  |some (x,fz,d,ck),some (xs,fzs,ds,cks)=>some (x::xs,fz++fzs,d&&ds,ck++cks)
  |_,_=>none
def Vi (hp:Nat→Option Af) (gs:Gd) (nx:Nat) (t:TypeId) (n:Nat) (parts:List (Nat × SV)):Option AO:=
 match Cf P t with
 |some e=>
  if !Gk P e∨ !CA P e∨ !(Ak P e∨P.cellsOf e=1)∨10000<n*P.cellsOf e∨parts.map (·.1)≠List.range n then none else
  match Px P hp gs e (parts.map (·.2))with
  |some (xs,fz,d,ck)=>if gs= []∨fz= []then some {cd:=ck,val:= .own nx 0,bb:=fz++ [(nx,B9 gs (.row e (P.cellsOf e) 0 (.lst (EL.of xs)) d))]}else none
  |none=>none
 |none=>none
def R8 (hp:Nat→Option Af) (gs:Gd) (nx:Nat) (t:TypeId) (n:Nat) (parts:List (Nat × SV)):Option AO:=
 match Cf P t,De P t,gs with
 |some e,some (.row e' z l), []=>
  if !Gk P e∨BH P e∨e'≠e∨z≠P.cellsOf e∨ !CA P e∨ !(Ak P e∨P.cellsOf e=1)∨10000<n*P.cellsOf e∨parts.map (·.1)≠List.range n then none else
  (match Pq P hp [] e l.toList (parts.map (·.2))with
  |some (xs,us,ck)=>if Jl us then some {cd:=ck,val:= .own nx 0,bb:=(nx, .deep e z l.toList 0 0 (.lst (EL.of xs)))::D5 us}else none
  |none=>none)
 |_,_,_=>none
def bN (gs:Gd) (sl:Nat→SV) (c:E) (a b:Operand):Option AO:=
 match c with
 | .bool true=>(Bo sl gs a).map fun s=>{val:=s}
 | .bool false=>(Bo sl gs b).map fun s=>{val:=s}
 |c=>
  match(Bo sl ((c,true)::gs) a).bind Eh,(Bo sl ((c,false)::gs) b).bind Eh with
  |some x,some y=>some {cd:= [.dfd (.not c)],val:= .e (.ite c x y)}
  |_,_=>none
def KB (s:Option SV) (d:E):Option E:=match s with|none=>some d|some (.e y)=>some y|some _=>none
def HO (ev:Operand→Option SV) (y:Option Operand):Option (Option SV):=match y with|none=>some none|some y=>(ev y).map some
def Sm (hp:Nat→Option Af) (gs:Gd) (t:TypeId) (x:SV) (lo hi mx:Option SV):Option AO:=
 match Cf P t,x,mx,gs with
 |some el, .own b g,none, []=>if !CA P el then none else(match Cs hp [] b with
  |some (.row e z g' c d)=>if g≠g'∨e≠el∨z≠P.cellsOf el then none else(match lo,hi with
   |some (.e l),none=>some {cd:= [.win c l (.len c)],val:= .wown b g l z}
   |none,some (.e h)=>some {cd:= [.win c (.int .i64 0) h],val:= .own b (g+1),bb:= [(b, .row e z (g+1) (.win c (.int .i64 0) h) d)]}
   |_,_=>none)
  |_=>none)
 |_,_,_,_=>none
def Wl (hp:Nat→Option Af) (gs:Gd) (t:TypeId) (x:SV):Option AO:=
 match Cf P t,x,gs with
 |some el, .wown b g l z, []=>(match Cs hp [] b with
  |some (.row e z' g' c d)=>if g≠g'∨e≠el∨z≠P.cellsOf el∨z'≠z∨ !Gk P e∨ !(Ak P e∨z=1)then none else
   (match((P.info? e).bind (·.zero)).bind DU with
   |some q=>(match A9 hp [] AK q with
    |some w=>some {cd:= [.win c l (.len c), .dfd (.bin .sub (.len c) l)],bb:= [(b, .row e z g (.app (.win c (.int .i64 0) l) (.rep (.bin .sub (.len c) l) w)) d)]}
    |none=>none)
   |none=>none)
  |_=>none)
 |_,_,_=>none
def Ws (hp:Nat→Option Af) (gs:Gd) (t:TypeId) (x:SV) (lo hi mx:Option SV):Option AO:=
 match A9 hp gs AK x with
 |none=>none
 |some y=>
  match mx with
  |some mm=>(match P.underlying t,hi,mm,lo with
   |some (.slice e),some (.e (.int _ 0)), .e (.int _ 0),none=>if CA P e then some {cd:= [.dfd (.len y)],val:= .emp}else none
   |_,_,_,_=>none)
  |none=>
   (match P.underlying t with
   |some .string=>(match KB lo (.int .i64 0),KB hi (.slen y),x with
    |some l,some h, .e _=>some {cd:= [.winS y l h],val:= .e (.swin y l h)}
    |_,_,_=>none)
   |some (.slice e)=>if !CA P e then none else(match KB lo (.int .i64 0),KB hi (.len y),(if Kq hp gs (Bt hp gs (AK+1) [x])then CN hp gs (Bt hp gs (AK+1) [x])else none)with
    |some l,some h,some fz=>some {cd:= [.issl y (P.cellsOf e), .win y l h],val:= .e (.win y l h),bb:=fz}
    |_,_,_=>none)
   |_=>none)
def Pv (hp:Nat→Option Af) (gs:Gd) (src dst:TypeId) (x:SV):Option AO:=
 match P.underlying src,P.underlying dst with
 |some (.int _),some (.int k)=>(Eh x).map fun y=>{cd:= [.dfd (.conv k y)],val:= .e (.conv k y)}
 |some .string,some .string=>(Eh x).map fun y=>{cd:= [.dfd (.slen y)],val:= .e y}
 |some (.slice el),some .string=>(match P.underlying el with|some (.int .u8)=>(A9 hp gs AK x).map fun y=>{cd:= [.dfd (.text y)],val:= .e (.text y)}|_=>none)
 |_,_=>none
def Sl (hp:Nat→Option Af) (gs:Gd) (t:TypeId) (x i:SV):Option AO:=
 match P.underlying t,i with
 |some (.slice e), .e k=>if P.cellsOf e=0 then none else(match x with
  | .own b g=>(match Cs hp gs b with
   |some (.row _ sz g' c _)=>if g=g'∧sz=P.cellsOf e then some {cd:= [.inb k c sz],val:= .cg b g k sz 0}else none
   |some (.bg g' c)=>if g=g' then some {cd:= [.inb k c (P.cellsOf e)],val:= .cz c k (P.cellsOf e) 0}else none
   |some (.deep _ sz _ g' _ c)=>if g=g'∧sz=P.cellsOf e then some {cd:= [.inb k c sz],val:= .cg b g k sz 0}else none
   |_=>none)
  | .e y=>some {cd:= [.inb k y (P.cellsOf e)],val:= .cz y k (P.cellsOf e) 0}
  | .via b g m q y=>if Kt hp gs b m then some {cd:= [.inb k y (P.cellsOf e)],val:= .vptr b g m q y k (P.cellsOf e) 0}else none
  |_=>none)
 |some .string, .e k=>(match x with
  | .e y=>some {cd:= [.inbS k y],val:= .e (.sidx y k)}
  |_=>none)
 |_,_=>none
def WV (hp:Nat→Option Af) (gs:Gd) (nx:Nat) (t:TypeId) (n c:SV):Option AO:=
 match Cf P t,n,c with
 |some e, .e x, .e y=>
  if !Gk P e then none else
  if x.beq y then
   match((P.info? e).bind (·.zero)).bind DU with
   |some z=>(A9 hp gs AK z).map fun w=>{cd:= [.mkroom x (P.bytesOf e)],val:= .own nx 0,bb:= [(nx,B9 gs (.row e (P.cellsOf e) 0 (.rep x w) true))]}
   |none=>none
  else match x with
   | .int _ 0=>some {cd:= [.mkroom y (P.bytesOf e)],val:= .own nx 0,bb:= [(nx,B9 gs (.row e (P.cellsOf e) 0 (.lst .nil) true))]}
   |_=>none
 |_,_,_=>none
def dA:DT→SV→Bool
 | .flat, .e x=>Qc x
 | .row _ z l, .bp=>decide (0<z)&&l.toList.length==z
 |_,_=>false
def LJ:List DT→List SV→Bool
 | [], []=>true
 |d::ds,s::ss=>dA d s&&LJ ds ss
 |_,_=>false
def cN (l:List DT) (q:SV):Bool:=match q with
 | .agg cs=>LJ l cs.toList
 | .bp=>LJ l [.bp]
 |_=>false
def Sp (hp:Nat→Option Af) (gs:Gd) (nx:Nat) (t:TypeId) (n c:SV):Option AO:=
 match Cf P t,De P t,n,c with
 |some e,some (.row e' z l), .e x, .e y=>
  if !Gk P e∨BH P e∨e'≠e∨z≠P.cellsOf e∨ !(x.beq y)∨ !gs.isEmpty then none else
   (match((P.info? e).bind (·.zero)).bind DU with
   |some q=>if cN l.toList q then(A9 hp gs AK q).map fun w=>{cd:= [.mkroom x (P.bytesOf e)],val:= .own nx 0,bb:= [(nx, .deep e z l.toList 0 0 (.rep x w))]}else none
   |none=>none)
 |_,_,_,_=>none
def S6 (t:TypeId):Bool:=match P.underlying t with|some .string=>true|_=>false
def Bg (sl:Nat→SV) (hp:Nat→Option Af) (nv nx:Nat) (gs:Gd) (o:Oper):Option AO:=
 let ev:=Bo sl gs
 match o.op with
 | .move x| .assign x=>(ev x).map fun s=>{val:=s}
 | .pick c a b=>(ev c).bind fun s=>match s with| .e c=>bN gs sl c a b|_=>none
 | .alloc t=>((P.info? t).bind (·.zero)).bind fun z=>(bZ P t).bind fun s=>(M0 P t s).bind fun(cs,ck)=>if cs.isEmpty then none else if !ck.isEmpty then none else some {val:= .bz nx 0,bb:= [(nx,B9 gs (.box t (Ak P t) cs))]}
 | .box t x=>(ev x).bind fun s=>(M0 P t s).bind fun(cs,ck)=>if cs.isEmpty then none else some {cd:=ck,val:= .bz nx 0,bb:= [(nx,B9 gs (.box t (Ak P t) cs))]}
 | .build t parts=>(parts.toList.mapM fun(p:Nat × Operand)=>(ev p.2).map fun s=>(p.1,s)).bind fun ps=>aO P t ps
 | .buildSlice t n parts=>(parts.toList.mapM fun(p:Nat × Operand)=>(ev p.2).map fun s=>(p.1,s)).bind fun ps=>if sg.dp&&(R8 P hp gs nx t n ps).isSome then R8 P hp gs nx t n ps else Vi P hp gs nx t n ps
 | .load t a=>(ev a).bind fun s=>(bQ P hp gs t (asPtr s).1).map fun e=>{e with cd:=(asPtr s).2++e.cd}
 | .store t a x=>(ev a).bind fun p=>(ev x).bind fun v=>Kc P hp gs t p v
 | .nilCheck x=>(ev x).bind fun s=>match s with
  | .e y=>some {cd:= [.isref y 0],val:= .cx y 0}
  | .bz t p=>some {val:= .bz t p}
  | .cg t g i sz p=>some {val:= .cg t g i sz p}
  | .cz y i sz p=>some {val:= .cz y i sz p}
  | .cx y p=>some {val:= .cx y p}
  | .vptr t g m q y i sz p=>if Kt hp gs t m then some {val:= .vptr t g m q y i sz p}else none
  |_=>none
 | .binOp op t x y _=>(ev x).bind fun a=>(ev y).bind fun b=>Ng P hp gs nv op t a b
 | .unOp .not _ x=>(ev x).bind fun s=>(Eh s).map fun y=>match y with| .bool b=>{val:= .e (.bool (!b))}|y=>{cd:= [.dfd (.not y)],val:= .e (.not y)}
 | .unOp .neg _ x=>(ev x).bind fun s=>(Eh s).map fun y=>{cd:= [.dfd (.neg y)],val:= .e (.neg y)}
 | .convert src dst x=>(ev x).bind fun s=>Pv P hp gs src dst s
 | .makeFunc (.func f) first caps=>if first.isEmpty then(caps.toList.mapM ev).map fun ss=>{val:= .fn f (Be.of ss)}else none
 | .makeSlice t l c=>(ev l).bind fun n=>(ev c).bind fun m=>if sg.dp&&(Sp P hp gs nx t n m).isSome then Sp P hp gs nx t n m else WV P hp gs nx t n m
 | .slice t x lo hi mx=>(ev x).bind fun s=>(HO ev lo).bind fun l=>(HO ev hi).bind fun h=>(HO ev mx).bind fun m=>if sg.wn&&(Sm P hp gs t s l h m).isSome then Sm P hp gs t s l h m else Ws P hp gs t s l h m
 | .fieldAddr t x f=>(ev x).bind fun s=>match P.underlying t with
  |some (.struct fs)=>(match fs[f]? with|some fd=>if P.cellsOf fd.type=0∨ !u6 hp gs s then none else(ptrOff (asPtr s).1 fd.offset).map fun v=>{cd:=(asPtr s).2,val:=v}|none=>none)
  |_=>none
 | .field t x f=>(ev x).bind fun s=>match P.underlying t with
  |some (.struct fs)=>(match fs[f]? with
   |some fd=>if !CA P fd.type then none else(match s with
    | .agg cs=>(LU P fd.type cs.toList fd.offset).map fun v=>{val:=v}
    | .e y=>if fd.offset+P.cellsOf fd.type≤P.cellsOf t∧(Ak P fd.type∨P.cellsOf fd.type=1)then some {cd:= [.agg y (P.cellsOf t)],val:= .e (.fld y fd.offset (P.cellsOf fd.type) (Ak P fd.type))}else none
    | .via b g m _ y=>if fd.offset+P.cellsOf fd.type≤P.cellsOf t∧(Ak P fd.type∨P.cellsOf fd.type=1)∧Kt hp gs b m then
      (if BH P fd.type then some {cd:= [.agg y (P.cellsOf t), .flat (.fld y fd.offset (P.cellsOf fd.type) (Ak P fd.type)) (P.cellsOf fd.type) (Ak P fd.type)],val:= .e (.fld y fd.offset (P.cellsOf fd.type) (Ak P fd.type))}
      else some {cd:= [.agg y (P.cellsOf t)],val:= .via b g m none (.fld y fd.offset (P.cellsOf fd.type) (Ak P fd.type))})else none
    |_=>none)
   |none=>none)
  |_=>none
 | .indexAddr t x i=>(ev x).bind fun s=>(ev i).bind fun k=>if S6 P t then none else Sl P hp gs t s k
 | .index t x i=>(ev x).bind fun s=>(ev i).bind fun k=>if S6 P t then Sl P hp gs t s k else none
 | .extract t i=>(ev t).bind fun s=>match s with
  | .tup vs=>(vs.toList[i]?).map fun v=>{val:=v}
  | .e y=>some {cd:= [.dfd (.proj y i)],val:= .e (.proj y i)}
  |_=>none
 | .call c=>match c.callee with
  | .builtin .len=>(match c.args.toList,c.argTypes.toList with| [x], [tx]=>(ev x).bind fun s=>cJ P hp gs tx s|_,_=>none)
  | .builtin .append=>(match c.args.toList,c.argTypes.toList with| [x,y], [tx,ty]=>(ev x).bind fun s=>(ev y).bind fun v=>if sg.dp&&(R1 P hp gs nx tx ty s v).isSome then R1 P hp gs nx tx ty s v else V9 P hp gs nx tx ty s v|_,_=>none)
  | .builtin .clear=>(match c.args.toList,c.argTypes.toList with| [x], [tx]=>(ev x).bind fun s=>Wl P hp gs tx s|_,_=>none)
  | .builtin .max=>(match c.args.toList with| [x,y]=>(ev x).bind fun s=>(ev y).bind fun v=>R5 .gtr s v|_=>none)
  | .builtin .min=>(match c.args.toList with| [x,y]=>(ev x).bind fun s=>(ev y).bind fun v=>R5 .lss s v|_=>none)
  | .builtin _=>none
  | .value f=>(ev f).bind fun s=>(c.args.toList.mapM ev).bind fun as_=>match s with
   | .fn g caps=>Pz P sg hp gs nv nx g (as_++caps.toList)
   | .e y=>M1 P hp gs nv o.type y as_
   | .lent i=>M1 P hp gs nv o.type (.var i) as_
   |_=>none
  |_=>none
 |_=>none
def Pw (hp:Nat→Option Af) (T v m u:Nat) (p:E × Nat × Nat):Option (Af × Af):=
 match Cs hp [] T with
 |some (.deep e z l g ep c)=>if g=v∧ep=m∧p.2.1=z then(match l[p.2.2]? with
   |some (.row e2 z2 l2)=>some (.hol e z l g (ep+1) c p.1 p.2.2 u,if l2.toList.all DT.bh then .row e2 z2 0 (.fld (.idx c p.1) p.2.2 1 false) true else .deep e2 z2 l2.toList 0 0 (.fld (.idx c p.1) p.2.2 1 false))
   |_=>none)else none
 |_=>none
def Ja (sl:Nat→SV) (u:Nat):List Operand→Option (Nat × Nat × Nat × Nat × (E × Nat × Nat) × SV)
 | []=>none
 | .tmp t::l=>(match sl t with
  | .via T v m (some p) _=>some (t,T,v,m,p, .own u 0)
  | .vptr T v m (some p) _ k z q=>some (t,T,v,m,p, .cg u 0 k z q)
  |_=>Ja sl u l)
 |_::l=>Ja sl u l
def rY (o:Oper):Bool:=match o.op with
 | .call c=>(match c.callee with| .builtin .append=>true|_=>false)
 |_=>false
def Je:List (Nat × Af)→Nat→Option Af
 | [],_=>none
 |(t,e)::l,u=>match Je l u with
  |some f=>some f
  |none=>if t=u then some e else none
def PE (h r:Af):Option Af:=match h with
 | .hol e z l g ep c i o _=>(match l[o]?,r with
  |some (.row e2 z2 l2), .row e3 z3 0 x true=>if l2.toList.all DT.bh∧e3=e2∧z3=z2∧l2.toList.length=z2∧(Ak P e∨z=1)then some (.deep e z l g (ep+1) (.set c i (.put (.idx c i) o x (Ak P e))))else none
  |some (.row e2 z2 l2), .deep e3 z3 l3 0 _ x=>if e3=e2∧z3=z2∧(AF.of l3).beq l2∧(Ak P e∨z=1)then some (.deep e z l g (ep+1) (.set c i (.put (.idx c i) o x (Ak P e))))else none
  |_,_=>none)
 |_=>none
def PN (sl:Nat→SV) (hp:Nat→Option Af) (nv nx:Nat) (o:Oper):Option AO:=
 let u:=nx+999
 match Ja sl u o.op.operands.toList with
 |none=>none
 |some (t,T,v,m,p,s)=>(match Pw hp T v m u p with
  |none=>none
  |some (h,r)=>
   (match Bg P sg (fun i=>if i=t then s else sl i) (fun w=>if w=T then some h else if w=u then some r else hp w) nv nx [] o with
   |none=>none
   |some e=>if e.bq.isSome then none else
    if rY o then(match Je e.bb T with|none=>some {e with bb:=(T,h)::(u,r)::e.bb}|some _=>none)else
    (match Je e.bb u,Je e.bb T with
    |some r',none=>(PE P h r').map fun d=>{e with bb:=(T,h)::(u,r)::e.bb++ [(T,d),(u, .dead)]}
    |_,_=>none)))
def aH (l:List (Nat × Af)):List Nat:=l.filterMap fun p=>match p.2 with| .deep .. =>some p.1|_=>none
def HR (dp:Bool) (hp:Nat→Option Af) (gs:Gd) (e:AO):AO:=
 if dp|| !gs.isEmpty||e.call.isNone||e.bq.isSome then e else
 match CN (fun t=>match Je e.bb t with|some f=>some f|none=>hp t) [] (aH e.bb)with
 |some l=>{e with bb:=e.bb++l}
 |none=>e
def HU (fz:Bool) (hp:Nat→Option Af) (gs:Gd) (e:AO):AO:=
 if !fz|| !gs.isEmpty||e.call.isSome||e.bq.isSome|| !e.bb.isEmpty then e else
 match e.val with
 | .via .. =>(match A9 hp [] AK e.val,CN hp [] (Bt hp [] (AK+1) [e.val])with
  |some y,some l=>if Kq hp [] (Bt hp [] (AK+1) [e.val])then{e with val:= .e y,bb:=l}else e
  |_,_=>e)
 |_=>e
def Jm (sl:Nat→SV) (hp:Nat→Option Af) (nv nx:Nat) (gs:Gd) (o:Oper):Option AO:=
 match Bg P sg sl hp nv nx gs o with
 |some e=>some (HU sg.fz hp gs (HR sg.dp hp gs e))
 |none=>match gs with
  | []=>PN P sg sl hp nv nx o
  |_=>none
def Bf (σ:St) (i:Nat):SV:=(σ.sl[i]?).getD .undef
def Av (l:List (Nat × Af)) (t:Nat):Option Af:=match l with| []=>none|(u,e)::l=>if u=t then some e else Av l t
def Jr (l:List (Nat × Af)) (t:Nat) (e:Af):List (Nat × Af):=match l with| []=> [(t,e)]|(u,f)::l=>if u=t then(u,e)::l else(u,f)::Jr l t e
def FT (σ:St) (d:Option Nat) (s:SV):St:=match d with|none=>σ|some d=>{σ with sl:=σ.sl.set d s}
def Kz:SV:= .gd [(.bool false,true)] .bp
def bI (gs:Gd):Bool:=gs.any fun g=>match g.1 with| .bool x=>x !=g.2|_=>false
def LA (σ:St) (ops:Array Oper) (o:Oper):Option (Option Gd):=
 match o.guard with
 |none=>some (some [])
 |some (j,want)=>match(ops[j]?).bind (·.dst)with
  |none=>some none
  |some d=>match Bf σ d with
   | .e (.bool b)=>some (if b==want then some []else none)
   | .e c=>some (some [(c,want)])
   | .gd hs s=>if bI hs then some none else(match s with
    | .e (.bool b)=>some (if b==want then some hs else none)
    | .e c=>some (some ((c,want)::hs))
    |_=>none)
   |_=>none
def Bj:Nat:=1000
def I7 (σ:St) (gs:Gd) (o:Oper) (e:AO):St:=
 let σ':=FT σ o.dst (mkGd gs e.val)
 {σ' with hp:=e.bb.foldl (fun l (t,x)=>Jr l t x) σ'.hp,nv:=if e.call.isSome||e.bq.isSome then σ'.nv+1 else σ'.nv}
def SB (gs:Gd) (e:AO) (k:Tr):Tr:=
 let k:=match e.call with|some c=> .call gs c.fn (EL.of c.args) k|none=>k
 let k:=match e.bq with|some x=> .bq gs x k|none=>k
 e.cd.foldr (fun c k=> .cd gs c k) k
def assumeS (c:E) (b:Bool) (s:SV):SV:=match s with
 | .gd hs s=>if LQ (c, !b) hs then Kz else mkGd (hs.filter fun h=> !(h.1.beq c&&h.2==b)) s
 |s=>s
def assumeE (c:E) (b:Bool) (e:Af):Af:=match e with
 | .gd hs e=>if LQ (c, !b) hs then .dead else(match e with| .gd .. => .dead|e=>B9 (hs.filter fun h=> !(h.1.beq c&&h.2==b)) e)
 |e=>e
def assume (c:E) (b:Bool) (d:Nat) (σ:St):St:=
 {σ with sl:=(σ.sl.map (assumeS c b)).set d (.e (.bool b)),hp:=σ.hp.map fun(t,e)=>(t,assumeE c b e)}
def ZT:SV→List Nat
 | .bz t _=> [t]
 | .cg t .. => [t]
 | .via t .. => [t]
 | .vptr t .. => [t]
 | .wown t .. => [t]
 | .gd _ s=>(match s with| .bz t _=> [t]| .cg t .. => [t]| .via t .. => [t]| .vptr t .. => [t]| .wown t .. => [t]|_=> [])
 |_=> []
def cA:SV→List Nat
 | .via t .. => [t]
 | .vptr t .. => [t]
 | .gd _ s=>(match s with| .via t .. => [t]| .vptr t .. => [t]|_=> [])
 |_=> []
def PJ (σ:St) (gs:Gd) (o:Oper):List Nat:=
 let sv (x:Operand):List SV:=match x with| .tmp t=> [Bf σ t]|_=> []
 match o.op with
 | .move _=> []
 | .assign _=> []
 | .nilCheck x=>(sv x).flatMap cA
 | .fieldAddr _ x _=>(sv x).flatMap cA
 | .extract .. => []
 | .makeFunc .. => []
 | .load _ a=>(sv a).flatMap ZT
 | .store _ a v=>(sv a).flatMap ZT++Bt (Av σ.hp) gs AK (sv v)
 |op=>Bt (Av σ.hp) gs AK (op.operands.toList.flatMap sv)
def Nx (l:List (Nat × Af)) (R:List Nat) (t:Nat):Option Af:=if R.contains t then Av l t else none
structure Log where
 i:Nat
 R:List Nat
 W:List Nat
def Xc (a b:List Nat):Bool:=a.any fun t=>b.contains t
def SE (ops:Array Oper) (o:Oper):List Nat:=
 (o.op.operands.toList.filterMap fun x=>match x with| .tmp t=>some t|_=>none)++(match o.guard with|some (j,_)=>((ops[j]?).bind (·.dst)).toList|none=> [])
def WL (acc:List Nat) (o:Oper):Nat:=o.after.toList.foldl (fun s e=>if Region.binds .any e then s|||2^e.on|||(acc[e.on]?).getD 0 else s) 0
def Ip:List Oper→List Nat→List Nat
 | [],acc=>acc
 |o::os,acc=>Ip os (acc++ [WL acc o])
def Hy (bs:List Nat) (i j:Nat):Bool:=if i<j then((bs[j]?).getD 0).testBit i else((bs[i]?).getD 0).testBit j
def SJ (ops:Array Oper) (l:List Log):Bool:=
 let bs:=Ip ops.toList []
 (l.all fun a=>l.all fun b=>a.i==b.i|| !(Xc a.W (b.R++b.W))||Hy bs a.i b.i)&&
 (ops.toList.zipIdx.all fun(o,j)=>o.after.toList.all fun e=> !Region.binds .any e||decide (e.on<j))&&
 (ops.toList.zipIdx.all fun(o,j)=>ops.toList.zipIdx.all fun(p,i)=>i==j||(match p.dst with
  |some d=>(o.dst !=some d)&&(!(SE ops o).contains d||Hy bs i j)
  |none=>true))
def Cn.sc (n:Nat):Cn→Bool
 | .dfd x=>x.sc n
 | .agg x _=>x.sc n
 | .cells x _=>x.sc n
 | .inb i x _=>i.sc n&&x.sc n
 | .inbS i x=>i.sc n&&x.sc n
 | .win x lo hi=>x.sc n&&lo.sc n&&hi.sc n
 | .winS x lo hi=>x.sc n&&lo.sc n&&hi.sc n
 | .room x y _=>x.sc n&&y.sc n
 | .roomS x y=>x.sc n&&y.sc n
 | .mkroom x _=>x.sc n
 | .nz x=>x.sc n
 | .nn x=>x.sc n
 | .isref x _=>x.sc n
 | .issl x _=>x.sc n
 | .flat x _ _=>x.sc n
 | .flatS x _=>x.sc n
 | .kinds x _=>x.sc n
def Qd (n:Nat) (gs:Gd):Bool:=gs.all fun g=>g.1.sc n
def Nn (n nx:Nat) (hp:List (Nat × Af)) (gs:Gd) (e:AO):Bool:=
 Qd n gs&&e.cd.all (Cn.sc n)&&
 (match e.call with|some c=>(match c.fn with| .inl _=>true| .inr x=>x.sc n)&&c.args.all (E.sc n)|none=>true)&&
 (match e.bq with|some x=>x.sc n&&e.call.isNone|none=>true)&&
 e.bb.all (fun(t,x)=>(nx≤t&&t<nx+Bj&&(gs.isEmpty||(match x with| .gd hs _=>Jt gs hs|_=>false)))||(gs.isEmpty&&(Av hp t).isSome))
mutual
def SV.sc (n:Nat):SV→Bool
 | .undef| .bp| .emp| .own .. | .bz .. =>true
 | .e x=>x.sc n
 | .cg _ _ i _ _=>i.sc n
 | .cz x i _ _=>x.sc n&&i.sc n
 | .cx x _=>x.sc n
 | .via _ _ _ p x=>(match p with|some q=>q.1.sc n|none=>true)&&x.sc n
 | .vptr _ _ _ p x i _ _=>(match p with|some q=>q.1.sc n|none=>true)&&x.sc n&&i.sc n
 | .wown _ _ l _=>l.sc n
 | .lent i=>decide (i<n)
 | .agg cs=>cs.sc n
 | .tup cs=>cs.sc n
 | .fn _ cs=>cs.sc n
 | .gd gs s=>Qd n gs&&s.sc n
def Be.sc (n:Nat):Be→Bool
 | .nil=>true
 | .cons s l=>s.sc n&&l.sc n
end
def Af.sc (n:Nat):Af→Bool
 | .box _ _ cs=>cs.all (SV.sc n)
 | .row _ _ _ x _=>x.sc n
 | .bg _ x=>x.sc n
 | .gd gs e=>Qd n gs&&(match e with| .box _ _ cs=>cs.all (SV.sc n)| .row _ _ _ x _=>x.sc n| .bg _ x=>x.sc n| .deep _ _ _ _ _ x=>x.sc n| .hol _ _ _ _ _ x i _ _=>x.sc n&&i.sc n|_=>true)
 | .deep _ _ _ _ _ x=>x.sc n
 | .hol _ _ _ _ _ x i _ _=>x.sc n&&i.sc n
 | .dead=>true
def St.sc (σ:St):Bool:=σ.sl.all (SV.sc σ.nv)&&σ.hp.all fun(_,e)=>e.sc σ.nv
def iC:SV→Bool
 | .e _=>true
 |_=>false
def cS (ops:Array Oper):Bool:=ops.any fun o=>match o.op with| .panic _=>true|_=>false
def aT (σ:St) (ops:Array Oper):Nat→Oper→Option Nat
 |0,_=>none
 |n+1,o=>match o.guard with
  |none=>none
  |some (j,_)=>match ops[j]? with
   |none=>none
   |some p=>match p.dst with
    |none=>none
    |some d=>if iC (Bf σ d)then some d else aT σ ops n p
def P6 (ops:Array Oper) (draw:Bool) (base:Nat) (next:List Log→St→Option Tr) (i:Nat) (o:Oper) (lg:List Log) (fail:Unit→Option Tr) (σ:St):Option Tr:=
 match LA σ ops o with
 |none=>none
 |some none=>next lg (FT σ o.dst Kz)
 |some (some gs)=>
  let R:=PJ σ gs o
  match Jm P sg (Bf σ) (Nx σ.hp R) σ.nv (base+Bj*i) gs o with
  |some e=>
   if(draw&&e.bq.isSome)|| !Nn σ.nv (base+Bj*i) σ.hp gs e||(!draw&&(e.call.isSome||e.bq.isSome)&& !σ.sc)then none else
   (match next (⟨i,R,e.bb.map (·.1)⟩::lg) (I7 σ gs o e)with
   |none=>none
   |some k=>some (SB gs e k))
  |none=>fail ()
def P7 (ops:Array Oper) (draw:Bool) (base:Nat) (next:List Log→St→Option Tr) (i:Nat) (o:Oper) (lg:List Log):Nat→St→Option Tr
 |0,σ=>P6 P sg ops draw base next i o lg (fun _=>none) σ
 |n+1,σ=>P6 P sg ops draw base next i o lg (fun _=>
  match draw,aT σ ops 8 o with
  |false,some d=>(match Bf σ d with
   | .e c=>(match P7 ops draw base next i o lg n (assume c true d σ),P7 ops draw base next i o lg n (assume c false d σ)with
    |some k1,some k0=>some (.ite c k1 k0)
    |_,_=>none)
   |_=>none)
  |_,_=>none) σ
def Jp (ops:Array Oper) (draw:Bool) (base:Nat):List Nat→List Log→St→Option Tr
 | [],lg,σ=>if draw&& !SJ ops lg then none else some (.leaf .normal {σ with nx:=base+Bj*ops.size})
 |i::is,lg,σ=>
  match ops[i]? with
  |none=>none
  |some o=>P7 P sg ops draw base (fun lg σ=>Jp ops draw base is lg σ) i o lg 4 σ
end
def bit (i:Nat):Nat:=1<<<i
def FO (l d:Nat):Nat:=l^^^(l&&&d)
def Ds:List Operand→Nat
 | []=>0
 | .tmp t::l=>bit t|||Ds l
 |_::l=>Ds l
def pA (ops:Array Oper) (l:Nat):Nat:=
 let r:=ops.toList.foldl (fun(acc:Nat × Nat) o=>
  let u:=Ds o.op.operands.toList
  (acc.1|||FO u acc.2,match o.dst,o.guard with|some d,none=>acc.2|||bit d|_,_=>acc.2)) (0,0)
 r.1|||FO l r.2
def BK (rs:Nat):Code→List (Nat × Nat)→Nat→Nat
 | .skip,_,l=>l
 | .region _ ops _,_,l=>pA ops l
 | .seq a b,ex,l=>BK rs a ex (BK rs b ex l)
 | .cond c a b,ex,l=>Ds [c]|||BK rs a ex l|||BK rs b ex l
 | .block id b,ex,l=>BK rs b ((id,l)::ex) l
 | .loop b,ex,l=>let l1:=BK rs b ex 0;BK rs b ex l1|||l1
 | .exit id,ex,_=>(ex.lookup id).getD 0
 | .scope b,ex,l=>BK rs b ex l
 | .label _,_,l=>l
 | .ret,_,_=>rs
 |_,_,_=>0
def Tr.cu:Tr→List St
 | .leaf .normal σ=> [σ]
 | .leaf _ _=> []
 | .ret _=> []
 | .stuck=> []
 | .jmp .. => []
 | .ite _ a b=>a.cu++b.cu
 | .cd _ _ k=>k.cu
 | .call _ _ _ k=>k.cu
 | .bq _ _ k=>k.cu
 | .join t k=>t.cu++k.cu
 | .loop _ b k=>b.cu++k.cu
def Tr.dg (id:Nat):Tr→List St
 | .leaf (.exit j) σ=>if j=id then [σ]else []
 | .leaf _ _=> []
 | .ret _=> []
 | .stuck=> []
 | .jmp .. => []
 | .ite _ a b=>a.dg id++b.dg id
 | .cd _ _ k=>k.dg id
 | .call _ _ _ k=>k.dg id
 | .bq _ _ k=>k.dg id
 | .join t k=>t.dg id++k.dg id
 | .loop _ b k=>b.dg id++k.dg id
def Tr.bw:Tr→Option Nat
 | .leaf (.exit j) _=>some j
 | .leaf _ _=>none
 | .ret _=>none
 | .stuck=>none
 | .jmp .. =>none
 | .ite _ a b=>a.bw<|>b.bw
 | .cd _ _ k=>k.bw
 | .call _ _ _ k=>k.bw
 | .bq _ _ k=>k.bw
 | .join t k=>t.bw<|>k.bw
 | .loop _ b k=>b.bw<|>k.bw
def Tr.sub (f:Nat→Xt→St→Option Tr):Nat→Tr→Option Tr
 |d, .leaf x σ=>f d x σ
 |_, .ret r=>some (.ret r)
 |_, .stuck=>some .stuck
 |_, .jmp i es=>some (.jmp i es)
 |d, .ite c a b=>match a.sub f d,b.sub f d with|some x,some y=>some (.ite c x y)|_,_=>none
 |d, .cd g c k=>(k.sub f d).map (.cd g c)
 |d, .call g h as_ k=>(k.sub f d).map (.call g h as_)
 |d, .bq g x k=>(k.sub f d).map (.bq g x)
 |d, .join t k=>match t.sub f (d+1),k.sub f d with|some x,some y=>some (.join x y)|_,_=>none
 |d, .loop i b k=>match b.sub f (d+2),k.sub f d with|some x,some y=>some (.loop i x y)|_,_=>none
def MW:Nat:=100000
def uP:E→Bool
 | .var i=>MW≤i
 |_=>false
structure Wd where
 hp:List (Nat × Af)
 nx:Nat
 n:Nat
 θ:List (Nat × Nat)
def wE (nv:Nat) (w:Wd) (p y:E):E × Wd:=
 if uP p then(p,w)else if p.sc nv&&p.beq y then(p,w)else(.var (MW+w.n),{w with n:=w.n+1})
def H6 (hp:List (Nat × Af)) (t g:Nat):Bool:=match Av hp t with
 |some (.row _ _ g' _ _)=>g==g'
 |some (.bg g' _)=>g==g'
 |some (.deep _ _ _ g' _ _)=>g==g'
 |_=>false
def s7 (hp:List (Nat × Af)) (t:Nat) (x:E):Option Af:=match Av hp t with
 |some (.row e s _ _ d)=>some (.row e s 0 x d)
 |some (.deep e s l _ _ _)=>some (.deep e s l 0 0 x)
 |_=>none
def GY (leaf:St) (s:SV):Option E:=A9 (Av leaf.hp) [] AK s
def W2:Nat:=1000000000
def Xo (w:Wd) (t t':Nat):Option Wd:=
 match w.θ.lookup t with
 |some u=>if u=t' then some w else none
 |none=>if w.θ.any (·.2==t')then none else some {w with θ:=(t,t')::w.θ}
def Jn (nv:Nat) (w:Wd) (p y:Option E):SV × Wd:=
 match y with
 |none=>(.undef,w)
 |some y=>match p with
  |some p=>let(x,w):=wE nv w p y;(.e x,w)
  |none=>(.e (.var (MW+w.n)),{w with n:=w.n+1})
mutual
def wS (nv:Nat) (pat leaf:St):Nat→Wd→SV→SV→SV × Wd
 |0,w,_,_=>(.undef,w)
 |n+1,w,p,s=>
  match p,s with
  | .undef,_=>(.undef,w)
  | .e x,s=>Jn nv w (some x) (GY leaf s)
  | .bp, .bp=>(.bp,w)
  | .emp, .emp=>(.emp,w)
  | .emp,s=>Jn nv w none (GY leaf s)
  | .bp, .own t' g'=>(match s7 leaf.hp t' (.var (MW+w.n)),H6 leaf.hp t' g' with
   |some e,true=>(match Xo w w.nx t' with
    |some w'=>(.own w.nx 0,{w' with nx:=w.nx+1,n:=w'.n+1,hp:=w'.hp++ [(w.nx,e)]})
    |none=>Jn nv w none (GY leaf s))
   |_,_=>Jn nv w none (GY leaf s))
  | .bp,s=>Jn nv w none (GY leaf s)
  | .own t g, .own t' g'=>
   if !H6 w.hp t g|| !H6 leaf.hp t' g' then(.undef,w)else
   (match Xo w t t' with
   |some w'=>(.own t g,w')
   |none=>Jn nv w none (GY leaf s))
  | .own t g, .bp=>if(w.θ.lookup t).isSome then Jn nv w none (GY leaf s)else(.own t g,{w with θ:=(t,W2+t)::w.θ})
  | .own _ _,s=>Jn nv w none (GY leaf s)
  | .bz t o, .bz t' o'=>if o=o' then(match Xo w t t' with|some w'=>(.bz t o,w')|none=>(.undef,w))else(.undef,w)
  | .agg cs, .agg ds=>let(l,w'):=Me nv pat leaf n w cs.toList ds.toList;(.agg (Be.of l),w')
  | .agg cs,s=>Jn nv w none (GY leaf s)
  | .tup cs, .tup ds=>let(l,w'):=Me nv pat leaf n w cs.toList ds.toList;(.tup (Be.of l),w')
  | .fn f cs, .fn g ds=>if f=g then let(l,w'):=Me nv pat leaf n w cs.toList ds.toList;(.fn f (Be.of l),w')else(.undef,w)
  | .cx x o, .cx y o'=>if o=o'&&x.sc nv&&x.beq y then(p,w)else(.undef,w)
  | .cz x i z o, .cz y j z' o'=>if o=o'&&z=z'&&x.sc nv&&x.beq y&&i.sc nv&&i.beq j then(p,w)else(.undef,w)
  | .lent i, .lent j=>if i==j&&decide (i<nv)then(p,w)else(.undef,w)
  |_,_=>(.undef,w)
def Me (nv:Nat) (pat leaf:St):Nat→Wd→List SV→List SV→List SV × Wd
 |0,w,_,_=>([],w)
 |n+1,w,p::ps,s::ss=>
  let(x,w):=wS nv pat leaf n w p s;let(xs,w):=Me nv pat leaf n w ps ss
  (x::xs,w)
 |_,w,_,_=>([],w)
end
def M5 (nv:Nat) (pat leaf:St):List (Nat × Af)→Wd→List (Nat × Af)→List (Nat × Af) × Wd
 | [],w,acc=>(acc.reverse,w)
 |(t,e)::l,w,acc=>
  match e,(w.θ.lookup t)with
  | .box ty g cs,some t'=>(match Av leaf.hp t' with
   |some (.box ty' _ ds)=>if ty=ty' then
     let w0:=w;let(xs,w):=Me nv pat leaf AK w0 cs ds
     M5 nv pat leaf l w ((t, .box ty g xs)::acc)
    else M5 nv pat leaf l w acc
   |_=>M5 nv pat leaf l w acc)
  | .box ..,none=>M5 nv pat leaf l w acc
  |e,_=>M5 nv pat leaf l w ((t,e)::acc)
def Et (nv:Nat) (leaf:St):List (Nat × Af)→Wd→List (Nat × Af)→List (Nat × Af) × Wd
 | [],w,acc=>(acc.reverse,w)
 |(t,e)::l,w,acc=>
  match e with
  | .row et z g x d=>(match w.θ.lookup t with
   |some t'=>if W2≤t' then(let(x,w):=wE nv w x (.lst .nil);Et nv leaf l w ((t, .row et z g x d)::acc))else(match Av leaf.hp t' with
    |some (.row _ _ _ y d')=>let(x,w):=wE nv w x y;Et nv leaf l w ((t, .row et z g x (d&&d'))::acc)
    |some (.bg _ y)=>let(x,w):=wE nv w x y;Et nv leaf l w ((t, .bg g x)::acc)
    |some (.deep _ _ _ _ _ y)=>let(x,w):=wE nv w x y;Et nv leaf l w ((t, .row et z g x false)::acc)
    |_=>Et nv leaf l w acc)
   |none=>Et nv leaf l w acc)
  | .deep et z dl g ep x=>(match w.θ.lookup t with
   |some t'=>if W2≤t' then(let(x,w):=wE nv w x (.lst .nil);Et nv leaf l w ((t, .deep et z dl g ep x)::acc))else(match Av leaf.hp t' with
    |some (.deep _ _ _ _ _ y)=>let(x,w):=wE nv w x y;Et nv leaf l w ((t, .deep et z dl g ep x)::acc)
    |some (.row _ _ _ y _)=>let(x,w):=wE nv w x y;Et nv leaf l w ((t, .row et z g x false)::acc)
    |some (.bg _ y)=>let(x,w):=wE nv w x y;Et nv leaf l w ((t, .bg g x)::acc)
    |_=>Et nv leaf l w acc)
   |none=>Et nv leaf l w acc)
  | .bg g x=>(match w.θ.lookup t with
   |some t'=>(match Av leaf.hp t' with
    |some (.row _ _ _ y _)=>let(x,w):=wE nv w x y;Et nv leaf l w ((t, .bg g x)::acc)
    |some (.bg _ y)=>let(x,w):=wE nv w x y;Et nv leaf l w ((t, .bg g x)::acc)
    |some (.deep _ _ _ _ _ y)=>let(x,w):=wE nv w x y;Et nv leaf l w ((t, .bg g x)::acc)
    |_=>Et nv leaf l w acc)
   |none=>Et nv leaf l w acc)
  |e=>Et nv leaf l w ((t,e)::acc)
def cZ (nv live:Nat) (pat:St × Nat) (leaf:St):St × Nat:=
 let w0:Wd:={hp:=pat.1.hp,nx:=max pat.1.nx leaf.nx,n:=pat.2,θ:= []}
 let(sl,w):=Me nv pat.1 leaf 2000 w0 (pat.1.sl.zipIdx.map fun(s,i)=>if live.testBit i then s else .undef) leaf.sl;let n0:=w.hp.length;let(hp,w):=M5 nv pat.1 leaf w.hp w [];let hp:=hp++w.hp.drop n0;let(hp,w):=Et nv leaf hp w []
 ({sl,hp,nx:=max w.nx leaf.nx,nv:=pat.1.nv},w.n)
def QK (nv:Nat):E→E
 | .var i=>if MW≤i then .var (nv+(i-MW))else .var i
 |e=>e
mutual
def UG (nv:Nat):SV→SV
 | .e x=> .e (QK nv x)
 | .agg cs=> .agg (S3 nv cs)
 | .tup cs=> .tup (S3 nv cs)
 | .fn f cs=> .fn f (S3 nv cs)
 | .gd _ _=> .undef
 |s=>s
def S3 (nv:Nat):Be→Be
 | .nil=> .nil
 | .cons s l=> .cons (UG nv s) (S3 nv l)
end
def uM (nv:Nat):Af→Af
 | .box ty g cs=> .box ty g (cs.map (UG nv))
 | .row e z g x d=> .row e z g (QK nv x) d
 | .bg g x=> .bg g (QK nv x)
 | .deep e z l g ep x=> .deep e z l g ep (QK nv x)
 |e=>e
def bY (nv:Nat) (p:St × Nat):St:={sl:=p.1.sl.map (UG nv),hp:=p.1.hp.map fun(t,e)=>(t,uM nv e),nx:=p.1.nx,nv:=nv+p.2}
def Hx (nv:Nat) (es:List E) (x y:E):Bool:=
 match x with
 | .var i=>if i<nv then x.beq y else(match es[i-nv]? with|some z=>z.beq y|none=>false)
 |_=>x.sc nv&&x.beq y
section
variable (nv:Nat) (es:List E) (θ:List (Nat × Option Nat)) (pat leaf:St)
mutual
def OJ:Nat→SV→SV→Bool
 |0,_,_=>false
 |n+1,p,s=>
  match p with
  | .undef=>true
  | .e x=>(match GY leaf s with
   |some y=>Hx nv es x y&&(Bt (Av leaf.hp) [] (AK+1) [s]).all fun t'=>θ.all fun(u,v)=>v !=some t'||(match Av pat.hp u with|some (.bg ..)=>true|none=>true|_=>false)
   |none=>false)
  | .bp=>(match s with| .bp=>true|_=>false)
  | .emp=>(match s with| .emp=>true| .bp=>true|_=>false)
  | .own t g=>(match Av pat.hp t with
   |some (.row _ _ g' _ _)=>g==g'&&(match s with
    | .own t' v=>θ.lookup t==some (some t')&&H6 leaf.hp t' v
    | .bp=>θ.lookup t==some none
    |_=>false)
   |some (.bg g' _)=>g==g'&&(match s with
    | .own t' v=>θ.lookup t==some (some t')&&H6 leaf.hp t' v
    |_=>false)
   |some (.deep _ _ _ g' _ _)=>g==g'&&(match s with
    | .own t' v=>θ.lookup t==some (some t')&&H6 leaf.hp t' v
    | .bp=>θ.lookup t==some none
    |_=>false)
   |_=>false)
  | .bz t o=>(match Av pat.hp t with
   |some (.box ..)=>(match s with| .bz t' o'=>o==o'&&θ.lookup t==some (some t')|_=>false)
   |_=>false)
  | .cg .. =>false
  | .cz x i z o=>(match s with| .cz y j z' o'=>z==z'&&o==o'&&x.sc nv&&x.beq y&&i.sc nv&&i.beq j|_=>false)
  | .cx x o=>(match s with| .cx y o'=>o==o'&&x.sc nv&&x.beq y|_=>false)
  | .agg cs=>(match s with| .agg ds=>FB n cs.toList ds.toList|_=>false)
  | .tup cs=>(match s with| .tup ds=>FB n cs.toList ds.toList|_=>false)
  | .fn f cs=>(match s with| .fn g ds=>f==g&&FB n cs.toList ds.toList|_=>false)
  | .gd .. =>false
  | .via .. =>false
  | .vptr .. =>false
  | .wown .. =>false
  | .lent i=>(match s with| .lent j=>i==j&&decide (i<nv)|_=>false)
def FB:Nat→List SV→List SV→Bool
 |0,_,_=>false
 |_+1, [], []=>true
 |n+1,p::ps,s::ss=>OJ n p s&&FB n ps ss
 |_,_,_=>false
end
def Gp (t:Nat) (e:Af):Bool:=
 match e with
 | .box ty g cs=>(match θ.lookup t with
  |some (some t')=>(match Av leaf.hp t' with|some (.box ty' g' ds)=>ty==ty'&&g==g'&&FB nv es θ pat leaf AK cs ds|_=>false)
  |_=>false)
 | .row et z _ x d=>(match θ.lookup t with
  |some (some t')=>(match Av leaf.hp t' with|some (.row et' z' _ y d')=>et==et'&&z==z'&&Hx nv es x y&&(!d||d')|some (.deep et' z' _ _ _ y)=>et==et'&&z==z'&&Hx nv es x y&& !d|_=>false)
  |some none=>Hx nv es x (.lst .nil)&&0<z
  |none=>false)
 | .deep et z dl _ _ x=>(match θ.lookup t with
  |some (some t')=>(match Av leaf.hp t' with|some (.deep et' z' dl' _ _ y)=>et==et'&&z==z'&&(AF.of dl).beq (AF.of dl')&&Hx nv es x y|_=>false)
  |some none=>Hx nv es x (.lst .nil)&&0<z&&dl.length==z
  |none=>false)
 | .bg _ x=>(match θ.lookup t with
  |some (some t')=>(match Av leaf.hp t' with|some (.row _ _ _ y _)=>Hx nv es x y|some (.bg _ y)=>Hx nv es x y|some (.deep _ _ _ _ _ y)=>Hx nv es x y|_=>false)
  |_=>false)
 | .hol .. =>false
 | .gd .. =>false
 | .dead=>true
def Kj:List (Nat × Option Nat)→Bool
 | []=>true
 |(t,some u)::l=>l.all (fun(t',v)=>t !=t'&&v !=some u)&&Kj l
 |(t,none)::l=>l.all (fun(t',_)=>t !=t')&&Kj l
def J2 (t:Nat):Bool:=(match Av pat.hp t with
 |none=>true
 |some .dead=>true
 |some (.bg g _)=>g !=0
 |some (.row _ _ g _ _)=>g !=0||(θ.lookup t==some (some t)&&(match Av leaf.hp t with|some (.row _ _ g' _ _)=>g'==0|_=>false))
 |some (.deep _ _ _ g _ _)=>g !=0||(θ.lookup t==some (some t)&&(match Av leaf.hp t with|some (.deep _ _ _ g' _ _)=>g'==0|_=>false))
 |some (.box ..)=>θ.lookup t==some (some t)&&(match Av leaf.hp t with|some (.box ..)=>true|_=>false)
 |_=>false)
def dG:Bool:=
 pat.nv==nv+es.length&&Kj θ&&pat.sl.length==leaf.sl.length&&FB nv es θ pat leaf 2000 pat.sl leaf.sl&&(pat.hp.all fun(t,e)=>Gp nv es θ pat leaf t e&&decide (t<pat.nx))&&decide (100000≤pat.nx)&&pat.hp.all fun(t,_)=> !Ku t||J2 θ pat leaf t
end
structure In where
 as_:List (Nat × E)
 θ:List (Nat × Option Nat)
def HZ (a:In) (nv:Nat) (x y:E):In:=match x with| .var i=>if i<nv then a else{a with as_:=(i,y)::a.as_}|_=>a
def Xl (a:In) (t:Nat) (t':Option Nat):In:=match a.θ.lookup t with|some _=>a|none=>{a with θ:=(t,t')::a.θ}
mutual
def iB (nv:Nat) (pat leaf:St):Nat→In→SV→SV→In
 |0,a,_,_=>a
 |n+1,a,p,s=>
  match p,s with
  | .e x,s=>(match GY leaf s with|some y=>HZ a nv x y|none=>a)
  | .own t g, .own t' _=>if H6 pat.hp t g then Xl a t (some t')else a
  | .own t g, .bp=>if H6 pat.hp t g then Xl a t none else a
  | .bz t _, .bz t' _=>Xl a t (some t')
  | .agg cs, .agg ds=>KA nv pat leaf n a cs.toList ds.toList
  | .tup cs, .tup ds=>KA nv pat leaf n a cs.toList ds.toList
  | .fn _ cs, .fn _ ds=>KA nv pat leaf n a cs.toList ds.toList
  |_,_=>a
def KA (nv:Nat) (pat leaf:St):Nat→In→List SV→List SV→In
 |0,a,_,_=>a
 |n+1,a,p::ps,s::ss=>KA nv pat leaf n (iB nv pat leaf n a p s) ps ss
 |_,a,_,_=>a
end
def LL (nv:Nat) (pat leaf:St) (Cj:Bool):List (Nat × Af)→In→In
 | [],a=>a
 |(t,e)::l,a=>LL nv pat leaf Cj l (match e,a.θ.lookup t with
  | .box _ _ cs,some (some t')=>if Cj then a else(match Av leaf.hp t' with|some (.box _ _ ds)=>KA nv pat leaf AK a cs ds|_=>a)
  | .row _ _ _ x _,some (some t')=>if Cj then(match Av leaf.hp t' with|some (.row _ _ _ y _)=>HZ a nv x y|some (.bg _ y)=>HZ a nv x y|some (.deep _ _ _ _ _ y)=>HZ a nv x y|_=>a)else a
  | .deep _ _ _ _ _ x,some (some t')=>if Cj then(match Av leaf.hp t' with|some (.deep _ _ _ _ _ y)=>HZ a nv x y|_=>a)else a
  | .deep _ _ _ _ _ x,some none=>if Cj then HZ a nv x (.lst .nil)else a
  | .row _ _ _ x _,some none=>if Cj then HZ a nv x (.lst .nil)else a
  | .bg _ x,some (some t')=>if Cj then(match Av leaf.hp t' with|some (.row _ _ _ y _)=>HZ a nv x y|some (.bg _ y)=>HZ a nv x y|some (.deep _ _ _ _ _ y)=>HZ a nv x y|_=>a)else a
  |_,_=>a)
def Il (nv:Nat) (pat leaf:St):Option (List E):=
 let a:=KA nv pat leaf 2000 ⟨[], []⟩ pat.sl leaf.sl;let a:=LL nv pat leaf false pat.hp a;let a:=LL nv pat leaf true pat.hp a;let es:=(List.range (pat.nv-nv)).map fun j=>(a.as_.lookup (nv+j)).getD (.int .i64 0)
 if dG nv es a.θ pat leaf then some es else none
def bE (nv live:Nat):List St→Option St
 | []=>none
 |σ::ls=>some (bY nv ((σ::ls).foldl (cZ nv live) ({σ with nv:=nv},0)))
section
variable (P:Program) (sg:BB) (rs:Nat)
def PI (run:St→Option Tr) (nv live:Nat) (σ:St):Nat→St × Nat→Option (St × Tr)
 |0,_=>none
 |n+1,p=>
  let pat:=bY nv p
  match run pat with
  |none=>none
  |some t=>
   if t.cu.all fun l=>(Il nv pat l).isSome then some (pat,t)
   else PI run nv live σ n (t.cu.foldl (fun p l=>cZ nv live p (unname nv l)) p)
where
 unname (_:Nat) (l:St):St:=l
def Dt:Code→List (Nat × Nat)→Nat→St→Option Tr
 | .skip,_,_,σ=>some (.leaf .normal σ)
 | .label _,_,_,σ=>some (.leaf .normal σ)
 | .ret,_,_,σ=>some (.leaf .ret σ)
 | .exit id,_,_,σ=>some (.leaf (.exit id) σ)
 | .region _ ops draw,_,_,σ=>if cS ops then some .stuck else if !σ.sc|| !(σ.hp.all fun(t,_)=>decide (t<σ.nx))then none else Jp P sg ops draw σ.nx (List.range ops.size) [] σ
 | .scope b,ex,l,σ=>Dt b ex l σ
 | .cond c a b,ex,l,σ=>
  match Bo (Bf σ) [] c with
  |some (.e (.bool true))=>Dt a ex l σ
  |some (.e (.bool false))=>Dt b ex l σ
  |some (.e x)=>(match Dt a ex l σ,Dt b ex l σ with
   |some ta,some tb=>some (.ite x ta tb)
   |_,_=>none)
  |_=>none
 | .block id b,ex,l,σ=>(Dt b ((id,l)::ex) l σ).bind fun t=>t.sub (fun _ x τ=>some (.leaf (match x with| .exit j=>if j=id then .normal else .exit j|x=>x) τ)) 0
 | .seq a b,ex,l,σ=>
  let lb:=BK rs b ex l
  match Dt a ex lb σ with
  |none=>none
  |some t=>
   match t.cu with
   | []=>some t
   | [τ]=>(match Dt b ex l τ with
    |none=>none
    |some k=>t.sub (fun _ x τ=>some (match x with| .normal=>k|x=> .leaf x τ)) 0)
   |ls=>(match bE σ.nv lb ls with
    |none=>none
    |some pat=>(match Dt b ex l pat with
     |none=>none
     |some k=>(t.sub (fun d x τ=>match x with
       | .normal=>(Il σ.nv pat τ).map fun es=> .jmp d (EL.of es)
       |x=>some (.leaf x τ)) 0).map fun t'=> .join t' k))
 | .loop b,ex,l,σ=>
  let lh:=BK rs (.loop b) ex l
  match PI (fun τ=>Dt b ex lh τ) σ.nv lh σ 6 ({σ with sl:=σ.sl.zipIdx.map fun(s,i)=>if lh.testBit i then s else .undef},0)with
  |none=>none
  |some (pat,t)=>
   match Il σ.nv pat σ with
   |none=>none
   |some i0=>
    match t.bw with
    |none=>(t.sub (fun d x τ=>match x with
      | .normal=>(Il σ.nv pat τ).map fun es=> .jmp d (EL.of es)
      |x=>some (.leaf x τ)) 0).map fun t'=> .loop (EL.of i0) t' (.ret (.int .i64 0))
    |some id=>
     match bE σ.nv ((ex.lookup id).getD 0) (t.dg id)with
     |none=>none
     |some post=>(t.sub (fun d x τ=>match x with
       | .normal=>(Il σ.nv pat τ).map fun es=> .jmp d (EL.of es)
       | .exit j=>if j=id then(Il σ.nv post τ).map fun es=> .jmp (d+1) (EL.of es)else some (.leaf x τ)
       |x=>some (.leaf x τ)) 0).map fun t'=> .loop (EL.of i0) t' (.leaf (.exit id) post)
 |_,_,_,_=>none
end
section
variable (P:Program) (sg:BB)
def Nf (i b:Nat) (t:TypeId) (own:List Bool):Option (SV × List (Nat × Af)):=
 let l:=B8 P (1000*i+b) (CK (.var i) (Ak P t)) 0 (A0 P t) own
 if 400<(A0 P t).length then none else
 if Ak P t then some (.agg (Be.of l.1),l.2)else(match l.1 with| [s]=>some (s,l.2)|_=>none)
def SM (i:Nat) (t:TypeId) (lo:Bool):PM→Option (SV × List (Nat × Af))
 | .ro=>some (if lo then .lent i else .e (.var i), [])
 | .va own=>Nf P i 1 t own
 | .mu own=>Nf P i 500 t own
 | .bx own _=>match Im P t with
  |some ty=>
   let l:=B8 P (1000*i+1) (CK (.deref (.var i)) true) 0 (A0 P ty) own
   if 400<(A0 P ty).length then none else some (.bz (1000*i) 0,(1000*i, .box ty (Ak P ty) l.1)::l.2)
  |none=>none
def Ka:Nat→List TypeId→List PM→List Bool→Option (List SV × List (Nat × Af))
 |_, [],_,_=>some ([], [])
 |i,t::ts,ms,lo=>match SM P i t (lo.headD false) (ms.headD .ro),Ka (i+1) ts ms.tail lo.tail with
  |some (s,l),some (ss,ls)=>some (s::ss,l++ls)
  |_,_=>none
def WS (fn:Func) (s:FD):Option St:=
 match Ka P 0 (fn.params.toList++s.ft) s.ch s.lo with
 |none=>none
 |some (ss,l)=>
  let n:=fn.params.size+fn.nfree;let fr:=(List.range (fn.nfree-s.ft.length)).map fun j=>SV.e (.var (fn.params.size+s.ft.length+j))
  if fn.ntmps<n||99<fn.params.size+s.ft.length||fn.nfree<s.ft.length then none else some {sl:=ss++fr++List.replicate (fn.ntmps-n) .undef,hp:=l,nx:=100000,nv:=n}
def MO (σ:St):ResultVar→Option SV
 | .tmp t=>some (Bf σ t)
 | .cell a ty=>match Bf σ a with
  | .bz b o=>(match Av σ.hp b with|some (.box _ _ cs)=>if CA P ty then LU P ty cs o else none|_=>none)
  |_=>none
def Ji (σ:St):List TypeId→List Bool→List SV→Option (List Nat)
 | [],_, []=>some []
 |t::ts,fl,c::cs=>(match Ji σ ts fl.tail cs with
  |none=>none
  |some l=>match fl.headD false,Cf P t with
   |true,some e=>if P.cellsOf e=0 then none else(match c with
    | .bp=>some l
    | .own u g=>(match Av σ.hp u with
     |some (.row e' z g' _ d)=>if g=g'∧e'=e∧z=P.cellsOf e∧(BH P e∧d∨BH P e=false∧(De P t).isNone)then some (u::l)else none
     |some (.deep e' z dl g' _ _)=>if g=g'∧BH P e=false∧LG (De P t) e' z dl then some (u::l)else none
     |_=>none)
    |_=>none)
   |_,_=>some l)
 |_,_,_=>none
def W0 (σ:St) (t:TypeId) (fl:List Bool) (s:SV):Option (List Nat):=
 if Gs P t fl then
  if Ak P t then(match s with| .agg cs=>Ji P σ (A0 P t) fl cs.toList|_=>none)else Ji P σ (A0 P t) fl [s]
 else some []
def LH (σ:St):List TypeId→List Bool→List SV→Option (List Nat)
 | [],_, []=>some []
 |t::ts,fl,s::ss=>(match W0 P σ t fl s,LH σ ts (fl.drop (A0 P t).length) ss with
  |some a,some b=>some (a++b)
  |_,_=>none)
 |_,_,_=>none
def PX (σ:St) (i:Nat) (mk:Nat→E):Nat→List TypeId→List Bool→Option (List E × List Nat)
 |_, [],_=>some ([], [])
 |j,t::ts,fl=>match PX σ i mk (j+1) ts fl.tail with
  |none=>none
  |some (xs,us)=>match fl.headD false,Cf P t with
   |true,some e=>(match Av σ.hp (1000*i+500+j)with
    |some (.row e' z 0 y d)=>if e'=e∧z=P.cellsOf e∧(BH P e∧d∨BH P e=false∧(De P t).isNone)then some (y::xs,(1000*i+500+j)::us)else none
    |some (.deep e' z dl 0 _ y)=>if BH P e=false∧LG (De P t) e' z dl then some (y::xs,(1000*i+500+j)::us)else none
    |_=>none)
   |_,_=>some (mk j::xs,us)
def PH (σ:St):Nat→List TypeId→List PM→Option (List E × List Nat)
 |_, [],_=>some ([], [])
 |i,t::ts,ms=>match PH σ (i+1) ts ms.tail with
  |none=>none
  |some (xs,us)=>if 99<i then none else match ms.headD .ro with
   | .ro=>some (xs,us)
   | .va _=>some (xs,us)
   | .mu own=>if 400<(A0 P t).length then none else(match PX P σ i (CK (.var i) (Ak P t)) 0 (A0 P t) own with
    |some (es,vs)=>some ((if Ak P t then .mk (EL.of es)else es.headD (.var i))::xs,vs++us)
    |none=>none)
   | .bx _ own'=>(match Im P t,Av σ.hp (1000*i)with
    |some ty,some (.box ty' _ cs)=>if ty'≠ty then none else(match BQ (Av σ.hp) [] AK cs,Ji P σ (A0 P ty) own' cs with
     |some es,some vs=>some (.mk es::xs,(1000*i)::vs++us)
     |_,_=>none)
    |_,_=>none)
def HM (σ:St):List TypeId→List Bool→List SV→List Nat
 |t::ts,fl,c::cs=>(if fl.headD false&&(Cf P t).isSome then []else Bt (Av σ.hp) [] (AK+1) [c])++HM σ ts fl.tail cs
 |_,_,_=> []
def Xh (σ:St) (t:TypeId) (fl:List Bool) (s:SV):List Nat:=
 if Gs P t fl then(if Ak P t then(match s with| .agg cs=>HM P σ (A0 P t) fl cs.toList|_=> [])else HM P σ (A0 P t) fl [s])else Bt (Av σ.hp) [] (AK+1) [s]
def PW (σ:St):List TypeId→List Bool→List SV→List Nat
 |t::ts,fl,s::ss=>Xh P σ t fl s++PW σ ts (fl.drop (A0 P t).length) ss
 |_,_,_=> []
def LP (σ:St):Nat→List TypeId→List PM→List Nat
 |_, [],_=> []
 |i,t::ts,ms=>(match ms.headD .ro,Im P t,Av σ.hp (1000*i)with
  | .bx _ own',some ty,some (.box _ _ cs)=>HM P σ (A0 P ty) own' cs
  |_,_,_=> [])++LP σ (i+1) ts ms.tail
def SW (fn:Func) (s:FD) (σ:St):Option Tr:=
 match fn.results.toList.mapM (MO P σ),PH P σ 0 (fn.params.toList++s.ft) s.ch with
 |some rs,some (bx,us)=>
  match BQ (Av σ.hp) [] AK rs,LH P σ fn.resultTypes.toList s.res rs with
  |some es,some vs=>
   if !Jl (vs++us)||(PW P σ fn.resultTypes.toList s.res rs++LP P σ 0 (fn.params.toList++s.ft) s.ch).any (fun t=>(vs++us).contains t)then none else
   let r:E:=match es with| .cons x .nil=>x|es=> .tup es
   some (.ret (if bx.isEmpty then r else .tup (EL.of (r::bx))))
  |_,_=>none
 |_,_=>none
def bU (fn:Func) (s:FD):Nat:=
 fn.results.toList.foldl (fun l r=>l|||match r with| .tmp t=>bit t| .cell a _=>bit a) 0|||(s.ch.zipIdx.foldl (fun l (m,i)=>match m with| .bx .. =>l|||bit i| .mu _=>l|||bit i|_=>l) 0)
def Qf (f:Nat):Option Tr:=
 match P.funcs[f]?,sg f with
 |some fn,some s=>(match fn.body,WS P fn s with
  |some c,some σ=>(match Dt P {sg with dp:=s.dp,wn:=s.wn,fz:=s.fz} (bU fn s) c [] (bU fn s) σ with
   |some t=>t.sub (fun _ x τ=>match x with| .normal=>SW P fn s τ| .ret=>SW P fn s τ| .exit _=>none) 0
   |none=>none)
  |_,_=>none)
 |_,_=>none
end
def Cy (w:World) (ety sz:Nat) (v:Value) (x:AV) (top N:List Nat):Prop:=
 ∃xs,x= .sl xs∧(∀y∈xs,y.cells.length=sz)∧0<sz∧
  ((xs= []∧(∃a,v= .slice a 0 0)∧top= []∧N= [])∨
   ∃g cap C,v= .slice (some ⟨g,0,none⟩) xs.length cap∧xs.length≤cap∧cap≤maxLen∧w.heap[g]?=some (.cells C ety (0,0))∧C.size=cap*sz∧top= [g]∧(∀u∈C.toList.take (xs.length*sz),u.oneCell'=true)∧Rd w (C.toList.take (xs.length*sz)) (AH xs) N)
theorem Cy.win {w:World} {ety sz:Nat} {q:Option Addr} {n cap:Nat} {x:AV} {top N:List Nat} (h:Cy w ety sz (.slice q n cap) x top N) {k r:Nat} {q':Option Addr} (hk:k≤n) (hq:k<n→ ∃b,q=some ⟨b,0,none⟩∧q'=some ⟨b,k*sz,none⟩∧r=cap-k):
  ∃xs f,x= .sl xs∧xs.length=n∧Rd w [.slice q' (n-k) r] [.sl (xs.drop k)] f∧ ∀b∈f,b∈top∨b∈N:=by
 obtain⟨xs,rfl,h2,h3,⟨rfl,⟨a,hv⟩,rfl,rfl⟩|⟨g,cap',C,hv,h6,h7,h8,h9,rfl,F4,Fb⟩⟩:=h
 ·cases hv;have:k=0:=by omega
  subst this;exact⟨[], [],rfl,rfl,by simpa using Rd.dh .nil,by simp⟩
 ·cases hv;refine⟨xs, ?_⟩;rcases Nat.lt_or_ge k xs.length with AD|Hd
  ·obtain⟨b,hb,rfl,rfl⟩:=hq AD;cases hb;have C4:C.toList.length=cap*sz:=by simpa using h9
   have hmul:xs.length*sz≤cap*sz:=Nat.mul_le_mul_right _ h6;have EF:k*sz≤xs.length*sz:=Nat.mul_le_mul_right _ hk;obtain⟨g1,k1,k2⟩:=Fb.piece (k*sz) ((xs.length-k)*sz);have e1:((AH xs).drop (k*sz)).take ((xs.length-k)*sz)=AH (xs.drop k):=by
    have hf:AH xs=AH (xs.take k)++AH (xs.drop k):=by
     have h0:AH (xs.take k++xs.drop k)=AH (xs.take k)++AH (xs.drop k):=by simp only [AH,List.flatMap_append]
     rw [List.take_append_drop]at h0;exact h0
    have hl: ∀ys:List AV,(∀y∈ys,y.cells.length=sz)→(AH ys).length=ys.length*sz:=by
     intro ys hy
     induction ys with
     |nil=>simp [AH]
     |cons y ys ih=>simp only [AH,List.flatMap_cons,Aj,An]at ih ⊢;rw [hy y (by simp),ih fun z hz=>hy z (by simp [hz]),Nat.add_mul];omega
    rw [hf,List.drop_append,List.drop_eq_nil_of_le (by rw [hl _ fun y hy=>h2 y (List.mem_of_mem_take hy)];simp [Nat.min_eq_left hk]),hl _ fun y hy=>h2 y (List.mem_of_mem_take hy)];simp only [List.length_take,Nat.min_eq_left hk,Nat.sub_self,List.drop_zero,List.nil_append];rw [List.take_of_length_le];rw [hl _ fun y hy=>h2 y (List.mem_of_mem_drop hy)];simp
   rw [e1]at k2;refine⟨_,rfl,rfl,Rd.dw (sz:=sz) h8 (by omega) ⟨by have:maxLen=9223372036854775807:=rfl;omega,by omega⟩ (by simp) (fun y hy=>h2 y (List.mem_of_mem_drop hy)) h3 (fun j u hu=> ?_) (fun u hu=>F4 u (List.mem_of_mem_drop (List.mem_of_mem_take hu))) k2 .nil,fun b hb=> ?_⟩
   ·rw [List.getElem?_take]at hu;split at hu
    ·rw [List.getElem?_drop,List.getElem?_take]at hu;split at hu
     ·simpa using hu
     ·cases hu
    ·cases hu
   ·simp only [List.append_nil,Ad]at hb;rcases hb with rfl|hb
    ·exact .inl (by simp)
    ·exact .inr (k1 b hb)
  ·have e0:xs.length-k=0:=by omega
   rw [e0,List.drop_eq_nil_of_le Hd];exact⟨[],rfl,rfl, .dh .nil,by simp⟩
def Cp (n:Nat) (l:List DT):List DT:=(List.replicate n l).flatten
theorem rQ (n:Nat) (l:List DT):(Cp n l).length=n*l.length:=by
 induction n with
 |zero=>simp [Cp]
 |succ n ih=>simp only [Cp,List.replicate_succ,List.flatten_cons,Aj]at ih ⊢;rw [ih,Nat.add_mul];omega
theorem Lx (n:Nat) (l:List DT):Cp (n+1) l=l++Cp n l:=by simp [Cp,List.replicate_succ]
theorem qT (n m:Nat) (l:List DT):Cp (n+m) l=Cp n l++Cp m l:=by
 induction n with
 |zero=>simp [Cp]
 |succ n ih=>rw [show n+1+m=(n+m)+1 from by omega,Lx,ih,Lx,List.append_assoc]
theorem V5 (n:Nat) {l:List DT} (h:l.all DT.bh=true):(Cp n l).all DT.bh=true:=by
 induction n with
 |zero=>rfl
 |succ n ih=>rw [Lx,List.all_append,h,ih];rfl
mutual
theorem DT.beq_eq: ∀(a b:DT),a.beq b=true→a=b
 | .flat, .flat,_=>rfl
 | .row e z l, .row e' z' l',h=>by simp only [DT.beq,Ac,beq_iff_eq]at h;rw [h.1.1,h.1.2,AF.beq_eq _ _ h.2]
 | .flat, .row ..,h=>by simp [DT.beq]at h
 | .row .., .flat,h=>by simp [DT.beq]at h
theorem AF.beq_eq: ∀(a b:AF),a.beq b=true→a=b
 | .nil, .nil,_=>rfl
 | .cons a as_, .cons b bs,h=>by simp only [AF.beq,Ac]at h;rw [DT.beq_eq _ _ h.1,AF.beq_eq _ _ h.2]
 | .nil, .cons ..,h=>by simp [AF.beq]at h
 | .cons .., .nil,h=>by simp [AF.beq]at h
end
theorem AF.aq (l:List DT):(AF.of l).toList=l:=by induction l<;>simp [AF.of,AF.toList, *]
theorem AF.cj: ∀l:AF,AF.of l.toList=l
 | .nil=>rfl
 | .cons d l=>by simp [AF.toList,AF.of,AF.cj l]
theorem AF.fj {l l':List DT} (h:(AF.of l).beq (AF.of l')=true):l=l':=by have:=congrArg AF.toList (AF.beq_eq _ _ h);simpa [AF.aq]using this
theorem AF.of_eq {l:List DT} {l':AF} (h:(AF.of l).beq l'=true):l=l'.toList:=by have:=congrArg AF.toList (AF.beq_eq _ _ h);simpa [AF.aq]using this
theorem RS {d:Option DT} {e z:Nat} {l:List DT} (h:LG d e z l=true):d=some (.row e z (AF.of l)):=by
 cases d with
 |none=>simp [LG]at h
 |some d=>
  cases d with
  |flat=>simp [LG]at h
  |row e' z' l'=>simp only [LG,Ac,beq_iff_eq]at h;obtain⟨⟨rfl,rfl⟩,h3⟩:=h;rw [AF.of_eq h3,AF.cj]
inductive DC (w:World):List DT→List Value→List AV→List Nat→Prop where
 |nil:DC w [] [] [] []
 |flat {v x ts vs xs N}:Rd w [v] [x] []→DC w ts vs xs N→DC w (.flat::ts) (v::vs) (x::xs) N
 |void {e z l a ts vs xs N}:0<z→l.toList.length=z→DC w ts vs xs N→DC w (.row e z l::ts) (.slice a 0 0::vs) (.sl []::xs) N
 |row {e z l g cap C ys N1 ts vs xs N}:0<z→l.toList.length=z→w.heap[g]?=some (.cells C e (0,0))→ys.length≤cap→cap≤maxLen→C.size=cap*z→(∀y∈ys,y.cells.length=z)→(∀u∈C.toList.take (ys.length*z),u.oneCell'=true)→
   DC w (Cp ys.length l.toList) (C.toList.take (ys.length*z)) (AH ys) N1→DC w ts vs xs N→DC w (.row e z l::ts) (.slice (some ⟨g,0,none⟩) ys.length cap::vs) (.sl ys::xs) (g::(N1++N))
theorem DC.len {w:World} {ts:List DT} {vs:List Value} {xs:List AV} {N:List Nat} (h:DC w ts vs xs N):vs.length=ts.length∧xs.length=ts.length:=by
 induction h with
 |nil=>simp
 |flat _ _ ih=>simp [ih]
 |void _ _ _ ih=>simp [ih]
 |row _ _ _ _ _ _ _ _ _ _ _ ih=>simp [ih]
theorem DC.frame {w w':World} {ts:List DT} {vs:List Value} {xs:List AV} {N:List Nat} (h:DC w ts vs xs N):(∀b∈N,w'.heap[b]?=w.heap[b]?)→DC w' ts vs xs N:=by
 induction h with
 |nil=>exact fun _=> .nil
 |flat a _ ih=>exact fun hf=> .flat (a.frame (by simp)) (ih hf)
 |void a b _ ih=>exact fun hf=> .void a b (ih hf)
 |row h1 h2 h3 h4 h5 h6 h7 h8 _ _ ih1 ih2=>exact fun hf=> .row h1 h2 (by rw [hf _ (by simp)];exact h3) h4 h5 h6 h7 h8 (ih1 fun b m=>hf b (by simp [m])) (ih2 fun b m=>hf b (by simp [m]))
theorem DC.inb {w:World} {ts:List DT} {vs:List Value} {xs:List AV} {N:List Nat} (h:DC w ts vs xs N): ∀b∈N,b<w.heap.size:=by
 induction h with
 |nil=>simp
 |flat _ _ ih=>exact ih
 |void _ _ _ ih=>exact ih
 |row h1 h2 h3 h4 h5 h6 h7 h8 _ _ ih1 ih2=>
  intro b m;simp only [Ad,Ag]at m;rcases m with rfl|m|m
  ·exact Fy h3
  ·exact ih1 b m
  ·exact ih2 b m
theorem DC.app {w:World} {ts us:List DT} {vs ws:List Value} {xs ys:List AV} {N M:List Nat} (h:DC w ts vs xs N) (k:DC w us ws ys M):DC w (ts++us) (vs++ws) (xs++ys) (N++M):=by
 induction h with
 |nil=>exact k
 |flat a _ ih=>exact .flat a ih
 |void a b _ ih=>exact .void a b ih
 |row h1 h2 h3 h4 h5 h6 h7 h8 h9 _ _ ih2=>simp only [List.cons_append,List.append_assoc];exact DC.row h1 h2 h3 h4 h5 h6 h7 h8 h9 ih2
theorem DC.br {w:World} {t:DT} {ts:List DT} {v:Value} {vs:List Value} {x:AV} {xs:List AV} {N:List Nat} (h:DC w (t::ts) (v::vs) (x::xs) N):
  ∃N1 N2,N=N1++N2∧DC w [t] [v] [x] N1∧DC w ts vs xs N2:=by
 cases h with
 |flat a h=>exact⟨[],N,rfl, .flat a .nil,h⟩
 |void a b h=>exact⟨[],N,rfl, .void a b .nil,h⟩
 |row h1 h2 h3 h4 h5 h6 h7 h8 h9 h=>rename_i g cap C ys N1 N2 l;exact⟨_::(_++ []),_,by simp, .row h1 h2 h3 h4 h5 h6 h7 h8 h9 .nil,h⟩
theorem DC.dq {w:World}: ∀{ts us:List DT} {vs ws:List Value} {xs ys:List AV} {N:List Nat},vs.length=ts.length→xs.length=ts.length→DC w (ts++us) (vs++ws) (xs++ys) N→ ∃N1 N2,N=N1++N2∧DC w ts vs xs N1∧DC w us ws ys N2
 | [],us, [],ws, [],ys,N,_,_,h=>⟨[],N,rfl, .nil,h⟩
 |t::ts,us,v::vs,ws,x::xs,ys,N,hl,hk,h=>by obtain⟨f1,f2,rfl,h1,h2⟩:=DC.br h;obtain⟨f3,f4,rfl,h3,h4⟩:=DC.dq (ts:=ts) (vs:=vs) (xs:=xs) (by simpa using hl) (by simpa using hk) h2;exact⟨f1++f3,f4,by simp,h1.app h3,h4⟩
 | [],_,_::_,_,_,_,_,h,_,_=>by simp at h
 | [],_, [],_,_::_,_,_,_,h,_=>by simp at h
 |_::_,_, [],_,_,_,_,h,_,_=>by simp at h
 |_::_,_,_::_,_, [],_,_,_,h,_=>by simp at h
theorem DC.split {w:World} {ts:List DT} {vs:List Value} {xs:List AV} {N:List Nat} (h:DC w ts vs xs N) (p n:Nat):
  ∃N1 N2 N3,N=N1++N2++N3∧DC w (ts.take p) (vs.take p) (xs.take p) N1∧DC w ((ts.drop p).take n) ((vs.drop p).take n) ((xs.drop p).take n) N2∧DC w (ts.drop (p+n)) (vs.drop (p+n)) (xs.drop (p+n)) N3:=by
 obtain⟨l1,l2⟩:=h.len;have h':=h;rw [←List.take_append_drop p ts,←List.take_append_drop p vs,←List.take_append_drop p xs]at h';obtain⟨N1,M,rfl,h1,h2⟩:=DC.dq (by simp [l1]) (by simp [l2]) h';rw [←List.take_append_drop n (ts.drop p),←List.take_append_drop n (vs.drop p),←List.take_append_drop n (xs.drop p)]at h2;obtain⟨N2,N3,rfl,h3,h4⟩:=DC.dq (by simp [l1]) (by simp [l2]) h2;refine⟨N1,N2,N3,by simp,h1,h3, ?_⟩;simpa [List.drop_drop]using h4
theorem DC.rd {w:World} {ts:List DT} {vs:List Value} {xs:List AV} {N:List Nat} (h:DC w ts vs xs N): ∃f,Rd w vs xs f∧ ∀b∈f,b∈N:=by
 induction h with
 |nil=>exact⟨[], .nil,by simp⟩
 |flat a _ ih=>obtain⟨f,h1,h2⟩:=ih;exact⟨[]++f,by simpa using a.app h1,by simpa using h2⟩
 |void _ _ _ ih=>obtain⟨f,h1,h2⟩:=ih;exact⟨f, .dh h1,h2⟩
 | @row e z l g cap C ys N1 ts vs xs N h1 h2 h3 h4 h5 h6 h7 h8 _ _ ih1 ih2=>
  obtain⟨f1,k1,k2⟩:=ih1;obtain⟨f2,k3,k4⟩:=ih2;rcases Nat.eq_zero_or_pos ys.length with h0|h0
  ·have:ys= []:=List.eq_nil_of_length_eq_zero h0;subst this;exact⟨f2, .dh k3,fun b hb=>by simp [k4 b hb]⟩
  ·refine⟨g::(f1++f2),Rd.dw (o:=0) (c:=cap) (cs:=C.toList.take (ys.length*z)) h3 h0 ⟨by have:maxLen=9223372036854775807:=rfl;omega,by omega⟩ rfl h7 h1 (fun j u hu=>by
    rw [Nat.zero_add];rw [List.getElem?_take]at hu;split at hu
    ·simpa using hu
    ·cases hu) h8 k1 k3,fun b hb=> ?_⟩
   simp only [Ad,Ag]at hb ⊢;rcases hb with hb|hb|hb
   ·exact .inl hb
   ·exact .inr (.inl (k2 b hb))
   ·exact .inr (.inr (k4 b hb))
theorem DC.jt {w:World} {ts:List DT} {vs:List Value} {xs:List AV} {N:List Nat} (h:DC w ts vs xs N):ts.all DT.bh=true→N= []:=by
 induction h with
 |nil=>exact fun _=>rfl
 |flat _ _ ih=>exact fun h=>ih (by simpa [DT.bh]using h)
 |void _ _ _ _=>exact fun h=>by simp [DT.bh]at h
 |row _ _ _ _ _ _ _ _ _ _ _ _=>exact fun h=>by simp [DT.bh]at h
theorem DC.ib {w:World} {ts:List DT} {vs:List Value} {xs:List AV} {N:List Nat} (h:DC w ts vs xs N) (ht:ts.all DT.bh=true):Rd w vs xs []:=by
 have hN:=h.jt ht;subst hN;obtain⟨f,h1,h2⟩:=h.rd;have:f= []:=List.eq_nil_iff_forall_not_mem.2 fun b hb=>by simpa using h2 b hb
 rw [this]at h1;exact h1
theorem DC.kf {w:World}: ∀{ts:List DT} {vs:List Value} {xs:List AV},Rd w vs xs []→ts.all DT.bh=true→ts.length=vs.length→DC w ts vs xs []
 | [], [],xs,h,_,_=>by cases h;exact .nil
 | .flat::ts,v::vs,xs,h,ha,hl=>by
  have hx:=h.len
  match xs,hx with
  |x::xs,_=>
   obtain⟨f1,f2,hf,h1,h2⟩:=h.br;obtain⟨rfl,rfl⟩:f1= []∧f2= []:=by simpa using hf.symm
   exact .flat h1 (DC.kf h2 (by simpa [DT.bh]using ha) (by simpa using hl))
 | .row .. ::_,_::_,_,_,ha,_=>by simp [DT.bh]at ha
 | [],_::_,_,_,_,h=>by simp at h
 |_::_, [],_,_,_,h=>by simp at h
theorem DC.inv {w:World} {e z:Nat} {l:AF} {v:Value} {x:AV} {N:List Nat} (h:DC w [.row e z l] [v] [x] N):
  0<z∧l.toList.length=z∧((∃a,v= .slice a 0 0∧x= .sl []∧N= [])∨ ∃g cap C ys N1,v= .slice (some ⟨g,0,none⟩) ys.length cap∧x= .sl ys∧N=g::N1∧w.heap[g]?=some (.cells C e (0,0))∧ys.length≤cap∧cap≤maxLen∧C.size=cap*z∧(∀y∈ys,y.cells.length=z)∧
   (∀u∈C.toList.take (ys.length*z),u.oneCell'=true)∧DC w (Cp ys.length l.toList) (C.toList.take (ys.length*z)) (AH ys) N1):=by
 cases h with
 |void a b h=>cases h;exact⟨a,b, .inl ⟨_,rfl,rfl,rfl⟩⟩
 |row h1 h2 h3 h4 h5 h6 h7 h8 h9 h=>cases h;exact⟨h1,h2, .inr ⟨_,_,_,_,_,rfl,rfl,by simp,h3,h4,h5,h6,h7,h8,h9⟩⟩
theorem DC.jn {w:World} {e z:Nat} {l:AF} {v:Value} {x:AV} {top:List Nat} (h:Cy w e z v x top []) (ha:l.toList.all DT.bh=true) (hl:l.toList.length=z):DC w [.row e z l] [v] [x] top:=by
 obtain⟨xs,rfl,h2,h3,⟨rfl,⟨a,rfl⟩,rfl,_⟩|⟨g,cap,C,rfl,h6,h7,h8,h9,rfl,F4,Fb⟩⟩:=h
 ·exact .void h3 hl .nil
 ·have At:(C.toList.take (xs.length*z)).length=xs.length*z:=by
   have:C.toList.length=cap*z:=by simpa using h9
   rw [List.length_take,this];exact Nat.min_eq_left (Nat.mul_le_mul_right _ h6)
  have:=DC.row (l:=l) h3 hl h8 h6 h7 h9 h2 F4 (DC.kf Fb (V5 _ ha) (by rw [rQ,hl,At])) .nil;simpa using this
theorem DC.kr {w:World} {e z:Nat} {l:AF} {v:Value} {x:AV} {N:List Nat} (h:DC w [.row e z l] [v] [x] N) (ha:l.toList.all DT.bh=true):Cy w e z v x N []:=by
 obtain⟨h1,h2,⟨a,rfl,rfl,rfl⟩|⟨g,cap,C,ys,N1,rfl,rfl,rfl,h3,h4,h5,h6,h7,h8,h9⟩⟩:=h.inv
 ·exact⟨[],rfl,by simp,h1, .inl ⟨rfl,⟨a,rfl⟩,rfl,rfl⟩⟩
 ·have hN:=h9.jt (V5 _ ha);subst hN;exact⟨ys,rfl,h7,h1, .inr ⟨g,cap,C,rfl,h4,h5,h3,h6,rfl,h8,h9.ib (V5 _ ha)⟩⟩
theorem DC.ownRow {w:World} {e z:Nat} {l:AF} {v:Value} {x:AV} {N:List Nat} (h:DC w [.row e z l] [v] [x] N): ∃f,Cy w e z v x (N.take 1) f∧ ∀b∈f,b∈N.drop 1:=by
 obtain⟨h1,h2,⟨a,rfl,rfl,rfl⟩|⟨g,cap,C,ys,N1,rfl,rfl,rfl,h3,h4,h5,h6,h7,h8,h9⟩⟩:=h.inv
 ·exact⟨[],⟨[],rfl,by simp,h1, .inl ⟨rfl,⟨a,rfl⟩,rfl,rfl⟩⟩,by simp⟩
 ·obtain⟨f,k1,k2⟩:=h9.rd;exact⟨f,⟨ys,rfl,h7,h1, .inr ⟨g,cap,C,rfl,h4,h5,h3,h6,rfl,h8,k1⟩⟩,by simpa using k2⟩
theorem DC.head {w:World} {e z:Nat} {l:AF} {v:Value} {x:AV} {N:List Nat} (h:DC w [.row e z l] [v] [x] N): ∃q n r,v= .slice q n r:=by
 obtain⟨_,_,⟨a,rfl,_⟩|⟨g,cap,C,ys,N1,rfl,_⟩⟩:=h.inv
 ·exact⟨_,_,_,rfl⟩
 ·exact⟨_,_,_,rfl⟩
def Src (w:World) (size:Nat) (a:Option Addr) (m:Nat) (news:List Value):Prop:=
 (a=none∧m=0∧news= [])∨ ∃ad,a=some ad∧news.length=m*size∧(∀j u,news[j]?=some u→w.cell? (ad.add j)=some u)∧ ∀u∈news,u.oneCell'=true
theorem Src.mod {w w':World} {size:Nat} {a:Option Addr} {m:Nat} {news:List Value} (h:Src w size a m news) (hm:Mod [] w w'):Src w' size a m news:=by
 rcases h with h|⟨ad,h1,h2,h3,h4⟩
 ·exact Or.inl h
 ·exact Or.inr ⟨ad,h1,h2,fun j u hu=>by have:=h3 j u hu;rw [hm.cell (World.block_lt_of_cell? w _ this) (by simp)];exact this,h4⟩
section
variable {P:Program}
end
theorem Dr.src {α:Type} {T:GT α} {w:World} {a:Option Addr} {n:Nat} {xs:List α} {fp:List Nat} (hs:0<T.size) (h:Dr T w a n xs fp):
  ∃Ls fps,DX T w Ls xs fps∧Src w T.size a n Ls.flatten∧(∀q∈fps.flatten,q∈fp):=by
 cases a with
 |none=>
  rcases h.2 with⟨rfl,_⟩|⟨b,o,fps,ha,_⟩
  ·have:=h.1;simp at this;subst this;exact⟨[], [],⟨rfl,rfl,by simp⟩,Or.inl ⟨rfl,rfl,rfl⟩,by simp⟩
  ·cases ha
 |some ad=>obtain⟨Ls,fps,h1,h2,h3,h4⟩:=h.cells hs;exact⟨Ls,fps,h1,Or.inr ⟨ad,rfl,h4,h2,h1.one⟩,h3⟩
structure dR where
 n:Nat
 K:World→Prop
 mono: ∀{w w':World},(∀b,b<n→w'.heap[b]?=w.heap[b]?)→K w→K w'
def IN:dR:=⟨0,fun _=>True,fun _ h=>h⟩
def Xq (w:World) (Mu:Nat→Prop):Prop:=IN.n≤w.heap.size∧IN.K w∧ ∀b,Mu b→IN.n≤b
end Go.Proofs.YtagokdejdanfcaaGreatDoor
end

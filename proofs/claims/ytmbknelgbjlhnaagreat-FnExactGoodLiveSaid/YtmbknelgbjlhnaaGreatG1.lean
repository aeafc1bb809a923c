/- Parts of a proof, joined: Lib, Op, VA, VB, V1, VC, OA, VD, VE, VF, VGa, Lib2, V0. -/
import Derived.WalkKit
import Derived.WalkLawsBesides
import Derived.WalkSpells
import Derived.Lib.Hide
import Derived.Deep.Quiet
import Derived.ProofKit
import Derived.OpenShut
import Derived.ChangeOld
import Derived.Below
set_option linter.unusedVariables false
set_option linter.unusedSimpArgs false
section
namespace Go.Proofs.YtmbknelgbjlhnaaGreat
open Go.RowKit
theorem Ao.{u,v} {α:Type u} {β:Type v} {o:Option α} {f:α→Option β} {b:β}:o.bind f=some b↔∃a,o=some a∧f a=some b:=Option.bind_eq_some_iff
theorem AL.{u} {α:Type u} {a:α} {l:List α}:(a::l).length=l.length+1:=List.length_cons
theorem AG.{u} {α:Type u} {s t:List α}:(s++t).length=s.length+t.length:=List.length_append
theorem Ag.{u} {α:Type u} {a:α} {s t:List α}:a∈s++t↔a∈s∨a∈t:=List.mem_append
theorem Ae.{u} {α:Type u} {a b:α} {l:List α}:a∈b::l↔a=b∨a∈l:=List.mem_cons
theorem Ac (a b:Bool):((a&&b)=true)=(a=true∧b=true):=Bool.and_eq_true a b
structure Mod (S:List Nat) (w w':World):Prop where
 os:w'.os=w.os
 tape:w'.tape=w.tape
 output:w'.output=w.output
 size:w.heap.size≤w'.heap.size
 block: ∀k,k<w.heap.size→k∉S→w'.heap[k]?=w.heap[k]?
theorem Mod.jg {B:Nat} {w w':World} (h:Below B w w') (hB:w.heap.size≤B):Mod [] w w':=
 ⟨h.os,h.tape,h.output,h.size,fun k hk _=>h.block k (by omega)⟩
theorem Mod.below {w w':World} (h:Mod [] w w'):Below w.heap.size w w':=
 ⟨h.os,h.tape,h.output,h.size,fun k hk=>h.block k hk (by simp)⟩
theorem Mod.refl (S:List Nat) (w:World):Mod S w w:=⟨rfl,rfl,rfl,Nat.le_refl _,fun _ _ _=>rfl⟩
theorem Mod.trans {S S':List Nat} {a b c:World} (h:Mod S a b) (k:Mod S' b c) (hs: ∀x∈S',x∈S∨a.heap.size≤x):Mod S a c:=
 ⟨k.os.trans h.os,k.tape.trans h.tape,k.output.trans h.output,Nat.le_trans h.size k.size,fun i hi hn=>
  (k.block i (Nat.lt_of_lt_of_le hi h.size) (fun hm=>by rcases hs i hm with h1|h1;exact hn h1;omega)).trans (h.block i hi hn)⟩
theorem Mod.weaken {S S':List Nat} {a b:World} (h:Mod S a b) (hs: ∀x∈S,x∈S'∨a.heap.size≤x):Mod S' a b:=
 ⟨h.os,h.tape,h.output,h.size,fun i hi hn=>h.block i hi (fun hm=>by rcases hs i hm with h1|h1;exact hn h1;omega)⟩
theorem Mod.drew {S:List Nat} {a w:World} (h:Mod S a w):Mod S a w.drew:=⟨h.os,h.tape,h.output,h.size,h.block⟩
theorem Mod.alloc {S:List Nat} {a w:World} (h:Mod S a w) (o:Obj):Mod S a (w.alloc o):=
 h.trans (S':= []) ⟨rfl,rfl,rfl,by simp,fun k hk _=>Below.heap_alloc _ _ _ hk⟩ (by simp)
theorem Mod.setCell {S:List Nat} {a w:World} (h:Mod S a w) {p:Addr} (hp:p.block∈S∨a.heap.size≤p.block) (u:Value):Mod S a (w.setCell p u):=
 h.trans (S':= [p.block]) ⟨rfl,rfl,rfl,by simp [World.setCell],fun k _ hk=>Below.heap_setCell _ _ _ _ (by simpa using hk)⟩ (by simpa using hp)
theorem Mod.cell {S:List Nat} {w w':World} (h:Mod S w w') {p:Addr} (hp:p.block<w.heap.size) (hn:p.block∉S):w'.cell? p=w.cell? p:=World.cell?_of_block (w:=w) (h.block p.block hp hn)
theorem Mod.frozen {S:List Nat} {w w':World} (h:Mod S w w') {p:Addr} (hp:p.block<w.heap.size) (hn:p.block∉S):w'.frozen? p=w.frozen? p:=World.frozen?_of_block (w:=w) (h.block p.block hp hn)
structure GT (α:Type)where
 size:Nat
 rd:World→List Value→α→List Nat→Prop
 len: ∀{w cs x fp},rd w cs x fp→cs.length=size
 frame: ∀{w w' cs x fp},(∀b∈fp,w'.heap[b]?=w.heap[b]?)→rd w cs x fp→rd w' cs x fp
 inb: ∀{w cs x fp},rd w cs x fp→ ∀b∈fp,b<w.heap.size
 one: ∀{w cs x fp},rd w cs x fp→ ∀u∈cs,u.oneCell'=true
def FD {α:Type} (T:GT α) (w:World) (b o:Nat) (xs:List α) (fps:List (List Nat)):Prop:=
 fps.length=xs.length∧ ∀i x fp,xs[i]?=some x→fps[i]?=some fp→ ∃cs,T.rd w cs x fp∧ ∀j v,cs[j]?=some v→w.cell? ⟨b,o+i*T.size+j,none⟩=some v
def DA {α:Type} (T:GT α) (w:World) (a:Option Addr) (n:Nat) (xs:List α) (fp:List Nat):Prop:=
 xs.length=n∧((xs= []∧fp= [])∨ ∃b o fps,a=some ⟨b,o,none⟩∧fp=b::fps.flatten∧b<w.heap.size∧FD T w b o xs fps)
theorem FD.frame {α:Type} {T:GT α} {w w':World} {b o:Nat} {xs:List α} {fps:List (List Nat)} (hb:w'.heap[b]?=w.heap[b]?) (hf: ∀k∈fps.flatten,w'.heap[k]?=w.heap[k]?) (h:FD T w b o xs fps):FD T w' b o xs fps:=by refine⟨h.1,fun i x fp hx Js=> ?_⟩;obtain⟨cs,h1,h2⟩:=h.2 i x fp hx Js;refine⟨cs,T.frame (fun k hk=>hf k (List.mem_flatten.2 ⟨fp,List.mem_of_getElem? Js,hk⟩)) h1,fun j v hv=> ?_⟩;rw [World.cell?_of_block (w:=w) hb];exact h2 j v hv
theorem FD.inb {α:Type} {T:GT α} {w:World} {b o:Nat} {xs:List α} {fps:List (List Nat)} (h:FD T w b o xs fps): ∀k∈fps.flatten,k<w.heap.size:=by intro k hk;obtain⟨fp,Js,hk⟩:=List.mem_flatten.1 hk;obtain⟨i,hi,rfl⟩:=List.mem_iff_getElem.1 Js;obtain⟨cs,h1,_⟩:=h.2 i (xs[i]'(by rw [←h.1];exact hi)) fps[i] (by simp) (by simp);exact T.inb h1 k hk
theorem DA.frame {α:Type} {T:GT α} {w w':World} {a:Option Addr} {n:Nat} {xs:List α} {fp:List Nat} (hf: ∀k∈fp,w'.heap[k]?=w.heap[k]?) (h:DA T w a n xs fp):DA T w' a n xs fp:=by
 refine⟨h.1, ?_⟩;rcases h.2 with h|⟨b,o,fps,ha,rfl,hb,h⟩
 ·exact Or.inl h
 ·have e:=hf b (by simp);refine Or.inr ⟨b,o,fps,ha,rfl, ?_,h.frame e (fun k hk=>hf k (by simp [hk]))⟩;rcases Nat.lt_or_ge b w'.heap.size with h'|h'
  ·exact h'
  ·rw [Array.getElem?_eq_none h',Array.getElem?_eq_getElem hb]at e;cases e
theorem DA.inb {α:Type} {T:GT α} {w:World} {a:Option Addr} {n:Nat} {xs:List α} {fp:List Nat} (h:DA T w a n xs fp): ∀k∈fp,k<w.heap.size:=by
 rcases h.2 with h|⟨b,o,fps,ha,rfl,hb,h⟩
 ·simp [h.2]
 ·intro k hk;rcases Ae.1 hk with rfl|hk
  ·exact hb
  ·exact h.inb k hk
theorem DA.at {α:Type} {T:GT α} {w:World} {a:Option Addr} {n:Nat} {xs:List α} {fp:List Nat} (h:DA T w a n xs fp) {k:Nat} {x:α} (hx:xs[k]?=some x):
  ∃b o cs f,a=some ⟨b,o,none⟩∧b<w.heap.size∧b∈fp∧T.rd w cs x f∧(∀q∈f,q∈fp)∧ ∀j v,cs[j]?=some v→w.cell? ⟨b,o+k*T.size+j,none⟩=some v:=by
 have hk:k<xs.length:=by
  rcases Nat.lt_or_ge k xs.length with h|h
  ·exact h
  ·simp [List.getElem?_eq_none h]at hx
 rcases h.2 with⟨rfl,_⟩|⟨b,o,fps,rfl,rfl,hb,he⟩
 ·simp at hk
 have Bx:k<fps.length:=by rw [he.1];exact hk
 obtain⟨cs,h1,h2⟩:=he.2 k x fps[k] hx (by simp);exact⟨b,o,cs,fps[k],rfl,hb,by simp,h1,fun q hq=>List.mem_cons_of_mem _ (List.mem_flatten.2 ⟨_,List.getElem_mem Bx,hq⟩),h2⟩
theorem DA.len {α:Type} {T:GT α} {w:World} {a:Option Addr} {n:Nat} {xs:List α} {fp:List Nat} (h:DA T w a n xs fp):xs.length=n:=h.1
def GT.via {α β:Type} (T:GT β) (f:α→β):GT α where
 size:=T.size
 rd:=fun w cs x fp=>T.rd w cs (f x) fp
 len:=fun h=>T.len h
 frame:=fun hf h=>T.frame hf h
 inb:=fun h=>T.inb h
 one:=fun h=>T.one h
def Own (B:Nat) (w:World) (fp:List Nat):Prop:=fp.Nodup∧ ∀b∈fp,B≤b∧ ∃c t,w.heap[b]?=some (.cells c t (0,0))
theorem Own.nil (B:Nat) (w:World):Own B w []:=⟨by simp,by simp⟩
theorem Own.frame {B:Nat} {w w':World} {fp:List Nat} (hf: ∀k∈fp,w'.heap[k]?=w.heap[k]?) (h:Own B w fp):Own B w' fp:=
 ⟨h.1,fun b hb=>⟨(h.2 b hb).1,by rw [hf b hb];exact(h.2 b hb).2⟩⟩
theorem Own.mono {B B':Nat} {w:World} {fp:List Nat} (h:Own B w fp) (hB:B'≤B):Own B' w fp:=⟨h.1,fun b hb=>⟨Nat.le_trans hB (h.2 b hb).1,(h.2 b hb).2⟩⟩
theorem Own.lt {B:Nat} {w:World} {fp:List Nat} (h:Own B w fp): ∀b∈fp,b<w.heap.size:=by
 intro b hb;obtain⟨_,c,t,e⟩:=h.2 b hb;rcases Nat.lt_or_ge b w.heap.size with h'|h'
 ·exact h'
 ·simp [Array.getElem?_eq_none h']at e
def Cy (w:World) (b i:Nat):List Value→World
 | []=>w
 |v::vs=>Cy (w.setCell ⟨b,i,none⟩ v) b (i+1) vs
theorem cI: ∀(cs:List Value) (w:World) (b i:Nat) (C:Array Value) (t:TypeId),w.heap[b]?=some (.cells C t (0,0))→i+cs.length≤C.size→
  Mod [b] w (Cy w b i cs)∧ ∃C',(Cy w b i cs).heap[b]?=some (.cells C' t (0,0))∧C'.size=C.size∧(∀j v,cs[j]?=some v→C'[i+j]?=some v)∧ ∀q,q<i∨i+cs.length≤q→C'[q]?=C[q]?:=by
 intro cs
 induction cs with
 |nil=>intro w b i C t h hs;exact⟨Mod.refl _ _,C,h,rfl,by simp,fun _ _=>rfl⟩
 |cons v vs ih=>
  intro w b i C t h hs;simp only [AL]at hs;have h1:=heap_setCell_same w b i C t v h;obtain⟨hm,C',e1,e2,e3,e4⟩:=ih (w.setCell ⟨b,i,none⟩ v) b (i+1) _ t h1 (by simp;omega);refine⟨((Mod.refl [b] w).setCell (by simp) v).trans hm (by simp),C',e1,by simpa using e2,fun j u hj=> ?_,fun q hq=> ?_⟩
  ·cases j with
   |zero=>simp at hj;subst hj;rw [Nat.add_zero,e4 i (by omega)];rw [Array.getElem?_setIfInBounds];simp;omega
   |succ j=>have:=e3 j u (by simpa using hj);rw [show i+(j+1)=i+1+j from by omega];exact this
  ·simp only [AL]at hq;rw [e4 q (by omega),Array.getElem?_setIfInBounds];rw [if_neg (by omega)]
theorem D1 {w:World} {b i:Nat} {C:Array Value} {t:TypeId} {f:Nat × Nat} (h:w.heap[b]?=some (.cells C t f)):w.cell? ⟨b,i,none⟩=C[i]?:=by simp [World.cell?,h]
theorem zt1 {w:World} {b i:Nat} {C:Array Value} {t:TypeId} (h:w.heap[b]?=some (.cells C t (0,0))):w.frozen? ⟨b,i,none⟩=false:=by simp [World.frozen?,h]
theorem FX {w:World} {b:Nat} {o:Obj} (h:w.heap[b]?=some o):b<w.heap.size:=lt_of_block h
theorem FD.nil {α:Type} (T:GT α) (w:World) (b o:Nat):FD T w b o [] []:=⟨rfl,by simp⟩
theorem FD.snoc {α:Type} {T:GT α} {w w':World} {b o:Nat} {xs:List α} {fps:List (List Nat)} {x:α} {fp:List Nat} {cs:List Value} (h:FD T w b o xs fps)
  (hc: ∀i,i<xs.length*T.size→w'.cell? ⟨b,o+i,none⟩=w.cell? ⟨b,o+i,none⟩) (hf: ∀k∈fps.flatten,w'.heap[k]?=w.heap[k]?)
  (hx:T.rd w' cs x fp) (hn: ∀j v,cs[j]?=some v→w'.cell? ⟨b,o+xs.length*T.size+j,none⟩=some v):FD T w' b o (xs++ [x]) (fps++ [fp]):=by
 refine⟨by simp [h.1],fun i y f hy Js=> ?_⟩;rcases Nat.lt_trichotomy i xs.length with hi|hi|hi
 ·have Ba:xs[i]?=some y:=by rwa [List.getElem?_append_left hi]at hy
  have PO:fps[i]?=some f:=by rwa [List.getElem?_append_left (by rw [h.1];exact hi)]at Js
  obtain⟨c,h1,h2⟩:=h.2 i y f Ba PO;refine⟨c,T.frame (fun k hk=>hf k (List.mem_flatten.2 ⟨f,List.mem_of_getElem? PO,hk⟩)) h1,fun j v hv=> ?_⟩;have hj:j<T.size:=by
   rw [←T.len h1];rcases Nat.lt_or_ge j c.length with h|h
   ·exact h
   ·simp [List.getElem?_eq_none h]at hv
  have:=hc (i*T.size+j) (by have:(i+1)*T.size≤xs.length*T.size:=Nat.mul_le_mul_right _ hi;rw [Nat.add_mul]at this;omega)
  rw [show o+i*T.size+j=o+(i*T.size+j)from by omega,this,←Nat.add_assoc];exact h2 j v hv
 ·subst hi;simp at hy;subst hy;rw [List.getElem?_append_right (by rw [h.1];exact Nat.le_refl _),h.1]at Js;simp at Js;subst Js;exact⟨cs,hx,hn⟩
 ·rw [List.getElem?_eq_none (by simp;omega)]at hy;cases hy
structure Lp {α:Type} (T:GT α) (B:Nat) (w:World) (b:Nat) (t:TypeId) (tot:Nat) (xs:List α) (fps:List (List Nat)):Prop where
 mw: ∃C,w.heap[b]?=some (.cells C t (0,0))∧C.size=tot
 rd:FD T w b 0 xs fps
 own:Own B w (b::fps.flatten)
theorem Lp.step {α:Type} {T:GT α} {B:Nat} {w w1:World} {b:Nat} {t:TypeId} {tot:Nat} {xs:List α} {fps:List (List Nat)} {x:α} {cs:List Value} {fp:List Nat}
  (h:Lp T B w b t tot xs fps) (hm:Mod [] w w1) (hx:T.rd w1 cs x fp) (ho:Own w.heap.size w1 fp) (hB:B≤w.heap.size) (hs:(xs.length+1)*T.size≤tot):
  Lp T B (Cy w1 b (xs.length*T.size) cs) b t tot (xs++ [x]) (fps++ [fp])∧Mod [b] w (Cy w1 b (xs.length*T.size) cs):=by
 obtain⟨C,hC,rE⟩:=h.mw;have hb:=FX hC;have Ts:w1.heap[b]?=some (.cells C t (0,0)):=by rw [hm.block b hb (by simp)];exact hC
 rw [Nat.add_mul,Nat.one_mul]at hs;have hlen:=T.len hx;obtain⟨m1,C',e1,e2,e3,e4⟩:=cI cs w1 b (xs.length*T.size) C t Ts (by omega);have BP:=h.own.lt;have old: ∀k∈fps.flatten,(Cy w1 b (xs.length*T.size) cs).heap[k]?=w.heap[k]?:=fun k hk=>by
  have sH:k≠b:=fun e=>by have:=h.own.1;rw [List.nodup_cons]at this;exact this.1 (e▸hk)
  have GM:=BP k (by simp [hk]);rw [m1.block k (Nat.lt_of_lt_of_le GM hm.size) (by simpa using sH),hm.block k GM (by simp)]
 have new: ∀k∈fp,(Cy w1 b (xs.length*T.size) cs).heap[k]?=w1.heap[k]?:=fun k hk=>by have:=(ho.2 k hk).1;exact m1.block k (ho.lt k hk) (by simp;omega)
 refine⟨⟨⟨C',e1,by omega⟩, ?_, ?_⟩,(hm.weaken (S':= [b]) (by simp)).trans m1 (fun x hx=>Or.inl hx)⟩
 ·refine h.rd.snoc (fun i hi=> ?_) old (T.frame new hx) (fun j v hv=> ?_)
  ·rw [D1 e1,D1 hC,Nat.zero_add,e4 i (by omega)]
  ·rw [D1 e1,Nat.zero_add];exact e3 j v hv
 ·refine⟨?_,fun q hq=> ?_⟩
  ·have h1:=h.own.1;rw [List.nodup_cons]at h1 ⊢;refine⟨?_, ?_⟩
   ·simp only [List.flatten_append,List.flatten_singleton,Ag,not_or];exact⟨h1.1,fun hk=>by have:=(ho.2 b hk).1;omega⟩
   ·simp only [List.flatten_append,List.flatten_singleton];exact List.nodup_append.2 ⟨h1.2,ho.1,fun a ha c hc e=>by have:=(ho.2 c hc).1;have:=BP a (by simp [ha]);omega⟩
  ·rcases Ae.1 hq with rfl|hq
   ·exact⟨(h.own.2 q (by simp)).1,C',t,e1⟩
   ·simp only [List.flatten_append,List.flatten_singleton,Ag]at hq;rcases hq with hq|hq
    ·rw [old q hq];exact h.own.2 q (by simp [hq])
    ·rw [new q hq];exact⟨Nat.le_trans hB (ho.2 q hq).1,(ho.2 q hq).2⟩
theorem Lp.done {α:Type} {T:GT α} {B:Nat} {w:World} {b:Nat} {t:TypeId} {tot n:Nat} {xs:List α} {fps:List (List Nat)} (h:Lp T B w b t tot xs fps) (hn:xs.length=n):
  DA T w (some ⟨b,0,none⟩) n xs (b::fps.flatten):=by
 obtain⟨C,hC,_⟩:=h.mw;exact⟨hn,Or.inr ⟨b,0,fps,rfl,rfl,FX hC,h.rd⟩⟩
theorem DA.nd {α:Type} {T:GT α} {w:World} {a:Option Addr} {n:Nat} {xs:List α} {fp:List Nat} (h:DA T w a n xs fp) (BW:fp.Nodup) {k:Nat} {x:α} (hx:xs[k]?=some x):
  ∃b o cs f,a=some ⟨b,o,none⟩∧b<w.heap.size∧b∈fp∧b∉f∧T.rd w cs x f∧(∀q∈f,q∈fp)∧(∀j v,cs[j]?=some v→w.cell? ⟨b,o+k*T.size+j,none⟩=some v)∧
   ∀w' cs' x',b<w'.heap.size→T.rd w' cs' x' f→(∀q∈fp,q∉f→q≠b→w'.heap[q]?=w.heap[q]?)→(∀j v,cs'[j]?=some v→w'.cell? ⟨b,o+k*T.size+j,none⟩=some v)→
    (∀i,i<o+k*T.size∨o+k*T.size+T.size≤i→w'.cell? ⟨b,i,none⟩=w.cell? ⟨b,i,none⟩)→DA T w' a n (xs.set k x') fp:=by
 have hk:k<xs.length:=by
  rcases Nat.lt_or_ge k xs.length with h|h
  ·exact h
  ·simp [List.getElem?_eq_none h]at hx
 rcases h.2 with⟨rfl,_⟩|⟨b,o,fps,rfl,rfl,hb,he⟩
 ·simp at hk
 have Bx:k<fps.length:=by rw [he.1];exact hk
 obtain⟨cs,h1,h2⟩:=he.2 k x fps[k] hx (by simp);have Pz:b∉fps.flatten:=(List.nodup_cons.1 BW).1;have BP: ∀q∈fps[k],q∈fps.flatten:=fun q hq=>List.mem_flatten.2 ⟨_,List.getElem_mem Bx,hq⟩;refine⟨b,o,cs,fps[k],rfl,hb,by simp,fun hm=>Pz (BP b hm),h1,fun q hq=>List.mem_cons_of_mem _ (BP q hq),h2,fun w' cs' x' BJ C8 Kq AS hold=>⟨by simp [h.1],Or.inr ⟨b,o,fps,rfl,rfl,BJ,by simp [he.1],fun i y f hy hf=> ?_⟩⟩⟩;by_cases hi:i=k
 ·subst hi;rw [List.getElem?_set_self hk]at hy;simp at hy;subst hy;have:f=fps[i]:=by simpa [Bx]using hf.symm
  subst this;exact⟨cs',C8,AS⟩
 ·rw [List.getElem?_set_ne (Ne.symm hi)]at hy;obtain⟨c,g1,g2⟩:=he.2 i y f hy hf;have iK:f∈fps:=List.mem_of_getElem? hf;refine⟨c,T.frame (fun q hq=>Kq q (List.mem_cons_of_mem _ (List.mem_flatten.2 ⟨f,iK,hq⟩)) (fun iV=> ?_) (fun e=>Pz (e▸List.mem_flatten.2 ⟨f,iK,hq⟩))) g1,fun j v hv=> ?_⟩
  ·
   have hp:=List.pairwise_flatten.1 (List.nodup_cons.1 BW).2|>.2;have YE:i<fps.length:=by
    rcases Nat.lt_or_ge i fps.length with h|h
    ·exact h
    ·simp [List.getElem?_eq_none h]at hf
   have TB:fps[i]=f:=by simpa [YE]using hf
   rcases Nat.lt_or_gt_of_ne hi with AB|AB
   ·exact(List.pairwise_iff_getElem.1 hp i k YE Bx AB) q (TB▸hq) q iV rfl
   ·exact(List.pairwise_iff_getElem.1 hp k i Bx YE AB) q iV q (TB▸hq) rfl
  ·have hj:j<T.size:=by
    rw [←T.len g1];rcases Nat.lt_or_ge j c.length with h|h
    ·exact h
    ·simp [List.getElem?_eq_none h]at hv
   rw [hold (o+i*T.size+j) ?_]
   ·exact g2 j v hv
   ·rcases Nat.lt_or_gt_of_ne hi with AB|AB
    ·have:(i+1)*T.size≤k*T.size:=Nat.mul_le_mul_right _ AB;rw [Nat.add_mul]at this;omega
    ·have:(k+1)*T.size≤i*T.size:=Nat.mul_le_mul_right _ AB;rw [Nat.add_mul]at this;omega
theorem Se {α:Type} {xs:List α} {i:Nat} {x:α} (hx:xs[i]?=some x):i<xs.length:=by
 rcases Nat.lt_or_ge i xs.length with h|h
 ·exact h
 ·simp [List.getElem?_eq_none h]at hx
theorem DA.put {α:Type} {T:GT α} {w:World} {n:Nat} {xs:List α} {fp:List Nat} {b o k:Nat} {x x':α} {cs':List Value} (h:DA T w (some ⟨b,o,none⟩) n xs fp) (ho:Own 0 w fp)
  (hx:xs[k]?=some x) (BG: ∀w cs x f,T.rd w cs x f→f= []) (hs:0<T.size) (C8: ∀w',T.rd w' cs' x' []):
  DA T (Cy w b (o+k*T.size) cs') (some ⟨b,o,none⟩) n (xs.set k x') fp∧Own 0 (Cy w b (o+k*T.size) cs') fp∧Mod fp w (Cy w b (o+k*T.size) cs'):=by
 obtain⟨b',o',cs,f,ha,hb,Pz,E3,hr,_,hc,hu⟩:=h.nd ho.1 hx;simp at ha;obtain⟨rfl,rfl⟩:=ha;obtain rfl:=BG _ _ _ _ hr;obtain⟨_,C,t,hC⟩:=ho.2 b Pz;have hl:=T.len hr;have Bl:=T.len (C8 w);have BP:o+k*T.size+cs'.length≤C.size:=by
  have AB:T.size-1<cs.length:=by omega
  have:=hc (T.size-1) cs[T.size-1] (by simp);rw [D1 hC]at this;have:=Se (xs:=C.toList) (i:=o+k*T.size+(T.size-1)) (x:=cs[T.size-1]) (by simpa using this);simp at this;omega
 obtain⟨m,C',e1,e2,e3,e4⟩:=cI cs' w b (o+k*T.size) C t hC BP;have old: ∀q∈fp,q≠b→(Cy w b (o+k*T.size) cs').heap[q]?=w.heap[q]?:=fun q hq M7=>m.block q (ho.lt q hq) (by simpa using M7);refine⟨hu _ cs' x' (FX e1) (C8 _) (fun q hq _ M7=>old q hq M7) (fun j v hv=> ?_) (fun i hi=> ?_),⟨ho.1,fun q hq=>⟨Nat.zero_le _, ?_⟩⟩,m.weaken (by simp [Pz])⟩
 ·rw [D1 e1];exact e3 j v hv
 ·rw [D1 e1,D1 hC];exact e4 i (by omega)
 ·by_cases M7:q=b
  ·subst M7;exact⟨C',t,e1⟩
  ·rw [old q hq M7];exact(ho.2 q hq).2
theorem Lp.cell {α:Type} {T:GT α} {B:Nat} {w w1:World} {b:Nat} {t:TypeId} {tot:Nat} {xs:List α} {fps:List (List Nat)} (h:Lp T B w b t tot xs fps) (hm:Mod [] w w1) {i:Nat} (hi:i<tot):
  (∃u,w1.cell? ⟨b,i,none⟩=some u)∧w1.frozen? ⟨b,i,none⟩=false:=by
 obtain⟨C,hC,rE⟩:=h.mw;have Ts:w1.heap[b]?=some (.cells C t (0,0)):=by rw [hm.block b (FX hC) (by simp)];exact hC
 exact⟨⟨C[i],by rw [D1 Ts];simp⟩,zt1 Ts⟩
theorem DA.mod {α:Type} {T:GT α} {S:List Nat} {w w':World} {a:Option Addr} {n:Nat} {xs:List α} {fp:List Nat} (h:DA T w a n xs fp) (hm:Mod S w w') (hS: ∀q∈fp,q∉S):DA T w' a n xs fp:=
 h.frame fun k hk=>hm.block k (h.inb k hk) (hS k hk)
theorem Own.mod {B:Nat} {S:List Nat} {w w':World} {fp:List Nat} (h:Own B w fp) (hm:Mod S w w') (hS: ∀q∈fp,q∉S):Own B w' fp:=
 h.frame fun k hk=>hm.block k (h.lt k hk) (hS k hk)
theorem Own.app {B:Nat} {w:World} {f g:List Nat} (h1:Own B w f) (h2:Own B w g) (hd: ∀q∈f,q∉g):Own B w (f++g):=
 ⟨List.nodup_append.2 ⟨h1.1,h2.1,fun a ha b hb e=>hd a ha (e▸hb)⟩,fun b hb=>by
  rcases Ag.1 hb with h|h
  ·exact h1.2 b h
  ·exact h2.2 b h⟩
theorem Own.left {B:Nat} {w:World} {f g:List Nat} (h:Own B w (f++g)):Own B w f:=⟨(List.nodup_append.1 h.1).1,fun b hb=>h.2 b (by simp [hb])⟩
theorem Own.right {B:Nat} {w:World} {f g:List Nat} (h:Own B w (f++g)):Own B w g:=⟨(List.nodup_append.1 h.1).2.1,fun b hb=>h.2 b (by simp [hb])⟩
theorem Own.apart {B:Nat} {w:World} {f g:List Nat} (h:Own B w (f++g)): ∀q∈f,q∉g:=fun q hq hg=>(List.nodup_append.1 h.1).2.2 q hq q hg rfl
theorem cV {α:Type} {s:Nat} (hs:0<s): ∀(Ls:List (List α)) (j:Nat),(∀l∈Ls,l.length=s)→Ls.flatten[j]?=(Ls[j/s]?).bind (·[j % s]?)
 | [],j,_=>by simp
 |l::Ls,j,h=>by
  have hl:l.length=s:=h l (by simp);rw [List.flatten_cons];by_cases hj:j<s
  ·rw [List.getElem?_append_left (by omega),Nat.div_eq_of_lt hj,Nat.mod_eq_of_lt hj];simp
  ·rw [List.getElem?_append_right (by omega),hl,cV hs Ls (j-s) (fun l hl=>h l (by simp [hl]))];have e1:j/s=(j-s)/s+1:=by rw [Nat.div_eq_sub_div hs (by omega)]
   have e2:(j-s) % s=j % s:=(Nat.mod_eq_sub_mod (by omega)).symm;rw [e1,e2];simp
theorem mX {α:Type} {s:Nat}: ∀(Ls:List (List α)),(∀l∈Ls,l.length=s)→Ls.flatten.length=Ls.length*s
 | [],_=>by simp
 |l::Ls,h=>by have:=mX Ls (fun l hl=>h l (by simp [hl]));have hl:=h l (by simp);simp [Nat.add_mul];rw [←hl]at this ⊢;simp at this;omega
def D8 {α:Type} (T:GT α) (w:World) (Ls:List (List Value)) (xs:List α) (fps:List (List Nat)):Prop:=
 Ls.length=xs.length∧fps.length=xs.length∧ ∀(i:Nat) (cs:List Value) (x:α) (fp:List Nat),Ls[i]?=some cs→xs[i]?=some x→fps[i]?=some fp→T.rd w cs x fp
theorem D8.lens {α:Type} {T:GT α} {w:World} {Ls:List (List Value)} {xs:List α} {fps:List (List Nat)} (h:D8 T w Ls xs fps): ∀l∈Ls,l.length=T.size:=by intro l hl;obtain⟨i,hi,rfl⟩:=List.mem_iff_getElem.1 hl;have h1:=h.1;have h2:=h.2.1;exact T.len (h.2.2 i _ (xs[i]'(by omega)) (fps[i]'(by omega)) (by simp) (by simp) (by simp))
theorem D8.one {α:Type} {T:GT α} {w:World} {Ls:List (List Value)} {xs:List α} {fps:List (List Nat)} (h:D8 T w Ls xs fps): ∀u∈Ls.flatten,u.oneCell'=true:=by intro u hu;obtain⟨l,hl,hu⟩:=List.mem_flatten.1 hu;obtain⟨i,hi,rfl⟩:=List.mem_iff_getElem.1 hl;have h1:=h.1;have h2:=h.2.1;exact T.one (h.2.2 i _ (xs[i]'(by omega)) (fps[i]'(by omega)) (by simp) (by simp) (by simp)) u hu
theorem D8.frame {α:Type} {T:GT α} {w w':World} {Ls:List (List Value)} {xs:List α} {fps:List (List Nat)} (h:D8 T w Ls xs fps) (hf: ∀k∈fps.flatten,w'.heap[k]?=w.heap[k]?):D8 T w' Ls xs fps:=
 ⟨h.1,h.2.1,fun i cs x fp a b c=>T.frame (fun k hk=>hf k (List.mem_flatten.2 ⟨fp,List.mem_of_getElem? c,hk⟩)) (h.2.2 i cs x fp a b c)⟩
theorem D8.inb {α:Type} {T:GT α} {w:World} {Ls:List (List Value)} {xs:List α} {fps:List (List Nat)} (h:D8 T w Ls xs fps): ∀k∈fps.flatten,k<w.heap.size:=by intro k hk;obtain⟨f,hf,hk⟩:=List.mem_flatten.1 hk;obtain⟨i,hi,rfl⟩:=List.mem_iff_getElem.1 hf;have h1:=h.1;have h2:=h.2.1;exact T.inb (h.2.2 i (Ls[i]'(by omega)) (xs[i]'(by omega)) _ (by simp) (by simp) (by simp)) k hk
theorem D8.snoc {α:Type} {T:GT α} {w:World} {Ls:List (List Value)} {xs:List α} {fps:List (List Nat)} {cs:List Value} {x:α} {fp:List Nat} (h:D8 T w Ls xs fps) (hx:T.rd w cs x fp):D8 T w (Ls++ [cs]) (xs++ [x]) (fps++ [fp]):=by
 refine⟨by simp [h.1],by simp [h.2.1],fun i c y f hc hy hf=> ?_⟩;rcases Nat.lt_trichotomy i xs.length with hi|hi|hi
 ·exact h.2.2 i c y f (by rwa [List.getElem?_append_left (by rw [h.1];exact hi)]at hc) (by rwa [List.getElem?_append_left hi]at hy) (by rwa [List.getElem?_append_left (by rw [h.2.1];exact hi)]at hf)
 ·subst hi;rw [List.getElem?_append_right (by rw [h.1];exact Nat.le_refl _),h.1]at hc;rw [List.getElem?_append_right (Nat.le_refl _)]at hy;rw [List.getElem?_append_right (by rw [h.2.1];exact Nat.le_refl _),h.2.1]at hf;simp at hc hy hf;subst hc hy hf;exact hx
 ·rw [List.getElem?_eq_none (by simp;omega)]at hy;cases hy
theorem mU {β:Type} (P:Nat→β→Prop): ∀n:Nat,(∀i,i<n→ ∃y,P i y)→ ∃L:List β,L.length=n∧ ∀(i:Nat) (y:β),L[i]?=some y→P i y
 |0,_=>⟨[],rfl,by simp⟩
 |n+1,h=>by
  obtain⟨L,hl,hL⟩:=mU P n (fun i hi=>h i (by omega));obtain⟨y,hy⟩:=h n (by omega);refine⟨L++ [y],by simp [hl],fun i z hz=> ?_⟩;rcases Nat.lt_trichotomy i n with hi|hi|hi
  ·exact hL i z (by rwa [List.getElem?_append_left (by omega)]at hz)
  ·subst hi;rw [List.getElem?_append_right (by omega),hl]at hz;simp at hz;subst hz;exact hy
  ·rw [List.getElem?_eq_none (by simp;omega)]at hz;cases hz
theorem FD.cells {α:Type} {T:GT α} {w:World} {b o:Nat} {xs:List α} {fps:List (List Nat)} (h:FD T w b o xs fps) (hs:0<T.size):
  ∃Ls,D8 T w Ls xs fps∧ ∀j u,Ls.flatten[j]?=some u→w.cell? ⟨b,o+j,none⟩=some u:=by
 obtain⟨Ls,hn,hL⟩:=mU (fun i cs=> ∃x fp,xs[i]?=some x∧fps[i]?=some fp∧T.rd w cs x fp∧ ∀j v,cs[j]?=some v→w.cell? ⟨b,o+i*T.size+j,none⟩=some v) xs.length (fun i hi=>by obtain⟨cs,h1,h2⟩:=h.2 i xs[i] (fps[i]'(by rw [h.1];exact hi)) (by simp) (by simp);exact⟨cs,_,_,by simp,by simp,h1,h2⟩)
 have hP:D8 T w Ls xs fps:=by refine⟨hn,h.1,fun i cs x fp hc hx hf=> ?_⟩;obtain⟨x',fp',e1,e2,e3,_⟩:=hL i cs hc;rw [e1]at hx;rw [e2]at hf;simp at hx hf;subst hx hf;exact e3
 refine⟨Ls,hP,fun j u hu=> ?_⟩;rw [cV hs _ _ hP.lens]at hu;cases hd:Ls[j/T.size]? with
 |none=>rw [hd]at hu;cases hu
 |some cs=>rw [hd]at hu;obtain⟨_,_,_,_,_,e4⟩:=hL _ cs hd;have:=e4 _ u hu;rw [Nat.add_assoc,Nat.mul_comm,Nat.div_add_mod]at this;exact this
theorem D8.j9 {α:Type} {T:GT α} {w:World} {Ls:List (List Value)} {xs:List α} {fps:List (List Nat)} {b o:Nat} (h:D8 T w Ls xs fps) (hs:0<T.size) (hc: ∀j u,Ls.flatten[j]?=some u→w.cell? ⟨b,o+j,none⟩=some u):FD T w b o xs fps:=by
 refine⟨h.2.1,fun i x fp hx hf=> ?_⟩;have hi:=Se hx;have h1:=h.1;refine⟨Ls[i]'(by omega),h.2.2 i _ x fp (by simp) hx hf,fun j v hv=> ?_⟩;rw [Nat.add_assoc];refine hc _ _ ?_;have hj:j<T.size:=by rw [←h.lens _ (List.getElem_mem (by omega:i<Ls.length))];exact Se hv
 rw [cV hs _ _ h.lens,Nat.mul_comm,Nat.mul_add_div hs,Nat.div_eq_of_lt hj,Nat.add_zero,Nat.mul_add_mod,Nat.mod_eq_of_lt hj];simpa [show i<Ls.length by omega]using hv
def Gr {α:Type} (T:GT α) (E:TypeId) (B:Nat) (w:World) (v:Value) (xs:List α) (fps:List (List Nat)):Prop:=
 ∃Ls,D8 T w Ls xs fps∧w.ownsRow B E T.size v xs.length Ls.flatten∧ ∀g,v.ownBlock=some g→g∉fps.flatten
theorem Gr.nil {α:Type} (T:GT α) (E:TypeId) (B:Nat) (w:World):Gr T E B w (.slice none 0 0) [] []:=
 ⟨[],⟨rfl,rfl,by simp⟩,World.ownsRow_nil _ _ _ _,by simp⟩
theorem Gr.done {α:Type} {T:GT α} {E:TypeId} {B:Nat} {w:World} {v:Value} {xs:List α} {fps:List (List Nat)} (hs:0<T.size) (h:Gr T E B w v xs fps) (hf:Own B w fps.flatten):
  ∃a c fp,v= .slice a xs.length c∧xs.length≤c∧c≤maxLen∧DA T w a xs.length xs fp∧Own B w fp∧(∀q∈fp,q∈fps.flatten∨v.ownBlock=some q):=by
 obtain⟨Ls,hL,ho,hg⟩:=h;rcases ho.2 with⟨rfl,hn⟩|⟨g,cap,cur,rfl,hB,hh,YZ,PH,Bp,ht⟩
 ·have:xs= []:=List.eq_nil_of_length_eq_zero hn;subst this;exact⟨none,0, [],rfl,Nat.le_refl _,by simp [maxLen],⟨rfl,Or.inl ⟨rfl,rfl⟩⟩,Own.nil _ _,by simp⟩
 ·refine⟨some ⟨g,0,none⟩,cap,g::fps.flatten,rfl,YZ,PH,⟨rfl,Or.inr ⟨g,0,fps,rfl,rfl,FX hh,hL.j9 hs (fun j u hu=> ?_)⟩⟩,⟨List.nodup_cons.2 ⟨hg g rfl,hf.1⟩,fun b hb=> ?_⟩,fun q hq=> ?_⟩
  ·rw [Nat.zero_add,D1 hh];rw [←ht]at hu;have:=Se hu;rw [List.getElem?_take]at hu;split at hu
   ·simpa using hu
   ·cases hu
  ·rcases Ae.1 hb with rfl|hb
   ·exact⟨hB,cur,E,hh⟩
   ·exact hf.2 b hb
  ·rcases Ae.1 hq with rfl|hq
   ·exact Or.inr rfl
   ·exact Or.inl hq
theorem DA.cells {α:Type} {T:GT α} {w:World} {ad:Addr} {n:Nat} {xs:List α} {fp:List Nat} (hs:0<T.size) (h:DA T w (some ad) n xs fp):
  ∃Ls fps,D8 T w Ls xs fps∧(∀j u,Ls.flatten[j]?=some u→w.cell? (ad.add j)=some u)∧(∀q∈fps.flatten,q∈fp)∧Ls.flatten.length=n*T.size:=by
 rcases h.2 with⟨rfl,rfl⟩|⟨b,o,fps,ha,rfl,hb,he⟩
 ·have:=h.1;simp at this;subst this;exact⟨[], [],⟨rfl,rfl,by simp⟩,by simp,by simp,by simp⟩
 ·simp at ha;subst ha;obtain⟨Ls,h1,h2⟩:=he.cells hs;refine⟨Ls,fps,h1,fun j u hu=> ?_,fun q hq=>by simp [hq],by rw [mX Ls h1.lens,h1.1,h.1]⟩;have:=h2 j u hu;simpa [Addr.add_lit]using this
theorem Mod.grown {S:List Nat} {a w w':World} {row:Option Nat} (h:Mod S a w) (hg:w.grownBy w' row) (hr: ∀k,row=some k→k∈S∨a.heap.size≤k):Mod S a w':=
 h.trans (S':=row.toList) ⟨hg.os,hg.tape,hg.output,hg.size,fun k hk hn=>hg.block k hk (fun e=>hn (by rw [←e];simp))⟩ (fun x hx=>hr x (by cases row<;>simp at hx;subst hx;rfl))
theorem D8.flat {α:Type} {T:GT α} {w:World} {Ls:List (List Value)} {xs:List α} {fps:List (List Nat)} (BG: ∀w cs x f,T.rd w cs x f→f= []) (h:D8 T w Ls xs fps):fps.flatten= []:=by rw [List.flatten_eq_nil_iff];intro f hf;obtain⟨i,hi,rfl⟩:=List.mem_iff_getElem.1 hf;have h1:=h.1;have h2:=h.2.1;exact BG _ _ _ _ (h.2.2 i (Ls[i]'(by omega)) (xs[i]'(by omega)) _ (by simp) (by simp) (by simp))
theorem Mod.mw {S:List Nat} {w w1:World} (hm:Mod S w w1) {b:Nat} {C:Array Value} {t:TypeId} (h:w.heap[b]?=some (.cells C t (0,0))) (hb:b∉S):w1.heap[b]?=some (.cells C t (0,0)):=by rw [hm.block b (FX h) hb];exact h
end Go.Proofs.YtmbknelgbjlhnaaGreat
end
section
namespace Go.Proofs.YtmbknelgbjlhnaaGreat
open Go.ChangeShapes Go.WideShapes Go.ChangeAt Go.RowKit
theorem oD (a:Addr):a.add 0=a:=by simp [Addr.add]
theorem pJ (b o n:Nat):Addr.add ⟨b,o,none⟩ n=⟨b,o+n,none⟩:=by
 unfold Addr.add;split
 ·subst_vars;rfl
 ·rfl
end Go.Proofs.YtmbknelgbjlhnaaGreat
end
section
namespace Go.Proofs.YtmbknelgbjlhnaaGreat
open Go.RowKit
inductive AV where
 |int (k:IntKind) (n:Int)
 |bool (b:Bool)
 |str (s:List UInt8)
 |sl (xs:List AV)
 |agg (cs:List AV)
 |tup (vs:List AV)
 |ref (x:AV)
 |fn (f:Nat) (caps:List AV)
 |ei
 |undef
def AV.cells:AV→List AV
 | .agg cs=>cs
 |x=> [x]
def AM (xs:List AV):List AV:=xs.flatMap AV.cells
def Ei (k:IntKind) (n:Int):Prop:=k.wrap n=n
inductive Rd (w:World):List Value→List AV→List Nat→Prop where
 |nil:Rd w [] [] []
 |int {k n vs xs f}:Ei k n→Rd w vs xs f→Rd w (.int k n::vs) (.int k n::xs) f
 |bool {b vs xs f}:Rd w vs xs f→Rd w (.bool b::vs) (.bool b::xs) f
 |str {s:ByteArray} {vs xs f}:s.size≤9223372036854775807→Rd w vs xs f→Rd w (.string s::vs) (.str s.data.toList::xs) f
 |fb {a c vs xs f}:Rd w vs xs f→Rd w (.slice a 0 c::vs) (.sl []::xs) f
 |gj {b o n c ys cs C t fz sz f1 vs xs f}:w.heap[b]?=some (.cells C t fz)→0<n→(n≤9223372036854775807∧n≤c)→ys.length=n→(∀y∈ys,y.cells.length=sz)→0<sz→
   (∀j v,cs[j]?=some v→C[o+j]?=some v)→(∀u∈cs,u.oneCell'=true)→Rd w cs (AM ys) f1→Rd w vs xs f→Rd w (.slice (some ⟨b,o,none⟩) n c::vs) (.sl ys::xs) (b::(f1++f))
 |agg {as_ cs f1 vs xs f}:(∀u∈as_,u.oneCell'=true)→Rd w as_ cs f1→Rd w vs xs f→Rd w (.agg as_.toArray::vs) (.agg cs::xs) (f1++f)
 |tup {as_ cs f1 vs xs f}:Rd w as_ cs f1→Rd w vs xs f→Rd w (.tuple as_.toArray::vs) (.tup cs::xs) (f1++f)
 |ref {b C t fz x f1 vs xs f}:w.heap[b]?=some (.cells C t fz)→(∀u∈C.toList,u.oneCell'=true)→Rd w C.toList x.cells f1→Rd w vs xs f→Rd w (.pointer (some ⟨b,0,none⟩)::vs) (.ref x::xs) (b::(f1++f))
 |fn {g as_ cs f1 vs xs f}:Rd w as_ cs f1→Rd w vs xs f→Rd w (.func (.func g) #[] as_.toArray::vs) (.fn g cs::xs) (f1++f)
 |ei {vs xs f}:Rd w vs xs f→Rd w (.pointer none::vs) (.ei::xs) f
theorem Rd.frame {w w':World} {vs:List Value} {xs:List AV} {f:List Nat} (h:Rd w vs xs f):(∀b∈f,w'.heap[b]?=w.heap[b]?)→Rd w' vs xs f:=by
 induction h with
 |nil=>exact fun _=> .nil
 |int a _ ih=>exact fun hf=> .int a (ih hf)
 |bool _ ih=>exact fun hf=> .bool (ih hf)
 |str a _ ih=>exact fun hf=> .str a (ih hf)
 |fb _ ih=>exact fun hf=> .fb (ih hf)
 |gj hb h1 h2 h3 h4 h5 h6 FF _ _ ih1 ih2=>exact fun hf=> .gj (by rw [hf _ (by simp)];exact hb) h1 h2 h3 h4 h5 h6 FF (ih1 fun b m=>hf b (by simp [m])) (ih2 fun b m=>hf b (by simp [m]))
 |agg h9 _ _ ih1 ih2=>exact fun hf=> .agg h9 (ih1 fun b m=>hf b (by simp [m])) (ih2 fun b m=>hf b (by simp [m]))
 |tup _ _ ih1 ih2=>exact fun hf=> .tup (ih1 fun b m=>hf b (by simp [m])) (ih2 fun b m=>hf b (by simp [m]))
 |ref hb h9 _ _ ih1 ih2=>exact fun hf=> .ref (by rw [hf _ (by simp)];exact hb) h9 (ih1 fun b m=>hf b (by simp [m])) (ih2 fun b m=>hf b (by simp [m]))
 |fn _ _ ih1 ih2=>exact fun hf=> .fn (ih1 fun b m=>hf b (by simp [m])) (ih2 fun b m=>hf b (by simp [m]))
 |ei _ ih=>exact fun hf=> .ei (ih hf)
theorem Rd.inb {w:World} {vs:List Value} {xs:List AV} {f:List Nat} (h:Rd w vs xs f): ∀b∈f,b<w.heap.size:=by
 induction h with
 |nil=>simp
 |int _ _ ih=>exact ih
 |bool _ ih=>exact ih
 |str _ _ ih=>exact ih
 |fb _ ih=>exact ih
 |gj hb _ _ _ _ _ _ _ _ _ ih1 ih2=>
  intro b m;simp only [Ae,Ag]at m;rcases m with rfl|m|m
  ·exact FX hb
  ·exact ih1 b m
  ·exact ih2 b m
 |agg _ _ _ ih1 ih2=>intro b m;rcases Ag.1 m with m|m;exact ih1 b m;exact ih2 b m
 |tup _ _ ih1 ih2=>intro b m;rcases Ag.1 m with m|m;exact ih1 b m;exact ih2 b m
 |ref hb _ _ _ ih1 ih2=>
  intro b m;simp only [Ae,Ag]at m;rcases m with rfl|m|m
  ·exact FX hb
  ·exact ih1 b m
  ·exact ih2 b m
 |fn _ _ ih1 ih2=>intro b m;rcases Ag.1 m with m|m;exact ih1 b m;exact ih2 b m
 |ei _ ih=>exact ih
theorem Rd.len {w:World} {vs:List Value} {xs:List AV} {f:List Nat} (h:Rd w vs xs f):vs.length=xs.length:=by induction h<;>simp_all
theorem Rd.app {w:World} {vs us:List Value} {xs ys:List AV} {f g:List Nat} (h:Rd w vs xs f) (k:Rd w us ys g):Rd w (vs++us) (xs++ys) (f++g):=by
 induction h with
 |nil=>exact k
 |int a _ ih=>exact .int a ih
 |bool _ ih=>exact .bool ih
 |str a _ ih=>exact .str a ih
 |fb _ ih=>exact .fb ih
 |gj hb h1 h2 h3 h4 h5 h6 FF h7 _ _ ih2=>simp only [List.cons_append,List.append_assoc];exact Rd.gj hb h1 h2 h3 h4 h5 h6 FF h7 ih2
 |agg h9 h1 _ _ ih2=>have:=Rd.agg h9 h1 ih2;simpa using this
 |tup h1 _ _ ih2=>have:=Rd.tup h1 ih2;simpa using this
 |ref hb h9 h1 _ _ ih2=>have:=Rd.ref hb h9 h1 ih2;simpa using this
 |fn h1 _ _ ih2=>simp only [List.cons_append,List.append_assoc];exact Rd.fn h1 ih2
 |ei _ ih=>exact .ei ih
theorem Rd.cv {w:World} {v:Value} {vs:List Value} {x:AV} {xs:List AV} {f:List Nat} (h:Rd w (v::vs) (x::xs) f):
  ∃f1 f2,f=f1++f2∧Rd w [v] [x] f1∧Rd w vs xs f2:=by
 cases h with
 |int a h=>exact⟨[],f,rfl, .int a .nil,h⟩
 |bool h=>exact⟨[],f,rfl, .bool .nil,h⟩
 |str a h=>exact⟨[],f,rfl, .str a .nil,h⟩
 |fb h=>exact⟨[],f,rfl, .fb .nil,h⟩
 |gj hb h1 h2 h3 h4 h5 h6 FF h7 h=>rename_i b o n c ys cs C t fz sz f1 f2;exact⟨b::(f1++ []),f2,by simp, .gj hb h1 h2 h3 h4 h5 h6 FF h7 .nil,h⟩
 |agg h9 h1 h=>rename_i f1 f2;exact⟨f1++ [],f2,by simp, .agg h9 h1 .nil,h⟩
 |tup h1 h=>rename_i f1 f2;exact⟨f1++ [],f2,by simp, .tup h1 .nil,h⟩
 |ref hb h9 h1 h=>rename_i b C t fz x f1 f2;exact⟨b::(f1++ []),f2,by simp, .ref hb h9 h1 .nil,h⟩
 |fn h1 h=>rename_i f1 f2;exact⟨f1++ [],f2,by simp, .fn h1 .nil,h⟩
 |ei h=>exact⟨[],f,rfl, .ei .nil,h⟩
theorem Rd.fu {w:World}: ∀{vs us:List Value} {xs ys:List AV} {f:List Nat},vs.length=xs.length→Rd w (vs++us) (xs++ys) f→ ∃f1 f2,f=f1++f2∧Rd w vs xs f1∧Rd w us ys f2
 | [],us, [],ys,f,_,h=>⟨[],f,rfl, .nil,h⟩
 |v::vs,us,x::xs,ys,f,hl,h=>by obtain⟨f1,f2,rfl,h1,h2⟩:=Rd.cv h;obtain⟨f3,f4,rfl,h3,h4⟩:=Rd.fu (vs:=vs) (xs:=xs) (by simpa using hl) h2;exact⟨f1++f3,f4,by simp,h1.app h3,h4⟩
theorem Rd.piece {w:World} {vs:List Value} {xs:List AV} {f:List Nat} (h:Rd w vs xs f) (o n:Nat):
  ∃g,(∀b∈g,b∈f)∧Rd w ((vs.drop o).take n) ((xs.drop o).take n) g:=by
 have hl:=h.len;have e1:vs=vs.take o++vs.drop o:=(List.take_append_drop o vs).symm;have e2:xs=xs.take o++xs.drop o:=(List.take_append_drop o xs).symm;rw [e1,e2]at h;obtain⟨f1,f2,rfl,_,h2⟩:=Rd.fu (by simp [hl]) h;have e3:vs.drop o=(vs.drop o).take n++(vs.drop o).drop n:=(List.take_append_drop _ _).symm;have e4:xs.drop o=(xs.drop o).take n++(xs.drop o).drop n:=(List.take_append_drop _ _).symm;rw [e3,e4]at h2;obtain⟨f3,f4,rfl,h3,_⟩:=Rd.fu (by simp [hl]) h2;exact⟨f3,fun b hb=>by simp [hb],h3⟩
theorem Rd.at {w:World} {vs:List Value} {xs:List AV} {f:List Nat} (h:Rd w vs xs f) {i:Nat} {x:AV} (hx:xs[i]?=some x):
  ∃v g,vs[i]?=some v∧(∀b∈g,b∈f)∧Rd w [v] [x] g:=by
 have hi:=Se hx;have hl:=h.len;obtain⟨g,hg,hr⟩:=h.piece i 1;have hv:(vs.drop i).take 1= [vs[i]'(by omega)]:=by rw [List.drop_eq_getElem_cons (by omega),List.take_succ_cons,List.take_zero]
 have CV:(xs.drop i).take 1= [x]:=by rw [List.drop_eq_getElem_cons hi,List.take_succ_cons,List.take_zero];simpa [hi]using hx
 rw [hv,CV]at hr;exact⟨_,g,by simp [show i<vs.length by omega],hg,hr⟩
theorem Rd.kind {w:World} {v:Value} {x:AV} {f:List Nat} (h:Rd w [v] [x] f):
  (∃k n,v= .int k n∧x= .int k n∧Ei k n∧f= [])∨(∃b,v= .bool b∧x= .bool b∧f= [])∨(∃s:ByteArray,v= .string s∧x= .str s.data.toList∧s.size≤9223372036854775807∧f= [])∨
  (∃a c,v= .slice a 0 c∧x= .sl []∧f= [])∨
  (∃(b o n c:Nat) (ys:List AV) (cs:List Value) (C:Array Value) (t:TypeId) (fz:Nat × Nat) (sz:Nat) (f1:List Nat),v= .slice (some ⟨b,o,none⟩) n c∧x= .sl ys∧f=b::f1∧w.heap[b]?=some (.cells C t fz)∧0<n∧(n≤9223372036854775807∧n≤c)∧ys.length=n∧(∀y∈ys,y.cells.length=sz)∧0<sz∧
   (∀(j:Nat) (u:Value),cs[j]?=some u→C[o+j]?=some u)∧(∀u∈cs,u.oneCell'=true)∧Rd w cs (AM ys) f1)∨
  (∃as_ cs,v= .agg as_.toArray∧x= .agg cs∧(∀u∈as_,u.oneCell'=true)∧Rd w as_ cs f)∨(∃as_ cs,v= .tuple as_.toArray∧x= .tup cs∧Rd w as_ cs f)∨
  (∃b C t fz y f1,v= .pointer (some ⟨b,0,none⟩)∧x= .ref y∧f=b::f1∧w.heap[b]?=some (.cells C t fz)∧(∀u∈C.toList,u.oneCell'=true)∧Rd w C.toList y.cells f1)∨
  (∃g as_ cs,v= .func (.func g) #[] as_.toArray∧x= .fn g cs∧Rd w as_ cs f)∨(v= .pointer none∧x= .ei∧f= []):=by
 cases h with
 |int a h=>cases h;exact .inl ⟨_,_,rfl,rfl,a,rfl⟩
 |bool h=>cases h;exact .inr (.inl ⟨_,rfl,rfl,rfl⟩)
 |str a h=>cases h;exact .inr (.inr (.inl ⟨_,rfl,rfl,a,rfl⟩))
 |fb h=>cases h;exact .inr (.inr (.inr (.inl ⟨_,_,rfl,rfl,rfl⟩)))
 |gj hb h1 h2 h3 h4 h5 h6 FF h7 h=>cases h;exact .inr (.inr (.inr (.inr (.inl ⟨_,_,_,_,_,_,_,_,_,_,_,rfl,rfl,by simp,hb,h1,h2,h3,h4,h5,h6,FF,h7⟩))))
 |agg h9 h1 h=>cases h;exact .inr (.inr (.inr (.inr (.inr (.inl ⟨_,_,rfl,rfl,h9,by simpa using h1⟩)))))
 |tup h1 h=>cases h;exact .inr (.inr (.inr (.inr (.inr (.inr (.inl ⟨_,_,rfl,rfl,by simpa using h1⟩))))))
 |ref hb h9 h1 h=>cases h;exact .inr (.inr (.inr (.inr (.inr (.inr (.inr (.inl ⟨_,_,_,_,_,_,rfl,rfl,by simp,hb,h9,h1⟩)))))))
 |fn h1 h=>cases h;exact .inr (.inr (.inr (.inr (.inr (.inr (.inr (.inr (.inl ⟨_,_,_,rfl,rfl,by simpa using h1⟩))))))))
 |ei h=>cases h;exact .inr (.inr (.inr (.inr (.inr (.inr (.inr (.inr (.inr ⟨rfl,rfl,rfl⟩))))))))
def AV.fld (x:AV) (o n:Nat) (g:Bool):AV:=if g then .agg ((x.cells.drop o).take n)else(x.cells[o]?).getD .undef
def AV.proj (x:AV) (i:Nat):AV:=match x with| .tup vs=>(vs[i]?).getD .undef|_=> .undef
def AV.deref (x:AV):AV:=match x with| .ref y=>y|_=> .undef
def AV.len (x:AV):AV:=match x with| .sl xs=> .int .i64 xs.length|_=> .undef
def AV.slen (x:AV):AV:=match x with| .str s=> .int .i64 s.length|_=> .undef
def AV.nth (x:AV) (k:Nat):AV:=match x with| .sl xs=>(xs[k]?).getD .undef|_=> .undef
def AV.sidx (x i:AV):AV:=match x,i with| .str s, .int _ k=>(match s[k.toNat]? with|some b=> .int .u8 b.toNat|none=> .undef)|_,_=> .undef
def AV.idx (x i:AV):AV:=match i with| .int _ k=>x.nth k.toNat|_=> .undef
def AV.win (x lo hi:AV):AV:=
 match lo,hi with
 | .int _ a, .int _ b=>(match x with| .sl xs=> .sl ((xs.take b.toNat).drop a.toNat)|_=> .undef)
 |_,_=> .undef
def AV.swin (x lo hi:AV):AV:=
 match lo,hi with
 | .int _ a, .int _ b=>(match x with| .str s=> .str ((s.take b.toNat).drop a.toNat)|_=> .undef)
 |_,_=> .undef
def AV.app (x y:AV):AV:=match x,y with| .sl xs, .sl ys=> .sl (xs++ys)|_,_=> .undef
def AV.ec (x i v:AV):AV:=match x,i with| .sl xs, .int _ k=> .sl (xs.set k.toNat v)|_,_=> .undef
def AV.eb (x:AV) (o:Nat) (v:AV) (g:Bool):AV:=
 if g then .agg (x.cells.take o++v.cells++x.cells.drop (o+v.cells.length))else v
def AV.rep (n z:AV):AV:=match n with| .int _ k=> .sl (List.replicate k.toNat z)|_=> .undef
def AV.conv (k:IntKind) (x:AV):AV:=match x with| .int _ n=> .int k (k.wrap n)|_=> .undef
def AV.gh (x:AV):AV:=match x with| .bool b=> .bool (!b)|_=> .undef
def AV.je (x:AV):AV:=match x with| .int k n=> .int k (k.wrap (0-n))|_=> .undef
def AV.cond (c x y:AV):AV:=match c with| .bool true=>x| .bool false=>y|_=> .undef
def AV.bytes (x:AV):AV:=match x with| .str s=> .sl (s.map fun b=> .int .u8 b.toNat)|_=> .undef
def KP:List AV→Option (List UInt8)
 | []=>some []
 | .int .u8 n::xs=>(KP xs).map (UInt8.ofNat n.toNat:: ·)
 |_::_=>none
def AV.text (x:AV):AV:=match x with| .sl xs=>(match KP xs with|some s=>if xs.length≤9223372036854775807 then .str s else .undef|none=> .undef)|_=> .undef
def CR (op:BinOp) (k:IntKind) (a b:Int):AV:=
 match op with
 | .add=> .int k (k.wrap (a+b))
 | .sub=> .int k (k.wrap (a-b))
 | .mul=> .int k (k.wrap (a*b))
 | .quo=> .int k (k.wrap (a.tdiv b))
 | .rem=> .int k (a.tmod b)
 | .eql=> .bool (a==b)
 | .neq=> .bool (a !=b)
 | .lss=> .bool (a<b)
 | .leq=> .bool (a≤b)
 | .gtr=> .bool (a>b)
 | .geq=> .bool (a≥b)
 | .and=> .int k (k.wrap (BitVec.ofInt k.bits a&&&BitVec.ofInt k.bits b).toNat)
 | .or=> .int k (k.wrap (BitVec.ofInt k.bits a|||BitVec.ofInt k.bits b).toNat)
 | .xor=> .int k (k.wrap (BitVec.ofInt k.bits a^^^BitVec.ofInt k.bits b).toNat)
 | .andNot=> .int k (k.wrap (BitVec.ofInt k.bits a&&& ~~~BitVec.ofInt k.bits b).toNat)
 | .shl=> .int k (k.wrap (a*2^(min b.toNat k.bits)))
 | .shr=> .int k (a.fdiv (2^(min b.toNat k.bits)))
def O7 (op:BinOp) (a b:List UInt8):AV:=
 match op with
 | .add=> .str (a++b)
 | .eql=> .bool (a==b)
 | .neq=> .bool (a !=b)
 | .lss=> .bool (Op.bytesLess a b)
 | .leq=> .bool (Op.bytesLess a b||a==b)
 | .gtr=> .bool (!(Op.bytesLess a b||a==b))
 | .geq=> .bool (!Op.bytesLess a b)
 |_=> .undef
def AV.bin (op:BinOp) (x y:AV):AV:=
 match x,y with
 | .int k a, .int k' b=>if k=k'∨op= .shl∨op= .shr then CR op k a b else .undef
 |_,_=> .undef
def AV.sbin (op:BinOp) (x y:AV):AV:=
 match x,y with
 | .str a, .str b=>O7 op a b
 |_,_=> .undef
def AV.bbin (op:BinOp) (x y:AV):AV:=
 match x,y with
 | .bool a, .bool b=>(match op with| .eql=> .bool (a==b)| .neq=> .bool (a !=b)|_=> .undef)
 |_,_=> .undef
inductive SK where
 |int (k:IntKind)
 |bool
 |str
def AV.sk:AV→Option SK
 | .int k _=>some (.int k)
 | .bool _=>some .bool
 | .str _=>some .str
 |_=>none
def AV.seq:AV→AV→Bool
 | .int _ a, .int _ b=>a==b
 | .bool a, .bool b=>a==b
 | .str a, .str b=>a==b
 |_,_=>false
def AV.leq:List AV→List AV→Bool
 | [], []=>true
 |x::xs,y::ys=>x.seq y&&AV.leq xs ys
 |_,_=>false
def AV.aeq (x y:AV):AV:=match x,y with
 | .agg xs, .agg ys=> .bool (AV.leq xs ys)
 |_,_=> .undef
mutual
inductive E where
 |var (i:Nat)
 |int (k:IntKind) (n:Int)
 |bool (b:Bool)
 |str (s:ByteArray)
 |ei
 |lst (es:EL)
 |mk (es:EL)
 |tup (es:EL)
 |ref (e:E)
 |fn (f:Nat) (es:EL)
 |fld (e:E) (o n:Nat) (g:Bool)
 |proj (e:E) (i:Nat)
 |deref (e:E)
 |len (e:E)
 |slen (e:E)
 |idx (e i:E)
 |sidx (e i:E)
 |win (e lo hi:E)
 |swin (e lo hi:E)
 |app (a b:E)
 |set (x i v:E)
 |put (x:E) (o:Nat) (v:E) (g:Bool)
 |rep (n z:E)
 |conv (k:IntKind) (e:E)
 |bin (op:BinOp) (a b:E)
 |sbin (op:BinOp) (a b:E)
 |bbin (op:BinOp) (a b:E)
 |aeq (a b:E)
 |not (a:E)
 |neg (a:E)
 |ite (c a b:E)
 |bytes (a:E)
 |text (a:E)
inductive EL where
 |nil
 |cons (e:E) (es:EL)
end
mutual
def E.den (ρ:List AV):E→AV
 | .var i=>(ρ[i]?).getD .undef
 | .int k n=> .int k n
 | .bool b=> .bool b
 | .str s=> .str s.data.toList
 | .ei=> .ei
 | .lst es=> .sl (es.den ρ)
 | .mk es=> .agg (es.den ρ)
 | .tup es=> .tup (es.den ρ)
 | .ref e=> .ref (e.den ρ)
 | .fn f es=> .fn f (es.den ρ)
 | .fld e o n g=>(e.den ρ).fld o n g
 | .proj e i=>(e.den ρ).proj i
 | .deref e=>(e.den ρ).deref
 | .len e=>(e.den ρ).len
 | .slen e=>(e.den ρ).slen
 | .idx e i=>(e.den ρ).idx (i.den ρ)
 | .sidx e i=>(e.den ρ).sidx (i.den ρ)
 | .win e lo hi=>(e.den ρ).win (lo.den ρ) (hi.den ρ)
 | .swin e lo hi=>(e.den ρ).swin (lo.den ρ) (hi.den ρ)
 | .app a b=>(a.den ρ).app (b.den ρ)
 | .set x i v=>(x.den ρ).ec (i.den ρ) (v.den ρ)
 | .put x o v g=>(x.den ρ).eb o (v.den ρ) g
 | .rep n z=>AV.rep (n.den ρ) (z.den ρ)
 | .conv k e=>(e.den ρ).conv k
 | .bin op a b=>AV.bin op (a.den ρ) (b.den ρ)
 | .sbin op a b=>AV.sbin op (a.den ρ) (b.den ρ)
 | .bbin op a b=>AV.bbin op (a.den ρ) (b.den ρ)
 | .aeq a b=>AV.aeq (a.den ρ) (b.den ρ)
 | .not a=>(a.den ρ).gh
 | .neg a=>(a.den ρ).je
 | .ite c a b=>AV.cond (c.den ρ) (a.den ρ) (b.den ρ)
 | .bytes a=>(a.den ρ).bytes
 | .text a=>(a.den ρ).text
def EL.den (ρ:List AV):EL→List AV
 | .nil=> []
 | .cons e es=>e.den ρ::es.den ρ
end
mutual
def E.beq:E→E→Bool
 | .var i, .var j=>i==j
 | .int k n, .int k' n'=>k==k'&&n==n'
 | .bool b, .bool b'=>b==b'
 | .str s, .str s'=>s.data.toList==s'.data.toList
 | .ei, .ei=>true
 | .lst a, .lst b=>a.beq b
 | .mk a, .mk b=>a.beq b
 | .tup a, .tup b=>a.beq b
 | .ref a, .ref b=>a.beq b
 | .fn f a, .fn g b=>f==g&&a.beq b
 | .fld a o n g, .fld b o' n' g'=>o==o'&&n==n'&&g==g'&&a.beq b
 | .proj a i, .proj b j=>i==j&&a.beq b
 | .deref a, .deref b=>a.beq b
 | .len a, .len b=>a.beq b
 | .slen a, .slen b=>a.beq b
 | .idx a i, .idx b j=>a.beq b&&i.beq j
 | .sidx a i, .sidx b j=>a.beq b&&i.beq j
 | .win a i j, .win b k l=>a.beq b&&i.beq k&&j.beq l
 | .swin a i j, .swin b k l=>a.beq b&&i.beq k&&j.beq l
 | .app a b, .app c d=>a.beq c&&b.beq d
 | .set a b c, .set d e f=>a.beq d&&b.beq e&&c.beq f
 | .put a o b g, .put c o' d g'=>o==o'&&g==g'&&a.beq c&&b.beq d
 | .rep a b, .rep c d=>a.beq c&&b.beq d
 | .conv k a, .conv k' b=>k==k'&&a.beq b
 | .bin o a b, .bin o' c d=>o==o'&&a.beq c&&b.beq d
 | .sbin o a b, .sbin o' c d=>o==o'&&a.beq c&&b.beq d
 | .bbin o a b, .bbin o' c d=>o==o'&&a.beq c&&b.beq d
 | .aeq a b, .aeq c d=>a.beq c&&b.beq d
 | .not a, .not b=>a.beq b
 | .neg a, .neg b=>a.beq b
 | .ite a b c, .ite d e f=>a.beq d&&b.beq e&&c.beq f
 | .bytes a, .bytes b=>a.beq b
 | .text a, .text b=>a.beq b
 |_,_=>false
def EL.beq:EL→EL→Bool
 | .nil, .nil=>true
 | .cons e es, .cons f fs=>e.beq f&&es.beq fs
 |_,_=>false
end
mutual
theorem E.ah (ρ:List AV): ∀(a b:E),a.beq b=true→a.den ρ=b.den ρ
 |a,b,h=>by
  cases a<;>cases b<;>simp only [E.beq,Ac,beq_iff_eq,reduceCtorEq]at h<;>simp only [E.den]
  case var=>rw [h]
  case int=>rw [h.1,h.2]
  case bool=>rw [h]
  case str=>rw [h]
  case lst=>rw [EL.ah ρ _ _ h]
  case mk=>rw [EL.ah ρ _ _ h]
  case tup=>rw [EL.ah ρ _ _ h]
  case ref=>rw [E.ah ρ _ _ h]
  case fn=>rw [EL.ah ρ _ _ h.2,h.1]
  case fld=>rw [E.ah ρ _ _ h.2,h.1.1.1,h.1.1.2,h.1.2]
  case proj=>rw [E.ah ρ _ _ h.2,h.1]
  case deref=>rw [E.ah ρ _ _ h]
  case len=>rw [E.ah ρ _ _ h]
  case slen=>rw [E.ah ρ _ _ h]
  case idx=>rw [E.ah ρ _ _ h.1,E.ah ρ _ _ h.2]
  case sidx=>rw [E.ah ρ _ _ h.1,E.ah ρ _ _ h.2]
  case win=>rw [E.ah ρ _ _ h.1.1,E.ah ρ _ _ h.1.2,E.ah ρ _ _ h.2]
  case swin=>rw [E.ah ρ _ _ h.1.1,E.ah ρ _ _ h.1.2,E.ah ρ _ _ h.2]
  case app=>rw [E.ah ρ _ _ h.1,E.ah ρ _ _ h.2]
  case set=>rw [E.ah ρ _ _ h.1.1,E.ah ρ _ _ h.1.2,E.ah ρ _ _ h.2]
  case put=>rw [E.ah ρ _ _ h.1.2,E.ah ρ _ _ h.2,h.1.1.1,h.1.1.2]
  case rep=>rw [E.ah ρ _ _ h.1,E.ah ρ _ _ h.2]
  case conv=>rw [E.ah ρ _ _ h.2,h.1]
  case bin=>rw [E.ah ρ _ _ h.1.2,E.ah ρ _ _ h.2,h.1.1]
  case sbin=>rw [E.ah ρ _ _ h.1.2,E.ah ρ _ _ h.2,h.1.1]
  case bbin=>rw [E.ah ρ _ _ h.1.2,E.ah ρ _ _ h.2,h.1.1]
  case aeq=>rw [E.ah ρ _ _ h.1,E.ah ρ _ _ h.2]
  case not=>rw [E.ah ρ _ _ h]
  case neg=>rw [E.ah ρ _ _ h]
  case ite=>rw [E.ah ρ _ _ h.1.1,E.ah ρ _ _ h.1.2,E.ah ρ _ _ h.2]
  case bytes=>rw [E.ah ρ _ _ h]
  case text=>rw [E.ah ρ _ _ h]
theorem EL.ah (ρ:List AV): ∀(a b:EL),a.beq b=true→a.den ρ=b.den ρ
 | .nil, .nil,_=>rfl
 | .cons a as_, .cons b bs,h=>by simp only [EL.beq,Ac]at h;simp only [EL.den];rw [E.ah ρ _ _ h.1,EL.ah ρ _ _ h.2]
 | .nil, .cons ..,h=>by simp [EL.beq]at h
 | .cons .., .nil,h=>by simp [EL.beq]at h
end
mutual
def E.sc (n:Nat):E→Bool
 | .var i=>decide (i<n)
 | .int .. | .bool _| .str _| .ei=>true
 | .lst es| .mk es| .tup es| .fn _ es=>es.sc n
 | .ref e| .fld e _ _ _| .proj e _| .deref e| .len e| .slen e| .conv _ e| .not e| .neg e| .bytes e| .text e=>e.sc n
 | .idx a b| .sidx a b| .app a b| .put a _ b _| .rep a b| .bin _ a b| .sbin _ a b| .bbin _ a b| .aeq a b=>a.sc n&&b.sc n
 | .win a b c| .swin a b c| .set a b c| .ite a b c=>a.sc n&&b.sc n&&c.sc n
def EL.sc (n:Nat):EL→Bool
 | .nil=>true
 | .cons e es=>e.sc n&&es.sc n
end
mutual
theorem E.ar (ρ τ τ':List AV): ∀(a:E),a.sc ρ.length=true→a.den (ρ++τ)=a.den (ρ++τ')
 |a,h=>by
  cases a<;>simp only [E.sc,Ac,decide_eq_true_eq]at h<;>simp only [E.den]
  case var=>rw [List.getElem?_append_left h,List.getElem?_append_left h]
  case lst=>rw [EL.ar ρ τ τ' _ h]
  case mk=>rw [EL.ar ρ τ τ' _ h]
  case tup=>rw [EL.ar ρ τ τ' _ h]
  case ref=>rw [E.ar ρ τ τ' _ h]
  case fn=>rw [EL.ar ρ τ τ' _ h]
  case fld=>rw [E.ar ρ τ τ' _ h]
  case proj=>rw [E.ar ρ τ τ' _ h]
  case deref=>rw [E.ar ρ τ τ' _ h]
  case len=>rw [E.ar ρ τ τ' _ h]
  case slen=>rw [E.ar ρ τ τ' _ h]
  case idx=>rw [E.ar ρ τ τ' _ h.1,E.ar ρ τ τ' _ h.2]
  case sidx=>rw [E.ar ρ τ τ' _ h.1,E.ar ρ τ τ' _ h.2]
  case win=>rw [E.ar ρ τ τ' _ h.1.1,E.ar ρ τ τ' _ h.1.2,E.ar ρ τ τ' _ h.2]
  case swin=>rw [E.ar ρ τ τ' _ h.1.1,E.ar ρ τ τ' _ h.1.2,E.ar ρ τ τ' _ h.2]
  case app=>rw [E.ar ρ τ τ' _ h.1,E.ar ρ τ τ' _ h.2]
  case set=>rw [E.ar ρ τ τ' _ h.1.1,E.ar ρ τ τ' _ h.1.2,E.ar ρ τ τ' _ h.2]
  case put=>rw [E.ar ρ τ τ' _ h.1,E.ar ρ τ τ' _ h.2]
  case rep=>rw [E.ar ρ τ τ' _ h.1,E.ar ρ τ τ' _ h.2]
  case conv=>rw [E.ar ρ τ τ' _ h]
  case bin=>rw [E.ar ρ τ τ' _ h.1,E.ar ρ τ τ' _ h.2]
  case sbin=>rw [E.ar ρ τ τ' _ h.1,E.ar ρ τ τ' _ h.2]
  case bbin=>rw [E.ar ρ τ τ' _ h.1,E.ar ρ τ τ' _ h.2]
  case aeq=>rw [E.ar ρ τ τ' _ h.1,E.ar ρ τ τ' _ h.2]
  case not=>rw [E.ar ρ τ τ' _ h]
  case neg=>rw [E.ar ρ τ τ' _ h]
  case ite=>rw [E.ar ρ τ τ' _ h.1.1,E.ar ρ τ τ' _ h.1.2,E.ar ρ τ τ' _ h.2]
  case bytes=>rw [E.ar ρ τ τ' _ h]
  case text=>rw [E.ar ρ τ τ' _ h]
theorem EL.ar (ρ τ τ':List AV): ∀(a:EL),a.sc ρ.length=true→a.den (ρ++τ)=a.den (ρ++τ')
 | .nil,_=>rfl
 | .cons a as_,h=>by simp only [EL.sc,Ac]at h;simp only [EL.den];rw [E.ar ρ τ τ' _ h.1,EL.ar ρ τ τ' _ h.2]
end
end Go.Proofs.YtmbknelgbjlhnaaGreat
end
section
namespace Go.Proofs.YtmbknelgbjlhnaaGreat
def uD (_:Nat):Bool:=false
end Go.Proofs.YtmbknelgbjlhnaaGreat
end
section
namespace Go.Proofs.YtmbknelgbjlhnaaGreat
open Go.RowKit
abbrev Gd:=List (E × Bool)
mutual
inductive DT where
 |flat
 |row (ety sz:Nat) (l:AJ)
inductive AJ where
 |nil
 |cons (d:DT) (l:AJ)
end
def AJ.toList:AJ→List DT
 | .nil=> []
 | .cons s l=>s::l.toList
def AJ.of:List DT→AJ
 | []=> .nil
 |s::l=> .cons s (AJ.of l)
mutual
def DT.beq:DT→DT→Bool
 | .flat, .flat=>true
 | .row e z l, .row e' z' l'=>e==e'&&z==z'&&l.beq l'
 |_,_=>false
def AJ.beq:AJ→AJ→Bool
 | .nil, .nil=>true
 | .cons a as_, .cons b bs=>a.beq b&&as_.beq bs
 |_,_=>false
end
def DT.cd:DT→Bool
 | .flat=>true
 |_=>false
abbrev Lq:=Option (E × Nat × Nat)
mutual
inductive SV where
 |undef
 |e (x:E)
 |cr
 |emp
 |own (t g:Nat)
 |cy (t o:Nat)
 |da (t g:Nat) (i:E) (sz o:Nat)
 |dv (x i:E) (sz o:Nat)
 |dt (x:E) (o:Nat)
 |agg (cs:Bb)
 |tup (vs:Bb)
 |fn (f:Nat) (cs:Bb)
 |gd (gs:Gd) (s:SV)
 |via (t g n:Nat) (p:Lq) (x:E)
 |vptr (t g n:Nat) (p:Lq) (x i:E) (sz o:Nat)
 |wown (t g:Nat) (lo:E) (sz:Nat)
 |lent (i:Nat)
inductive Bb where
 |nil
 |cons (s:SV) (l:Bb)
end
def Bb.toList:Bb→List SV
 | .nil=> []
 | .cons s l=>s::l.toList
def Bb.of:List SV→Bb
 | []=> .nil
 |s::l=> .cons s (Bb.of l)
def EL.of:List E→EL
 | []=> .nil
 |s::l=> .cons s (EL.of l)
inductive Ad where
 |box (ty:Nat) (g:Bool) (cs:List SV)
 |row (ety sz g:Nat) (x:E) (deep:Bool)
 |cc (g:Nat) (x:E)
 |gd (gs:Gd) (e:Ad)
 |dead
 |deep (ety sz:Nat) (l:List DT) (g ep:Nat) (x:E)
 |hol (ety sz:Nat) (l:List DT) (g ep:Nat) (x i:E) (o u:Nat)
inductive Cn where
 |dfd (x:E)
 |agg (x:E) (n:Nat)
 |cells (x:E) (n:Nat)
 |inb (i x:E) (sz:Nat)
 |inbS (i x:E)
 |win (x lo hi:E)
 |winS (x lo hi:E)
 |room (x y:E) (bytes:Nat)
 |roomS (x y:E)
 |mkroom (n:E) (bytes:Nat)
 |nz (x:E)
 |nn (x:E)
 |isref (x:E) (n:Nat)
 |issl (x:E) (sz:Nat)
 |flat (x:E) (n:Nat) (g:Bool)
 |flatS (x:E) (sz:Nat)
 |kinds (x:E) (ks:List SK)
inductive PM where
 |ro
 |bx (own own':List Bool)
 |va (own:List Bool)
 |mu (own:List Bool)
structure F7 where
 dc:List PM
 res:List Bool
 ft:List TypeId:= []
 dp:Bool:=false
 wn:Bool:=false
 fz:Bool:=false
 lo:List Bool:= []
structure BB where
 f:Nat→Option F7
 dp:Bool:=false
 wn:Bool:=false
 fz:Bool:=false
instance:CoeFun BB (fun _=>Nat→Option F7):=⟨BB.f⟩
structure zEK where
 fn:Nat ⊕ E
 args:List E
structure AP where
 c6:List Cn:= []
 call:Option zEK:=none
 cq:Option E:=none
 val:SV:= .undef
 bt:List (Nat × Ad):= []
def Lj (t:Nat):Bool:=decide (t<100000)&&(t % 1000==0||decide (500≤t % 1000))
structure St where
 sl:List SV
 hp:List (Nat × Ad)
 nx:Nat
 nv:Nat
section
variable (P:Program)
def Ak (t:TypeId):Bool:=match P.underlying t with|some (.struct _)=>true|some (.array _ _)=>true|_=>false
def G7 (t:TypeId):Bool:=match P.info? t with
 |some i=>(match i.zero with|some z=>z.cells.size==i.size&&i.size !=0|none=>false)
 |none=>false
def CM (t:TypeId):Bool:=(P.info? t).isSome&&(P.underlying t).isSome
def Xu:Nat→TypeId→List TypeId
 |0,t=> [t]
 |n+1,t=>match P.underlying t with
  |some (.struct fs)=>fs.toList.flatMap fun f=>Xu n f.type
  |some (.array k e)=>(List.replicate k (Xu n e)).flatten
  |_=> [t]
def AZ (t:TypeId):List TypeId:=Xu P 6 t
def BM (t:TypeId):Bool:=(AZ P t).all fun u=>match P.underlying u with|some (.int _)=>true|some .bool=>true|some .string=>true|_=>false
def Cv (t:TypeId):Option TypeId:=match P.underlying t with|some (.slice e)=>some e|_=>none
def X2:Nat→TypeId→Option DT
 |0,_=>none
 |n+1,t=>match P.underlying t with
  |some (.int _)=>some .flat
  |some .bool=>some .flat
  |some .string=>some .flat
  |some (.slice e)=>if P.cellsOf e=0∨(AZ P e).length≠P.cellsOf e then none else((AZ P e).mapM (X2 n)).map fun l=> .row e (P.cellsOf e) (AJ.of l)
  |_=>none
def Dm (t:TypeId):Option DT:=if uD t then none else X2 P 8 t
end
def D4:Value→Option SV
 | .int k n=>if k.wrap n=n then some (.e (.int k n))else none
 | .bool b=>some (.e (.bool b))
 | .string s=>if s.size≤9223372036854775807 then some (.e (.str s))else none
 | .slice none 0 0=>some .cr
 | .pointer none=>some (.e .ei)
 | .agg cs=>go cs.toList>>=fun l=>some (.agg (Bb.of l))
 |_=>none
where
 go:List Value→Option (List SV)
 | []=>some []
 | .int k n::l=>if k.wrap n=n then(go l).map (.e (.int k n):: ·)else none
 | .bool b::l=>(go l).map (.e (.bool b):: ·)
 | .string s::l=>if s.size≤9223372036854775807 then(go l).map (.e (.str s):: ·)else none
 | .slice none 0 0::l=>(go l).map (.cr:: ·)
 | .pointer none::l=>(go l).map (.e .ei:: ·)
 |_=>none
def MQ (g:E × Bool) (gs:Gd):Bool:=gs.any fun h=>h.1.beq g.1&&h.2==g.2
def Ki (hs gs:Gd):Bool:=hs.all fun h=>MQ h gs
def ungd (gs:Gd):SV→Option SV
 | .gd hs s=>if Ki hs gs then some s else none
 | .undef=>none
 |s=>some s
def Kg (gs:Gd):Ad→Option Ad
 | .gd hs e=>if Ki hs gs then some e else none
 |e=>some e
def mkGd (gs:Gd) (s:SV):SV:=match gs with| []=>s|_=> .gd gs s
def Co (gs:Gd) (e:Ad):Ad:=match gs with| []=>e|_=> .gd gs e
section
variable (hp:Nat→Option Ad) (gs:Gd)
def look (t:Nat):Option Ad:=(hp t).bind (Kg gs)
def GY (t g:Nat):Option E:=match look hp gs t with
 |some (.row _ _ g' x _)=>if g=g' then some x else none
 |some (.cc g' x)=>if g=g' then some x else none
 |some (.deep _ _ _ g' _ x)=>if g=g' then some x else none
 |_=>none
def Lm (t n:Nat):Bool:=match look hp gs t with
 |some (.deep _ _ _ _ ep _)=>n==ep
 |_=>false
mutual
def A5:Nat→SV→Option E
 |0,_=>none
 |n+1,s=>match s with
  | .undef=>none
  | .e x=>some x
  | .cr=>some (.lst .nil)
  | .emp=>some (.lst .nil)
  | .own t g=>GY hp gs t g
  | .cy t 0=>match look hp gs t with
   |some (.box _ _ cs)=>(BZ n cs).map fun l=> .ref (.mk l)
   |_=>none
  | .cy .. =>none
  | .da .. =>none
  | .dv .. =>none
  | .dt x 0=>some x
  | .dt .. =>none
  | .agg cs=>(BZ n cs.toList).map .mk
  | .tup cs=>(BZ n cs.toList).map .tup
  | .fn f cs=>(BZ n cs.toList).map (.fn f)
  | .gd hs s=>if Ki hs gs then A5 n s else none
  | .via t _ m _ x=>if Lm hp gs t m then some x else none
  | .vptr .. =>none
  | .wown t g lo z=>match look hp gs t with
   |some (.row _ z' g' x _)=>if g=g'∧z=z' then some (.win x lo (.len x))else none
   |_=>none
  | .lent _=>none
def BZ:Nat→List SV→Option EL
 |0,_=>none
 |_+1, []=>some .nil
 |n+1,s::l=>match A5 n s,BZ n l with
  |some x,some xs=>some (.cons x xs)
  |_,_=>none
end
def Bv:Nat→List SV→List Nat
 |0,_=> []
 |_+1, []=> []
 |n+1,s::l=>(match s with
  | .own t _=> [t]
  | .da t .. => [t]
  | .cy t _=>t::(match look hp gs t with|some (.box _ _ cs)=>Bv n cs|_=> [])
  | .agg cs=>Bv n cs.toList
  | .tup cs=>Bv n cs.toList
  | .fn _ cs=>Bv n cs.toList
  | .gd _ s=>Bv n [s]
  | .via t .. => [t]
  | .vptr t .. => [t]
  | .wown t .. => [t]
  |_=> [])++Bv n l
end
def AN:Nat:=200
def CW (hp:Nat→Option Ad) (gs:Gd) (ts:List Nat):Option (List (Nat × Ad)):=
 match ts with
 | []=>some []
 |t::ts=>match look hp gs t,CW hp gs ts with
  |some (.row _ _ g x _),some l=>if gs.isEmpty then some ((t, .cc g x)::l)else none
  |some (.deep _ _ _ g _ x),some l=>if gs.isEmpty then some ((t, .cc g x)::l)else none
  |some (.cc ..),some l=>some l
  |some (.box ..),some l=>some l
  |_,_=>none
def Lk (hp:Nat→Option Ad) (gs:Gd) (ts:List Nat):Bool:= !ts.any fun t=>match look hp gs t with|some (.box ..)=>true|_=>false
def kJ (P:Program) (t:TypeId) (x:E):Cn:=if Ak P t then .agg x (P.cellsOf t)else .cells x 1
def XQ (P:Program) (hp:Nat→Option Ad) (gs:Gd) (t:TypeId) (s:SV):Option (E × List (Nat × Ad) × Bool × List Cn):=
 match A5 hp gs AN s with
 |none=>none
 |some x=>
  if BM P t then some (x, [],true, [.flat x (P.cellsOf t) (Ak P t)])else
  if Lk hp gs (Bv hp gs (AN+1) [s])then
   match CW hp gs (Bv hp gs (AN+1) [s])with
   |none=>none
   |some l=>some (x,l,false, [kJ P t x])
  else none
def QF:E→Bool
 | .int .. =>true
 | .bool _=>true
 | .str _=>true
 |_=>false
def gH (hp:Nat→Option Ad) (gs:Gd) (d:DT) (s:SV):Option (List Nat × List Cn):=
 match d,s with
 | .flat, .e x=>some ([],if QF x then []else [.flat x 1 false])
 | .row _ z l, .cr=>if 0<z∧l.toList.length=z then some ([], [])else none
 | .row _ z l, .emp=>if 0<z∧l.toList.length=z then some ([], [])else none
 | .row e z l, .own u g=>(match look hp gs u with
  |some (.deep e' z' l' g' _ _)=>if g=g'∧e=e'∧z=z'∧(AJ.of l').beq l then some ([u], [])else none
  |some (.row e' z' g' _ true)=>if g=g'∧e=e'∧z=z'∧l.toList.all DT.cd∧l.toList.length=z then some ([u], [])else none
  |_=>none)
 |_,_=>none
def Lg (hp:Nat→Option Ad) (gs:Gd):List DT→List SV→Option (List Nat × List Cn)
 | [], []=>some ([], [])
 |d::ds,s::ss=>match gH hp gs d s,Lg hp gs ds ss with
  |some (us,ck),some (vs,cks)=>some (us++vs,ck++cks)
  |_,_=>none
 |_,_=>none
def Gs:SV→List SV × Bool
 | .agg cs=>(cs.toList,true)
 |s=>([s],false)
def O0 (P:Program) (hp:Nat→Option Ad) (gs:Gd) (t:TypeId) (ds:List DT) (s:SV):Option (E × List Nat × List Cn):=
 match A5 hp gs AN s with
 |none=>none
 |some x=>
  if ds.all DT.cd then some (x, [], [.flat x (P.cellsOf t) (Ak P t)])else
  if(Gs s).2 !=Ak P t then none else(Lg hp gs ds (Gs s).1).map fun r=>(x,r.1,r.2)
def Ss (P:Program) (hp:Nat→Option Ad) (gs:Gd) (e:TypeId) (ds:List DT):List SV→Option (List E × List Nat × List Cn)
 | []=>some ([], [], [])
 |s::ss=>match O0 P hp gs e ds s,Ss P hp gs e ds ss with
  |some (x,us,ck),some (xs,vs,cks)=>some (x::xs,us++vs,ck++cks)
  |_,_=>none
def Kb:List Nat→Bool
 | []=>true
 |x::l=> !l.contains x&&Kb l
def Ef (l:List Nat):List (Nat × Ad):=l.map fun u=>(u,Ad.dead)
def S5 (hp:Nat→Option Ad) (gs:Gd) (e z:Nat) (l:List DT) (s:SV):Option (List Nat):=
 match s with
 | .cr=>some []
 | .emp=>some []
 | .own u g=>(match look hp gs u with
  |some (.deep e' z' l' g' _ _)=>if g=g'∧e=e'∧z=z'∧(AJ.of l').beq (AJ.of l)then some [u]else none
  |_=>none)
 |_=>none
def OR (P:Program) (t:TypeId) (s:SV):Option (List SV × List Cn):=
 if Ak P t then
  match s with
  | .agg cs=>some (cs.toList, [])
  | .e x=>some ((List.range (P.cellsOf t)).map fun j=> .e (.fld x j 1 false), [.agg x (P.cellsOf t)])
  |_=>none
 else match s with
  | .e x=>some ([s],match x with| .int .. => []| .bool _=> []| .str _=> []| .ei=> []|x=> [.cells x 1])
  | .agg _=>none
  | .tup _=>none
  | .undef=>none
  | .gd .. =>none
  | .via .. =>none
  | .vptr .. =>none
  | .wown .. =>none
  | .lent _=>none
  |s=>some ([s], [])
def MV (P:Program) (t:TypeId) (cs:List SV) (o:Nat):Option SV:=
 if Ak P t then(if o+P.cellsOf t≤cs.length then some (.agg (Bb.of ((cs.drop o).take (P.cellsOf t))))else none)else cs[o]?
def Ph (cs:List SV) (o:Nat) (vs:List SV):List SV:=cs.take o++vs++cs.drop (o+vs.length)
def BU:E→Option IntKind
 | .int k _=>some k
 | .len _=>some .i64
 | .slen _=>some .i64
 | .conv k _=>some k
 | .bin .add a _=>BU a
 | .bin .sub a _=>BU a
 | .bin .mul a _=>BU a
 |_=>none
def OM:E→Bool
 | .bin op a b=>match op with
  | .add| .sub| .mul| .eql| .neq| .lss| .leq| .gtr| .geq=> !((BU a).isSome&&BU a==BU b)
  |_=>true
 |_=>true
def Bm (sl:Nat→SV) (gs:Gd):Operand→Option SV
 | .tmp t=>ungd gs (sl t)
 | .const v=>D4 v
 | .func f=>some (.fn f .nil)
 | .global _=>none
def IG (P:Program) (t:TypeId):Option TypeId:=if 1000000000≤t then some (t-1000000000)else match P.underlying t with|some (.pointer e)=>some e|_=>none
def Cp (P:Program) (t:TypeId):Bool:= !BM P t
def O9 (P:Program) (t e:TypeId) (g ep:Nat) (x:E):Ad:=if BM P e then .row e (P.cellsOf e) g x true else match Dm P t with
 |some (.row e' z l)=> .deep e' z l.toList g ep x
 |_=> .row e (P.cellsOf e) g x false
def Cm (P:Program) (nx:Nat) (mk:Nat→E):Nat→List TypeId→List Bool→List SV × List (Nat × Ad)
 |_, [],_=>([], [])
 |j,t::ts,fl=>
  let q:=Cm P nx mk (j+1) ts fl.tail
  match fl.headD false,Cv P t with
  |true,some e=>(.own (nx+j) 0::q.1,(nx+j,O9 P t e 0 0 (mk j))::q.2)
  |_,_=>(.e (mk j)::q.1,q.2)
def Ha (P:Program) (t:TypeId) (fl:List Bool):Bool:=(fl.take (AZ P t).length).any id
def CU (x:E) (g:Bool) (j:Nat):E:=if g then .fld x j 1 false else x
def Mw (P:Program) (nx:Nat) (t:TypeId) (fl:List Bool) (x:E):SV × List (Nat × Ad):=
 if Ha P t fl then
  let l:=Cm P nx (CU x (Ak P t)) 0 (AZ P t) fl
  (if Ak P t then .agg (Bb.of l.1)else l.1.headD .undef,l.2)
 else(.e x, [])
def La (P:Program) (nx:Nat):List TypeId→List Bool→E→Nat→List SV × List (Nat × Ad)
 | [],_,_,_=>([], [])
 |t::ts,fl,x,i=>
  let p:=Mw P nx t fl (.proj x i);let q:=La P (nx+(AZ P t).length) ts (fl.drop (AZ P t).length) x (i+1)
  (p.1::q.1,p.2++q.2)
def XT (P:Program) (t:TypeId):Bool:=match Cv P t with|some e=>BM P e||(Dm P t).isSome|none=>false
def DV (P:Program):List TypeId→List Bool→Bool
 | [],_=>false
 |t::ts,fl=>(!(fl.headD false&&XT P t)&&Cp P t)||DV P ts fl.tail
def ZG (P:Program) (t:TypeId) (fl:List Bool):Bool:=if Ha P t fl then DV P (AZ P t) fl else Cp P t
def CJ (P:Program):List TypeId→List Bool→Bool
 | [],_=>false
 |t::ts,fl=>ZG P t fl||CJ P ts (fl.drop (AZ P t).length)
end Go.Proofs.YtmbknelgbjlhnaaGreat
end
section
namespace Go.Proofs.YtmbknelgbjlhnaaGreat
open Go.ChangeShapes Go.WideShapes Go.ChangeAt Go.RowKit
def Bo (P:Program) (t:TypeId) (Q:List AV→Prop):Prop:=
 0<P.cellsOf t∧ ∀(H:Type) (enc:TypeId × Value→H) (w:World) (spare:Nat→Bool) (held:Bool) (fuel:Nat) (cs:List Value) (x:DataW H × List MemPlace),
  DataW.trod enc P w 0 spare held fuel t cs=some x→cs.length=P.cellsOf t∧(∀u∈cs,u.oneCell'=true)∧ ∃xs f,Rd w cs xs f∧Q xs
theorem Bo.mono {P:Program} {t:TypeId} {Q R:List AV→Prop} (h:Bo P t Q) (hq: ∀xs,Q xs→R xs):Bo P t R:=
 ⟨h.1,fun H enc w s hd fuel cs x hx=>by obtain⟨a,b,xs,f,c,d⟩:=h.2 H enc w s hd fuel cs x hx;exact⟨a,b,xs,f,c,hq _ d⟩⟩
theorem yD {P:Program} {t:TypeId} {k:IntKind} (ht:P.underlying t=some (.int k)) (hc:P.cellsOf t=1):Bo P t fun xs=> ∃n,Ei k n∧xs= [.int k n]:=by
 refine⟨by omega,fun H enc w spare held fuel cs x h=> ?_⟩;obtain⟨n,rfl,_,hw⟩:=DataW.trod_int ht h;have hk:Ei k n:=by simp only [Lit.wf,Ac,decide_eq_true_eq]at hw;obtain⟨h1,h2⟩:=hw;unfold Ei IntKind.wrap;cases k<;>simp [IntKind.min,IntKind.max,IntKind.bits,IntKind.signed]at h1 h2 ⊢ <;>(try split)<;>omega
 exact⟨by simp [hc],by simp [Value.oneCell'], [.int k n], [], .int hk .nil,n,hk,rfl⟩
theorem u4 {P:Program} {t:TypeId} (ht:P.underlying t=some .bool) (hc:P.cellsOf t=1):Bo P t fun xs=> ∃b,xs= [.bool b]:=by refine⟨by omega,fun H enc w spare held fuel cs x h=> ?_⟩;obtain⟨b,rfl,_⟩:=DataW.trod_bool ht h;exact⟨by simp [hc],by simp [Value.oneCell'], [.bool b], [], .bool .nil,b,rfl⟩
theorem zxP {P:Program} {t:TypeId} (ht:P.underlying t=some .string) (hc:P.cellsOf t=1):Bo P t fun xs=> ∃s:List UInt8,s.length≤9223372036854775807∧xs= [.str s]:=by refine⟨by omega,fun H enc w spare held fuel cs x h=> ?_⟩;obtain⟨s,rfl,_,hs⟩:=DataW.trod_string ht h;have AY:s.size≤9223372036854775807:=hs;exact⟨by simp [hc],by simp [Value.oneCell'], [.str s.data.toList], [], .str AY .nil,s.data.toList,by simpa using AY,rfl⟩
def Hh (ag:Bool) (Q:List AV→Prop) (y:AV):Prop:=if ag then∃zs,y= .agg zs∧Q zs else y.cells= [y]∧Q [y]
theorem yR {ag:Bool} {Q:List AV→Prop} {xs:List AV} (hq:Q xs) (h:ag=true∨(xs.length=1∧ ∀y∈xs,y.cells= [y])): ∃y,Hh ag Q y∧y.cells=xs:=by
 cases ag with
 |true=>exact⟨.agg xs,by simpa [Hh]using hq,rfl⟩
 |false=>
  obtain⟨hl,hy⟩:=h.resolve_left (by simp)
  match xs,hl with
  | [y],_=>exact⟨y,by simpa [Hh]using⟨hy y (by simp),hq⟩,hy y (by simp)⟩
theorem zxN {w:World} {v:Value} {x:AV} {f:List Nat} (h:Rd w [v] [x] f) (hv:v.oneCell'=true):x.cells= [x]:=by cases x<;>first|rfl|(cases h;simp [Value.oneCell']at hv)
theorem xX {w:World} {b o sz:Nat} {C:Array Value} {T:TypeId} {fz} (hC:w.heap[b]?=some (.cells C T fz)) (ag:Bool) (Q:List AV→Prop):
  ∀(n i:Nat),(∀k,k<n→ ∃cs y f,Rd w cs y.cells f∧Hh ag Q y∧cs.length=sz∧(∀u∈cs,u.oneCell'=true)∧ ∀j v,cs[j]?=some v→w.cell? ⟨b,o+(i+k)*sz+j,none⟩=some v)→
   ∃cs ys f,ys.length=n∧Rd w cs (AM ys) f∧(∀y∈ys,Hh ag Q y∧y.cells.length=sz)∧(∀u∈cs,u.oneCell'=true)∧ ∀j v,cs[j]?=some v→C[o+i*sz+j]?=some v:=by
 intro n
 induction n with
 |zero=>exact fun i _=>⟨[], [], [],rfl, .nil,by simp,by simp,by simp⟩
 |succ n ih=>
  intro i h;obtain⟨cs,y,f,h1,h2,h3,h4,h5⟩:=h 0 (by omega);obtain⟨cs',ys,f',g1,g2,g3,g4,g5⟩:=ih (i+1) fun k hk=>by have:=h (k+1) (by omega);rw [show i+(k+1)=i+1+k by omega]at this;exact this
  refine⟨cs++cs',y::ys,f++f',by simp [g1], ?_, ?_, ?_, ?_⟩
  ·have e:AM (y::ys)=y.cells++AM ys:=by simp [AM]
   rw [e];exact h1.app g2
  ·intro z hz;rcases Ae.1 hz with rfl|hz
   ·exact⟨h2,by rw [←h1.len,h3]⟩
   ·exact g3 z hz
  ·intro u hu;rcases Ag.1 hu with hu|hu
   ·exact h4 u hu
   ·exact g4 u hu
  ·intro j v hj;rcases Nat.lt_or_ge j cs.length with hl|hl
   ·rw [List.getElem?_append_left hl]at hj;have:=h5 j v hj;unfold World.cell? at this;rw [hC]at this;simpa using this
   ·rw [List.getElem?_append_right hl]at hj;have:=g5 _ v hj;rw [h3]at this hl;rw [show o+i*sz+j=o+(i+1)*sz+(j-sz) by rw [Nat.add_mul];omega];exact this
theorem oE {P:Program} {t e:TypeId} {Q:List AV→Prop} (ag:Bool) (ht:P.underlying t=some (.slice e)) (hc:P.cellsOf t=1) (he:Bo P e Q) (ha:ag=true∨P.cellsOf e=1):
  Bo P t fun xs=> ∃ys,ys.length≤9223372036854775807∧(∀y∈ys,Hh ag Q y)∧xs= [.sl ys]:=by
 refine⟨by omega,fun H enc w spare held fuel cs x h=> ?_⟩;have emp: ∀a c,([Value.slice a 0 c]).length=P.cellsOf t∧(∀u∈ [Value.slice a 0 c],u.oneCell'=true)∧ ∃xs f,Rd w [.slice a 0 c] xs f∧ ∃ys,ys.length≤9223372036854775807∧(∀y∈ys,Hh ag Q y)∧xs= [.sl ys]:=
  fun a c=>⟨by simp [hc],by simp [Value.oneCell'], [.sl []], [], .fb .nil, [],by simp,by simp,rfl⟩
 rcases DataW.trod_slice ht h with⟨rfl,_⟩|⟨a,len,cap,elems,rest,n,_,rfl,_,_,hl,hm,hlen,Bc,_,_⟩
 ·exact emp none 0
 rcases Nat.eq_zero_or_pos len with h0|h0
 ·subst h0;exact emp (some a) cap
 have X3:=he.1;have Ql:a.spot=none:=by have hi:=Bc 0 h0;rw [List.getElem?_eq_getElem (by rw [hlen];exact h0),Nat.zero_mul,oD]at hi;obtain⟨c1,h1,h2⟩:=Ao.1 hi;obtain⟨_,AA,B1⟩:=World.cells?_some h1;have h3:=B1 0 X3;rw [List.getElem?_eq_getElem (by rw [AA];exact X3),oD]at h3;exact World.cell?_spot h3
 obtain⟨b,o,s⟩:=a;dsimp only at Ql;subst Ql;have key: ∀i,i<len→ ∃cs y f,Rd w cs y.cells f∧Hh ag Q y∧cs.length=P.cellsOf e∧(∀u∈cs,u.oneCell'=true)∧ ∀j v,cs[j]?=some v→w.cell? ⟨b,o+(0+i)*P.cellsOf e+j,none⟩=some v:=by
  intro i AB;have hi:=Bc i AB;rw [List.getElem?_eq_getElem (by rw [hlen];exact AB),pJ]at hi;obtain⟨c1,h1,h2⟩:=Ao.1 hi;obtain⟨BD,TH,xs,f,hr,hq⟩:=he.2 _ _ _ _ _ _ _ _ h2;obtain⟨_,AA,B1⟩:=World.cells?_some h1;have Cr:ag=true∨(xs.length=1∧ ∀y∈xs,y.cells= [y]):=by
   rcases ha with ha|ha
   ·exact .inl ha
   ·have M8:xs.length=1:=by rw [←hr.len,BD,ha]
    refine .inr ⟨M8,fun y hy=> ?_⟩;have Yh:c1.length=1:=by rw [BD,ha]
    match xs,c1,M8,Yh with
    | [z], [v],_,_=>obtain rfl:=List.mem_singleton.1 hy;exact zxN hr (TH v (by simp))
  obtain⟨y,hy,rfl⟩:=yR hq Cr;refine⟨c1,y,f,hr,hy,BD,TH,fun j v hj=> ?_⟩;have sF:j<P.cellsOf e:=by
   rw [←AA];rcases Nat.lt_or_ge j c1.length with h|h
   ·exact h
   ·rw [List.getElem?_eq_none h]at hj;cases hj
  have h3:=B1 j sF;rw [hj,pJ]at h3;rw [Nat.zero_add];exact h3
 obtain⟨C,T,fz,hC⟩: ∃C T fz,w.heap[b]?=some (.cells C T fz):=by
  obtain⟨cs,y,f,_,_,Jv,_,AA⟩:=key 0 h0;have h3:=AA 0 _ (List.getElem?_eq_getElem (by omega));unfold World.cell? at h3;split at h3
  ·next c t fz hh=>exact⟨c,t,fz,hh⟩
  ·cases h3
 obtain⟨cs,ys,f,g1,g2,g3,g4,g5⟩:=xX hC ag Q len 0 key;have P1:len≤9223372036854775807:=by have:maxLen=9223372036854775807:=(by decide+kernel);omega
 refine⟨by simp [hc],by simp [Value.oneCell'], [.sl ys],b::(f++ []), .gj hC h0 ⟨P1,hl⟩ g1 (fun y hy=>(g3 y hy).2) X3 (fun j v hj=>by simpa using g5 j v hj) g4 g2 .nil,ys,by omega,fun y hy=>(g3 y hy).1,rfl⟩
def Tn (P:Program):Nat→List Field→Nat→Bool
 |o, [],n=>o==n
 |o,f::fs,n=>f.offset==o&&Tn P (o+P.cellsOf f.type) fs n
inductive Tj (P:Program):List Field→List (List AV→Prop)→Prop where
 |nil:Tj P [] []
 |cons {f fs Q Qs}:Bo P f.type Q→Tj P fs Qs→Tj P (f::fs) (Q::Qs)
def ZJ:List (List AV→Prop)→List AV→Prop
 | [],xs=>xs= []
 |Q::Qs,xs=> ∃a b,xs=a++b∧Q a∧ZJ Qs b
theorem yN {P:Program} {H:Type} {enc:TypeId × Value→H} {w:World} {spare:Nat→Bool} {held:Bool} {n:Nat} {cs:List Value} {fs:List Field} {Qs:List (List AV→Prop)} (hF:Tj P fs Qs):
  ∀o,Tn P o fs cs.length=true→(∀f∈fs,∃x,DataW.trod enc P w 0 spare held n f.type ((cs.drop f.offset).take (P.cellsOf f.type))=some x)→
   (∀u∈cs.drop o,u.oneCell'=true)∧ ∃xs f,Rd w (cs.drop o) xs f∧ZJ Qs xs:=by
 induction hF with
 |nil=>
  intro o ho _;have:o=cs.length:=by simpa [Tn]using ho
  subst this;simp only [List.drop_length];exact⟨by simp, [], [], .nil,rfl⟩
 | @cons fd fs' Q Qs' hQ _ ih=>
  intro o ho hx;simp only [Tn,Ac,beq_iff_eq]at ho;obtain⟨rfl,ho⟩:=ho;obtain⟨x,h1⟩:=hx _ (List.mem_cons_self ..);obtain⟨hl,h2,xs,f,h3,h4⟩:=hQ.2 _ _ _ _ _ _ _ _ h1;obtain⟨k2,ys,g,k3,k4⟩:=ih _ ho fun f hf=>hx f (List.mem_cons_of_mem _ hf);rw [←List.drop_drop]at k2 k3;rw [←List.take_append_drop (P.cellsOf fd.type) (cs.drop fd.offset)];refine⟨fun u hu=> ?_,xs++ys,f++g,h3.app k3,xs,ys,rfl,h4,k4⟩;rcases Ag.1 hu with hu|hu
  ·exact h2 u hu
  ·exact k2 u hu
theorem EN {P:Program} {t:TypeId} {fs:Array Field} {Qs:List (List AV→Prop)} (ht:P.underlying t=some (.struct fs)) (h0:0<P.cellsOf t) (ho:Tn P 0 fs.toList (P.cellsOf t)=true) (hF:Tj P fs.toList Qs):
  Bo P t (ZJ Qs):=by
 refine⟨h0,fun H enc w spare held fuel cs x h=> ?_⟩;obtain⟨xs,n,_,_,hl,hlen,hf⟩:=DataW.trod_struct ht h;have:=yN (cs:=cs) (enc:=enc) (w:=w) (spare:=spare) (held:=held) (n:=n) hF 0 (by rw [hl];exact ho) fun f hm=>by
  obtain⟨i,hi⟩:=List.getElem?_of_mem hm;have Bq:fs[i]?=some f:=by simpa using hi
  have AB:i<xs.length:=by
   rw [hlen];rcases Nat.lt_or_ge i fs.size with h|h
   ·exact h
   ·rw [Array.getElem?_eq_none h]at Bq;cases Bq
  exact⟨xs[i],by rw [hf i f Bq,List.getElem?_eq_getElem AB]⟩
 rw [List.drop_zero]at this;exact⟨hl,this⟩
end Go.Proofs.YtmbknelgbjlhnaaGreat
end
section
namespace Go.Proofs.YtmbknelgbjlhnaaGreat
open Go.RowKit
inductive Xt where
 |normal
 |exit (id:Nat)
 |ret
inductive Tr where
 |leaf (x:Xt) (σ:St)
 |ret (r:E)
 |jmp (d:Nat) (es:EL)
 |ite (c:E) (a b:Tr)
 |c6 (gs:Gd) (c:Cn) (k:Tr)
 |call (gs:Gd) (f:Nat ⊕ E) (args:EL) (k:Tr)
 |cq (gs:Gd) (x:E) (k:Tr)
 |stuck
 |join (t k:Tr)
 |loop (init:EL) (body k:Tr)
section
variable (P:Program) (sg:BB)
def jK (t:TypeId):Option SV:=((P.info? t).bind (·.zero)).bind D4
inductive RI where
 |fl (u v e z:Nat) (d:Bool)
 |dp (u v:Nat) (e z:Nat) (l:List DT) (ep:Nat)
def RI.tag:RI→Nat
 | .fl u .. =>u
 | .dp u .. =>u
def ME:Option DT→Nat→Nat→List DT→Bool
 |some (.row e z l),e',z',l'=>e==e'&&z==z'&&(AJ.of l').beq l
 |_,_,_,_=>false
def fJ (hp:Nat→Option Ad) (gs:Gd) (t:TypeId) (c:SV):Option (Option RI):=
 match Cv P t with
 |none=>none
 |some el=>if P.cellsOf el=0 then none else match c with
  | .cr=>some none
  | .emp=>some none
  | .own u v=>(match look hp gs u with
   |some (.row e z v' _ d)=>if v=v'∧e=el∧z=P.cellsOf el∧(BM P el∧d∨BM P el=false∧(Dm P t).isNone)then some (some (.fl u v e z (BM P el)))else none
   |some (.deep e z l v' ep _)=>if v=v'∧BM P el=false∧ME (Dm P t) e z l then some (some (.dp u v e z l ep))else none
   |_=>none)
  |_=>none
def FY (hp:Nat→Option Ad) (gs:Gd):List TypeId→List SV→List Bool→Option (List (Option RI) × List Nat)
 | [], [],_=>some ([], [])
 |t::ts,c::cs,fl=>match FY hp gs ts cs fl.tail with
  |none=>none
  |some (l,us)=>if fl.headD false then(match fJ P hp gs t c with|some r=>some (r::l,us)|none=>none)else some (none::l,Bv hp gs (AN+1) [c]++us)
 |_,_,_=>none
def Ca (l:List (Option RI)):List Nat:=l.filterMap fun r=>r.map RI.tag
inductive PA where
 |box (t:Nat) (g:Bool) (own':List Bool) (ty:Nat) (olds:List Nat)
 |mu (Eg:List (Option RI)) (g:Bool)
 |va (Eg:List Nat)
def Ti (hp:Nat→Option Ad) (gs:Gd):List TypeId→List PM→List Bool→List SV→Option (List E × List PA × List Nat × List Nat)
 |_,_,_, []=>some ([], [], [], [])
 |ts,ms,lo,s::ss=>
  match Ti hp gs ts.tail ms.tail lo.tail ss with
  |none=>none
  |some (ys,bs,us,uz)=>
  match ms.headD .ro with
  | .ro=>if lo.headD false&& !ts.isEmpty then(match s with
    | .lent i=>some (.var i::ys,bs,us,uz)
    |s=>(A5 hp gs AN s).map fun x=>(x::ys,bs,us,Bv hp gs (AN+1) [s]++uz))
   else(A5 hp gs AN s).map fun x=>(x::ys,bs,Bv hp gs (AN+1) [s]++us,uz)
  | .bx own own'=>(match ts.head?.bind (IG P),s,gs with
   |some ty, .cy t 0, []=>(match look hp gs t with
    |some (.box ty' g cs)=>if ty'≠ty then none else
     (match BZ hp gs AN cs,FY P hp gs (AZ P ty) cs own with
     |some xs,some (rs,vs)=>some (.ref (.mk xs)::ys, .box t g own' ty (Ca rs)::bs,vs++us,uz)
     |_,_=>none)
    |_=>none)
   |_,_,_=>none)
  | .mu own=>(match ts.head?,gs,A5 hp gs AN s with
   |some t, [],some x=>if(Gs s).2 !=Ak P t then none else(match FY P hp gs (AZ P t) (Gs s).1 own with
    |some (rs,vs)=>some (x::ys, .mu rs (Gs s).2::bs,vs++us,uz)
    |none=>none)
   |_,_,_=>none)
  | .va own=>(match ts.head?,gs,A5 hp gs AN s with
   |some t, [],some x=>if(Gs s).2 !=Ak P t then none else(match FY P hp gs (AZ P t) (Gs s).1 own with
    |some (rs,vs)=>some (x::ys, .va (Ca rs)::bs,vs++us,uz)
    |none=>none)
   |_,_,_=>none)
def CS:List PA→List Nat
 | []=> []
 | .box t _ _ _ olds::l=>t::olds++CS l
 | .mu Eg _::l=>Ca Eg++CS l
 | .va Eg::l=>Eg++CS l
def Hc:List PA→Nat
 | []=>0
 | .va _::l=>Hc l
 |_::l=>Hc l+1
def Ka (mk:Nat→E):Nat→List (Option RI)→List (Nat × Ad)
 |_, []=> []
 |j,none::rs=>Ka mk (j+1) rs
 |j,some (.fl u v e z d)::rs=>(u, .row e z v (mk j) d)::Ka mk (j+1) rs
 |j,some (.dp u v e z l ep)::rs=>(u, .deep e z l v (ep+1) (mk j))::Ka mk (j+1) rs
def after (r:Nat):Nat→List PA→Nat→List (Nat × Ad)
 |_, [],_=> []
 |nx, .box t g own' ty olds::bs,j=>
  let l:=Cm P nx (CU (.proj (.var r) (j+1)) true) 0 (AZ P ty) own'
  Ef olds++((t, .box ty g l.1)::l.2)++after r (nx+(AZ P ty).length) bs (j+1)
 |nx, .mu Eg g::bs,j=>Ka (CU (.proj (.var r) (j+1)) g) 0 Eg++after r nx bs (j+1)
 |nx, .va Eg::bs,j=>Ef Eg++after r nx bs j
def Jd:List PA→Nat
 | []=>0
 | .box _ _ _ ty _::l=>(AZ P ty).length+Jd l
 |_::l=>Jd l
def RI.lent:Option RI→Bool
 |some (.fl _ _ _ _ d)=> !d
 |_=>false
def Di:List PA→Bool
 | []=>false
 | .box _ _ own' ty _::l=>DV P (AZ P ty) own'||Di l
 | .mu Eg _::l=>Eg.any RI.lent||Di l
 |_::l=>Di l
def Tb (gs:Gd) (l:List (Nat × Ad)):List (Nat × Ad):=l.map fun(i,e)=>(i,Co gs e)
def SL (hp:Nat→Option Ad) (gs:Gd) (nv nx f:Nat) (args:List SV):Option AP:=
 match P.funcs[f]?,sg f with
 |some fn,some s=>
  if fn.body.isNone||args.length !=fn.params.size+fn.nfree||fn.nfree<s.ft.length then none else
  match Ti P hp gs (fn.params.toList++s.ft) s.dc s.lo args with
  |none=>none
  |some (es,bs,us,uz)=>
   if !Kb (CS bs)||us.any (fun u=>(CS bs).contains u)||uz.any (fun u=>(CS bs).contains u)then none else
   let ts:=fn.resultTypes.toList;let r:E:=if Hc bs=0 then .var nv else .proj (.var nv) 0;let nl:=(ts.flatMap (AZ P)).length;let unfl:=CJ P ts s.res||Di P bs;let ba:=after P nv (nx+nl) bs 0
   if 999≤nl+Jd P bs then none else
   if unfl&& !Lk hp gs us then none else
   match(if unfl then CW hp gs us else some [])with
   |none=>none
   |some fz=>
    match ts with
    | [t]=>let p:=Mw P nx t s.res r;some {call:=some ⟨.inl f,es⟩,val:=p.1,bt:=fz++(Tb gs p.2++ba)}
    |_=>let p:=La P nx ts s.res r 0;some {call:=some ⟨.inl f,es⟩,val:= .tup (Bb.of p.1),bt:=fz++(Tb gs p.2++ba)}
 |_,_=>none
def OW (hp:Nat→Option Ad) (gs:Gd) (nv:Nat) (t:TypeId) (f:E) (args:List SV):Option AP:=
 if Cp P t then none else
 match BZ hp gs AN args with
 |none=>none
 |some es=>some {call:=some ⟨.inr f,go es⟩,val:= .e (.var nv)}
where
 go:EL→List E
 | .nil=> []
 | .cons e es=>e::go es
def jX (hp:Nat→Option Ad) (gs:Gd) (t:TypeId) (s:SV):Option AP:=
 match P.underlying t with
 |some (.slice _)=>(A5 hp gs AN s).map fun x=>{c6:= [.dfd (.len x)],val:= .e (.len x)}
 |some .string=>(A5 hp gs AN s).map fun x=>{c6:= [.dfd (.slen x)],val:= .e (.slen x)}
 |_=>none
def SM (hp:Nat→Option Ad) (gs:Gd) (e:TypeId) (x:SV) (y:E):Option (List (Nat × Ad) × Bool × Cn):=
 if BM P e then some ([],true, .flatS y (P.cellsOf e))else
 if Lk hp gs (Bv hp gs (AN+1) [x])then(CW hp gs (Bv hp gs (AN+1) [x])).map fun l=>(l,false, .issl y (P.cellsOf e))else none
def W5 (hp:Nat→Option Ad) (gs:Gd) (nx:Nat) (ts tx:TypeId) (s x:SV):Option AP:=
 if ts≠tx then none else
 match Cv P ts,Dm P ts,gs with
 |some e,some (.row e' z l), []=>
  if !G7 P e∨BM P e∨e'≠e∨z≠P.cellsOf e then none else
  (match A5 hp [] AN x,S5 hp [] e z l.toList x with
  |some y,some us=>(match s with
   | .own t g=>(match look hp [] t with
    |some (.deep e2 z2 l2 g2 _ c)=>if e2=e∧z2=z∧(AJ.of l2).beq l∧g=g2∧ !us.contains t then
      some {c6:= [.room c y (P.bytesOf e)],val:= .own nx 0,bt:=(nx, .deep e z l.toList 0 0 (.app c y))::Ef (t::us)}else none
    |_=>none)
   | .emp=>some {c6:= [.room (.lst .nil) y (P.bytesOf e)],val:= .own nx 0,bt:=(nx, .deep e z l.toList 0 0 (.app (.lst .nil) y))::Ef us}
   | .cr=>some {c6:= [.room (.lst .nil) y (P.bytesOf e)],val:= .own nx 0,bt:=(nx, .deep e z l.toList 0 0 (.app (.lst .nil) y))::Ef us}
   |_=>none)
  |_,_=>none)
 |_,_,_=>none
def eA (hp:Nat→Option Ad) (gs:Gd) (nx:Nat) (ts tx:TypeId) (s x:SV):Option AP:=
 if ts≠tx then none else
 match Cv P ts with
 |some e=>
  if !G7 P e then none else
  match A5 hp gs AN x with
  |none=>none
  |some y=>
   match SM P hp gs e x y with
   |none=>none
   |some (fz,d,ck)=>
    match s with
    | .own t g=>(match look hp gs t with
     |some (.row e' sz' g' c d')=>if e=e'∧P.cellsOf e=sz'∧g=g'∧gs= []∧ !(fz.map (·.1)).contains t then
       some {c6:= [.room c y (P.bytesOf e),ck],val:= .own t (g+1),bt:=fz++ [(t, .row e (P.cellsOf e) (g+1) (.app c y) (d&&d'))]}else none
     |_=>none)
    | .emp=>some {c6:= [.room (.lst .nil) y (P.bytesOf e),ck],val:= .own nx 0,bt:=fz++ [(nx,Co gs (.row e (P.cellsOf e) 0 (.app (.lst .nil) y) d))]}
    | .cr=>some {c6:= [.room (.lst .nil) y (P.bytesOf e),ck],val:= .own nx 0,bt:=fz++ [(nx,Co gs (.row e (P.cellsOf e) 0 (.app (.lst .nil) y) d))]}
    |_=>none
 |_=>none
def Et (s:SV):Option E:=match s with
 | .e x=>some x
 |_=>none
def O4:Nat→List Field→Option (List SK)
 |_, []=>some []
 |j,f::fs=>if f.name= "_" ∨f.offset≠j∨ !CM P f.type∨P.cellsOf f.type≠1 then none else match P.underlying f.type,O4 (j+1) fs with
  |some (.int k),some l=>some (.int k::l)
  |some .bool,some l=>some (.bool::l)
  |some .string,some l=>some (.str::l)
  |_,_=>none
def O3 (hp:Nat→Option Ad) (gs:Gd) (nv:Nat) (op:BinOp) (t:TypeId) (a b:SV):Option AP:=
 match P.underlying t with
 |some (.slice _)=>(match a,b,op with
  | .cr, .cr, .eql=>some {val:= .e (.bool true)}
  | .cr, .cr, .neq=>some {val:= .e (.bool false)}
  |a, .cr, .eql=>(A5 hp gs AN a).map fun x=>{c6:= [.dfd (.len x)],cq:=some x,val:= .e (.var nv)}
  |a, .cr, .neq=>(A5 hp gs AN a).map fun x=>{c6:= [.dfd (.len x)],cq:=some x,val:= .e (.not (.var nv))}
  |_,_,_=>none)
 |some (.int _)=>(match Et a,Et b with
  |some x,some y=>
   let r:E:= .bin op x y;let c1:=if OM r then [Cn.dfd r]else []
   let c2:=match op with| .quo| .rem=> [Cn.nz y]| .shl| .shr=> [Cn.nn y]|_=> []
   some {c6:=c2++c1,val:= .e r}
  |_,_=>none)
 |some .string=>(match Et a,Et b with
  |some x,some y=>
   let r:E:= .sbin op x y
   some {c6:=(match op with| .add=> [Cn.roomS x y]|_=> [])++ [.dfd r],val:= .e r}
  |_,_=>none)
 |some .bool=>(match Et a,Et b with
  |some x,some y=>some {c6:= [.dfd (.bbin op x y)],val:= .e (.bbin op x y)}
  |_,_=>none)
 |some (.struct fs)=>
  if P.stoodInHeld t||P.eqGuardType P.depth t then none else
  (match O4 P 0 fs.toList,A5 hp gs AN a,A5 hp gs AN b with
  |some ks,some x,some y=>(match op with
   | .eql=>some {c6:= [.kinds x ks, .kinds y ks],val:= .e (.aeq x y)}
   | .neq=>some {c6:= [.kinds x ks, .kinds y ks],val:= .e (.not (.aeq x y))}
   |_=>none)
  |_,_,_=>none)
 |_=>none
def W8 (op:BinOp) (a b:SV):Option AP:=match a,b with
 | .e x, .e y=>some {c6:= [.dfd (.bin op y x)],val:= .e (.ite (.bin op y x) y x)}
 |_,_=>none
def ptrOff (s:SV) (o:Nat):Option SV:=match s with
 | .cy t p=>some (.cy t (p+o))
 | .da t g i sz p=>some (.da t g i sz (p+o))
 | .dv x i sz p=>some (.dv x i sz (p+o))
 | .dt x p=>some (.dt x (p+o))
 | .vptr t g m q x i sz p=>some (.vptr t g m q x i sz (p+o))
 |_=>none
def zES (hp:Nat→Option Ad) (gs:Gd) (s:SV):Bool:=match s with
 | .vptr t _ m _ _ _ _ _=>Lm hp gs t m
 |_=>true
def asPtr (s:SV):SV × List Cn:=match s with
 | .e x=>(.dt x 0, [.isref x 0])
 |s=>(s, [])
def jG (hp:Nat→Option Ad) (gs:Gd) (t:TypeId) (a:SV):Option AP:=
 if !CM P t then none else
 match a with
 | .cy b o=>(match look hp gs b with
  |some (.box _ _ cs)=>(MV P t cs o).map fun s=>{val:=s}
  |_=>none)
 | .da b g i sz o=>(match look hp gs b with
  |some (.row _ sz' g' c _)=>if g=g'∧sz=sz'∧o+P.cellsOf t≤sz∧(Ak P t∨P.cellsOf t=1)then some {val:= .e (.fld (.idx c i) o (P.cellsOf t) (Ak P t))}else none
  |some (.deep _ sz' l g' ep c)=>if g=g'∧sz=sz'∧o+P.cellsOf t≤sz∧(Ak P t∨P.cellsOf t=1)then
    (if((l.drop o).take (P.cellsOf t)).all DT.cd then some {val:= .e (.fld (.idx c i) o (P.cellsOf t) (Ak P t))}
    else some {val:= .via b g ep (if Ak P t then none else some (i,sz,o)) (.fld (.idx c i) o (P.cellsOf t) (Ak P t))})else none
  |_=>none)
 | .vptr b g m _ x i sz o=>if o+P.cellsOf t≤sz∧(Ak P t∨P.cellsOf t=1)∧Lm hp gs b m then
   (if BM P t then some {c6:= [.flat (.fld (.idx x i) o (P.cellsOf t) (Ak P t)) (P.cellsOf t) (Ak P t)],val:= .e (.fld (.idx x i) o (P.cellsOf t) (Ak P t))}
   else some {val:= .via b g m none (.fld (.idx x i) o (P.cellsOf t) (Ak P t))})else none
 | .dv x i sz o=>if o+P.cellsOf t≤sz∧(Ak P t∨P.cellsOf t=1)then some {val:= .e (.fld (.idx x i) o (P.cellsOf t) (Ak P t))}else none
 | .dt x o=>if Ak P t∨P.cellsOf t=1 then some {c6:= [.isref x (o+P.cellsOf t)],val:= .e (.fld (.deref x) o (P.cellsOf t) (Ak P t))}else none
 |_=>none
def Lc (hp:Nat→Option Ad) (gs:Gd) (t:TypeId) (a v:SV):Option AP:=
 match a with
 | .cy b o=>(match look hp gs b,OR P t v with
  |some (.box ty g cs),some (vs,ck)=>if CM P t∧vs.length=P.cellsOf t∧o+vs.length≤cs.length∧gs= []then some {c6:=ck,bt:= [(b, .box ty g (Ph cs o vs))]}else none
  |_,_=>none)
 | .da b g i sz o=>(match look hp gs b with
  |some (.row e sz' g' c d)=>if g=g'∧sz=sz'∧gs= []∧CM P t∧o+P.cellsOf t≤sz∧(Ak P e∨(sz=1∧ !Ak P t))∧(Ak P t∨P.cellsOf t=1)then
    (match XQ P hp gs t v with
    |some (x,fz,dx,ck)=>if(fz.map (·.1)).contains b then none else
     some {c6:=ck++(if d&&dx then [.flat (.fld (.idx c i) o (P.cellsOf t) (Ak P t)) (P.cellsOf t) (Ak P t)]else []),bt:=fz++ [(b, .row e sz g (.set c i (.put (.idx c i) o x (Ak P e))) (d&&dx))]}
    |none=>none)else none
  |some (.deep e sz' l g' ep c)=>if g=g'∧sz=sz'∧gs= []∧CM P t∧o+P.cellsOf t≤sz∧(Ak P e∨(sz=1∧ !Ak P t))∧(Ak P t∨P.cellsOf t=1)then
    (match O0 P hp gs t ((l.drop o).take (P.cellsOf t)) v with
    |some (x,us,ck)=>if !Kb us||us.contains b then none else
     some {c6:=ck,bt:=(b, .deep e sz l g (ep+1) (.set c i (.put (.idx c i) o x (Ak P e))))::Ef us}
    |none=>none)else none
  |some (.hol e sz' l g' ep c i' o' _)=>if g=g'∧sz=sz'∧gs= []∧CM P t∧o=o'∧i.beq i'∧o+1≤sz∧P.cellsOf t=1∧ !Ak P t∧(Ak P e∨sz=1)then
    (match O0 P hp gs t ((l.drop o).take 1) v with
    |some (x,us,ck)=>if !Kb us||us.contains b then none else
     some {c6:=ck,bt:=(b, .deep e sz l g (ep+1) (.set c i (.put (.idx c i) o x (Ak P e))))::Ef us}
    |none=>none)else none
  |_=>none)
 |_=>none
def Tl (places:List (Nat × Nat)) (tys:List TypeId):List (Nat × SV)→List SV→Option (List SV × List Cn)
 | [],cs=>some (cs, [])
 |(i,s)::ps,cs=>match places[i]?,tys[i]? with
  |some (off,sz),some t=>(match OR P t s with
   |some (vs,ck)=>if vs.length=sz∧off+vs.length≤cs.length then(Tl places tys ps (Ph cs off vs)).map fun r=>(r.1,ck++r.2)else none
   |none=>none)
  |_,_=>none
def oZ (t:TypeId) (parts:List (Nat × SV)):Option AP:=
 match P.info? t,P.underlying t with
 |some it,some (.struct fs)=>
  (match it.zero.bind D4,fs.toList.mapM (fun f=>(P.info? f.type).map fun i=>(f.offset,i.size))with
  |some (.agg zs),some places=>(Tl P places (fs.toList.map (·.type)) parts zs.toList).map fun r=>{c6:=r.2,val:= .agg (Bb.of r.1)}
  |_,_=>none)
 |_,_=>none
def SG (hp:Nat→Option Ad) (gs:Gd) (e:TypeId):List SV→Option (List E × List (Nat × Ad) × Bool × List Cn)
 | []=>some ([], [],true, [])
 |s::ss=>match XQ P hp gs e s,SG hp gs e ss with
  |some (x,fz,d,ck),some (xs,fzs,ds,cks)=>some (x::xs,fz++fzs,d&&ds,ck++cks)
  |_,_=>none
def cA (hp:Nat→Option Ad) (gs:Gd) (nx:Nat) (t:TypeId) (n:Nat) (parts:List (Nat × SV)):Option AP:=
 match Cv P t with
 |some e=>
  if !G7 P e∨ !CM P e∨ !(Ak P e∨P.cellsOf e=1)∨10000<n*P.cellsOf e∨parts.map (·.1)≠List.range n then none else
  match SG P hp gs e (parts.map (·.2))with
  |some (xs,fz,d,ck)=>if gs= []∨fz= []then some {c6:=ck,val:= .own nx 0,bt:=fz++ [(nx,Co gs (.row e (P.cellsOf e) 0 (.lst (EL.of xs)) d))]}else none
  |none=>none
 |none=>none
def Xe (hp:Nat→Option Ad) (gs:Gd) (nx:Nat) (t:TypeId) (n:Nat) (parts:List (Nat × SV)):Option AP:=
 match Cv P t,Dm P t,gs with
 |some e,some (.row e' z l), []=>
  if !G7 P e∨BM P e∨e'≠e∨z≠P.cellsOf e∨ !CM P e∨ !(Ak P e∨P.cellsOf e=1)∨10000<n*P.cellsOf e∨parts.map (·.1)≠List.range n then none else
  (match Ss P hp [] e l.toList (parts.map (·.2))with
  |some (xs,us,ck)=>if Kb us then some {c6:=ck,val:= .own nx 0,bt:=(nx, .deep e z l.toList 0 0 (.lst (EL.of xs)))::Ef us}else none
  |none=>none)
 |_,_,_=>none
def qL (gs:Gd) (sl:Nat→SV) (c:E) (a b:Operand):Option AP:=
 match c with
 | .bool true=>(Bm sl gs a).map fun s=>{val:=s}
 | .bool false=>(Bm sl gs b).map fun s=>{val:=s}
 |c=>
  match(Bm sl ((c,true)::gs) a).bind Et,(Bm sl ((c,false)::gs) b).bind Et with
  |some x,some y=>some {c6:= [.dfd (.not c)],val:= .e (.ite c x y)}
  |_,_=>none
def KV (s:Option SV) (d:E):Option E:=match s with|none=>some d|some (.e y)=>some y|some _=>none
def Iu (ev:Operand→Option SV) (y:Option Operand):Option (Option SV):=match y with|none=>some none|some y=>(ev y).map some
def Xo (hp:Nat→Option Ad) (gs:Gd) (t:TypeId) (x:SV) (lo hi mx:Option SV):Option AP:=
 match Cv P t,x,mx,gs with
 |some el, .own b g,none, []=>if !CM P el then none else(match look hp [] b with
  |some (.row e z g' c d)=>if g≠g'∨e≠el∨z≠P.cellsOf el then none else(match lo,hi with
   |some (.e l),none=>some {c6:= [.win c l (.len c)],val:= .wown b g l z}
   |none,some (.e h)=>some {c6:= [.win c (.int .i64 0) h],val:= .own b (g+1),bt:= [(b, .row e z (g+1) (.win c (.int .i64 0) h) d)]}
   |_,_=>none)
  |_=>none)
 |_,_,_,_=>none
def eQ (hp:Nat→Option Ad) (gs:Gd) (t:TypeId) (x:SV):Option AP:=
 match Cv P t,x,gs with
 |some el, .wown b g l z, []=>(match look hp [] b with
  |some (.row e z' g' c d)=>if g≠g'∨e≠el∨z≠P.cellsOf el∨z'≠z∨ !G7 P e∨ !(Ak P e∨z=1)then none else
   (match((P.info? e).bind (·.zero)).bind D4 with
   |some q=>(match A5 hp [] AN q with
    |some w=>some {c6:= [.win c l (.len c), .dfd (.bin .sub (.len c) l)],bt:= [(b, .row e z g (.app (.win c (.int .i64 0) l) (.rep (.bin .sub (.len c) l) w)) d)]}
    |none=>none)
   |none=>none)
  |_=>none)
 |_,_,_=>none
def fI (hp:Nat→Option Ad) (gs:Gd) (t:TypeId) (x:SV) (lo hi mx:Option SV):Option AP:=
 match A5 hp gs AN x with
 |none=>none
 |some y=>
  match mx with
  |some mm=>(match P.underlying t,hi,mm,lo with
   |some (.slice e),some (.e (.int _ 0)), .e (.int _ 0),none=>if CM P e then some {c6:= [.dfd (.len y)],val:= .emp}else none
   |_,_,_,_=>none)
  |none=>
   (match P.underlying t with
   |some .string=>(match KV lo (.int .i64 0),KV hi (.slen y),x with
    |some l,some h, .e _=>some {c6:= [.winS y l h],val:= .e (.swin y l h)}
    |_,_,_=>none)
   |some (.slice e)=>if !CM P e then none else(match KV lo (.int .i64 0),KV hi (.len y),(if Lk hp gs (Bv hp gs (AN+1) [x])then CW hp gs (Bv hp gs (AN+1) [x])else none)with
    |some l,some h,some fz=>some {c6:= [.issl y (P.cellsOf e), .win y l h],val:= .e (.win y l h),bt:=fz}
    |_,_,_=>none)
   |_=>none)
def SD (hp:Nat→Option Ad) (gs:Gd) (src dst:TypeId) (x:SV):Option AP:=
 match P.underlying src,P.underlying dst with
 |some (.int _),some (.int k)=>(Et x).map fun y=>{c6:= [.dfd (.conv k y)],val:= .e (.conv k y)}
 |some .string,some .string=>(Et x).map fun y=>{c6:= [.dfd (.slen y)],val:= .e y}
 |some (.slice el),some .string=>(match P.underlying el with|some (.int .u8)=>(A5 hp gs AN x).map fun y=>{c6:= [.dfd (.text y)],val:= .e (.text y)}|_=>none)
 |_,_=>none
def Xn (hp:Nat→Option Ad) (gs:Gd) (t:TypeId) (x i:SV):Option AP:=
 match P.underlying t,i with
 |some (.slice e), .e k=>if P.cellsOf e=0 then none else(match x with
  | .own b g=>(match look hp gs b with
   |some (.row _ sz g' c _)=>if g=g'∧sz=P.cellsOf e then some {c6:= [.inb k c sz],val:= .da b g k sz 0}else none
   |some (.cc g' c)=>if g=g' then some {c6:= [.inb k c (P.cellsOf e)],val:= .dv c k (P.cellsOf e) 0}else none
   |some (.deep _ sz _ g' _ c)=>if g=g'∧sz=P.cellsOf e then some {c6:= [.inb k c sz],val:= .da b g k sz 0}else none
   |_=>none)
  | .e y=>some {c6:= [.inb k y (P.cellsOf e)],val:= .dv y k (P.cellsOf e) 0}
  | .via b g m q y=>if Lm hp gs b m then some {c6:= [.inb k y (P.cellsOf e)],val:= .vptr b g m q y k (P.cellsOf e) 0}else none
  |_=>none)
 |some .string, .e k=>(match x with
  | .e y=>some {c6:= [.inbS k y],val:= .e (.sidx y k)}
  |_=>none)
 |_,_=>none
def fM (hp:Nat→Option Ad) (gs:Gd) (nx:Nat) (t:TypeId) (n c:SV):Option AP:=
 match Cv P t,n,c with
 |some e, .e x, .e y=>
  if !G7 P e then none else
  if x.beq y then
   match((P.info? e).bind (·.zero)).bind D4 with
   |some z=>(A5 hp gs AN z).map fun w=>{c6:= [.mkroom x (P.bytesOf e)],val:= .own nx 0,bt:= [(nx,Co gs (.row e (P.cellsOf e) 0 (.rep x w) true))]}
   |none=>none
  else match x with
   | .int _ 0=>some {c6:= [.mkroom y (P.bytesOf e)],val:= .own nx 0,bt:= [(nx,Co gs (.row e (P.cellsOf e) 0 (.lst .nil) true))]}
   |_=>none
 |_,_,_=>none
def kI:DT→SV→Bool
 | .flat, .e x=>QF x
 | .row _ z l, .cr=>decide (0<z)&&l.toList.length==z
 |_,_=>false
def ML:List DT→List SV→Bool
 | [], []=>true
 |d::ds,s::ss=>kI d s&&ML ds ss
 |_,_=>false
def jZ (l:List DT) (q:SV):Bool:=match q with
 | .agg cs=>ML l cs.toList
 | .cr=>ML l [.cr]
 |_=>false
def Xr (hp:Nat→Option Ad) (gs:Gd) (nx:Nat) (t:TypeId) (n c:SV):Option AP:=
 match Cv P t,Dm P t,n,c with
 |some e,some (.row e' z l), .e x, .e y=>
  if !G7 P e∨BM P e∨e'≠e∨z≠P.cellsOf e∨ !(x.beq y)∨ !gs.isEmpty then none else
   (match((P.info? e).bind (·.zero)).bind D4 with
   |some q=>if jZ l.toList q then(A5 hp gs AN q).map fun w=>{c6:= [.mkroom x (P.bytesOf e)],val:= .own nx 0,bt:= [(nx, .deep e z l.toList 0 0 (.rep x w))]}else none
   |none=>none)
 |_,_,_,_=>none
def Ua (t:TypeId):Bool:=match P.underlying t with|some .string=>true|_=>false
def Bg (sl:Nat→SV) (hp:Nat→Option Ad) (nv nx:Nat) (gs:Gd) (o:Oper):Option AP:=
 let ev:=Bm sl gs
 match o.op with
 | .move x| .assign x=>(ev x).map fun s=>{val:=s}
 | .pick c a b=>(ev c).bind fun s=>match s with| .e c=>qL gs sl c a b|_=>none
 | .alloc t=>((P.info? t).bind (·.zero)).bind fun z=>(jK P t).bind fun s=>(OR P t s).bind fun(cs,ck)=>if cs.isEmpty then none else if !ck.isEmpty then none else some {val:= .cy nx 0,bt:= [(nx,Co gs (.box t (Ak P t) cs))]}
 | .box t x=>(ev x).bind fun s=>(OR P t s).bind fun(cs,ck)=>if cs.isEmpty then none else some {c6:=ck,val:= .cy nx 0,bt:= [(nx,Co gs (.box t (Ak P t) cs))]}
 | .build t parts=>(parts.toList.mapM fun(p:Nat × Operand)=>(ev p.2).map fun s=>(p.1,s)).bind fun ps=>oZ P t ps
 | .buildSlice t n parts=>(parts.toList.mapM fun(p:Nat × Operand)=>(ev p.2).map fun s=>(p.1,s)).bind fun ps=>if sg.dp&&(Xe P hp gs nx t n ps).isSome then Xe P hp gs nx t n ps else cA P hp gs nx t n ps
 | .load t a=>(ev a).bind fun s=>(jG P hp gs t (asPtr s).1).map fun e=>{e with c6:=(asPtr s).2++e.c6}
 | .store t a x=>(ev a).bind fun p=>(ev x).bind fun v=>Lc P hp gs t p v
 | .nilCheck x=>(ev x).bind fun s=>match s with
  | .e y=>some {c6:= [.isref y 0],val:= .dt y 0}
  | .cy t p=>some {val:= .cy t p}
  | .da t g i sz p=>some {val:= .da t g i sz p}
  | .dv y i sz p=>some {val:= .dv y i sz p}
  | .dt y p=>some {val:= .dt y p}
  | .vptr t g m q y i sz p=>if Lm hp gs t m then some {val:= .vptr t g m q y i sz p}else none
  |_=>none
 | .binOp op t x y _=>(ev x).bind fun a=>(ev y).bind fun b=>O3 P hp gs nv op t a b
 | .unOp .not _ x=>(ev x).bind fun s=>(Et s).map fun y=>match y with| .bool b=>{val:= .e (.bool (!b))}|y=>{c6:= [.dfd (.not y)],val:= .e (.not y)}
 | .unOp .neg _ x=>(ev x).bind fun s=>(Et s).map fun y=>{c6:= [.dfd (.neg y)],val:= .e (.neg y)}
 | .convert src dst x=>(ev x).bind fun s=>SD P hp gs src dst s
 | .makeFunc (.func f) first caps=>if first.isEmpty then(caps.toList.mapM ev).map fun ss=>{val:= .fn f (Bb.of ss)}else none
 | .makeSlice t l c=>(ev l).bind fun n=>(ev c).bind fun m=>if sg.dp&&(Xr P hp gs nx t n m).isSome then Xr P hp gs nx t n m else fM P hp gs nx t n m
 | .slice t x lo hi mx=>(ev x).bind fun s=>(Iu ev lo).bind fun l=>(Iu ev hi).bind fun h=>(Iu ev mx).bind fun m=>if sg.wn&&(Xo P hp gs t s l h m).isSome then Xo P hp gs t s l h m else fI P hp gs t s l h m
 | .fieldAddr t x f=>(ev x).bind fun s=>match P.underlying t with
  |some (.struct fs)=>(match fs[f]? with|some fd=>if P.cellsOf fd.type=0∨ !zES hp gs s then none else(ptrOff (asPtr s).1 fd.offset).map fun v=>{c6:=(asPtr s).2,val:=v}|none=>none)
  |_=>none
 | .field t x f=>(ev x).bind fun s=>match P.underlying t with
  |some (.struct fs)=>(match fs[f]? with
   |some fd=>if !CM P fd.type then none else(match s with
    | .agg cs=>(MV P fd.type cs.toList fd.offset).map fun v=>{val:=v}
    | .e y=>if fd.offset+P.cellsOf fd.type≤P.cellsOf t∧(Ak P fd.type∨P.cellsOf fd.type=1)then some {c6:= [.agg y (P.cellsOf t)],val:= .e (.fld y fd.offset (P.cellsOf fd.type) (Ak P fd.type))}else none
    | .via b g m _ y=>if fd.offset+P.cellsOf fd.type≤P.cellsOf t∧(Ak P fd.type∨P.cellsOf fd.type=1)∧Lm hp gs b m then
      (if BM P fd.type then some {c6:= [.agg y (P.cellsOf t), .flat (.fld y fd.offset (P.cellsOf fd.type) (Ak P fd.type)) (P.cellsOf fd.type) (Ak P fd.type)],val:= .e (.fld y fd.offset (P.cellsOf fd.type) (Ak P fd.type))}
      else some {c6:= [.agg y (P.cellsOf t)],val:= .via b g m none (.fld y fd.offset (P.cellsOf fd.type) (Ak P fd.type))})else none
    |_=>none)
   |none=>none)
  |_=>none
 | .indexAddr t x i=>(ev x).bind fun s=>(ev i).bind fun k=>if Ua P t then none else Xn P hp gs t s k
 | .index t x i=>(ev x).bind fun s=>(ev i).bind fun k=>if Ua P t then Xn P hp gs t s k else none
 | .extract t i=>(ev t).bind fun s=>match s with
  | .tup vs=>(vs.toList[i]?).map fun v=>{val:=v}
  | .e y=>some {c6:= [.dfd (.proj y i)],val:= .e (.proj y i)}
  |_=>none
 | .call c=>match c.callee with
  | .builtin .len=>(match c.args.toList,c.argTypes.toList with| [x], [tx]=>(ev x).bind fun s=>jX P hp gs tx s|_,_=>none)
  | .builtin .append=>(match c.args.toList,c.argTypes.toList with| [x,y], [tx,ty]=>(ev x).bind fun s=>(ev y).bind fun v=>if sg.dp&&(W5 P hp gs nx tx ty s v).isSome then W5 P hp gs nx tx ty s v else eA P hp gs nx tx ty s v|_,_=>none)
  | .builtin .clear=>(match c.args.toList,c.argTypes.toList with| [x], [tx]=>(ev x).bind fun s=>eQ P hp gs tx s|_,_=>none)
  | .builtin .max=>(match c.args.toList with| [x,y]=>(ev x).bind fun s=>(ev y).bind fun v=>W8 .gtr s v|_=>none)
  | .builtin .min=>(match c.args.toList with| [x,y]=>(ev x).bind fun s=>(ev y).bind fun v=>W8 .lss s v|_=>none)
  | .builtin _=>none
  | .value f=>(ev f).bind fun s=>(c.args.toList.mapM ev).bind fun as_=>match s with
   | .fn g caps=>SL P sg hp gs nv nx g (as_++caps.toList)
   | .e y=>OW P hp gs nv o.type y as_
   | .lent i=>OW P hp gs nv o.type (.var i) as_
   |_=>none
  |_=>none
 |_=>none
def SF (hp:Nat→Option Ad) (T v m u:Nat) (p:E × Nat × Nat):Option (Ad × Ad):=
 match look hp [] T with
 |some (.deep e z l g ep c)=>if g=v∧ep=m∧p.2.1=z then(match l[p.2.2]? with
   |some (.row e2 z2 l2)=>some (.hol e z l g (ep+1) c p.1 p.2.2 u,if l2.toList.all DT.cd then .row e2 z2 0 (.fld (.idx c p.1) p.2.2 1 false) true else .deep e2 z2 l2.toList 0 0 (.fld (.idx c p.1) p.2.2 1 false))
   |_=>none)else none
 |_=>none
def JY (sl:Nat→SV) (u:Nat):List Operand→Option (Nat × Nat × Nat × Nat × (E × Nat × Nat) × SV)
 | []=>none
 | .tmp t::l=>(match sl t with
  | .via T v m (some p) _=>some (t,T,v,m,p, .own u 0)
  | .vptr T v m (some p) _ k z q=>some (t,T,v,m,p, .da u 0 k z q)
  |_=>JY sl u l)
 |_::l=>JY sl u l
def u0 (o:Oper):Bool:=match o.op with
 | .call c=>(match c.callee with| .builtin .append=>true|_=>false)
 |_=>false
def J2:List (Nat × Ad)→Nat→Option Ad
 | [],_=>none
 |(t,e)::l,u=>match J2 l u with
  |some f=>some f
  |none=>if t=u then some e else none
def SE (h r:Ad):Option Ad:=match h with
 | .hol e z l g ep c i o _=>(match l[o]?,r with
  |some (.row e2 z2 l2), .row e3 z3 0 x true=>if l2.toList.all DT.cd∧e3=e2∧z3=z2∧l2.toList.length=z2∧(Ak P e∨z=1)then some (.deep e z l g (ep+1) (.set c i (.put (.idx c i) o x (Ak P e))))else none
  |some (.row e2 z2 l2), .deep e3 z3 l3 0 _ x=>if e3=e2∧z3=z2∧(AJ.of l3).beq l2∧(Ak P e∨z=1)then some (.deep e z l g (ep+1) (.set c i (.put (.idx c i) o x (Ak P e))))else none
  |_,_=>none)
 |_=>none
def SX (sl:Nat→SV) (hp:Nat→Option Ad) (nv nx:Nat) (o:Oper):Option AP:=
 let u:=nx+999
 match JY sl u o.op.operands.toList with
 |none=>none
 |some (t,T,v,m,p,s)=>(match SF hp T v m u p with
  |none=>none
  |some (h,r)=>
   (match Bg P sg (fun i=>if i=t then s else sl i) (fun w=>if w=T then some h else if w=u then some r else hp w) nv nx [] o with
   |none=>none
   |some e=>if e.cq.isSome then none else
    if u0 o then(match J2 e.bt T with|none=>some {e with bt:=(T,h)::(u,r)::e.bt}|some _=>none)else
    (match J2 e.bt u,J2 e.bt T with
    |some r',none=>(SE P h r').map fun d=>{e with bt:=(T,h)::(u,r)::e.bt++ [(T,d),(u, .dead)]}
    |_,_=>none)))
def pI (l:List (Nat × Ad)):List Nat:=l.filterMap fun p=>match p.2 with| .deep .. =>some p.1|_=>none
def Iw (dp:Bool) (hp:Nat→Option Ad) (gs:Gd) (e:AP):AP:=
 if dp|| !gs.isEmpty||e.call.isNone||e.cq.isSome then e else
 match CW (fun t=>match J2 e.bt t with|some f=>some f|none=>hp t) [] (pI e.bt)with
 |some l=>{e with bt:=e.bt++l}
 |none=>e
def Iy (fz:Bool) (hp:Nat→Option Ad) (gs:Gd) (e:AP):AP:=
 if !fz|| !gs.isEmpty||e.call.isSome||e.cq.isSome|| !e.bt.isEmpty then e else
 match e.val with
 | .via .. =>(match A5 hp [] AN e.val,CW hp [] (Bv hp [] (AN+1) [e.val])with
  |some y,some l=>if Lk hp [] (Bv hp [] (AN+1) [e.val])then{e with val:= .e y,bt:=l}else e
  |_,_=>e)
 |_=>e
def Kc (sl:Nat→SV) (hp:Nat→Option Ad) (nv nx:Nat) (gs:Gd) (o:Oper):Option AP:=
 match Bg P sg sl hp nv nx gs o with
 |some e=>some (Iy sg.fz hp gs (Iw sg.dp hp gs e))
 |none=>match gs with
  | []=>SX P sg sl hp nv nx o
  |_=>none
def Bd (σ:St) (i:Nat):SV:=(σ.sl[i]?).getD .undef
def Aw (l:List (Nat × Ad)) (t:Nat):Option Ad:=match l with| []=>none|(u,e)::l=>if u=t then some e else Aw l t
def Kl (l:List (Nat × Ad)) (t:Nat) (e:Ad):List (Nat × Ad):=match l with| []=> [(t,e)]|(u,f)::l=>if u=t then(u,e)::l else(u,f)::Kl l t e
def Gw (σ:St) (d:Option Nat) (s:SV):St:=match d with|none=>σ|some d=>{σ with sl:=σ.sl.set d s}
def F6:SV:= .gd [(.bool false,true)] .cr
def qE (gs:Gd):Bool:=gs.any fun g=>match g.1 with| .bool x=>x !=g.2|_=>false
def Mx (σ:St) (ops:Array Oper) (o:Oper):Option (Option Gd):=
 match o.guard with
 |none=>some (some [])
 |some (j,want)=>match(ops[j]?).bind (·.dst)with
  |none=>some none
  |some d=>match Bd σ d with
   | .e (.bool b)=>some (if b==want then some []else none)
   | .e c=>some (some [(c,want)])
   | .gd hs s=>if qE hs then some none else(match s with
    | .e (.bool b)=>some (if b==want then some hs else none)
    | .e c=>some (some ((c,want)::hs))
    |_=>none)
   |_=>none
def Bj:Nat:=1000
def JU (σ:St) (gs:Gd) (o:Oper) (e:AP):St:=
 let σ':=Gw σ o.dst (mkGd gs e.val)
 {σ' with hp:=e.bt.foldl (fun l (t,x)=>Kl l t x) σ'.hp,nv:=if e.call.isSome||e.cq.isSome then σ'.nv+1 else σ'.nv}
def XJ (gs:Gd) (e:AP) (k:Tr):Tr:=
 let k:=match e.call with|some c=> .call gs c.fn (EL.of c.args) k|none=>k
 let k:=match e.cq with|some x=> .cq gs x k|none=>k
 e.c6.foldr (fun c k=> .c6 gs c k) k
def assumeS (c:E) (b:Bool) (s:SV):SV:=match s with
 | .gd hs s=>if MQ (c, !b) hs then F6 else mkGd (hs.filter fun h=> !(h.1.beq c&&h.2==b)) s
 |s=>s
def assumeE (c:E) (b:Bool) (e:Ad):Ad:=match e with
 | .gd hs e=>if MQ (c, !b) hs then .dead else(match e with| .gd .. => .dead|e=>Co (hs.filter fun h=> !(h.1.beq c&&h.2==b)) e)
 |e=>e
def assume (c:E) (b:Bool) (d:Nat) (σ:St):St:=
 {σ with sl:=(σ.sl.map (assumeS c b)).set d (.e (.bool b)),hp:=σ.hp.map fun(t,e)=>(t,assumeE c b e)}
def oC:SV→List Nat
 | .cy t _=> [t]
 | .da t .. => [t]
 | .via t .. => [t]
 | .vptr t .. => [t]
 | .wown t .. => [t]
 | .gd _ s=>(match s with| .cy t _=> [t]| .da t .. => [t]| .via t .. => [t]| .vptr t .. => [t]| .wown t .. => [t]|_=> [])
 |_=> []
def jL:SV→List Nat
 | .via t .. => [t]
 | .vptr t .. => [t]
 | .gd _ s=>(match s with| .via t .. => [t]| .vptr t .. => [t]|_=> [])
 |_=> []
def SU (σ:St) (gs:Gd) (o:Oper):List Nat:=
 let sv (x:Operand):List SV:=match x with| .tmp t=> [Bd σ t]|_=> []
 match o.op with
 | .move _=> []
 | .assign _=> []
 | .nilCheck x=>(sv x).flatMap jL
 | .fieldAddr _ x _=>(sv x).flatMap jL
 | .extract .. => []
 | .makeFunc .. => []
 | .load _ a=>(sv a).flatMap oC
 | .store _ a v=>(sv a).flatMap oC++Bv (Aw σ.hp) gs AN (sv v)
 |op=>Bv (Aw σ.hp) gs AN (op.operands.toList.flatMap sv)
def Ni (l:List (Nat × Ad)) (R:List Nat) (t:Nat):Option Ad:=if R.contains t then Aw l t else none
structure Log where
 i:Nat
 R:List Nat
 W:List Nat
def ZL (a b:List Nat):Bool:=a.any fun t=>b.contains t
def XU (ops:Array Oper) (o:Oper):List Nat:=
 (o.op.operands.toList.filterMap fun x=>match x with| .tmp t=>some t|_=>none)++(match o.guard with|some (j,_)=>((ops[j]?).bind (·.dst)).toList|none=> [])
def fR (acc:List Nat) (o:Oper):Nat:=o.after.toList.foldl (fun s e=>if Region.binds .any e then s|||2^e.on|||(acc[e.on]?).getD 0 else s) 0
def ID:List Oper→List Nat→List Nat
 | [],acc=>acc
 |o::os,acc=>ID os (acc++ [fR acc o])
def Ic (bs:List Nat) (i j:Nat):Bool:=if i<j then((bs[j]?).getD 0).testBit i else((bs[i]?).getD 0).testBit j
def XR (ops:Array Oper) (l:List Log):Bool:=
 let bs:=ID ops.toList []
 (l.all fun a=>l.all fun b=>a.i==b.i|| !(ZL a.W (b.R++b.W))||Ic bs a.i b.i)&&
 (ops.toList.zipIdx.all fun(o,j)=>o.after.toList.all fun e=> !Region.binds .any e||decide (e.on<j))&&
 (ops.toList.zipIdx.all fun(o,j)=>ops.toList.zipIdx.all fun(p,i)=>i==j||(match p.dst with
  |some d=>(o.dst !=some d)&&(!(XU ops o).contains d||Ic bs i j)
  |none=>true))
def Cn.sc (n:Nat):Cn→Bool
 | .dfd x=>x.sc n
 | .agg x _=>x.sc n
 | .cells x _=>x.sc n
 | .inb i x _=>i.sc n&&x.sc n
 | .inbS i x=>i.sc n&&x.sc n
 | .win x lo hi=>x.sc n&&lo.sc n&&hi.sc n
 | .winS x lo hi=>x.sc n&&lo.sc n&&hi.sc n
 | .room x y _=>x.sc n&&y.sc n
 | .roomS x y=>x.sc n&&y.sc n
 | .mkroom x _=>x.sc n
 | .nz x=>x.sc n
 | .nn x=>x.sc n
 | .isref x _=>x.sc n
 | .issl x _=>x.sc n
 | .flat x _ _=>x.sc n
 | .flatS x _=>x.sc n
 | .kinds x _=>x.sc n
def QG (n:Nat) (gs:Gd):Bool:=gs.all fun g=>g.1.sc n
def Pc (n nx:Nat) (hp:List (Nat × Ad)) (gs:Gd) (e:AP):Bool:=
 QG n gs&&e.c6.all (Cn.sc n)&&
 (match e.call with|some c=>(match c.fn with| .inl _=>true| .inr x=>x.sc n)&&c.args.all (E.sc n)|none=>true)&&
 (match e.cq with|some x=>x.sc n&&e.call.isNone|none=>true)&&
 e.bt.all (fun(t,x)=>(nx≤t&&t<nx+Bj&&(gs.isEmpty||(match x with| .gd hs _=>Ki gs hs|_=>false)))||(gs.isEmpty&&(Aw hp t).isSome))
mutual
def SV.sc (n:Nat):SV→Bool
 | .undef| .cr| .emp| .own .. | .cy .. =>true
 | .e x=>x.sc n
 | .da _ _ i _ _=>i.sc n
 | .dv x i _ _=>x.sc n&&i.sc n
 | .dt x _=>x.sc n
 | .via _ _ _ p x=>(match p with|some q=>q.1.sc n|none=>true)&&x.sc n
 | .vptr _ _ _ p x i _ _=>(match p with|some q=>q.1.sc n|none=>true)&&x.sc n&&i.sc n
 | .wown _ _ l _=>l.sc n
 | .lent i=>decide (i<n)
 | .agg cs=>cs.sc n
 | .tup cs=>cs.sc n
 | .fn _ cs=>cs.sc n
 | .gd gs s=>QG n gs&&s.sc n
def Bb.sc (n:Nat):Bb→Bool
 | .nil=>true
 | .cons s l=>s.sc n&&l.sc n
end
def Ad.sc (n:Nat):Ad→Bool
 | .box _ _ cs=>cs.all (SV.sc n)
 | .row _ _ _ x _=>x.sc n
 | .cc _ x=>x.sc n
 | .gd gs e=>QG n gs&&(match e with| .box _ _ cs=>cs.all (SV.sc n)| .row _ _ _ x _=>x.sc n| .cc _ x=>x.sc n| .deep _ _ _ _ _ x=>x.sc n| .hol _ _ _ _ _ x i _ _=>x.sc n&&i.sc n|_=>true)
 | .deep _ _ _ _ _ x=>x.sc n
 | .hol _ _ _ _ _ x i _ _=>x.sc n&&i.sc n
 | .dead=>true
def St.sc (σ:St):Bool:=σ.sl.all (SV.sc σ.nv)&&σ.hp.all fun(_,e)=>e.sc σ.nv
def tU:SV→Bool
 | .e _=>true
 |_=>false
def jJ (ops:Array Oper):Bool:=ops.any fun o=>match o.op with| .panic _=>true|_=>false
def pW (σ:St) (ops:Array Oper):Nat→Oper→Option Nat
 |0,_=>none
 |n+1,o=>match o.guard with
  |none=>none
  |some (j,_)=>match ops[j]? with
   |none=>none
   |some p=>match p.dst with
    |none=>none
    |some d=>if tU (Bd σ d)then some d else pW σ ops n p
def QB (ops:Array Oper) (draw:Bool) (base:Nat) (next:List Log→St→Option Tr) (i:Nat) (o:Oper) (lg:List Log) (fail:Unit→Option Tr) (σ:St):Option Tr:=
 match Mx σ ops o with
 |none=>none
 |some none=>next lg (Gw σ o.dst F6)
 |some (some gs)=>
  let R:=SU σ gs o
  match Kc P sg (Bd σ) (Ni σ.hp R) σ.nv (base+Bj*i) gs o with
  |some e=>
   if(draw&&e.cq.isSome)|| !Pc σ.nv (base+Bj*i) σ.hp gs e||(!draw&&(e.call.isSome||e.cq.isSome)&& !σ.sc)then none else
   (match next (⟨i,R,e.bt.map (·.1)⟩::lg) (JU σ gs o e)with
   |none=>none
   |some k=>some (XJ gs e k))
  |none=>fail ()
def Tg (ops:Array Oper) (draw:Bool) (base:Nat) (next:List Log→St→Option Tr) (i:Nat) (o:Oper) (lg:List Log):Nat→St→Option Tr
 |0,σ=>QB P sg ops draw base next i o lg (fun _=>none) σ
 |n+1,σ=>QB P sg ops draw base next i o lg (fun _=>
  match draw,pW σ ops 8 o with
  |false,some d=>(match Bd σ d with
   | .e c=>(match Tg ops draw base next i o lg n (assume c true d σ),Tg ops draw base next i o lg n (assume c false d σ)with
    |some k1,some k0=>some (.ite c k1 k0)
    |_,_=>none)
   |_=>none)
  |_,_=>none) σ
def Kj (ops:Array Oper) (draw:Bool) (base:Nat):List Nat→List Log→St→Option Tr
 | [],lg,σ=>if draw&& !XR ops lg then none else some (.leaf .normal {σ with nx:=base+Bj*ops.size})
 |i::is,lg,σ=>
  match ops[i]? with
  |none=>none
  |some o=>Tg P sg ops draw base (fun lg σ=>Kj ops draw base is lg σ) i o lg 4 σ
end
def bit (i:Nat):Nat:=1<<<i
def Gl (l d:Nat):Nat:=l^^^(l&&&d)
def DB:List Operand→Nat
 | []=>0
 | .tmp t::l=>bit t|||DB l
 |_::l=>DB l
def zyh (ops:Array Oper) (l:Nat):Nat:=
 let r:=ops.toList.foldl (fun(acc:Nat × Nat) o=>
  let u:=DB o.op.operands.toList
  (acc.1|||Gl u acc.2,match o.dst,o.guard with|some d,none=>acc.2|||bit d|_,_=>acc.2)) (0,0)
 r.1|||Gl l r.2
def BS (rs:Nat):Code→List (Nat × Nat)→Nat→Nat
 | .skip,_,l=>l
 | .region _ ops _,_,l=>zyh ops l
 | .seq a b,ex,l=>BS rs a ex (BS rs b ex l)
 | .cond c a b,ex,l=>DB [c]|||BS rs a ex l|||BS rs b ex l
 | .block id b,ex,l=>BS rs b ((id,l)::ex) l
 | .loop b,ex,l=>let l1:=BS rs b ex 0;BS rs b ex l1|||l1
 | .exit id,ex,_=>(ex.lookup id).getD 0
 | .scope b,ex,l=>BS rs b ex l
 | .label _,_,l=>l
 | .ret,_,_=>rs
 |_,_,_=>0
def Tr.dj:Tr→List St
 | .leaf .normal σ=> [σ]
 | .leaf _ _=> []
 | .ret _=> []
 | .stuck=> []
 | .jmp .. => []
 | .ite _ a b=>a.dj++b.dj
 | .c6 _ _ k=>k.dj
 | .call _ _ _ k=>k.dj
 | .cq _ _ k=>k.dj
 | .join t k=>t.dj++k.dj
 | .loop _ b k=>b.dj++k.dj
def Tr.ez (id:Nat):Tr→List St
 | .leaf (.exit j) σ=>if j=id then [σ]else []
 | .leaf _ _=> []
 | .ret _=> []
 | .stuck=> []
 | .jmp .. => []
 | .ite _ a b=>a.ez id++b.ez id
 | .c6 _ _ k=>k.ez id
 | .call _ _ _ k=>k.ez id
 | .cq _ _ k=>k.ez id
 | .join t k=>t.ez id++k.ez id
 | .loop _ b k=>b.ez id++k.ez id
def Tr.cx:Tr→Option Nat
 | .leaf (.exit j) _=>some j
 | .leaf _ _=>none
 | .ret _=>none
 | .stuck=>none
 | .jmp .. =>none
 | .ite _ a b=>a.cx<|>b.cx
 | .c6 _ _ k=>k.cx
 | .call _ _ _ k=>k.cx
 | .cq _ _ k=>k.cx
 | .join t k=>t.cx<|>k.cx
 | .loop _ b k=>b.cx<|>k.cx
def Tr.sub (f:Nat→Xt→St→Option Tr):Nat→Tr→Option Tr
 |d, .leaf x σ=>f d x σ
 |_, .ret r=>some (.ret r)
 |_, .stuck=>some .stuck
 |_, .jmp i es=>some (.jmp i es)
 |d, .ite c a b=>match a.sub f d,b.sub f d with|some x,some y=>some (.ite c x y)|_,_=>none
 |d, .c6 g c k=>(k.sub f d).map (.c6 g c)
 |d, .call g h as_ k=>(k.sub f d).map (.call g h as_)
 |d, .cq g x k=>(k.sub f d).map (.cq g x)
 |d, .join t k=>match t.sub f (d+1),k.sub f d with|some x,some y=>some (.join x y)|_,_=>none
 |d, .loop i b k=>match b.sub f (d+2),k.sub f d with|some x,some y=>some (.loop i x y)|_,_=>none
def OU:Nat:=100000
def z8:E→Bool
 | .var i=>OU≤i
 |_=>false
structure Wd where
 hp:List (Nat × Ad)
 nx:Nat
 n:Nat
 θ:List (Nat × Nat)
def wE (nv:Nat) (w:Wd) (p y:E):E × Wd:=
 if z8 p then(p,w)else if p.sc nv&&p.beq y then(p,w)else(.var (OU+w.n),{w with n:=w.n+1})
def IZ (hp:List (Nat × Ad)) (t g:Nat):Bool:=match Aw hp t with
 |some (.row _ _ g' _ _)=>g==g'
 |some (.cc g' _)=>g==g'
 |some (.deep _ _ _ g' _ _)=>g==g'
 |_=>false
def yM (hp:List (Nat × Ad)) (t:Nat) (x:E):Option Ad:=match Aw hp t with
 |some (.row e s _ _ d)=>some (.row e s 0 x d)
 |some (.deep e s l _ _ _)=>some (.deep e s l 0 0 x)
 |_=>none
def Hy (leaf:St) (s:SV):Option E:=A5 (Aw leaf.hp) [] AN s
def gI:Nat:=1000000000
def ZP (w:Wd) (t t':Nat):Option Wd:=
 match w.θ.lookup t with
 |some u=>if u=t' then some w else none
 |none=>if w.θ.any (·.2==t')then none else some {w with θ:=(t,t')::w.θ}
def Kd (nv:Nat) (w:Wd) (p y:Option E):SV × Wd:=
 match y with
 |none=>(.undef,w)
 |some y=>match p with
  |some p=>let(x,w):=wE nv w p y;(.e x,w)
  |none=>(.e (.var (OU+w.n)),{w with n:=w.n+1})
mutual
def wS (nv:Nat) (pat leaf:St):Nat→Wd→SV→SV→SV × Wd
 |0,w,_,_=>(.undef,w)
 |n+1,w,p,s=>
  match p,s with
  | .undef,_=>(.undef,w)
  | .e x,s=>Kd nv w (some x) (Hy leaf s)
  | .cr, .cr=>(.cr,w)
  | .emp, .emp=>(.emp,w)
  | .emp,s=>Kd nv w none (Hy leaf s)
  | .cr, .own t' g'=>(match yM leaf.hp t' (.var (OU+w.n)),IZ leaf.hp t' g' with
   |some e,true=>(match ZP w w.nx t' with
    |some w'=>(.own w.nx 0,{w' with nx:=w.nx+1,n:=w'.n+1,hp:=w'.hp++ [(w.nx,e)]})
    |none=>Kd nv w none (Hy leaf s))
   |_,_=>Kd nv w none (Hy leaf s))
  | .cr,s=>Kd nv w none (Hy leaf s)
  | .own t g, .own t' g'=>
   if !IZ w.hp t g|| !IZ leaf.hp t' g' then(.undef,w)else
   (match ZP w t t' with
   |some w'=>(.own t g,w')
   |none=>Kd nv w none (Hy leaf s))
  | .own t g, .cr=>if(w.θ.lookup t).isSome then Kd nv w none (Hy leaf s)else(.own t g,{w with θ:=(t,gI+t)::w.θ})
  | .own _ _,s=>Kd nv w none (Hy leaf s)
  | .cy t o, .cy t' o'=>if o=o' then(match ZP w t t' with|some w'=>(.cy t o,w')|none=>(.undef,w))else(.undef,w)
  | .agg cs, .agg ds=>let(l,w'):=Nc nv pat leaf n w cs.toList ds.toList;(.agg (Bb.of l),w')
  | .agg cs,s=>Kd nv w none (Hy leaf s)
  | .tup cs, .tup ds=>let(l,w'):=Nc nv pat leaf n w cs.toList ds.toList;(.tup (Bb.of l),w')
  | .fn f cs, .fn g ds=>if f=g then let(l,w'):=Nc nv pat leaf n w cs.toList ds.toList;(.fn f (Bb.of l),w')else(.undef,w)
  | .dt x o, .dt y o'=>if o=o'&&x.sc nv&&x.beq y then(p,w)else(.undef,w)
  | .dv x i z o, .dv y j z' o'=>if o=o'&&z=z'&&x.sc nv&&x.beq y&&i.sc nv&&i.beq j then(p,w)else(.undef,w)
  | .lent i, .lent j=>if i==j&&decide (i<nv)then(p,w)else(.undef,w)
  |_,_=>(.undef,w)
def Nc (nv:Nat) (pat leaf:St):Nat→Wd→List SV→List SV→List SV × Wd
 |0,w,_,_=>([],w)
 |n+1,w,p::ps,s::ss=>
  let(x,w):=wS nv pat leaf n w p s;let(xs,w):=Nc nv pat leaf n w ps ss
  (x::xs,w)
 |_,w,_,_=>([],w)
end
def O5 (nv:Nat) (pat leaf:St):List (Nat × Ad)→Wd→List (Nat × Ad)→List (Nat × Ad) × Wd
 | [],w,acc=>(acc.reverse,w)
 |(t,e)::l,w,acc=>
  match e,(w.θ.lookup t)with
  | .box ty g cs,some t'=>(match Aw leaf.hp t' with
   |some (.box ty' _ ds)=>if ty=ty' then
     let w0:=w;let(xs,w):=Nc nv pat leaf AN w0 cs ds
     O5 nv pat leaf l w ((t, .box ty g xs)::acc)
    else O5 nv pat leaf l w acc
   |_=>O5 nv pat leaf l w acc)
  | .box ..,none=>O5 nv pat leaf l w acc
  |e,_=>O5 nv pat leaf l w ((t,e)::acc)
def EI (nv:Nat) (leaf:St):List (Nat × Ad)→Wd→List (Nat × Ad)→List (Nat × Ad) × Wd
 | [],w,acc=>(acc.reverse,w)
 |(t,e)::l,w,acc=>
  match e with
  | .row et z g x d=>(match w.θ.lookup t with
   |some t'=>if gI≤t' then(let(x,w):=wE nv w x (.lst .nil);EI nv leaf l w ((t, .row et z g x d)::acc))else(match Aw leaf.hp t' with
    |some (.row _ _ _ y d')=>let(x,w):=wE nv w x y;EI nv leaf l w ((t, .row et z g x (d&&d'))::acc)
    |some (.cc _ y)=>let(x,w):=wE nv w x y;EI nv leaf l w ((t, .cc g x)::acc)
    |some (.deep _ _ _ _ _ y)=>let(x,w):=wE nv w x y;EI nv leaf l w ((t, .row et z g x false)::acc)
    |_=>EI nv leaf l w acc)
   |none=>EI nv leaf l w acc)
  | .deep et z dl g ep x=>(match w.θ.lookup t with
   |some t'=>if gI≤t' then(let(x,w):=wE nv w x (.lst .nil);EI nv leaf l w ((t, .deep et z dl g ep x)::acc))else(match Aw leaf.hp t' with
    |some (.deep _ _ _ _ _ y)=>let(x,w):=wE nv w x y;EI nv leaf l w ((t, .deep et z dl g ep x)::acc)
    |some (.row _ _ _ y _)=>let(x,w):=wE nv w x y;EI nv leaf l w ((t, .row et z g x false)::acc)
    |some (.cc _ y)=>let(x,w):=wE nv w x y;EI nv leaf l w ((t, .cc g x)::acc)
    |_=>EI nv leaf l w acc)
   |none=>EI nv leaf l w acc)
  | .cc g x=>(match w.θ.lookup t with
   |some t'=>(match Aw leaf.hp t' with
    |some (.row _ _ _ y _)=>let(x,w):=wE nv w x y;EI nv leaf l w ((t, .cc g x)::acc)
    |some (.cc _ y)=>let(x,w):=wE nv w x y;EI nv leaf l w ((t, .cc g x)::acc)
    |some (.deep _ _ _ _ _ y)=>let(x,w):=wE nv w x y;EI nv leaf l w ((t, .cc g x)::acc)
    |_=>EI nv leaf l w acc)
   |none=>EI nv leaf l w acc)
  |e=>EI nv leaf l w ((t,e)::acc)
def kE (nv live:Nat) (pat:St × Nat) (leaf:St):St × Nat:=
 let w0:Wd:={hp:=pat.1.hp,nx:=max pat.1.nx leaf.nx,n:=pat.2,θ:= []}
 let(sl,w):=Nc nv pat.1 leaf 2000 w0 (pat.1.sl.zipIdx.map fun(s,i)=>if live.testBit i then s else .undef) leaf.sl;let n0:=w.hp.length;let(hp,w):=O5 nv pat.1 leaf w.hp w [];let hp:=hp++w.hp.drop n0;let(hp,w):=EI nv leaf hp w []
 ({sl,hp,nx:=max w.nx leaf.nx,nv:=pat.1.nv},w.n)
def TR (nv:Nat):E→E
 | .var i=>if OU≤i then .var (nv+(i-OU))else .var i
 |e=>e
mutual
def Zy (nv:Nat):SV→SV
 | .e x=> .e (TR nv x)
 | .agg cs=> .agg (T7 nv cs)
 | .tup cs=> .tup (T7 nv cs)
 | .fn f cs=> .fn f (T7 nv cs)
 | .gd _ _=> .undef
 |s=>s
def T7 (nv:Nat):Bb→Bb
 | .nil=> .nil
 | .cons s l=> .cons (Zy nv s) (T7 nv l)
end
def zZ (nv:Nat):Ad→Ad
 | .box ty g cs=> .box ty g (cs.map (Zy nv))
 | .row e z g x d=> .row e z g (TR nv x) d
 | .cc g x=> .cc g (TR nv x)
 | .deep e z l g ep x=> .deep e z l g ep (TR nv x)
 | .gd _ _=> .dead
 |e=>e
def jP (nv:Nat) (p:St × Nat):St:={sl:=p.1.sl.map (Zy nv),hp:=p.1.hp.map fun(t,e)=>(t,zZ nv e),nx:=p.1.nx,nv:=nv+p.2}
def Ia (nv:Nat) (es:List E) (x y:E):Bool:=
 match x with
 | .var i=>if i<nv then x.beq y else(match es[i-nv]? with|some z=>z.beq y|none=>false)
 |_=>x.sc nv&&x.beq y
section
variable (nv:Nat) (es:List E) (θ:List (Nat × Option Nat)) (pat leaf:St)
mutual
def Qw:Nat→SV→SV→Bool
 |0,_,_=>false
 |n+1,p,s=>
  match p with
  | .undef=>true
  | .e x=>(match Hy leaf s with
   |some y=>Ia nv es x y&&(Bv (Aw leaf.hp) [] (AN+1) [s]).all fun t'=>θ.all fun(u,v)=>v !=some t'||(match Aw pat.hp u with|some (.cc ..)=>true|none=>true|_=>false)
   |none=>false)
  | .cr=>(match s with| .cr=>true|_=>false)
  | .emp=>(match s with| .emp=>true| .cr=>true|_=>false)
  | .own t g=>(match Aw pat.hp t with
   |some (.row _ _ g' _ _)=>g==g'&&(match s with
    | .own t' v=>θ.lookup t==some (some t')&&IZ leaf.hp t' v
    | .cr=>θ.lookup t==some none
    |_=>false)
   |some (.cc g' _)=>g==g'&&(match s with
    | .own t' v=>θ.lookup t==some (some t')&&IZ leaf.hp t' v
    |_=>false)
   |some (.deep _ _ _ g' _ _)=>g==g'&&(match s with
    | .own t' v=>θ.lookup t==some (some t')&&IZ leaf.hp t' v
    | .cr=>θ.lookup t==some none
    |_=>false)
   |_=>false)
  | .cy t o=>(match Aw pat.hp t with
   |some (.box ..)=>(match s with| .cy t' o'=>o==o'&&θ.lookup t==some (some t')|_=>false)
   |_=>false)
  | .da .. =>false
  | .dv x i z o=>(match s with| .dv y j z' o'=>z==z'&&o==o'&&x.sc nv&&x.beq y&&i.sc nv&&i.beq j|_=>false)
  | .dt x o=>(match s with| .dt y o'=>o==o'&&x.sc nv&&x.beq y|_=>false)
  | .agg cs=>(match s with| .agg ds=>F5 n cs.toList ds.toList|_=>false)
  | .tup cs=>(match s with| .tup ds=>F5 n cs.toList ds.toList|_=>false)
  | .fn f cs=>(match s with| .fn g ds=>f==g&&F5 n cs.toList ds.toList|_=>false)
  | .gd .. =>false
  | .via .. =>false
  | .vptr .. =>false
  | .wown .. =>false
  | .lent i=>(match s with| .lent j=>i==j&&decide (i<nv)|_=>false)
def F5:Nat→List SV→List SV→Bool
 |0,_,_=>false
 |_+1, [], []=>true
 |n+1,p::ps,s::ss=>Qw n p s&&F5 n ps ss
 |_,_,_=>false
end
def G9 (t:Nat) (e:Ad):Bool:=
 match e with
 | .box ty g cs=>(match θ.lookup t with
  |some (some t')=>(match Aw leaf.hp t' with|some (.box ty' g' ds)=>ty==ty'&&g==g'&&F5 nv es θ pat leaf AN cs ds|_=>false)
  |_=>false)
 | .row et z _ x d=>(match θ.lookup t with
  |some (some t')=>(match Aw leaf.hp t' with|some (.row et' z' _ y d')=>et==et'&&z==z'&&Ia nv es x y&&(!d||d')|some (.deep et' z' _ _ _ y)=>et==et'&&z==z'&&Ia nv es x y&& !d|_=>false)
  |some none=>Ia nv es x (.lst .nil)&&0<z
  |none=>false)
 | .deep et z dl _ _ x=>(match θ.lookup t with
  |some (some t')=>(match Aw leaf.hp t' with|some (.deep et' z' dl' _ _ y)=>et==et'&&z==z'&&(AJ.of dl).beq (AJ.of dl')&&Ia nv es x y|_=>false)
  |some none=>Ia nv es x (.lst .nil)&&0<z&&dl.length==z
  |none=>false)
 | .cc _ x=>(match θ.lookup t with
  |some (some t')=>(match Aw leaf.hp t' with|some (.row _ _ _ y _)=>Ia nv es x y|some (.cc _ y)=>Ia nv es x y|some (.deep _ _ _ _ _ y)=>Ia nv es x y|_=>false)
  |_=>false)
 | .hol .. =>false
 | .gd .. =>false
 | .dead=>true
def Li:List (Nat × Option Nat)→Bool
 | []=>true
 |(t,some u)::l=>l.all (fun(t',v)=>t !=t'&&v !=some u)&&Li l
 |(t,none)::l=>l.all (fun(t',_)=>t !=t')&&Li l
def KN (t:Nat):Bool:=(match Aw pat.hp t with
 |none=>true
 |some .dead=>true
 |some (.cc g _)=>g !=0
 |some (.row _ _ g _ _)=>g !=0||(θ.lookup t==some (some t)&&(match Aw leaf.hp t with|some (.row _ _ g' _ _)=>g'==0|_=>false))
 |some (.deep _ _ _ g _ _)=>g !=0||(θ.lookup t==some (some t)&&(match Aw leaf.hp t with|some (.deep _ _ _ g' _ _)=>g'==0|_=>false))
 |some (.box ..)=>θ.lookup t==some (some t)&&(match Aw leaf.hp t with|some (.box ..)=>true|_=>false)
 |_=>false)
def kM:Bool:=
 pat.nv==nv+es.length&&Li θ&&pat.sl.length==leaf.sl.length&&F5 nv es θ pat leaf 2000 pat.sl leaf.sl&&(pat.hp.all fun(t,e)=>G9 nv es θ pat leaf t e&&decide (t<pat.nx))&&decide (100000≤pat.nx)&&pat.hp.all fun(t,_)=> !Lj t||KN θ pat leaf t
end
structure In where
 as_:List (Nat × E)
 θ:List (Nat × Option Nat)
def IC (a:In) (nv:Nat) (x y:E):In:=match x with| .var i=>if i<nv then a else{a with as_:=(i,y)::a.as_}|_=>a
def ZE (a:In) (t:Nat) (t':Option Nat):In:=match a.θ.lookup t with|some _=>a|none=>{a with θ:=(t,t')::a.θ}
mutual
def tT (nv:Nat) (pat leaf:St):Nat→In→SV→SV→In
 |0,a,_,_=>a
 |n+1,a,p,s=>
  match p,s with
  | .e x,s=>(match Hy leaf s with|some y=>IC a nv x y|none=>a)
  | .own t g, .own t' _=>if IZ pat.hp t g then ZE a t (some t')else a
  | .own t g, .cr=>if IZ pat.hp t g then ZE a t none else a
  | .cy t _, .cy t' _=>ZE a t (some t')
  | .agg cs, .agg ds=>KU nv pat leaf n a cs.toList ds.toList
  | .tup cs, .tup ds=>KU nv pat leaf n a cs.toList ds.toList
  | .fn _ cs, .fn _ ds=>KU nv pat leaf n a cs.toList ds.toList
  |_,_=>a
def KU (nv:Nat) (pat leaf:St):Nat→In→List SV→List SV→In
 |0,a,_,_=>a
 |n+1,a,p::ps,s::ss=>KU nv pat leaf n (tT nv pat leaf n a p s) ps ss
 |_,a,_,_=>a
end
def MN (nv:Nat) (pat leaf:St) (Eg:Bool):List (Nat × Ad)→In→In
 | [],a=>a
 |(t,e)::l,a=>MN nv pat leaf Eg l (match e,a.θ.lookup t with
  | .box _ _ cs,some (some t')=>if Eg then a else(match Aw leaf.hp t' with|some (.box _ _ ds)=>KU nv pat leaf AN a cs ds|_=>a)
  | .row _ _ _ x _,some (some t')=>if Eg then(match Aw leaf.hp t' with|some (.row _ _ _ y _)=>IC a nv x y|some (.cc _ y)=>IC a nv x y|some (.deep _ _ _ _ _ y)=>IC a nv x y|_=>a)else a
  | .deep _ _ _ _ _ x,some (some t')=>if Eg then(match Aw leaf.hp t' with|some (.deep _ _ _ _ _ y)=>IC a nv x y|_=>a)else a
  | .deep _ _ _ _ _ x,some none=>if Eg then IC a nv x (.lst .nil)else a
  | .row _ _ _ x _,some none=>if Eg then IC a nv x (.lst .nil)else a
  | .cc _ x,some (some t')=>if Eg then(match Aw leaf.hp t' with|some (.row _ _ _ y _)=>IC a nv x y|some (.cc _ y)=>IC a nv x y|some (.deep _ _ _ _ _ y)=>IC a nv x y|_=>a)else a
  |_,_=>a)
def IF (nv:Nat) (pat leaf:St):Option (List E):=
 let a:=KU nv pat leaf 2000 ⟨[], []⟩ pat.sl leaf.sl;let a:=MN nv pat leaf false pat.hp a;let a:=MN nv pat leaf true pat.hp a;let es:=(List.range (pat.nv-nv)).map fun j=>(a.as_.lookup (nv+j)).getD (.int .i64 0)
 if kM nv es a.θ pat leaf then some es else none
def qC (nv live:Nat):List St→Option St
 | []=>none
 |σ::ls=>some (jP nv ((σ::ls).foldl (kE nv live) ({σ with nv:=nv},0)))
section
variable (P:Program) (sg:BB) (rs:Nat)
def SS (run:St→Option Tr) (nv live:Nat) (σ:St):Nat→St × Nat→Option (St × Tr)
 |0,_=>none
 |n+1,p=>
  let pat:=jP nv p
  match run pat with
  |none=>none
  |some t=>
   if t.dj.all fun l=>(IF nv pat l).isSome then some (pat,t)
   else SS run nv live σ n (t.dj.foldl (fun p l=>kE nv live p (unname nv l)) p)
where
 unname (_:Nat) (l:St):St:=l
def DF:Code→List (Nat × Nat)→Nat→St→Option Tr
 | .skip,_,_,σ=>some (.leaf .normal σ)
 | .label _,_,_,σ=>some (.leaf .normal σ)
 | .ret,_,_,σ=>some (.leaf .ret σ)
 | .exit id,_,_,σ=>some (.leaf (.exit id) σ)
 | .region _ ops draw,_,_,σ=>if jJ ops then some .stuck else if !σ.sc|| !(σ.hp.all fun(t,_)=>decide (t<σ.nx))then none else Kj P sg ops draw σ.nx (List.range ops.size) [] σ
 | .scope b,ex,l,σ=>DF b ex l σ
 | .cond c a b,ex,l,σ=>
  match Bm (Bd σ) [] c with
  |some (.e (.bool true))=>DF a ex l σ
  |some (.e (.bool false))=>DF b ex l σ
  |some (.e x)=>(match DF a ex l σ,DF b ex l σ with
   |some ta,some tb=>some (.ite x ta tb)
   |_,_=>none)
  |_=>none
 | .block id b,ex,l,σ=>(DF b ((id,l)::ex) l σ).bind fun t=>t.sub (fun _ x τ=>some (.leaf (match x with| .exit j=>if j=id then .normal else .exit j|x=>x) τ)) 0
 | .seq a b,ex,l,σ=>
  let lb:=BS rs b ex l
  match DF a ex lb σ with
  |none=>none
  |some t=>
   match t.dj with
   | []=>some t
   | [τ]=>(match DF b ex l τ with
    |none=>none
    |some k=>t.sub (fun _ x τ=>some (match x with| .normal=>k|x=> .leaf x τ)) 0)
   |ls=>(match qC σ.nv lb ls with
    |none=>none
    |some pat=>(match DF b ex l pat with
     |none=>none
     |some k=>(t.sub (fun d x τ=>match x with
       | .normal=>(IF σ.nv pat τ).map fun es=> .jmp d (EL.of es)
       |x=>some (.leaf x τ)) 0).map fun t'=> .join t' k))
 | .loop b,ex,l,σ=>
  let lh:=BS rs (.loop b) ex l
  match SS (fun τ=>DF b ex lh τ) σ.nv lh σ 6 ({σ with sl:=σ.sl.zipIdx.map fun(s,i)=>if lh.testBit i then s else .undef},0)with
  |none=>none
  |some (pat,t)=>
   match IF σ.nv pat σ with
   |none=>none
   |some i0=>
    match t.cx with
    |none=>(t.sub (fun d x τ=>match x with
      | .normal=>(IF σ.nv pat τ).map fun es=> .jmp d (EL.of es)
      |x=>some (.leaf x τ)) 0).map fun t'=> .loop (EL.of i0) t' (.ret (.int .i64 0))
    |some id=>
     match qC σ.nv ((ex.lookup id).getD 0) (t.ez id)with
     |none=>none
     |some post=>(t.sub (fun d x τ=>match x with
       | .normal=>(IF σ.nv pat τ).map fun es=> .jmp d (EL.of es)
       | .exit j=>if j=id then(IF σ.nv post τ).map fun es=> .jmp (d+1) (EL.of es)else some (.leaf x τ)
       |x=>some (.leaf x τ)) 0).map fun t'=> .loop (EL.of i0) t' (.leaf (.exit id) post)
 |_,_,_,_=>none
end
section
variable (P:Program) (sg:BB)
def O2 (i b:Nat) (t:TypeId) (own:List Bool):Option (SV × List (Nat × Ad)):=
 let l:=Cm P (1000*i+b) (CU (.var i) (Ak P t)) 0 (AZ P t) own
 if 400<(AZ P t).length then none else
 if Ak P t then some (.agg (Bb.of l.1),l.2)else(match l.1 with| [s]=>some (s,l.2)|_=>none)
def XM (i:Nat) (t:TypeId) (lo:Bool):PM→Option (SV × List (Nat × Ad))
 | .ro=>some (if lo then .lent i else .e (.var i), [])
 | .va own=>O2 P i 1 t own
 | .mu own=>O2 P i 500 t own
 | .bx own _=>match IG P t with
  |some ty=>
   let l:=Cm P (1000*i+1) (CU (.deref (.var i)) true) 0 (AZ P ty) own
   if 400<(AZ P ty).length then none else some (.cy (1000*i) 0,(1000*i, .box ty (Ak P ty) l.1)::l.2)
  |none=>none
def Ld:Nat→List TypeId→List PM→List Bool→Option (List SV × List (Nat × Ad))
 |_, [],_,_=>some ([], [])
 |i,t::ts,ms,lo=>match XM P i t (lo.headD false) (ms.headD .ro),Ld (i+1) ts ms.tail lo.tail with
  |some (s,l),some (ss,ls)=>some (s::ss,l++ls)
  |_,_=>none
def fL (fn:Func) (s:F7):Option St:=
 match Ld P 0 (fn.params.toList++s.ft) s.dc s.lo with
 |none=>none
 |some (ss,l)=>
  let n:=fn.params.size+fn.nfree;let fr:=(List.range (fn.nfree-s.ft.length)).map fun j=>SV.e (.var (fn.params.size+s.ft.length+j))
  if fn.ntmps<n||99<fn.params.size+s.ft.length||fn.nfree<s.ft.length then none else some {sl:=ss++fr++List.replicate (fn.ntmps-n) .undef,hp:=l,nx:=100000,nv:=n}
def ON (σ:St):ResultVar→Option SV
 | .tmp t=>some (Bd σ t)
 | .cell a ty=>match Bd σ a with
  | .cy b o=>(match Aw σ.hp b with|some (.box _ _ cs)=>if CM P ty then MV P ty cs o else none|_=>none)
  |_=>none
def J7 (σ:St):List TypeId→List Bool→List SV→Option (List Nat)
 | [],_, []=>some []
 |t::ts,fl,c::cs=>(match J7 σ ts fl.tail cs with
  |none=>none
  |some l=>match fl.headD false,Cv P t with
   |true,some e=>if P.cellsOf e=0 then none else(match c with
    | .cr=>some l
    | .own u g=>(match Aw σ.hp u with
     |some (.row e' z g' _ d)=>if g=g'∧e'=e∧z=P.cellsOf e∧(BM P e∧d∨BM P e=false∧(Dm P t).isNone)then some (u::l)else none
     |some (.deep e' z dl g' _ _)=>if g=g'∧BM P e=false∧ME (Dm P t) e' z dl then some (u::l)else none
     |_=>none)
    |_=>none)
   |_,_=>some l)
 |_,_,_=>none
def gL (σ:St) (t:TypeId) (fl:List Bool) (s:SV):Option (List Nat):=
 if Ha P t fl then
  if Ak P t then(match s with| .agg cs=>J7 P σ (AZ P t) fl cs.toList|_=>none)else J7 P σ (AZ P t) fl [s]
 else some []
def MF (σ:St):List TypeId→List Bool→List SV→Option (List Nat)
 | [],_, []=>some []
 |t::ts,fl,s::ss=>(match gL P σ t fl s,MF σ ts (fl.drop (AZ P t).length) ss with
  |some a,some b=>some (a++b)
  |_,_=>none)
 |_,_,_=>none
def Tk (σ:St) (i:Nat) (mk:Nat→E):Nat→List TypeId→List Bool→Option (List E × List Nat)
 |_, [],_=>some ([], [])
 |j,t::ts,fl=>match Tk σ i mk (j+1) ts fl.tail with
  |none=>none
  |some (xs,us)=>match fl.headD false,Cv P t with
   |true,some e=>(match Aw σ.hp (1000*i+500+j)with
    |some (.row e' z 0 y d)=>if e'=e∧z=P.cellsOf e∧(BM P e∧d∨BM P e=false∧(Dm P t).isNone)then some (y::xs,(1000*i+500+j)::us)else none
    |some (.deep e' z dl 0 _ y)=>if BM P e=false∧ME (Dm P t) e' z dl then some (y::xs,(1000*i+500+j)::us)else none
    |_=>none)
   |_,_=>some (mk j::xs,us)
def SQ (σ:St):Nat→List TypeId→List PM→Option (List E × List Nat)
 |_, [],_=>some ([], [])
 |i,t::ts,ms=>match SQ σ (i+1) ts ms.tail with
  |none=>none
  |some (xs,us)=>if 99<i then none else match ms.headD .ro with
   | .ro=>some (xs,us)
   | .va _=>some (xs,us)
   | .mu own=>if 400<(AZ P t).length then none else(match Tk P σ i (CU (.var i) (Ak P t)) 0 (AZ P t) own with
    |some (es,vs)=>some ((if Ak P t then .mk (EL.of es)else es.headD (.var i))::xs,vs++us)
    |none=>none)
   | .bx _ own'=>(match IG P t,Aw σ.hp (1000*i)with
    |some ty,some (.box ty' _ cs)=>if ty'≠ty then none else(match BZ (Aw σ.hp) [] AN cs,J7 P σ (AZ P ty) own' cs with
     |some es,some vs=>some (.mk es::xs,(1000*i)::vs++us)
     |_,_=>none)
    |_,_=>none)
def It (σ:St):List TypeId→List Bool→List SV→List Nat
 |t::ts,fl,c::cs=>(if fl.headD false&&(Cv P t).isSome then []else Bv (Aw σ.hp) [] (AN+1) [c])++It σ ts fl.tail cs
 |_,_,_=> []
def ZI (σ:St) (t:TypeId) (fl:List Bool) (s:SV):List Nat:=
 if Ha P t fl then(if Ak P t then(match s with| .agg cs=>It P σ (AZ P t) fl cs.toList|_=> [])else It P σ (AZ P t) fl [s])else Bv (Aw σ.hp) [] (AN+1) [s]
def S1 (σ:St):List TypeId→List Bool→List SV→List Nat
 |t::ts,fl,s::ss=>ZI P σ t fl s++S1 σ ts (fl.drop (AZ P t).length) ss
 |_,_,_=> []
def MP (σ:St):Nat→List TypeId→List PM→List Nat
 |_, [],_=> []
 |i,t::ts,ms=>(match ms.headD .ro,IG P t,Aw σ.hp (1000*i)with
  | .bx _ own',some ty,some (.box _ _ cs)=>It P σ (AZ P ty) own' cs
  |_,_,_=> [])++MP σ (i+1) ts ms.tail
def TV (fn:Func) (s:F7) (σ:St):Option Tr:=
 match fn.results.toList.mapM (ON P σ),SQ P σ 0 (fn.params.toList++s.ft) s.dc with
 |some rs,some (bx,us)=>
  match BZ (Aw σ.hp) [] AN rs,MF P σ fn.resultTypes.toList s.res rs with
  |some es,some vs=>
   if !Kb (vs++us)||(S1 P σ fn.resultTypes.toList s.res rs++MP P σ 0 (fn.params.toList++s.ft) s.dc).any (fun t=>(vs++us).contains t)then none else
   let r:E:=match es with| .cons x .nil=>x|es=> .tup es
   some (.ret (if bx.isEmpty then r else .tup (EL.of (r::bx))))
  |_,_=>none
 |_,_=>none
def qQ (fn:Func) (s:F7):Nat:=
 fn.results.toList.foldl (fun l r=>l|||match r with| .tmp t=>bit t| .cell a _=>bit a) 0|||(s.dc.zipIdx.foldl (fun l (m,i)=>match m with| .bx .. =>l|||bit i| .mu _=>l|||bit i|_=>l) 0)
def QC (f:Nat):Option Tr:=
 match P.funcs[f]?,sg f with
 |some fn,some s=>(match fn.body,fL P fn s with
  |some c,some σ=>(match DF P {sg with dp:=s.dp,wn:=s.wn,fz:=s.fz} (qQ fn s) c [] (qQ fn s) σ with
   |some t=>t.sub (fun _ x τ=>match x with| .normal=>TV P fn s τ| .ret=>TV P fn s τ| .exit _=>none) 0
   |none=>none)
  |_,_=>none)
 |_,_=>none
end
def CK (w:World) (ety sz:Nat) (v:Value) (x:AV) (top N:List Nat):Prop:=
 ∃xs,x= .sl xs∧(∀y∈xs,y.cells.length=sz)∧0<sz∧
  ((xs= []∧(∃a,v= .slice a 0 0)∧top= []∧N= [])∨
   ∃g cap C,v= .slice (some ⟨g,0,none⟩) xs.length cap∧xs.length≤cap∧cap≤maxLen∧w.heap[g]?=some (.cells C ety (0,0))∧C.size=cap*sz∧top= [g]∧(∀u∈C.toList.take (xs.length*sz),u.oneCell'=true)∧Rd w (C.toList.take (xs.length*sz)) (AM xs) N)
theorem CK.win {w:World} {ety sz:Nat} {q:Option Addr} {n cap:Nat} {x:AV} {top N:List Nat} (h:CK w ety sz (.slice q n cap) x top N) {k r:Nat} {q':Option Addr} (hk:k≤n) (hq:k<n→ ∃b,q=some ⟨b,0,none⟩∧q'=some ⟨b,k*sz,none⟩∧r=cap-k):
  ∃xs f,x= .sl xs∧xs.length=n∧Rd w [.slice q' (n-k) r] [.sl (xs.drop k)] f∧ ∀b∈f,b∈top∨b∈N:=by
 obtain⟨xs,rfl,h2,h3,⟨rfl,⟨a,hv⟩,rfl,rfl⟩|⟨g,cap',C,hv,h6,h7,h8,h9,rfl,GD,FE⟩⟩:=h
 ·cases hv;have:k=0:=by omega
  subst this;exact⟨[], [],rfl,rfl,by simpa using Rd.fb .nil,by simp⟩
 ·cases hv;refine⟨xs, ?_⟩;rcases Nat.lt_or_ge k xs.length with AB|TD
  ·obtain⟨b,hb,rfl,rfl⟩:=hq AB;cases hb;have Dg:C.toList.length=cap*sz:=by simpa using h9
   have hmul:xs.length*sz≤cap*sz:=Nat.mul_le_mul_right _ h6;have EZ:k*sz≤xs.length*sz:=Nat.mul_le_mul_right _ hk;obtain⟨g1,k1,k2⟩:=FE.piece (k*sz) ((xs.length-k)*sz);have e1:((AM xs).drop (k*sz)).take ((xs.length-k)*sz)=AM (xs.drop k):=by
    have hf:AM xs=AM (xs.take k)++AM (xs.drop k):=by
     have h0:AM (xs.take k++xs.drop k)=AM (xs.take k)++AM (xs.drop k):=by simp only [AM,List.flatMap_append]
     rw [List.take_append_drop]at h0;exact h0
    have hl: ∀ys:List AV,(∀y∈ys,y.cells.length=sz)→(AM ys).length=ys.length*sz:=by
     intro ys hy
     induction ys with
     |nil=>simp [AM]
     |cons y ys ih=>simp only [AM,List.flatMap_cons,AG,AL]at ih ⊢;rw [hy y (by simp),ih fun z hz=>hy z (by simp [hz]),Nat.add_mul];omega
    rw [hf,List.drop_append,List.drop_eq_nil_of_le (by rw [hl _ fun y hy=>h2 y (List.mem_of_mem_take hy)];simp [Nat.min_eq_left hk]),hl _ fun y hy=>h2 y (List.mem_of_mem_take hy)];simp only [List.length_take,Nat.min_eq_left hk,Nat.sub_self,List.drop_zero,List.nil_append];rw [List.take_of_length_le];rw [hl _ fun y hy=>h2 y (List.mem_of_mem_drop hy)];simp
   rw [e1]at k2;refine⟨_,rfl,rfl,Rd.gj (sz:=sz) h8 (by omega) ⟨by have:maxLen=9223372036854775807:=rfl;omega,by omega⟩ (by simp) (fun y hy=>h2 y (List.mem_of_mem_drop hy)) h3 (fun j u hu=> ?_) (fun u hu=>GD u (List.mem_of_mem_drop (List.mem_of_mem_take hu))) k2 .nil,fun b hb=> ?_⟩
   ·rw [List.getElem?_take]at hu;split at hu
    ·rw [List.getElem?_drop,List.getElem?_take]at hu;split at hu
     ·simpa using hu
     ·cases hu
    ·cases hu
   ·simp only [List.append_nil,Ae]at hb;rcases hb with rfl|hb
    ·exact .inl (by simp)
    ·exact .inr (k1 b hb)
  ·have e0:xs.length-k=0:=by omega
   rw [e0,List.drop_eq_nil_of_le TD];exact⟨[],rfl,rfl, .fb .nil,by simp⟩
def CE (n:Nat) (l:List DT):List DT:=(List.replicate n l).flatten
theorem wT (n:Nat) (l:List DT):(CE n l).length=n*l.length:=by
 induction n with
 |zero=>simp [CE]
 |succ n ih=>simp only [CE,List.replicate_succ,List.flatten_cons,AG]at ih ⊢;rw [ih,Nat.add_mul];omega
theorem Ms (n:Nat) (l:List DT):CE (n+1) l=l++CE n l:=by simp [CE,List.replicate_succ]
theorem vV (n m:Nat) (l:List DT):CE (n+m) l=CE n l++CE m l:=by
 induction n with
 |zero=>simp [CE]
 |succ n ih=>rw [show n+1+m=(n+m)+1 from by omega,Ms,ih,Ms,List.append_assoc]
theorem eB (n:Nat) {l:List DT} (h:l.all DT.cd=true):(CE n l).all DT.cd=true:=by
 induction n with
 |zero=>rfl
 |succ n ih=>rw [Ms,List.all_append,h,ih];rfl
mutual
theorem DT.beq_eq: ∀(a b:DT),a.beq b=true→a=b
 | .flat, .flat,_=>rfl
 | .row e z l, .row e' z' l',h=>by simp only [DT.beq,Ac,beq_iff_eq]at h;rw [h.1.1,h.1.2,AJ.beq_eq _ _ h.2]
 | .flat, .row ..,h=>by simp [DT.beq]at h
 | .row .., .flat,h=>by simp [DT.beq]at h
theorem AJ.beq_eq: ∀(a b:AJ),a.beq b=true→a=b
 | .nil, .nil,_=>rfl
 | .cons a as_, .cons b bs,h=>by simp only [AJ.beq,Ac]at h;rw [DT.beq_eq _ _ h.1,AJ.beq_eq _ _ h.2]
 | .nil, .cons ..,h=>by simp [AJ.beq]at h
 | .cons .., .nil,h=>by simp [AJ.beq]at h
end
theorem AJ.az (l:List DT):(AJ.of l).toList=l:=by induction l<;>simp [AJ.of,AJ.toList, *]
theorem AJ.dd: ∀l:AJ,AJ.of l.toList=l
 | .nil=>rfl
 | .cons d l=>by simp [AJ.toList,AJ.of,AJ.dd l]
theorem AJ.ik {l l':List DT} (h:(AJ.of l).beq (AJ.of l')=true):l=l':=by have:=congrArg AJ.toList (AJ.beq_eq _ _ h);simpa [AJ.az]using this
theorem AJ.of_eq {l:List DT} {l':AJ} (h:(AJ.of l).beq l'=true):l=l'.toList:=by have:=congrArg AJ.toList (AJ.beq_eq _ _ h);simpa [AJ.az]using this
theorem WZ {d:Option DT} {e z:Nat} {l:List DT} (h:ME d e z l=true):d=some (.row e z (AJ.of l)):=by
 cases d with
 |none=>simp [ME]at h
 |some d=>
  cases d with
  |flat=>simp [ME]at h
  |row e' z' l'=>simp only [ME,Ac,beq_iff_eq]at h;obtain⟨⟨rfl,rfl⟩,h3⟩:=h;rw [AJ.of_eq h3,AJ.dd]
inductive DC (w:World):List DT→List Value→List AV→List Nat→Prop where
 |nil:DC w [] [] [] []
 |flat {v x ts vs xs N}:Rd w [v] [x] []→DC w ts vs xs N→DC w (.flat::ts) (v::vs) (x::xs) N
 |void {e z l a ts vs xs N}:0<z→l.toList.length=z→DC w ts vs xs N→DC w (.row e z l::ts) (.slice a 0 0::vs) (.sl []::xs) N
 |row {e z l g cap C ys N1 ts vs xs N}:0<z→l.toList.length=z→w.heap[g]?=some (.cells C e (0,0))→ys.length≤cap→cap≤maxLen→C.size=cap*z→(∀y∈ys,y.cells.length=z)→(∀u∈C.toList.take (ys.length*z),u.oneCell'=true)→
   DC w (CE ys.length l.toList) (C.toList.take (ys.length*z)) (AM ys) N1→DC w ts vs xs N→DC w (.row e z l::ts) (.slice (some ⟨g,0,none⟩) ys.length cap::vs) (.sl ys::xs) (g::(N1++N))
theorem DC.len {w:World} {ts:List DT} {vs:List Value} {xs:List AV} {N:List Nat} (h:DC w ts vs xs N):vs.length=ts.length∧xs.length=ts.length:=by
 induction h with
 |nil=>simp
 |flat _ _ ih=>simp [ih]
 |void _ _ _ ih=>simp [ih]
 |row _ _ _ _ _ _ _ _ _ _ _ ih=>simp [ih]
theorem DC.frame {w w':World} {ts:List DT} {vs:List Value} {xs:List AV} {N:List Nat} (h:DC w ts vs xs N):(∀b∈N,w'.heap[b]?=w.heap[b]?)→DC w' ts vs xs N:=by
 induction h with
 |nil=>exact fun _=> .nil
 |flat a _ ih=>exact fun hf=> .flat (a.frame (by simp)) (ih hf)
 |void a b _ ih=>exact fun hf=> .void a b (ih hf)
 |row h1 h2 h3 h4 h5 h6 h7 h8 _ _ ih1 ih2=>exact fun hf=> .row h1 h2 (by rw [hf _ (by simp)];exact h3) h4 h5 h6 h7 h8 (ih1 fun b m=>hf b (by simp [m])) (ih2 fun b m=>hf b (by simp [m]))
theorem DC.inb {w:World} {ts:List DT} {vs:List Value} {xs:List AV} {N:List Nat} (h:DC w ts vs xs N): ∀b∈N,b<w.heap.size:=by
 induction h with
 |nil=>simp
 |flat _ _ ih=>exact ih
 |void _ _ _ ih=>exact ih
 |row h1 h2 h3 h4 h5 h6 h7 h8 _ _ ih1 ih2=>
  intro b m;simp only [Ae,Ag]at m;rcases m with rfl|m|m
  ·exact FX h3
  ·exact ih1 b m
  ·exact ih2 b m
theorem DC.app {w:World} {ts us:List DT} {vs ws:List Value} {xs ys:List AV} {N M:List Nat} (h:DC w ts vs xs N) (k:DC w us ws ys M):DC w (ts++us) (vs++ws) (xs++ys) (N++M):=by
 induction h with
 |nil=>exact k
 |flat a _ ih=>exact .flat a ih
 |void a b _ ih=>exact .void a b ih
 |row h1 h2 h3 h4 h5 h6 h7 h8 h9 _ _ ih2=>simp only [List.cons_append,List.append_assoc];exact DC.row h1 h2 h3 h4 h5 h6 h7 h8 h9 ih2
theorem DC.cv {w:World} {t:DT} {ts:List DT} {v:Value} {vs:List Value} {x:AV} {xs:List AV} {N:List Nat} (h:DC w (t::ts) (v::vs) (x::xs) N):
  ∃N1 N2,N=N1++N2∧DC w [t] [v] [x] N1∧DC w ts vs xs N2:=by
 cases h with
 |flat a h=>exact⟨[],N,rfl, .flat a .nil,h⟩
 |void a b h=>exact⟨[],N,rfl, .void a b .nil,h⟩
 |row h1 h2 h3 h4 h5 h6 h7 h8 h9 h=>rename_i g cap C ys N1 N2 l;exact⟨_::(_++ []),_,by simp, .row h1 h2 h3 h4 h5 h6 h7 h8 h9 .nil,h⟩
theorem DC.fu {w:World}: ∀{ts us:List DT} {vs ws:List Value} {xs ys:List AV} {N:List Nat},vs.length=ts.length→xs.length=ts.length→DC w (ts++us) (vs++ws) (xs++ys) N→ ∃N1 N2,N=N1++N2∧DC w ts vs xs N1∧DC w us ws ys N2
 | [],us, [],ws, [],ys,N,_,_,h=>⟨[],N,rfl, .nil,h⟩
 |t::ts,us,v::vs,ws,x::xs,ys,N,hl,hk,h=>by obtain⟨f1,f2,rfl,h1,h2⟩:=DC.cv h;obtain⟨f3,f4,rfl,h3,h4⟩:=DC.fu (ts:=ts) (vs:=vs) (xs:=xs) (by simpa using hl) (by simpa using hk) h2;exact⟨f1++f3,f4,by simp,h1.app h3,h4⟩
 | [],_,_::_,_,_,_,_,h,_,_=>by simp at h
 | [],_, [],_,_::_,_,_,_,h,_=>by simp at h
 |_::_,_, [],_,_,_,_,h,_,_=>by simp at h
 |_::_,_,_::_,_, [],_,_,_,h,_=>by simp at h
theorem DC.split {w:World} {ts:List DT} {vs:List Value} {xs:List AV} {N:List Nat} (h:DC w ts vs xs N) (p n:Nat):
  ∃N1 N2 N3,N=N1++N2++N3∧DC w (ts.take p) (vs.take p) (xs.take p) N1∧DC w ((ts.drop p).take n) ((vs.drop p).take n) ((xs.drop p).take n) N2∧DC w (ts.drop (p+n)) (vs.drop (p+n)) (xs.drop (p+n)) N3:=by
 obtain⟨l1,l2⟩:=h.len;have h':=h;rw [←List.take_append_drop p ts,←List.take_append_drop p vs,←List.take_append_drop p xs]at h';obtain⟨N1,M,rfl,h1,h2⟩:=DC.fu (by simp [l1]) (by simp [l2]) h';rw [←List.take_append_drop n (ts.drop p),←List.take_append_drop n (vs.drop p),←List.take_append_drop n (xs.drop p)]at h2;obtain⟨N2,N3,rfl,h3,h4⟩:=DC.fu (by simp [l1]) (by simp [l2]) h2;refine⟨N1,N2,N3,by simp,h1,h3, ?_⟩;simpa [List.drop_drop]using h4
theorem DC.rd {w:World} {ts:List DT} {vs:List Value} {xs:List AV} {N:List Nat} (h:DC w ts vs xs N): ∃f,Rd w vs xs f∧ ∀b∈f,b∈N:=by
 induction h with
 |nil=>exact⟨[], .nil,by simp⟩
 |flat a _ ih=>obtain⟨f,h1,h2⟩:=ih;exact⟨[]++f,by simpa using a.app h1,by simpa using h2⟩
 |void _ _ _ ih=>obtain⟨f,h1,h2⟩:=ih;exact⟨f, .fb h1,h2⟩
 | @row e z l g cap C ys N1 ts vs xs N h1 h2 h3 h4 h5 h6 h7 h8 _ _ ih1 ih2=>
  obtain⟨f1,k1,k2⟩:=ih1;obtain⟨f2,k3,k4⟩:=ih2;rcases Nat.eq_zero_or_pos ys.length with h0|h0
  ·have:ys= []:=List.eq_nil_of_length_eq_zero h0;subst this;exact⟨f2, .fb k3,fun b hb=>by simp [k4 b hb]⟩
  ·refine⟨g::(f1++f2),Rd.gj (o:=0) (c:=cap) (cs:=C.toList.take (ys.length*z)) h3 h0 ⟨by have:maxLen=9223372036854775807:=rfl;omega,by omega⟩ rfl h7 h1 (fun j u hu=>by
    rw [Nat.zero_add];rw [List.getElem?_take]at hu;split at hu
    ·simpa using hu
    ·cases hu) h8 k1 k3,fun b hb=> ?_⟩
   simp only [Ae,Ag]at hb ⊢;rcases hb with hb|hb|hb
   ·exact .inl hb
   ·exact .inr (.inl (k2 b hb))
   ·exact .inr (.inr (k4 b hb))
theorem DC.ld {w:World} {ts:List DT} {vs:List Value} {xs:List AV} {N:List Nat} (h:DC w ts vs xs N):ts.all DT.cd=true→N= []:=by
 induction h with
 |nil=>exact fun _=>rfl
 |flat _ _ ih=>exact fun h=>ih (by simpa [DT.cd]using h)
 |void _ _ _ _=>exact fun h=>by simp [DT.cd]at h
 |row _ _ _ _ _ _ _ _ _ _ _ _=>exact fun h=>by simp [DT.cd]at h
theorem DC.jr {w:World} {ts:List DT} {vs:List Value} {xs:List AV} {N:List Nat} (h:DC w ts vs xs N) (ht:ts.all DT.cd=true):Rd w vs xs []:=by
 have hN:=h.ld ht;subst hN;obtain⟨f,h1,h2⟩:=h.rd;have:f= []:=List.eq_nil_iff_forall_not_mem.2 fun b hb=>by simpa using h2 b hb
 rw [this]at h1;exact h1
theorem DC.l8 {w:World}: ∀{ts:List DT} {vs:List Value} {xs:List AV},Rd w vs xs []→ts.all DT.cd=true→ts.length=vs.length→DC w ts vs xs []
 | [], [],xs,h,_,_=>by cases h;exact .nil
 | .flat::ts,v::vs,xs,h,ha,hl=>by
  have hx:=h.len
  match xs,hx with
  |x::xs,_=>
   obtain⟨f1,f2,hf,h1,h2⟩:=h.cv;obtain⟨rfl,rfl⟩:f1= []∧f2= []:=by simpa using hf.symm
   exact .flat h1 (DC.l8 h2 (by simpa [DT.cd]using ha) (by simpa using hl))
 | .row .. ::_,_::_,_,_,ha,_=>by simp [DT.cd]at ha
 | [],_::_,_,_,_,h=>by simp at h
 |_::_, [],_,_,_,h=>by simp at h
theorem DC.inv {w:World} {e z:Nat} {l:AJ} {v:Value} {x:AV} {N:List Nat} (h:DC w [.row e z l] [v] [x] N):
  0<z∧l.toList.length=z∧((∃a,v= .slice a 0 0∧x= .sl []∧N= [])∨ ∃g cap C ys N1,v= .slice (some ⟨g,0,none⟩) ys.length cap∧x= .sl ys∧N=g::N1∧w.heap[g]?=some (.cells C e (0,0))∧ys.length≤cap∧cap≤maxLen∧C.size=cap*z∧(∀y∈ys,y.cells.length=z)∧
   (∀u∈C.toList.take (ys.length*z),u.oneCell'=true)∧DC w (CE ys.length l.toList) (C.toList.take (ys.length*z)) (AM ys) N1):=by
 cases h with
 |void a b h=>cases h;exact⟨a,b, .inl ⟨_,rfl,rfl,rfl⟩⟩
 |row h1 h2 h3 h4 h5 h6 h7 h8 h9 h=>cases h;exact⟨h1,h2, .inr ⟨_,_,_,_,_,rfl,rfl,by simp,h3,h4,h5,h6,h7,h8,h9⟩⟩
theorem DC.kx {w:World} {e z:Nat} {l:AJ} {v:Value} {x:AV} {top:List Nat} (h:CK w e z v x top []) (ha:l.toList.all DT.cd=true) (hl:l.toList.length=z):DC w [.row e z l] [v] [x] top:=by
 obtain⟨xs,rfl,h2,h3,⟨rfl,⟨a,rfl⟩,rfl,_⟩|⟨g,cap,C,rfl,h6,h7,h8,h9,rfl,GD,FE⟩⟩:=h
 ·exact .void h3 hl .nil
 ·have AA:(C.toList.take (xs.length*z)).length=xs.length*z:=by
   have:C.toList.length=cap*z:=by simpa using h9
   rw [List.length_take,this];exact Nat.min_eq_left (Nat.mul_le_mul_right _ h6)
  have:=DC.row (l:=l) h3 hl h8 h6 h7 h9 h2 GD (DC.l8 FE (eB _ ha) (by rw [wT,hl,AA])) .nil;simpa using this
theorem DC.mj {w:World} {e z:Nat} {l:AJ} {v:Value} {x:AV} {N:List Nat} (h:DC w [.row e z l] [v] [x] N) (ha:l.toList.all DT.cd=true):CK w e z v x N []:=by
 obtain⟨h1,h2,⟨a,rfl,rfl,rfl⟩|⟨g,cap,C,ys,N1,rfl,rfl,rfl,h3,h4,h5,h6,h7,h8,h9⟩⟩:=h.inv
 ·exact⟨[],rfl,by simp,h1, .inl ⟨rfl,⟨a,rfl⟩,rfl,rfl⟩⟩
 ·have hN:=h9.ld (eB _ ha);subst hN;exact⟨ys,rfl,h7,h1, .inr ⟨g,cap,C,rfl,h4,h5,h3,h6,rfl,h8,h9.jr (eB _ ha)⟩⟩
theorem DC.ownRow {w:World} {e z:Nat} {l:AJ} {v:Value} {x:AV} {N:List Nat} (h:DC w [.row e z l] [v] [x] N): ∃f,CK w e z v x (N.take 1) f∧ ∀b∈f,b∈N.drop 1:=by
 obtain⟨h1,h2,⟨a,rfl,rfl,rfl⟩|⟨g,cap,C,ys,N1,rfl,rfl,rfl,h3,h4,h5,h6,h7,h8,h9⟩⟩:=h.inv
 ·exact⟨[],⟨[],rfl,by simp,h1, .inl ⟨rfl,⟨a,rfl⟩,rfl,rfl⟩⟩,by simp⟩
 ·obtain⟨f,k1,k2⟩:=h9.rd;exact⟨f,⟨ys,rfl,h7,h1, .inr ⟨g,cap,C,rfl,h4,h5,h3,h6,rfl,h8,k1⟩⟩,by simpa using k2⟩
theorem DC.head {w:World} {e z:Nat} {l:AJ} {v:Value} {x:AV} {N:List Nat} (h:DC w [.row e z l] [v] [x] N): ∃q n r,v= .slice q n r:=by
 obtain⟨_,_,⟨a,rfl,_⟩|⟨g,cap,C,ys,N1,rfl,_⟩⟩:=h.inv
 ·exact⟨_,_,_,rfl⟩
 ·exact⟨_,_,_,rfl⟩
def Src (w:World) (size:Nat) (a:Option Addr) (m:Nat) (news:List Value):Prop:=
 (a=none∧m=0∧news= [])∨ ∃ad,a=some ad∧news.length=m*size∧(∀j u,news[j]?=some u→w.cell? (ad.add j)=some u)∧ ∀u∈news,u.oneCell'=true
theorem Src.mod {w w':World} {size:Nat} {a:Option Addr} {m:Nat} {news:List Value} (h:Src w size a m news) (hm:Mod [] w w'):Src w' size a m news:=by
 rcases h with h|⟨ad,h1,h2,h3,h4⟩
 ·exact Or.inl h
 ·exact Or.inr ⟨ad,h1,h2,fun j u hu=>by have:=h3 j u hu;rw [hm.cell (World.block_lt_of_cell? w _ this) (by simp)];exact this,h4⟩
section
variable {P:Program}
end
theorem DA.src {α:Type} {T:GT α} {w:World} {a:Option Addr} {n:Nat} {xs:List α} {fp:List Nat} (hs:0<T.size) (h:DA T w a n xs fp):
  ∃Ls fps,D8 T w Ls xs fps∧Src w T.size a n Ls.flatten∧(∀q∈fps.flatten,q∈fp):=by
 cases a with
 |none=>
  rcases h.2 with⟨rfl,_⟩|⟨b,o,fps,ha,_⟩
  ·have:=h.1;simp at this;subst this;exact⟨[], [],⟨rfl,rfl,by simp⟩,Or.inl ⟨rfl,rfl,rfl⟩,by simp⟩
  ·cases ha
 |some ad=>obtain⟨Ls,fps,h1,h2,h3,h4⟩:=h.cells hs;exact⟨Ls,fps,h1,Or.inr ⟨ad,rfl,h4,h2,h1.one⟩,h3⟩
structure qY where
 n:Nat
 K:World→Prop
 mono: ∀{w w':World},(∀b,b<n→w'.heap[b]?=w.heap[b]?)→K w→K w'
def JH:qY:=⟨0,fun _=>True,fun _ h=>h⟩
def ZV (w:World) (Mu:Nat→Prop):Prop:=JH.n≤w.heap.size∧JH.K w∧ ∀b,Mu b→JH.n≤b
end Go.Proofs.YtmbknelgbjlhnaaGreat
end

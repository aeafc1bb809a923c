/- Parts of a proof, joined: VG, VH, VI, VJ, VY, LO, TA, TB, TC, TD, TE, VZ. -/
import Derived.Test.YtmbknelgbjlhnaaGreatG1
import Derived.WalkKit
import Derived.WalkLawsBesides
import Derived.Scope
set_option linter.unusedVariables false
set_option linter.unusedSimpArgs false
section
namespace Go.Proofs.YtmbknelgbjlhnaaGreat
open Go.RowKit
theorem A9.{u} {α:Type u} {p:α→Bool} {l:List α}:l.all p=true↔∀x,x∈l→p x=true:=List.all_eq_true
theorem Bu:(false=true)=False:=Bool.false_eq_true
theorem An.{u,v} {α:Type u} {β:Type v} {b:β} {x:Option α} {f:α→β}:x.map f=some b↔∃a,x=some a∧f a=b:=Option.map_eq_some_iff
theorem Ab.{u} {α:Type u} (a b:α):(some a=some b)=(a=b):=Option.some.injEq a b
theorem Aa.{u,v} {α:Type u} {β:Type v} (a:α) (f:α→Option β):(some a).bind f=f a:=rfl
structure GI where
 top:List Nat
 O:List Nat
def GI.own (g:GI):List Nat:=g.top++g.O
def A1 (ρ:List AV) (gs:Gd):Prop:= ∀g∈gs,g.1.den ρ= .bool g.2
structure Al where
 ok:Nat→Prop
 pin:Nat→Option Value
 lo:Value→AV→Prop
instance:CoeFun Al (fun _=>Nat→Prop):=⟨Al.ok⟩
structure Cx where
 ρ:List AV
 w:World
 G:Nat→GI
 K:Nat→Nat→Prop
 H:Nat→Nat→Value
 A:Al
 w0:World
 Mu:Nat→Prop
 U:Nat→Prop
 E:Nat→Nat
def Cx.B (c:Cx):Nat:=c.w0.heap.size
def Cx.M (c:Cx) (b:Nat):Prop:= ∃t,b∈(c.G t).top
def Cx.ok (c:Cx) (b:Nat):Prop:= ¬c.M b∧(c.A b∨c.B≤b∨c.Mu b)
def B0 (ρ:List AV) (o:Option Ad) (e:Ad):Prop:=match o with
 |some (.gd gs e')=>A1 ρ gs∧e'=e
 |some e'=>e'=e
 |none=>False
def Pl (_:World) (f:List Nat):Prop:=f= []
def Hd (c:Cx) (t g:Nat) (p:Lq) (v:Value):Prop:=match p with
 |none=>True
 |some (i,z,o)=> ∃b n cap C ty fz kk k,c.H t g= .slice (some ⟨b,0,none⟩) n cap∧b∈(c.G t).top∧c.w.heap[b]?=some (.cells C ty fz)∧i.den c.ρ= .int kk k∧0≤k∧k<n∧C[k.toNat*z+o]?=some v
def Nj (c:Cx) (t:Nat) (v:Value) (x:AV):Prop:= ∃f,Rd c.w [v] [x] f∧ ∀b∈f,c.ok b∨b∈(c.G t).top
inductive SR (c:Cx):List SV→List Value→Prop where
 |nil:SR c [] []
 |undef {v ss vs}:SR c ss vs→SR c (.undef::ss) (v::vs)
 |e {x v f ss vs}:Rd c.w [v] [x.den c.ρ] f→(∀b∈f,c.ok b)→SR c ss vs→SR c (.e x::ss) (v::vs)
 |cr {ss vs}:SR c ss vs→SR c (.cr::ss) (.slice none 0 0::vs)
 |emp {a ss vs}:SR c ss vs→SR c (.emp::ss) (.slice a 0 0::vs)
 |own {t g p q r ss vs}:c.K t g→c.H t g= .slice p q r→SR c ss vs→SR c (.own t g::ss) (.slice p q r::vs)
 |cy {t o b ss vs}:c.K t 0→c.H t 0= .pointer (some ⟨b,0,none⟩)→SR c ss vs→SR c (.cy t o::ss) (.pointer (some ⟨b,o,none⟩)::vs)
 |da {t g:Nat} {i:E} {sz o b n cap kk} {k:Int} {ss vs}:c.K t g→c.H t g= .slice (some ⟨b,0,none⟩) n cap→i.den c.ρ= .int kk k→0≤k→k<n→SR c ss vs→
   SR c (.da t g i sz o::ss) (.pointer (some ⟨b,k.toNat*sz+o,none⟩)::vs)
 |dv {x i:E} {sz o b off n cap:Nat} {f kk} {k:Int} {ss vs}:Rd c.w [.slice (some ⟨b,off,none⟩) n cap] [x.den c.ρ] f→(∀b∈f,c.ok b)→i.den c.ρ= .int kk k→0≤k→k<n→((x.den c.ρ).nth k.toNat).cells.length=sz→
   SR c ss vs→SR c (.dv x i sz o::ss) (.pointer (some ⟨b,off+k.toNat*sz+o,none⟩)::vs)
 |dt {x:E} {o b:Nat} {f ss vs}:Rd c.w [.pointer (some ⟨b,0,none⟩)] [x.den c.ρ] f→(∀b∈f,c.ok b)→SR c ss vs→SR c (.dt x o::ss) (.pointer (some ⟨b,o,none⟩)::vs)
 |agg {cs as_ ss vs}:(∀u∈as_,u.oneCell'=true)→SR c cs.toList as_→SR c ss vs→SR c (.agg cs::ss) (.agg as_.toArray::vs)
 |tup {cs as_ ss vs}:SR c cs.toList as_→SR c ss vs→SR c (.tup cs::ss) (.tuple as_.toArray::vs)
 |fn {g cs as_ ss vs}:SR c cs.toList as_→SR c ss vs→SR c (.fn g cs::ss) (.func (.func g) #[] as_.toArray::vs)
 |gd {gs s v ss vs}:(A1 c.ρ gs→SR c [s] [v])→(¬A1 c.ρ gs→v=undef)→SR c ss vs→SR c (.gd gs s::ss) (v::vs)
 |via {t g n p x v ss vs}:c.K t g→n≤c.E t→(c.E t=n→Nj c t v (x.den c.ρ)∧Hd c t g p v)→SR c ss vs→SR c (.via t g n p x::ss) (v::vs)
 |vptr {t g n p x i sz o v ss vs}:c.K t g→n≤c.E t→(c.E t=n→ ∃(b off len cap:Nat) (kk:IntKind) (k:Int),Nj c t (.slice (some ⟨b,off,none⟩) len cap) (x.den c.ρ)∧Hd c t g p (.slice (some ⟨b,off,none⟩) len cap)∧i.den c.ρ= .int kk k∧0≤k∧k<len∧
   ((x.den c.ρ).nth k.toNat).cells.length=sz∧v= .pointer (some ⟨b,off+k.toNat*sz+o,none⟩))→SR c ss vs→SR c (.vptr t g n p x i sz o::ss) (v::vs)
 |wown {t g:Nat} {lo:E} {sz:Nat} {q:Option Addr} {n cap:Nat} {q':Option Addr} {r:Nat} {kk:IntKind} {k:Int} {ss vs}:c.K t g→c.H t g= .slice q n cap→lo.den c.ρ= .int kk k→0≤k→k≤n→(k<n→ ∃b,q=some ⟨b,0,none⟩∧q'=some ⟨b,k.toNat*sz,none⟩∧r=cap-k.toNat)→SR c ss vs→SR c (.wown t g lo sz::ss) (.slice q' (n-k.toNat) r::vs)
 |lent {i v ss vs}:c.A.lo v ((E.var i).den c.ρ)→SR c ss vs→SR c (.lent i::ss) (v::vs)
def zFG (c:Cx) (e z:Nat) (l:List DT) (v:Value) (x i:AV) (o u:Nat) (N:List Nat):Prop:=
 ∃(b cap:Nat) (C:Array Value) (ys:List AV) (kk:IntKind) (k:Int) (N1 N2:List Nat),v= .slice (some ⟨b,0,none⟩) ys.length cap∧x= .sl ys∧i= .int kk k∧0≤k∧k<ys.length∧o<z∧0<z∧l.length=z∧c.w.heap[b]?=some (.cells C e (0,0))∧ys.length≤cap∧cap≤maxLen∧C.size=cap*z∧(∀y∈ys,y.cells.length=z)∧
  (∀w∈C.toList.take (ys.length*z),w.oneCell'=true)∧N=b::(N1++N2)∧c.K u 0∧C[k.toNat*z+o]?=some (c.H u 0)∧
  DC c.w ((CE ys.length l).take (k.toNat*z+o)) ((C.toList.take (ys.length*z)).take (k.toNat*z+o)) ((AM ys).take (k.toNat*z+o)) N1∧
  DC c.w ((CE ys.length l).drop (k.toNat*z+o+1)) ((C.toList.take (ys.length*z)).drop (k.toNat*z+o+1)) ((AM ys).drop (k.toNat*z+o+1)) N2
def CD (c:Cx) (t:Nat):Ad→Prop
 | .box ty _ cs=> ∃b C,c.K t 0∧c.H t 0= .pointer (some ⟨b,0,none⟩)∧(c.G t).top= [b]∧(c.G t).O= []∧c.w.heap[b]?=some (.cells C ty (0,0))∧(∀u∈C.toList,u.oneCell'=true)∧SR c cs C.toList
 | .row ety sz g x d=>c.K t g∧(∀g',c.K t g'→g'≤g)∧ ∃N,CK c.w ety sz (c.H t g) (x.den c.ρ) (c.G t).top N∧(∀b∈N,c.ok b)∧(d=true→Pl c.w N∧(c.G t).O=N)∧(d=false→(c.G t).O= [])
 | .cc g x=>c.K t g∧(∃f,Rd c.w [c.H t g] [x.den c.ρ] f∧ ∀b∈f,c.ok b)∧(c.G t).top= []∧(c.G t).O= []
 | .gd .. =>(c.G t).top= []∧(c.G t).O= []
 | .dead=>(c.G t).top= []∧(c.G t).O= []
 | .deep e z l g ep x=>c.K t g∧(∀g',c.K t g'→g'≤g)∧c.E t=ep∧DC c.w [.row e z (AJ.of l)] [c.H t g] [x.den c.ρ] (c.G t).top∧(c.G t).O= []
 | .hol e z l g ep x i o u=>c.K t g∧(∀g',c.K t g'→g'≤g)∧c.E t=ep∧zFG c e z l (c.H t g) (x.den c.ρ) (i.den c.ρ) o u (c.G t).top∧(c.G t).O= []
structure GW (c:Cx):Prop where
 nodup: ∀t,(c.G t).own.Nodup
 c7: ∀t u,t≠u→ ∀b∈(c.G t).own,b∉(c.G u).own
 allow: ∀t,∀b∈(c.G t).own,c.B≤b∨c.Mu b
 inb: ∀t,∀b∈(c.G t).own,b<c.w.heap.size
structure Nf (c:Cx):Prop where
 os:c.w.os=c.w0.os
 tape:c.w.tape=c.w0.tape
 output:c.w.output=c.w0.output
 size:c.w0.heap.size≤c.w.heap.size
 pins: ∀t v,c.A.pin t=some v→c.U t∧(c.K t 0→c.H t 0=v)
 block: ∀b,b<c.w0.heap.size→ ¬c.Mu b→c.w.heap[b]?=c.w0.heap[b]?
 pk:ZV c.w0 c.Mu
 lo: ∀v y,c.A.lo v y→ ∃f,Rd c.w0 [v] [y] f∧ ∀b∈f,¬c.Mu b
structure Rel (c:Cx) (n:Nat) (sl:Nat→SV) (hp:Nat→Option Ad) (a:Act):Prop where
 defers:a.defers= []
 size:a.tmps.size=n
 base:Nf c
 dg: ∀i,SR c [sl i] [a.tmps.getD i undef]
 ents: ∀t e,B0 c.ρ (hp t) e→CD c t e
 off: ∀t,(∀e,¬B0 c.ρ (hp t) e)→(c.G t).top= []∧(c.G t).O= []
 gw:GW c
 cg: ∀t g,c.K t g→c.U t
 c8: ∀t e,hp t=some e→c.U t
theorem SR.app {c:Cx} {ss:List SV} {vs:List Value} (h:SR c ss vs) {ss':List SV} {vs':List Value} (k:SR c ss' vs'):SR c (ss++ss') (vs++vs'):=by
 induction h with
 |nil=>exact k
 |undef _ ih=>exact .undef ih
 |e h1 h2 _ ih=>exact .e h1 h2 ih
 |cr _ ih=>exact .cr ih
 |emp _ ih=>exact .emp ih
 |own h1 h2 _ ih=>exact .own h1 h2 ih
 |cy h1 h2 _ ih=>exact .cy h1 h2 ih
 |da h1 h2 h3 h4 h5 _ ih=>exact .da h1 h2 h3 h4 h5 ih
 |dv h1 h2 h3 h4 h5 h6 _ ih=>exact .dv h1 h2 h3 h4 h5 h6 ih
 |dt h1 h2 _ ih=>exact .dt h1 h2 ih
 |agg h9 h1 _ _ ih=>exact .agg h9 h1 ih
 |tup h1 _ _ ih=>exact .tup h1 ih
 |fn h1 _ _ ih=>exact .fn h1 ih
 |gd h1 h2 _ _ ih=>exact .gd h1 h2 ih
 |via h1 h2 h3 _ ih=>exact .via h1 h2 h3 ih
 |vptr h1 h2 h3 _ ih=>exact .vptr h1 h2 h3 ih
 |wown h1 h2 h3 h4 h5 h6 _ ih=>exact .wown h1 h2 h3 h4 h5 h6 ih
 |lent h1 _ ih=>exact .lent h1 ih
theorem SR.len {c:Cx} {ss:List SV} {vs:List Value} (h:SR c ss vs):ss.length=vs.length:=by induction h<;>simp_all
theorem SR.cv {c:Cx} {s:SV} {ss:List SV} {v:Value} {vs:List Value} (h:SR c (s::ss) (v::vs)):SR c [s] [v]∧SR c ss vs:=by
 cases h with
 |undef h=>exact⟨.undef .nil,h⟩
 |e h1 h2 h=>exact⟨.e h1 h2 .nil,h⟩
 |cr h=>exact⟨.cr .nil,h⟩
 |emp h=>exact⟨.emp .nil,h⟩
 |own h1 h2 h=>exact⟨.own h1 h2 .nil,h⟩
 |cy h1 h2 h=>exact⟨.cy h1 h2 .nil,h⟩
 |da h1 h2 h3 h4 h5 h=>exact⟨.da h1 h2 h3 h4 h5 .nil,h⟩
 |dv h1 h2 h3 h4 h5 h6 h=>exact⟨.dv h1 h2 h3 h4 h5 h6 .nil,h⟩
 |dt h1 h2 h=>exact⟨.dt h1 h2 .nil,h⟩
 |agg h9 h1 h=>exact⟨.agg h9 h1 .nil,h⟩
 |tup h1 h=>exact⟨.tup h1 .nil,h⟩
 |fn h1 h=>exact⟨.fn h1 .nil,h⟩
 |gd h1 h2 h=>exact⟨.gd h1 h2 .nil,h⟩
 |via h1 h2 h3 h=>exact⟨.via h1 h2 h3 .nil,h⟩
 |vptr h1 h2 h3 h=>exact⟨.vptr h1 h2 h3 .nil,h⟩
 |wown h1 h2 h3 h4 h5 h6 h=>exact⟨.wown h1 h2 h3 h4 h5 h6 .nil,h⟩
 |lent h1 h=>exact⟨.lent h1 .nil,h⟩
theorem SR.cons {c:Cx} {s:SV} {ss:List SV} {v:Value} {vs:List Value} (h:SR c [s] [v]) (k:SR c ss vs):SR c (s::ss) (v::vs):=h.app k
theorem SR.get {c:Cx}: ∀{ss:List SV} {vs:List Value},SR c ss vs→ ∀{i:Nat} {s:SV},ss[i]?=some s→ ∃v,vs[i]?=some v∧SR c [s] [v]
 | [],vs,h,i,s,hs=>by simp at hs
 |s0::ss, [],h,_,_,_=>by have:=h.len;simp at this
 |s0::ss,v0::vs,h,i,s,hs=>by
  obtain⟨h1,h2⟩:=h.cv;cases i with
  |zero=>simp at hs;subst hs;exact⟨v0,rfl,h1⟩
  |succ i=>simpa using h2.get (by simpa using hs)
theorem SR.split {c:Cx}: ∀{ss:List SV} {vs:List Value} (n:Nat),SR c ss vs→SR c (ss.take n) (vs.take n)∧SR c (ss.drop n) (vs.drop n)
 |ss,vs,0,h=>by simpa using⟨SR.nil,h⟩
 | [],vs,n+1,h=>by
  have:=h.len;cases vs with
  |nil=>simpa using SR.nil
  |cons=>simp at this
 |s::ss, [],n+1,h=>by have:=h.len;simp at this
 |s::ss,v::vs,n+1,h=>by obtain⟨h1,h2⟩:=h.cv;obtain⟨h3,h4⟩:=h2.split n;exact⟨h1.app h3,h4⟩
structure CX (c c':Cx):Prop where
 ρ:c'.ρ=c.ρ
 A:c'.A=c.A
 ok: ∀b,b<c.w.heap.size→c.ok b→c'.ok b
 mem: ∀b,b<c.w.heap.size→c.ok b→c'.w.heap[b]?=c.w.heap[b]?
 K: ∀t g,c.K t g→c'.K t g∧c'.H t g=c.H t g
 E: ∀t g,c.K t g→c.E t≤c'.E t∧(c'.E t=c.E t→c'.G t=c.G t∧ ∀b∈(c.G t).top,b<c.w.heap.size→c'.w.heap[b]?=c.w.heap[b]?)
theorem Nj.keep {c c':Cx} (k:CX c c') {t g:Nat} (hK:c.K t g) (he:c'.E t=c.E t) {v:Value} {x:AV} (h:Nj c t v x):Nj c' t v x:=by
 obtain⟨f,h1,h2⟩:=h;obtain⟨e1,e2⟩:=(k.E t g hK).2 he;refine⟨f,h1.frame fun b hb=> ?_,fun b hb=> ?_⟩
 ·rcases h2 b hb with h|h
  ·exact k.mem b (h1.inb b hb) h
  ·exact e2 b h (h1.inb b hb)
 ·rcases h2 b hb with h|h
  ·exact .inl (k.ok b (h1.inb b hb) h)
  ·exact .inr (by rw [e1];exact h)
theorem Hd.keep {c c':Cx} (k:CX c c') {t g:Nat} (hK:c.K t g) (he:c'.E t=c.E t) {p:Lq} {v:Value} (h:Hd c t g p v):Hd c' t g p v:=by
 cases p with
 |none=>exact trivial
 |some p=>obtain⟨i,z,o⟩:=p;obtain⟨b,n,cap,C,ty,fz,kk,q,h1,h2,h3,h4,h5,h6,h7⟩:=h;obtain⟨e1,e2⟩:=(k.E t g hK).2 he;exact⟨b,n,cap,C,ty,fz,kk,q,by rw [(k.K t g hK).2];exact h1,by rw [e1];exact h2,by rw [e2 b h2 (FX h3)];exact h3,by rw [k.ρ];exact h4,h5,h6,h7⟩
theorem Rd.iz {c c':Cx} (k:CX c c') {vs:List Value} {xs:List AV} {f:List Nat} (h:Rd c.w vs xs f) (hf: ∀b∈f,c.ok b):Rd c'.w vs xs f∧ ∀b∈f,c'.ok b:=
 ⟨h.frame fun b hb=>k.mem b (h.inb b hb) (hf b hb),fun b hb=>k.ok b (h.inb b hb) (hf b hb)⟩
theorem CX.refl (c:Cx):CX c c:=⟨rfl,rfl,fun _ _ h=>h,fun _ _ _=>rfl,fun _ _ h=>⟨h,rfl⟩,fun _ _ _=>⟨Nat.le_refl _,fun _=>⟨rfl,fun _ _ _=>rfl⟩⟩⟩
theorem SR.keep {c c':Cx} (k:CX c c') {ss:List SV} {vs:List Value} (h:SR c ss vs):SR c' ss vs:=by
 have hρ:=k.ρ
 induction h with
 |nil=>exact .nil
 |undef _ ih=>exact .undef ih
 |e h1 h2 _ ih=>obtain⟨a,b⟩:=Rd.iz k h1 h2;exact .e (by rw [hρ];exact a) b ih
 |cr _ ih=>exact .cr ih
 |emp _ ih=>exact .emp ih
 |own h1 h2 _ ih=>obtain⟨a,b⟩:=k.K _ _ h1;exact .own a (b.trans h2) ih
 |cy h1 h2 _ ih=>obtain⟨a,b⟩:=k.K _ _ h1;exact .cy a (b.trans h2) ih
 |da h1 h2 h3 h4 h5 _ ih=>obtain⟨a,b⟩:=k.K _ _ h1;exact .da a (b.trans h2) (by rw [hρ];exact h3) h4 h5 ih
 |dv h1 h2 h3 h4 h5 h6 _ ih=>obtain⟨a,b⟩:=Rd.iz k h1 h2;exact .dv (by rw [hρ];exact a) b (by rw [hρ];exact h3) h4 h5 (by rw [hρ];exact h6) ih
 |dt h1 h2 _ ih=>obtain⟨a,b⟩:=Rd.iz k h1 h2;exact .dt (by rw [hρ];exact a) b ih
 |agg h9 _ _ ih1 ih2=>exact .agg h9 ih1 ih2
 |tup _ _ ih1 ih2=>exact .tup ih1 ih2
 |fn _ _ ih1 ih2=>exact .fn ih1 ih2
 |gd _ h2 _ ih1 ih2=>exact .gd (fun hg=>ih1 (by rw [←hρ];exact hg)) (fun hg=>h2 (by rw [←hρ];exact hg)) ih2
 | @via t g n p x v ss vs h1 h2 h3 _ ih=>
  obtain⟨a,b⟩:=k.K _ _ h1;have hle:=(k.E t g h1).1;refine .via a (Nat.le_trans h2 hle) (fun he=> ?_) ih;have Jq:c.E t=n:=by omega
  have LD:c'.E t=c.E t:=by omega
  obtain⟨q1,q2⟩:=h3 Jq;exact⟨by rw [hρ];exact q1.keep k h1 LD,q2.keep k h1 LD⟩
 | @vptr t g n p x i sz o v ss vs h1 h2 h3 _ ih=>
  obtain⟨a,b⟩:=k.K _ _ h1;have hle:=(k.E t g h1).1;refine .vptr a (Nat.le_trans h2 hle) (fun he=> ?_) ih;have Jq:c.E t=n:=by omega
  have LD:c'.E t=c.E t:=by omega
  obtain⟨b,off,len,cap,kk,q,q1,q2,q3⟩:=h3 Jq;exact⟨b,off,len,cap,kk,q,by rw [hρ];exact q1.keep k h1 LD,q2.keep k h1 LD,by rw [hρ];exact q3⟩
 |wown h1 h2 h3 h4 h5 h6 _ ih=>obtain⟨a,b⟩:=k.K _ _ h1;exact .wown a (b.trans h2) (by rw [hρ];exact h3) h4 h5 h6 ih
 |lent h1 _ ih=>exact .lent (by rw [hρ,k.A];exact h1) ih
theorem CK.frame {w w':World} {ety sz:Nat} {v:Value} {x:AV} {top N:List Nat} (h:CK w ety sz v x top N) (ht: ∀b∈top,w'.heap[b]?=w.heap[b]?) (hN: ∀b∈N,w'.heap[b]?=w.heap[b]?):CK w' ety sz v x top N:=by
 obtain⟨xs,h1,h2,h3,h4|⟨g,cap,C,h5,h6,h7,h8,h9,GD,Ji,FE⟩⟩:=h
 ·exact⟨xs,h1,h2,h3, .inl h4⟩
 ·exact⟨xs,h1,h2,h3, .inr ⟨g,cap,C,h5,h6,h7,by rw [ht g (by simp [GD])];exact h8,h9,GD,Ji,FE.frame hN⟩⟩
theorem Pl.frame {w w':World} {f:List Nat} (h:Pl w f) (hf: ∀b∈f,w'.heap[b]?=w.heap[b]?):Pl w' f:=have _:=hf;h
theorem CK.me {w:World} {ety sz:Nat} {v:Value} {x:AV} {top N:List Nat} (h:CK w ety sz v x top N): ∀b∈N,b<w.heap.size:=by
 obtain⟨xs,h1,h2,h3,h4|⟨g,cap,C,h5,h6,h7,h8,h9,GD,Ji,FE⟩⟩:=h
 ·simp [h4.2.2.2]
 ·exact FE.inb
theorem CD.keep {c c':Cx} (k:CX c c') {t:Nat} {e:Ad} (h:CD c t e) (hG:c'.G t=c.G t) (hE:c'.E t=c.E t) (hK: ∀g,c'.K t g→c.K t g) (hm: ∀b∈(c.G t).top,c'.w.heap[b]?=c.w.heap[b]?):CD c' t e:=by
 cases e with
 |box ty g cs=>obtain⟨b,C,h1,h2,h3,h4,h5,rC,h6⟩:=h;obtain⟨a1,a2⟩:=k.K _ _ h1;exact⟨b,C,a1,a2.trans h2,by rw [hG];exact h3,by rw [hG];exact h4,by rw [hm b (by simp [h3])];exact h5,rC,h6.keep k⟩
 |row ety sz g x d=>
  obtain⟨h1,h0,N,h2,h3,h4,h5⟩:=h;obtain⟨a1,a2⟩:=k.K _ _ h1;have hN:=h2.me;refine⟨a1,fun g' Cc=>h0 g' (hK g' Cc),N, ?_,fun b hb=>k.ok b (hN b hb) (h3 b hb),fun hd=> ?_,fun hd=>by rw [hG];exact h5 hd⟩
  ·rw [a2,k.ρ,hG];exact h2.frame hm fun b hb=>k.mem b (hN b hb) (h3 b hb)
  ·obtain⟨a,b⟩:=h4 hd;exact⟨a.frame fun b hb=>k.mem b (hN b hb) (h3 b hb),by rw [hG];exact b⟩
 |cc g x=>obtain⟨h1,⟨f,h2,h3⟩,h4,h5⟩:=h;obtain⟨a1,a2⟩:=k.K _ _ h1;obtain⟨a,b⟩:=Rd.iz k h2 h3;exact⟨a1,⟨f,by rw [a2,k.ρ];exact a,b⟩,by rw [hG];exact h4,by rw [hG];exact h5⟩
 |gd gs e=>exact by rw [CD,hG];exact h
 |dead=>exact by rw [CD,hG];exact h
 |deep e z l g ep x=>obtain⟨h1,h0,h2,h3,h4⟩:=h;obtain⟨a1,a2⟩:=k.K _ _ h1;exact⟨a1,fun g' Cc=>h0 g' (hK g' Cc),hE.trans h2,by rw [a2,k.ρ,hG];exact h3.frame hm,by rw [hG];exact h4⟩
 |hol e z l g ep x i o u=>
  obtain⟨h1,h0,h2,⟨b,cap,C,ys,kk,kv,N1,N2,p1,p2,p3,p4,p5,p6,p7,p7',p8,p9,p10,p11,p12,p13,p14,p15,p16,p17,p18⟩,h4⟩:=h;obtain⟨a1,a2⟩:=k.K _ _ h1;obtain⟨a3,a4⟩:=k.K _ _ p15;refine⟨a1,fun g' Cc=>h0 g' (hK g' Cc),hE.trans h2,⟨b,cap,C,ys,kk,kv,N1,N2,by rw [a2];exact p1,by rw [k.ρ];exact p2,by rw [k.ρ];exact p3,p4,p5,p6,p7,p7',by rw [hm b (by rw [p14];simp)];exact p8,p9,p10,p11,p12,p13,by rw [hG];exact p14,a3,by rw [a4];exact p16,
   p17.frame fun q hq=>hm q (by rw [p14];simp [hq]),p18.frame fun q hq=>hm q (by rw [p14];simp [hq])⟩,by rw [hG];exact h4⟩
theorem pF {ρ:List AV} {g:E × Bool} {gs:Gd} (h:MQ g gs=true) (k:A1 ρ gs):g.1.den ρ= .bool g.2:=by simp only [MQ,List.any_eq_true,Ac,beq_iff_eq]at h;obtain⟨x,hx,h1,h2⟩:=h;rw [←E.ah ρ _ _ h1,←h2];exact k x hx
theorem Xs {ρ:List AV} {hs gs:Gd} (h:Ki hs gs=true) (k:A1 ρ gs):A1 ρ hs:=by simp only [Ki,A9]at h;exact fun g hg=>pF (h g hg) k
theorem D3 (ρ:List AV):A1 ρ []:=by simp [A1]
def EH (c:Cx) (hp:Nat→Option Ad):Prop:= ∀t e,B0 c.ρ (hp t) e→CD c t e
theorem Cu {ρ:List AV} {hp:Nat→Option Ad} {gs:Gd} {t:Nat} {e:Ad} (h:look hp gs t=some e) (k:A1 ρ gs):B0 ρ (hp t) e:=by
 unfold look at h;cases ho:hp t with
 |none=>rw [ho]at h;simp at h
 |some o=>
  rw [ho]at h;simp only [Aa]at h;cases o with
  |gd hs e'=>
   simp only [Kg]at h;split at h
   ·rename_i Bt;simp at h;subst h;exact⟨Xs Bt k,rfl⟩
   ·cases h
  |box=>simp [Kg]at h;subst h;rfl
  |row=>simp [Kg]at h;subst h;rfl
  |cc=>simp [Kg]at h;subst h;rfl
  |dead=>simp [Kg]at h;subst h;rfl
  |deep=>simp [Kg]at h;subst h;rfl
  |hol=>simp [Kg]at h;subst h;rfl
theorem SR.ungd {c:Cx} {s s':SV} {v:Value} {gs:Gd} (h:SR c [s] [v]) (hu:ungd gs s=some s') (k:A1 c.ρ gs):SR c [s'] [v]:=by
 cases s<;>simp only [Go.Proofs.YtmbknelgbjlhnaaGreat.ungd]at hu<;>first
  |(cases hu;done)
  |(split at hu
    ·rename_i Bt;simp at hu;subst hu;cases h with
     |gd h1 _ _=>exact h1 (Xs Bt k)
    ·cases hu)
  |(simp at hu;subst hu;exact h)
theorem Bb.az (l:List SV):(Bb.of l).toList=l:=by induction l<;>simp [Bb.of,Bb.toList, *]
theorem EL.du (ρ:List AV) (l:List E):(EL.of l).den ρ=l.map (E.den ρ):=by induction l<;>simp [EL.of,EL.den, *]
theorem Oy {c:Cx}: ∀(vs:List Value) (l:List SV),D4.go vs=some l→SR c l vs
 | [],l,h=>by simp [D4.go]at h;subst h;exact .nil
 |v::vs,l,h=>by
  unfold D4.go at h;split at h
  ·rename_i h0;cases h0
  ·rename_i k n vs' h0;cases h0;split at h
   ·rename_i hk;obtain⟨l',hl,rfl⟩:=An.1 h;exact .e (.int hk .nil) (by simp) (Oy _ _ hl)
   ·cases h
  ·rename_i h0;cases h0;obtain⟨l',hl,rfl⟩:=An.1 h;exact .e (.bool .nil) (by simp) (Oy _ _ hl)
  ·rename_i h0;cases h0;split at h
   ·rename_i hk;obtain⟨l',hl,rfl⟩:=An.1 h;exact .e (.str hk .nil) (by simp) (Oy _ _ hl)
   ·cases h
  ·rename_i h0;cases h0;obtain⟨l',hl,rfl⟩:=An.1 h;exact .cr (Oy _ _ hl)
  ·rename_i h0;cases h0;obtain⟨l',hl,rfl⟩:=An.1 h;exact .e (.ei .nil) (by simp) (Oy _ _ hl)
  ·cases h
theorem cT: ∀(vs:List Value) (l:List SV),D4.go vs=some l→ ∀u∈vs,u.oneCell'=true
 | [],l,h,u,hu=>by simp at hu
 |v::vs,l,h,u,hu=>by
  unfold D4.go at h;split at h
  ·rename_i h0;cases h0
  all_goals (try (cases h;done))
  all_goals
   rename_i h0;cases h0
   (try split at h)
   all_goals (try (cases h;done))
   all_goals
    obtain⟨l',hl,rfl⟩:=An.1 h;rcases Ae.1 hu with rfl|hu
    ·rfl
    ·exact cT _ _ hl u hu
theorem WX {c:Cx} {v:Value} {s:SV} (h:D4 v=some s):SR c [s] [v]:=by
 unfold D4 at h;split at h
 ·split at h
  ·rename_i hk;simp at h;subst h;exact .e (.int hk .nil) (by simp) .nil
  ·cases h
 ·simp at h;subst h;exact .e (.bool .nil) (by simp) .nil
 ·split at h
  ·rename_i hk;simp at h;subst h;exact .e (.str hk .nil) (by simp) .nil
  ·cases h
 ·simp at h;subst h;exact .cr .nil
 ·simp at h;subst h;exact .e (.ei .nil) (by simp) .nil
 ·rename_i cs;simp only [Option.bind_eq_bind,Ao]at h;obtain⟨l,hl,h⟩:=h;simp at h;subst h;have:=SR.agg (cs:=Bb.of l) (as_:=cs.toList) (cT _ _ hl) (by rw [Bb.az];exact Oy (c:=c) _ _ hl) .nil;simpa using this
 ·cases h
theorem WQ {c:Cx} {sl:Nat→SV} {gs:Gd} {x:Operand} {s:SV} {a:Act} (h:Bm sl gs x=some s) (hs: ∀t,x= .tmp t→SR c [sl t] [a.tmps.getD t undef]) (k:A1 c.ρ gs):SR c [s] [a.eval x]:=by
 cases x with
 |tmp t=>exact(hs t rfl).ungd h k
 |const v=>exact WX h
 |func f=>simp [Bm]at h;subst h;exact SR.fn (as_:= []) .nil .nil
 |global g=>simp [Bm]at h
theorem CK.rd {w:World} {ety sz:Nat} {v:Value} {x:AV} {top N:List Nat} (h:CK w ety sz v x top N): ∃f,Rd w [v] [x] f∧(∀b∈f,b∈top∨b∈N)∧ ∀b∈f.tail,b∈N:=by
 obtain⟨xs,rfl,h2,h3,⟨rfl,⟨a,rfl⟩,rfl,rfl⟩|⟨g,cap,C,rfl,h6,h7,h8,h9,rfl,Ji,FE⟩⟩:=h
 ·exact⟨_, .fb .nil,by simp⟩
 ·rcases Nat.eq_zero_or_pos xs.length with h0|h0
  ·have:xs= []:=List.eq_nil_of_length_eq_zero h0;subst this;exact⟨_, .fb .nil,by simp⟩
  ·have:=Rd.gj (o:=0) (c:=cap) (cs:=C.toList.take (xs.length*sz)) h8 h0 ⟨by have:maxLen=9223372036854775807:=rfl;omega,by omega⟩ rfl h2 h3 (fun j u hu=>by
    rw [Nat.zero_add];rw [List.getElem?_take]at hu;split at hu
    ·simpa using hu
    ·cases hu) Ji FE .nil
   exact⟨_,this,by simp⟩
def Cx.fg (c:Cx) (ts:List Nat) (b:Nat):Prop:=c.ok b∨ ∃t∈ts,b∈(c.G t).top
theorem Cx.fg.mono {c:Cx} {ts us:List Nat} {b:Nat} (h:c.fg ts b) (hs: ∀t∈ts,t∈us):c.fg us b:=h.imp id fun⟨t,h1,h2⟩=>⟨t,hs t h1,h2⟩
theorem zuY {c:Cx} {hp:Nat→Option Ad} {gs:Gd} (eh:EH c hp) (k:A1 c.ρ gs) {t g:Nat} {x:E} (h:GY hp gs t g=some x):
  ∃f,Rd c.w [c.H t g] [x.den c.ρ] f∧ ∀b∈f,c.fg [t] b:=by
 unfold GY at h;split at h
 ·rename_i e z g' y d hl;split at h
  ·rename_i hg;subst hg;simp at h;subst h;obtain⟨h1,h0,N,h2,h3,h4,h5⟩:=eh t _ (Cu hl k);obtain⟨f,hr,hf,_⟩:=h2.rd;exact⟨f,hr,fun b hb=>(hf b hb).elim (fun h=> .inr ⟨t,by simp,h⟩) fun h=> .inl (h3 b h)⟩
  ·cases h
 ·rename_i g' y hl;split at h
  ·rename_i hg;subst hg;simp at h;subst h;obtain⟨h1,⟨f,h2,h3⟩,h4,h5⟩:=eh t _ (Cu hl k);exact⟨f,h2,fun b hb=> .inl (h3 b hb)⟩
  ·cases h
 ·rename_i e z l g' ep y hl;split at h
  ·rename_i hg;subst hg;simp at h;subst h;obtain⟨h1,h0,h2,h3,h4⟩:=eh t _ (Cu hl k);obtain⟨f,k1,k2⟩:=h3.rd;exact⟨f,k1,fun b hb=> .inr ⟨t,by simp,k2 b hb⟩⟩
  ·cases h
 ·cases h
theorem OT {c:Cx} {hp:Nat→Option Ad} {gs:Gd} (eh:EH c hp) (k:A1 c.ρ gs) {t n:Nat} (h:Lm hp gs t n=true):c.E t=n:=by
 unfold Lm at h;split at h
 ·rename_i hl;obtain⟨_,_,h2,_⟩:=eh t _ (Cu hl k);rw [h2];exact(by simpa using h:n=_).symm
 ·cases h
theorem nD (hp:Nat→Option Ad) (gs:Gd) (n:Nat) (s:SV) (l:List SV): ∀t,t∈Bv hp gs (n+1) (s::l)↔t∈Bv hp gs (n+1) [s]∨t∈Bv hp gs n l:=by
 intro t;have h0: ∀m,Bv hp gs m []= []:=fun m=>by cases m<;>simp [Bv]
 simp only [Bv,Ag,h0,List.not_mem_nil,or_false]
theorem Xc (hp:Nat→Option Ad) (gs:Gd): ∀n,Bv hp gs n []= []:=fun m=>by cases m<;>simp [Bv]
theorem vE (hp:Nat→Option Ad) (gs:Gd) (n:Nat) (cs:Bb):Bv hp gs (n+1) [.agg cs]=Bv hp gs n cs.toList:=by simp only [Bv,Xc,List.append_nil]
theorem zzz (hp:Nat→Option Ad) (gs:Gd) (n:Nat) (cs:Bb):Bv hp gs (n+1) [.tup cs]=Bv hp gs n cs.toList:=by simp only [Bv,Xc,List.append_nil]
theorem uV (hp:Nat→Option Ad) (gs:Gd) (n f:Nat) (cs:Bb):Bv hp gs (n+1) [.fn f cs]=Bv hp gs n cs.toList:=by simp only [Bv,Xc,List.append_nil]
theorem vA (hp:Nat→Option Ad) (gs hs:Gd) (n:Nat) (s:SV):Bv hp gs (n+1) [.gd hs s]=Bv hp gs n [s]:=by simp only [Bv,Xc,List.append_nil]
mutual
theorem Gt {c:Cx} {hp:Nat→Option Ad} {gs:Gd} (eh:EH c hp) (k:A1 c.ρ gs): ∀(n:Nat) {s:SV} {x:E} {v:Value},A5 hp gs n s=some x→SR c [s] [v]→ ∀m,n≤m→
  ∃f,Rd c.w [v] [x.den c.ρ] f∧ ∀b∈f,c.fg (Bv hp gs (m+1) [s]) b
 |0,s,x,v,h,_,m,_=>by simp [A5]at h
 |n+1,s,x,v,h,hr,m,hm=>by
  obtain⟨m,rfl⟩: ∃m',m=m'+1:=⟨m-1,by omega⟩
  have EY:n≤m:=by omega
  have h0: ∀m,Bv hp gs m []= []:=fun m=>by cases m<;>simp [Bv]
  unfold A5 at h;split at h
  ·cases h
  ·simp at h;subst h;cases hr with
   |e h1 h2 _=>exact⟨_,h1,fun b hb=> .inl (h2 b hb)⟩
  ·simp at h;subst h;cases hr with
   |cr _=>exact⟨_, .fb .nil,by simp⟩
  ·simp at h;subst h;cases hr with
   |emp _=>exact⟨_, .fb .nil,by simp⟩
  ·cases hr with
   |own _ h8 _=>obtain⟨f,h1,h2⟩:=zuY eh k h;rw [h8]at h1;exact⟨f,h1,fun b hb=>(h2 b hb).mono (by simp [Bv])⟩
  ·rename_i t;split at h
   ·rename_i ty g0 cs hl;obtain⟨l,Bl,rfl⟩:=An.1 h;cases hr with
    |cy h1 h2 _=>
     obtain⟨b,C,_,e2,e3,e4,e5,e5',e6⟩:=eh t _ (Cu hl k);rw [h2]at e2;cases e2;obtain⟨f,g1,g2⟩:=OP eh k n Bl e6 (m+1) (by omega);refine⟨_, .ref e5 e5' (by simpa [E.den,AV.cells]using g1) .nil,fun q hq=> ?_⟩;simp only [List.append_nil,Ae]at hq;rcases hq with rfl|hq
     ·exact .inr ⟨t,by simp [Bv],by simp [e3]⟩
     ·exact(g2 q hq).mono fun u hu=>by simp only [Bv,hl,h0,List.append_nil,Ae];exact .inr hu
   ·cases h
  ·cases h
  ·cases h
  ·cases h
  ·rename_i y;simp at h;subst h;cases hr with
   |dt h1 h2 _=>exact⟨_,h1,fun b hb=> .inl (h2 b hb)⟩
  ·cases h
  ·rename_i cs;obtain⟨l,Bl,rfl⟩:=An.1 h;cases hr with
   |agg h9 h1 _=>obtain⟨f,g1,g2⟩:=OP eh k n Bl h1 (m+1) (by omega);exact⟨_, .agg h9 g1 .nil,fun q hq=>by rw [vE];exact g2 q (by simpa using hq)⟩
  ·rename_i cs;obtain⟨l,Bl,rfl⟩:=An.1 h;cases hr with
   |tup h1 _=>obtain⟨f,g1,g2⟩:=OP eh k n Bl h1 (m+1) (by omega);exact⟨_, .tup g1 .nil,fun q hq=>by rw [zzz];exact g2 q (by simpa using hq)⟩
  ·rename_i g cs;obtain⟨l,Bl,rfl⟩:=An.1 h;cases hr with
   |fn h1 _=>obtain⟨f,g1,g2⟩:=OP eh k n Bl h1 (m+1) (by omega);exact⟨_, .fn g1 .nil,fun q hq=>by rw [uV];exact g2 q (by simpa using hq)⟩
  ·rename_i hs s;split at h
   ·rename_i Bt;cases hr with
    |gd h1 _ _=>obtain⟨f,g1,g2⟩:=Gt eh k n h (h1 (Xs Bt k)) m EY;exact⟨f,g1,fun q hq=>by rw [vA];exact g2 q hq⟩
   ·cases h
  ·rename_i t g n' p y;split at h
   ·rename_i hv;simp at h;subst h;cases hr with
    |via h1 h2 h3 _=>obtain⟨⟨f,q1,q2⟩,_⟩:=h3 (OT eh k hv);exact⟨f,q1,fun b hb=>(q2 b hb).imp id fun hh=>⟨t,by simp [Bv],hh⟩⟩
   ·cases h
  ·cases h
  ·rename_i t g lo z;split at h
   ·rename_i e z' g' y d hl;split at h
    ·rename_i hh;obtain⟨rfl,rfl⟩:=hh;simp at h;subst h;cases hr with
     | @wown _ _ _ _ _ nn _ _ _ _ kv _ _ h1 h2 h3 h4 h5 h6 _=>
      obtain⟨p1,p0,N,p2,p3,_⟩:=eh t _ (Cu hl k);rw [h2]at p2;obtain⟨xs,f,q1,q2,q3,q4⟩:=p2.win (k:=kv.toNat) (by omega) (fun AB=>h6 (by omega))
      refine⟨f, ?_,fun b hb=>(q4 b hb).elim (fun hh=> .inr ⟨t,by simp [Bv],hh⟩) fun hh=> .inl (p3 b hh)⟩;have e1:(E.win y lo (.len y)).den c.ρ= .sl (xs.drop kv.toNat):=by simp only [E.den,q1,AV.len,h3,AV.win];rw [List.take_of_length_le (by simp)]
      rw [e1];exact q3
    ·cases h
   ·cases h
  ·cases h
theorem OP {c:Cx} {hp:Nat→Option Ad} {gs:Gd} (eh:EH c hp) (k:A1 c.ρ gs): ∀(n:Nat) {ss:List SV} {xs:EL} {vs:List Value},BZ hp gs n ss=some xs→SR c ss vs→ ∀m,n≤m→
  ∃f,Rd c.w vs (xs.den c.ρ) f∧ ∀b∈f,c.fg (Bv hp gs m ss) b
 |0,ss,xs,vs,h,_,m,_=>by simp [BZ]at h
 |n+1, [],xs,vs,h,hr,m,_=>by simp [BZ]at h;subst h;cases hr;exact⟨[], .nil,by simp⟩
 |n+1,s::ss,xs, [],h,hr,m,_=>by have:=hr.len;simp at this
 |n+1,s::ss,xs,v::vs,h,hr,m,hm=>by
  obtain⟨m,rfl⟩: ∃m',m=m'+1:=⟨m-1,by omega⟩
  obtain⟨r1,r2⟩:=hr.cv;unfold BZ at h;split at h
  ·rename_i x ys h1 h2;simp at h;subst h;obtain⟨f,a1,a2⟩:=Gt eh k n h1 r1 m (by omega);obtain⟨g,b1,b2⟩:=OP eh k n h2 r2 m (by omega);refine⟨f++g,a1.app b1,fun q hq=> ?_⟩;rcases Ag.1 hq with hq|hq
   ·exact(a2 q hq).mono fun t ht=>(nD hp gs m s ss t).2 (.inl ht)
   ·exact(b2 q hq).mono fun t ht=>(nD hp gs m s ss t).2 (.inr ht)
  ·cases h
end
def Cb (n:Nat) (sl:Nat→SV) (d:Option Nat) (s:SV) (i:Nat):SV:=if d=some i∧i<n then s else sl i
def AW (hp:Nat→Option Ad) (l:List (Nat × Ad)):Nat→Option Ad:=l.foldl (fun h (t,e)=>fun u=>if u=t then some e else h u) hp
theorem Rel.put {c:Cx} {n:Nat} {sl:Nat→SV} {hp:Nat→Option Ad} {a:Act} (h:Rel c n sl hp a) {s:SV} {v:Value} (hv:SR c [s] [v]) (d:Option Nat):Rel c n (Cb n sl d s) hp (a.put d v):=by
 cases d with
 |none=>
  have e:Cb n sl none s=sl:=by funext i;simp [Cb]
  rw [e];exact h
 |some d=>
  refine⟨h.defers,by simpa [Act.put]using h.size,h.base,fun i=> ?_,h.ents,h.off,h.gw,h.cg,h.c8⟩;simp only [Cb,Ab,Act.put];by_cases hi:d=i∧i<n
  ·rw [if_pos hi];obtain⟨rfl,hi⟩:=hi;have:(a.tmps.setIfInBounds d v).getD d undef=v:=by
    rw [Array.getD_eq_getD_getElem?,Array.getElem?_setIfInBounds];simp [h.size,hi]
   rw [this];exact hv
  ·rw [if_neg hi];have:(a.tmps.setIfInBounds d v).getD i undef=a.tmps.getD i undef:=by
    rw [Array.getD_eq_getD_getElem?,Array.getD_eq_getD_getElem?,Array.getElem?_setIfInBounds];by_cases hd:d=i
    ·subst hd;have: ¬d<a.tmps.size:=fun h'=>hi ⟨rfl,by rw [←h.size];exact h'⟩;simp [this,Array.getElem?_eq_none (Nat.le_of_not_lt this)]
    ·simp [hd]
   rw [this];exact h.dg i
theorem Rel.change {c c':Cx} {n:Nat} {sl:Nat→SV} {hp hp':Nat→Option Ad} {a:Act} (h:Rel c n sl hp a) (T:Nat→Prop) (k:CX c c') (hb:Nf c')
  (h1: ∀t,¬T t→hp' t=hp t∧c'.G t=c.G t∧c'.E t=c.E t∧ ∀g,c'.K t g→c.K t g) (h2: ∀t,¬T t→ ∀b∈(c.G t).top,c'.w.heap[b]?=c.w.heap[b]?)
  (h3: ∀t,T t→(∀e,B0 c.ρ (hp' t) e→CD c' t e)∧((∀e,¬B0 c.ρ (hp' t) e)→(c'.G t).top= []∧(c'.G t).O= []))
  (h4:GW c') (h5: ∀t g,c'.K t g→c'.U t) (h6: ∀t e,hp' t=some e→c'.U t):Rel c' n sl hp' a:=by
 refine⟨h.defers,h.size,hb,fun i=>(h.dg i).keep k,fun t e hr=> ?_,fun t hn=> ?_,h4,h5,h6⟩
 ·rw [k.ρ]at hr;by_cases ht:T t
  ·exact(h3 t ht).1 e hr
  ·obtain⟨e1,e2,e0,e3⟩:=h1 t ht;rw [e1]at hr;exact(h.ents t e hr).keep k e2 e0 e3 (h2 t ht)
 ·rw [k.ρ]at hn;by_cases ht:T t
  ·exact(h3 t ht).2 hn
  ·obtain⟨e1,e2,_,e3⟩:=h1 t ht;rw [e1]at hn;rw [e2];exact h.off t hn
theorem OL {ρ:List AV} {gs:Gd} {e e':Ad} (k:A1 ρ gs) (hn: ∀hs f,e≠ .gd hs f):B0 ρ (some (Co gs e)) e'↔e'=e:=by
 cases gs with
 |nil=>cases e<;>first|(simp [Co,B0,eq_comm];done)|exact absurd rfl (hn _ _)
 |cons g gs=>simp [Co,B0,k,eq_comm]
theorem SR.mkGd {c:Cx} {s:SV} {v:Value} (h:SR c [s] [v]) (gs:Gd) (k:A1 c.ρ gs:=by exact fun _ hh=>absurd hh List.not_mem_nil):SR c [mkGd gs s] [v]:=by
 cases gs with
 |nil=>exact h
 |cons g gs=>exact .gd (fun _=>h) (fun hn=>absurd k hn) .nil
def Cx.new (c:Cx) (t:Nat) (o:Obj) (hv:Value) (O:List Nat):Cx:=
 {c with w:=c.w.alloc o,G:=fun u=>if u=t then⟨[c.w.heap.size],O⟩else c.G u,K:=fun u g=>c.K u g∨(u=t∧g=0),H:=fun u g=>if u=t then hv else c.H u g,U:=fun u=>c.U u∨u=t,E:=fun u=>if u=t then 0 else c.E u}
theorem Cx.ml {c:Cx} {t:Nat} {o:Obj} {hv:Value} {O:List Nat} {b:Nat} (h:(c.new t o hv O).M b):c.M b∨b=c.w.heap.size:=by
 obtain⟨u,hu⟩:=h;simp only [Cx.new]at hu;split at hu
 ·simp at hu;exact .inr hu
 ·exact .inl ⟨u,hu⟩
theorem Cx.ie {c:Cx} {t:Nat} {o:Obj} {hv:Value} {O:List Nat} (hk: ∀g,¬c.K t g):CX c (c.new t o hv O):=by
 refine⟨rfl,rfl,fun b hb AF=>⟨fun hm=> ?_,AF.2⟩,fun b hb _=>Below.heap_alloc _ _ _ hb,fun u g h=>⟨.inl h, ?_⟩,fun u g h=> ?_⟩
 ·rcases Cx.ml hm with h|h
  ·exact AF.1 h
  ·omega
 ·simp only [Cx.new];rw [if_neg];rintro rfl;exact hk g h
 ·have hu:u≠t:=by rintro rfl;exact hk g h
  have e1:(c.new t o hv O).E u=c.E u:=by simp only [Cx.new,if_neg hu]
  have e2:(c.new t o hv O).G u=c.G u:=by simp only [Cx.new,if_neg hu]
  rw [e1];exact⟨Nat.le_refl _,fun _=>⟨e2,fun b _ hb=>Below.heap_alloc _ _ _ hb⟩⟩
theorem Nf.new {c:Cx} (h:Nf c) (t:Nat) (ht: ¬c.U t) (o:Obj) (hv:Value) (O:List Nat):Nf (c.new t o hv O):=
 ⟨h.os,h.tape,h.output,Nat.le_trans h.size (by simp [Cx.new]),fun u v hp=>⟨.inl (h.pins u v hp).1,fun hk=>by have hu:u≠t:=fun hh=>ht (hh▸(h.pins u v hp).1);simp only [Cx.new,if_neg hu];exact(h.pins u v hp).2 (hk.resolve_right fun hh=>hu hh.1)⟩,fun b hb hm=>(Below.heap_alloc _ _ _ (Nat.lt_of_lt_of_le hb h.size)).trans (h.block b hb hm),h.pk,h.lo⟩
theorem Rel.new {c:Cx} {n:Nat} {sl:Nat→SV} {hp:Nat→Option Ad} {a:Act} (h:Rel c n sl hp a) {t:Nat} (ht: ¬c.U t) (o:Obj) (hv:Value) (e:Ad) (gs:Gd) (k:A1 c.ρ gs) (BE: ∀hs f,e≠ .gd hs f)
  (he:CD (c.new t o hv []) t e):Rel (c.new t o hv []) n sl (AW hp [(t,Co gs e)]) a:=by
 have hk: ∀g,¬c.K t g:=fun g hg=>ht (h.cg t g hg);have DP:hp t=none:=by
  cases hh:hp t with
  |none=>rfl
  |some e=>exact absurd (h.c8 t e hh) ht
 have Jr:=h.off t (by rw [DP];simp [B0]);have Db: ∀u,AW hp [(t,Co gs e)] u=if u=t then some (Co gs e)else hp u:=fun u=>rfl;refine h.change (fun u=>u=t) (Cx.ie hk) (h.base.new t ht ..) (fun u hu=>⟨by rw [Db,if_neg hu],by simp [Cx.new,hu],by simp [Cx.new,hu],fun g hg=>hg.resolve_right (fun hh=>hu hh.1)⟩)
  (fun u hu b hb=>Below.heap_alloc _ _ _ (h.gw.inb u b (by simp [GI.own,hb]))) (fun u hu=> ?_) ?_ (fun u g hg=>hg.imp (h.cg u g) (·.1)) (fun u e' hh=> ?_)
 ·subst hu;rw [Db,if_pos rfl];exact⟨fun e' hr=>by rw [(OL k BE).1 hr];exact he,fun hn=>absurd ((OL k BE).2 rfl) (hn e)⟩
 ·have hG: ∀u,((c.new t o hv []).G u)=if u=t then⟨[c.w.heap.size], []⟩else c.G u:=fun u=>rfl;refine⟨fun u=> ?_,fun u u' JE b hb=> ?_,fun u b hb=> ?_,fun u b hb=> ?_⟩
  ·rw [hG];split
   ·simp [GI.own]
   ·exact h.gw.nodup u
  ·rw [hG]at hb ⊢;split at hb
   ·rename_i hu;simp [GI.own]at hb;rw [if_neg (fun hh=>JE (hu.trans hh.symm))];intro BJ;have:=h.gw.inb u' b BJ;omega
   ·split
    ·simp only [GI.own,List.append_nil,List.mem_singleton];intro hh;have:=h.gw.inb u b hb;omega
    ·exact h.gw.c7 u u' JE b hb
  ·rw [hG]at hb;split at hb
   ·simp [GI.own]at hb;exact .inl (by rw [hb];exact h.base.size)
   ·exact h.gw.allow u b hb
  ·rw [hG]at hb;simp only [Cx.new,World.size_alloc];split at hb
   ·simp [GI.own]at hb;omega
   ·have:=h.gw.inb u b hb;omega
 ·rw [Db]at hh;split at hh
  ·rename_i hu;exact .inr hu
  ·exact .inl (h.c8 u e' hh)
def AV.scalar:AV→Bool
 | .int .. =>true
 | .bool _=>true
 | .str _=>true
 |_=>false
def Cn.den (ρ:List AV):Cn→Prop
 | .dfd x=>x.den ρ≠ .undef
 | .agg x n=> ∃cs,x.den ρ= .agg cs∧cs.length=n
 | .cells x _=>(∀cs,x.den ρ≠ .agg cs)∧ ∀cs,x.den ρ≠ .tup cs
 | .inb i x sz=> ∃kk k m,i.den ρ= .int kk k∧0≤k∧(x.den ρ).len= .int .i64 m∧k<m∧((x.den ρ).nth k.toNat).cells.length=sz
 | .inbS i x=> ∃kk k s,i.den ρ= .int kk k∧x.den ρ= .str s∧0≤k∧k<s.length
 | .winS x lo hi=> ∃ka a kb b s,lo.den ρ= .int ka a∧hi.den ρ= .int kb b∧x.den ρ= .str s∧0≤a∧a≤b∧b≤s.length
 | .win x lo hi=> ∃ka a kb b m,lo.den ρ= .int ka a∧hi.den ρ= .int kb b∧(x.den ρ).len= .int .i64 m∧0≤a∧a≤b∧b≤m
 | .room x y bytes=> ∃m k,(x.den ρ).len= .int .i64 m∧(y.den ρ).len= .int .i64 k∧(m+k)*bytes≤140737488355328∧m+k≤140737488355328
 | .roomS x y=> ∃a b,x.den ρ= .str a∧y.den ρ= .str b∧a.length+b.length≤9223372036854775807
 | .mkroom n bytes=> ∃kk k,n.den ρ= .int kk k∧0≤k∧k*bytes≤140737488355328∧k≤140737488355328
 | .nz x=> ∃k n,x.den ρ= .int k n∧n≠0
 | .nn x=> ∃k n,x.den ρ= .int k n∧0≤n
 | .isref x n=> ∃y,x.den ρ= .ref y∧n≤y.cells.length
 | .issl x sz=> ∃xs,x.den ρ= .sl xs∧ ∀y∈xs,y.cells.length=sz
 | .flat x n g=>(x.den ρ).cells.length=n∧(∀y∈(x.den ρ).cells,y.scalar=true)∧(g=true→ ∃cs,x.den ρ= .agg cs)∧(g=false→(x.den ρ).scalar=true)
 | .flatS x sz=> ∃xs,x.den ρ= .sl xs∧ ∀y∈xs,y.cells.length=sz∧ ∀z∈y.cells,z.scalar=true
 | .kinds x ks=> ∃cs,x.den ρ= .agg cs∧cs.map AV.sk=ks.map some
theorem BD {ρ:List AV} {q:Cn} {l:List Cn} (h: ∀r∈q::l,r.den ρ):q.den ρ:=h q (by simp)
theorem Gu {w:World} {vs:List Value} {xs:List AV} {f:List Nat} (h:Rd w vs xs f) (hx: ∀x∈xs,x.scalar=true):f= []:=by
 induction h with
 |nil=>rfl
 |int _ _ ih=>exact ih fun x hm=>hx x (by simp [hm])
 |bool _ ih=>exact ih fun x hm=>hx x (by simp [hm])
 |str _ _ ih=>exact ih fun x hm=>hx x (by simp [hm])
 |fb _ _=>have:=hx _ List.mem_cons_self;simp [AV.scalar]at this
 |gj _ _ _ _ _ _ _ _ _ _ _ _=>have:=hx _ List.mem_cons_self;simp [AV.scalar]at this
 |agg _ _ _ _ _=>have:=hx _ List.mem_cons_self;simp [AV.scalar]at this
 |tup _ _ _ _=>have:=hx _ List.mem_cons_self;simp [AV.scalar]at this
 |ref _ _ _ _ _ _=>have:=hx _ List.mem_cons_self;simp [AV.scalar]at this
 |fn _ _ _ _=>have:=hx _ List.mem_cons_self;simp [AV.scalar]at this
 |ei _ _=>have:=hx _ List.mem_cons_self;simp [AV.scalar]at this
structure A6 (P:Program) (c:Cx) (n nx:Nat) (sl:Nat→SV) (hp:Nat→Option Ad) (a:Act) (sl0:Nat→SV) (hp0:Nat→Option Ad) (o:Oper) (gs:Gd):Prop where
 rel:Rel c n sl hp a
 gs:A1 c.ρ gs
 sl: ∀t,Operand.tmp t∈o.op.operands→sl0 t=sl t
 hp: ∀t e,hp0 t=some e→hp t=some e
 new: ∀t,nx≤t→t<nx+999→ ¬c.U t
structure KR (c c':Cx) (nx:Nat):Prop where
 ρ:c'.ρ=c.ρ
 A:c'.A=c.A
 w0:c'.w0=c.w0
 Mu:c'.Mu=c.Mu
 U: ∀t,c'.U t→c.U t∨(nx≤t∧t<nx+Bj)
theorem KR.refl (c:Cx) (nx:Nat):KR c c nx:=⟨rfl,rfl,rfl,rfl,fun _ h=> .inl h⟩
def As (P:Program) (o:Oper) (c:Cx) (n nx:Nat) (sl:Nat→SV) (hp:Nat→Option Ad) (gs:Gd) (a:Act) (e:AP):Prop:=
 ∀(next:Act→World→Prop) (Q:Exit→Act→World→Prop),(∀a' c',KR c c' nx→Rel c' n (Cb n sl o.dst (mkGd gs e.val)) (AW hp e.bt) a'→next a' c'.w)→o.wp P a c.w next Q
section
variable {P:Program} {c:Cx} {n nx:Nat} {sl sl0:Nat→SV} {hp hp0:Nat→Option Ad} {a:Act} {o:Oper} {gs:Gd}
theorem A6.eh (h:A6 P c n nx sl hp a sl0 hp0 o gs):EH c hp0:=fun t e hr=>h.rel.ents t e (by
 cases ho:hp0 t with
 |none=>rw [ho]at hr;exact hr.elim
 |some e'=>rw [h.hp t e' ho];rwa [ho]at hr)
theorem A6.de (h:A6 P c n nx sl hp a sl0 hp0 o gs) {x:Operand} {s:SV} (hx:Bm sl0 gs x=some s) (hm:x∈o.op.operands):SR c [s] [a.eval x]:=
 WQ hx (fun t ht=>by subst ht;rw [h.sl t hm];exact h.rel.dg t) h.gs
theorem As.pure (h:A6 P c n nx sl hp a sl0 hp0 o gs) {e:AP} {v:Value} (hr:(execOp a.eval o).run P c.w= .ok (.value v) c.w) (hv:SR c [e.val] [v]) (he:e.bt= []):As P o c n nx sl hp gs a e:=by
 intro next Q hk
 unfold Oper.wp;rw [hr,Oper.upon_value];exact hk _ c (KR.refl _ _) (by rw [he];exact h.rel.put (hv.mkGd gs h.gs) o.dst)
theorem As.skip (h:A6 P c n nx sl hp a sl0 hp0 o gs) {e:AP} (hr:(execOp a.eval o).run P c.w= .ok .skip c.w) (hv:e.val= .undef) (he:e.bt= []):As P o c n nx sl hp gs a e:=by
 intro next Q hk
 unfold Oper.wp;rw [hr,Oper.upon_skip];exact hk _ c (KR.refl _ _) (by rw [he,hv];exact h.rel.put ((SR.undef .nil).mkGd gs h.gs) o.dst)
theorem Iq {v:Value} {x:AV} {cs:List AV} {w:World} {f:List Nat} (h:Rd w [v] [x] f) (hx:x= .agg cs): ∃as_,v= .agg as_.toArray∧(∀u∈as_,u.oneCell'=true)∧Rd w as_ cs f:=by
 subst hx;rcases h.kind with h|h|h|h|h|h|h|h|h|h
 ·obtain⟨_,_,_,h,_⟩:=h;cases h
 ·obtain⟨_,_,h,_⟩:=h;cases h
 ·obtain⟨_,_,h,_⟩:=h;cases h
 ·obtain⟨_,_,_,h,_⟩:=h;cases h
 ·obtain⟨_,_,_,_,_,_,_,_,_,_,_,_,h,_⟩:=h;cases h
 ·obtain⟨as_,cs',h1,h2,h3⟩:=h;cases h2;exact⟨as_,h1,h3⟩
 ·obtain⟨_,_,_,h,_⟩:=h;cases h
 ·obtain⟨_,_,_,_,_,_,_,h,_⟩:=h;cases h
 ·obtain⟨_,_,_,_,h,_⟩:=h;cases h
 ·obtain⟨_,h,_⟩:=h;cases h
theorem Fy {v:Value} {x:AV} {k:IntKind} {m:Int} {w:World} {f:List Nat} (h:Rd w [v] [x] f) (hx:x= .int k m):v= .int k m∧Ei k m:=by subst hx;cases h;exact⟨rfl,by assumption⟩
theorem G2 {v:Value} {x:AV} {b:Bool} {w:World} {f:List Nat} (h:Rd w [v] [x] f) (hx:x= .bool b):v= .bool b:=by subst hx;cases h;rfl
theorem O8 {v:Value} {x:AV} {l:List UInt8} {w:World} {f:List Nat} (h:Rd w [v] [x] f) (hx:x= .str l): ∃s:ByteArray,v= .string s∧l=s.data.toList∧s.size≤9223372036854775807:=by generalize hy:AV.str l=y at hx;subst hx;cases h<;>cases hy;exact⟨_,rfl,rfl,by assumption⟩
theorem jW {v:Value} {x:AV} {y:AV} {w:World} {f:List Nat} (h:Rd w [v] [x] f) (hx:x= .ref y): ∃b,v= .pointer (some ⟨b,0,none⟩):=by subst hx;cases h;exact⟨_,rfl⟩
theorem zEf {v:Value} {x:AV} {cs:List AV} {w:World} {f:List Nat} (h:Rd w [v] [x] f) (hx:x= .tup cs): ∃as_,v= .tuple as_.toArray∧Rd w as_ cs f:=by
 subst hx;cases h with
 |tup h1 h2=>cases h2;exact⟨_,rfl,by simpa using h1⟩
theorem oG (h:A6 P c n nx sl hp a sl0 hp0 o gs) {x:Operand} (ho:o.op= .move x∨o.op= .assign x) {s:SV} (hx:Bm sl0 gs x=some s):As P o c n nx sl hp gs a {val:=s}:=by refine As.pure h (v:=a.eval x) ?_ (h.de hx (by rcases ho with ho|ho<;>simp [ho,Op.operands])) rfl;rcases ho with ho|ho<;>simp [execOp,ho]
theorem zsT (h:A6 P c n nx sl hp a sl0 hp0 o gs) {x:Operand} (ho:o.op= .nilCheck x) {e:AP} {sg:BB} {nv:Nat} (he:Bg P sg sl0 hp0 nv nx gs o=some e) (hc: ∀q∈e.c6,Cn.den c.ρ q):As P o c n nx sl hp gs a e:=by
 have hm:x∈o.op.operands:=by simp [ho,Op.operands]
 simp only [Bg,ho,Ao]at he;obtain⟨s,hs,he⟩:=he;have hr:=h.de hs hm;have key: ∀(v:Value),a.eval x=v→(∃b:Addr,v= .pointer (some b))→(execOp a.eval o).run P c.w= .ok (.value v) c.w:=by rintro v hv ⟨b,rfl⟩;simp only [execOp,ho,hv];rfl
 split at he
 ·simp at he;subst he;obtain⟨y,hy,_⟩:=BD hc;generalize ha:a.eval x=v at hr;cases hr with
  |e h1 h2 _=>obtain⟨b,rfl⟩:=jW h1 hy;exact As.pure h (key _ ha ⟨_,rfl⟩) (.dt h1 h2 .nil) rfl
 ·simp at he;subst he;generalize ha:a.eval x=v at hr;cases hr with
  |cy h1 h2 _=>exact As.pure h (key _ ha ⟨_,rfl⟩) (.cy h1 h2 .nil) rfl
 ·simp at he;subst he;generalize ha:a.eval x=v at hr;cases hr with
  |da h1 h2 h3 h4 h5 _=>exact As.pure h (key _ ha ⟨_,rfl⟩) (.da h1 h2 h3 h4 h5 .nil) rfl
 ·simp at he;subst he;generalize ha:a.eval x=v at hr;cases hr with
  |dv h1 h2 h3 h4 h5 h6 _=>exact As.pure h (key _ ha ⟨_,rfl⟩) (.dv h1 h2 h3 h4 h5 h6 .nil) rfl
 ·simp at he;subst he;generalize ha:a.eval x=v at hr;cases hr with
  |dt h1 h2 _=>exact As.pure h (key _ ha ⟨_,rfl⟩) (.dt h1 h2 .nil) rfl
 ·rename_i b g m q y i sz p;split at he
  ·rename_i hv;simp at he;subst he;have hE:=OT h.eh h.gs hv;generalize ha:a.eval x=v at hr;cases hr with
   |vptr h1 h2 h3 _=>obtain⟨_,_,_,_,_,_,_,_,_,_,_,_,rfl⟩:=h3 hE;exact As.pure h (key _ ha ⟨_,rfl⟩) (.vptr h1 h2 h3 .nil) rfl
  ·cases he
 ·cases he
theorem nQ {t:TypeId} (h:P.cellsOf t≠0) (w:World):(sizeOf t).run P w= .ok (P.cellsOf t) w:=by
 unfold Program.cellsOf at h ⊢;cases hi:P.info? t with
 |none=>simp [hi]at h
 |some i=>simp [sizeOf,typeInfo,hi]
theorem Mr {t:TypeId} (h:CM P t=true) (w:World):(sizeOf t).run P w= .ok (P.cellsOf t) w:=by
 unfold CM at h;unfold Program.cellsOf;cases hi:P.info? t with
 |none=>simp [hi]at h
 |some i=>simp [sizeOf,typeInfo,hi]
theorem Sl {t:TypeId} (h:CM P t=true) (w:World):(isAgg t).run P w= .ok (Ak P t) w:=by
 unfold CM at h;cases hu:P.underlying t with
 |none=>simp [hu]at h
 |some d=>simp only [isAgg,Ak,hu];cases d<;>simp [run_underlying hu]
theorem oO {w:World} {p:Addr} {v:Value} (h:w.cell? p=some v):(load p).run P w= .ok v w:=by simp only [load,Sem.run,h]
theorem lC {w:World} {b:Nat}: ∀(vs:List Value) (off i:Nat) (acc:Array Value),(∀j u,vs[j]?=some u→w.cell? ⟨b,off+i+j,none⟩=some u)→
  (loadCellsFrom ⟨b,off,none⟩ i vs.length acc).run P w= .ok (acc++vs.toArray) w
 | [],off,i,acc,h=>by simp [loadCellsFrom]
 |v::vs,off,i,acc,h=>by
  have h0:=h 0 v rfl;have ih:=lC (w:=w) (b:=b) vs off (i+1) (acc.push v) (fun j u hu=>by have:=h (j+1) u (by simpa using hu);rw [show off+(i+1)+j=off+i+(j+1)from by omega];exact this)
  simp only [Nat.add_zero]at h0;simp only [AL,loadCellsFrom,Addr.add_lit];simp [oO h0,ih]
theorem Ox {w:World} {t:TypeId} {b off:Nat} (h:CM P t=true) (vs:List Value) (hl:Ak P t=true→vs.length=P.cellsOf t) (Bl:Ak P t=false→vs.length=1)
  (hc: ∀j u,vs[j]?=some u→w.cell? ⟨b,off+j,none⟩=some u):(Instr.loadAt t (.pointer (some ⟨b,off,none⟩))).run P w= .ok (if Ak P t then .agg vs.toArray else vs.headD undef) w:=by
 simp only [Instr.loadAt,Instr.sureAddr,loadVar];cases ha:Ak P t with
 |true=>have:=lC (P:=P) (w:=w) (b:=b) vs off 0 #[] (by simpa using hc);rw [hl ha]at this;simp [Sl h,ha,Mr h,loadCells,this]
 |false=>obtain⟨v,rfl⟩:=List.length_eq_one_iff.1 (Bl ha);have:=hc 0 v rfl;simp only [Nat.add_zero]at this;simp [Sl h,ha,oO this,this]
theorem SR.ptrOff {s s':SV} {v:Value} {k:Nat} (h:SR c [s] [v]) (hv: ∀t g m q y i sz p,s= .vptr t g m q y i sz p→c.E t=m) (hp:Go.Proofs.YtmbknelgbjlhnaaGreat.ptrOff s k=some s'): ∃b off,v= .pointer (some ⟨b,off,none⟩)∧SR c [s'] [.pointer (some ⟨b,off+k,none⟩)]:=by
 cases h with
 |cy h1 h2 _=>simp [Go.Proofs.YtmbknelgbjlhnaaGreat.ptrOff]at hp;subst hp;exact⟨_,_,rfl, .cy h1 h2 .nil⟩
 |da h1 h2 h3 h4 h5 _=>simp [Go.Proofs.YtmbknelgbjlhnaaGreat.ptrOff]at hp;subst hp;have:=SR.da (c:=c) (sz:=‹_›) (o:=‹_›) h1 h2 h3 h4 h5 .nil;refine⟨_,_,rfl, ?_⟩;rw [Nat.add_assoc];exact .da h1 h2 h3 h4 h5 .nil
 |dv h1 h2 h3 h4 h5 h6 _=>simp [Go.Proofs.YtmbknelgbjlhnaaGreat.ptrOff]at hp;subst hp;exact⟨_,_,rfl,by rw [Nat.add_assoc];exact .dv h1 h2 h3 h4 h5 h6 .nil⟩
 |dt h1 h2 _=>simp [Go.Proofs.YtmbknelgbjlhnaaGreat.ptrOff]at hp;subst hp;exact⟨_,_,rfl, .dt h1 h2 .nil⟩
 |vptr h1 h2 h3 _=>simp [Go.Proofs.YtmbknelgbjlhnaaGreat.ptrOff]at hp;subst hp;obtain⟨b,off,len,cap,kk,kv,q1,q2,q3,q4,q5,q6,rfl⟩:=h3 (hv _ _ _ _ _ _ _ _ rfl);exact⟨_,_,rfl, .vptr h1 h2 (fun _=>⟨b,off,len,cap,kk,kv,q1,q2,q3,q4,q5,q6,by rw [Nat.add_assoc]⟩) .nil⟩
 |_=>simp [Go.Proofs.YtmbknelgbjlhnaaGreat.ptrOff]at hp
theorem SR.asPtr {s:SV} {v:Value} (h:SR c [s] [v]) (hc: ∀q∈(Go.Proofs.YtmbknelgbjlhnaaGreat.asPtr s).2,q.den c.ρ):SR c [(Go.Proofs.YtmbknelgbjlhnaaGreat.asPtr s).1] [v]:=by
 cases s with
 |e x=>
  cases h with
  |e h1 h2 _=>obtain⟨y,hy,_⟩:=BD hc;obtain⟨b,rfl⟩:=jW h1 hy;exact .dt h1 h2 .nil
 |_=>exact h
theorem zrn (h:A6 P c n nx sl hp a sl0 hp0 o gs) {t:TypeId} {x:Operand} {f:Nat} (ho:o.op= .fieldAddr t x f) {e:AP} {sg:BB} {nv:Nat} (he:Bg P sg sl0 hp0 nv nx gs o=some e) (hc: ∀q∈e.c6,Cn.den c.ρ q):As P o c n nx sl hp gs a e:=by
 have hm:x∈o.op.operands:=by simp [ho,Op.operands]
 simp only [Bg,ho,Ao]at he;obtain⟨s,hs,he⟩:=he;have hr:=h.de hs hm;split at he
 ·rename_i fs hu;split at he
  ·rename_i fd hf;split at he
   ·cases he
   ·rename_i hz;simp only [not_or,Bool.not_eq_true',Bool.not_eq_false]at hz;obtain⟨hz,tB⟩:=hz;obtain⟨s',AY,rfl⟩:=An.1 he;obtain⟨b,off,hv,C6⟩:=(hr.asPtr hc).ptrOff (fun t g m q y i sz p hh=>OT (t:=t) h.eh h.gs (by
     cases s with
     |vptr=>simp only [asPtr,SV.vptr.injEq]at hh;obtain⟨rfl,_,rfl,_⟩:=hh;exact tB
     |e=>simp [asPtr]at hh
     |_=>simp [asPtr]at hh)) AY
    refine As.pure h ?_ C6 rfl;simp [execOp,ho,Instr.fieldAt,run_underlying hu,hf,hv,Instr.sureAddr,fieldPlace,nQ hz,hz,Addr.add_lit]
  ·cases he
 ·cases he
theorem Sc {sz:Nat}: ∀(ys:List AV),(∀y∈ys,y.cells.length=sz)→ ∀k y,ys[k]?=some y→ ∀o m,o+m≤sz→((AM ys).drop (k*sz+o)).take m=(y.cells.drop o).take m
 | [],_,k,y,h,_,_,_=>by simp at h
 |z::ys,hs,0,y,h,o,m,hm=>by simp at h;subst h;have hz:=hs z (by simp);simp only [AM,List.flatMap_cons,Nat.zero_mul,Nat.zero_add];rw [List.drop_append_of_le_length (by omega),List.take_append_of_le_length (by simp;omega)]
 |z::ys,hs,k+1,y,h,o,m,hm=>by have hz:=hs z (by simp);have ih:=Sc ys (fun q hq=>hs q (by simp [hq])) k y (by simpa using h) o m hm;rw [←ih];simp only [AM,List.flatMap_cons];rw [show(k+1)*sz+o=z.cells.length+(k*sz+o)from by rw [hz,Nat.add_mul];omega,List.drop_append,List.drop_eq_nil_of_le (by omega)];simp
theorem OJ {sz:Nat}: ∀(ys:List AV),(∀y∈ys,y.cells.length=sz)→(AM ys).length=ys.length*sz
 | [],_=>by simp [AM]
 |z::ys,hs=>by have:=OJ ys (fun q hq=>hs q (by simp [hq]));simp only [AM,List.flatMap_cons,AG,AL]at this ⊢;rw [this,hs z (by simp),Nat.add_mul];omega
theorem Lf {xs:List AV} {k:Nat} (h:k<xs.length):xs[k]?=some ((AV.sl xs).nth k):=by simp [AV.nth,h]
theorem Rd.jd {w:World} {vs:List Value} {x:AV} {f:List Nat} (h:Rd w vs x.cells f) (h9: ∀u∈vs,u.oneCell'=true) (o m:Nat) (g:Bool) (hm:o+m≤x.cells.length) (h1:g=false→m=1):
  ∃q,(∀b∈q,b∈f)∧Rd w [if g then .agg ((vs.drop o).take m).toArray else((vs.drop o).take m).headD undef] [x.fld o m g] q:=by
 obtain⟨q,hq,hr⟩:=h.piece o m;cases g with
 |true=>exact⟨q,hq,by have:=Rd.agg (fun u hu=>h9 u (List.mem_of_mem_drop (List.mem_of_mem_take hu))) hr .nil;simpa [AV.fld]using this⟩
 |false=>
  have:=h1 rfl;subst this;have hl:=h.len;have e1:(vs.drop o).take 1= [vs[o]'(by omega)]:=by rw [List.drop_eq_getElem_cons (by omega),List.take_succ_cons,List.take_zero]
  have e2:(x.cells.drop o).take 1= [x.cells[o]'(by omega)]:=by rw [List.drop_eq_getElem_cons (by omega),List.take_succ_cons,List.take_zero]
  rw [e1,e2]at hr;refine⟨q,hq, ?_⟩;simpa [e1,AV.fld,show o<x.cells.length by omega]using hr
theorem eF {w:World} {b off len cap:Nat} {xs:AV} {f:List Nat} {t:TypeId} {k sz fo:Nat} (hr:Rd w [.slice (some ⟨b,off,none⟩) len cap] [xs] f) (hk:k<len) (B3:(xs.nth k).cells.length=sz) (ht:CM P t=true) (hfo:fo+P.cellsOf t≤sz) (hg:Ak P t=true∨P.cellsOf t=1):
  ∃v q,(Instr.loadAt t (.pointer (some ⟨b,off+k*sz+fo,none⟩))).run P w= .ok v w∧(∀c∈q,c∈f.tail)∧Rd w [v] [(xs.nth k).fld fo (P.cellsOf t) (Ak P t)] q:=by
 cases hr with
 |fb=>omega
 |gj hb h1 h2 h3 h4 h5 h6 FF h7 h8=>
  rename_i ys cs C ty fz sz' f1 f2;have hy:=Lf (xs:=ys) (k:=k) (by omega);have AY:sz'=sz:=by rw [←B3];exact(h4 _ (List.mem_of_getElem? hy)).symm
  subst AY;have Fq:=OJ ys h4;have Kx:(k+1)*sz'≤ys.length*sz':=Nat.mul_le_mul_right _ (by omega);rw [Nat.add_mul]at Kx;have hp:=Sc ys h4 k _ hy 0 sz' (by omega);obtain⟨q0,tC,IA⟩:=h7.piece (k*sz'+0) sz';rw [hp]at IA;have AA:(((AV.sl ys).nth k).cells.drop 0).take sz'=((AV.sl ys).nth k).cells:=by rw [List.drop_zero,List.take_of_length_le (by omega)]
  rw [AA]at IA;have hlen:=h7.len;obtain⟨q,hq,hv⟩:=IA.jd (fun u hu=>FF u (List.mem_of_mem_drop (List.mem_of_mem_take hu))) fo (P.cellsOf t) (Ak P t) (by omega) (fun h=>by rcases hg with h'|h';rw [h]at h';cases h';exact h');have Bp:(((cs.drop (k*sz'+0)).take sz').drop fo).take (P.cellsOf t)=(cs.drop (k*sz'+fo)).take (P.cellsOf t):=by rw [List.drop_take,List.take_take,List.drop_drop,Nat.add_zero,Nat.min_eq_left (by omega)]
  rw [Bp]at hv;have Ky:((cs.drop (k*sz'+fo)).take (P.cellsOf t)).length=P.cellsOf t:=by rw [List.length_take,List.length_drop];omega
  refine⟨_,q,Ox ht ((cs.drop (k*sz'+fo)).take (P.cellsOf t)) (fun _=>Ky) (fun h=> ?_) (fun j u hu=> ?_),fun z hz=> ?_,hv⟩
  ·rw [Ky];rcases hg with h'|h';rw [h]at h';cases h';exact h'
  ·rw [D1 hb];rw [List.getElem?_take]at hu;split at hu
   ·rw [List.getElem?_drop]at hu;have:=h6 _ _ hu;rw [←this];congr 1;omega
   ·cases hu
  ·have:=tC z (hq z hz);simp [this]
end
abbrev JK:=List AV→Prop
abbrev LK:=List JK→Xt→St→List AV→Prop
def HB (body:JK→List AV→Prop):Nat→List AV→Prop
 |0,_=>False
 |n+1,vs=>body (HB body n) vs
section
variable (Rt:Nat→List AV→AV→Prop) (R:AV→Prop)
def G6 (f:Nat ⊕ E) (args:List AV) (ρ:List AV) (r:AV):Prop:=
 match f with
 | .inl f=>Rt f args r
 | .inr x=> ∃g caps,x.den ρ= .fn g caps∧Rt (1000000+g) (args++caps) r∧ ∀y∈r.cells,y.scalar=true
def Tr.den:Tr→LK→List JK→List AV→Prop
 | .leaf x σ,L,js,ρ=>L js x σ ρ
 | .ret r,_,_,ρ=>R (r.den ρ)
 | .jmp d es,_,js,ρ=>match js[d]? with|some j=>j (es.den ρ)|none=>False
 | .ite c a b,L,js,ρ=> ∃t,c.den ρ= .bool t∧(t=true→a.den L js ρ)∧(t=false→b.den L js ρ)
 | .c6 gs c k,L,js,ρ=>(A1 ρ gs→c.den ρ)∧k.den L js ρ
 | .call gs f args k,L,js,ρ=> ∃r,(A1 ρ gs→G6 Rt f (args.den ρ) ρ r)∧k.den L js (ρ++ [r])
 | .cq gs x k,L,js,ρ=> ∀b,(A1 ρ gs→b=true→x.den ρ= .sl [])→k.den L js (ρ++ [.bool b])
 | .stuck,_,_,_=>False
 | .join t k,L,js,ρ=>t.den L ((fun vs=>k.den L js (ρ++vs))::js) ρ
 | .loop i b k,L,js,ρ=> ∃n,HB (fun W vs=>b.den L (W::(fun us=>k.den L js (ρ++us))::js) (ρ++vs)) n (i.den ρ)
end
def Tr.fj:Tr→Xt→St→Prop
 | .leaf x σ,y,τ=>x=y∧σ=τ
 | .ret _,_,_=>False
 | .jmp ..,_,_=>False
 | .stuck,_,_=>False
 | .ite _ a b,y,τ=>a.fj y τ∨b.fj y τ
 | .c6 _ _ k,y,τ=>k.fj y τ
 | .call _ _ _ k,y,τ=>k.fj y τ
 | .cq _ _ k,y,τ=>k.fj y τ
 | .join t k,y,τ=>t.fj y τ∨k.fj y τ
 | .loop _ b k,y,τ=>b.fj y τ∨k.fj y τ
theorem Tr.fj.norm {t:Tr} {τ:St} (h:t.fj .normal τ):τ∈t.dj:=by
 induction t with
 |leaf x σ=>obtain⟨rfl,rfl⟩:=h;simp [Tr.dj]
 |ret|jmp|stuck=>exact h.elim
 |ite c a b iha ihb=>simp only [Tr.dj,Ag];exact h.imp iha ihb
 |c6 _ _ k ih|call _ _ _ k ih|cq _ _ k ih=>exact ih h
 |join t k iht ihk=>simp only [Tr.dj,Ag];exact h.imp iht ihk
 |loop _ b k ihb ihk=>simp only [Tr.dj,Ag];exact h.imp ihb ihk
inductive Dn:List JK→List JK→Prop where
 |nil:Dn [] []
 |cons {j j' js js'}:(∀vs,j vs→j' vs)→Dn js js'→Dn (j::js) (j'::js')
theorem Dn.refl: ∀js,Dn js js
 | []=> .nil
 |_::js=> .cons (fun _ h=>h) (Dn.refl js)
theorem Dn.get {js js':List JK} (h:Dn js js'): ∀{d:Nat} {j:JK},js[d]?=some j→ ∃j',js'[d]?=some j'∧ ∀vs,j vs→j' vs:=by
 induction h with
 |nil=>intro d j hd;simp at hd
 |cons h1 _ ih=>
  intro d j hd;cases d with
  |zero=>simp at hd;subst hd;exact⟨_,rfl,h1⟩
  |succ d=>simpa using ih (by simpa using hd)
theorem Dn.app {a b c d:List JK} (h:Dn a b) (k:Dn c d):Dn (a++c) (b++d):=by
 induction h with
 |nil=>exact k
 |cons h1 _ ih=>exact .cons h1 ih
theorem Dn.len {a b:List JK} (h:Dn a b):a.length=b.length:=by induction h<;>simp_all
theorem dR {b b':JK→List AV→Prop} (h: ∀W W',(∀vs,W vs→W' vs)→ ∀vs,b W vs→b' W' vs): ∀n vs,HB b n vs→HB b' n vs
 |0,_,hh=>hh.elim
 |n+1,vs,hh=>h _ _ (dR h n) vs hh
def Iv (L:LK):Prop:= ∀js js' x τ ρ,Dn js js'→L js x τ ρ→L js' x τ ρ
section
variable {Rt:Nat→List AV→AV→Prop} {R:AV→Prop}
theorem Tr.fq (t:Tr): ∀{L L':LK} {js js':List JK} {ρ:List AV},t.den Rt R L js ρ→Dn js js'→
  (∀i i' x τ ρ',t.fj x τ→Dn i i'→L (i++js) x τ ρ'→L' (i'++js') x τ ρ')→t.den Rt R L' js' ρ:=by
 induction t with
 |leaf x σ=>intro L L' js js' ρ h hj hl;exact hl [] [] x σ ρ ⟨rfl,rfl⟩ .nil h
 |ret r=>intro L L' js js' ρ h hj hl;exact h
 |stuck=>intro L L' js js' ρ h hj hl;exact h
 |jmp d es=>
  intro L L' js js' ρ h hj hl;simp only [Tr.den]at h ⊢;cases hd:js[d]? with
  |none=>rw [hd]at h;exact h.elim
  |some j=>rw [hd]at h;obtain⟨j',Jp,sE⟩:=hj.get hd;rw [Jp];exact sE _ h
 |ite c a b iha ihb=>intro L L' js js' ρ h hj hl;obtain⟨t,h1,h2,h3⟩:=h;exact⟨t,h1,fun ht=>iha (h2 ht) hj fun i i' x τ ρ' hf=>hl i i' x τ ρ' (.inl hf),fun ht=>ihb (h3 ht) hj fun i i' x τ ρ' hf=>hl i i' x τ ρ' (.inr hf)⟩
 |c6 gs c k ih=>intro L L' js js' ρ h hj hl;exact⟨h.1,ih h.2 hj hl⟩
 |call gs f args k ih=>intro L L' js js' ρ h hj hl;obtain⟨r,h1,h2⟩:=h;exact⟨r,h1,ih h2 hj hl⟩
 |cq gs x k ih=>intro L L' js js' ρ h hj hl;exact fun b hb=>ih (h b hb) hj hl
 |join t k iht ihk=>intro L L' js js' ρ h hj hl;refine iht (js':=(fun vs=>k.den Rt R L' js' (ρ++vs))::js') h (.cons (fun vs hv=>ihk hv hj fun i i' x τ ρ' hf=>hl i i' x τ ρ' (.inr hf)) hj) fun i i' x τ ρ' hf hi hL=> ?_;have:=hl (i++ [_]) (i'++ [_]) x τ ρ' (.inl hf) (hi.app (.cons (fun vs hv=>ihk hv hj fun i i' x τ ρ' hf=>hl i i' x τ ρ' (.inr hf)) .nil)) (by simpa using hL);simpa using this
 |loop i0 b k ihb ihk=>intro L L' js js' ρ h hj hl;obtain⟨n,hn⟩:=h;refine⟨n,dR (fun W W' hW vs hv=> ?_) n _ hn⟩;have hk: ∀us,k.den Rt R L js (ρ++us)→k.den Rt R L' js' (ρ++us):=fun us hu=>ihk hu hj fun i i' x τ ρ' hf=>hl i i' x τ ρ' (.inr hf);refine ihb hv (.cons hW (.cons hk hj)) fun i i' x τ ρ' hf hi hL=> ?_;have:=hl (i++ [W,_]) (i'++ [W',_]) x τ ρ' (.inl hf) (hi.app (.cons hW (.cons hk .nil))) (by simpa using hL);simpa using this
theorem Tr.gq (t:Tr) {L:LK} (hL:Iv L) {js js':List JK} {ρ:List AV} (h:t.den Rt R L js ρ) (hj:Dn js js'):t.den Rt R L js' ρ:=
 t.fq h hj fun _ _ x τ ρ' _ hi hl=>hL _ _ x τ ρ' (hi.app hj) hl
def T4 (Rt:Nat→List AV→AV→Prop) (R:AV→Prop) (f:Nat→Xt→St→Option Tr) (L:LK) (m d:Nat):LK:=fun js x τ ρ=> ∃r d',f d' x τ=some r∧js.length+d=m+d'∧r.den Rt R L js ρ
theorem Sk {f:Nat→Xt→St→Option Tr} {L:LK} (hL:Iv L) (m d:Nat):Iv (T4 Rt R f L m d):=by rintro js js' x τ ρ hj ⟨r,d',h1,h2,h3⟩;exact⟨r,d',h1,by rw [←hj.len];exact h2,r.gq hL h3 hj⟩
theorem Tr.fm (f:Nat→Xt→St→Option Tr) {L:LK} (hL:Iv L) (t:Tr): ∀{d:Nat} {t':Tr} {js:List JK} {ρ:List AV},t.sub f d=some t'→t'.den Rt R L js ρ→t.den Rt R (T4 Rt R f L js.length d) js ρ:=by
 induction t with
 |leaf x σ=>intro d t' js ρ h hd;exact⟨t',d,h,rfl,hd⟩
 |ret r=>intro d t' js ρ h hd;simp only [Tr.sub,Ab]at h;subst h;exact hd
 |stuck=>intro d t' js ρ h hd;simp only [Tr.sub,Ab]at h;subst h;exact hd
 |jmp i es=>intro d t' js ρ h hd;simp only [Tr.sub,Ab]at h;subst h;exact hd
 |ite c a b iha ihb=>
  intro d t' js ρ h hd;simp only [Tr.sub]at h;split at h
  ·rename_i x y hx hy;simp at h;subst h;obtain⟨t,h1,h2,h3⟩:=hd;exact⟨t,h1,fun ht=>iha hx (h2 ht),fun ht=>ihb hy (h3 ht)⟩
  ·cases h
 |c6 g c k ih=>intro d t' js ρ h hd;obtain⟨k',hk,rfl⟩:=An.1 h;exact⟨hd.1,ih hk hd.2⟩
 |call g h0 as_ k ih=>intro d t' js ρ h hd;obtain⟨k',hk,rfl⟩:=An.1 h;obtain⟨r,h1,h2⟩:=hd;exact⟨r,h1,ih hk h2⟩
 |cq g x k ih=>intro d t' js ρ h hd;obtain⟨k',hk,rfl⟩:=An.1 h;exact fun b hb=>ih hk (hd b hb)
 |join t k iht ihk=>
  intro d t' js ρ h hd;simp only [Tr.sub]at h;split at h
  ·rename_i x y hx hy;simp at h;subst h;have h1:=iht hx hd;have hk: ∀vs,y.den Rt R L js (ρ++vs)→k.den Rt R (T4 Rt R f L js.length d) js (ρ++vs):=fun vs hv=>ihk hy hv;refine t.fq h1 (.cons hk (Dn.refl js)) fun i i' x τ ρ' _ hi hl=> ?_;obtain⟨r,d',e1,e2,e3⟩:=hl;refine⟨r,d',e1, ?_,r.gq hL e3 (hi.app (.cons hk (Dn.refl js)))⟩;have:=hi.len;simp only [AG,AL]at e2 ⊢;omega
  ·cases h
 |loop i0 b k ihb ihk=>
  intro d t' js ρ h hd;simp only [Tr.sub]at h;split at h
  ·rename_i x y hx hy;simp at h;subst h;obtain⟨n,hn⟩:=hd;refine⟨n,dR (fun W W' hW vs hv=> ?_) n _ hn⟩;have h1:=ihb hx hv;have hk: ∀vs,y.den Rt R L js (ρ++vs)→k.den Rt R (T4 Rt R f L js.length d) js (ρ++vs):=fun vs hv=>ihk hy hv;refine b.fq h1 (.cons hW (.cons hk (Dn.refl js))) fun i i' x τ ρ' _ hi hl=> ?_;obtain⟨r,d',e1,e2,e3⟩:=hl;refine⟨r,d',e1, ?_,r.gq hL e3 (hi.app (.cons hW (.cons hk (Dn.refl js))))⟩;have:=hi.len;simp only [AG,AL]at e2 ⊢;omega
  ·cases h
end
def Aj {α:Type} (xs:List α) (i:Int):Option α:=if 0≤i then xs[i.toNat]? else none
open Classical in
noncomputable def A0 {α:Type} (p:Prop) (k:Option α):Option α:= @ite _ p (propDecidable p) k none
def Eh {α:Type} (xs:List α) (lo hi:Int):List α:=(xs.take hi.toNat).drop lo.toNat
def Ew {σ α:Type} (body:σ→Option (σ ⊕ Option α)):Nat→σ→Option α
 |0,_=>none
 |n+1,s=>match body s with
  |none=>none
  |some (.inl s')=>Ew body n s'
  |some (.inr o)=>o
theorem nE {σ α:Type} {body:σ→Option (σ ⊕ Option α)}: ∀{n:Nat} {s:σ} {r:α},Ew body n s=some r→Ew body (n+1) s=some r
 |0,_,_,h=>by cases h
 |n+1,s,r,h=>by
  rcases hb:body s with _|s'|o
  ·simp [Ew,hb]at h
  ·have h':Ew body n s'=some r:=by simpa [Ew,hb]using h
   have:=nE h';simp only [Ew,hb]at this ⊢;exact this
  ·have h':o=some r:=by simpa [Ew,hb]using h
   simp [Ew,hb,h']
theorem oU {σ α:Type} {body:σ→Option (σ ⊕ Option α)} {n m:Nat} (hm:n≤m) {s:σ} {r:α} (h:Ew body n s=some r):Ew body m s=some r:=by
 induction hm with
 |refl=>exact h
 |step _ ih=>exact nE ih
open Classical in
noncomputable def Aq {σ α:Type} (body:σ→Option (σ ⊕ Option α)) (s:σ):Option α:=
 if h: ∃n r,Ew body n s=some r then some (Classical.choose (Classical.choose_spec h))else none
theorem W0 {σ α:Type} {body:σ→Option (σ ⊕ Option α)} {s:σ} {r:α}:Aq body s=some r↔ ∃n,Ew body n s=some r:=by
 unfold Aq;constructor
 ·intro h;split at h
  ·rename_i hx;simp only [Ab]at h;exact⟨_,h▸Classical.choose_spec (Classical.choose_spec hx)⟩
  ·cases h
 ·rintro⟨n,hn⟩;have hx: ∃n r,Ew body n s=some r:=⟨n,r,hn⟩
  rw [dif_pos hx];have h2:=Classical.choose_spec (Classical.choose_spec hx);have h3:=oU (Nat.le_max_left n (Classical.choose hx)) hn;have h4:=oU (Nat.le_max_right n (Classical.choose hx)) h2;rw [h3]at h4;exact h4.symm
theorem G0 {σ α:Type} (body:σ→Option (σ ⊕ Option α)) (s:σ):Aq body s=match body s with|none=>none|some (.inl s')=>Aq body s'|some (.inr o)=>o:=by
 apply Option.ext;intro r;rw [W0];constructor
 ·rintro⟨n,hn⟩;cases n with
  |zero=>cases hn
  |succ n=>
   rcases hb:body s with _|s'|o
   ·simp [Ew,hb]at hn
   ·exact W0.2 ⟨n,by simpa [Ew,hb]using hn⟩
   ·simpa [Ew,hb]using hn
 ·intro h;rcases hb:body s with _|s'|o
  ·simp [hb]at h
  ·simp only [hb]at h;obtain⟨n,hn⟩:=W0.1 h;exact⟨n+1,by simpa [Ew,hb]using hn⟩
  ·exact⟨1,by simpa [Ew,hb]using h⟩
def Tf {σ α:Type} (t:Option (σ ⊕ Option α)) (k:σ→Option α):Option α:=match t with
 |none=>none
 |some (.inl s)=>k s
 |some (.inr o)=>o
theorem Pf {α β:Type} {o:Option α} {k:α→Option β} {r:β} (h:o.bind k=some r): ∃x,o=some x∧k x=some r:=by
 cases o with
 |none=>cases h
 |some x=>exact⟨x,rfl,h⟩
theorem HD {α:Type} {p:Prop} {k:Option α} {r:α} (h:A0 p k=some r):p∧k=some r:=by
 unfold A0 at h;split at h
 ·exact⟨‹_›,h⟩
 ·cases h
theorem TZ {α:Type} {xs:List α} {i:Int} {x:α} (h:Aj xs i=some x):0≤i∧i<xs.length∧xs[i.toNat]?=some x:=by
 unfold Aj at h;split at h
 ·rename_i h0;have:=(List.getElem?_eq_some_iff.1 h).1;exact⟨h0,by omega,h⟩
 ·cases h
end Go.Proofs.YtmbknelgbjlhnaaGreat
end
section
namespace Go.Proofs.YtmbknelgbjlhnaaGreat
open Go.RowKit
inductive Ty where
 |i (k:IntKind)
 |b
 |s
 |l (t:Ty)
 |st (n:Nat)
@[reducible] def CZ (car:Nat→Type):Ty→Type
 | .i _=>Int
 | .b=>Bool
 | .s=>List UInt8
 | .l t=>List (CZ car t)
 | .st n=>car n
@[reducible] def HL (car:Nat→Type):List Ty→Type
 | []=>Unit
 |t::ts=>CZ car t × HL car ts
def Bn {car:Nat→Type} (av: ∀n,car n→AV):(t:Ty)→CZ car t→AV
 | .i k,n=> .int k n
 | .b,x=> .bool x
 | .s,x=> .str x
 | .l t,xs=> .sl (xs.map (Bn av t))
 | .st n,x=>av n x
def GB {car:Nat→Type} (av: ∀n,car n→AV):(ts:List Ty)→HL car ts→List AV
 | [],_=> []
 |t::ts,x=>Bn av t x.1::GB av ts x.2
structure MX (car:Nat→Type) (aa:List Ty) (r:Ty)where
 φ:HL car aa→Option (CZ car r)
 g:Nat
 caps:List AV
structure Hi where
 Rt:Nat→List AV→AV→Prop
 car:Nat→Type
 av: ∀n,car n→AV
 tys:Nat→List Ty
 out: ∀n,car n→HL car (tys n)
 ni: ∀n,HL car (tys n)→car n
 iy: ∀n x,av n x= .agg (GB av (tys n) (out n x))
 m4: ∀n h,out n (ni n h)=h
def Ty.mb:(x y:Ty)→Option (PLift (x=y))
 | .i k, .i k'=>if h:k=k' then some ⟨by rw [h]⟩else none
 | .b, .b=>some ⟨rfl⟩
 | .s, .s=>some ⟨rfl⟩
 | .l x, .l y=>match Ty.mb x y with
  |some ⟨h⟩=>some ⟨by rw [h]⟩
  |none=>none
 | .st n, .st m=>if h:n=m then some ⟨by rw [h]⟩else none
 |_,_=>none
section
variable (T:Hi)
def kT (aa:List Ty) (r:Ty) (c:MX T.car aa r):Prop:= ∀ys z,c.φ ys=some z→T.Rt (1000000+c.g) (GB T.av aa ys++c.caps) (Bn T.av r z)
mutual
inductive V where
 |v (t:Ty) (x:CZ T.car t)
 |nl
 |li (vs:VL)
 |rp (n:Int) (z:V)
 |ag (vs:VL)
 |tu (vs:VL)
 |rf (x:V)
 |cl (f:Nat) (vs:VL)
 |pf (aa:List Ty) (r:Ty) (c:MX T.car aa r) (h:kT T aa r c)
 |no
inductive VL where
 |nil
 |cons (x:V) (vs:VL)
end
end
variable {T:Hi}
def VL.app:VL T→VL T→VL T
 | .nil,b=>b
 | .cons x a,b=> .cons x (a.app b)
def VL.ey:VL T→List (V T)
 | .nil=> []
 | .cons x a=>x::a.ey
def VL.of:List (V T)→VL T
 | []=> .nil
 |x::a=> .cons x (VL.of a)
mutual
def V.den:V T→AV
 | .v t x=>Bn T.av t x
 | .nl=> .sl []
 | .li vs=> .sl vs.den
 | .rp n z=> .sl (List.replicate n.toNat z.den)
 | .ag vs=> .agg vs.den
 | .tu vs=> .tup vs.den
 | .rf x=> .ref x.den
 | .cl f vs=> .fn f vs.den
 | .pf _ _ c _=> .fn c.g c.caps
 | .no=> .undef
def VL.den:VL T→List AV
 | .nil=> []
 | .cons x vs=>x.den::vs.den
end
theorem VL.den_app: ∀(a b:VL T),(a.app b).den=a.den++b.den
 | .nil,b=>rfl
 | .cons x a,b=>by simp [VL.app,VL.den,VL.den_app a b]
theorem VL.br: ∀(a:VL T),a.ey.map V.den=a.den
 | .nil=>rfl
 | .cons x a=>by simp [VL.ey,VL.den,VL.br a]
theorem VL.du: ∀(a:List (V T)),(VL.of a).den=a.map V.den
 | []=>rfl
 |x::a=>by simp [VL.of,VL.den,VL.du a]
theorem VL.dz (a:VL T):a.ey.length=a.den.length:=by rw [←VL.br];simp
mutual
def V.to:V T→(t:Ty)→Option (CZ T.car t)
 | .v a x,t=>match Ty.mb a t with
  |some ⟨h⟩=>some (h▸x)
  |none=>none
 | .nl, .l _=>some []
 | .li vs, .l t=>vs.gz t
 | .rp n z, .l t=>match z.to t with
  |some x=>some (List.replicate n.toNat x)
  |none=>none
 | .ag vs, .st n=>match vs.ln (T.tys n)with
  |some h=>some (T.ni n h)
  |none=>none
 |_,_=>none
def VL.gz:VL T→(t:Ty)→Option (List (CZ T.car t))
 | .nil,_=>some []
 | .cons x vs,t=>match x.to t,vs.gz t with
  |some y,some ys=>some (y::ys)
  |_,_=>none
def VL.ln:VL T→(ts:List Ty)→Option (HL T.car ts)
 | .nil, []=>some ()
 | .cons x vs,t::ts=>match x.to t,vs.ln ts with
  |some y,some ys=>some (y,ys)
  |_,_=>none
 |_,_=>none
end
mutual
theorem V.cz: ∀(v:V T) {t:Ty} {x:CZ T.car t},v.to t=some x→v.den=Bn T.av t x
 | .v a y,t,x,h=>by
  simp only [V.to]at h;split at h
  ·rename_i e _;cases e;cases h;rfl
  ·cases h
 | .nl, .l _,x,h=>by cases h;rfl
 | .nl, .i _,x,h| .nl, .b,x,h| .nl, .s,x,h| .nl, .st _,x,h=>by simp [V.to]at h
 | .li vs, .l t,x,h=>by simp only [V.to]at h;simp only [V.den,Bn];rw [VL.fy vs h]
 | .li _, .i _,x,h| .li _, .b,x,h| .li _, .s,x,h| .li _, .st _,x,h=>by simp [V.to]at h
 | .rp n z, .l t,x,h=>by
  simp only [V.to]at h;split at h
  ·rename_i y hy;cases h;simp [V.den,Bn,V.cz z hy]
  ·cases h
 | .rp _ _, .i _,x,h| .rp _ _, .b,x,h| .rp _ _, .s,x,h| .rp _ _, .st _,x,h=>by simp [V.to]at h
 | .ag vs, .st n,x,h=>by
  simp only [V.to]at h;split at h
  ·rename_i y hy;cases h;simp only [V.den,Bn];rw [T.iy,T.m4,VL.gv vs hy]
  ·cases h
 | .ag _, .i _,x,h| .ag _, .b,x,h| .ag _, .s,x,h| .ag _, .l _,x,h=>by simp [V.to]at h
 | .tu _,t,x,h| .rf _,t,x,h| .cl _ _,t,x,h| .pf ..,t,x,h| .no,t,x,h=>by cases t<;>simp [V.to]at h
theorem VL.fy: ∀(vs:VL T) {t:Ty} {xs:List (CZ T.car t)},vs.gz t=some xs→vs.den=xs.map (Bn T.av t)
 | .nil,t,xs,h=>by cases h;rfl
 | .cons x vs,t,xs,h=>by
  simp only [VL.gz]at h;split at h
  ·rename_i y ys h1 h2;cases h;simp [VL.den,V.cz x h1,VL.fy vs h2]
  ·cases h
theorem VL.gv: ∀(vs:VL T) {ts:List Ty} {xs:HL T.car ts},vs.ln ts=some xs→vs.den=GB T.av ts xs
 | .nil, [],xs,h=>by cases h;rfl
 | .nil,_::_,xs,h=>by simp [VL.ln]at h
 | .cons _ _, [],xs,h=>by simp [VL.ln]at h
 | .cons x vs,t::ts,xs,h=>by
  simp only [VL.ln]at h;split at h
  ·rename_i y ys h1 h2;cases h;simp [VL.den,GB,V.cz x h1,VL.gv vs h2]
  ·cases h
end
def T6:(ts:List Ty)→HL T.car ts→VL T
 | [],_=> .nil
 |t::ts,x=> .cons (.v t x.1) (T6 ts x.2)
theorem pN: ∀(ts:List Ty) (x:HL T.car ts),(T6 ts x).den=GB T.av ts x
 | [],_=>rfl
 |t::ts,x=>by simp [T6,VL.den,V.den,GB,pN ts x.2]
def V.lv:V T→Option (VL T)
 | .v (.st n) x=>some (T6 (T.tys n) (T.out n x))
 | .ag vs=>some vs
 |_=>none
theorem V.dr {v:V T} {vs:VL T} (h:v.lv=some vs):v.den= .agg vs.den:=by
 unfold V.lv at h;split at h
 ·cases h;simp only [V.den,Bn];rw [T.iy,pN]
 ·cases h;rfl
 ·cases h
def V.one:V T→Bool
 | .v (.st _) _=>false
 | .v _ _=>true
 | .nl| .li _| .rp _ _=>true
 |_=>false
theorem V.one_cells {v:V T} (h:v.one=true):v.den.cells= [v.den]∧(∀cs,v.den≠ .agg cs)∧(∀cs,v.den≠ .tup cs):=by
 cases v with
 |v t x=>cases t<;>first|(simp [V.one]at h;done)|(refine⟨rfl, ?_, ?_⟩<;>intro cs h'<;>cases h')
 |nl|li|rp=>simp [V.den,AV.cells]
 |ag|tu|rf|cl|pf|no=>simp [V.one]at h
def V.scalar:V T→Bool
 | .v (.i _) _| .v .b _| .v .s _=>true
 |_=>false
theorem V.fc {v:V T} (h:v.scalar=true):v.den.scalar=true:=by unfold V.scalar at h;split at h<;>first|rfl|cases h
def V.nc (v:V T):Option Nat:=match v.lv with
 |some vs=>some vs.ey.length
 |none=>if v.one then some 1 else none
theorem V.gk {v:V T} {n:Nat} (h:v.nc=some n):v.den.cells.length=n:=by
 unfold V.nc at h;split at h
 ·rename_i vs hv;cases h;rw [V.dr hv,VL.dz];rfl
 ·split at h
  ·rename_i h1;cases h;rw [(V.one_cells h1).1];rfl
  ·cases h
def V.flat (v:V T):Bool:=match v.lv with
 |some vs=>vs.ey.all V.scalar
 |none=>v.scalar
theorem V.gl {v:V T} (h:v.flat=true): ∀y∈v.den.cells,y.scalar=true:=by
 unfold V.flat at h;split at h
 ·rename_i vs hv;rw [V.dr hv];intro y hy;have:y∈vs.den:=hy;rw [←VL.br,List.mem_map]at this;obtain⟨x,hx,rfl⟩:=this;exact V.fc (A9.1 h x hx)
 ·have hs:=V.fc h;intro y hy;cases hd:v.den<;>rw [hd]at hs hy<;>simp [AV.scalar]at hs<;>(simp only [AV.cells,List.mem_singleton]at hy;subst hy;rfl)
def T0:Ty→Bool
 | .st _=>false
 |_=>true
def TS (T:Hi):Ty→Nat
 | .st n=>(T.tys n).length
 |_=>1
def gM (T:Hi):Ty→Bool
 | .st n=>(T.tys n).all fun t=>match t with| .i _| .b| .s=>true|_=>false
 | .i _| .b| .s=>true
 |_=>false
theorem pL {car:Nat→Type} (av: ∀n,car n→AV): ∀(ts:List Ty) (x:HL car ts),(GB av ts x).length=ts.length
 | [],_=>rfl
 |t::ts,x=>by simp [GB,pL av ts x.2]
theorem XF (t:Ty) (x:CZ T.car t):(Bn T.av t x).cells.length=TS T t:=by
 cases t with
 |st n=>simp only [Bn,TS];rw [T.iy];exact pL _ _ _
 |_=>rfl
theorem oF {car:Nat→Type} (av: ∀n,car n→AV): ∀(ts:List Ty) (x:HL car ts),(ts.all fun t=>match t with| .i _| .b| .s=>true|_=>false)=true→ ∀y∈GB av ts x,y.scalar=true
 | [],_,_,y,hy=>by cases hy
 |t::ts,x,h,y,hy=>by
  simp only [List.all_cons,Ac]at h;rcases Ae.1 hy with rfl|hy
  ·cases t<;>first|rfl|(simp at h)
  ·exact oF av ts x.2 h.2 y hy
theorem WW {t:Ty} (h:gM T t=true) (x:CZ T.car t): ∀y∈(Bn T.av t x).cells,y.scalar=true:=by
 cases t with
 |st n=>simp only [Bn];rw [T.iy];exact oF _ _ _ h
 |l t=>cases h
 |_=>intro y hy;simp only [Bn,AV.cells,List.mem_singleton]at hy;subst hy;rfl
def V.mr:V T→Nat→Bool
 | .v (.l t) _,n=>TS T t==n
 | .nl,_=>true
 | .li vs,n=>vs.ey.all fun v=>v.nc==some n
 | .rp _ z,n=>z.nc==some n
 |_,_=>false
def V.ir:V T→Bool
 | .v (.l t) _=>gM T t
 | .nl=>true
 | .li vs=>vs.ey.all V.flat
 | .rp _ z=>z.flat
 |_=>false
def V.m7:V T→Bool
 | .v (.l _) _| .nl| .li _| .rp _ _=>true
 |_=>false
theorem V.kr {v:V T} (h:v.m7=true): ∃xs,v.den= .sl xs:=by unfold V.m7 at h;split at h<;>first|exact⟨_,rfl⟩|cases h
theorem V.iu {v:V T} {n:Nat} (h:v.mr n=true): ∃xs,v.den= .sl xs∧ ∀y∈xs,y.cells.length=n:=by
 unfold V.mr at h;split at h
 ·simp only [beq_iff_eq]at h;refine⟨_,rfl,fun y hy=> ?_⟩;obtain⟨x,_,rfl⟩:=List.mem_map.1 hy;rw [XF,h]
 ·exact⟨_,rfl,by simp⟩
 ·rename_i vs _;refine⟨_,rfl,fun y hy=> ?_⟩;rw [←VL.br]at hy;obtain⟨x,hx,rfl⟩:=List.mem_map.1 hy;exact V.gk (by simpa using A9.1 h x hx)
 ·refine⟨_,rfl,fun y hy=> ?_⟩;rw [List.eq_of_mem_replicate hy];exact V.gk (by simpa using h)
 ·cases h
theorem V.iq {v:V T} (h:v.ir=true): ∃xs,v.den= .sl xs∧ ∀y∈xs,∀z∈y.cells,z.scalar=true:=by
 unfold V.ir at h;split at h
 ·refine⟨_,rfl,fun y hy=> ?_⟩;obtain⟨x,_,rfl⟩:=List.mem_map.1 hy;exact WW h x
 ·exact⟨_,rfl,by simp⟩
 ·rename_i vs;refine⟨_,rfl,fun y hy=> ?_⟩;rw [←VL.br]at hy;obtain⟨x,hx,rfl⟩:=List.mem_map.1 hy;exact V.gl (A9.1 h x hx)
 ·refine⟨_,rfl,fun y hy=> ?_⟩;rw [List.eq_of_mem_replicate hy];exact V.gl h
 ·cases h
def V.fld (v:V T) (o n:Nat) (g:Bool):Option (V T):=match v.lv with
 |some vs=>if g then(if o=0∧n=vs.ey.length then some v else if o+n≤vs.ey.length then some (.ag (.of ((vs.ey.drop o).take n)))else none)else vs.ey[o]?
 |none=>if g=false∧o=0∧v.one=true then some v else none
theorem V.kj {v x:V T} {o n:Nat} {g:Bool} (h:v.fld o n g=some x):v.den.fld o n g=x.den:=by
 unfold V.fld at h;split at h
 ·rename_i vs hv;rw [V.dr hv];cases g with
  |true=>
   simp only [if_true]at h;split at h
   ·rename_i h1;cases h;obtain⟨rfl,rfl⟩:=h1;rw [V.dr hv];simp [AV.fld,AV.cells,VL.dz]
   ·split at h
    ·cases h;simp only [AV.fld,AV.cells,if_true,V.den,VL.du];rw [←VL.br,List.map_take,List.map_drop]
    ·cases h
  |false=>simp only [Bu,if_false]at h;simp [AV.fld,AV.cells,←VL.br,h]
 ·split at h
  ·rename_i h1;cases h;obtain⟨rfl,rfl,h1⟩:=h1;simp [AV.fld,(V.one_cells h1).1]
  ·cases h
end Go.Proofs.YtmbknelgbjlhnaaGreat
end
section
namespace Go.Proofs.YtmbknelgbjlhnaaGreat
open Go.RowKit
variable {T:Hi}
inductive Fa (T:Hi)where
 |ix (x i:E) (v:V T)
 |sx (x i:E) (y:UInt8)
 |tx (y:E)
 |bo (c:E) (b:Bool)
def Fa.OK (ρ:List AV):Fa T→Prop
 | .ix x i v=> ∃k n xs,i.den ρ= .int k n∧x.den ρ= .sl xs∧0≤n∧n<xs.length∧xs[n.toNat]?=some v.den
 | .sx x i y=> ∃k n s,i.den ρ= .int k n∧x.den ρ= .str s∧0≤n∧n<s.length∧s[n.toNat]?=some y
 | .tx y=>(y.den ρ).text≠ .undef
 | .bo c b=>c.den ρ= .bool b
def Fa.sc (n:Nat):Fa T→Bool
 | .ix x i _=>x.sc n&&i.sc n
 | .sx x i _=>x.sc n&&i.sc n
 | .tx y=>y.sc n
 | .bo c _=>c.sc n
theorem Fa.move {f:Fa T} {ρ τ τ':List AV} (hs:f.sc ρ.length=true) (h:f.OK (ρ++τ)):f.OK (ρ++τ'):=by
 cases f with
 |ix x i v=>simp only [Fa.sc,Ac]at hs;simp only [Fa.OK]at h ⊢;rw [E.ar ρ τ' τ x hs.1,E.ar ρ τ' τ i hs.2];exact h
 |sx x i y=>simp only [Fa.sc,Ac]at hs;simp only [Fa.OK]at h ⊢;rw [E.ar ρ τ' τ x hs.1,E.ar ρ τ' τ i hs.2];exact h
 |tx y=>simp only [Fa.OK]at h ⊢;rw [E.ar ρ τ' τ y hs];exact h
 |bo c b=>simp only [Fa.OK]at h ⊢;rw [E.ar ρ τ' τ c hs];exact h
def Ja (x i:E):List (Fa T)→Option (V T)
 | []=>none
 | .ix y j v::l=>if y.beq x&&j.beq i then some v else Ja x i l
 |_::l=>Ja x i l
def O6 (x i:E):List (Fa T)→Option UInt8
 | []=>none
 | .sx y j v::l=>if y.beq x&&j.beq i then some v else O6 x i l
 |_::l=>O6 x i l
def DH (x:E):List (Fa T)→Bool
 | []=>false
 | .tx y::l=>y.beq x||DH x l
 |_::l=>DH x l
def Tm (c:E):List (Fa T)→Option Bool
 | []=>none
 | .bo d b::l=>if d.beq c then some b else Tm c l
 |_::l=>Tm c l
abbrev CO (ρ:List AV) (fa:List (Fa T)):Prop:= ∀f∈fa,f.OK ρ
theorem Xf {x i:E} {ρ:List AV}: ∀{fa:List (Fa T)} {v:V T},Ja x i fa=some v→CO ρ fa→ ∃k n xs,i.den ρ= .int k n∧x.den ρ= .sl xs∧0≤n∧n<xs.length∧xs[n.toNat]?=some v.den
 |f::l,v,h,ho=>by
  cases f with
  |ix y j w=>
   simp only [Ja]at h;split at h
   ·rename_i hb;cases h;simp only [Ac]at hb;rw [←E.ah ρ _ _ hb.1,←E.ah ρ _ _ hb.2];exact ho (.ix y j v) (by simp)
   ·exact Xf h fun f hf=>ho f (by simp [hf])
  |sx|tx|bo=>exact Xf (fa:=l) h fun f hf=>ho f (by simp [hf])
theorem Xb {x i:E} {ρ:List AV}: ∀{fa:List (Fa T)} {y:UInt8},O6 x i fa=some y→CO ρ fa→ ∃k n s,i.den ρ= .int k n∧x.den ρ= .str s∧0≤n∧n<s.length∧s[n.toNat]?=some y
 |f::l,v,h,ho=>by
  cases f with
  |sx y j w=>
   simp only [O6]at h;split at h
   ·rename_i hb;cases h;simp only [Ac]at hb;rw [←E.ah ρ _ _ hb.1,←E.ah ρ _ _ hb.2];exact ho (.sx y j v) (by simp)
   ·exact Xb h fun f hf=>ho f (by simp [hf])
  |ix|tx|bo=>exact Xb (fa:=l) h fun f hf=>ho f (by simp [hf])
theorem eI {x:E} {ρ:List AV}: ∀{fa:List (Fa T)},DH x fa=true→CO ρ fa→(x.den ρ).text≠ .undef
 |f::l,h,ho=>by
  cases f with
  |tx y=>
   simp only [DH,Bool.or_eq_true]at h;rcases h with h|h
   ·rw [←E.ah ρ _ _ h];exact ho (.tx y) (by simp)
   ·exact eI h fun f hf=>ho f (by simp [hf])
  |ix|sx|bo=>exact eI (fa:=l) h fun f hf=>ho f (by simp [hf])
theorem eT {c:E} {ρ:List AV}: ∀{fa:List (Fa T)} {b:Bool},Tm c fa=some b→CO ρ fa→c.den ρ= .bool b
 |f::l,v,h,ho=>by
  cases f with
  |bo d w=>
   simp only [Tm]at h;split at h
   ·rename_i hb;cases h;rw [←E.ah ρ _ _ hb];exact ho (.bo d v) (by simp)
   ·exact eT h fun f hf=>ho f (by simp [hf])
  |ix|sx|tx=>exact eT (fa:=l) h fun f hf=>ho f (by simp [hf])
def Hx (fa:List (Fa T)):E→Option Bool
 | .bool b=>some b
 | .not a=>(Hx fa a).map (!·)
 | .ite c a b=>match Hx fa c with
  |some true=>Hx fa a
  |some false=>Hx fa b
  |none=>none
 |e=>Tm e fa
theorem Ik {fa:List (Fa T)} {ρ:List AV} (ho:CO ρ fa): ∀{e:E} {b:Bool},Hx fa e=some b→e.den ρ= .bool b
 |e,b,h=>by
  cases e
  case bool=>cases h;rfl
  case not a=>
   simp only [Hx,An]at h;obtain⟨x,hx,rfl⟩:=h;simp only [E.den,Ik ho hx,AV.gh]
  case ite c x y=>
   simp only [Hx]at h;split at h
   ·rename_i hc;simp only [E.den,Ik ho hc,AV.cond,Ik ho h]
   ·rename_i hc;simp only [E.den,Ik ho hc,AV.cond,Ik ho h]
   ·cases h
  all_goals exact eT h ho
def JL (n:Nat) (fa:List (Fa T)):E→Bool→List (Fa T)
 | .not a,b=>JL n fa a (!b)
 |c,b=>if c.sc n then .bo c b::fa else fa
theorem Sw {n:Nat} {fa:List (Fa T)} {ρ:List AV} (ho:CO ρ fa): ∀{e:E} {b:Bool},e.den ρ= .bool b→CO ρ (JL n fa e b)
 |e,b,h=>by
  cases e
  case not a=>
   refine Sw ho (e:=a) ?_;simp only [E.den]at h;cases ha:a.den ρ<;>simp only [ha,AV.gh]at h<;>cases h;simp
  all_goals
   simp only [JL];split
   ·intro f hf;rcases Ae.1 hf with rfl|hf
    ·exact h
    ·exact ho f hf
   ·exact ho
theorem SN {n:Nat} {fa:List (Fa T)} (hs: ∀f∈fa,f.sc n=true): ∀{e:E} {b:Bool},∀f∈JL n fa e b,f.sc n=true
 |e,b=>by
  cases e
  case not a=>exact SN hs (e:=a)
  all_goals
   simp only [JL];split
   ·rename_i hc;intro f hf;rcases Ae.1 hf with rfl|hf
    ·exact hc
    ·exact hs f hf
   ·exact hs
def V.int?:V T→Option (IntKind × Int)
 | .v (.i k) n=>some (k,n)
 |_=>none
def V.bool?:V T→Option Bool
 | .v .b x=>some x
 |_=>none
def V.str?:V T→Option (List UInt8)
 | .v .s x=>some x
 |_=>none
theorem V.int?_den {v:V T} {k:IntKind} {n:Int} (h:v.int?=some (k,n)):v.den= .int k n:=by unfold V.int? at h;split at h<;>cases h;rfl
theorem V.bool?_den {v:V T} {b:Bool} (h:v.bool?=some b):v.den= .bool b:=by unfold V.bool? at h;split at h<;>cases h;rfl
theorem V.str?_den {v:V T} {s:List UInt8} (h:v.str?=some s):v.den= .str s:=by unfold V.str? at h;split at h<;>cases h;rfl
def vI (k:IntKind) (n:Int):V T:= .v (.i k) n
def vB (b:Bool):V T:= .v .b b
def vS (s:List UInt8):V T:= .v .s s
@[simp] theorem S4 (k:IntKind) (n:Int):(vI k n:V T).den= .int k n:=rfl
@[simp] theorem S2 (b:Bool):(vB b:V T).den= .bool b:=rfl
@[simp] theorem zEv (s:List UInt8):(vS s:V T).den= .str s:=rfl
def kN (op:BinOp) (k:IntKind) (a b:Int):V T:=
 match op with
 | .add=>vI k (k.wrap (a+b))
 | .sub=>vI k (k.wrap (a-b))
 | .mul=>vI k (k.wrap (a*b))
 | .quo=>vI k (k.wrap (a.tdiv b))
 | .rem=>vI k (a.tmod b)
 | .eql=>vB (a==b)
 | .neq=>vB (a !=b)
 | .lss=>vB (a<b)
 | .leq=>vB (a≤b)
 | .gtr=>vB (a>b)
 | .geq=>vB (a≥b)
 | .and=>vI k (k.wrap (BitVec.ofInt k.bits a&&&BitVec.ofInt k.bits b).toNat)
 | .or=>vI k (k.wrap (BitVec.ofInt k.bits a|||BitVec.ofInt k.bits b).toNat)
 | .xor=>vI k (k.wrap (BitVec.ofInt k.bits a^^^BitVec.ofInt k.bits b).toNat)
 | .andNot=>vI k (k.wrap (BitVec.ofInt k.bits a&&& ~~~BitVec.ofInt k.bits b).toNat)
 | .shl=>vI k (k.wrap (a*2^(min b.toNat k.bits)))
 | .shr=>vI k (a.fdiv (2^(min b.toNat k.bits)))
theorem xH (op:BinOp) (k:IntKind) (a b:Int):(kN op k a b:V T).den=CR op k a b:=by cases op<;>rfl
def ZH (op:BinOp) (a b:List UInt8):Option (V T):=
 match op with
 | .add=>some (vS (a++b))
 | .eql=>some (vB (a==b))
 | .neq=>some (vB (a !=b))
 | .lss=>some (vB (Op.bytesLess a b))
 | .leq=>some (vB (Op.bytesLess a b||a==b))
 | .gtr=>some (vB (!(Op.bytesLess a b||a==b)))
 | .geq=>some (vB (!Op.bytesLess a b))
 |_=>none
theorem zzG {op:BinOp} {a b:List UInt8} {v:V T} (h:ZH op a b=some v):v.den=O7 op a b:=by cases op<;>simp only [ZH,Ab,reduceCtorEq]at h<;>subst h<;>rfl
def V.il:V T→Option Int
 | .v (.l _) xs=>some (xs.length:Int)
 | .nl=>some ((0:Nat):Int)
 | .li vs=>some (vs.ey.length:Int)
 | .rp n _=>some (n.toNat:Int)
 |_=>none
theorem V.gy {v:V T} {n:Int} (h:v.il=some n): ∃xs:List AV,v.den= .sl xs∧(xs.length:Int)=n:=by
 unfold V.il at h;split at h
 ·cases h;exact⟨_,rfl,by simp⟩
 ·cases h;exact⟨_,rfl,by simp⟩
 ·cases h;exact⟨_,rfl,by rw [VL.dz]⟩
 ·cases h;exact⟨_,rfl,by simp⟩
 ·cases h
def V.lu:V T→V T→Option (V T)
 | .v (.l t) xs,y=>match y.to (.l t)with
  |some ys=>some (.v (.l t) (xs++ys))
  |none=>none
 | .nl,y=>if y.m7 then some y else none
 | .li vs, .li ws=>some (.li (vs.app ws))
 | .li vs, .v (.l t) ys=>match vs.gz t with
  |some xs=>some (.v (.l t) (xs++ys))
  |none=>none
 |_,_=>none
theorem V.jn {a b c:V T} (h:a.lu b=some c):a.den.app b.den=c.den:=by
 unfold V.lu at h;split at h
 ·split at h
  ·rename_i t xs y ys hy;cases h;rw [V.cz _ hy];simp [V.den,Bn,AV.app]
  ·cases h
 ·split at h
  ·rename_i hi;cases h;obtain⟨ys,hy⟩:=V.kr hi;rw [hy];rfl
  ·cases h
 ·cases h;simp [V.den,AV.app,VL.den_app]
 ·split at h
  ·rename_i hx;cases h;simp [V.den,Bn,AV.app,VL.fy _ hx]
  ·cases h
 ·cases h
def VL.nb:VL T→Option Ty
 | .cons (.v t _) _=>some t
 |_=>none
def V.m5:V T→Option ((t:Ty) × List (CZ T.car t))
 | .v (.l t) xs=>some ⟨t,xs⟩
 | .li vs=>match vs.nb with
  |some t=>(match V.to (.li vs) (.l t)with
   |some xs=>some ⟨t,xs⟩
   |none=>none)
  |none=>none
 |_=>none
theorem V.kd {v:V T} {t:Ty} {xs:List (CZ T.car t)} (h:v.m5=some ⟨t,xs⟩):v.den= .sl (xs.map (Bn T.av t)):=by
 unfold V.m5 at h;split at h
 ·simp only [Ab,Sigma.mk.injEq]at h;obtain⟨rfl,h⟩:=h;cases h;simp [V.den,Bn]
 ·split at h
  ·split at h
   ·rename_i ys hy;simp only [Ab,Sigma.mk.injEq]at h;obtain⟨rfl,h⟩:=h;cases h;rw [V.cz _ hy];simp [Bn]
   ·cases h
  ·cases h
 ·cases h
def V.l6:V T→Int→Int→Option (V T)
 | .v (.l t) xs,a,b=>some (.v (.l t) (Eh xs a b))
 | .nl,_,_=>some .nl
 | .li vs,a,b=>match vs.nb with
  |some t=>(match V.to (.li vs) (.l t)with
   |some xs=>some (.v (.l t) (Eh xs a b))
   |none=>none)
  |none=>none
 |_,_,_=>none
theorem V.jy {v x:V T} {a b:Int} (h:v.l6 a b=some x) (ka kb:IntKind):v.den.win (.int ka a) (.int kb b)=x.den:=by
 unfold V.l6 at h;split at h
 ·cases h;simp [V.den,Bn,AV.win,Eh,List.map_take,List.map_drop]
 ·cases h;simp [V.den,AV.win]
 ·split at h
  ·split at h
   ·rename_i xs hx;cases h;rw [V.cz _ hx];simp [V.den,Bn,AV.win,Eh,List.map_take,List.map_drop]
   ·cases h
  ·cases h
 ·cases h
def V.l7:V T→Int→V T→Option (V T)
 | .v (.l t) xs,i,w=>match w.to t with
  |some y=>some (.v (.l t) (xs.set i.toNat y))
  |none=>none
 |_,_,_=>none
theorem V.j4 {v w x:V T} {i:Int} (h:v.l7 i w=some x) (k:IntKind):v.den.ec (.int k i) w.den=x.den:=by
 unfold V.l7 at h;split at h
 ·split at h
  ·rename_i hy;cases h;simp [V.den,Bn,AV.ec,V.cz _ hy,List.map_set]
  ·cases h
 ·cases h
def V.lq (x:V T) (o:Nat) (v:V T) (g:Bool):Option (V T):=
 if g then match x.lv,(match v.lv with|some l=>some l|none=>if v.one then some (.cons v .nil)else none)with
  |some xs,some vs=>some (.ag (.of (xs.ey.take o++vs.ey++xs.ey.drop (o+vs.ey.length))))
  |_,_=>none
 else some v
theorem V.jo {x v y:V T} {o:Nat} {g:Bool} (h:x.lq o v g=some y):x.den.eb o v.den g=y.den:=by
 unfold V.lq at h;cases g with
 |false=>simp at h;subst h;rfl
 |true=>
  simp only [if_true]at h;split at h
  ·rename_i xs vs hx hv;cases h;have hc:v.den.cells=vs.den:=by
    split at hv
    ·rename_i l hl;cases hv;rw [V.dr hl];rfl
    ·split at hv
     ·rename_i h1;cases hv;rw [(V.one_cells h1).1];rfl
     ·cases hv
   rw [V.dr hx];simp only [AV.eb,if_true,hc,V.den,VL.du,List.map_append,List.map_take,List.map_drop,VL.br,VL.dz];rfl
  ·cases h
def V.lz (n:Int):V T→V T
 | .v t z=> .v (.l t) (List.replicate n.toNat z)
 |z=> .rp n z
theorem V.jf (n:Int) (z:V T) (k:IntKind):(V.lz n z).den=AV.rep (.int k n) z.den:=by cases z<;>simp [V.lz,V.den,Bn,AV.rep]
def V.mv:V T→V T→Option Bool
 | .v (.i _) a, .v (.i _) b=>some (a==b)
 | .v .b a, .v .b b=>some (a==b)
 | .v .s a, .v .s b=>some (a==b)
 |_,_=>none
def Mc:List (V T)→List (V T)→Option Bool
 | [], []=>some true
 | [x], [y]=>x.mv y
 |x::xs,y::ys=>match x.mv y,Mc xs ys with
  |some a,some b=>some (a&&b)
  |_,_=>none
 |_,_=>none
theorem V.ja {x y:V T} {b:Bool} (h:x.mv y=some b):x.den.seq y.den=b:=by unfold V.mv at h;split at h<;>cases h<;>rfl
theorem o0: ∀{xs ys:List (V T)} {b:Bool},Mc xs ys=some b→AV.leq (xs.map V.den) (ys.map V.den)=b
 | [], [],b,h=>by cases h;rfl
 | [x], [y],b,h=>by simp only [List.map_cons,List.map_nil,AV.leq,Bool.and_true];exact V.ja (x:=x) (y:=y) h
 |x::x'::xs,y::ys,b,h=>by
  simp only [Mc]at h;split at h
  ·rename_i h1 h2;cases h;have:=o0 h2;simp only [List.map_cons]at this ⊢;rw [AV.leq,V.ja h1,this]
  ·cases h
 | [x],y::y'::ys,b,h=>by
  simp only [Mc]at h;split at h
  ·rename_i h1 h2;cases h2
  ·cases h
 | [],_::_,b,h=>by simp [Mc]at h
 |_::_, [],b,h=>by simp [Mc]at h
def V.ll (x y:V T):Option Bool:=match x.lv,y.lv with
 |some a,some b=>Mc a.ey b.ey
 |_,_=>none
theorem V.jt {x y:V T} {b:Bool} (h:x.ll y=some b):AV.aeq x.den y.den= .bool b:=by
 unfold V.ll at h;split at h
 ·rename_i h1 h2;rw [V.dr h1,V.dr h2];simp only [AV.aeq,←VL.br,o0 h]
 ·cases h
def VL.get (i:Nat) (vs:VL T):Option (V T):=vs.ey[i]?
def Td (fa:List (Fa T)) (i:E):E→Bool
 | .set b j v=>(Ja (.set b j v) i fa).isSome||(j.beq i&&Td fa i b)
 |b=>(Ja b i fa).isSome
section
variable (env:List (V T)) (fa:List (Fa T))
mutual
def Ay:E→Option (V T)
 | .var i=>match env[i]? with
  |some .no=>none
  |some v=>some v
  |none=>none
 | .int k n=>some (vI k n)
 | .bool b=>some (vB b)
 | .str s=>some (vS s.data.toList)
 | .ei=>none
 | .lst es=>match es with
  | .nil=>some .nl
  |es=>(HF es).map .li
 | .mk es=>(HF es).map .ag
 | .tup es=>(HF es).map .tu
 | .ref e=>(Ay e).map .rf
 | .fn f es=>(HF es).map (.cl f)
 | .fld e o n g=>(Ay e).bind fun v=>v.fld o n g
 | .proj e i=>match Ay e with
  |some (.tu vs)=>vs.get i
  |_=>none
 | .deref e=>match Ay e with
  |some (.rf x)=>some x
  |_=>none
 | .len e=>((Ay e).bind V.il).map (vI .i64)
 | .slen e=>((Ay e).bind V.str?).map fun s=>vI .i64 s.length
 | .idx x i=>match Ja x i fa with
  |some v=>some v
  |none=>match x with
   | .set b j v=>if j.beq i&&Td fa i b then Ay v else none
   |_=>none
 | .sidx x i=>(O6 x i fa).map fun y=>vI .u8 y.toNat
 | .win e a b=>match Ay e,(Ay a).bind V.int?,(Ay b).bind V.int? with
  |some x,some p,some q=>x.l6 p.2 q.2
  |_,_,_=>none
 | .swin e a b=>match(Ay e).bind V.str?,(Ay a).bind V.int?,(Ay b).bind V.int? with
  |some x,some p,some q=>some (vS (Eh x p.2 q.2))
  |_,_,_=>none
 | .app a b=>match Ay a,Ay b with
  |some x,some y=>x.lu y
  |_,_=>none
 | .set x i v=>match Ay x,(Ay i).bind V.int?,Ay v with
  |some x,some p,some w=>x.l7 p.2 w
  |_,_,_=>none
 | .put x o v g=>match Ay x,Ay v with
  |some x,some w=>x.lq o w g
  |_,_=>none
 | .rep n z=>match(Ay n).bind V.int?,Ay z with
  |some p,some w=>some (.lz p.2 w)
  |_,_=>none
 | .conv k e=>((Ay e).bind V.int?).map fun p=>vI k (k.wrap p.2)
 | .bin op a b=>match(Ay a).bind V.int?,(Ay b).bind V.int? with
  |some p,some q=>if p.1=q.1∨op= .shl∨op= .shr then some (kN op p.1 p.2 q.2)else none
  |_,_=>none
 | .sbin op a b=>match(Ay a).bind V.str?,(Ay b).bind V.str? with
  |some p,some q=>ZH op p q
  |_,_=>none
 | .bbin op a b=>match(Ay a).bind V.bool?,(Ay b).bind V.bool? with
  |some p,some q=>(match op with
   | .eql=>some (vB (p==q))
   | .neq=>some (vB (p !=q))
   |_=>none)
  |_,_=>none
 | .aeq a b=>match Ay a,Ay b with
  |some x,some y=>(x.ll y).map vB
  |_,_=>none
 | .not a=>match Hx fa a with
  |some b=>some (vB (!b))
  |none=>((Ay a).bind V.bool?).map fun b=>vB (!b)
 | .neg a=>((Ay a).bind V.int?).map fun p=>vI p.1 (p.1.wrap (0-p.2))
 | .ite c a b=>match Hx fa c with
  |some true=>Ay a
  |some false=>Ay b
  |none=>match(Ay c).bind V.bool? with
   |none=>none
   |some x=>
    if b.beq (.bool false)then((Ay a).bind V.bool?).map fun p=>vB (x&&p)else
    if a.beq (.bool true)then((Ay b).bind V.bool?).map fun p=>vB (x||p)else
    match Ay a,Ay b with
    |some (.v t p),some q=>(q.to t).map fun q=> .v t (bif x then p else q)
    |_,_=>none
 | .bytes a=>((Ay a).bind V.str?).map fun x=> .v (.l (.i .u8)) (x.map fun b=>(b.toNat:Int))
 | .text a=>if DH a fa then(match Ay a with
   |some x=>(x.to (.l (.i .u8))).map fun l=>vS (l.map fun n=>UInt8.ofNat n.toNat)
   |none=>none)else none
def HF:EL→Option (VL T)
 | .nil=>some .nil
 | .cons e es=>match Ay e,HF es with
  |some x,some xs=>some (.cons x xs)
  |_,_=>none
end
end
theorem nH {fa:List (Fa T)} {x i:E} {ρ:List AV} (ho:CO ρ fa) {v:V T} (h:Ja x i fa=some v):(x.den ρ).idx (i.den ρ)=v.den:=by obtain⟨k,n,xs,h1,h2,_,_,h5⟩:=Xf h ho;simp only [h1,h2,AV.idx,AV.nth,h5,Option.getD_some]
theorem o5 {fa:List (Fa T)} {i:E} {ρ:List AV} (ho:CO ρ fa): ∀{b:E},Td fa i b=true→ ∃xs k n,b.den ρ= .sl xs∧i.den ρ= .int k n∧0≤n∧n<xs.length:=by
 have base: ∀{b:E},(Ja b i fa).isSome=true→ ∃xs k n,b.den ρ= .sl xs∧i.den ρ= .int k n∧0≤n∧n<xs.length:=by intro b h;obtain⟨v,hv⟩:=Option.isSome_iff_exists.1 h;obtain⟨k,n,xs,h1,h2,h3,h4,_⟩:=Xf hv ho;exact⟨xs,k,n,h2,h1,h3,h4⟩
 intro b h
 induction b using E.rec (motive_2:=fun _=>True)with
 |set b j v ihb _ _=>
  simp only [Td,Bool.or_eq_true,Ac]at h;rcases h with h|h
  ·exact base h
  ·obtain⟨xs,k,n,h1,h2,h3,h4⟩:=ihb h.2;refine⟨xs.set n.toNat (v.den ρ),k,n, ?_,h2,h3,by simpa using h4⟩;simp only [E.den,h1,E.ah ρ _ _ h.1,h2,AV.ec]
 |nil|cons=>trivial
 |_=>exact base h
mutual
theorem Be {env:List (V T)} {fa:List (Fa T)} (ho:CO (env.map V.den) fa): ∀(e:E) {v:V T},Ay env fa e=some v→e.den (env.map V.den)=v.den
 | .var i,v,h=>by
  simp only [Ay]at h;simp only [E.den,List.getElem?_map];split at h
  ·cases h
  ·rename_i w _ hw;cases h;rw [hw];rfl
  ·cases h
 | .int k n,v,h=>by cases h;rfl
 | .bool b,v,h=>by cases h;rfl
 | .str s,v,h=>by cases h;rfl
 | .ei,v,h=>by simp [Ay]at h
 | .lst .nil,v,h=>by simp only [Ay]at h;cases h;rfl
 | .lst (.cons e es),v,h=>by simp only [Ay,An]at h;obtain⟨vs,hv,rfl⟩:=h;simp only [E.den,V.den,J4 ho (.cons e es) hv]
 | .mk es,v,h=>by simp only [Ay,An]at h;obtain⟨vs,hv,rfl⟩:=h;simp only [E.den,V.den,J4 ho es hv]
 | .tup es,v,h=>by simp only [Ay,An]at h;obtain⟨vs,hv,rfl⟩:=h;simp only [E.den,V.den,J4 ho es hv]
 | .ref e,v,h=>by simp only [Ay,An]at h;obtain⟨w,hv,rfl⟩:=h;simp only [E.den,V.den,Be ho e hv]
 | .fn f es,v,h=>by simp only [Ay,An]at h;obtain⟨vs,hv,rfl⟩:=h;simp only [E.den,V.den,J4 ho es hv]
 | .fld e o n g,v,h=>by simp only [Ay,Ao]at h;obtain⟨w,hw,h⟩:=h;simp only [E.den,Be ho e hw,V.kj h]
 | .proj e i,v,h=>by
  simp only [Ay]at h;split at h
  ·rename_i vs hw;simp only [E.den,Be ho e hw,V.den,AV.proj];unfold VL.get at h;rw [←VL.br,List.getElem?_map,h];rfl
  ·cases h
 | .deref e,v,h=>by
  simp only [Ay]at h;split at h
  ·rename_i x hw;cases h;simp only [E.den,Be ho e hw,V.den,AV.deref]
  ·cases h
 | .len e,v,h=>by simp only [Ay,An,Ao]at h;obtain⟨n,⟨w,hw,hn⟩,rfl⟩:=h;obtain⟨xs,h1,h2⟩:=V.gy hn;simp only [E.den,Be ho e hw,h1,AV.len,h2,S4]
 | .slen e,v,h=>by simp only [Ay,An,Ao]at h;obtain⟨n,⟨w,hw,hn⟩,rfl⟩:=h;simp only [E.den,Be ho e hw,V.str?_den hn,AV.slen,S4]
 | .idx x i,v,h=>by
  have key: ∀o,Ja x i fa=o→(match o with|some v=>some v|none=>none)=some v→(x.den (env.map V.den)).idx (i.den (env.map V.den))=v.den:=by
   intro o Qc h;cases o with
   |none=>cases h
   |some w=>cases h;exact nH ho Qc
  by_cases hs: ∃b j u,x= .set b j u
  ·obtain⟨b,j,u,hx⟩:=hs;have AB:SizeOf.sizeOf u<SizeOf.sizeOf x:=by rw [hx];simp;omega
   have ih: ∀{v:V T},Ay env fa u=some v→u.den (env.map V.den)=v.den:=fun hv=>Be ho u hv;clear AB;subst hx;simp only [Ay]at h;split at h
   ·rename_i w hw;cases h;exact nH ho hw
   ·split at h
    ·rename_i hb;simp only [Ac]at hb;obtain⟨xs,k,n,h1,h2,h3,h4⟩:=o5 ho hb.2;have h5:n.toNat<xs.length:=by omega
     have:=ih h;simp only [E.den,h1,E.ah _ _ _ hb.1,h2,AV.ec,AV.idx,AV.nth];simp [h5,this]
    ·cases h
  ·cases x
   case set b j u=>exact absurd ⟨b,j,u,rfl⟩ hs
   all_goals
    simp only [Ay]at h;exact key _ rfl h
 | .sidx x i,v,h=>by simp only [Ay,An]at h;obtain⟨y,hy,rfl⟩:=h;obtain⟨k,n,s,h1,h2,_,_,h5⟩:=Xb hy ho;simp only [E.den,h1,h2,AV.sidx,h5,S4]
 | .win e a b,v,h=>by
  simp only [Ay]at h;split at h
  ·rename_i x p q hx hp hq;obtain⟨w1,ha,hp⟩:=Ao.1 hp;obtain⟨w2,hb,hq⟩:=Ao.1 hq;simp only [E.den,Be ho e hx,Be ho a ha,Be ho b hb,V.int?_den hp,V.int?_den hq];exact V.jy h _ _
  ·cases h
 | .swin e a b,v,h=>by
  simp only [Ay]at h;split at h
  ·rename_i x p q hx hp hq;obtain⟨w0,he,hx⟩:=Ao.1 hx;obtain⟨w1,ha,hp⟩:=Ao.1 hp;obtain⟨w2,hb,hq⟩:=Ao.1 hq;cases h;simp only [E.den,Be ho e he,Be ho a ha,Be ho b hb,V.str?_den hx,V.int?_den hp,V.int?_den hq];rfl
  ·cases h
 | .app a b,v,h=>by
  simp only [Ay]at h;split at h
  ·rename_i x y hx hy;simp only [E.den,Be ho a hx,Be ho b hy];exact V.jn h
  ·cases h
 | .set x i u,v,h=>by
  simp only [Ay]at h;split at h
  ·rename_i y p w hy hp hw;obtain⟨w1,hi,hp⟩:=Ao.1 hp;simp only [E.den,Be ho x hy,Be ho i hi,V.int?_den hp,Be ho u hw];exact V.j4 h _
  ·cases h
 | .put x o u g,v,h=>by
  simp only [Ay]at h;split at h
  ·rename_i y w hy hw;simp only [E.den,Be ho x hy,Be ho u hw];exact V.jo h
  ·cases h
 | .rep n z,v,h=>by
  simp only [Ay]at h;split at h
  ·rename_i p w hp hw;obtain⟨w1,hi,hp⟩:=Ao.1 hp;cases h;simp only [E.den,Be ho n hi,V.int?_den hp,Be ho z hw];exact(V.jf _ _ _).symm
  ·cases h
 | .conv k e,v,h=>by simp only [Ay,An,Ao]at h;obtain⟨p,⟨w,hw,hp⟩,rfl⟩:=h;simp only [E.den,Be ho e hw,V.int?_den hp,AV.conv,S4]
 | .bin op a b,v,h=>by
  simp only [Ay]at h;split at h
  ·rename_i p q hp hq;obtain⟨w1,ha,hp⟩:=Ao.1 hp;obtain⟨w2,hb,hq⟩:=Ao.1 hq;split at h
   ·rename_i hk;cases h;simp only [E.den,Be ho a ha,Be ho b hb,V.int?_den hp,V.int?_den hq,AV.bin,if_pos hk,xH]
   ·cases h
  ·cases h
 | .sbin op a b,v,h=>by
  simp only [Ay]at h;split at h
  ·rename_i p q hp hq;obtain⟨w1,ha,hp⟩:=Ao.1 hp;obtain⟨w2,hb,hq⟩:=Ao.1 hq;simp only [E.den,Be ho a ha,Be ho b hb,V.str?_den hp,V.str?_den hq,AV.sbin,zzG h]
  ·cases h
 | .bbin op a b,v,h=>by
  simp only [Ay]at h;split at h
  ·rename_i p q hp hq;obtain⟨w1,ha,hp⟩:=Ao.1 hp;obtain⟨w2,hb,hq⟩:=Ao.1 hq;simp only [E.den,Be ho a ha,Be ho b hb,V.bool?_den hp,V.bool?_den hq,AV.bbin];split at h<;>cases h<;>rfl
  ·cases h
 | .aeq a b,v,h=>by
  simp only [Ay]at h;split at h
  ·rename_i x y hx hy;simp only [An]at h;obtain⟨c,hc,rfl⟩:=h;simp only [E.den,Be ho a hx,Be ho b hy,V.jt hc,S2]
  ·cases h
 | .not a,v,h=>by
  simp only [Ay]at h;split at h
  ·rename_i b hb;cases h;simp only [E.den,Ik ho hb,AV.gh,S2]
  ·simp only [An,Ao]at h;obtain⟨c,⟨w,hw,hc⟩,rfl⟩:=h;simp only [E.den,Be ho a hw,V.bool?_den hc,AV.gh,S2]
 | .neg a,v,h=>by simp only [Ay,An,Ao]at h;obtain⟨p,⟨w,hw,hp⟩,rfl⟩:=h;simp only [E.den,Be ho a hw,V.int?_den hp,AV.je,S4]
 | .ite c a b,v,h=>by
  simp only [Ay]at h;split at h
  ·rename_i hc;simp only [E.den,Ik ho hc,AV.cond];exact Be ho a h
  ·rename_i hc;simp only [E.den,Ik ho hc,AV.cond];exact Be ho b h
  ·split at h
   ·cases h
   ·rename_i x hx;obtain⟨w,hw,hx⟩:=Ao.1 hx;have hc:=Be ho c hw;rw [V.bool?_den hx]at hc;split at h
    ·rename_i hb;simp only [An,Ao]at h;obtain⟨p,⟨w,hw,hp⟩,rfl⟩:=h;have h2:=E.ah (env.map V.den) _ _ hb;simp only [E.den]at h2;simp only [E.den,hc,Be ho a hw,V.bool?_den hp,h2,S2];cases x<;>rfl
    ·split at h
     ·rename_i hb;simp only [An,Ao]at h;obtain⟨p,⟨w,hw,hp⟩,rfl⟩:=h;have h2:=E.ah (env.map V.den) _ _ hb;simp only [E.den]at h2;simp only [E.den,hc,Be ho b hw,V.bool?_den hp,h2,S2];cases x<;>rfl
     ·split at h
      ·rename_i t p q hp hq;simp only [An]at h;obtain⟨q',Y8,rfl⟩:=h;simp only [E.den,hc,Be ho a hp,Be ho b hq,V.cz _ Y8];cases x<;>rfl
      ·cases h
 | .bytes a,v,h=>by simp only [Ay,An,Ao]at h;obtain⟨p,⟨w,hw,hp⟩,rfl⟩:=h;simp [E.den,Be ho a hw,V.str?_den hp,AV.bytes,V.den,Bn]
 | .text a,v,h=>by
  simp only [Ay]at h;split at h
  ·rename_i ht;split at h
   ·rename_i x hx;simp only [An]at h;obtain⟨l,hl,rfl⟩:=h;have h1:=eI ht ho;have h2:=Be ho a hx;rw [V.cz _ hl]at h2;have key: ∀l:List Int,KP (l.map fun n=>AV.int .u8 n)=some (l.map fun n=>UInt8.ofNat n.toNat):=by
     intro l
     induction l with
     |nil=>rfl
     |cons n l ih=>simp [KP,ih]
    simp only [E.den,h2,AV.text,Bn,zEv]at h1 ⊢;have key2:=key l;simp only [show(List.map (Bn T.av (.i .u8)) l)=l.map (fun n=>AV.int .u8 n)from rfl,key2]at h1 ⊢;split at h1
    ·rename_i hle;rw [if_pos hle]
    ·simp at h1
   ·cases h
  ·cases h
termination_by e=>SizeOf.sizeOf e
decreasing_by all_goals first|(simp_wf;done)|(simp_wf;omega)|omega
theorem J4 {env:List (V T)} {fa:List (Fa T)} (ho:CO (env.map V.den) fa): ∀(es:EL) {vs:VL T},HF env fa es=some vs→es.den (env.map V.den)=vs.den
 | .nil,vs,h=>by cases h;rfl
 | .cons e es,vs,h=>by
  simp only [HF]at h;split at h
  ·rename_i x xs hx Ce;cases h;simp only [EL.den,VL.den,Be ho e hx,J4 ho es Ce]
  ·cases h
termination_by es=>SizeOf.sizeOf es
decreasing_by all_goals first|(simp_wf;done)|(simp_wf;omega)|omega
end
end Go.Proofs.YtmbknelgbjlhnaaGreat
end
section
namespace Go.Proofs.YtmbknelgbjlhnaaGreat
open Go.RowKit
inductive PT where
 |v (t:Ty)
 |rf (t:Ty)
 |rr (t:Ty)
 |fn (aa:List Ty) (r:Ty)
@[reducible] def MY (car:Nat→Type):PT→Type
 | .v t=>CZ car t
 | .rf t=>CZ car t
 | .rr t=>CZ car t
 | .fn aa r=>MX car aa r
@[reducible] def HP (car:Nat→Type):List PT→Type
 | []=>Unit
 |p::ps=>MY car p × HP car ps
def KT (t:Ty) (a:AV):AV:=if T0 t then .ref (.agg [a])else .ref a
mutual
inductive RT where
 |v (t:Ty)
 |bo (t:Ty)
 |tu (l:RL)
inductive RL where
 |nil
 |cons (r:RT) (l:RL)
end
mutual
@[reducible] def GC (car:Nat→Type):RT→Type
 | .v t=>CZ car t
 | .bo t=>CZ car t
 | .tu l=>Lr car l
@[reducible] def Lr (car:Nat→Type):RL→Type
 | .nil=>Unit
 | .cons r .nil=>GC car r
 | .cons r (.cons q l)=>GC car r × Lr car (.cons q l)
end
section
variable (T:Hi)
def JI:(p:PT)→MY T.car p→AV
 | .v t,x=>Bn T.av t x
 | .rf t,x=>KT t (Bn T.av t x)
 | .rr t,x=> .ref (.agg [KT t (Bn T.av t x)])
 | .fn _ _,c=> .fn c.g c.caps
def ER:(ps:List PT)→HP T.car ps→List AV
 | [],_=> []
 |p::ps,x=>JI T p x.1::ER ps x.2
mutual
def Fl:(r:RT)→GC T.car r→AV
 | .v t,x=>Bn T.av t x
 | .bo t,x=> .agg [Bn T.av t x]
 | .tu l,x=> .tup (Ll l x)
def Ll:(l:RL)→Lr T.car l→List AV
 | .nil,_=> []
 | .cons r .nil,x=> [Fl r x]
 | .cons r (.cons q l),x=>Fl r x.1::Ll (.cons q l) x.2
end
def QH:(p:PT)→MY T.car p→Prop
 | .fn aa r,c=>kT T aa r c
 |_,_=>True
def Hg:(ps:List PT)→HP T.car ps→Prop
 | [],_=>True
 |p::ps,x=>QH T p x.1∧Hg ps x.2
structure FN where
 f:Nat
 ps:List PT
 r:RT
 φ:HP T.car ps→Option (GC T.car r)
 ok: ∀xs y,Hg T ps xs→φ xs=some y→T.Rt f (ER T ps xs) (Fl T r y)
 pl:Bool
 okp:pl=true→ ∀xs y,Hg T ps xs→φ xs=some y→T.Rt (1000000+f) (ER T ps xs) (Fl T r y)
end
variable {T:Hi}
mutual
def vR:(r:RT)→GC T.car r→V T
 | .v t,x=> .v t x
 | .bo t,x=> .ag (.cons (.v t x) .nil)
 | .tu l,x=> .tu (Qy l x)
def Qy:(l:RL)→Lr T.car l→VL T
 | .nil,_=> .nil
 | .cons r .nil,x=> .cons (vR r x) .nil
 | .cons r (.cons q l),x=> .cons (vR r x.1) (Qy (.cons q l) x.2)
end
mutual
theorem SY: ∀(r:RT) (x:GC T.car r),(vR r x).den=Fl T r x
 | .v t,x=>rfl
 | .bo t,x=>rfl
 | .tu l,x=>by simp only [vR,V.den,Fl,qS l x]
theorem qS: ∀(l:RL) (x:Lr T.car l),(Qy l x).den=Ll T l x
 | .nil,_=>rfl
 | .cons r .nil,x=>by simp only [Qy,VL.den,Ll,SY r x]
 | .cons r (.cons q l),x=>by simp only [Qy,VL.den,Ll,SY r x.1,qS (.cons q l) x.2]
end
mutual
def Nb:(r:RT)→V T→Option (GC T.car r)
 | .v t,x=>x.to t
 | .bo t,x=>match x with
  | .ag (.cons y .nil)=>y.to t
  |_=>none
 | .tu l,x=>match x with
  | .tu vs=>Ng l vs.ey
  |_=>none
def Ng:(l:RL)→List (V T)→Option (Lr T.car l)
 | .nil,vs=>match vs with
  | []=>some ()
  |_=>none
 | .cons r .nil,vs=>match vs with
  | [x]=>Nb r x
  |_=>none
 | .cons r (.cons q l),vs=>match vs with
  |x::xs=>(match Nb r x,Ng (.cons q l) xs with
   |some a,some b=>some (a,b)
   |_,_=>none)
  |_=>none
end
mutual
theorem gD: ∀(r:RT) {v:V T} {x:GC T.car r},Nb r v=some x→v.den=Fl T r x
 | .v t,v,x,h=>V.cz v h
 | .bo t,v,x,h=>by
  simp only [Nb]at h;split at h
  ·simp only [V.den,VL.den,Fl,V.cz _ h]
  ·cases h
 | .tu l,v,x,h=>by
  simp only [Nb]at h;split at h
  ·rename_i vs;simp only [V.den,Fl,←oY l h,VL.br]
  ·cases h
theorem oY: ∀(l:RL) {vs:List (V T)} {x:Lr T.car l},Ng l vs=some x→vs.map V.den=Ll T l x
 | .nil,vs,x,h=>by
  simp only [Ng]at h;split at h
  ·rfl
  ·cases h
 | .cons r .nil,vs,x,h=>by
  simp only [Ng]at h;split at h
  ·simp only [List.map_cons,List.map_nil,Ll,gD r h]
  ·cases h
 | .cons r (.cons q l),vs,x,h=>by
  simp only [Ng]at h;split at h
  ·split at h
   ·rename_i h1 h2;cases h;simp only [List.map_cons,Ll,gD r h1,oY (.cons q l) h2]
   ·cases h
  ·cases h
end
@[reducible] def HS (car:Nat→Type):List Ty→Type
 | []=>Unit
 | [t]=>CZ car t
 |t::u::ts=>CZ car t × HS car (u::ts)
def FW:(ts:List Ty)→HS T.car ts→List (V T)
 | [],_=> []
 | [t],x=> [.v t x]
 |t::u::ts,x=> .v t x.1::FW (u::ts) x.2
def KO:(ts:List Ty)→List (V T)→Option (HS T.car ts)
 | [],vs=>match vs with
  | []=>some ()
  |_=>none
 | [t],vs=>match vs with
  | [x]=>x.to t
  |_=>none
 |t::u::ts,vs=>match vs with
  |x::xs=>(match x.to t,KO (u::ts) xs with
   |some a,some b=>some (a,b)
   |_,_=>none)
  |_=>none
theorem Xw: ∀(ts:List Ty) {vs:List (V T)} {s:HS T.car ts},KO ts vs=some s→vs.map V.den=(FW ts s).map V.den
 | [],vs,s,h=>by
  simp only [KO]at h;split at h
  ·rfl
  ·cases h
 | [t],vs,s,h=>by
  simp only [KO]at h;split at h
  ·simp only [List.map_cons,List.map_nil,FW,V.den,V.cz _ h]
  ·cases h
 |t::u::ts,vs,s,h=>by
  simp only [KO]at h;split at h
  ·split at h
   ·rename_i h1 h2;cases h;simp only [List.map_cons,FW,V.den,V.cz _ h1,Xw (u::ts) h2]
   ·cases h
  ·cases h
def Ty.mg:(xs ys:List Ty)→Option (PLift (xs=ys))
 | [], []=>some ⟨rfl⟩
 |x::xs,y::ys=>match Ty.mb x y,Ty.mg xs ys with
  |some ⟨h⟩,some ⟨k⟩=>some ⟨by rw [h,k]⟩
  |_,_=>none
 |_,_=>none
def SZ (f:Nat):List (FN T)→Option (FN T)
 | []=>none
 |e::l=>if e.f=f then some e else SZ f l
theorem fD {f:Nat}: ∀{l:List (FN T)} {e:FN T},SZ f l=some e→e.f=f
 |d::l,e,h=>by
  simp only [SZ]at h;split at h
  ·cases h;assumption
  ·exact fD h
def V.ma:V T→(t:Ty)→Option (CZ T.car t)
 | .rf x,t=>if T0 t then(match x with
  | .ag (.cons y .nil)=>y.to t
  |_=>none)else x.to t
 |_,_=>none
theorem V.gx: ∀{w:V T} {t:Ty} {x:CZ T.car t},w.ma t=some x→w.den=KT t (Bn T.av t x)
 | .rf y,t,x,h=>by
  simp only [V.ma]at h;split at h
  ·rename_i h1;split at h
   ·simp only [V.den,VL.den,KT,if_pos h1,V.cz _ h]
   ·cases h
  ·rename_i h1;simp only [V.den,KT,h1,V.cz _ h,Bu,if_false]
 | .v _ _,_,x,h| .nl,_,x,h| .li _,_,x,h| .rp _ _,_,x,h| .ag _,_,x,h| .tu _,_,x,h| .cl _ _,_,x,h| .pf ..,_,x,h| .no,_,x,h=>by simp [V.ma]at h
def V.kq:V T→(t:Ty)→Option (CZ T.car t)
 | .rf (.ag (.cons y .nil)),t=>y.ma t
 |_,_=>none
theorem V.ig {w:V T} {t:Ty} {x:CZ T.car t} (h:w.kq t=some x):w.den= .ref (.agg [KT t (Bn T.av t x)]):=by
 unfold V.kq at h;split at h
 ·simp only [V.den,VL.den,V.gx h]
 ·cases h
def GA:(ps:List PT)→VL T→Option (HP T.car ps)
 | [], .nil=>some ()
 | .v t::ps, .cons x vs=>match x.to t,GA ps vs with
  |some a,some b=>some (a,b)
  |_,_=>none
 | .rf t::ps, .cons x vs=>match x.ma t,GA ps vs with
  |some a,some b=>some (a,b)
  |_,_=>none
 | .rr t::ps, .cons x vs=>match x.kq t,GA ps vs with
  |some a,some b=>some (a,b)
  |_,_=>none
 |_,_=>none
theorem Xi: ∀(ps:List PT) (vs:VL T) {x:HP T.car ps},GA ps vs=some x→vs.den=ER T ps x∧Hg T ps x
 | [], .nil,x,h=>⟨rfl,trivial⟩
 | .v t::ps, .cons y vs,x,h=>by
  simp only [GA]at h;split at h
  ·rename_i h1 h2;cases h;obtain⟨h3,h4⟩:=Xi ps vs h2;exact⟨by simp only [VL.den,ER,JI,V.cz _ h1,h3],trivial,h4⟩
  ·cases h
 | .rf t::ps, .cons y vs,x,h=>by
  simp only [GA]at h;split at h
  ·rename_i h1 h2;cases h;obtain⟨h3,h4⟩:=Xi ps vs h2;exact⟨by simp only [VL.den,ER,JI,V.gx h1,h3],trivial,h4⟩
  ·cases h
 | .rr t::ps, .cons y vs,x,h=>by
  simp only [GA]at h;split at h
  ·rename_i h1 h2;cases h;obtain⟨h3,h4⟩:=Xi ps vs h2;exact⟨by simp only [VL.den,ER,JI,V.ig h1,h3],trivial,h4⟩
  ·cases h
 | [], .cons _ _,x,h=>by simp [GA]at h
 | .v _::_, .nil,x,h=>by simp [GA]at h
 | .rf _::_, .nil,x,h=>by simp [GA]at h
 | .rr _::_, .nil,x,h=>by simp [GA]at h
 | .fn _ _::_,_,x,h=>by simp [GA]at h
def I9:(ps:List PT)→(aa:List Ty)→VL T→Option (HL T.car aa→HP T.car ps)
 |ps, [],vs=>match GA ps vs with
  |some h=>some fun _=>h
  |none=>none
 | .v t::ps,a::aa,vs=>match Ty.mb a t,I9 ps aa vs with
  |some ⟨h⟩,some k=>some fun ys=>(h▸ys.1,k ys.2)
  |_,_=>none
 |_,_,_=>none
theorem nG: ∀(ps:List PT) (aa:List Ty) (vs:VL T) {k:HL T.car aa→HP T.car ps},I9 ps aa vs=some k→ ∀ys,GB T.av aa ys++vs.den=ER T ps (k ys)∧Hg T ps (k ys)
 |ps, [],vs,k,h,ys=>by
  have h':(match GA ps vs with|some h=>some fun _=>h|none=>none)=some k:=by
   cases ps with
   |nil=>simpa [I9]using h
   |cons p ps=>cases p<;>simpa [I9]using h
  split at h'
  ·rename_i x hx;cases h';obtain⟨h1,h2⟩:=Xi ps vs hx;exact⟨by simp [GB,h1],h2⟩
  ·cases h'
 | .v t::ps,a::aa,vs,k,h,ys=>by
  simp only [I9]at h;split at h
  ·rename_i e k' _ hk;cases e;cases h;obtain⟨h1,h2⟩:=nG ps aa vs hk ys.2;exact⟨by simp only [GB,List.cons_append,h1,ER,JI],trivial,h2⟩
  ·cases h
 | [],_::_,vs,k,h,ys=>by simp [I9]at h
 | .rf _::_,_::_,vs,k,h,ys=>by simp [I9]at h
 | .rr _::_,_::_,vs,k,h,ys=>by simp [I9]at h
 | .fn _ _::_,_::_,vs,k,h,ys=>by simp [I9]at h
def Tc (e:FN T) (t:Ty):Option (HP T.car e.ps→Option (CZ T.car t)):=
 match e with
 |⟨_,_, .v u,φ,_,_,_⟩=>match Ty.mb u t with
  |some ⟨h⟩=>some (h▸φ)
  |none=>none
 |_=>none
theorem uT {e:FN T} {t:Ty} {φ:HP T.car e.ps→Option (CZ T.car t)} (h:Tc e t=some φ) (hp:e.pl=true) {xs:HP T.car e.ps} {z:CZ T.car t} (hx:Hg T e.ps xs) (hz:φ xs=some z):T.Rt (1000000+e.f) (ER T e.ps xs) (Bn T.av t z):=by
 obtain⟨f,ps,r,φ0,ok,pl,okp⟩:=e;cases r with
 |tu l=>simp [Tc]at h
 |bo u=>simp [Tc]at h
 |v u=>
  simp only [Tc]at h;split at h
  ·rename_i e _;cases e;cases h;exact okp hp xs z hx hz
  ·cases h
def ZS (tb:List (FN T)) (f:Nat) (vs:VL T) (aa:List Ty) (t:Ty):Option (MX T.car aa t):=
 match SZ f tb with
 |some e=>if e.pl=true then(match I9 e.ps aa vs,Tc e t with
  |some k,some φ=>some ⟨fun ys=>φ (k ys),f,vs.den⟩
  |_,_=>none)else none
 |none=>none
theorem zL {tb:List (FN T)} {f:Nat} {vs:VL T} {aa:List Ty} {t:Ty} {c:MX T.car aa t} (h:ZS tb f vs aa t=some c):c.g=f∧c.caps=vs.den∧QH T (.fn aa t) c:=by
 unfold ZS at h;split at h
 ·rename_i e he;split at h
  ·rename_i hp;split at h
   ·rename_i k φ hk hφ;cases h;refine⟨rfl,rfl,fun ys z hz=> ?_⟩;obtain⟨h1,h2⟩:=nG e.ps aa vs hk ys;have:=uT hφ hp h2 hz;rw [fD he]at this;rw [show(MX.mk (fun ys=>φ (k ys)) f vs.den).caps=vs.den from rfl,h1];exact this
   ·cases h
  ·cases h
 ·cases h
def V.mz (tb:List (FN T)) (w:V T):(p:PT)→Option (MY T.car p)
 | .v t=>w.to t
 | .rf t=>w.ma t
 | .rr t=>w.kq t
 | .fn aa t=>match w with
  | .cl f vs=>ZS tb f vs aa t
  | .pf bs u c _=>match Ty.mg bs aa,Ty.mb u t with
   |some ⟨h⟩,some ⟨e⟩=>some (h▸e▸c)
   |_,_=>none
  |_=>none
theorem V.l4 {tb:List (FN T)} {w:V T}: ∀{p:PT} {x:MY T.car p},w.mz tb p=some x→w.den=JI T p x∧QH T p x
 | .v t,x,h=>⟨V.cz w h,trivial⟩
 | .rf t,x,h=>⟨V.gx h,trivial⟩
 | .rr t,x,h=>⟨V.ig h,trivial⟩
 | .fn aa t,x,h=>by
  simp only [V.mz]at h;split at h
  ·obtain⟨h1,h2,h3⟩:=zL h;exact⟨by simp only [V.den,JI,h1,h2],h3⟩
  ·rename_i bs u c hc;split at h
   ·rename_i h1 h2 _ _;cases h1;cases h2;cases h;exact⟨rfl,hc⟩
   ·cases h
  ·cases h
def Nh (tb:List (FN T)):VL T→(ps:List PT)→Option (HP T.car ps)
 | .nil, []=>some ()
 | .cons x vs,p::ps=>match x.mz tb p,Nh tb vs ps with
  |some a,some b=>some (a,b)
  |_,_=>none
 |_,_=>none
theorem qT {tb:List (FN T)}: ∀{vs:VL T} {ps:List PT} {x:HP T.car ps},Nh tb vs ps=some x→vs.den=ER T ps x∧Hg T ps x
 | .nil, [],x,h=>⟨rfl,trivial⟩
 | .cons y vs,p::ps,x,h=>by
  simp only [Nh]at h;split at h
  ·rename_i h1 h2;cases h;obtain⟨h3,h4⟩:=V.l4 h1;obtain⟨h5,h6⟩:=qT h2;exact⟨by simp only [VL.den,ER,h3,h5],h4,h6⟩
  ·cases h
 | .nil,_::_,x,h=>by simp [Nh]at h
 | .cons _ _, [],x,h=>by simp [Nh]at h
def vP:(p:PT)→(x:MY T.car p)→QH T p x→V T
 | .v t,x,_=> .v t x
 | .rf t,x,_=>if T0 t then .rf (.ag (.cons (.v t x) .nil))else .rf (.v t x)
 | .rr t,x,_=> .rf (.ag (.cons (if T0 t then .rf (.ag (.cons (.v t x) .nil))else .rf (.v t x)) .nil))
 | .fn aa r,c,h=> .pf aa r c h
def TT:(ps:List PT)→(x:HP T.car ps)→Hg T ps x→List (V T)
 | [],_,_=> []
 |p::ps,x,h=>vP p x.1 h.1::TT ps x.2 h.2
theorem qX: ∀(ps:List PT) (x:HP T.car ps) (h:Hg T ps x),(TT ps x h).map V.den=ER T ps x
 | [],_,_=>rfl
 |p::ps,x,h=>by
  simp only [TT,List.map_cons,ER,qX ps x.2 h.2];congr 1;cases p with
  |v t=>rfl
  |rf t=>simp only [vP,JI,KT];split<;>simp [V.den,VL.den]
  |rr t=>simp only [vP,JI,KT];split<;>simp [V.den,VL.den]
  |fn aa t=>rfl
end Go.Proofs.YtmbknelgbjlhnaaGreat
end
section
namespace Go.Proofs.YtmbknelgbjlhnaaGreat
open Go.RowKit
variable {T:Hi}
mutual
theorem E.cf {n m:Nat} (hm:n≤m): ∀(a:E),a.sc n=true→a.sc m=true
 |a,h=>by
  cases a<;>simp only [E.sc,Ac,decide_eq_true_eq]at h ⊢
  case var=>omega
  case lst|mk|tup|fn=>exact EL.cf hm _ h
  case ref|fld|proj|deref|len|slen|conv|not|neg|bytes|text=>exact E.cf hm _ h
  case idx|sidx|app|put|rep|bin|sbin|bbin|aeq=>exact⟨E.cf hm _ h.1,E.cf hm _ h.2⟩
  case win|swin|set|ite=>exact⟨⟨E.cf hm _ h.1.1,E.cf hm _ h.1.2⟩,E.cf hm _ h.2⟩
theorem EL.cf {n m:Nat} (hm:n≤m): ∀(a:EL),a.sc n=true→a.sc m=true
 | .nil,_=>rfl
 | .cons a aa,h=>by simp only [EL.sc,Ac]at h ⊢;exact⟨E.cf hm _ h.1,EL.cf hm _ h.2⟩
end
theorem Fa.cf {n m:Nat} (hm:n≤m) {f:Fa T} (h:f.sc n=true):f.sc m=true:=by
 cases f<;>simp only [Fa.sc,Ac]at h ⊢
 ·exact⟨E.cf hm _ h.1,E.cf hm _ h.2⟩
 ·exact⟨E.cf hm _ h.1,E.cf hm _ h.2⟩
 ·exact E.cf hm _ h
 ·exact E.cf hm _ h
inductive GS where
 |yes
 |no
 |ask (c:E)
def Pb (fa:List (Fa T)):E→E
 | .not a=>Pb fa a
 | .ite c a b=>match Hx fa c with
  |none=>Pb fa c
  |some true=>Pb fa a
  |some false=>Pb fa b
 |e=>e
def OY (fa:List (Fa T)):Gd→GS
 | []=> .yes
 |(e,b)::gs=>match Hx fa e with
  |some v=>if v=b then OY fa gs else .no
  |none=>match OY fa gs with
   | .no=> .no
   |_=> .ask (Pb fa e)
theorem WY {fa:List (Fa T)} {ρ:List AV} (ho:CO ρ fa): ∀{gs:Gd},OY fa gs= .no→ ¬A1 ρ gs
 | [],h=>by cases h
 |(e,b)::gs,h=>by
  simp only [OY]at h;intro hg;have h1:=hg (e,b) (by simp);have h2:A1 ρ gs:=fun g hm=>hg g (by simp [hm]);split at h
  ·rename_i v hv;split at h
   ·exact WY ho h h2
   ·rename_i BE;have:=Ik ho hv;rw [this]at h1;cases h1;exact BE rfl
  ·split at h
   ·rename_i hn;exact WY ho hn h2
   ·cases h
def V.sk:V T→SK→Bool
 | .v (.i k) _, .int k'=>k==k'
 | .v .b _, .bool=>true
 | .v .s _, .str=>true
 |_,_=>false
def Na:List (V T)→List SK→Bool
 | [], []=>true
 |v::vs,k::ks=>v.sk k&&Na vs ks
 |_,_=>false
theorem jY: ∀{vs:List (V T)} {ks:List SK},Na vs ks=true→(vs.map V.den).map AV.sk=ks.map some
 | [], [],_=>rfl
 |v::vs,k::ks,h=>by
  simp only [Na,Ac]at h;simp only [List.map_cons,jY h.2];congr 1;unfold V.sk at h;have h1:=h.1;split at h1
  ·simp only [beq_iff_eq]at h1;subst h1;rfl
  ·rfl
  ·rfl
  ·cases h1
 | [],_::_,h=>by simp [Na]at h
 |_::_, [],h=>by simp [Na]at h
def V.my:V T→Bool
 | .rf _=>true
 | .cl _ _=>true
 | .pf .. =>true
 |x=>x.one
theorem V.lr {v:V T} (h:v.my=true):(∀cs,v.den≠ .agg cs)∧ ∀cs,v.den≠ .tup cs:=by
 cases v with
 |rf x=>simp [V.den]
 |cl f vs=>simp [V.den]
 |pf=>simp [V.den]
 |v t x=>exact(V.one_cells (v:= .v t x) h).2
 |nl=>exact(V.one_cells (v:= .nl) rfl).2
 |li vs=>exact(V.one_cells (v:= .li vs) rfl).2
 |rp n z=>exact(V.one_cells (v:= .rp n z) rfl).2
 |ag|tu|no=>simp [V.my,V.one]at h
def V.there:V T→Bool
 | .no=>false
 |_=>true
section
variable (env:List (V T)) (fa:List (Fa T))
def Ub:Cn→Bool
 | .dfd x=>match Ay env fa x with
  |some v=>v.there
  |none=>false
 | .agg x n=>match(Ay env fa x).bind V.lv with
  |some l=>l.ey.length==n
  |none=>false
 | .cells x _=>match Ay env fa x with
  |some v=>v.my
  |none=>false
 | .isref x n=>match Ay env fa x with
  |some (.rf y)=>(match y.nc with
   |some m=>decide (n≤m)
   |none=>false)
  |_=>false
 | .issl x sz=>match Ay env fa x with
  |some v=>v.mr sz
  |none=>false
 | .flat x n g=>match Ay env fa x with
  |some v=>v.nc==some n&&v.flat&&(if g then v.lv.isSome else v.scalar)
  |none=>false
 | .flatS x sz=>match Ay env fa x with
  |some v=>v.mr sz&&v.ir
  |none=>false
 | .kinds x ks=>match(Ay env fa x).bind V.lv with
  |some l=>Na l.ey ks
  |none=>false
 | .inb i x sz=>match Ay env fa (.idx x i)with
  |some v=>v.nc==some sz&&(Td fa i x)
  |none=>false
 | .inbS i x=>(O6 x i fa).isSome
 | .nz x=>match x with
  | .int _ n=>decide (n≠0)
  |_=>false
 | .nn x=>match x with
  | .int _ n=>decide (0≤n)
  |_=>false
 |_=>false
end
theorem V.jq {v:V T} (h:v.there=true):v.den≠ .undef:=by
 cases v with
 |v t x=>
  cases t with
  |st n=>simp only [V.den,Bn];rw [T.iy];intro h;cases h
  |_=>intro h;cases h
 |no=>cases h
 |_=>intro h;cases h
theorem qG {env:List (V T)} {fa:List (Fa T)} (ho:CO (env.map V.den) fa) {c:Cn} (h:Ub env fa c=true):c.den (env.map V.den):=by
 cases c<;>simp only [Ub]at h
 case dfd x=>
  split at h
  ·rename_i v hv;simp only [Cn.den,Be ho x hv];exact V.jq h
  ·cases h
 case agg x n=>
  split at h
  ·rename_i l hl;obtain⟨v,hv,hl⟩:=Ao.1 hl;exact⟨l.den,by rw [Be ho x hv,V.dr hl],by rw [←VL.dz];simpa using h⟩
  ·cases h
 case cells x n=>
  split at h
  ·rename_i v hv;simp only [Cn.den,Be ho x hv];exact V.lr h
  ·cases h
 case isref x n=>
  split at h
  ·rename_i y hv;split at h
   ·rename_i m hm;exact⟨y.den,Be ho x hv,by rw [V.gk hm];simpa using h⟩
   ·cases h
  ·cases h
 case issl x sz=>
  split at h
  ·rename_i v hv;simp only [Cn.den,Be ho x hv];exact V.iu h
  ·cases h
 case flat x n g=>
  split at h
  ·rename_i v hv;simp only [Ac,beq_iff_eq]at h;simp only [Cn.den,Be ho x hv];refine⟨V.gk h.1.1,V.gl h.1.2,fun hg=> ?_,fun hg=> ?_⟩
   ·rw [if_pos hg]at h;obtain⟨l,hl⟩:=Option.isSome_iff_exists.1 h.2;exact⟨_,V.dr hl⟩
   ·rw [if_neg (by rw [hg];simp)]at h;exact V.fc h.2
  ·cases h
 case flatS x sz=>
  split at h
  ·rename_i v hv;simp only [Ac]at h;simp only [Cn.den,Be ho x hv];obtain⟨xs,h1,h2⟩:=V.iu h.1;obtain⟨ys,h3,h4⟩:=V.iq h.2;rw [h1]at h3;cases h3;exact⟨xs,h1,fun y hy=>⟨h2 y hy,h4 y hy⟩⟩
  ·cases h
 case kinds x ks=>
  split at h
  ·rename_i l hl;obtain⟨v,hv,hl⟩:=Ao.1 hl;exact⟨l.den,by rw [Be ho x hv,V.dr hl],by rw [←VL.br];exact jY h⟩
  ·cases h
 case inb i x sz=>
  split at h
  ·rename_i v hv;simp only [Ac,beq_iff_eq]at h;obtain⟨xs,k,n,h1,h2,h3,h4⟩:=o5 ho h.2;have h5:=Be ho (.idx x i) hv;simp only [E.den,h1,h2,AV.idx]at h5;refine⟨k,n,xs.length,h2,h3,by rw [h1];rfl,h4, ?_⟩;rw [h1,h5];exact V.gk h.1
  ·cases h
 case inbS i x=>
  obtain⟨y,hy⟩:=Option.isSome_iff_exists.1 h;obtain⟨k,n,s,h1,h2,h3,h4,_⟩:=Xb hy ho;exact⟨k,n,s,h1,h2,h3,h4⟩
 case nz x=>
  split at h
  ·rename_i k n;exact⟨k,n,rfl,by simpa using h⟩
  ·cases h
 case nn x=>
  split at h
  ·rename_i k n;exact⟨k,n,rfl,by simpa using h⟩
  ·cases h
 all_goals cases h
def Tr.jl:Tr→Nat
 | .ite _ a b=>a.jl+b.jl
 | .c6 _ _ k=>k.jl
 | .call _ _ _ k=>k.jl
 | .cq _ _ k=>k.jl
 | .join t k=>t.jl+k.jl+1
 | .loop _ b k=>b.jl+k.jl+1
 |_=>0
abbrev JT (T:Hi) (X:Type):=List (Fa T)→VL T→Option X
def Pg {X σ:Type} (j:JT T X):JT T (σ ⊕ Option X):=fun fa vs=>some (.inr (j fa vs))
def ask {X:Type} (env:List (V T)) (fa:List (Fa T)) (c:E) (go:List (Fa T)→Option X):Option X:=
 match(Ay env fa c).bind V.bool? with
 |some x=>if x=true then go (JL env.length fa c true)else go (JL env.length fa c false)
 |none=>none
def Nd (n:Nat) (fa:List (Fa T)) (f:Fa T):List (Fa T):=if f.sc n then f::fa else fa
noncomputable def ZM {X:Type} (env:List (V T)) (fa:List (Fa T)) (c:Cn) (go:List (Fa T)→Option X):Option X:=
 match c with
 | .inb i x sz=>match(Ay env fa x).bind V.m5,(Ay env fa i).bind V.int? with
  |some ⟨t,xs⟩,some p=>if TS T t=sz then(Aj xs p.2).bind fun y=>go (Nd env.length fa (.ix x i (.v t y)))else none
  |_,_=>none
 | .inbS i x=>match(Ay env fa x).bind V.str?,(Ay env fa i).bind V.int? with
  |some s,some p=>(Aj s p.2).bind fun y=>go (Nd env.length fa (.sx x i y))
  |_,_=>none
 | .win x a b=>match(Ay env fa x).bind V.il,(Ay env fa a).bind V.int?,(Ay env fa b).bind V.int? with
  |some m,some p,some q=>A0 (0≤p.2∧p.2≤q.2∧q.2≤m) (go fa)
  |_,_,_=>none
 | .winS x a b=>match(Ay env fa x).bind V.str?,(Ay env fa a).bind V.int?,(Ay env fa b).bind V.int? with
  |some s,some p,some q=>A0 (0≤p.2∧p.2≤q.2∧q.2≤(s.length:Int)) (go fa)
  |_,_,_=>none
 | .room x y bytes=>match(Ay env fa x).bind V.il,(Ay env fa y).bind V.il with
  |some m,some k=>A0 ((m+k)*bytes≤140737488355328∧m+k≤140737488355328) (go fa)
  |_,_=>none
 | .roomS x y=>match(Ay env fa x).bind V.str?,(Ay env fa y).bind V.str? with
  |some a,some b=>A0 (a.length+b.length≤9223372036854775807) (go fa)
  |_,_=>none
 | .mkroom n bytes=>match(Ay env fa n).bind V.int? with
  |some p=>A0 (0≤p.2∧p.2*bytes≤140737488355328∧p.2≤140737488355328) (go fa)
  |none=>none
 | .nz x=>match(Ay env fa x).bind V.int? with
  |some p=>A0 (p.2≠0) (go fa)
  |none=>none
 | .nn x=>match(Ay env fa x).bind V.int? with
  |some p=>A0 (0≤p.2) (go fa)
  |none=>none
 | .dfd (.text y)=>match Ay env fa y with
  |some v=>(match v.to (.l (.i .u8))with
   |some l=>A0 (l.length≤9223372036854775807) (go (Nd env.length fa (.tx y)))
   |none=>none)
  |none=>none
 |_=>none
inductive JM where
 |inl
 |pt
 |sp (ts:List Ty)
def TW (n:Nat) (fa:List (Fa T)):List (Fa T):=fa.filter fun f=>f.sc n
noncomputable def BY (tb:List (FN T)):Nat→{X:Type}→(V T→Option X)→Tr→List JM→List (V T)→List (Fa T)→List (JT T X)→Option X
 |0,_,_,_,_,_,_,_=>none
 |n+1,X,rt,t,h,env,fa,js=>match t with
  | .ret r=>match Ay env fa r with
   |some v=>rt v
   |none=>none
  | .jmp d es=>match js[d]?,HF env fa es with
   |some j,some vs=>j fa vs
   |_,_=>none
  | .ite c a b=>match Hx fa c with
   |some true=>BY tb n rt a h env fa js
   |some false=>BY tb n rt b (h.drop a.jl) env fa js
   |none=>match(Ay env fa c).bind V.bool? with
    |some x=>if x=true then BY tb n rt a h env (JL env.length fa c true) js else BY tb n rt b (h.drop a.jl) env (JL env.length fa c false) js
    |none=>ask env fa (Pb fa c) fun fa=>BY tb n rt t h env fa js
  | .c6 gs c k=>match OY fa gs with
   | .no=>BY tb n rt k h env fa js
   | .yes=>(match Ub env fa c with
    |true=>BY tb n rt k h env fa js
    |false=>ZM env fa c fun fa=>BY tb n rt k h env fa js)
   | .ask a=>(match Ub env fa c with
    |true=>BY tb n rt k h env fa js
    |false=>ask env fa a fun fa=>BY tb n rt t h env fa js)
  | .call gs f args k=>match OY fa gs with
   | .no=>BY tb n rt k h (env++ [.no]) fa js
   | .ask a=>ask env fa a fun fa=>BY tb n rt t h env fa js
   | .yes=>match f with
    | .inl g=>(match SZ g tb,HF env fa args with
     |some e,some vs=>(match Nh tb vs e.ps with
      |some xs=>(e.φ xs).bind fun y=>BY tb n rt k h (env++ [vR e.r y]) fa js
      |none=>none)
     |_,_=>none)
    | .inr x=>(match x with
     | .var i=>(match env[i]? with
      |some (.pf aa r c _)=>if gM T r then(match(HF env fa args).bind fun vs=>vs.ln aa with
       |some ys=>(c.φ ys).bind fun y=>BY tb n rt k h (env++ [.v r y]) fa js
       |none=>none)else none
      |_=>none)
     |_=>none)
  | .join t k=>match h with
   | .sp ts::h=>Tf (σ:=HS T.car ts) (BY tb n (fun v=>some (.inr (rt v))) t h env fa ((fun _ vs=>match KO ts vs.ey with
     |some s=>some (.inl s)
     |none=>none)::js.map Pg)) fun s=>BY tb n rt k (h.drop t.jl) (env++FW ts s) fa js
   | .pt::h=>BY tb n rt t h env fa ((fun _ vs=>BY tb n rt k (h.drop t.jl) (env++vs.ey) fa js)::js)
   |h=>BY tb n rt t h.tail env fa ((fun fa' vs=>BY tb n rt k (h.tail.drop t.jl) (env++vs.ey) (TW env.length fa') js)::js)
  | .loop i b k=>match h with
   | .sp ts::h=>(match(HF env fa i).bind fun vs=>KO ts vs.ey with
    |some s=>Aq (σ:=HS T.car ts) (fun s=>BY tb n (fun v=>some (.inr (rt v))) b h (env++FW ts s) fa ((fun _ vs=>match KO ts vs.ey with
      |some s=>some (.inl s)
      |none=>none)::(fun _ vs=>some (.inr (BY tb n rt k (h.drop b.jl) (env++vs.ey) fa js)))::js.map Pg)) s
    |none=>none)
   |_=>none
  |_=>none
end Go.Proofs.YtmbknelgbjlhnaaGreat
end
section
namespace Go.Proofs.YtmbknelgbjlhnaaGreat
open Go.RowKit
variable {T:Hi}
inductive HJ (ρ:List AV) {X:Type} (x:X):List (JT T X)→List JK→Prop where
 |nil:HJ ρ x [] []
 |cons {j:JT T X} {jk:JK} {js jks}:(∀fa vs τ,CO (ρ++τ) fa→(∀f∈fa,f.sc (ρ++τ).length=true)→j fa vs=some x→jk vs.den)→HJ ρ x js jks→HJ ρ x (j::js) (jk::jks)
theorem HJ.get {ρ:List AV} {X:Type} {x:X} {js:List (JT T X)} {jks:List JK} (h:HJ ρ x js jks): ∀{d:Nat} {j:JT T X},js[d]?=some j→ ∃jk,jks[d]?=some jk∧ ∀fa vs τ,CO (ρ++τ) fa→(∀f∈fa,f.sc (ρ++τ).length=true)→j fa vs=some x→jk vs.den:=by
 induction h with
 |nil=>intro d j hd;simp at hd
 |cons h1 _ ih=>
  intro d j hd;cases d with
  |zero=>simp at hd;subst hd;exact⟨_,rfl,h1⟩
  |succ d=>simpa using ih (by simpa using hd)
theorem HJ.ext {ρ σ:List AV} {X:Type} {x:X} {js:List (JT T X)} {jks:List JK} (h:HJ ρ x js jks):HJ (ρ++σ) x js jks:=by
 induction h with
 |nil=>exact .nil
 |cons h1 _ ih=>exact .cons (fun fa vs τ ha hs hj=>h1 fa vs (σ++τ) (by rwa [←List.append_assoc]) (by rwa [←List.append_assoc]) hj) ih
theorem HJ.lift {ρ:List AV} {X σ:Type} {x:X} {js:List (JT T X)} {jks:List JK} (h:HJ ρ x js jks):HJ ρ (.inr (some x):σ ⊕ Option X) (js.map Pg) jks:=by
 induction h with
 |nil=>exact .nil
 |cons h1 _ ih=>exact .cons (fun fa vs τ ha hs hj=>h1 fa vs τ ha hs (by simpa [Pg]using hj)) ih
theorem HJ.lj {ρ:List AV} {X σ:Type} {x:X} {s:σ} {js:List (JT T X)} {jks:List JK} (h:HJ ρ x js jks):HJ ρ (.inl s:σ ⊕ Option X) (js.map Pg) jks:=by
 induction h with
 |nil=>exact .nil
 |cons h1 _ ih=>exact .cons (fun fa vs τ ha hs hj=>by simp [Pg]at hj) ih
theorem Mv {ρ τ:List AV} {fa:List (Fa T)} (ho:CO ρ fa) (hs: ∀f∈fa,f.sc ρ.length=true):CO (ρ++τ) fa∧ ∀f∈fa,f.sc (ρ++τ).length=true:=
 ⟨fun f hf=>Fa.move (τ:= []) (hs f hf) (by simpa using ho f hf),fun f hf=>Fa.cf (by simp) (hs f hf)⟩
theorem wI {ρ τ τ':List AV} {fa:List (Fa T)} (ho:CO (ρ++τ) fa):CO (ρ++τ') (TW ρ.length fa)∧ ∀f∈TW ρ.length fa,f.sc (ρ++τ').length=true:=by
 constructor
 ·intro f hf;obtain⟨h1,h2⟩:=List.mem_filter.1 hf;exact Fa.move h2 (ho f h1)
 ·intro f hf;obtain⟨h1,h2⟩:=List.mem_filter.1 hf;exact Fa.cf (by simp) h2
theorem fS {ρ:List AV} {fa:List (Fa T)} {f:Fa T} (ho:CO ρ fa) (hs: ∀g∈fa,g.sc ρ.length=true) (hf:f.OK ρ):CO ρ (Nd ρ.length fa f)∧ ∀g∈Nd ρ.length fa f,g.sc ρ.length=true:=by
 unfold Nd;split
 ·rename_i hc;exact⟨fun g hg=>by rcases Ae.1 hg with rfl|hg;exact hf;exact ho g hg,fun g hg=>by rcases Ae.1 hg with rfl|hg;exact hc;exact hs g hg⟩
 ·exact⟨ho,hs⟩
section
variable {env:List (V T)} {fa:List (Fa T)} {X:Type} {x:X}
theorem zB (ho:CO (env.map V.den) fa) (hs: ∀f∈fa,f.sc env.length=true) {c:E} {go:List (Fa T)→Option X} (h:ask env fa c go=some x): ∃fa',CO (env.map V.den) fa'∧(∀f∈fa',f.sc env.length=true)∧go fa'=some x:=by
 unfold ask at h;split at h
 ·rename_i b hb;obtain⟨v,hv,hb⟩:=Ao.1 hb;have hc:c.den (env.map V.den)= .bool b:=by rw [Be ho c hv,V.bool?_den hb]
  cases b with
  |true=>rw [if_pos rfl]at h;exact⟨_,Sw ho hc,SN hs,h⟩
  |false=>rw [if_neg (by simp)]at h;exact⟨_,Sw ho hc,SN hs,h⟩
 ·cases h
theorem J3 (ho:CO (env.map V.den) fa) {e:E} {p:IntKind × Int} (h:(Ay env fa e).bind V.int?=some p):e.den (env.map V.den)= .int p.1 p.2:=by obtain⟨v,hv,hp⟩:=Ao.1 h;rw [Be ho e hv,V.int?_den (k:=p.1) (n:=p.2) hp]
theorem XL (ho:CO (env.map V.den) fa) {e:E} {s:List UInt8} (h:(Ay env fa e).bind V.str?=some s):e.den (env.map V.den)= .str s:=by obtain⟨v,hv,hp⟩:=Ao.1 h;rw [Be ho e hv,V.str?_den hp]
theorem fY (ho:CO (env.map V.den) fa) {e:E} {m:Int} (h:(Ay env fa e).bind V.il=some m):(e.den (env.map V.den)).len= .int .i64 m:=by obtain⟨v,hv,hp⟩:=Ao.1 h;obtain⟨xs,h1,h2⟩:=V.gy hp;rw [Be ho e hv,h1,←h2];rfl
theorem xA (ho:CO (env.map V.den) fa) (hs: ∀f∈fa,f.sc env.length=true) {c:Cn} {go:List (Fa T)→Option X} (h:ZM env fa c go=some x):c.den (env.map V.den)∧ ∃fa',CO (env.map V.den) fa'∧(∀f∈fa',f.sc env.length=true)∧go fa'=some x:=by
 have hl:(env.map V.den).length=env.length:=by simp
 have AY: ∀f∈fa,f.sc (env.map V.den).length=true:=by rwa [hl]
 unfold ZM at h;split at h
 case h_1 i y sz=>
  split at h
  ·rename_i t xs p hx hp;split at h
   ·rename_i ht;obtain⟨z,hz,h⟩:=Pf h;obtain⟨h1,h2,h3⟩:=TZ hz;obtain⟨vx,M8,tO⟩:=Ao.1 hx;have CV:=(Be ho y M8).trans (V.kd tO);have Bq:=J3 ho hp;have M9:(xs.map (Bn T.av t))[p.2.toNat]?=some (Bn T.av t z):=by rw [List.getElem?_map,h3];rfl
    refine⟨⟨p.1,p.2,xs.length,Bq,h1,by rw [CV];simp [AV.len],h2, ?_⟩, ?_⟩
    ·rw [CV];simp only [AV.nth,M9,Option.getD_some];rw [XF,ht]
    ·rw [←hl]at h;obtain⟨g1,g2⟩:=fS (f:= .ix y i (.v t z)) ho AY ⟨p.1,p.2,_,Bq,CV,h1,by simpa using h2,M9⟩;rw [hl]at g1 g2;exact⟨_,g1,g2,by rw [hl]at h;exact h⟩
   ·cases h
  ·cases h
 case h_2 i y=>
  split at h
  ·rename_i s p hx hp;obtain⟨z,hz,h⟩:=Pf h;obtain⟨h1,h2,h3⟩:=TZ hz;have CV:=XL ho hx;have Bq:=J3 ho hp;refine⟨⟨p.1,p.2,s,Bq,CV,h1,h2⟩, ?_⟩;rw [←hl]at h;obtain⟨g1,g2⟩:=fS (f:= .sx y i z) ho AY ⟨p.1,p.2,_,Bq,CV,h1,h2,h3⟩;rw [hl]at g1 g2;exact⟨_,g1,g2,by rw [hl]at h;exact h⟩
  ·cases h
 case h_3 y a b=>
  split at h
  ·rename_i m p q hm hp hq;obtain⟨hr,h⟩:=HD h;exact⟨⟨_,_,_,_,m,J3 ho hp,J3 ho hq,fY ho hm,hr.1,hr.2.1,hr.2.2⟩,fa,ho,hs,h⟩
  ·cases h
 case h_4 y a b=>
  split at h
  ·rename_i s p q hm hp hq;obtain⟨hr,h⟩:=HD h;exact⟨⟨_,_,_,_,s,J3 ho hp,J3 ho hq,XL ho hm,hr.1,hr.2.1,hr.2.2⟩,fa,ho,hs,h⟩
  ·cases h
 case h_5 a b bytes=>
  split at h
  ·rename_i m k hm hk;obtain⟨hr,h⟩:=HD h;exact⟨⟨m,k,fY ho hm,fY ho hk,hr.1,hr.2⟩,fa,ho,hs,h⟩
  ·cases h
 case h_6 a b=>
  split at h
  ·rename_i m k hm hk;obtain⟨hr,h⟩:=HD h;exact⟨⟨m,k,XL ho hm,XL ho hk,hr⟩,fa,ho,hs,h⟩
  ·cases h
 case h_7 a bytes=>
  split at h
  ·rename_i p hp;obtain⟨hr,h⟩:=HD h;exact⟨⟨p.1,p.2,J3 ho hp,hr.1,hr.2.1,hr.2.2⟩,fa,ho,hs,h⟩
  ·cases h
 case h_8 a=>
  split at h
  ·rename_i p hp;obtain⟨hr,h⟩:=HD h;exact⟨⟨p.1,p.2,J3 ho hp,hr⟩,fa,ho,hs,h⟩
  ·cases h
 case h_9 a=>
  split at h
  ·rename_i p hp;obtain⟨hr,h⟩:=HD h;exact⟨⟨p.1,p.2,J3 ho hp,hr⟩,fa,ho,hs,h⟩
  ·cases h
 case h_10 y=>
  split at h
  ·rename_i v hv;split at h
   ·rename_i l PZ;obtain⟨hr,h⟩:=HD h;have h2:=Be ho y hv;rw [V.cz _ PZ]at h2;have key: ∀l:List Int,KP (l.map fun n=>AV.int .u8 n)=some (l.map fun n=>UInt8.ofNat n.toNat):=by
     intro l
     induction l with
     |nil=>rfl
     |cons n l ih=>simp [KP,ih]
    have ht:(y.den (env.map V.den)).text≠ .undef:=by rw [h2];simp only [AV.text,Bn,show(List.map (Bn T.av (.i .u8)) l)=l.map (fun n=>AV.int .u8 n)from rfl,key l,List.length_map];rw [if_pos hr];intro h;cases h
    refine⟨by simpa [Cn.den,E.den]using ht, ?_⟩;rw [←hl]at h;obtain⟨g1,g2⟩:=fS (f:= .tx y) ho AY ht;rw [hl]at g1 g2;exact⟨_,g1,g2,by rw [hl]at h;exact h⟩
   ·cases h
  ·cases h
 case h_11=>cases h
end
theorem DX (tb:List (FN T)) {R:AV→Prop} {L:LK}: ∀(n:Nat) {X:Type} {rt:V T→Option X} {t:Tr} {h:List JM} {env:List (V T)} {fa:List (Fa T)} {js:List (JT T X)} {jks:List JK} {x:X},
  CO (env.map V.den) fa→(∀f∈fa,f.sc env.length=true)→(∀v,rt v=some x→R v.den)→HJ (env.map V.den) x js jks→BY tb n rt t h env fa js=some x→t.den T.Rt R L jks (env.map V.den)
 |0,_,_,_,_,_,_,_,_,_,_,_,_,_,e=>by simp [BY]at e
 |n+1,X,rt,t,h,env,fa,js,jks,x,ho,hs,hr,hj,e=>by
  have hl:(env.map V.den).length=env.length:=by simp
  have AY: ∀f∈fa,f.sc (env.map V.den).length=true:=by rwa [hl]
  have Jn: ∀{c:E},(ask env fa c fun fa=>BY tb n rt t h env fa js)=some x→t.den T.Rt R L jks (env.map V.den):=fun e=>by obtain⟨fa',h1,h2,h3⟩:=zB ho hs e;exact DX tb n h1 h2 hr hj h3
  cases t with
  |leaf|stuck|cq=>simp [BY]at e
  |ret r=>
   simp only [BY]at e;split at e
   ·rename_i v hv;show R (r.den _);rw [Be ho r hv];exact hr v e
   ·cases e
  |jmp d es=>
   simp only [BY]at e;split at e
   ·rename_i j vs hd hv;obtain⟨jk,hk,hq⟩:=hj.get hd;show match jks[d]? with|some j=>j (es.den _)|none=>False
    rw [hk,J4 ho es hv];exact hq fa vs [] (by simpa using ho) (by simpa using hs) e
   ·cases e
  |ite c a b=>
   simp only [BY]at e;split at e
   ·rename_i hc;exact⟨true,Ik ho hc,fun _=>DX tb n ho hs hr hj e,fun h=>by cases h⟩
   ·rename_i hc;exact⟨false,Ik ho hc,fun h=>(by cases h),fun _=>DX tb n ho hs hr hj e⟩
   ·split at e
    ·rename_i y hy;obtain⟨v,hv,hy⟩:=Ao.1 hy;have hc:c.den (env.map V.den)= .bool y:=by rw [Be ho c hv,V.bool?_den hy]
     cases y with
     |true=>rw [if_pos rfl]at e;exact⟨true,hc,fun _=>DX tb n (Sw ho hc) (SN hs) hr hj e,fun h=>by cases h⟩
     |false=>rw [if_neg (by simp)]at e;exact⟨false,hc,fun h=>(by cases h),fun _=>DX tb n (Sw ho hc) (SN hs) hr hj e⟩
    ·exact Jn e
  |c6 gs c k=>
   simp only [BY]at e;split at e
   ·rename_i hg;exact⟨fun h=>absurd h (WY ho hg),DX tb n ho hs hr hj e⟩
   ·split at e
    ·rename_i hc;exact⟨fun _=>qG ho hc,DX tb n ho hs hr hj e⟩
    ·obtain⟨hc,fa',h1,h2,h3⟩:=xA ho hs e;exact⟨fun _=>hc,DX tb n h1 h2 hr hj h3⟩
   ·split at e
    ·rename_i hc;exact⟨fun _=>qG ho hc,DX tb n ho hs hr hj e⟩
    ·exact Jn e
  |call gs f args k=>
   simp only [BY]at e;split at e
   ·rename_i hg;refine⟨.undef,fun h=>absurd h (WY ho hg), ?_⟩;obtain⟨h1,h2⟩:=Mv (τ:= [AV.undef]) ho AY;have:=DX tb n (R:=R) (L:=L) (env:=env++ [.no]) (by simpa [V.den]using h1) (by simpa using h2) hr (by simpa [V.den]using hj.ext (σ:= [AV.undef])) e;simpa [V.den]using this
   ·exact Jn e
   ·split at e
    ·rename_i g;split at e
     ·rename_i d vs hd hv;split at e
      ·rename_i xs Ce;obtain⟨y,hy,e⟩:=Pf e;obtain⟨g1,g2⟩:=qT Ce;refine⟨Fl T d.r y,fun _=> ?_, ?_⟩
       ·show T.Rt g (args.den _) _;rw [J4 ho args hv,g1,←fD hd];exact d.ok xs y g2 hy
       ·obtain⟨h1,h2⟩:=Mv (τ:= [Fl T d.r y]) ho AY;have:=DX tb n (R:=R) (L:=L) (env:=env++ [vR d.r y]) (by simpa [SY]using h1) (by simpa using h2) hr (by simpa [SY]using hj.ext (σ:= [Fl T d.r y])) e;simpa [SY]using this
      ·cases e
     ·cases e
    ·rename_i z;split at e
     ·rename_i i;split at e
      ·rename_i aa r c hc hi;split at e
       ·rename_i Fq;split at e
        ·rename_i ys CN;obtain⟨vs,hv,CN⟩:=Ao.1 CN;obtain⟨y,hy,e⟩:=Pf e;refine⟨Bn T.av r y,fun _=>⟨c.g,c.caps, ?_, ?_,WW Fq y⟩, ?_⟩
         ·simp only [E.den,List.getElem?_map,hi];rfl
         ·rw [J4 ho args hv,VL.gv vs CN];exact hc ys y hy
         ·obtain⟨h1,h2⟩:=Mv (τ:= [Bn T.av r y]) ho AY;have:=DX tb n (R:=R) (L:=L) (env:=env++ [.v r y]) (by simpa [V.den]using h1) (by simpa using h2) hr (by simpa [V.den]using hj.ext (σ:= [Bn T.av r y])) e;simpa [V.den]using this
        ·cases e
       ·cases e
      ·cases e
     ·cases e
  |join a k=>
   have inl: ∀h',BY tb n rt a h' env fa ((fun fa' vs=>BY tb n rt k (h'.drop a.jl) (env++vs.ey) (TW env.length fa') js)::js)=some x→(Tr.join a k).den T.Rt R L jks (env.map V.den):=by intro h' e;show a.den T.Rt R L _ _;refine DX tb n ho hs hr (.cons (fun fa' vs τ h1 h2 h3=> ?_) hj) e;have hf:=wI (τ':=vs.den) h1;rw [hl]at hf;have:=DX tb n (R:=R) (L:=L) (env:=env++vs.ey) (by simpa [VL.br]using hf.1) (by have:=hf.2;simpa [VL.dz]using this) hr (by simpa [VL.br]using hj.ext (σ:=vs.den)) h3;simpa [VL.br]using this
   cases h with
   |nil=>exact inl [] (by simpa [BY]using e)
   |cons o h=>
    cases o with
    |inl=>exact inl h (by simpa [BY]using e)
    |pt=>simp only [BY]at e;show a.den T.Rt R L _ _;refine DX tb n ho hs hr (.cons (fun fa' vs τ h1 h2 h3=> ?_) hj) e;obtain⟨h4,h5⟩:=Mv (τ:=vs.den) ho AY;have:=DX tb n (R:=R) (L:=L) (env:=env++vs.ey) (by simpa [VL.br]using h4) (by simpa [VL.dz]using h5) hr (by simpa [VL.br]using hj.ext (σ:=vs.den)) h3;simpa [VL.br]using this
    |sp ts=>
     simp only [BY]at e;show a.den T.Rt R L _ _;unfold Tf at e;split at e
     ·cases e
     ·rename_i s Br;have hk:k.den T.Rt R L jks (env.map V.den++(FW ts s).map V.den):=by
       obtain⟨h1,h2⟩:=Mv (τ:=(FW ts s).map V.den) ho AY;have:=DX tb n (R:=R) (L:=L) (env:=env++FW ts s) (by simpa using h1) (by simpa using h2) hr (by simpa using hj.ext (σ:=(FW ts s).map V.den)) e;simpa using this
      refine DX tb n ho hs (fun v hv=>by simp at hv) (.cons (fun fa' vs τ h1 h2 h3=> ?_) hj.lj) Br;split at h3
      ·rename_i s' AY;simp only [Ab,Sum.inl.injEq]at h3;subst h3;rw [←VL.br,Xw ts AY];exact hk
      ·cases h3
     ·rename_i o TH;subst e;refine DX tb n ho hs (fun v hv=>hr v (by simpa using hv)) (.cons (fun fa' vs τ h1 h2 h3=> ?_) hj.lift) TH;split at h3<;>simp at h3
  |loop i b k=>
   cases h with
   |nil=>simp [BY]at e
   |cons o h=>
    cases o with
    |inl|pt=>simp [BY]at e
    |sp ts=>
     simp only [BY]at e;split at e
     ·rename_i s iW;obtain⟨vs,hv,Br⟩:=Ao.1 iW;clear iW;obtain⟨m,hm⟩:=W0.1 e;refine⟨m, ?_⟩;rw [J4 ho i hv,←VL.br,Xw ts Br];clear Br e hv Jn;have fx: ∀s:HS T.car ts,CO ((env++FW ts s).map V.den) fa∧(∀f∈fa,f.sc (env++FW ts s).length=true)∧HJ ((env++FW ts s).map V.den) x js jks:=fun s=>by
       obtain⟨h1,h2⟩:=Mv (τ:=(FW ts s).map V.den) ho AY;exact⟨by simpa using h1,by simpa using h2,by simpa using hj.ext (σ:=(FW ts s).map V.den)⟩
      have hA: ∀(vs:VL T),BY tb n rt k (h.drop b.jl) (env++vs.ey) fa js=some x→k.den T.Rt R L jks (env.map V.den++vs.den):=fun vs h3=>by obtain⟨h4,h5⟩:=Mv (τ:=vs.den) ho AY;have:=DX tb n (R:=R) (L:=L) (env:=env++vs.ey) (by simpa [VL.br]using h4) (by simpa [VL.dz]using h5) hr (by simpa [VL.br]using hj.ext (σ:=vs.den)) h3;simpa [VL.br]using this
      induction m generalizing s with
      |zero=>cases hm
      |succ m ihm=>
       obtain⟨h1,h2,h3⟩:=fx s;show b.den T.Rt R L _ _;rw [←List.map_append];simp only [Ew]at hm;split at hm
       ·cases hm
       ·rename_i s' hb;refine DX tb n h1 h2 (fun v hv=>by simp at hv) (.cons (fun fa' vs τ q1 q2 q3=> ?_) (.cons (fun fa' vs τ q1 q2 q3=>by simp at q3) h3.lj)) hb;split at q3
        ·rename_i s2 AQ;simp only [Ab,Sum.inl.injEq]at q3;subst q3;rw [←VL.br,Xw ts AQ];exact ihm _ hm
        ·cases q3
       ·rename_i o hb;subst hm;refine DX tb n h1 h2 (fun v hv=>hr v (by simpa using hv)) (.cons (fun fa' vs τ q1 q2 q3=> ?_) (.cons (fun fa' vs τ q1 q2 q3=> ?_) h3.lift)) hb
        ·split at q3<;>simp at q3
        ·exact hA vs (by simpa using q3)
     ·cases e
end Go.Proofs.YtmbknelgbjlhnaaGreat
end
section
namespace Go.Proofs.YtmbknelgbjlhnaaGreat
open Go.RowKit
structure Fix where
 w0:World
 A:Al
 Mu:Nat→Prop
 mh: ∀t v,A.pin t=some v→Lj t=true
def FC (F:Fix) (ρ:List AV) (σ:St) (a:Act) (w:World):Prop:=
 ∃c:Cx,c.ρ=ρ∧c.w=w∧c.w0=F.w0∧c.A=F.A∧c.Mu=F.Mu∧ρ.length=σ.nv∧(∀t,c.U t→t<σ.nx)∧Rel c σ.sl.length (Bd σ) (Aw σ.hp) a
def Xt.ex:Xt→Exit
 | .normal=> .normal
 | .exit i=> .exit i
 | .ret=> .ret
section
variable (P:Program) (sg:BB) (Rt:Nat→List AV→AV→Prop)
def pX:Prop:= ∀(id:Nat) (ops:Array Oper) (draw:Bool) (σ:St) (t:Tr),jJ ops=false→σ.sc=true→(σ.hp.all fun(t,_)=>decide (t<σ.nx))=true→
 Kj P sg ops draw σ.nx (List.range ops.size) [] σ=some t→ ∀(F:Fix) (R:AV→Prop) (L:LK) (js:List JK) (ρ:List AV) (a:Act) (w:World),Iv L→t.den Rt R L js ρ→FC F ρ σ a w→
 ∀Q,(∀i x τ ρ' a' w',ρ<+:ρ'→L (i++js) x τ ρ'→FC F ρ' τ a' w'→Q x.ex a' w')→(Code.region id ops draw).wp P Q a w
def XO:Prop:= ∀(F:Fix) (nv:Nat) (pat τ:St) (es:List E) (ρ ρ':List AV) (a:Act) (w:World),IF nv pat τ=some es→ρ.length=nv→ρ<+:ρ'→FC F ρ' τ a w→FC F (ρ++(EL.of es).den ρ') pat a w
end
section
variable {P:Program} {sg:BB} {Rt:Nat→List AV→AV→Prop} {rs:Nat}
theorem FC.de {F:Fix} {ρ:List AV} {σ:St} {a:Act} {w:World} (h:FC F ρ σ a w) {x:Operand} {s:SV} (hx:Bm (Bd σ) [] x=some s): ∃c:Cx,c.ρ=ρ∧SR c [s] [a.eval x]:=by obtain⟨c,rfl,_,_,_,_,_,_,hr⟩:=h;exact⟨c,rfl,WQ hx (fun t _=>hr.dg t) (D3 _)⟩
theorem mG {run:St→Option Tr} {nv live:Nat} {σ:St}: ∀(n:Nat) (p:St × Nat) {pat:St} {t:Tr},SS run nv live σ n p=some (pat,t)→run pat=some t
 |0,p,pat,t,h=>by simp [SS]at h
 |n+1,p,pat,t,h=>by
  simp only [SS]at h;split at h
  ·cases h
  ·rename_i t' ht;split at h
   ·simp at h;obtain⟨rfl,rfl⟩:=h;exact ht
   ·exact mG n _ h
theorem qV {i js:List JK} {j:JK} {d:Nat} (h:d=i.length):(i++j::js)[d]?=some j:=by subst h;simp
theorem wW {i js:List JK} {j k:JK} {d:Nat} (h:d=i.length):(i++j::k::js)[d+1]?=some k:=by subst h;rw [List.getElem?_append_right (by omega)];simp
def G3 (P:Program) (sg:BB) (Rt:Nat→List AV→AV→Prop) (rs:Nat) (c:Code):Prop:=
 ∀(ex:List (Nat × Nat)) (l:Nat) (σ:St) (t:Tr),DF P sg rs c ex l σ=some t→ ∀(F:Fix) (R:AV→Prop) (L:LK) (js:List JK) (ρ:List AV) (a:Act) (w:World),Iv L→t.den Rt R L js ρ→FC F ρ σ a w→
  ∀Q,(∀i x τ ρ' a' w',ρ<+:ρ'→L (i++js) x τ ρ'→FC F ρ' τ a' w'→Q x.ex a' w')→c.wp P Q a w
theorem G3.leaf {c:Code} (h:G3 P sg Rt rs c) {ex:List (Nat × Nat)} {l:Nat} {σ:St} {t:Tr} (he:DF P sg rs c ex l σ=some t) {F:Fix} {R:AV→Prop} {L:LK} {js:List JK} {ρ:List AV} {a:Act} {w:World} (hL:Iv L) (hd:t.den Rt R L js ρ) (hr:FC F ρ σ a w)
  {Q:Exit→Act→World→Prop} (hq: ∀i x τ ρ' a' w',ρ<+:ρ'→t.fj x τ→L (i++js) x τ ρ'→FC F ρ' τ a' w'→Q x.ex a' w'):c.wp P Q a w:=
 h ex l σ t he F R (fun js x τ ρ=>t.fj x τ∧L js x τ ρ) js ρ a w (fun _ _ _ _ _ hj hh=>⟨hh.1,hL _ _ _ _ _ hj hh.2⟩) (t.fq hd (Dn.refl js) fun _ _ _ _ _ hf hi hl=>⟨hf,hL _ _ _ _ _ (hi.app (Dn.refl js)) hl⟩) hr Q fun i x τ ρ' a' w' hp hh hs=>hq i x τ ρ' a' w' hp hh.1 hh.2 hs
theorem zxw {id:Nat} {b:Code} (ih:G3 P sg Rt rs b):G3 P sg Rt rs (.block id b):=by
 intro ex l σ t he F R L js ρ a w hL hd hr Q hq;simp only [DF,Ao]at he;obtain⟨t0,h0,hs⟩:=he;have h1:=Tr.fm _ hL t0 hs hd;refine wp_block (ih _ _ _ _ h0 F R _ js ρ a w (Sk hL _ _) h1 hr _ fun i x τ ρ' a' w' hp hl Am=> ?_);obtain⟨r,d',e1,e2,e3⟩:=hl;simp only [Ab]at e1;subst e1;have:=hq i _ τ ρ' a' w' hp e3 Am;cases x with
 |normal=>exact this
 |ret=>exact this
 |exit j=>
  simp only [Xt.ex,Exit.inBlock]at this ⊢;split
  ·rename_i hj;simpa [hj,Xt.ex]using this
  ·rename_i hj;simpa [hj,Xt.ex]using this
theorem xQ (hi:XO) {x y:Code} (ihx:G3 P sg Rt rs x) (ihy:G3 P sg Rt rs y):G3 P sg Rt rs (.seq x y):=by
 intro ex l σ t he F R L js ρ a w hL hd hr Q hq;simp only [DF]at he;split at he
 ·cases he
 ·rename_i t0 h0;refine wp_seq ?_;split at he
  ·rename_i hn;simp at he;subst he;refine ihx.leaf h0 hL hd hr fun i x τ ρ' a' w' hp hf hl Am=> ?_;cases x with
   |normal=>have:=hf.norm;rw [hn]at this;simp at this
   |exit j=>exact hq i _ τ ρ' a' w' hp hl Am
   |ret=>exact hq i _ τ ρ' a' w' hp hl Am
  ·rename_i τ0 hn;split at he
   ·cases he
   ·rename_i k hk;have h1:=Tr.fm _ hL t0 he hd;refine ihx.leaf h0 (Sk hL _ _) h1 hr fun i x τ ρ' a' w' hp hf hl Am=> ?_;obtain⟨r,d',e1,e2,e3⟩:=hl;simp only [Ab]at e1;subst e1;cases x with
    |normal=>have:=hf.norm;rw [hn]at this;simp at this;subst this;exact ihy _ _ _ _ hk F R L _ ρ' a' w' hL e3 Am Q fun i' x' τ' ρ'' a'' w'' hp' Bl Cs=>hq (i'++i) x' τ' ρ'' a'' w'' (hp.trans hp') (by simpa using Bl) Cs
    |exit j=>exact hq i _ τ ρ' a' w' hp e3 Am
    |ret=>exact hq i _ τ ρ' a' w' hp e3 Am
  ·split at he
   ·cases he
   ·rename_i pat tA;split at he
    ·cases he
    ·rename_i k hk;obtain⟨t',KJ,rfl⟩:=An.1 he;have h1:=Tr.fm _ hL t0 KJ hd;refine ihx _ _ _ _ h0 F R _ _ ρ a w (Sk hL _ _) h1 hr _ fun i x τ ρ' a' w' hp hl Am=> ?_;obtain⟨r,d',e1,e2,e3⟩:=hl;cases x with
     |normal=>
      obtain⟨es,GJ,rfl⟩:=An.1 e1;have Jp:d'=i.length:=by simp only [AG,AL]at e2;omega
      simp only [Tr.den,qV Jp]at e3;obtain⟨c0,BD,_,_,_,_,E6,_⟩:=hr;have Cs:=hi F _ pat τ es ρ ρ' a' w' GJ E6 hp Am;refine ihy _ _ _ _ hk F R L js _ a' w' hL e3 Cs Q fun i' x' τ' ρ'' a'' w'' hp' Bl Cs=>hq i' x' τ' ρ'' a'' w'' ((List.prefix_append _ _).trans hp') Bl Cs
     |exit j=>simp only [Ab]at e1;subst e1;exact hq (i++ [_]) _ τ ρ' a' w' hp (by simpa [Tr.den]using e3) Am
     |ret=>simp only [Ab]at e1;subst e1;exact hq (i++ [_]) _ τ ρ' a' w' hp (by simpa [Tr.den]using e3) Am
theorem zzw {x:Operand} {p q:Code} (ihp:G3 P sg Rt rs p) (ihq:G3 P sg Rt rs q):G3 P sg Rt rs (.cond x p q):=by
 intro ex l σ t he F R L js ρ a w hL hd hr Q hq;simp only [DF]at he;split at he
 ·rename_i hx;obtain⟨c,rfl,hs⟩:=hr.de hx;have:a.eval x= .bool true:=by
   generalize a.eval x=v at hs;cases hs with
   |e h1 _ _=>exact G2 h1 rfl
  exact wp_cond_true this (ihp _ _ _ _ he F R L js _ a w hL hd hr Q hq)
 ·rename_i hx;obtain⟨c,rfl,hs⟩:=hr.de hx;have:a.eval x= .bool false:=by
   generalize a.eval x=v at hs;cases hs with
   |e h1 _ _=>exact G2 h1 rfl
  exact wp_cond_false this (ihq _ _ _ _ he F R L js _ a w hL hd hr Q hq)
 ·rename_i y _ _ hx;split at he
  ·rename_i ta tb Qp tH;simp at he;subst he;obtain⟨b,hb,d1,d2⟩:=hd;obtain⟨c,rfl,hs⟩:=hr.de hx;have:a.eval x= .bool b:=by
    generalize a.eval x=v at hs;cases hs with
    |e h1 _ _=>exact G2 h1 hb
   exact wp_cond_split this (fun hh=>ihp _ _ _ _ Qp F R L js _ a w hL (d1 hh) hr Q hq) (fun hh=>ihq _ _ _ _ tH F R L js _ a w hL (d2 hh) hr Q hq)
  ·cases he
 ·cases he
theorem QA {p:Nat→Prop} (h: ∃n,p n): ∃n,p n∧ ∀m,p m→n≤m:=by
 obtain⟨n,hn⟩:=h
 induction n using Nat.strongRecOn with
 |_ n ih=>
  by_cases hh: ∃m,m<n∧p m
  ·obtain⟨m,hm,hp⟩:=hh;exact ih m hm hp
  ·exact⟨n,hn,fun m hm=>Nat.le_of_not_lt fun AB=>hh ⟨m,AB,hm⟩⟩
theorem zyB (hi:XO) {b:Code} (ih:G3 P sg Rt rs b):G3 P sg Rt rs (.loop b):=by
 intro ex l σ tr he F R L js ρ a w hL hd hr Q hq;simp only [DF]at he;split at he
 ·cases he
 ·rename_i pat t Dw;have AK:=mG _ _ Dw;split at he
  ·cases he
  ·rename_i i0 sB;obtain⟨k,f,t',Bt,tI,GK,TB,hk⟩: ∃(k:Tr) (f:Nat→Xt→St→Option Tr) (t':Tr),t.sub f 0=some t'∧tr= .loop (EL.of i0) t' k∧
     (∀d τ,f d .normal τ=(IF σ.nv pat τ).map fun es=> .jmp d (EL.of es))∧
     (∀d x τ r,x≠ .normal→f d x τ=some r→r= .leaf x τ∨ ∃post es,k= .leaf x post∧IF σ.nv post τ=some es∧r= .jmp (d+1) (EL.of es))∧True:=by
    split at he
    ·obtain⟨t',KJ,rfl⟩:=An.1 he;refine⟨_,_,t',KJ,rfl,fun _ _=>rfl,fun d x τ r hx hr=> .inl ?_,trivial⟩;cases x with
     |normal=>exact absurd rfl hx
     |exit j=>simpa using hr.symm
     |ret=>simpa using hr.symm
    ·rename_i id hid;split at he
     ·cases he
     ·rename_i post iT;obtain⟨t',KJ,rfl⟩:=An.1 he;refine⟨_,_,t',KJ,rfl,fun _ _=>rfl,fun d x τ r hx hr=> ?_,trivial⟩;cases x with
      |normal=>exact absurd rfl hx
      |exit j=>
       simp only at hr;split at hr
       ·rename_i hj;subst hj;obtain⟨es,GJ,rfl⟩:=An.1 hr;exact .inr ⟨post,es,rfl,GJ,rfl⟩
       ·exact .inl (by simpa using hr.symm)
      |ret=>exact .inl (by simpa using hr.symm)
   subst tI;obtain⟨n0,iQ⟩:=hd;obtain⟨c0,BD,hc2,hc3,hc4,hc5,E6,hc7,hc8⟩:=id hr;generalize Dh:(fun(W:JK) (vs:List AV)=>t'.den Rt R L (W::(fun us=>k.den Rt R L js (ρ++us))::js) (ρ++vs))=body at iQ;let J:Nat→Act→World→Prop:=fun n a w=> ∃vs,HB body n vs∧FC F (ρ++vs) pat a w;have rG:J n0 a w:=⟨_,iQ,hi F _ pat σ i0 ρ ρ a w sB E6 (List.prefix_refl _) hr⟩
   classical
   let μ:Act→World→Nat:=fun a w=>if h: ∃n,J n a w then Classical.choose (QA h)else 0;refine wp_loop (fun a w=> ∃n,J n a w) μ ⟨n0,rG⟩ fun a1 w1 hI=> ?_;have hμ:μ a1 w1=Classical.choose (QA hI):=by simp only [μ];rw [dif_pos hI]
   have hJ:=(Classical.choose_spec (QA hI)).1;rw [hμ];generalize Classical.choose (QA hI)=m at hJ;obtain⟨vs,IB,Am⟩:=hJ;cases m with
   |zero=>exact IB.elim
   |succ m=>
    have hb:t'.den Rt R L (HB body m::(fun us=>k.den Rt R L js (ρ++us))::js) (ρ++vs):=by have h9:HB body (m+1) vs=body (HB body m) vs:=rfl;rw [h9]at IB;have:=congrFun (congrFun Dh (HB body m)) vs;rw [←this]at IB;exact IB
    have h1:=Tr.fm _ hL t Bt hb;refine ih _ _ _ _ AK F R _ _ _ a1 w1 (Sk hL _ _) h1 Am _ fun i x τ ρ' a' w' hp hl Cs=> ?_;obtain⟨r,d',e1,e2,e3⟩:=hl;have Jp:d'=i.length:=by simp only [AG,AL]at e2;omega
    have hp':ρ<+:ρ':=(List.prefix_append _ _).trans hp;by_cases hx:x= .normal
    ·subst hx;rw [GK]at e1;obtain⟨es,GJ,rfl⟩:=An.1 e1;simp only [Tr.den,qV Jp]at e3;have Tt:J m a' w':=⟨_,e3,hi F _ pat τ es ρ ρ' a' w' GJ E6 hp' Cs⟩
     refine⟨⟨m,Tt⟩, ?_⟩;simp only [μ];rw [dif_pos ⟨m,Tt⟩];exact Nat.lt_succ_of_le ((Classical.choose_spec (QA ⟨m,Tt⟩)).2 _ Tt)
    ·have Qq:Q x.ex a' w'→Exit.then (fun a' w'=>(∃n,J n a' w')∧μ a' w'<m+1) Q x.ex a' w':=by
      cases x with
      |normal=>exact absurd rfl hx
      |exit j=>exact id
      |ret=>exact id
     apply Qq;rcases TB _ _ _ _ hx e1 with rfl|⟨post,es,rfl,GJ,rfl⟩
     ·exact hq (i++ [_,_]) x τ ρ' a' w' hp' (by simpa [Tr.den]using e3) Cs
     ·simp only [Tr.den,wW Jp]at e3;have:=hi F _ post τ es ρ ρ' a' w' GJ E6 hp' Cs;exact hq [] x post _ a' w' (List.prefix_append _ _) e3 this
theorem zx5 (hr:pX P sg Rt) (hi:XO): ∀c,G3 P sg Rt rs c:=by
 intro c
 induction c with
 |skip=>intro ex l σ t he F R L js ρ a w hL hd hr Q hq;simp only [DF,Ab]at he;subst he;exact wp_skip (hq [] _ _ _ _ _ (List.prefix_refl _) hd hr)
 |label=>intro ex l σ t he F R L js ρ a w hL hd hr Q hq;simp only [DF,Ab]at he;subst he;exact wp_label (hq [] _ _ _ _ _ (List.prefix_refl _) hd hr)
 |ret=>intro ex l σ t he F R L js ρ a w hL hd hr Q hq;simp only [DF,Ab]at he;subst he;exact wp_ret (hq [] _ _ _ _ _ (List.prefix_refl _) hd hr)
 |exit id=>intro ex l σ t he F R L js ρ a w hL hd hr Q hq;simp only [DF,Ab]at he;subst he;exact wp_exit (hq [] _ _ _ _ _ (List.prefix_refl _) hd hr)
 |region id ops draw=>
  intro ex l σ t he F R L js ρ a w hL hd Am Q hq;simp only [DF]at he;split at he
  ·simp at he;subst he;exact hd.elim
  ·rename_i hp;split at he
   ·cases he
   ·rename_i hs;simp only [Bool.or_eq_true,Bool.not_eq_true',not_or,Bool.not_eq_false]at hs;exact hr id ops draw σ t (by simpa using hp) hs.1 hs.2 he F R L js ρ a w hL hd Am Q hq
 |scope b ih=>intro ex l σ t he F R L js ρ a w hL hd hr Q hq;simp only [DF]at he;refine wp_scope_straight (ih _ _ _ _ he F R L js ρ a w hL hd hr _ fun i x τ ρ' a' w' hp hl Am=> ?_);have:=hq i x τ ρ' a' w' hp hl Am;cases x<;>exact this
 |cond x p q ihp ihq=>exact zzw ihp ihq
 |block id b ih=>exact zxw ih
 |seq x y ihx ihy=>exact xQ hi ihx ihy
 |loop b ih=>exact zyB hi ih
 |_=>intro ex l σ t he;simp [DF]at he
end
end Go.Proofs.YtmbknelgbjlhnaaGreat
end

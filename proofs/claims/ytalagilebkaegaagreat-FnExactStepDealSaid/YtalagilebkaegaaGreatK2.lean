/- Parts of a proof, joined: VG, VH, VI, VJ, VY, LO, TA, TB, TC, TD, TE, VZ. -/
import Derived.Test.YtalagilebkaegaaGreatK1
import Derived.WalkKit
import Derived.WalkLawsBesides
import Derived.Scope
set_option linter.unusedVariables false
set_option linter.unusedSimpArgs false
namespace Go.Proofs.YtalagilebkaegaaGreat
open Go.RowKit
section
theorem BD.{u}{α:Type u}{i:Nat}{l:List α}:(l.drop i).length=l.length-i:=List.length_drop
theorem Bf(b:Bool):((!b)=true)=(b=false):=Bool.not_eq_true' b
theorem Df.{u}{α:Type u}{a b:α}:(some a).getD b=a:=rfl
theorem Bj.{u}{α:Type u}{p:α->Bool}{l:List α}:l.all p=true↔∀x,x∈l->p x=true:=List.all_eq_true
theorem AW:(false=true)=False:=Bool.false_eq_true
theorem Ar.{u,v}{α:Type u}{β:Type v}{b:β}{x:Option α}{f:α->β}:x.map f=some b↔∃a,x=some a/\f a=b:=Option.map_eq_some_iff
theorem Aa.{u,v}{α:Type u}{β:Type v}(a:α)(f:α->Option β):(some a).bind f=f a:=rfl
structure GI where
 top:List Nat
 O:List Nat
def GI.own(g:GI):List Nat:=g.top++g.O
def Bt(ρ:List AV)(gs:Gd):Prop:= ∀g∈gs,g.1.den ρ= .bool g.2
structure Al where
 ok:Nat->Prop
 pin:Nat->Option Value
 lo:Value->AV->Prop
instance:CoeFun Al (λ_=>Nat->Prop):=⟨Al.ok⟩
structure Cx where
 ρ:List AV
 w:World
 G:Nat->GI
 K:Nat->Nat->Prop
 H:Nat->Nat->Value
 A:Al
 w0:World
 Mu:Nat->Prop
 U:Nat->Prop
 E:Nat->Nat
def Cx.B(c:Cx):Nat:=c.w0.heap.size
def Cx.M(c:Cx)(b:Nat):Prop:= ∃t,b∈(c.G t).top
def Cx.ok(c:Cx)(b:Nat):Prop:= ¬c.M b/\(c.A b\/c.B<=b\/c.Mu b)
def CE(ρ:List AV)(o:Option Af)(e:Af):Prop:=match o with
 |some (.gd gs e')=>Bt ρ gs/\e'=e
 |some e'=>e'=e
 |none=>False
def SY(_:World)(f:List Nat):Prop:=f=[]
def IS(c:Cx)(t g:Nat)(p:NO)(v:Value):Prop:=match p with
 |none=>True
 |some (i,z,o)=> ∃b n cap C ty fz kk k,c.H t g= .slice (some ⟨b,0,none⟩) n cap/\b∈(c.G t).top/\c.w.heap[b]?=some (.cells C ty fz)/\i.den c.ρ= .int kk k/\0<=k/\k<n/\C[k.toNat*z+o]?=some v
def Qq(c:Cx)(t:Nat)(v:Value)(x:AV):Prop:= ∃f,Rd c.w [v] [x] f/\ ∀b∈f,c.ok b\/b∈(c.G t).top
inductive SR(c:Cx):List SV->List Value->Prop where
 |nil:SR c [] []
 |undef {v ss vs}:SR c ss vs->SR c (.undef::ss) (v::vs)
 |e {x v f ss vs}:Rd c.w [v] [x.den c.ρ] f->(∀b∈f,c.ok b)->SR c ss vs->SR c (.e x::ss) (v::vs)
 |cc {ss vs}:SR c ss vs->SR c (.cc::ss) (.slice none 0 0::vs)
 |emp {a ss vs}:SR c ss vs->SR c (.emp::ss) (.slice a 0 0::vs)
 |own {t g p q r ss vs}:c.K t g->c.H t g= .slice p q r->SR c ss vs->SR c (.own t g::ss) (.slice p q r::vs)
 |ch {t o b ss vs}:c.K t 0->c.H t 0= .pointer (some ⟨b,0,none⟩)->SR c ss vs->SR c (.ch t o::ss) (.pointer (some ⟨b,o,none⟩)::vs)
 |cq {t g:Nat} {i:E} {sz o b n cap kk} {k:Int} {ss vs}:c.K t g->c.H t g= .slice (some ⟨b,0,none⟩) n cap->i.den c.ρ= .int kk k->0<=k->k<n->SR c ss vs->
   SR c (.cq t g i sz o::ss) (.pointer (some ⟨b,k.toNat*sz+o,none⟩)::vs)
 |dd {x i:E} {sz o b off n cap:Nat} {f kk} {k:Int} {ss vs}:Rd c.w [.slice (some ⟨b,off,none⟩) n cap] [x.den c.ρ] f->(∀b∈f,c.ok b)->i.den c.ρ= .int kk k->0<=k->k<n->((x.den c.ρ).nth k.toNat).cells.length=sz->
   SR c ss vs->SR c (.dd x i sz o::ss) (.pointer (some ⟨b,off+k.toNat*sz+o,none⟩)::vs)
 |da {x:E} {o b:Nat} {f ss vs}:Rd c.w [.pointer (some ⟨b,0,none⟩)] [x.den c.ρ] f->(∀b∈f,c.ok b)->SR c ss vs->SR c (.da x o::ss) (.pointer (some ⟨b,o,none⟩)::vs)
 |agg {cs as_ ss vs}:(∀u∈as_,u.oneCell'=true)->SR c cs.toList as_->SR c ss vs->SR c (.agg cs::ss) (.agg as_.toArray::vs)
 |tup {cs as_ ss vs}:SR c cs.toList as_->SR c ss vs->SR c (.tup cs::ss) (.tuple as_.toArray::vs)
 |fn {g cs as_ ss vs}:SR c cs.toList as_->SR c ss vs->SR c (.fn g cs::ss) (.func (.func g) #[] as_.toArray::vs)
 |gd {gs s v ss vs}:(Bt c.ρ gs->SR c [s] [v])->(¬Bt c.ρ gs->v=undef)->SR c ss vs->SR c (.gd gs s::ss) (v::vs)
 |via {t g n p x v ss vs}:c.K t g->n<=c.E t->(c.E t=n->Qq c t v (x.den c.ρ)/\IS c t g p v)->SR c ss vs->SR c (.via t g n p x::ss) (v::vs)
 |vptr {t g n p x i sz o v ss vs}:c.K t g->n<=c.E t->(c.E t=n-> ∃(b off len cap:Nat) (kk:IntKind) (k:Int),Qq c t (.slice (some ⟨b,off,none⟩) len cap) (x.den c.ρ)/\IS c t g p (.slice (some ⟨b,off,none⟩) len cap)/\i.den c.ρ= .int kk k/\0<=k/\k<len/\
   ((x.den c.ρ).nth k.toNat).cells.length=sz/\v= .pointer (some ⟨b,off+k.toNat*sz+o,none⟩))->SR c ss vs->SR c (.vptr t g n p x i sz o::ss) (v::vs)
 |wown {t g:Nat} {lo:E} {sz:Nat} {q:Option Addr} {n cap:Nat} {q':Option Addr} {r:Nat} {kk:IntKind} {k:Int} {ss vs}:c.K t g->c.H t g= .slice q n cap->lo.den c.ρ= .int kk k->0<=k->k<=n->(k<n-> ∃b,q=some ⟨b,0,none⟩/\q'=some ⟨b,k.toNat*sz,none⟩/\r=cap-k.toNat)->SR c ss vs->SR c (.wown t g lo sz::ss) (.slice q' (n-k.toNat) r::vs)
 |lent {i v ss vs}:c.A.lo v ((E.var i).den c.ρ)->SR c ss vs->SR c (.lent i::ss) (v::vs)
def zGR(c:Cx)(e z:Nat)(l:List DT)(v:Value)(x i:AV)(o u:Nat)(N:List Nat):Prop:=
 ∃(b cap:Nat) (C:Array Value) (ys:List AV) (kk:IntKind) (k:Int) (N1 N2:List Nat),v= .slice (some ⟨b,0,none⟩) ys.length cap/\x= .sl ys/\i= .int kk k/\0<=k/\k<ys.length/\o<z/\0<z/\l.length=z/\c.w.heap[b]?=some (.cells C e (0,0))/\ys.length<=cap/\cap<=maxLen/\C.size=cap*z/\(∀y∈ys,y.cells.length=z)/\
  (∀w∈C.toList.take (ys.length*z),w.oneCell'=true)/\N=b::(N1++N2)/\c.K u 0/\C[k.toNat*z+o]?=some (c.H u 0)/\
  DC c.w ((BI ys.length l).take (k.toNat*z+o)) ((C.toList.take (ys.length*z)).take (k.toNat*z+o)) ((Aq ys).take (k.toNat*z+o)) N1/\
  DC c.w ((BI ys.length l).drop (k.toNat*z+o+1)) ((C.toList.take (ys.length*z)).drop (k.toNat*z+o+1)) ((Aq ys).drop (k.toNat*z+o+1)) N2
def zGJ(c:Cx)(e z:Nat)(l:List DT)(v:Value)(x k:AV)(N:List Nat):Prop:=
 ∃(p:Option Addr) (cap:Nat) (ys:List AV) (kk:IntKind) (kv:Nat),v= .slice p ys.length cap/\x= .sl ys/\k= .int kk kv/\kv<=ys.length/\ys.length<=cap/\DC c.w [.row e z (Ay.of l)] [.slice p kv cap] [.sl (ys.take kv)] N
def Du(c:Cx)(t:Nat):Af->Prop
 | .box ty _ cs=> ∃b C,c.K t 0/\c.H t 0= .pointer (some ⟨b,0,none⟩)/\(c.G t).top=[b]/\(c.G t).O=[]/\c.w.heap[b]?=some (.cells C ty (0,0))/\(∀u∈C.toList,u.oneCell'=true)/\SR c cs C.toList
 | .row ety sz g x d=>c.K t g/\(∀g',c.K t g'->g'<=g)/\ ∃N,CZ c.w ety sz (c.H t g) (x.den c.ρ) (c.G t).top N/\(∀b∈N,c.ok b)/\(d=true->SY c.w N/\(c.G t).O=N)/\(d=false->(c.G t).O=[])
 | .br g x=>c.K t g/\(∃f,Rd c.w [c.H t g] [x.den c.ρ] f/\ ∀b∈f,c.ok b)/\(c.G t).top=[]/\(c.G t).O=[]
 | .gd .. =>(c.G t).top=[]/\(c.G t).O=[]
 | .dead=>(c.G t).top=[]/\(c.G t).O=[]
 | .deep e z l g ep x=>c.K t g/\(∀g',c.K t g'->g'<=g)/\c.E t=ep/\DC c.w [.row e z (Ay.of l)] [c.H t g] [x.den c.ρ] (c.G t).top/\(c.G t).O=[]
 | .hol e z l g ep x i o u=>c.K t g/\(∀g',c.K t g'->g'<=g)/\c.E t=ep/\zGR c e z l (c.H t g) (x.den c.ρ) (i.den c.ρ) o u (c.G t).top/\(c.G t).O=[]
 | .pre e z l g ep x k=>c.K t g/\(∀g',c.K t g'->g'<=g)/\c.E t=ep/\zGJ c e z l (c.H t g) (x.den c.ρ) (k.den c.ρ) (c.G t).top/\(c.G t).O=[]
structure GW(c:Cx):Prop where
 nodup:∀t,(c.G t).own.Nodup
 cm:∀t u,t≠u-> ∀b∈(c.G t).own,b∉(c.G u).own
 allow:∀t,∀b∈(c.G t).own,c.B<=b\/c.Mu b
 inb:∀t,∀b∈(c.G t).own,b<c.w.heap.size
structure Qk(c:Cx):Prop where
 os:c.w.os=c.w0.os
 tape:c.w.tape=c.w0.tape
 output:c.w.output=c.w0.output
 size:c.w0.heap.size<=c.w.heap.size
 pins:∀t v,c.A.pin t=some v->c.U t/\(c.K t 0->c.H t 0=v)
 block:∀b,b<c.w0.heap.size-> ¬c.Mu b->c.w.heap[b]?=c.w0.heap[b]?
 pk:fO c.w0 c.Mu
 lo:∀v y,c.A.lo v y-> ∃f,Rd c.w0 [v] [y] f/\ ∀b∈f,¬c.Mu b
structure Rel(c:Cx)(n:Nat)(sl:Nat->SV)(hp:Nat->Option Af)(a:Act):Prop where
 defers:a.defers=[]
 size:a.tmps.size=n
 base:Qk c
 cy:∀i,SR c [sl i] [a.tmps.getD i undef]
 ents:∀t e,CE c.ρ (hp t) e->Du c t e
 off:∀t,(∀e,¬CE c.ρ (hp t) e)->(c.G t).top=[]/\(c.G t).O=[]
 gw:GW c
 bp:∀t g,c.K t g->c.U t
 cr:∀t e,hp t=some e->c.U t
theorem SR.app{c:Cx}{ss:List SV}{vs:List Value}(h:SR c ss vs){ss':List SV}{vs':List Value}(k:SR c ss' vs'):SR c (ss++ss') (vs++vs'):=by
 induction h with
 |nil=>exact k
 |undef _ ih=>exact .undef ih
 |e h1 h2 _ ih=>exact .e h1 h2 ih
 |cc _ ih=>exact .cc ih
 |emp _ ih=>exact .emp ih
 |own h1 h2 _ ih=>exact .own h1 h2 ih
 |ch h1 h2 _ ih=>exact .ch h1 h2 ih
 |cq h1 h2 h3 h4 h5 _ ih=>exact .cq h1 h2 h3 h4 h5 ih
 |dd h1 h2 h3 h4 h5 h6 _ ih=>exact .dd h1 h2 h3 h4 h5 h6 ih
 |da h1 h2 _ ih=>exact .da h1 h2 ih
 |agg h9 h1 _ _ ih=>exact .agg h9 h1 ih
 |tup h1 _ _ ih=>exact .tup h1 ih
 |fn h1 _ _ ih=>exact .fn h1 ih
 |gd h1 h2 _ _ ih=>exact .gd h1 h2 ih
 |via h1 h2 h3 _ ih=>exact .via h1 h2 h3 ih
 |vptr h1 h2 h3 _ ih=>exact .vptr h1 h2 h3 ih
 |wown h1 h2 h3 h4 h5 h6 _ ih=>exact .wown h1 h2 h3 h4 h5 h6 ih
 |lent h1 _ ih=>exact .lent h1 ih
theorem SR.len{c:Cx}{ss:List SV}{vs:List Value}(h:SR c ss vs):ss.length=vs.length:=by induction h<;>simp_all
theorem SR.cd{c:Cx}{s:SV}{ss:List SV}{v:Value}{vs:List Value}(h:SR c (s::ss) (v::vs)):SR c [s] [v]/\SR c ss vs:=by
 cases h with
 |undef h=>exact⟨.undef .nil,h⟩
 |e h1 h2 h=>exact⟨.e h1 h2 .nil,h⟩
 |cc h=>exact⟨.cc .nil,h⟩
 |emp h=>exact⟨.emp .nil,h⟩
 |own h1 h2 h=>exact⟨.own h1 h2 .nil,h⟩
 |ch h1 h2 h=>exact⟨.ch h1 h2 .nil,h⟩
 |cq h1 h2 h3 h4 h5 h=>exact⟨.cq h1 h2 h3 h4 h5 .nil,h⟩
 |dd h1 h2 h3 h4 h5 h6 h=>exact⟨.dd h1 h2 h3 h4 h5 h6 .nil,h⟩
 |da h1 h2 h=>exact⟨.da h1 h2 .nil,h⟩
 |agg h9 h1 h=>exact⟨.agg h9 h1 .nil,h⟩
 |tup h1 h=>exact⟨.tup h1 .nil,h⟩
 |fn h1 h=>exact⟨.fn h1 .nil,h⟩
 |gd h1 h2 h=>exact⟨.gd h1 h2 .nil,h⟩
 |via h1 h2 h3 h=>exact⟨.via h1 h2 h3 .nil,h⟩
 |vptr h1 h2 h3 h=>exact⟨.vptr h1 h2 h3 .nil,h⟩
 |wown h1 h2 h3 h4 h5 h6 h=>exact⟨.wown h1 h2 h3 h4 h5 h6 .nil,h⟩
 |lent h1 h=>exact⟨.lent h1 .nil,h⟩
theorem SR.cons{c:Cx}{s:SV}{ss:List SV}{v:Value}{vs:List Value}(h:SR c [s] [v])(k:SR c ss vs):SR c (s::ss) (v::vs):=h.app k
theorem SR.get{c:Cx}:∀{ss:List SV} {vs:List Value},SR c ss vs-> ∀{i:Nat} {s:SV},ss[i]?=some s-> ∃v,vs[i]?=some v/\SR c [s] [v]
 | [],vs,h,i,s,hs=>by simp at hs
 |s0::ss,[],h,_,_,_=>by have:=h.len;simp at this
 |s0::ss,v0::vs,h,i,s,hs=>by
  obtain⟨h1,h2⟩:=h.cd;cases i with
  |zero=>simp at hs;subst hs;exact⟨v0,rfl,h1⟩
  |succ i=>simpa using h2.get (by simpa using hs)
theorem SR.split{c:Cx}:∀{ss:List SV} {vs:List Value} (n:Nat),SR c ss vs->SR c (ss.take n) (vs.take n)/\SR c (ss.drop n) (vs.drop n)
 |ss,vs,0,h=>by simpa using⟨SR.nil,h⟩
 | [],vs,n+1,h=>by
  have:=h.len;cases vs with
  |nil=>simpa using SR.nil
  |cons=>simp at this
 |s::ss,[],n+1,h=>by have:=h.len;simp at this
 |s::ss,v::vs,n+1,h=>by obtain⟨h1,h2⟩:=h.cd;obtain⟨h3,h4⟩:=h2.split n;exact⟨h1.app h3,h4⟩
structure DW(c c':Cx):Prop where
 ρ:c'.ρ=c.ρ
 A:c'.A=c.A
 ok:∀b,b<c.w.heap.size->c.ok b->c'.ok b
 mem:∀b,b<c.w.heap.size->c.ok b->c'.w.heap[b]?=c.w.heap[b]?
 K:∀t g,c.K t g->c'.K t g/\c'.H t g=c.H t g
 E:∀t g,c.K t g->c.E t<=c'.E t/\(c'.E t=c.E t->c'.G t=c.G t/\ ∀b∈(c.G t).top,b<c.w.heap.size->c'.w.heap[b]?=c.w.heap[b]?)
theorem Qq.keep{c c':Cx}(k:DW c c'){t g:Nat}(hK:c.K t g)(he:c'.E t=c.E t){v:Value}{x:AV}(h:Qq c t v x):Qq c' t v x:=by
 obtain⟨f,h1,h2⟩:=h;obtain⟨e1,e2⟩:=(k.E t g hK).2 he;refine⟨f,h1.frame λb hb=> ?_,λb hb=> ?_⟩
 ·rcases h2 b hb with h|h
  ·exact k.mem b (h1.inb b hb) h
  ·exact e2 b h (h1.inb b hb)
 ·rcases h2 b hb with h|h
  ·exact .inl (k.ok b (h1.inb b hb) h)
  ·exact .inr (by rw[e1];exact h)
theorem IS.keep{c c':Cx}(k:DW c c'){t g:Nat}(hK:c.K t g)(he:c'.E t=c.E t){p:NO}{v:Value}(h:IS c t g p v):IS c' t g p v:=by
 cases p with
 |none=>exact trivial
 |some p=>obtain⟨i,z,o⟩:=p;obtain⟨b,n,cap,C,ty,fz,kk,q,h1,h2,h3,h4,h5,h6,h7⟩:=h;obtain⟨e1,e2⟩:=(k.E t g hK).2 he;exact⟨b,n,cap,C,ty,fz,kk,q,by rw[(k.K t g hK).2];exact h1,by rw[e1];exact h2,by rw[e2 b h2 (Dp h3)];exact h3,by rw[k.ρ];exact h4,h5,h6,h7⟩
theorem Rd.gu{c c':Cx}(k:DW c c'){vs:List Value}{xs:List AV}{f:List Nat}(h:Rd c.w vs xs f)(hf:∀b∈f,c.ok b):Rd c'.w vs xs f/\ ∀b∈f,c'.ok b:=
 ⟨h.frame λb hb=>k.mem b (h.inb b hb) (hf b hb),λb hb=>k.ok b (h.inb b hb) (hf b hb)⟩
theorem DW.refl(c:Cx):DW c c:=⟨rfl,rfl,λ_ _ h=>h,λ_ _ _=>rfl,λ_ _ h=>⟨h,rfl⟩,λ_ _ _=>⟨AI _,λ_=>⟨rfl,λ_ _ _=>rfl⟩⟩⟩
theorem SR.keep{c c':Cx}(k:DW c c'){ss:List SV}{vs:List Value}(h:SR c ss vs):SR c' ss vs:=by
 have hρ:=k.ρ
 induction h with
 |nil=>exact .nil
 |undef _ ih=>exact .undef ih
 |e h1 h2 _ ih=>obtain⟨a,b⟩:=Rd.gu k h1 h2;exact .e (by rw[hρ];exact a) b ih
 |cc _ ih=>exact .cc ih
 |emp _ ih=>exact .emp ih
 |own h1 h2 _ ih=>obtain⟨a,b⟩:=k.K _ _ h1;exact .own a (b.trans h2) ih
 |ch h1 h2 _ ih=>obtain⟨a,b⟩:=k.K _ _ h1;exact .ch a (b.trans h2) ih
 |cq h1 h2 h3 h4 h5 _ ih=>obtain⟨a,b⟩:=k.K _ _ h1;exact .cq a (b.trans h2) (by rw[hρ];exact h3) h4 h5 ih
 |dd h1 h2 h3 h4 h5 h6 _ ih=>obtain⟨a,b⟩:=Rd.gu k h1 h2;exact .dd (by rw[hρ];exact a) b (by rw[hρ];exact h3) h4 h5 (by rw[hρ];exact h6) ih
 |da h1 h2 _ ih=>obtain⟨a,b⟩:=Rd.gu k h1 h2;exact .da (by rw[hρ];exact a) b ih
 |agg h9 _ _ ih1 ih2=>exact .agg h9 ih1 ih2
 |tup _ _ ih1 ih2=>exact .tup ih1 ih2
 |fn _ _ ih1 ih2=>exact .fn ih1 ih2
 |gd _ h2 _ ih1 ih2=>exact .gd (λhg=>ih1 (by rw[<-hρ];exact hg)) (λhg=>h2 (by rw[<-hρ];exact hg)) ih2
 | @via t g n p x v ss vs h1 h2 h3 _ ih=>
  obtain⟨a,b⟩:=k.K _ _ h1;have hle:=(k.E t g h1).1;refine .via a (Nat.le_trans h2 hle) (λhe=> ?_) ih;have Le:c.E t=n:=by omega
  have N8:c'.E t=c.E t:=by omega
  obtain⟨q1,q2⟩:=h3 Le;exact⟨by rw[hρ];exact q1.keep k h1 N8,q2.keep k h1 N8⟩
 | @vptr t g n p x i sz o v ss vs h1 h2 h3 _ ih=>
  obtain⟨a,b⟩:=k.K _ _ h1;have hle:=(k.E t g h1).1;refine .vptr a (Nat.le_trans h2 hle) (λhe=> ?_) ih;have Le:c.E t=n:=by omega
  have N8:c'.E t=c.E t:=by omega
  obtain⟨b,off,len,cap,kk,q,q1,q2,q3⟩:=h3 Le;exact⟨b,off,len,cap,kk,q,by rw[hρ];exact q1.keep k h1 N8,q2.keep k h1 N8,by rw[hρ];exact q3⟩
 |wown h1 h2 h3 h4 h5 h6 _ ih=>obtain⟨a,b⟩:=k.K _ _ h1;exact .wown a (b.trans h2) (by rw[hρ];exact h3) h4 h5 h6 ih
 |lent h1 _ ih=>exact .lent (by rw[hρ,k.A];exact h1) ih
theorem CZ.frame{w w':World}{ety sz:Nat}{v:Value}{x:AV}{top N:List Nat}(h:CZ w ety sz v x top N)(ht:∀b∈top,w'.heap[b]?=w.heap[b]?)(hN:∀b∈N,w'.heap[b]?=w.heap[b]?):CZ w' ety sz v x top N:=by
 obtain⟨xs,h1,h2,h3,h4|⟨g,cap,C,h5,h6,h7,h8,h9,Fh,K1,EE⟩⟩:=h
 ·exact⟨xs,h1,h2,h3, .inl h4⟩
 ·exact⟨xs,h1,h2,h3, .inr ⟨g,cap,C,h5,h6,h7,by rw[ht g (by simp[Fh])];exact h8,h9,Fh,K1,EE.frame hN⟩⟩
theorem SY.frame{w w':World}{f:List Nat}(h:SY w f)(hf:∀b∈f,w'.heap[b]?=w.heap[b]?):SY w' f:=have _:=hf;h
theorem CZ.ll{w:World}{ety sz:Nat}{v:Value}{x:AV}{top N:List Nat}(h:CZ w ety sz v x top N):∀b∈N,b<w.heap.size:=by
 obtain⟨xs,h1,h2,h3,h4|⟨g,cap,C,h5,h6,h7,h8,h9,Fh,K1,EE⟩⟩:=h
 ·simp[h4.2.2.2]
 ·exact EE.inb
theorem Du.keep{c c':Cx}(k:DW c c'){t:Nat}{e:Af}(h:Du c t e)(hG:c'.G t=c.G t)(hE:c'.E t=c.E t)(hK:∀g,c'.K t g->c.K t g)(hm:∀b∈(c.G t).top,c'.w.heap[b]?=c.w.heap[b]?):Du c' t e:=by
 cases e with
 |box ty g cs=>obtain⟨b,C,h1,h2,h3,h4,h5,h5',h6⟩:=h;obtain⟨a1,a2⟩:=k.K _ _ h1;exact⟨b,C,a1,a2.trans h2,by rw[hG];exact h3,by rw[hG];exact h4,by rw[hm b (by simp[h3])];exact h5,h5',h6.keep k⟩
 |row ety sz g x d=>
  obtain⟨h1,h0,N,h2,h3,h4,h5⟩:=h;obtain⟨a1,a2⟩:=k.K _ _ h1;have hN:=h2.ll;refine⟨a1,λg' Ct=>h0 g' (hK g' Ct),N,?_,λb hb=>k.ok b (hN b hb) (h3 b hb),λhd=> ?_,λhd=>by rw[hG];exact h5 hd⟩
  ·rw[a2,k.ρ,hG];exact h2.frame hm λb hb=>k.mem b (hN b hb) (h3 b hb)
  ·obtain⟨a,b⟩:=h4 hd;exact⟨a.frame λb hb=>k.mem b (hN b hb) (h3 b hb),by rw[hG];exact b⟩
 |br g x=>obtain⟨h1,⟨f,h2,h3⟩,h4,h5⟩:=h;obtain⟨a1,a2⟩:=k.K _ _ h1;obtain⟨a,b⟩:=Rd.gu k h2 h3;exact⟨a1,⟨f,by rw[a2,k.ρ];exact a,b⟩,by rw[hG];exact h4,by rw[hG];exact h5⟩
 |gd gs e=>exact by rw[Du,hG];exact h
 |dead=>exact by rw[Du,hG];exact h
 |deep e z l g ep x=>obtain⟨h1,h0,h2,h3,h4⟩:=h;obtain⟨a1,a2⟩:=k.K _ _ h1;exact⟨a1,λg' Ct=>h0 g' (hK g' Ct),hE.trans h2,by rw[a2,k.ρ,hG];exact h3.frame hm,by rw[hG];exact h4⟩
 |hol e z l g ep x i o u=>
  obtain⟨h1,h0,h2,⟨b,cap,C,ys,kk,kv,N1,N2,p1,p2,p3,p4,p5,p6,p7,p7',p8,p9,p10,p11,p12,p13,p14,p15,p16,p17,p18⟩,h4⟩:=h;obtain⟨a1,a2⟩:=k.K _ _ h1;obtain⟨a3,a4⟩:=k.K _ _ p15;refine⟨a1,λg' Ct=>h0 g' (hK g' Ct),hE.trans h2,⟨b,cap,C,ys,kk,kv,N1,N2,by rw[a2];exact p1,by rw[k.ρ];exact p2,by rw[k.ρ];exact p3,p4,p5,p6,p7,p7',by rw[hm b (by rw[p14];simp)];exact p8,p9,p10,p11,p12,p13,by rw[hG];exact p14,a3,by rw[a4];exact p16,
   p17.frame λq hq=>hm q (by rw[p14];simp[hq]),p18.frame λq hq=>hm q (by rw[p14];simp[hq])⟩,by rw[hG];exact h4⟩
 |pre e z l g ep x kx=>obtain⟨h1,h0,h2,⟨p,cap,ys,kk,kv,p1,p2,p3,p4,p5,p6⟩,h4⟩:=h;obtain⟨a1,a2⟩:=k.K _ _ h1;exact⟨a1,λg' Ct=>h0 g' (hK g' Ct),hE.trans h2,⟨p,cap,ys,kk,kv,by rw[a2];exact p1,by rw[k.ρ];exact p2,by rw[k.ρ];exact p3,p4,p5,by rw[hG];exact p6.frame hm⟩,by rw[hG];exact h4⟩
theorem z6{ρ:List AV}{g:E × Bool}{gs:Gd}(h:PK g gs=true)(k:Bt ρ gs):g.1.den ρ= .bool g.2:=by simp only[PK,List.any_eq_true,Ab,AK]at h;obtain⟨x,hx,h1,h2⟩:=h;rw[<-E.ay ρ _ _ h1,<-h2];exact k x hx
theorem ZQ{ρ:List AV}{hs gs:Gd}(h:Mf hs gs=true)(k:Bt ρ gs):Bt ρ hs:=by simp only[Mf,Bj]at h;exact λg hg=>z6 (h g hg) k
theorem E1(ρ:List AV):Bt ρ []:=by simp[Bt]
def EH(c:Cx)(hp:Nat->Option Af):Prop:= ∀t e,CE c.ρ (hp t) e->Du c t e
theorem CG{ρ:List AV}{hp:Nat->Option Af}{gs:Gd}{t:Nat}{e:Af}(h:Dh hp gs t=some e)(k:Bt ρ gs):CE ρ (hp t) e:=by
 unfold Dh at h;cases ho:hp t with
 |none=>rw[ho]at h;simp at h
 |some o=>
  rw[ho]at h;simp only[Aa]at h;cases o with
  |gd hs e'=>
   simp only[KW]at h;split at h
   ·rename_i BX;simp at h;subst h;exact⟨ZQ BX k,rfl⟩
   ·cases h
  |box=>simp[KW]at h;subst h;rfl
  |row=>simp[KW]at h;subst h;rfl
  |br=>simp[KW]at h;subst h;rfl
  |dead=>simp[KW]at h;subst h;rfl
  |deep=>simp[KW]at h;subst h;rfl
  |hol=>simp[KW]at h;subst h;rfl
  |pre=>simp[KW]at h;subst h;rfl
theorem SR.ungd{c:Cx}{s s':SV}{v:Value}{gs:Gd}(h:SR c [s] [v])(hu:ungd gs s=some s')(k:Bt c.ρ gs):SR c [s'] [v]:=by
 cases s<;>simp only[Go.Proofs.YtalagilebkaegaaGreat.ungd]at hu<;>first
  |(cases hu;done)
  |(split at hu
    ·rename_i BX;simp at hu;subst hu;cases h with
     |gd h1 _ _=>exact h1 (ZQ BX k)
    ·cases hu)
  |(simp at hu;subst hu;exact h)
theorem BP.au(l:List SV):(BP.of l).toList=l:=by induction l<;>simp[BP.of,BP.toList, *]
theorem EL.db(ρ:List AV)(l:List E):(EL.of l).den ρ=l.map (E.den ρ):=by induction l<;>simp[EL.of,EL.den, *]
theorem RY{c:Cx}:∀(vs:List Value) (l:List SV),E9.go vs=some l->SR c l vs
 | [],l,h=>by simp[E9.go]at h;subst h;exact .nil
 |v::vs,l,h=>by
  unfold E9.go at h;split at h
  ·rename_i h0;cases h0
  ·rename_i k n vs' h0;cases h0;split at h
   ·rename_i hk;obtain⟨l',hl,rfl⟩:=Ar.1 h;exact .e (.int hk .nil) (by simp) (RY _ _ hl)
   ·cases h
  ·rename_i h0;cases h0;obtain⟨l',hl,rfl⟩:=Ar.1 h;exact .e (.bool .nil) (by simp) (RY _ _ hl)
  ·rename_i h0;cases h0;split at h
   ·rename_i hk;obtain⟨l',hl,rfl⟩:=Ar.1 h;exact .e (.str hk .nil) (by simp) (RY _ _ hl)
   ·cases h
  ·rename_i h0;cases h0;obtain⟨l',hl,rfl⟩:=Ar.1 h;exact .cc (RY _ _ hl)
  ·rename_i h0;cases h0;obtain⟨l',hl,rfl⟩:=Ar.1 h;exact .e (.dj .nil) (by simp) (RY _ _ hl)
  ·cases h
theorem lH:∀(vs:List Value) (l:List SV),E9.go vs=some l-> ∀u∈vs,u.oneCell'=true
 | [],l,h,u,hu=>by simp at hu
 |v::vs,l,h,u,hu=>by
  unfold E9.go at h;split at h
  ·rename_i h0;cases h0
  all_goals (try (cases h;done))
  all_goals
   rename_i h0;cases h0
   (try split at h)
   all_goals (try (cases h;done))
   all_goals
    obtain⟨l',hl,rfl⟩:=Ar.1 h;rcases Ae.1 hu with rfl|hu
    ·rfl
    ·exact lH _ _ hl u hu
theorem Zp{c:Cx}{v:Value}{s:SV}(h:E9 v=some s):SR c [s] [v]:=by
 unfold E9 at h;split at h
 ·split at h
  ·rename_i hk;simp at h;subst h;exact .e (.int hk .nil) (by simp) .nil
  ·cases h
 ·simp at h;subst h;exact .e (.bool .nil) (by simp) .nil
 ·split at h
  ·rename_i hk;simp at h;subst h;exact .e (.str hk .nil) (by simp) .nil
  ·cases h
 ·simp at h;subst h;exact .cc .nil
 ·simp at h;subst h;exact .e (.dj .nil) (by simp) .nil
 ·rename_i cs;simp only[Option.bind_eq_bind,As]at h;obtain⟨l,hl,h⟩:=h;simp at h;subst h;have:=SR.agg (cs:=BP.of l) (as_:=cs.toList) (lH _ _ hl) (by rw[BP.au];exact RY (c:=c) _ _ hl) .nil;simpa using this
 ·cases h
theorem Y8{c:Cx}{sl:Nat->SV}{gs:Gd}{x:Operand}{s:SV}{a:Act}(h:BK sl gs x=some s)(hs:∀t,x= .tmp t->SR c [sl t] [a.tmps.getD t undef])(k:Bt c.ρ gs):SR c [s] [a.eval x]:=by
 cases x with
 |tmp t=>exact(hs t rfl).ungd h k
 |const v=>exact Zp h
 |func f=>simp[BK]at h;subst h;exact SR.fn (as_:=[]) .nil .nil
 |global g=>simp[BK]at h
theorem CZ.rd{w:World}{ety sz:Nat}{v:Value}{x:AV}{top N:List Nat}(h:CZ w ety sz v x top N):∃f,Rd w [v] [x] f/\(∀b∈f,b∈top\/b∈N)/\ ∀b∈f.tail,b∈N:=by
 obtain⟨xs,rfl,h2,h3,⟨rfl,⟨a,rfl⟩,rfl,rfl⟩|⟨g,cap,C,rfl,h6,h7,h8,h9,rfl,K1,EE⟩⟩:=h
 ·exact⟨_, .du .nil,by simp⟩
 ·rcases Nat.eq_zero_or_pos xs.length with h0|h0
  ·have:xs=[]:=List.eq_nil_of_length_eq_zero h0;subst this;exact⟨_, .du .nil,by simp⟩
  ·have:=Rd.scons (o:=0) (c:=cap) (cs:=C.toList.take (xs.length*sz)) h8 h0 ⟨by have:maxLen=9223372036854775807:=rfl;omega,by omega⟩ rfl h2 h3 (λj u hu=>by
    rw[Nat.zero_add];rw[List.getElem?_take]at hu;split at hu
    ·simpa using hu
    ·cases hu) K1 EE .nil
   exact⟨_,this,by simp⟩
def Cx.dw(c:Cx)(ts:List Nat)(b:Nat):Prop:=c.ok b\/ ∃t∈ts,b∈(c.G t).top
theorem Cx.dw.mono{c:Cx}{ts us:List Nat}{b:Nat}(h:c.dw ts b)(hs:∀t∈ts,t∈us):c.dw us b:=h.imp id λ⟨t,h1,h2⟩=>⟨t,hs t h1,h2⟩
theorem zvS{c:Cx}{hp:Nat->Option Af}{gs:Gd}(eh:EH c hp)(k:Bt c.ρ gs){t g:Nat}{x:E}(h:II hp gs t g=some x):
  ∃f,Rd c.w [c.H t g] [x.den c.ρ] f/\ ∀b∈f,c.dw [t] b:=by
 unfold II at h;split at h
 ·rename_i e z g' y d hl;split at h
  ·rename_i hg;subst hg;simp at h;subst h;obtain⟨h1,h0,N,h2,h3,h4,h5⟩:=eh t _ (CG hl k);obtain⟨f,hr,hf,_⟩:=h2.rd;exact⟨f,hr,λb hb=>(hf b hb).elim (λh=> .inr ⟨t,by simp,h⟩) λh=> .inl (h3 b h)⟩
  ·cases h
 ·rename_i g' y hl;split at h
  ·rename_i hg;subst hg;simp at h;subst h;obtain⟨h1,⟨f,h2,h3⟩,h4,h5⟩:=eh t _ (CG hl k);exact⟨f,h2,λb hb=> .inl (h3 b hb)⟩
  ·cases h
 ·rename_i e z l g' ep y hl;split at h
  ·rename_i hg;subst hg;simp at h;subst h;obtain⟨h1,h0,h2,h3,h4⟩:=eh t _ (CG hl k);obtain⟨f,k1,k2⟩:=h3.rd;exact⟨f,k1,λb hb=> .inr ⟨t,by simp,k2 b hb⟩⟩
  ·cases h
 ·cases h
theorem Sq{c:Cx}{hp:Nat->Option Af}{gs:Gd}(eh:EH c hp)(k:Bt c.ρ gs){t n:Nat}(h:NM hp gs t n=true):c.E t=n:=by
 unfold NM at h;split at h
 ·rename_i hl;obtain⟨_,_,h2,_⟩:=eh t _ (CG hl k);rw[h2];exact(by simpa using h:n=_).symm
 ·cases h
theorem xB(hp:Nat->Option Af)(gs:Gd)(n:Nat)(s:SV)(l:List SV):∀t,t∈B9 hp gs (n+1) (s::l)↔t∈B9 hp gs (n+1) [s]\/t∈B9 hp gs n l:=by
 intro t;have h0:∀m,B9 hp gs m []=[]:=λm=>by cases m<;>simp[B9]
 simp only[B9,Ac,h0,List.not_mem_nil,or_false]
theorem Zv(hp:Nat->Option Af)(gs:Gd):∀n,B9 hp gs n []=[]:=λm=>by cases m<;>simp[B9]
theorem zAW(hp:Nat->Option Af)(gs:Gd)(n:Nat)(cs:BP):B9 hp gs (n+1) [.agg cs]=B9 hp gs n cs.toList:=by simp only[B9,Zv,AE]
theorem zAi(hp:Nat->Option Af)(gs:Gd)(n:Nat)(cs:BP):B9 hp gs (n+1) [.tup cs]=B9 hp gs n cs.toList:=by simp only[B9,Zv,AE]
theorem zBu(hp:Nat->Option Af)(gs:Gd)(n f:Nat)(cs:BP):B9 hp gs (n+1) [.fn f cs]=B9 hp gs n cs.toList:=by simp only[B9,Zv,AE]
theorem zBN(hp:Nat->Option Af)(gs hs:Gd)(n:Nat)(s:SV):B9 hp gs (n+1) [.gd hs s]=B9 hp gs n [s]:=by simp only[B9,Zv,AE]
mutual
theorem H6{c:Cx}{hp:Nat->Option Af}{gs:Gd}(eh:EH c hp)(k:Bt c.ρ gs):∀(n:Nat) {s:SV} {x:E} {v:Value},BB hp gs n s=some x->SR c [s] [v]-> ∀m,n<=m->
  ∃f,Rd c.w [v] [x.den c.ρ] f/\ ∀b∈f,c.dw (B9 hp gs (m+1) [s]) b
 |0,s,x,v,h,_,m,_=>by simp[BB]at h
 |n+1,s,x,v,h,hr,m,hm=>by
  obtain⟨m,rfl⟩:∃m',m=m'+1:=⟨m-1,by omega⟩
  have CW:n<=m:=by omega
  have h0:∀m,B9 hp gs m []=[]:=λm=>by cases m<;>simp[B9]
  unfold BB at h;split at h
  ·cases h
  ·simp at h;subst h;cases hr with
   |e h1 h2 _=>exact⟨_,h1,λb hb=> .inl (h2 b hb)⟩
  ·simp at h;subst h;cases hr with
   |cc _=>exact⟨_, .du .nil,by simp⟩
  ·simp at h;subst h;cases hr with
   |emp _=>exact⟨_, .du .nil,by simp⟩
  ·cases hr with
   |own _ h8 _=>obtain⟨f,h1,h2⟩:=zvS eh k h;rw[h8]at h1;exact⟨f,h1,λb hb=>(h2 b hb).mono (by simp[B9])⟩
  ·rename_i t;split at h
   ·rename_i ty g0 cs hl;obtain⟨l,BL,rfl⟩:=Ar.1 h;cases hr with
    |ch h1 h2 _=>
     obtain⟨b,C,_,e2,e3,e4,e5,e5',e6⟩:=eh t _ (CG hl k);rw[h2]at e2;cases e2;obtain⟨f,g1,g2⟩:=Sd eh k n BL e6 (m+1) (by omega);refine⟨_, .ref e5 e5' (by simpa[E.den,AV.cells]using g1) .nil,λq hq=> ?_⟩;simp only[AE,Ae]at hq;rcases hq with rfl|hq
     ·exact .inr ⟨t,by simp[B9],by simp[e3]⟩
     ·exact(g2 q hq).mono λu hu=>by simp only[B9,hl,h0,AE,Ae];exact .inr hu
   ·cases h
  ·cases h
  ·cases h
  ·cases h
  ·rename_i y;simp at h;subst h;cases hr with
   |da h1 h2 _=>exact⟨_,h1,λb hb=> .inl (h2 b hb)⟩
  ·cases h
  ·rename_i cs;obtain⟨l,BL,rfl⟩:=Ar.1 h;cases hr with
   |agg h9 h1 _=>obtain⟨f,g1,g2⟩:=Sd eh k n BL h1 (m+1) (by omega);exact⟨_, .agg h9 g1 .nil,λq hq=>by rw[zAW];exact g2 q (by simpa using hq)⟩
  ·rename_i cs;obtain⟨l,BL,rfl⟩:=Ar.1 h;cases hr with
   |tup h1 _=>obtain⟨f,g1,g2⟩:=Sd eh k n BL h1 (m+1) (by omega);exact⟨_, .tup g1 .nil,λq hq=>by rw[zAi];exact g2 q (by simpa using hq)⟩
  ·rename_i g cs;obtain⟨l,BL,rfl⟩:=Ar.1 h;cases hr with
   |fn h1 _=>obtain⟨f,g1,g2⟩:=Sd eh k n BL h1 (m+1) (by omega);exact⟨_, .fn g1 .nil,λq hq=>by rw[zBu];exact g2 q (by simpa using hq)⟩
  ·rename_i hs s;split at h
   ·rename_i BX;cases hr with
    |gd h1 _ _=>obtain⟨f,g1,g2⟩:=H6 eh k n h (h1 (ZQ BX k)) m CW;exact⟨f,g1,λq hq=>by rw[zBN];exact g2 q hq⟩
   ·cases h
  ·rename_i t g n' p y;split at h
   ·rename_i hv;simp at h;subst h;cases hr with
    |via h1 h2 h3 _=>obtain⟨⟨f,q1,q2⟩,_⟩:=h3 (Sq eh k hv);exact⟨f,q1,λb hb=>(q2 b hb).imp id λhh=>⟨t,by simp[B9],hh⟩⟩
   ·cases h
  ·cases h
  ·rename_i t g lo z;split at h
   ·rename_i e z' g' y d hl;split at h
    ·rename_i hh;obtain⟨rfl,rfl⟩:=hh;simp at h;subst h;cases hr with
     | @wown _ _ _ _ _ nn _ _ _ _ kv _ _ h1 h2 h3 h4 h5 h6 _=>
      obtain⟨p1,p0,N,p2,p3,_⟩:=eh t _ (CG hl k);rw[h2]at p2;obtain⟨xs,f,q1,q2,q3,q4⟩:=p2.win (k:=kv.toNat) (by omega) (λAG=>h6 (by omega))
      refine⟨f,?_,λb hb=>(q4 b hb).elim (λhh=> .inr ⟨t,by simp[B9],hh⟩) λhh=> .inl (p3 b hh)⟩;have e1:(E.win y lo (.len y)).den c.ρ= .sl (xs.drop kv.toNat):=by simp only[E.den,q1,AV.len,h3,AV.win];rw[List.take_of_length_le (by simp)]
      rw[e1];exact q3
    ·cases h
   ·cases h
  ·cases h
theorem Sd{c:Cx}{hp:Nat->Option Af}{gs:Gd}(eh:EH c hp)(k:Bt c.ρ gs):∀(n:Nat) {ss:List SV} {xs:EL} {vs:List Value},CD hp gs n ss=some xs->SR c ss vs-> ∀m,n<=m->
  ∃f,Rd c.w vs (xs.den c.ρ) f/\ ∀b∈f,c.dw (B9 hp gs m ss) b
 |0,ss,xs,vs,h,_,m,_=>by simp[CD]at h
 |n+1,[],xs,vs,h,hr,m,_=>by simp[CD]at h;subst h;cases hr;exact⟨[], .nil,by simp⟩
 |n+1,s::ss,xs,[],h,hr,m,_=>by have:=hr.len;simp at this
 |n+1,s::ss,xs,v::vs,h,hr,m,hm=>by
  obtain⟨m,rfl⟩:∃m',m=m'+1:=⟨m-1,by omega⟩
  obtain⟨r1,r2⟩:=hr.cd;unfold CD at h;split at h
  ·rename_i x ys h1 h2;simp at h;subst h;obtain⟨f,a1,a2⟩:=H6 eh k n h1 r1 m (by omega);obtain⟨g,b1,b2⟩:=Sd eh k n h2 r2 m (by omega);refine⟨f++g,a1.app b1,λq hq=> ?_⟩;rcases Ac.1 hq with hq|hq
   ·exact(a2 q hq).mono λt ht=>(xB hp gs m s ss t).2 (.inl ht)
   ·exact(b2 q hq).mono λt ht=>(xB hp gs m s ss t).2 (.inr ht)
  ·cases h
end
def CO(n:Nat)(sl:Nat->SV)(d:Option Nat)(s:SV)(i:Nat):SV:=if d=some i/\i<n then s else sl i
def Bi(hp:Nat->Option Af)(l:List (Nat × Af)):Nat->Option Af:=l.foldl (λh (t,e)=>λu=>if u=t then some e else h u) hp
theorem Rel.put{c:Cx}{n:Nat}{sl:Nat->SV}{hp:Nat->Option Af}{a:Act}(h:Rel c n sl hp a){s:SV}{v:Value}(hv:SR c [s] [v])(d:Option Nat):Rel c n (CO n sl d s) hp (a.put d v):=by
 cases d with
 |none=>
  have e:CO n sl none s=sl:=by funext i;simp[CO]
  rw[e];exact h
 |some d=>
  refine⟨h.defers,by simpa[Act.put]using h.size,h.base,λi=> ?_,h.ents,h.off,h.gw,h.bp,h.cr⟩;simp only[CO,Ad,Act.put];by_cases hi:d=i/\i<n
  ·rw[if_pos hi];obtain⟨rfl,hi⟩:=hi;have:(a.tmps.setIfInBounds d v).getD d undef=v:=by
    rw[Array.getD_eq_getD_getElem?,Array.getElem?_setIfInBounds];simp[h.size,hi]
   rw[this];exact hv
  ·rw[if_neg hi];have:(a.tmps.setIfInBounds d v).getD i undef=a.tmps.getD i undef:=by
    rw[Array.getD_eq_getD_getElem?,Array.getD_eq_getD_getElem?,Array.getElem?_setIfInBounds];by_cases hd:d=i
    ·subst hd;have: ¬d<a.tmps.size:=λh'=>hi ⟨rfl,by rw[<-h.size];exact h'⟩;simp[this,Array.getElem?_eq_none (Nat.le_of_not_lt this)]
    ·simp[hd]
   rw[this];exact h.cy i
theorem Rel.change{c c':Cx}{n:Nat}{sl:Nat->SV}{hp hp':Nat->Option Af}{a:Act}(h:Rel c n sl hp a)(T:Nat->Prop)(k:DW c c')(hb:Qk c')
  (h1:∀t,¬T t->hp' t=hp t/\c'.G t=c.G t/\c'.E t=c.E t/\ ∀g,c'.K t g->c.K t g) (h2:∀t,¬T t-> ∀b∈(c.G t).top,c'.w.heap[b]?=c.w.heap[b]?)
  (h3:∀t,T t->(∀e,CE c.ρ (hp' t) e->Du c' t e)/\((∀e,¬CE c.ρ (hp' t) e)->(c'.G t).top=[]/\(c'.G t).O=[]))
  (h4:GW c') (h5:∀t g,c'.K t g->c'.U t) (h6:∀t e,hp' t=some e->c'.U t):Rel c' n sl hp' a:=by
 refine⟨h.defers,h.size,hb,λi=>(h.cy i).keep k,λt e hr=> ?_,λt hn=> ?_,h4,h5,h6⟩
 ·rw[k.ρ]at hr;by_cases ht:T t
  ·exact(h3 t ht).1 e hr
  ·obtain⟨e1,e2,e0,e3⟩:=h1 t ht;rw[e1]at hr;exact(h.ents t e hr).keep k e2 e0 e3 (h2 t ht)
 ·rw[k.ρ]at hn;by_cases ht:T t
  ·exact(h3 t ht).2 hn
  ·obtain⟨e1,e2,_,e3⟩:=h1 t ht;rw[e1]at hn;rw[e2];exact h.off t hn
theorem R9{ρ:List AV}{gs:Gd}{e e':Af}(k:Bt ρ gs)(hn:∀hs f,e≠ .gd hs f):CE ρ (some (CS gs e)) e'↔e'=e:=by
 cases gs with
 |nil=>cases e<;>first|(simp[CS,CE,eq_comm];done)|exact absurd rfl (hn _ _)
 |cons g gs=>simp[CS,CE,k,eq_comm]
theorem SR.mkGd{c:Cx}{s:SV}{v:Value}(h:SR c [s] [v])(gs:Gd)(k:Bt c.ρ gs:=by exact λ_ hh=>absurd hh List.not_mem_nil):SR c [mkGd gs s] [v]:=by
 cases gs with
 |nil=>exact h
 |cons g gs=>exact .gd (λ_=>h) (λhn=>absurd k hn) .nil
def Cx.new(c:Cx)(t:Nat)(o:Obj)(hv:Value)(O:List Nat):Cx:=
 {c with w:=c.w.alloc o,G:=λu=>if u=t then⟨[c.w.heap.size],O⟩else c.G u,K:=λu g=>c.K u g\/(u=t/\g=0),H:=λu g=>if u=t then hv else c.H u g,U:=λu=>c.U u\/u=t,E:=λu=>if u=t then 0 else c.E u}
theorem Cx.lu{c:Cx}{t:Nat}{o:Obj}{hv:Value}{O:List Nat}{b:Nat}(h:(c.new t o hv O).M b):c.M b\/b=c.w.heap.size:=by
 obtain⟨u,hu⟩:=h;simp only[Cx.new]at hu;split at hu
 ·simp at hu;exact .inr hu
 ·exact .inl ⟨u,hu⟩
theorem Cx.fy{c:Cx}{t:Nat}{o:Obj}{hv:Value}{O:List Nat}(hk:∀g,¬c.K t g):DW c (c.new t o hv O):=by
 refine⟨rfl,rfl,λb hb AZ=>⟨λhm=> ?_,AZ.2⟩,λb hb _=>Below.heap_alloc _ _ _ hb,λu g h=>⟨.inl h,?_⟩,λu g h=> ?_⟩
 ·rcases Cx.lu hm with h|h
  ·exact AZ.1 h
  ·omega
 ·simp only[Cx.new];rw[if_neg];rintro rfl;exact hk g h
 ·have hu:u≠t:=by rintro rfl;exact hk g h
  have e1:(c.new t o hv O).E u=c.E u:=by simp only[Cx.new,if_neg hu]
  have e2:(c.new t o hv O).G u=c.G u:=by simp only[Cx.new,if_neg hu]
  rw[e1];exact⟨AI _,λ_=>⟨e2,λb _ hb=>Below.heap_alloc _ _ _ hb⟩⟩
theorem Qk.new{c:Cx}(h:Qk c)(t:Nat)(ht: ¬c.U t)(o:Obj)(hv:Value)(O:List Nat):Qk (c.new t o hv O):=
 ⟨h.os,h.tape,h.output,Nat.le_trans h.size (by simp[Cx.new]),λu v hp=>⟨.inl (h.pins u v hp).1,λhk=>by have hu:u≠t:=λhh=>ht (hh▸(h.pins u v hp).1);simp only[Cx.new,if_neg hu];exact(h.pins u v hp).2 (hk.resolve_right λhh=>hu hh.1)⟩,λb hb hm=>(Below.heap_alloc _ _ _ (Nat.lt_of_lt_of_le hb h.size)).trans (h.block b hb hm),h.pk,h.lo⟩
theorem Rel.new{c:Cx}{n:Nat}{sl:Nat->SV}{hp:Nat->Option Af}{a:Act}(h:Rel c n sl hp a){t:Nat}(ht: ¬c.U t)(o:Obj)(hv:Value)(e:Af)(gs:Gd)(k:Bt c.ρ gs)(BF:∀hs f,e≠ .gd hs f)
  (he:Du (c.new t o hv []) t e):Rel (c.new t o hv []) n sl (Bi hp [(t,CS gs e)]) a:=by
 have hk:∀g,¬c.K t g:=λg hg=>ht (h.bp t g hg);have DR:hp t=none:=by
  cases hh:hp t with
  |none=>rfl
  |some e=>exact absurd (h.cr t e hh) ht
 have Lf:=h.off t (by rw[DR];simp[CE]);have D2:∀u,Bi hp [(t,CS gs e)] u=if u=t then some (CS gs e)else hp u:=λu=>rfl;refine h.change (λu=>u=t) (Cx.fy hk) (h.base.new t ht ..) (λu hu=>⟨by rw[D2,if_neg hu],by simp[Cx.new,hu],by simp[Cx.new,hu],λg hg=>hg.resolve_right (λhh=>hu hh.1)⟩)
  (λu hu b hb=>Below.heap_alloc _ _ _ (h.gw.inb u b (by simp[GI.own,hb]))) (λu hu=> ?_) ?_ (λu g hg=>hg.imp (h.bp u g) (·.1)) (λu e' hh=> ?_)
 ·subst hu;rw[D2,if_pos rfl];exact⟨λe' hr=>by rw[(R9 k BF).1 hr];exact he,λhn=>absurd ((R9 k BF).2 rfl) (hn e)⟩
 ·have hG:∀u,((c.new t o hv []).G u)=if u=t then⟨[c.w.heap.size],[]⟩else c.G u:=λu=>rfl;refine⟨λu=> ?_,λu u' Lw b hb=> ?_,λu b hb=> ?_,λu b hb=> ?_⟩
  ·rw[hG];split
   ·simp[GI.own]
   ·exact h.gw.nodup u
  ·rw[hG]at hb ⊢;split at hb
   ·rename_i hu;simp[GI.own]at hb;rw[if_neg (λhh=>Lw (hu.trans hh.symm))];intro Cc;have:=h.gw.inb u' b Cc;omega
   ·split
    ·simp only[GI.own,AE,List.mem_singleton];intro hh;have:=h.gw.inb u b hb;omega
    ·exact h.gw.cm u u' Lw b hb
  ·rw[hG]at hb;split at hb
   ·simp[GI.own]at hb;exact .inl (by rw[hb];exact h.base.size)
   ·exact h.gw.allow u b hb
  ·rw[hG]at hb;simp only[Cx.new,World.size_alloc];split at hb
   ·simp[GI.own]at hb;omega
   ·have:=h.gw.inb u b hb;omega
 ·rw[D2]at hh;split at hh
  ·rename_i hu;exact .inr hu
  ·exact .inl (h.cr u e' hh)
def AV.scalar:AV->Bool
 | .int .. =>true
 | .bool _=>true
 | .str _=>true
 |_=>false
def Cn.den(ρ:List AV):Cn->Prop
 | .dfd x=>x.den ρ≠ .undef
 | .agg x n=> ∃cs,x.den ρ= .agg cs/\cs.length=n
 | .cells x _=>(∀cs,x.den ρ≠ .agg cs)/\ ∀cs,x.den ρ≠ .tup cs
 | .inb i x sz=> ∃kk k m,i.den ρ= .int kk k/\0<=k/\(x.den ρ).len= .int .i64 m/\k<m/\((x.den ρ).nth k.toNat).cells.length=sz
 | .inbS i x=> ∃kk k s,i.den ρ= .int kk k/\x.den ρ= .str s/\0<=k/\k<s.length
 | .winS x lo hi=> ∃ka a kb b s,lo.den ρ= .int ka a/\hi.den ρ= .int kb b/\x.den ρ= .str s/\0<=a/\a<=b/\b<=s.length
 | .win x lo hi=> ∃ka a kb b m,lo.den ρ= .int ka a/\hi.den ρ= .int kb b/\(x.den ρ).len= .int .i64 m/\0<=a/\a<=b/\b<=m
 | .room x y bytes=> ∃m k,(x.den ρ).len= .int .i64 m/\(y.den ρ).len= .int .i64 k/\(m+k)*bytes<=140737488355328/\m+k<=140737488355328
 | .roomS x y=> ∃a b,x.den ρ= .str a/\y.den ρ= .str b/\a.length+b.length<=9223372036854775807
 | .mkroom n bytes=> ∃kk k,n.den ρ= .int kk k/\0<=k/\k*bytes<=140737488355328/\k<=140737488355328
 | .nz x=> ∃k n,x.den ρ= .int k n/\n≠0
 | .nn x=> ∃k n,x.den ρ= .int k n/\0<=n
 | .isref x n=> ∃y,x.den ρ= .ref y/\n<=y.cells.length
 | .issl x sz=> ∃xs,x.den ρ= .sl xs/\ ∀y∈xs,y.cells.length=sz
 | .flat x n g=>(x.den ρ).cells.length=n/\(∀y∈(x.den ρ).cells,y.scalar=true)/\(g=true-> ∃cs,x.den ρ= .agg cs)/\(g=false->(x.den ρ).scalar=true)
 | .flatS x sz=> ∃xs,x.den ρ= .sl xs/\ ∀y∈xs,y.cells.length=sz/\ ∀z∈y.cells,z.scalar=true
 | .kinds x ks=> ∃cs,x.den ρ= .agg cs/\cs.map AV.sk=ks.map some
theorem Ch{ρ:List AV}{q:Cn}{l:List Cn}(h:∀r∈q::l,r.den ρ):q.den ρ:=h q (by simp)
theorem Hv{w:World}{vs:List Value}{xs:List AV}{f:List Nat}(h:Rd w vs xs f)(hx:∀x∈xs,x.scalar=true):f=[]:=by
 induction h with
 |nil=>rfl
 |int _ _ ih=>exact ih λx hm=>hx x (by simp[hm])
 |bool _ ih=>exact ih λx hm=>hx x (by simp[hm])
 |str _ _ ih=>exact ih λx hm=>hx x (by simp[hm])
 |du _ _=>have:=hx _ List.mem_cons_self;simp[AV.scalar]at this
 |scons _ _ _ _ _ _ _ _ _ _ _ _=>have:=hx _ List.mem_cons_self;simp[AV.scalar]at this
 |agg _ _ _ _ _=>have:=hx _ List.mem_cons_self;simp[AV.scalar]at this
 |tup _ _ _ _=>have:=hx _ List.mem_cons_self;simp[AV.scalar]at this
 |ref _ _ _ _ _ _=>have:=hx _ List.mem_cons_self;simp[AV.scalar]at this
 |fn _ _ _ _=>have:=hx _ List.mem_cons_self;simp[AV.scalar]at this
 |dj _ _=>have:=hx _ List.mem_cons_self;simp[AV.scalar]at this
structure Bz(P:Program)(c:Cx)(n nx:Nat)(sl:Nat->SV)(hp:Nat->Option Af)(a:Act)(sl0:Nat->SV)(hp0:Nat->Option Af)(o:Oper)(gs:Gd):Prop where
 rel:Rel c n sl hp a
 gs:Bt c.ρ gs
 sl:∀t,Operand.tmp t∈o.op.operands->sl0 t=sl t
 hp:∀t e,hp0 t=some e->hp t=some e
 new:∀t,nx<=t->t<nx+999-> ¬c.U t
structure MV(c c':Cx)(nx:Nat):Prop where
 ρ:c'.ρ=c.ρ
 A:c'.A=c.A
 w0:c'.w0=c.w0
 Mu:c'.Mu=c.Mu
 U:∀t,c'.U t->c.U t\/(nx<=t/\t<nx+BT)
theorem MV.refl(c:Cx)(nx:Nat):MV c c nx:=⟨rfl,rfl,rfl,rfl,λ_ h=> .inl h⟩
def AB(P:Program)(o:Oper)(c:Cx)(n nx:Nat)(sl:Nat->SV)(hp:Nat->Option Af)(gs:Gd)(a:Act)(e:Bb):Prop:=
 ∀(next:Act->World->Prop) (Q:Exit->Act->World->Prop),(∀a' c',MV c c' nx->Rel c' n (CO n sl o.dst (mkGd gs e.val)) (Bi hp e.bj) a'->next a' c'.w)->o.wp P a c.w next Q
section
variable {P:Program} {c:Cx} {n nx:Nat} {sl sl0:Nat->SV} {hp hp0:Nat->Option Af} {a:Act} {o:Oper} {gs:Gd}
theorem Bz.eh(h:Bz P c n nx sl hp a sl0 hp0 o gs):EH c hp0:=λt e hr=>h.rel.ents t e (by
 cases ho:hp0 t with
 |none=>rw[ho]at hr;exact hr.elim
 |some e'=>rw[h.hp t e' ho];rwa[ho]at hr)
theorem Bz.ct(h:Bz P c n nx sl hp a sl0 hp0 o gs){x:Operand}{s:SV}(hx:BK sl0 gs x=some s)(hm:x∈o.op.operands):SR c [s] [a.eval x]:=
 Y8 hx (λt ht=>by subst ht;rw[h.sl t hm];exact h.rel.cy t) h.gs
theorem AB.pure(h:Bz P c n nx sl hp a sl0 hp0 o gs){e:Bb}{v:Value}(hr:(execOp a.eval o).run P c.w= .ok (.value v) c.w)(hv:SR c [e.val] [v])(he:e.bj=[]):AB P o c n nx sl hp gs a e:=by
 intro next Q hk
 unfold Oper.wp;rw[hr,Oper.upon_value];exact hk _ c (MV.refl _ _) (by rw[he];exact h.rel.put (hv.mkGd gs h.gs) o.dst)
theorem AB.skip(h:Bz P c n nx sl hp a sl0 hp0 o gs){e:Bb}(hr:(execOp a.eval o).run P c.w= .ok .skip c.w)(hv:e.val= .undef)(he:e.bj=[]):AB P o c n nx sl hp gs a e:=by
 intro next Q hk
 unfold Oper.wp;rw[hr,Oper.upon_skip];exact hk _ c (MV.refl _ _) (by rw[he,hv];exact h.rel.put ((SR.undef .nil).mkGd gs h.gs) o.dst)
theorem Kj{v:Value}{x:AV}{cs:List AV}{w:World}{f:List Nat}(h:Rd w [v] [x] f)(hx:x= .agg cs):∃as_,v= .agg as_.toArray/\(∀u∈as_,u.oneCell'=true)/\Rd w as_ cs f:=by
 subst hx;rcases h.kind with h|h|h|h|h|h|h|h|h|h
 ·obtain⟨_,_,_,h,_⟩:=h;cases h
 ·obtain⟨_,_,h,_⟩:=h;cases h
 ·obtain⟨_,_,h,_⟩:=h;cases h
 ·obtain⟨_,_,_,h,_⟩:=h;cases h
 ·obtain⟨_,_,_,_,_,_,_,_,_,_,_,_,h,_⟩:=h;cases h
 ·obtain⟨as_,cs',h1,h2,h3⟩:=h;cases h2;exact⟨as_,h1,h3⟩
 ·obtain⟨_,_,_,h,_⟩:=h;cases h
 ·obtain⟨_,_,_,_,_,_,_,h,_⟩:=h;cases h
 ·obtain⟨_,_,_,_,h,_⟩:=h;cases h
 ·obtain⟨_,h,_⟩:=h;cases h
theorem F1{v:Value}{x:AV}{k:IntKind}{m:Int}{w:World}{f:List Nat}(h:Rd w [v] [x] f)(hx:x= .int k m):v= .int k m/\E3 k m:=by subst hx;cases h;exact⟨rfl,by assumption⟩
theorem IK{v:Value}{x:AV}{b:Bool}{w:World}{f:List Nat}(h:Rd w [v] [x] f)(hx:x= .bool b):v= .bool b:=by subst hx;cases h;rfl
theorem SH{v:Value}{x:AV}{l:List UInt8}{w:World}{f:List Nat}(h:Rd w [v] [x] f)(hx:x= .str l):∃s:ByteArray,v= .string s/\l=s.data.toList/\s.size<=9223372036854775807:=by generalize hy:AV.str l=y at hx;subst hx;cases h<;>cases hy;exact⟨_,rfl,rfl,by assumption⟩
theorem sF{v:Value}{x:AV}{y:AV}{w:World}{f:List Nat}(h:Rd w [v] [x] f)(hx:x= .ref y):∃b,v= .pointer (some ⟨b,0,none⟩):=by subst hx;cases h;exact⟨_,rfl⟩
theorem zFl{v:Value}{x:AV}{cs:List AV}{w:World}{f:List Nat}(h:Rd w [v] [x] f)(hx:x= .tup cs):∃as_,v= .tuple as_.toArray/\Rd w as_ cs f:=by
 subst hx;cases h with
 |tup h1 h2=>cases h2;exact⟨_,rfl,by simpa using h1⟩
theorem xJ(h:Bz P c n nx sl hp a sl0 hp0 o gs){x:Operand}(ho:o.op= .move x\/o.op= .assign x){s:SV}(hx:BK sl0 gs x=some s):AB P o c n nx sl hp gs a {val:=s}:=by refine AB.pure h (v:=a.eval x) ?_ (h.ct hx (by rcases ho with ho|ho<;>simp[ho,Op.operands])) rfl;rcases ho with ho|ho<;>simp[execOp,ho]
theorem ztx(h:Bz P c n nx sl hp a sl0 hp0 o gs){x:Operand}(ho:o.op= .nilCheck x){e:Bb}{sg:BZ}{nv:Nat}(he:BU P sg sl0 hp0 nv nx gs o=some e)(hc:∀q∈e.ca,Cn.den c.ρ q):AB P o c n nx sl hp gs a e:=by
 have hm:x∈o.op.operands:=by simp[ho,Op.operands]
 simp only[BU,ho,As]at he;obtain⟨s,hs,he⟩:=he;have hr:=h.ct hs hm;have key:∀(v:Value),a.eval x=v->(∃b:Addr,v= .pointer (some b))->(execOp a.eval o).run P c.w= .ok (.value v) c.w:=by rintro v hv ⟨b,rfl⟩;simp only[execOp,ho,hv];rfl
 split at he
 ·simp at he;subst he;obtain⟨y,hy,_⟩:=Ch hc;generalize ha:a.eval x=v at hr;cases hr with
  |e h1 h2 _=>obtain⟨b,rfl⟩:=sF h1 hy;exact AB.pure h (key _ ha ⟨_,rfl⟩) (.da h1 h2 .nil) rfl
 ·simp at he;subst he;generalize ha:a.eval x=v at hr;cases hr with
  |ch h1 h2 _=>exact AB.pure h (key _ ha ⟨_,rfl⟩) (.ch h1 h2 .nil) rfl
 ·simp at he;subst he;generalize ha:a.eval x=v at hr;cases hr with
  |cq h1 h2 h3 h4 h5 _=>exact AB.pure h (key _ ha ⟨_,rfl⟩) (.cq h1 h2 h3 h4 h5 .nil) rfl
 ·simp at he;subst he;generalize ha:a.eval x=v at hr;cases hr with
  |dd h1 h2 h3 h4 h5 h6 _=>exact AB.pure h (key _ ha ⟨_,rfl⟩) (.dd h1 h2 h3 h4 h5 h6 .nil) rfl
 ·simp at he;subst he;generalize ha:a.eval x=v at hr;cases hr with
  |da h1 h2 _=>exact AB.pure h (key _ ha ⟨_,rfl⟩) (.da h1 h2 .nil) rfl
 ·rename_i b g m q y i sz p;split at he
  ·rename_i hv;simp at he;subst he;have hE:=Sq h.eh h.gs hv;generalize ha:a.eval x=v at hr;cases hr with
   |vptr h1 h2 h3 _=>obtain⟨_,_,_,_,_,_,_,_,_,_,_,_,rfl⟩:=h3 hE;exact AB.pure h (key _ ha ⟨_,rfl⟩) (.vptr h1 h2 h3 .nil) rfl
  ·cases he
 ·cases he
theorem wM{t:TypeId}(h:P.cellsOf t≠0)(w:World):(sizeOf t).run P w= .ok (P.cellsOf t) w:=by
 unfold Program.cellsOf at h ⊢;cases hi:P.info? t with
 |none=>simp[hi]at h
 |some i=>simp[sizeOf,typeInfo,hi]
theorem Pe{t:TypeId}(h:Dt P t=true)(w:World):(sizeOf t).run P w= .ok (P.cellsOf t) w:=by
 unfold Dt at h;unfold Program.cellsOf;cases hi:P.info? t with
 |none=>simp[hi]at h
 |some i=>simp[sizeOf,typeInfo,hi]
theorem Vz{t:TypeId}(h:Dt P t=true)(w:World):(isAgg t).run P w= .ok (Ao P t) w:=by
 unfold Dt at h;cases hu:P.underlying t with
 |none=>simp[hu]at h
 |some d=>simp only[isAgg,Ao,hu];cases d<;>simp[run_underlying hu]
theorem yI{w:World}{p:Addr}{v:Value}(h:w.cell? p=some v):(load p).run P w= .ok v w:=by simp only[load,Sem.run,h]
theorem tY{w:World}{b:Nat}:∀(vs:List Value) (off i:Nat) (acc:Array Value),(∀j u,vs[j]?=some u->w.cell? ⟨b,off+i+j,none⟩=some u)->
  (loadCellsFrom ⟨b,off,none⟩ i vs.length acc).run P w= .ok (acc++vs.toArray) w
 | [],off,i,acc,h=>by simp[loadCellsFrom]
 |v::vs,off,i,acc,h=>by
  have h0:=h 0 v rfl;have ih:=tY (w:=w) (b:=b) vs off (i+1) (acc.push v) (λj u hu=>by have:=h (j+1) u (by simpa using hu);rw[show off+(i+1)+j=off+i+(j+1)from by omega];exact this)
  simp only[Nat.add_zero]at h0;simp only[A6,loadCellsFrom,Addr.add_lit];simp[yI h0,ih]
theorem RV{w:World}{t:TypeId}{b off:Nat}(h:Dt P t=true)(vs:List Value)(hl:Ao P t=true->vs.length=P.cellsOf t)(BL:Ao P t=false->vs.length=1)
  (hc:∀j u,vs[j]?=some u->w.cell? ⟨b,off+j,none⟩=some u):(Instr.loadAt t (.pointer (some ⟨b,off,none⟩))).run P w= .ok (if Ao P t then .agg vs.toArray else vs.headD undef) w:=by
 simp only[Instr.loadAt,Instr.sureAddr,loadVar];cases ha:Ao P t with
 |true=>have:=tY (P:=P) (w:=w) (b:=b) vs off 0 #[] (by simpa using hc);rw[hl ha]at this;simp[Vz h,ha,Pe h,loadCells,this]
 |false=>obtain⟨v,rfl⟩:=List.length_eq_one_iff.1 (BL ha);have:=hc 0 v rfl;simp only[Nat.add_zero]at this;simp[Vz h,ha,yI this,this]
theorem SR.ptrOff{s s':SV}{v:Value}{k:Nat}(h:SR c [s] [v])(hv:∀t g m q y i sz p,s= .vptr t g m q y i sz p->c.E t=m)(hp:Go.Proofs.YtalagilebkaegaaGreat.ptrOff s k=some s'):∃b off,v= .pointer (some ⟨b,off,none⟩)/\SR c [s'] [.pointer (some ⟨b,off+k,none⟩)]:=by
 cases h with
 |ch h1 h2 _=>simp[Go.Proofs.YtalagilebkaegaaGreat.ptrOff]at hp;subst hp;exact⟨_,_,rfl, .ch h1 h2 .nil⟩
 |cq h1 h2 h3 h4 h5 _=>simp[Go.Proofs.YtalagilebkaegaaGreat.ptrOff]at hp;subst hp;have:=SR.cq (c:=c) (sz:=‹_›) (o:=‹_›) h1 h2 h3 h4 h5 .nil;refine⟨_,_,rfl,?_⟩;rw[Nat.add_assoc];exact .cq h1 h2 h3 h4 h5 .nil
 |dd h1 h2 h3 h4 h5 h6 _=>simp[Go.Proofs.YtalagilebkaegaaGreat.ptrOff]at hp;subst hp;exact⟨_,_,rfl,by rw[Nat.add_assoc];exact .dd h1 h2 h3 h4 h5 h6 .nil⟩
 |da h1 h2 _=>simp[Go.Proofs.YtalagilebkaegaaGreat.ptrOff]at hp;subst hp;exact⟨_,_,rfl, .da h1 h2 .nil⟩
 |vptr h1 h2 h3 _=>simp[Go.Proofs.YtalagilebkaegaaGreat.ptrOff]at hp;subst hp;obtain⟨b,off,len,cap,kk,kv,q1,q2,q3,q4,q5,q6,rfl⟩:=h3 (hv _ _ _ _ _ _ _ _ rfl);exact⟨_,_,rfl, .vptr h1 h2 (λ_=>⟨b,off,len,cap,kk,kv,q1,q2,q3,q4,q5,q6,by rw[Nat.add_assoc]⟩) .nil⟩
 |_=>simp[Go.Proofs.YtalagilebkaegaaGreat.ptrOff]at hp
theorem SR.asPtr{s:SV}{v:Value}(h:SR c [s] [v])(hc:∀q∈(Go.Proofs.YtalagilebkaegaaGreat.asPtr s).2,q.den c.ρ):SR c [(Go.Proofs.YtalagilebkaegaaGreat.asPtr s).1] [v]:=by
 cases s with
 |e x=>
  cases h with
  |e h1 h2 _=>obtain⟨y,hy,_⟩:=Ch hc;obtain⟨b,rfl⟩:=sF h1 hy;exact .da h1 h2 .nil
 |_=>exact h
theorem zrX(h:Bz P c n nx sl hp a sl0 hp0 o gs){t:TypeId}{x:Operand}{f:Nat}(ho:o.op= .fieldAddr t x f){e:Bb}{sg:BZ}{nv:Nat}(he:BU P sg sl0 hp0 nv nx gs o=some e)(hc:∀q∈e.ca,Cn.den c.ρ q):AB P o c n nx sl hp gs a e:=by
 have hm:x∈o.op.operands:=by simp[ho,Op.operands]
 simp only[BU,ho,As]at he;obtain⟨s,hs,he⟩:=he;have hr:=h.ct hs hm;split at he
 ·rename_i fs hu;split at he
  ·rename_i fd hf;split at he
   ·cases he
   ·rename_i hz;simp only[not_or,Bf,Bool.not_eq_false]at hz;obtain⟨hz,hpo⟩:=hz;obtain⟨s',A4,rfl⟩:=Ar.1 he;obtain⟨b,off,hv,CA⟩:=(hr.asPtr hc).ptrOff (λt g m q y i sz p hh=>Sq (t:=t) h.eh h.gs (by
     cases s with
     |vptr=>simp only[asPtr,SV.vptr.injEq]at hh;obtain⟨rfl,_,rfl,_⟩:=hh;exact hpo
     |e=>simp[asPtr]at hh
     |_=>simp[asPtr]at hh)) A4
    refine AB.pure h ?_ CA rfl;simp[execOp,ho,Instr.fieldAt,run_underlying hu,hf,hv,Instr.sureAddr,fieldPlace,wM hz,hz,Addr.add_lit]
  ·cases he
 ·cases he
theorem Vr{sz:Nat}:∀(ys:List AV),(∀y∈ys,y.cells.length=sz)-> ∀k y,ys[k]?=some y-> ∀o m,o+m<=sz->((Aq ys).drop (k*sz+o)).take m=(y.cells.drop o).take m
 | [],_,k,y,h,_,_,_=>by simp at h
 |z::ys,hs,0,y,h,o,m,hm=>by simp at h;subst h;have hz:=hs z (by simp);simp only[Aq,List.flatMap_cons,Nat.zero_mul,Nat.zero_add];rw[List.drop_append_of_le_length (by omega),List.take_append_of_le_length (by simp;omega)]
 |z::ys,hs,k+1,y,h,o,m,hm=>by have hz:=hs z (by simp);have ih:=Vr ys (λq hq=>hs q (by simp[hq])) k y (by simpa using h) o m hm;rw[<-ih];simp only[Aq,List.flatMap_cons];rw[show(k+1)*sz+o=z.cells.length+(k*sz+o)from by rw[hz,Nat.add_mul];omega,List.drop_append,List.drop_eq_nil_of_le (by omega)];simp
theorem KI{sz:Nat}:∀(ys:List AV),(∀y∈ys,y.cells.length=sz)->(Aq ys).length=ys.length*sz
 | [],_=>by simp[Aq]
 |z::ys,hs=>by have:=KI ys (λq hq=>hs q (by simp[hq]));simp only[Aq,List.flatMap_cons,AO,A6]at this ⊢;rw[this,hs z (by simp),Nat.add_mul];omega
theorem Nz{xs:List AV}{k:Nat}(h:k<xs.length):xs[k]?=some ((AV.sl xs).nth k):=by simp[AV.nth,h]
theorem Rd.gy{w:World}{vs:List Value}{x:AV}{f:List Nat}(h:Rd w vs x.cells f)(h9:∀u∈vs,u.oneCell'=true)(o m:Nat)(g:Bool)(hm:o+m<=x.cells.length)(h1:g=false->m=1):
  ∃q,(∀b∈q,b∈f)/\Rd w [if g then .agg ((vs.drop o).take m).toArray else((vs.drop o).take m).headD undef] [x.fld o m g] q:=by
 obtain⟨q,hq,hr⟩:=h.piece o m;cases g with
 |true=>exact⟨q,hq,by have:=Rd.agg (λu hu=>h9 u (BO (Br hu))) hr .nil;simpa[AV.fld]using this⟩
 |false=>
  have:=h1 rfl;subst this;have hl:=h.len;have e1:(vs.drop o).take 1=[vs[o]'(by omega)]:=by rw[Bv (by omega),List.take_succ_cons,List.take_zero]
  have e2:(x.cells.drop o).take 1=[x.cells[o]'(by omega)]:=by rw[Bv (by omega),List.take_succ_cons,List.take_zero]
  rw[e1,e2]at hr;refine⟨q,hq,?_⟩;simpa[e1,AV.fld,show o<x.cells.length by omega]using hr
theorem mS{w:World}{b off len cap:Nat}{xs:AV}{f:List Nat}{t:TypeId}{k sz fo:Nat}(hr:Rd w [.slice (some ⟨b,off,none⟩) len cap] [xs] f)(hk:k<len)(By:(xs.nth k).cells.length=sz)(ht:Dt P t=true)(hfo:fo+P.cellsOf t<=sz)(hg:Ao P t=true\/P.cellsOf t=1):
  ∃v q,(Instr.loadAt t (.pointer (some ⟨b,off+k*sz+fo,none⟩))).run P w= .ok v w/\(∀c∈q,c∈f.tail)/\Rd w [v] [(xs.nth k).fld fo (P.cellsOf t) (Ao P t)] q:=by
 cases hr with
 |du=>omega
 |scons hb h1 h2 h3 h4 h5 h6 HH h7 h8=>
  rename_i ys cs C ty fz sz' f1 f2;have hy:=Nz (xs:=ys) (k:=k) (by omega);have A4:sz'=sz:=by rw[<-By];exact(h4 _ (List.mem_of_getElem? hy)).symm
  subst A4;have B5:=KI ys h4;have Mw:(k+1)*sz'<=ys.length*sz':=Bq _ (by omega);rw[Nat.add_mul]at Mw;have hp:=Vr ys h4 k _ hy 0 sz' (by omega);obtain⟨q0,hq0,I5⟩:=h7.piece (k*sz'+0) sz';rw[hp]at I5;have Aw:(((AV.sl ys).nth k).cells.drop 0).take sz'=((AV.sl ys).nth k).cells:=by rw[List.drop_zero,List.take_of_length_le (by omega)]
  rw[Aw]at I5;have hlen:=h7.len;obtain⟨q,hq,hv⟩:=I5.gy (λu hu=>HH u (BO (Br hu))) fo (P.cellsOf t) (Ao P t) (by omega) (λh=>by rcases hg with h'|h';rw[h]at h';cases h';exact h');have Bx:(((cs.drop (k*sz'+0)).take sz').drop fo).take (P.cellsOf t)=(cs.drop (k*sz'+fo)).take (P.cellsOf t):=by rw[List.drop_take,List.take_take,List.drop_drop,Nat.add_zero,Nat.min_eq_left (by omega)]
  rw[Bx]at hv;have Mx:((cs.drop (k*sz'+fo)).take (P.cellsOf t)).length=P.cellsOf t:=by rw[Au,BD];omega
  refine⟨_,q,RV ht ((cs.drop (k*sz'+fo)).take (P.cellsOf t)) (λ_=>Mx) (λh=> ?_) (λj u hu=> ?_),λz hz=> ?_,hv⟩
  ·rw[Mx];rcases hg with h'|h';rw[h]at h';cases h';exact h'
  ·rw[EA hb];rw[List.getElem?_take]at hu;split at hu
   ·rw[List.getElem?_drop]at hu;have:=h6 _ _ hu;rw[<-this];congr 1;omega
   ·cases hu
  ·have:=hq0 z (hq z hz);simp[this]
end
abbrev JK:=List AV->Prop
abbrev LK:=List JK->Xt->St->List AV->Prop
def Jh(body:JK->List AV->Prop):Nat->List AV->Prop
 |0,_=>False
 |n+1,vs=>body (Jh body n) vs
section
variable (Rt:Nat->List AV->AV->Prop) (R:AV->Prop)
def IM(f:Nat ⊕ E)(args:List AV)(ρ:List AV)(r:AV):Prop:=
 match f with
 | .inl f=>Rt f args r
 | .inr x=> ∃g caps,x.den ρ= .fn g caps/\Rt (1000000+g) (args++caps) r/\ ∀y∈r.cells,y.scalar=true
def Tr.den:Tr->LK->List JK->List AV->Prop
 | .leaf x σ,L,js,ρ=>L js x σ ρ
 | .ret r,_,_,ρ=>R (r.den ρ)
 | .jmp d es,_,js,ρ=>match js[d]? with|some j=>j (es.den ρ)|none=>False
 | .ite c a b,L,js,ρ=> ∃t,c.den ρ= .bool t/\(t=true->a.den L js ρ)/\(t=false->b.den L js ρ)
 | .ca gs c k,L,js,ρ=>(Bt ρ gs->c.den ρ)/\k.den L js ρ
 | .call gs f args k,L,js,ρ=> ∃r,(Bt ρ gs->IM Rt f (args.den ρ) ρ r)/\k.den L js (ρ++ [r])
 | .b8 gs x k,L,js,ρ=> ∀b,(Bt ρ gs->b=true->x.den ρ= .sl [])->k.den L js (ρ++ [.bool b])
 | .stuck,_,_,_=>False
 | .join t k,L,js,ρ=>t.den L ((λvs=>k.den L js (ρ++vs))::js) ρ
 | .loop i b k,L,js,ρ=> ∃n,Jh (λW vs=>b.den L (W::(λus=>k.den L js (ρ++us))::js) (ρ++vs)) n (i.den ρ)
end
def Tr.dy:Tr->Xt->St->Prop
 | .leaf x σ,y,τ=>x=y/\σ=τ
 | .ret _,_,_=>False
 | .jmp ..,_,_=>False
 | .stuck,_,_=>False
 | .ite _ a b,y,τ=>a.dy y τ\/b.dy y τ
 | .ca _ _ k,y,τ=>k.dy y τ
 | .call _ _ _ k,y,τ=>k.dy y τ
 | .b8 _ _ k,y,τ=>k.dy y τ
 | .join t k,y,τ=>t.dy y τ\/k.dy y τ
 | .loop _ b k,y,τ=>b.dy y τ\/k.dy y τ
theorem Tr.dy.norm{t:Tr}{τ:St}(h:t.dy .normal τ):τ∈t.cz:=by
 induction t with
 |leaf x σ=>obtain⟨rfl,rfl⟩:=h;simp[Tr.cz]
 |ret|jmp|stuck=>exact h.elim
 |ite c a b iha ihb=>simp only[Tr.cz,Ac];exact h.imp iha ihb
 |ca _ _ k ih|call _ _ _ k ih|b8 _ _ k ih=>exact ih h
 |join t k iht ihk=>simp only[Tr.cz,Ac];exact h.imp iht ihk
 |loop _ b k ihb ihk=>simp only[Tr.cz,Ac];exact h.imp ihb ihk
inductive Ef:List JK->List JK->Prop where
 |nil:Ef [] []
 |cons {j j' js js'}:(∀vs,j vs->j' vs)->Ef js js'->Ef (j::js) (j'::js')
theorem Ef.refl:∀js,Ef js js
 | []=> .nil
 |_::js=> .cons (λ_ h=>h) (Ef.refl js)
theorem Ef.get{js js':List JK}(h:Ef js js'):∀{d:Nat} {j:JK},js[d]?=some j-> ∃j',js'[d]?=some j'/\ ∀vs,j vs->j' vs:=by
 induction h with
 |nil=>intro d j hd;simp at hd
 |cons h1 _ ih=>
  intro d j hd;cases d with
  |zero=>simp at hd;subst hd;exact⟨_,rfl,h1⟩
  |succ d=>simpa using ih (by simpa using hd)
theorem Ef.app{a b c d:List JK}(h:Ef a b)(k:Ef c d):Ef (a++c) (b++d):=by
 induction h with
 |nil=>exact k
 |cons h1 _ ih=>exact .cons h1 ih
theorem Ef.len{a b:List JK}(h:Ef a b):a.length=b.length:=by induction h<;>simp_all
theorem lY{b b':JK->List AV->Prop}(h:∀W W',(∀vs,W vs->W' vs)-> ∀vs,b W vs->b' W' vs):∀n vs,Jh b n vs->Jh b' n vs
 |0,_,hh=>hh.elim
 |n+1,vs,hh=>h _ _ (lY h n) vs hh
def Kn(L:LK):Prop:= ∀js js' x τ ρ,Ef js js'->L js x τ ρ->L js' x τ ρ
section
variable {Rt:Nat->List AV->AV->Prop} {R:AV->Prop}
theorem Tr.ee(t:Tr):∀{L L':LK} {js js':List JK} {ρ:List AV},t.den Rt R L js ρ->Ef js js'->
  (∀i i' x τ ρ',t.dy x τ->Ef i i'->L (i++js) x τ ρ'->L' (i'++js') x τ ρ')->t.den Rt R L' js' ρ:=by
 induction t with
 |leaf x σ=>intro L L' js js' ρ h hj hl;exact hl [] [] x σ ρ ⟨rfl,rfl⟩ .nil h
 |ret r=>intro L L' js js' ρ h hj hl;exact h
 |stuck=>intro L L' js js' ρ h hj hl;exact h
 |jmp d es=>
  intro L L' js js' ρ h hj hl;simp only[Tr.den]at h ⊢;cases hd:js[d]? with
  |none=>rw[hd]at h;exact h.elim
  |some j=>rw[hd]at h;obtain⟨j',Ld,hjj⟩:=hj.get hd;rw[Ld];exact hjj _ h
 |ite c a b iha ihb=>intro L L' js js' ρ h hj hl;obtain⟨t,h1,h2,h3⟩:=h;exact⟨t,h1,λht=>iha (h2 ht) hj λi i' x τ ρ' hf=>hl i i' x τ ρ' (.inl hf),λht=>ihb (h3 ht) hj λi i' x τ ρ' hf=>hl i i' x τ ρ' (.inr hf)⟩
 |ca gs c k ih=>intro L L' js js' ρ h hj hl;exact⟨h.1,ih h.2 hj hl⟩
 |call gs f args k ih=>intro L L' js js' ρ h hj hl;obtain⟨r,h1,h2⟩:=h;exact⟨r,h1,ih h2 hj hl⟩
 |b8 gs x k ih=>intro L L' js js' ρ h hj hl;exact λb hb=>ih (h b hb) hj hl
 |join t k iht ihk=>intro L L' js js' ρ h hj hl;refine iht (js':=(λvs=>k.den Rt R L' js' (ρ++vs))::js') h (.cons (λvs hv=>ihk hv hj λi i' x τ ρ' hf=>hl i i' x τ ρ' (.inr hf)) hj) λi i' x τ ρ' hf hi hL=> ?_;have:=hl (i++ [_]) (i'++ [_]) x τ ρ' (.inl hf) (hi.app (.cons (λvs hv=>ihk hv hj λi i' x τ ρ' hf=>hl i i' x τ ρ' (.inr hf)) .nil)) (by simpa using hL);simpa using this
 |loop i0 b k ihb ihk=>intro L L' js js' ρ h hj hl;obtain⟨n,hn⟩:=h;refine⟨n,lY (λW W' hW vs hv=> ?_) n _ hn⟩;have hk:∀us,k.den Rt R L js (ρ++us)->k.den Rt R L' js' (ρ++us):=λus hu=>ihk hu hj λi i' x τ ρ' hf=>hl i i' x τ ρ' (.inr hf);refine ihb hv (.cons hW (.cons hk hj)) λi i' x τ ρ' hf hi hL=> ?_;have:=hl (i++ [W,_]) (i'++ [W',_]) x τ ρ' (.inl hf) (hi.app (.cons hW (.cons hk .nil))) (by simpa using hL);simpa using this
theorem Tr.ff(t:Tr){L:LK}(hL:Kn L){js js':List JK}{ρ:List AV}(h:t.den Rt R L js ρ)(hj:Ef js js'):t.den Rt R L js' ρ:=
 t.ee h hj λ_ _ x τ ρ' _ hi hl=>hL _ _ x τ ρ' (hi.app hj) hl
def Xg(Rt:Nat->List AV->AV->Prop)(R:AV->Prop)(f:Nat->Xt->St->Option Tr)(L:LK)(m d:Nat):LK:=λjs x τ ρ=> ∃r d',f d' x τ=some r/\js.length+d=m+d'/\r.den Rt R L js ρ
theorem Vx{f:Nat->Xt->St->Option Tr}{L:LK}(hL:Kn L)(m d:Nat):Kn (Xg Rt R f L m d):=by rintro js js' x τ ρ hj ⟨r,d',h1,h2,h3⟩;exact⟨r,d',h1,by rw[<-hj.len];exact h2,r.ff hL h3 hj⟩
theorem Tr.ed(f:Nat->Xt->St->Option Tr){L:LK}(hL:Kn L)(t:Tr):∀{d:Nat} {t':Tr} {js:List JK} {ρ:List AV},t.sub f d=some t'->t'.den Rt R L js ρ->t.den Rt R (Xg Rt R f L js.length d) js ρ:=by
 induction t with
 |leaf x σ=>intro d t' js ρ h hd;exact⟨t',d,h,rfl,hd⟩
 |ret r=>intro d t' js ρ h hd;simp only[Tr.sub,Ad]at h;subst h;exact hd
 |stuck=>intro d t' js ρ h hd;simp only[Tr.sub,Ad]at h;subst h;exact hd
 |jmp i es=>intro d t' js ρ h hd;simp only[Tr.sub,Ad]at h;subst h;exact hd
 |ite c a b iha ihb=>
  intro d t' js ρ h hd;simp only[Tr.sub]at h;split at h
  ·rename_i x y hx hy;simp at h;subst h;obtain⟨t,h1,h2,h3⟩:=hd;exact⟨t,h1,λht=>iha hx (h2 ht),λht=>ihb hy (h3 ht)⟩
  ·cases h
 |ca g c k ih=>intro d t' js ρ h hd;obtain⟨k',hk,rfl⟩:=Ar.1 h;exact⟨hd.1,ih hk hd.2⟩
 |call g h0 as_ k ih=>intro d t' js ρ h hd;obtain⟨k',hk,rfl⟩:=Ar.1 h;obtain⟨r,h1,h2⟩:=hd;exact⟨r,h1,ih hk h2⟩
 |b8 g x k ih=>intro d t' js ρ h hd;obtain⟨k',hk,rfl⟩:=Ar.1 h;exact λb hb=>ih hk (hd b hb)
 |join t k iht ihk=>
  intro d t' js ρ h hd;simp only[Tr.sub]at h;split at h
  ·rename_i x y hx hy;simp at h;subst h;have h1:=iht hx hd;have hk:∀vs,y.den Rt R L js (ρ++vs)->k.den Rt R (Xg Rt R f L js.length d) js (ρ++vs):=λvs hv=>ihk hy hv;refine t.ee h1 (.cons hk (Ef.refl js)) λi i' x τ ρ' _ hi hl=> ?_;obtain⟨r,d',e1,e2,e3⟩:=hl;refine⟨r,d',e1,?_,r.ff hL e3 (hi.app (.cons hk (Ef.refl js)))⟩;have:=hi.len;simp only[AO,A6]at e2 ⊢;omega
  ·cases h
 |loop i0 b k ihb ihk=>
  intro d t' js ρ h hd;simp only[Tr.sub]at h;split at h
  ·rename_i x y hx hy;simp at h;subst h;obtain⟨n,hn⟩:=hd;refine⟨n,lY (λW W' hW vs hv=> ?_) n _ hn⟩;have h1:=ihb hx hv;have hk:∀vs,y.den Rt R L js (ρ++vs)->k.den Rt R (Xg Rt R f L js.length d) js (ρ++vs):=λvs hv=>ihk hy hv;refine b.ee h1 (.cons hW (.cons hk (Ef.refl js))) λi i' x τ ρ' _ hi hl=> ?_;obtain⟨r,d',e1,e2,e3⟩:=hl;refine⟨r,d',e1,?_,r.ff hL e3 (hi.app (.cons hW (.cons hk (Ef.refl js))))⟩;have:=hi.len;simp only[AO,A6]at e2 ⊢;omega
  ·cases h
end
def An{α:Type}(xs:List α)(i:Int):Option α:=if 0<=i then xs[i.toNat]? else none
open Classical in
noncomputable def AL{α:Type}(p:Prop)(k:Option α):Option α:= @ite _ p (propDecidable p) k none
def A3{α:Type}(xs:List α)(lo hi:Int):List α:=(xs.take hi.toNat).drop lo.toNat
def FG{σ α:Type}(body:σ->Option (σ ⊕ Option α)):Nat->σ->Option α
 |0,_=>none
 |n+1,s=>match body s with
  |none=>none
  |some (.inl s')=>FG body n s'
  |some (.inr o)=>o
theorem xC{σ α:Type}{body:σ->Option (σ ⊕ Option α)}:∀{n:Nat} {s:σ} {r:α},FG body n s=some r->FG body (n+1) s=some r
 |0,_,_,h=>by cases h
 |n+1,s,r,h=>by
  rcases hb:body s with _|s'|o
  ·simp[FG,hb]at h
  ·have h':FG body n s'=some r:=by simpa[FG,hb]using h
   have:=xC h';simp only[FG,hb]at this ⊢;exact this
  ·have h':o=some r:=by simpa[FG,hb]using h
   simp[FG,hb,h']
theorem yY{σ α:Type}{body:σ->Option (σ ⊕ Option α)}{n m:Nat}(hm:n<=m){s:σ}{r:α}(h:FG body n s=some r):FG body m s=some r:=by
 induction hm with
 |refl=>exact h
 |step _ ih=>exact xC ih
open Classical in
noncomputable def Av{σ α:Type}(body:σ->Option (σ ⊕ Option α))(s:σ):Option α:=
 if h:∃n r,FG body n s=some r then some (Classical.choose (Classical.choose_spec h))else none
theorem Zj{σ α:Type}{body:σ->Option (σ ⊕ Option α)}{s:σ}{r:α}:Av body s=some r↔ ∃n,FG body n s=some r:=by
 unfold Av;constructor
 ·intro h;split at h
  ·rename_i hx;simp only[Ad]at h;exact⟨_,h▸Classical.choose_spec (Classical.choose_spec hx)⟩
  ·cases h
 ·rintro⟨n,hn⟩;have hx:∃n r,FG body n s=some r:=⟨n,r,hn⟩
  rw[dif_pos hx];have h2:=Classical.choose_spec (Classical.choose_spec hx);have h3:=yY (Nat.le_max_left n (Classical.choose hx)) hn;have h4:=yY (Nat.le_max_right n (Classical.choose hx)) h2;rw[h3]at h4;exact h4.symm
theorem D3{σ α:Type}(body:σ->Option (σ ⊕ Option α))(s:σ):Av body s=match body s with|none=>none|some (.inl s')=>Av body s'|some (.inr o)=>o:=by
 apply Option.ext;intro r;rw[Zj];constructor
 ·rintro⟨n,hn⟩;cases n with
  |zero=>cases hn
  |succ n=>
   rcases hb:body s with _|s'|o
   ·simp[FG,hb]at hn
   ·exact Zj.2 ⟨n,by simpa[FG,hb]using hn⟩
   ·simpa[FG,hb]using hn
 ·intro h;rcases hb:body s with _|s'|o
  ·simp[hb]at h
  ·simp only[hb]at h;obtain⟨n,hn⟩:=Zj.1 h;exact⟨n+1,by simpa[FG,hb]using hn⟩
  ·exact⟨1,by simpa[FG,hb]using h⟩
def sV{σ α:Type}(t:Option (σ ⊕ Option α))(k:σ->Option α):Option α:=match t with
 |none=>none
 |some (.inl s)=>k s
 |some (.inr o)=>o
theorem KX{α β:Type}{o:Option α}{k:α->Option β}{r:β}(h:o.bind k=some r):∃x,o=some x/\k x=some r:=by
 cases o with
 |none=>cases h
 |some x=>exact⟨x,rfl,h⟩
theorem F6{α:Type}{p:Prop}{k:Option α}{r:α}(h:AL p k=some r):p/\k=some r:=by
 unfold AL at h;split at h
 ·exact⟨‹_›,h⟩
 ·cases h
theorem Xa{α:Type}{xs:List α}{i:Int}{x:α}(h:An xs i=some x):0<=i/\i<xs.length/\xs[i.toNat]?=some x:=by
 unfold An at h;split at h
 ·rename_i h0;have:=(List.getElem?_eq_some_iff.1 h).1;exact⟨h0,by omega,h⟩
 ·cases h
end
section
inductive Ty where
 |i (k:IntKind)
 |b
 |s
 |l (t:Ty)
 |st (n:Nat)
@[reducible] def DX(car:Nat->Type):Ty->Type
 | .i _=>Int
 | .b=>Bool
 | .s=>List UInt8
 | .l t=>List (DX car t)
 | .st n=>car n
@[reducible] def HL(car:Nat->Type):List Ty->Type
 | []=>Unit
 |t::ts=>DX car t × HL car ts
def B1{car:Nat->Type}(av:∀n,car n->AV):(t:Ty)->DX car t->AV
 | .i k,n=> .int k n
 | .b,x=> .bool x
 | .s,x=> .str x
 | .l t,xs=> .sl (xs.map (B1 av t))
 | .st n,x=>av n x
def Ih{car:Nat->Type}(av:∀n,car n->AV):(ts:List Ty)->HL car ts->List AV
 | [],_=> []
 |t::ts,x=>B1 av t x.1::Ih av ts x.2
structure PU(car:Nat->Type)(aa:List Ty)(r:Ty)where
 φ:HL car aa->Option (DX car r)
 g:Nat
 caps:List AV
structure IW where
 Rt:Nat->List AV->AV->Prop
 car:Nat->Type
 av:∀n,car n->AV
 tys:Nat->List Ty
 out:∀n,car n->HL car (tys n)
 mh:∀n,HL car (tys n)->car n
 gq:∀n x,av n x= .agg (Ih av (tys n) (out n x))
 l7:∀n h,out n (mh n h)=h
def Ty.lj:(x y:Ty)->Option (PLift (x=y))
 | .i k, .i k'=>if h:k=k' then some ⟨by rw[h]⟩else none
 | .b, .b=>some ⟨rfl⟩
 | .s, .s=>some ⟨rfl⟩
 | .l x, .l y=>match Ty.lj x y with
  |some ⟨h⟩=>some ⟨by rw[h]⟩
  |none=>none
 | .st n, .st m=>if h:n=m then some ⟨by rw[h]⟩else none
 |_,_=>none
section
variable (T:IW)
def tD(aa:List Ty)(r:Ty)(c:PU T.car aa r):Prop:= ∀ys z,c.φ ys=some z->T.Rt (1000000+c.g) (Ih T.av aa ys++c.caps) (B1 T.av r z)
mutual
inductive V where
 |v (t:Ty) (x:DX T.car t)
 |nl
 |li (vs:VL)
 |rp (n:Int) (z:V)
 |ag (vs:VL)
 |tu (vs:VL)
 |rf (x:V)
 |cl (f:Nat) (vs:VL)
 |pf (aa:List Ty) (r:Ty) (c:PU T.car aa r) (h:tD T aa r c)
 |no
inductive VL where
 |nil
 |cons (x:V) (vs:VL)
end
end
variable {T:IW}
def VL.app:VL T->VL T->VL T
 | .nil,b=>b
 | .cons x a,b=> .cons x (a.app b)
def VL.toL:VL T->List (V T)
 | .nil=> []
 | .cons x a=>x::a.toL
def VL.of:List (V T)->VL T
 | []=> .nil
 |x::a=> .cons x (VL.of a)
mutual
def V.den:V T->AV
 | .v t x=>B1 T.av t x
 | .nl=> .sl []
 | .li vs=> .sl vs.den
 | .rp n z=> .sl (List.replicate n.toNat z.den)
 | .ag vs=> .agg vs.den
 | .tu vs=> .tup vs.den
 | .rf x=> .ref x.den
 | .cl f vs=> .fn f vs.den
 | .pf _ _ c _=> .fn c.g c.caps
 | .no=> .undef
def VL.den:VL T->List AV
 | .nil=> []
 | .cons x vs=>x.den::vs.den
end
theorem VL.den_app:∀(a b:VL T),(a.app b).den=a.den++b.den
 | .nil,b=>rfl
 | .cons x a,b=>by simp[VL.app,VL.den,VL.den_app a b]
theorem VL.bh:∀(a:VL T),a.toL.map V.den=a.den
 | .nil=>rfl
 | .cons x a=>by simp[VL.toL,VL.den,VL.bh a]
theorem VL.db:∀(a:List (V T)),(VL.of a).den=a.map V.den
 | []=>rfl
 |x::a=>by simp[VL.of,VL.den,VL.db a]
theorem VL.df(a:VL T):a.toL.length=a.den.length:=by rw[<-VL.bh];simp
mutual
def V.to:V T->(t:Ty)->Option (DX T.car t)
 | .v a x,t=>match Ty.lj a t with
  |some ⟨h⟩=>some (h▸x)
  |none=>none
 | .nl, .l _=>some []
 | .li vs, .l t=>vs.fq t
 | .rp n z, .l t=>match z.to t with
  |some x=>some (List.replicate n.toNat x)
  |none=>none
 | .ag vs, .st n=>match vs.ko (T.tys n)with
  |some h=>some (T.mh n h)
  |none=>none
 |_,_=>none
def VL.fq:VL T->(t:Ty)->Option (List (DX T.car t))
 | .nil,_=>some []
 | .cons x vs,t=>match x.to t,vs.fq t with
  |some y,some ys=>some (y::ys)
  |_,_=>none
def VL.ko:VL T->(ts:List Ty)->Option (HL T.car ts)
 | .nil,[]=>some ()
 | .cons x vs,t::ts=>match x.to t,vs.ko ts with
  |some y,some ys=>some (y,ys)
  |_,_=>none
 |_,_=>none
end
mutual
theorem V.cj:∀(v:V T) {t:Ty} {x:DX T.car t},v.to t=some x->v.den=B1 T.av t x
 | .v a y,t,x,h=>by
  simp only[V.to]at h;split at h
  ·rename_i e _;cases e;cases h;rfl
  ·cases h
 | .nl, .l _,x,h=>by cases h;rfl
 | .nl, .i _,x,h| .nl, .b,x,h| .nl, .s,x,h| .nl, .st _,x,h=>by simp[V.to]at h
 | .li vs, .l t,x,h=>by simp only[V.to]at h;simp only[V.den,B1];rw[VL.eg vs h]
 | .li _, .i _,x,h| .li _, .b,x,h| .li _, .s,x,h| .li _, .st _,x,h=>by simp[V.to]at h
 | .rp n z, .l t,x,h=>by
  simp only[V.to]at h;split at h
  ·rename_i y hy;cases h;simp[V.den,B1,V.cj z hy]
  ·cases h
 | .rp _ _, .i _,x,h| .rp _ _, .b,x,h| .rp _ _, .s,x,h| .rp _ _, .st _,x,h=>by simp[V.to]at h
 | .ag vs, .st n,x,h=>by
  simp only[V.to]at h;split at h
  ·rename_i y hy;cases h;simp only[V.den,B1];rw[T.gq,T.l7,VL.fh vs hy]
  ·cases h
 | .ag _, .i _,x,h| .ag _, .b,x,h| .ag _, .s,x,h| .ag _, .l _,x,h=>by simp[V.to]at h
 | .tu _,t,x,h| .rf _,t,x,h| .cl _ _,t,x,h| .pf ..,t,x,h| .no,t,x,h=>by cases t<;>simp[V.to]at h
theorem VL.eg:∀(vs:VL T) {t:Ty} {xs:List (DX T.car t)},vs.fq t=some xs->vs.den=xs.map (B1 T.av t)
 | .nil,t,xs,h=>by cases h;rfl
 | .cons x vs,t,xs,h=>by
  simp only[VL.fq]at h;split at h
  ·rename_i y ys h1 h2;cases h;simp[VL.den,V.cj x h1,VL.eg vs h2]
  ·cases h
theorem VL.fh:∀(vs:VL T) {ts:List Ty} {xs:HL T.car ts},vs.ko ts=some xs->vs.den=Ih T.av ts xs
 | .nil,[],xs,h=>by cases h;rfl
 | .nil,_::_,xs,h=>by simp[VL.ko]at h
 | .cons _ _,[],xs,h=>by simp[VL.ko]at h
 | .cons x vs,t::ts,xs,h=>by
  simp only[VL.ko]at h;split at h
  ·rename_i y ys h1 h2;cases h;simp[VL.den,Ih,V.cj x h1,VL.fh vs h2]
  ·cases h
end
def Xm:(ts:List Ty)->HL T.car ts->VL T
 | [],_=> .nil
 |t::ts,x=> .cons (.v t x.1) (Xm ts x.2)
theorem yO:∀(ts:List Ty) (x:HL T.car ts),(Xm ts x).den=Ih T.av ts x
 | [],_=>rfl
 |t::ts,x=>by simp[Xm,VL.den,V.den,Ih,yO ts x.2]
def V.lv:V T->Option (VL T)
 | .v (.st n) x=>some (Xm (T.tys n) (T.out n x))
 | .ag vs=>some vs
 |_=>none
theorem V.c9{v:V T}{vs:VL T}(h:v.lv=some vs):v.den= .agg vs.den:=by
 unfold V.lv at h;split at h
 ·cases h;simp only[V.den,B1];rw[T.gq,yO]
 ·cases h;rfl
 ·cases h
def V.one:V T->Bool
 | .v (.st _) _=>false
 | .v _ _=>true
 | .nl| .li _| .rp _ _=>true
 |_=>false
theorem V.one_cells{v:V T}(h:v.one=true):v.den.cells=[v.den]/\(∀cs,v.den≠ .agg cs)/\(∀cs,v.den≠ .tup cs):=by
 cases v with
 |v t x=>cases t<;>first|(simp[V.one]at h;done)|(refine⟨rfl,?_,?_⟩<;>intro cs h'<;>cases h')
 |nl|li|rp=>simp[V.den,AV.cells]
 |ag|tu|rf|cl|pf|no=>simp[V.one]at h
def V.scalar:V T->Bool
 | .v (.i _) _| .v .b _| .v .s _=>true
 |_=>false
theorem V.dv{v:V T}(h:v.scalar=true):v.den.scalar=true:=by unfold V.scalar at h;split at h<;>first|rfl|cases h
def V.nc(v:V T):Option Nat:=match v.lv with
 |some vs=>some vs.toL.length
 |none=>if v.one then some 1 else none
theorem V.er{v:V T}{n:Nat}(h:v.nc=some n):v.den.cells.length=n:=by
 unfold V.nc at h;split at h
 ·rename_i vs hv;cases h;rw[V.c9 hv,VL.df];rfl
 ·split at h
  ·rename_i h1;cases h;rw[(V.one_cells h1).1];rfl
  ·cases h
def V.flat(v:V T):Bool:=match v.lv with
 |some vs=>vs.toL.all V.scalar
 |none=>v.scalar
theorem V.eu{v:V T}(h:v.flat=true):∀y∈v.den.cells,y.scalar=true:=by
 unfold V.flat at h;split at h
 ·rename_i vs hv;rw[V.c9 hv];intro y hy;have:y∈vs.den:=hy;rw[<-VL.bh,List.mem_map]at this;obtain⟨x,hx,rfl⟩:=this;exact V.dv (Bj.1 h x hx)
 ·have hs:=V.dv h;intro y hy;cases hd:v.den<;>rw[hd]at hs hy<;>simp[AV.scalar]at hs<;>(simp only[AV.cells,List.mem_singleton]at hy;subst hy;rfl)
def Xc:Ty->Bool
 | .st _=>false
 |_=>true
def W3(T:IW):Ty->Nat
 | .st n=>(T.tys n).length
 |_=>1
def o6(T:IW):Ty->Bool
 | .st n=>(T.tys n).all λt=>match t with| .i _| .b| .s=>true|_=>false
 | .i _| .b| .s=>true
 |_=>false
theorem zxz{car:Nat->Type}(av:∀n,car n->AV):∀(ts:List Ty) (x:HL car ts),(Ih av ts x).length=ts.length
 | [],_=>rfl
 |t::ts,x=>by simp[Ih,zxz av ts x.2]
theorem Np(t:Ty)(x:DX T.car t):(B1 T.av t x).cells.length=W3 T t:=by
 cases t with
 |st n=>simp only[B1,W3];rw[T.gq];exact zxz _ _ _
 |_=>rfl
theorem xH{car:Nat->Type}(av:∀n,car n->AV):∀(ts:List Ty) (x:HL car ts),(ts.all λt=>match t with| .i _| .b| .s=>true|_=>false)=true-> ∀y∈Ih av ts x,y.scalar=true
 | [],_,_,y,hy=>by cases hy
 |t::ts,x,h,y,hy=>by
  simp only[List.all_cons,Ab]at h;rcases Ae.1 hy with rfl|hy
  ·cases t<;>first|rfl|(simp at h)
  ·exact xH av ts x.2 h.2 y hy
theorem Ph{t:Ty}(h:o6 T t=true)(x:DX T.car t):∀y∈(B1 T.av t x).cells,y.scalar=true:=by
 cases t with
 |st n=>simp only[B1];rw[T.gq];exact xH _ _ _ h
 |l t=>cases h
 |_=>intro y hy;simp only[B1,AV.cells,List.mem_singleton]at hy;subst hy;rfl
def V.l0:V T->Nat->Bool
 | .v (.l t) _,n=>W3 T t==n
 | .nl,_=>true
 | .li vs,n=>vs.toL.all λv=>v.nc==some n
 | .rp _ z,n=>z.nc==some n
 |_,_=>false
def V.gl:V T->Bool
 | .v (.l t) _=>o6 T t
 | .nl=>true
 | .li vs=>vs.toL.all V.flat
 | .rp _ z=>z.flat
 |_=>false
def V.mc:V T->Bool
 | .v (.l _) _| .nl| .li _| .rp _ _=>true
 |_=>false
theorem V.jx{v:V T}(h:v.mc=true):∃xs,v.den= .sl xs:=by unfold V.mc at h;split at h<;>first|exact⟨_,rfl⟩|cases h
theorem V.gm{v:V T}{n:Nat}(h:v.l0 n=true):∃xs,v.den= .sl xs/\ ∀y∈xs,y.cells.length=n:=by
 unfold V.l0 at h;split at h
 ·simp only[AK]at h;refine⟨_,rfl,λy hy=> ?_⟩;obtain⟨x,_,rfl⟩:=List.mem_map.1 hy;rw[Np,h]
 ·exact⟨_,rfl,by simp⟩
 ·rename_i vs _;refine⟨_,rfl,λy hy=> ?_⟩;rw[<-VL.bh]at hy;obtain⟨x,hx,rfl⟩:=List.mem_map.1 hy;exact V.er (by simpa using Bj.1 h x hx)
 ·refine⟨_,rfl,λy hy=> ?_⟩;rw[List.eq_of_mem_replicate hy];exact V.er (by simpa using h)
 ·cases h
theorem V.gk{v:V T}(h:v.gl=true):∃xs,v.den= .sl xs/\ ∀y∈xs,∀z∈y.cells,z.scalar=true:=by
 unfold V.gl at h;split at h
 ·refine⟨_,rfl,λy hy=> ?_⟩;obtain⟨x,_,rfl⟩:=List.mem_map.1 hy;exact Ph h x
 ·exact⟨_,rfl,by simp⟩
 ·rename_i vs;refine⟨_,rfl,λy hy=> ?_⟩;rw[<-VL.bh]at hy;obtain⟨x,hx,rfl⟩:=List.mem_map.1 hy;exact V.eu (Bj.1 h x hx)
 ·refine⟨_,rfl,λy hy=> ?_⟩;rw[List.eq_of_mem_replicate hy];exact V.eu h
 ·cases h
def V.fld(v:V T)(o n:Nat)(g:Bool):Option (V T):=match v.lv with
 |some vs=>if g then(if o=0/\n=vs.toL.length then some v else if o+n<=vs.toL.length then some (.ag (.of ((vs.toL.drop o).take n)))else none)else vs.toL[o]?
 |none=>if g=false/\o=0/\v.one=true then some v else none
theorem V.jr{v x:V T}{o n:Nat}{g:Bool}(h:v.fld o n g=some x):v.den.fld o n g=x.den:=by
 unfold V.fld at h;split at h
 ·rename_i vs hv;rw[V.c9 hv];cases g with
  |true=>
   simp only[if_true]at h;split at h
   ·rename_i h1;cases h;obtain⟨rfl,rfl⟩:=h1;rw[V.c9 hv];simp[AV.fld,AV.cells,VL.df]
   ·split at h
    ·cases h;simp only[AV.fld,AV.cells,if_true,V.den,VL.db];rw[<-VL.bh,List.map_take,List.map_drop]
    ·cases h
  |false=>simp only[AW,if_false]at h;simp[AV.fld,AV.cells,<-VL.bh,h]
 ·split at h
  ·rename_i h1;cases h;obtain⟨rfl,rfl,h1⟩:=h1;simp[AV.fld,(V.one_cells h1).1]
  ·cases h
end
section
variable {T:IW}
inductive Fa(T:IW)where
 |ix (x i:E) (v:V T)
 |sx (x i:E) (y:UInt8)
 |tx (y:E)
 |bo (c:E) (b:Bool)
def Fa.OK(ρ:List AV):Fa T->Prop
 | .ix x i v=> ∃k n xs,i.den ρ= .int k n/\x.den ρ= .sl xs/\0<=n/\n<xs.length/\xs[n.toNat]?=some v.den
 | .sx x i y=> ∃k n s,i.den ρ= .int k n/\x.den ρ= .str s/\0<=n/\n<s.length/\s[n.toNat]?=some y
 | .tx y=>(y.den ρ).text≠ .undef
 | .bo c b=>c.den ρ= .bool b
def Fa.sc(n:Nat):Fa T->Bool
 | .ix x i _=>x.sc n&&i.sc n
 | .sx x i _=>x.sc n&&i.sc n
 | .tx y=>y.sc n
 | .bo c _=>c.sc n
theorem Fa.move{f:Fa T}{ρ τ τ':List AV}(hs:f.sc ρ.length=true)(h:f.OK (ρ++τ)):f.OK (ρ++τ'):=by
 cases f with
 |ix x i v=>simp only[Fa.sc,Ab]at hs;simp only[Fa.OK]at h ⊢;rw[E.bc ρ τ' τ x hs.1,E.bc ρ τ' τ i hs.2];exact h
 |sx x i y=>simp only[Fa.sc,Ab]at hs;simp only[Fa.OK]at h ⊢;rw[E.bc ρ τ' τ x hs.1,E.bc ρ τ' τ i hs.2];exact h
 |tx y=>simp only[Fa.OK]at h ⊢;rw[E.bc ρ τ' τ y hs];exact h
 |bo c b=>simp only[Fa.OK]at h ⊢;rw[E.bc ρ τ' τ c hs];exact h
def KV(x i:E):List (Fa T)->Option (V T)
 | []=>none
 | .ix y j v::l=>if y.beq x&&j.beq i then some v else KV x i l
 |_::l=>KV x i l
def SE(x i:E):List (Fa T)->Option UInt8
 | []=>none
 | .sx y j v::l=>if y.beq x&&j.beq i then some v else SE x i l
 |_::l=>SE x i l
def ED(x:E):List (Fa T)->Bool
 | []=>false
 | .tx y::l=>y.beq x||ED x l
 |_::l=>ED x l
def Wq(c:E):List (Fa T)->Option Bool
 | []=>none
 | .bo d b::l=>if d.beq c then some b else Wq c l
 |_::l=>Wq c l
abbrev DG(ρ:List AV)(fa:List (Fa T)):Prop:= ∀f∈fa,f.OK ρ
theorem ZK{x i:E}{ρ:List AV}:∀{fa:List (Fa T)} {v:V T},KV x i fa=some v->DG ρ fa-> ∃k n xs,i.den ρ= .int k n/\x.den ρ= .sl xs/\0<=n/\n<xs.length/\xs[n.toNat]?=some v.den
 |f::l,v,h,ho=>by
  cases f with
  |ix y j w=>
   simp only[KV]at h;split at h
   ·rename_i hb;cases h;simp only[Ab]at hb;rw[<-E.ay ρ _ _ hb.1,<-E.ay ρ _ _ hb.2];exact ho (.ix y j v) (by simp)
   ·exact ZK h λf hf=>ho f (by simp[hf])
  |sx|tx|bo=>exact ZK (fa:=l) h λf hf=>ho f (by simp[hf])
theorem Zt{x i:E}{ρ:List AV}:∀{fa:List (Fa T)} {y:UInt8},SE x i fa=some y->DG ρ fa-> ∃k n s,i.den ρ= .int k n/\x.den ρ= .str s/\0<=n/\n<s.length/\s[n.toNat]?=some y
 |f::l,v,h,ho=>by
  cases f with
  |sx y j w=>
   simp only[SE]at h;split at h
   ·rename_i hb;cases h;simp only[Ab]at hb;rw[<-E.ay ρ _ _ hb.1,<-E.ay ρ _ _ hb.2];exact ho (.sx y j v) (by simp)
   ·exact Zt h λf hf=>ho f (by simp[hf])
  |ix|tx|bo=>exact Zt (fa:=l) h λf hf=>ho f (by simp[hf])
theorem mW{x:E}{ρ:List AV}:∀{fa:List (Fa T)},ED x fa=true->DG ρ fa->(x.den ρ).text≠ .undef
 |f::l,h,ho=>by
  cases f with
  |tx y=>
   simp only[ED,Bool.or_eq_true]at h;rcases h with h|h
   ·rw[<-E.ay ρ _ _ h];exact ho (.tx y) (by simp)
   ·exact mW h λf hf=>ho f (by simp[hf])
  |ix|sx|bo=>exact mW (fa:=l) h λf hf=>ho f (by simp[hf])
theorem nV{c:E}{ρ:List AV}:∀{fa:List (Fa T)} {b:Bool},Wq c fa=some b->DG ρ fa->c.den ρ= .bool b
 |f::l,v,h,ho=>by
  cases f with
  |bo d w=>
   simp only[Wq]at h;split at h
   ·rename_i hb;cases h;rw[<-E.ay ρ _ _ hb];exact ho (.bo d v) (by simp)
   ·exact nV h λf hf=>ho f (by simp[hf])
  |ix|sx|tx=>exact nV (fa:=l) h λf hf=>ho f (by simp[hf])
def Jj(fa:List (Fa T)):E->Option Bool
 | .bool b=>some b
 | .not a=>(Jj fa a).map (!·)
 | .ite c a b=>match Jj fa c with
  |some true=>Jj fa a
  |some false=>Jj fa b
  |none=>none
 |e=>Wq e fa
theorem Ke{fa:List (Fa T)}{ρ:List AV}(ho:DG ρ fa):∀{e:E} {b:Bool},Jj fa e=some b->e.den ρ= .bool b
 |e,b,h=>by
  cases e
  case bool=>cases h;rfl
  case not a=>
   simp only[Jj,Ar]at h;obtain⟨x,hx,rfl⟩:=h;simp only[E.den,Ke ho hx,AV.ej]
  case ite c x y=>
   simp only[Jj]at h;split at h
   ·rename_i hc;simp only[E.den,Ke ho hc,AV.cond,Ke ho h]
   ·rename_i hc;simp only[E.den,Ke ho hc,AV.cond,Ke ho h]
   ·cases h
  all_goals exact nV h ho
def LF(n:Nat)(fa:List (Fa T)):E->Bool->List (Fa T)
 | .not a,b=>LF n fa a (!b)
 |c,b=>if c.sc n then .bo c b::fa else fa
theorem VU{n:Nat}{fa:List (Fa T)}{ρ:List AV}(ho:DG ρ fa):∀{e:E} {b:Bool},e.den ρ= .bool b->DG ρ (LF n fa e b)
 |e,b,h=>by
  cases e
  case not a=>
   refine VU ho (e:=a) ?_;simp only[E.den]at h;cases ha:a.den ρ<;>simp only[ha,AV.ej]at h<;>cases h;simp
  all_goals
   simp only[LF];split
   ·intro f hf;rcases Ae.1 hf with rfl|hf
    ·exact h
    ·exact ho f hf
   ·exact ho
theorem VV{n:Nat}{fa:List (Fa T)}(hs:∀f∈fa,f.sc n=true):∀{e:E} {b:Bool},∀f∈LF n fa e b,f.sc n=true
 |e,b=>by
  cases e
  case not a=>exact VV hs (e:=a)
  all_goals
   simp only[LF];split
   ·rename_i hc;intro f hf;rcases Ae.1 hf with rfl|hf
    ·exact hc
    ·exact hs f hf
   ·exact hs
def V.int?:V T->Option (IntKind × Int)
 | .v (.i k) n=>some (k,n)
 |_=>none
def V.bool?:V T->Option Bool
 | .v .b x=>some x
 |_=>none
def V.str?:V T->Option (List UInt8)
 | .v .s x=>some x
 |_=>none
theorem V.int?_den{v:V T}{k:IntKind}{n:Int}(h:v.int?=some (k,n)):v.den= .int k n:=by unfold V.int? at h;split at h<;>cases h;rfl
theorem V.bool?_den{v:V T}{b:Bool}(h:v.bool?=some b):v.den= .bool b:=by unfold V.bool? at h;split at h<;>cases h;rfl
theorem V.str?_den{v:V T}{s:List UInt8}(h:v.str?=some s):v.den= .str s:=by unfold V.str? at h;split at h<;>cases h;rfl
def vI(k:IntKind)(n:Int):V T:= .v (.i k) n
def vB(b:Bool):V T:= .v .b b
def vS(s:List UInt8):V T:= .v .s s
@[simp] theorem V8(k:IntKind)(n:Int):(vI k n:V T).den= .int k n:=rfl
@[simp] theorem Wj(b:Bool):(vB b:V T).den= .bool b:=rfl
@[simp] theorem zFF(s:List UInt8):(vS s:V T).den= .str s:=rfl
def tG(op:BinOp)(k:IntKind)(a b:Int):V T:=
 match op with
 | .add=>vI k (k.wrap (a+b))
 | .sub=>vI k (k.wrap (a-b))
 | .mul=>vI k (k.wrap (a*b))
 | .quo=>vI k (k.wrap (a.tdiv b))
 | .rem=>vI k (a.tmod b)
 | .eql=>vB (a==b)
 | .neq=>vB (a !=b)
 | .lss=>vB (a<b)
 | .leq=>vB (a<=b)
 | .gtr=>vB (a>b)
 | .geq=>vB (a>=b)
 | .and=>vI k (k.wrap (BitVec.ofInt k.bits a&&&BitVec.ofInt k.bits b).toNat)
 | .or=>vI k (k.wrap (BitVec.ofInt k.bits a|||BitVec.ofInt k.bits b).toNat)
 | .xor=>vI k (k.wrap (BitVec.ofInt k.bits a^^^BitVec.ofInt k.bits b).toNat)
 | .andNot=>vI k (k.wrap (BitVec.ofInt k.bits a&&& ~~~BitVec.ofInt k.bits b).toNat)
 | .shl=>vI k (k.wrap (a*2^(min b.toNat k.bits)))
 | .shr=>vI k (a.fdiv (2^(min b.toNat k.bits)))
theorem zCb(op:BinOp)(k:IntKind)(a b:Int):(tG op k a b:V T).den=Cw op k a b:=by cases op<;>rfl
def fE(op:BinOp)(a b:List UInt8):Option (V T):=
 match op with
 | .add=>some (vS (a++b))
 | .eql=>some (vB (a==b))
 | .neq=>some (vB (a !=b))
 | .lss=>some (vB (Op.bytesLess a b))
 | .leq=>some (vB (Op.bytesLess a b||a==b))
 | .gtr=>some (vB (!(Op.bytesLess a b||a==b)))
 | .geq=>some (vB (!Op.bytesLess a b))
 |_=>none
theorem zAo{op:BinOp}{a b:List UInt8}{v:V T}(h:fE op a b=some v):v.den=SF op a b:=by cases op<;>simp only[fE,Ad,reduceCtorEq]at h<;>subst h<;>rfl
def V.gj:V T->Option Int
 | .v (.l _) xs=>some (xs.length:Int)
 | .nl=>some ((0:Nat):Int)
 | .li vs=>some (vs.toL.length:Int)
 | .rp n _=>some (n.toNat:Int)
 |_=>none
theorem V.fm{v:V T}{n:Int}(h:v.gj=some n):∃xs:List AV,v.den= .sl xs/\(xs.length:Int)=n:=by
 unfold V.gj at h;split at h
 ·cases h;exact⟨_,rfl,by simp⟩
 ·cases h;exact⟨_,rfl,by simp⟩
 ·cases h;exact⟨_,rfl,by rw[VL.df]⟩
 ·cases h;exact⟨_,rfl,by simp⟩
 ·cases h
def V.kr:V T->V T->Option (V T)
 | .v (.l t) xs,y=>match y.to (.l t)with
  |some ys=>some (.v (.l t) (xs++ys))
  |none=>none
 | .nl,y=>if y.mc then some y else none
 | .li vs, .li ws=>some (.li (vs.app ws))
 | .li vs, .v (.l t) ys=>match vs.fq t with
  |some xs=>some (.v (.l t) (xs++ys))
  |none=>none
 |_,_=>none
theorem V.iq{a b c:V T}(h:a.kr b=some c):a.den.app b.den=c.den:=by
 unfold V.kr at h;split at h
 ·split at h
  ·rename_i t xs y ys hy;cases h;rw[V.cj _ hy];simp[V.den,B1,AV.app]
  ·cases h
 ·split at h
  ·rename_i hi;cases h;obtain⟨ys,hy⟩:=V.jx hi;rw[hy];rfl
  ·cases h
 ·cases h;simp[V.den,AV.app,VL.den_app]
 ·split at h
  ·rename_i hx;cases h;simp[V.den,B1,AV.app,VL.eg _ hx]
  ·cases h
 ·cases h
def VL.me:VL T->Option Ty
 | .cons (.v t _) _=>some t
 |_=>none
def V.ma:V T->Option ((t:Ty) × List (DX T.car t))
 | .v (.l t) xs=>some ⟨t,xs⟩
 | .li vs=>match vs.me with
  |some t=>(match V.to (.li vs) (.l t)with
   |some xs=>some ⟨t,xs⟩
   |none=>none)
  |none=>none
 |_=>none
theorem V.jj{v:V T}{t:Ty}{xs:List (DX T.car t)}(h:v.ma=some ⟨t,xs⟩):v.den= .sl (xs.map (B1 T.av t)):=by
 unfold V.ma at h;split at h
 ·simp only[Ad,Sigma.mk.injEq]at h;obtain⟨rfl,h⟩:=h;cases h;simp[V.den,B1]
 ·split at h
  ·split at h
   ·rename_i ys hy;simp only[Ad,Sigma.mk.injEq]at h;obtain⟨rfl,h⟩:=h;cases h;rw[V.cj _ hy];simp[B1]
   ·cases h
  ·cases h
 ·cases h
def V.k8:V T->Int->Int->Option (V T)
 | .v (.l t) xs,a,b=>some (.v (.l t) (A3 xs a b))
 | .nl,_,_=>some .nl
 | .li vs,a,b=>match vs.me with
  |some t=>(match V.to (.li vs) (.l t)with
   |some xs=>some (.v (.l t) (A3 xs a b))
   |none=>none)
  |none=>none
 |_,_,_=>none
theorem V.jb{v x:V T}{a b:Int}(h:v.k8 a b=some x)(ka kb:IntKind):v.den.win (.int ka a) (.int kb b)=x.den:=by
 unfold V.k8 at h;split at h
 ·cases h;simp[V.den,B1,AV.win,A3,List.map_take,List.map_drop]
 ·cases h;simp[V.den,AV.win]
 ·split at h
  ·split at h
   ·rename_i xs hx;cases h;rw[V.cj _ hx];simp[V.den,B1,AV.win,A3,List.map_take,List.map_drop]
   ·cases h
  ·cases h
 ·cases h
def V.la:V T->Int->V T->Option (V T)
 | .v (.l t) xs,i,w=>match w.to t with
  |some y=>some (.v (.l t) (xs.set i.toNat y))
  |none=>none
 |_,_,_=>none
theorem V.jf{v w x:V T}{i:Int}(h:v.la i w=some x)(k:IntKind):v.den.c6 (.int k i) w.den=x.den:=by
 unfold V.la at h;split at h
 ·split at h
  ·rename_i hy;cases h;simp[V.den,B1,AV.c6,V.cj _ hy,List.map_set]
  ·cases h
 ·cases h
def V.kp(x:V T)(o:Nat)(v:V T)(g:Bool):Option (V T):=
 if g then match x.lv,(match v.lv with|some l=>some l|none=>if v.one then some (.cons v .nil)else none)with
  |some xs,some vs=>some (.ag (.of (xs.toL.take o++vs.toL++xs.toL.drop (o+vs.toL.length))))
  |_,_=>none
 else some v
theorem V.ir{x v y:V T}{o:Nat}{g:Bool}(h:x.kp o v g=some y):x.den.c8 o v.den g=y.den:=by
 unfold V.kp at h;cases g with
 |false=>simp at h;subst h;rfl
 |true=>
  simp only[if_true]at h;split at h
  ·rename_i xs vs hx hv;cases h;have hc:v.den.cells=vs.den:=by
    split at hv
    ·rename_i l hl;cases hv;rw[V.c9 hl];rfl
    ·split at hv
     ·rename_i h1;cases hv;rw[(V.one_cells h1).1];rfl
     ·cases hv
   rw[V.c9 hx];simp only[AV.c8,if_true,hc,V.den,VL.db,List.map_append,List.map_take,List.map_drop,VL.bh,VL.df];rfl
  ·cases h
def V.kt(n:Int):V T->V T
 | .v t z=> .v (.l t) (List.replicate n.toNat z)
 |z=> .rp n z
theorem V.ie(n:Int)(z:V T)(k:IntKind):(V.kt n z).den=AV.rep (.int k n) z.den:=by cases z<;>simp[V.kt,V.den,B1,AV.rep]
def V.l4:V T->V T->Option Bool
 | .v (.i _) a, .v (.i _) b=>some (a==b)
 | .v .b a, .v .b b=>some (a==b)
 | .v .s a, .v .s b=>some (a==b)
 |_,_=>none
def OO:List (V T)->List (V T)->Option Bool
 | [],[]=>some true
 | [x],[y]=>x.l4 y
 |x::xs,y::ys=>match x.l4 y,OO xs ys with
  |some a,some b=>some (a&&b)
  |_,_=>none
 |_,_=>none
theorem V.gv{x y:V T}{b:Bool}(h:x.l4 y=some b):x.den.seq y.den=b:=by unfold V.l4 at h;split at h<;>cases h<;>rfl
theorem yS:∀{xs ys:List (V T)} {b:Bool},OO xs ys=some b->AV.leq (xs.map V.den) (ys.map V.den)=b
 | [],[],b,h=>by cases h;rfl
 | [x],[y],b,h=>by simp only[List.map_cons,List.map_nil,AV.leq,Bool.and_true];exact V.gv (x:=x) (y:=y) h
 |x::x'::xs,y::ys,b,h=>by
  simp only[OO]at h;split at h
  ·rename_i h1 h2;cases h;have:=yS h2;simp only[List.map_cons]at this ⊢;rw[AV.leq,V.gv h1,this]
  ·cases h
 | [x],y::y'::ys,b,h=>by
  simp only[OO]at h;split at h
  ·rename_i h1 h2;cases h2
  ·cases h
 | [],_::_,b,h=>by simp[OO]at h
 |_::_,[],b,h=>by simp[OO]at h
def V.km(x y:V T):Option Bool:=match x.lv,y.lv with
 |some a,some b=>OO a.toL b.toL
 |_,_=>none
theorem V.iw{x y:V T}{b:Bool}(h:x.km y=some b):AV.aeq x.den y.den= .bool b:=by
 unfold V.km at h;split at h
 ·rename_i h1 h2;rw[V.c9 h1,V.c9 h2];simp only[AV.aeq,<-VL.bh,yS h]
 ·cases h
def VL.get(i:Nat)(vs:VL T):Option (V T):=vs.toL[i]?
def Wo(fa:List (Fa T))(i:E):E->Bool
 | .set b j v=>(KV (.set b j v) i fa).isSome||(j.beq i&&Wo fa i b)
 |b=>(KV b i fa).isSome
section
variable (env:List (V T)) (fa:List (Fa T))
mutual
def AS:E->Option (V T)
 | .var i=>match env[i]? with
  |some .no=>none
  |some v=>some v
  |none=>none
 | .int k n=>some (vI k n)
 | .bool b=>some (vB b)
 | .str s=>some (vS s.data.toList)
 | .dj=>none
 | .lst es=>match es with
  | .nil=>some .nl
  |es=>(Jp es).map .li
 | .mk es=>(Jp es).map .ag
 | .tup es=>(Jp es).map .tu
 | .ref e=>(AS e).map .rf
 | .fn f es=>(Jp es).map (.cl f)
 | .fld e o n g=>(AS e).bind λv=>v.fld o n g
 | .proj e i=>match AS e with
  |some (.tu vs)=>vs.get i
  |_=>none
 | .deref e=>match AS e with
  |some (.rf x)=>some x
  |_=>none
 | .len e=>((AS e).bind V.gj).map (vI .i64)
 | .slen e=>((AS e).bind V.str?).map λs=>vI .i64 s.length
 | .idx x i=>match KV x i fa with
  |some v=>some v
  |none=>match x with
   | .set b j v=>if j.beq i&&Wo fa i b then AS v else none
   |_=>none
 | .sidx x i=>(SE x i fa).map λy=>vI .u8 y.toNat
 | .win e a b=>match AS e,(AS a).bind V.int?,(AS b).bind V.int? with
  |some x,some p,some q=>x.k8 p.2 q.2
  |_,_,_=>none
 | .swin e a b=>match(AS e).bind V.str?,(AS a).bind V.int?,(AS b).bind V.int? with
  |some x,some p,some q=>some (vS (A3 x p.2 q.2))
  |_,_,_=>none
 | .app a b=>match AS a,AS b with
  |some x,some y=>x.kr y
  |_,_=>none
 | .set x i v=>match AS x,(AS i).bind V.int?,AS v with
  |some x,some p,some w=>x.la p.2 w
  |_,_,_=>none
 | .put x o v g=>match AS x,AS v with
  |some x,some w=>x.kp o w g
  |_,_=>none
 | .rep n z=>match(AS n).bind V.int?,AS z with
  |some p,some w=>some (.kt p.2 w)
  |_,_=>none
 | .conv k e=>((AS e).bind V.int?).map λp=>vI k (k.wrap p.2)
 | .bin op a b=>match(AS a).bind V.int?,(AS b).bind V.int? with
  |some p,some q=>if p.1=q.1\/op= .shl\/op= .shr then some (tG op p.1 p.2 q.2)else none
  |_,_=>none
 | .sbin op a b=>match(AS a).bind V.str?,(AS b).bind V.str? with
  |some p,some q=>fE op p q
  |_,_=>none
 | .bbin op a b=>match(AS a).bind V.bool?,(AS b).bind V.bool? with
  |some p,some q=>(match op with
   | .eql=>some (vB (p==q))
   | .neq=>some (vB (p !=q))
   |_=>none)
  |_,_=>none
 | .aeq a b=>match AS a,AS b with
  |some x,some y=>(x.km y).map vB
  |_,_=>none
 | .not a=>match Jj fa a with
  |some b=>some (vB (!b))
  |none=>((AS a).bind V.bool?).map λb=>vB (!b)
 | .neg a=>((AS a).bind V.int?).map λp=>vI p.1 (p.1.wrap (0-p.2))
 | .ite c a b=>match Jj fa c with
  |some true=>AS a
  |some false=>AS b
  |none=>match(AS c).bind V.bool? with
   |none=>none
   |some x=>
    if b.beq (.bool false)then((AS a).bind V.bool?).map λp=>vB (x&&p)else
    if a.beq (.bool true)then((AS b).bind V.bool?).map λp=>vB (x||p)else
    match AS a,AS b with
    |some (.v t p),some q=>(q.to t).map λq=> .v t (bif x then p else q)
    |_,_=>none
 | .bytes a=>((AS a).bind V.str?).map λx=> .v (.l (.i .u8)) (x.map λb=>(b.toNat:Int))
 | .text a=>if ED a fa then(match AS a with
   |some x=>(x.to (.l (.i .u8))).map λl=>vS (l.map λn=>UInt8.ofNat n.toNat)
   |none=>none)else none
def Jp:EL->Option (VL T)
 | .nil=>some .nil
 | .cons e es=>match AS e,Jp es with
  |some x,some xs=>some (.cons x xs)
  |_,_=>none
end
end
theorem wW{fa:List (Fa T)}{x i:E}{ρ:List AV}(ho:DG ρ fa){v:V T}(h:KV x i fa=some v):(x.den ρ).idx (i.den ρ)=v.den:=by obtain⟨k,n,xs,h1,h2,_,_,h5⟩:=ZK h ho;simp only[h1,h2,AV.idx,AV.nth,h5,Df]
theorem zP{fa:List (Fa T)}{i:E}{ρ:List AV}(ho:DG ρ fa):∀{b:E},Wo fa i b=true-> ∃xs k n,b.den ρ= .sl xs/\i.den ρ= .int k n/\0<=n/\n<xs.length:=by
 have base:∀{b:E},(KV b i fa).isSome=true-> ∃xs k n,b.den ρ= .sl xs/\i.den ρ= .int k n/\0<=n/\n<xs.length:=by intro b h;obtain⟨v,hv⟩:=Option.isSome_iff_exists.1 h;obtain⟨k,n,xs,h1,h2,h3,h4,_⟩:=ZK hv ho;exact⟨xs,k,n,h2,h1,h3,h4⟩
 intro b h
 induction b using E.rec (motive_2:=λ_=>True)with
 |set b j v ihb _ _=>
  simp only[Wo,Bool.or_eq_true,Ab]at h;rcases h with h|h
  ·exact base h
  ·obtain⟨xs,k,n,h1,h2,h3,h4⟩:=ihb h.2;refine⟨xs.set n.toNat (v.den ρ),k,n,?_,h2,h3,by simpa using h4⟩;simp only[E.den,h1,E.ay ρ _ _ h.1,h2,AV.c6]
 |nil|cons=>trivial
 |_=>exact base h
mutual
theorem BS{env:List (V T)}{fa:List (Fa T)}(ho:DG (env.map V.den) fa):∀(e:E) {v:V T},AS env fa e=some v->e.den (env.map V.den)=v.den
 | .var i,v,h=>by
  simp only[AS]at h;simp only[E.den,List.getElem?_map];split at h
  ·cases h
  ·rename_i w _ hw;cases h;rw[hw];rfl
  ·cases h
 | .int k n,v,h=>by cases h;rfl
 | .bool b,v,h=>by cases h;rfl
 | .str s,v,h=>by cases h;rfl
 | .dj,v,h=>by simp[AS]at h
 | .lst .nil,v,h=>by simp only[AS]at h;cases h;rfl
 | .lst (.cons e es),v,h=>by simp only[AS,Ar]at h;obtain⟨vs,hv,rfl⟩:=h;simp only[E.den,V.den,L1 ho (.cons e es) hv]
 | .mk es,v,h=>by simp only[AS,Ar]at h;obtain⟨vs,hv,rfl⟩:=h;simp only[E.den,V.den,L1 ho es hv]
 | .tup es,v,h=>by simp only[AS,Ar]at h;obtain⟨vs,hv,rfl⟩:=h;simp only[E.den,V.den,L1 ho es hv]
 | .ref e,v,h=>by simp only[AS,Ar]at h;obtain⟨w,hv,rfl⟩:=h;simp only[E.den,V.den,BS ho e hv]
 | .fn f es,v,h=>by simp only[AS,Ar]at h;obtain⟨vs,hv,rfl⟩:=h;simp only[E.den,V.den,L1 ho es hv]
 | .fld e o n g,v,h=>by simp only[AS,As]at h;obtain⟨w,hw,h⟩:=h;simp only[E.den,BS ho e hw,V.jr h]
 | .proj e i,v,h=>by
  simp only[AS]at h;split at h
  ·rename_i vs hw;simp only[E.den,BS ho e hw,V.den,AV.proj];unfold VL.get at h;rw[<-VL.bh,List.getElem?_map,h];rfl
  ·cases h
 | .deref e,v,h=>by
  simp only[AS]at h;split at h
  ·rename_i x hw;cases h;simp only[E.den,BS ho e hw,V.den,AV.deref]
  ·cases h
 | .len e,v,h=>by simp only[AS,Ar,As]at h;obtain⟨n,⟨w,hw,hn⟩,rfl⟩:=h;obtain⟨xs,h1,h2⟩:=V.fm hn;simp only[E.den,BS ho e hw,h1,AV.len,h2,V8]
 | .slen e,v,h=>by simp only[AS,Ar,As]at h;obtain⟨n,⟨w,hw,hn⟩,rfl⟩:=h;simp only[E.den,BS ho e hw,V.str?_den hn,AV.slen,V8]
 | .idx x i,v,h=>by
  have key:∀o,KV x i fa=o->(match o with|some v=>some v|none=>none)=some v->(x.den (env.map V.den)).idx (i.den (env.map V.den))=v.den:=by
   intro o TN h;cases o with
   |none=>cases h
   |some w=>cases h;exact wW ho TN
  by_cases hs:∃b j u,x= .set b j u
  ·obtain⟨b,j,u,hx⟩:=hs;have AG:SizeOf.sizeOf u<SizeOf.sizeOf x:=by rw[hx];simp;omega
   have ih:∀{v:V T},AS env fa u=some v->u.den (env.map V.den)=v.den:=λhv=>BS ho u hv;clear AG;subst hx;simp only[AS]at h;split at h
   ·rename_i w hw;cases h;exact wW ho hw
   ·split at h
    ·rename_i hb;simp only[Ab]at hb;obtain⟨xs,k,n,h1,h2,h3,h4⟩:=zP ho hb.2;have h5:n.toNat<xs.length:=by omega
     have:=ih h;simp only[E.den,h1,E.ay _ _ _ hb.1,h2,AV.c6,AV.idx,AV.nth];simp[h5,this]
    ·cases h
  ·cases x
   case set b j u=>exact absurd ⟨b,j,u,rfl⟩ hs
   all_goals
    simp only[AS]at h;exact key _ rfl h
 | .sidx x i,v,h=>by simp only[AS,Ar]at h;obtain⟨y,hy,rfl⟩:=h;obtain⟨k,n,s,h1,h2,_,_,h5⟩:=Zt hy ho;simp only[E.den,h1,h2,AV.sidx,h5,V8]
 | .win e a b,v,h=>by
  simp only[AS]at h;split at h
  ·rename_i x p q hx hp hq;obtain⟨w1,ha,hp⟩:=As.1 hp;obtain⟨w2,hb,hq⟩:=As.1 hq;simp only[E.den,BS ho e hx,BS ho a ha,BS ho b hb,V.int?_den hp,V.int?_den hq];exact V.jb h _ _
  ·cases h
 | .swin e a b,v,h=>by
  simp only[AS]at h;split at h
  ·rename_i x p q hx hp hq;obtain⟨w0,he,hx⟩:=As.1 hx;obtain⟨w1,ha,hp⟩:=As.1 hp;obtain⟨w2,hb,hq⟩:=As.1 hq;cases h;simp only[E.den,BS ho e he,BS ho a ha,BS ho b hb,V.str?_den hx,V.int?_den hp,V.int?_den hq];rfl
  ·cases h
 | .app a b,v,h=>by
  simp only[AS]at h;split at h
  ·rename_i x y hx hy;simp only[E.den,BS ho a hx,BS ho b hy];exact V.iq h
  ·cases h
 | .set x i u,v,h=>by
  simp only[AS]at h;split at h
  ·rename_i y p w hy hp hw;obtain⟨w1,hi,hp⟩:=As.1 hp;simp only[E.den,BS ho x hy,BS ho i hi,V.int?_den hp,BS ho u hw];exact V.jf h _
  ·cases h
 | .put x o u g,v,h=>by
  simp only[AS]at h;split at h
  ·rename_i y w hy hw;simp only[E.den,BS ho x hy,BS ho u hw];exact V.ir h
  ·cases h
 | .rep n z,v,h=>by
  simp only[AS]at h;split at h
  ·rename_i p w hp hw;obtain⟨w1,hi,hp⟩:=As.1 hp;cases h;simp only[E.den,BS ho n hi,V.int?_den hp,BS ho z hw];exact(V.ie _ _ _).symm
  ·cases h
 | .conv k e,v,h=>by simp only[AS,Ar,As]at h;obtain⟨p,⟨w,hw,hp⟩,rfl⟩:=h;simp only[E.den,BS ho e hw,V.int?_den hp,AV.conv,V8]
 | .bin op a b,v,h=>by
  simp only[AS]at h;split at h
  ·rename_i p q hp hq;obtain⟨w1,ha,hp⟩:=As.1 hp;obtain⟨w2,hb,hq⟩:=As.1 hq;split at h
   ·rename_i hk;cases h;simp only[E.den,BS ho a ha,BS ho b hb,V.int?_den hp,V.int?_den hq,AV.bin,if_pos hk,zCb]
   ·cases h
  ·cases h
 | .sbin op a b,v,h=>by
  simp only[AS]at h;split at h
  ·rename_i p q hp hq;obtain⟨w1,ha,hp⟩:=As.1 hp;obtain⟨w2,hb,hq⟩:=As.1 hq;simp only[E.den,BS ho a ha,BS ho b hb,V.str?_den hp,V.str?_den hq,AV.sbin,zAo h]
  ·cases h
 | .bbin op a b,v,h=>by
  simp only[AS]at h;split at h
  ·rename_i p q hp hq;obtain⟨w1,ha,hp⟩:=As.1 hp;obtain⟨w2,hb,hq⟩:=As.1 hq;simp only[E.den,BS ho a ha,BS ho b hb,V.bool?_den hp,V.bool?_den hq,AV.bbin];split at h<;>cases h<;>rfl
  ·cases h
 | .aeq a b,v,h=>by
  simp only[AS]at h;split at h
  ·rename_i x y hx hy;simp only[Ar]at h;obtain⟨c,hc,rfl⟩:=h;simp only[E.den,BS ho a hx,BS ho b hy,V.iw hc,Wj]
  ·cases h
 | .not a,v,h=>by
  simp only[AS]at h;split at h
  ·rename_i b hb;cases h;simp only[E.den,Ke ho hb,AV.ej,Wj]
  ·simp only[Ar,As]at h;obtain⟨c,⟨w,hw,hc⟩,rfl⟩:=h;simp only[E.den,BS ho a hw,V.bool?_den hc,AV.ej,Wj]
 | .neg a,v,h=>by simp only[AS,Ar,As]at h;obtain⟨p,⟨w,hw,hp⟩,rfl⟩:=h;simp only[E.den,BS ho a hw,V.int?_den hp,AV.ib,V8]
 | .ite c a b,v,h=>by
  simp only[AS]at h;split at h
  ·rename_i hc;simp only[E.den,Ke ho hc,AV.cond];exact BS ho a h
  ·rename_i hc;simp only[E.den,Ke ho hc,AV.cond];exact BS ho b h
  ·split at h
   ·cases h
   ·rename_i x hx;obtain⟨w,hw,hx⟩:=As.1 hx;have hc:=BS ho c hw;rw[V.bool?_den hx]at hc;split at h
    ·rename_i hb;simp only[Ar,As]at h;obtain⟨p,⟨w,hw,hp⟩,rfl⟩:=h;have h2:=E.ay (env.map V.den) _ _ hb;simp only[E.den]at h2;simp only[E.den,hc,BS ho a hw,V.bool?_den hp,h2,Wj];cases x<;>rfl
    ·split at h
     ·rename_i hb;simp only[Ar,As]at h;obtain⟨p,⟨w,hw,hp⟩,rfl⟩:=h;have h2:=E.ay (env.map V.den) _ _ hb;simp only[E.den]at h2;simp only[E.den,hc,BS ho b hw,V.bool?_den hp,h2,Wj];cases x<;>rfl
     ·split at h
      ·rename_i t p q hp hq;simp only[Ar]at h;obtain⟨q',GO,rfl⟩:=h;simp only[E.den,hc,BS ho a hp,BS ho b hq,V.cj _ GO];cases x<;>rfl
      ·cases h
 | .bytes a,v,h=>by simp only[AS,Ar,As]at h;obtain⟨p,⟨w,hw,hp⟩,rfl⟩:=h;simp[E.den,BS ho a hw,V.str?_den hp,AV.bytes,V.den,B1]
 | .text a,v,h=>by
  simp only[AS]at h;split at h
  ·rename_i ht;split at h
   ·rename_i x hx;simp only[Ar]at h;obtain⟨l,hl,rfl⟩:=h;have h1:=mW ht ho;have h2:=BS ho a hx;rw[V.cj _ hl]at h2;have key:∀l:List Int,MS (l.map λn=>AV.int .u8 n)=some (l.map λn=>UInt8.ofNat n.toNat):=by
     intro l
     induction l with
     |nil=>rfl
     |cons n l ih=>simp[MS,ih]
    simp only[E.den,h2,AV.text,B1,zFF]at h1 ⊢;have key2:=key l;simp only[show(List.map (B1 T.av (.i .u8)) l)=l.map (λn=>AV.int .u8 n)from rfl,key2]at h1 ⊢;split at h1
    ·rename_i hle;rw[if_pos hle]
    ·simp at h1
   ·cases h
  ·cases h
termination_by e=>SizeOf.sizeOf e
decreasing_by all_goals first|(simp_wf;done)|(simp_wf;omega)|omega
theorem L1{env:List (V T)}{fa:List (Fa T)}(ho:DG (env.map V.den) fa):∀(es:EL) {vs:VL T},Jp env fa es=some vs->es.den (env.map V.den)=vs.den
 | .nil,vs,h=>by cases h;rfl
 | .cons e es,vs,h=>by
  simp only[Jp]at h;split at h
  ·rename_i x xs hx Ck;cases h;simp only[EL.den,VL.den,BS ho e hx,L1 ho es Ck]
  ·cases h
termination_by es=>SizeOf.sizeOf es
decreasing_by all_goals first|(simp_wf;done)|(simp_wf;omega)|omega
end
end
section
inductive PT where
 |v (t:Ty)
 |rf (t:Ty)
 |rr (t:Ty)
 |fn (aa:List Ty) (r:Ty)
@[reducible] def PV(car:Nat->Type):PT->Type
 | .v t=>DX car t
 | .rf t=>DX car t
 | .rr t=>DX car t
 | .fn aa r=>PU car aa r
@[reducible] def HP(car:Nat->Type):List PT->Type
 | []=>Unit
 |p::ps=>PV car p × HP car ps
def MW(t:Ty)(a:AV):AV:=if Xc t then .ref (.agg [a])else .ref a
mutual
inductive RT where
 |v (t:Ty)
 |bo (t:Ty)
 |tu (l:RL)
inductive RL where
 |nil
 |cons (r:RT) (l:RL)
end
mutual
@[reducible] def Il(car:Nat->Type):RT->Type
 | .v t=>DX car t
 | .bo t=>DX car t
 | .tu l=>NP car l
@[reducible] def NP(car:Nat->Type):RL->Type
 | .nil=>Unit
 | .cons r .nil=>Il car r
 | .cons r (.cons q l)=>Il car r × NP car (.cons q l)
end
section
variable (T:IW)
def Lz:(p:PT)->PV T.car p->AV
 | .v t,x=>B1 T.av t x
 | .rf t,x=>MW t (B1 T.av t x)
 | .rr t,x=> .ref (.agg [MW t (B1 T.av t x)])
 | .fn _ _,c=> .fn c.g c.caps
def F3:(ps:List PT)->HP T.car ps->List AV
 | [],_=> []
 |p::ps,x=>Lz T p x.1::F3 ps x.2
mutual
def GC:(r:RT)->Il T.car r->AV
 | .v t,x=>B1 T.av t x
 | .bo t,x=> .agg [B1 T.av t x]
 | .tu l,x=> .tup (NK l x)
def NK:(l:RL)->NP T.car l->List AV
 | .nil,_=> []
 | .cons r .nil,x=> [GC r x]
 | .cons r (.cons q l),x=>GC r x.1::NK (.cons q l) x.2
end
def Us:(p:PT)->PV T.car p->Prop
 | .fn aa r,c=>tD T aa r c
 |_,_=>True
def IU:(ps:List PT)->HP T.car ps->Prop
 | [],_=>True
 |p::ps,x=>Us T p x.1/\IU ps x.2
structure FN where
 f:Nat
 ps:List PT
 r:RT
 φ:HP T.car ps->Option (Il T.car r)
 ok:∀xs y,IU T ps xs->φ xs=some y->T.Rt f (F3 T ps xs) (GC T r y)
 pl:Bool
 okp:pl=true-> ∀xs y,IU T ps xs->φ xs=some y->T.Rt (1000000+f) (F3 T ps xs) (GC T r y)
end
variable {T:IW}
mutual
def vR:(r:RT)->Il T.car r->V T
 | .v t,x=> .v t x
 | .bo t,x=> .ag (.cons (.v t x) .nil)
 | .tu l,x=> .tu (Ug l x)
def Ug:(l:RL)->NP T.car l->VL T
 | .nil,_=> .nil
 | .cons r .nil,x=> .cons (vR r x) .nil
 | .cons r (.cons q l),x=> .cons (vR r x.1) (Ug (.cons q l) x.2)
end
mutual
theorem Wb:∀(r:RT) (x:Il T.car r),(vR r x).den=GC T r x
 | .v t,x=>rfl
 | .bo t,x=>rfl
 | .tu l,x=>by simp only[vR,V.den,GC,zzV l x]
theorem zzV:∀(l:RL) (x:NP T.car l),(Ug l x).den=NK T l x
 | .nil,_=>rfl
 | .cons r .nil,x=>by simp only[Ug,VL.den,NK,Wb r x]
 | .cons r (.cons q l),x=>by simp only[Ug,VL.den,NK,Wb r x.1,zzV (.cons q l) x.2]
end
mutual
def Qe:(r:RT)->V T->Option (Il T.car r)
 | .v t,x=>x.to t
 | .bo t,x=>match x with
  | .ag (.cons y .nil)=>y.to t
  |_=>none
 | .tu l,x=>match x with
  | .tu vs=>Ql l vs.toL
  |_=>none
def Ql:(l:RL)->List (V T)->Option (NP T.car l)
 | .nil,vs=>match vs with
  | []=>some ()
  |_=>none
 | .cons r .nil,vs=>match vs with
  | [x]=>Qe r x
  |_=>none
 | .cons r (.cons q l),vs=>match vs with
  |x::xs=>(match Qe r x,Ql (.cons q l) xs with
   |some a,some b=>some (a,b)
   |_,_=>none)
  |_=>none
end
mutual
theorem oJ:∀(r:RT) {v:V T} {x:Il T.car r},Qe r v=some x->v.den=GC T r x
 | .v t,v,x,h=>V.cj v h
 | .bo t,v,x,h=>by
  simp only[Qe]at h;split at h
  ·simp only[V.den,VL.den,GC,V.cj _ h]
  ·cases h
 | .tu l,v,x,h=>by
  simp only[Qe]at h;split at h
  ·rename_i vs;simp only[V.den,GC,<-zA l h,VL.bh]
  ·cases h
theorem zA:∀(l:RL) {vs:List (V T)} {x:NP T.car l},Ql l vs=some x->vs.map V.den=NK T l x
 | .nil,vs,x,h=>by
  simp only[Ql]at h;split at h
  ·rfl
  ·cases h
 | .cons r .nil,vs,x,h=>by
  simp only[Ql]at h;split at h
  ·simp only[List.map_cons,List.map_nil,NK,oJ r h]
  ·cases h
 | .cons r (.cons q l),vs,x,h=>by
  simp only[Ql]at h;split at h
  ·split at h
   ·rename_i h1 h2;cases h;simp only[List.map_cons,NK,oJ r h1,zA (.cons q l) h2]
   ·cases h
  ·cases h
end
@[reducible] def HS(car:Nat->Type):List Ty->Type
 | []=>Unit
 | [t]=>DX car t
 |t::u::ts=>DX car t × HS car (u::ts)
def Hn:(ts:List Ty)->HS T.car ts->List (V T)
 | [],_=> []
 | [t],x=> [.v t x]
 |t::u::ts,x=> .v t x.1::Hn (u::ts) x.2
def MR:(ts:List Ty)->List (V T)->Option (HS T.car ts)
 | [],vs=>match vs with
  | []=>some ()
  |_=>none
 | [t],vs=>match vs with
  | [x]=>x.to t
  |_=>none
 |t::u::ts,vs=>match vs with
  |x::xs=>(match x.to t,MR (u::ts) xs with
   |some a,some b=>some (a,b)
   |_,_=>none)
  |_=>none
theorem Z8:∀(ts:List Ty) {vs:List (V T)} {s:HS T.car ts},MR ts vs=some s->vs.map V.den=(Hn ts s).map V.den
 | [],vs,s,h=>by
  simp only[MR]at h;split at h
  ·rfl
  ·cases h
 | [t],vs,s,h=>by
  simp only[MR]at h;split at h
  ·simp only[List.map_cons,List.map_nil,Hn,V.den,V.cj _ h]
  ·cases h
 |t::u::ts,vs,s,h=>by
  simp only[MR]at h;split at h
  ·split at h
   ·rename_i h1 h2;cases h;simp only[List.map_cons,Hn,V.den,V.cj _ h1,Z8 (u::ts) h2]
   ·cases h
  ·cases h
def Ty.ln:(xs ys:List Ty)->Option (PLift (xs=ys))
 | [],[]=>some ⟨rfl⟩
 |x::xs,y::ys=>match Ty.lj x y,Ty.ln xs ys with
  |some ⟨h⟩,some ⟨k⟩=>some ⟨by rw[h,k]⟩
  |_,_=>none
 |_,_=>none
def Wl(f:Nat):List (FN T)->Option (FN T)
 | []=>none
 |e::l=>if e.f=f then some e else Wl f l
theorem nI{f:Nat}:∀{l:List (FN T)} {e:FN T},Wl f l=some e->e.f=f
 |d::l,e,h=>by
  simp only[Wl]at h;split at h
  ·cases h;assumption
  ·exact nI h
def V.ld:V T->(t:Ty)->Option (DX T.car t)
 | .rf x,t=>if Xc t then(match x with
  | .ag (.cons y .nil)=>y.to t
  |_=>none)else x.to t
 |_,_=>none
theorem V.fj:∀{w:V T} {t:Ty} {x:DX T.car t},w.ld t=some x->w.den=MW t (B1 T.av t x)
 | .rf y,t,x,h=>by
  simp only[V.ld]at h;split at h
  ·rename_i h1;split at h
   ·simp only[V.den,VL.den,MW,if_pos h1,V.cj _ h]
   ·cases h
  ·rename_i h1;simp only[V.den,MW,h1,V.cj _ h,AW,if_false]
 | .v _ _,_,x,h| .nl,_,x,h| .li _,_,x,h| .rp _ _,_,x,h| .ag _,_,x,h| .tu _,_,x,h| .cl _ _,_,x,h| .pf ..,_,x,h| .no,_,x,h=>by simp[V.ld]at h
def V.jv:V T->(t:Ty)->Option (DX T.car t)
 | .rf (.ag (.cons y .nil)),t=>y.ld t
 |_,_=>none
theorem V.ga{w:V T}{t:Ty}{x:DX T.car t}(h:w.jv t=some x):w.den= .ref (.agg [MW t (B1 T.av t x)]):=by
 unfold V.jv at h;split at h
 ·simp only[V.den,VL.den,V.fj h]
 ·cases h
def H9:(ps:List PT)->VL T->Option (HP T.car ps)
 | [], .nil=>some ()
 | .v t::ps, .cons x vs=>match x.to t,H9 ps vs with
  |some a,some b=>some (a,b)
  |_,_=>none
 | .rf t::ps, .cons x vs=>match x.ld t,H9 ps vs with
  |some a,some b=>some (a,b)
  |_,_=>none
 | .rr t::ps, .cons x vs=>match x.jv t,H9 ps vs with
  |some a,some b=>some (a,b)
  |_,_=>none
 |_,_=>none
theorem Zy:∀(ps:List PT) (vs:VL T) {x:HP T.car ps},H9 ps vs=some x->vs.den=F3 T ps x/\IU T ps x
 | [], .nil,x,h=>⟨rfl,trivial⟩
 | .v t::ps, .cons y vs,x,h=>by
  simp only[H9]at h;split at h
  ·rename_i h1 h2;cases h;obtain⟨h3,h4⟩:=Zy ps vs h2;exact⟨by simp only[VL.den,F3,Lz,V.cj _ h1,h3],trivial,h4⟩
  ·cases h
 | .rf t::ps, .cons y vs,x,h=>by
  simp only[H9]at h;split at h
  ·rename_i h1 h2;cases h;obtain⟨h3,h4⟩:=Zy ps vs h2;exact⟨by simp only[VL.den,F3,Lz,V.fj h1,h3],trivial,h4⟩
  ·cases h
 | .rr t::ps, .cons y vs,x,h=>by
  simp only[H9]at h;split at h
  ·rename_i h1 h2;cases h;obtain⟨h3,h4⟩:=Zy ps vs h2;exact⟨by simp only[VL.den,F3,Lz,V.ga h1,h3],trivial,h4⟩
  ·cases h
 | [], .cons _ _,x,h=>by simp[H9]at h
 | .v _::_, .nil,x,h=>by simp[H9]at h
 | .rf _::_, .nil,x,h=>by simp[H9]at h
 | .rr _::_, .nil,x,h=>by simp[H9]at h
 | .fn _ _::_,_,x,h=>by simp[H9]at h
def KU:(ps:List PT)->(aa:List Ty)->VL T->Option (HL T.car aa->HP T.car ps)
 |ps,[],vs=>match H9 ps vs with
  |some h=>some λ_=>h
  |none=>none
 | .v t::ps,a::aa,vs=>match Ty.lj a t,KU ps aa vs with
  |some ⟨h⟩,some k=>some λys=>(h▸ys.1,k ys.2)
  |_,_=>none
 |_,_,_=>none
theorem wU:∀(ps:List PT) (aa:List Ty) (vs:VL T) {k:HL T.car aa->HP T.car ps},KU ps aa vs=some k-> ∀ys,Ih T.av aa ys++vs.den=F3 T ps (k ys)/\IU T ps (k ys)
 |ps,[],vs,k,h,ys=>by
  have h':(match H9 ps vs with|some h=>some λ_=>h|none=>none)=some k:=by
   cases ps with
   |nil=>simpa[KU]using h
   |cons p ps=>cases p<;>simpa[KU]using h
  split at h'
  ·rename_i x hx;cases h';obtain⟨h1,h2⟩:=Zy ps vs hx;exact⟨by simp[Ih,h1],h2⟩
  ·cases h'
 | .v t::ps,a::aa,vs,k,h,ys=>by
  simp only[KU]at h;split at h
  ·rename_i e k' _ hk;cases e;cases h;obtain⟨h1,h2⟩:=wU ps aa vs hk ys.2;exact⟨by simp only[Ih,List.cons_append,h1,F3,Lz],trivial,h2⟩
  ·cases h
 | [],_::_,vs,k,h,ys=>by simp[KU]at h
 | .rf _::_,_::_,vs,k,h,ys=>by simp[KU]at h
 | .rr _::_,_::_,vs,k,h,ys=>by simp[KU]at h
 | .fn _ _::_,_::_,vs,k,h,ys=>by simp[KU]at h
def Wn(e:FN T)(t:Ty):Option (HP T.car e.ps->Option (DX T.car t)):=
 match e with
 |⟨_,_, .v u,φ,_,_,_⟩=>match Ty.lj u t with
  |some ⟨h⟩=>some (h▸φ)
  |none=>none
 |_=>none
theorem zBr{e:FN T}{t:Ty}{φ:HP T.car e.ps->Option (DX T.car t)}(h:Wn e t=some φ)(hp:e.pl=true){xs:HP T.car e.ps}{z:DX T.car t}(hx:IU T e.ps xs)(hz:φ xs=some z):T.Rt (1000000+e.f) (F3 T e.ps xs) (B1 T.av t z):=by
 obtain⟨f,ps,r,φ0,ok,pl,okp⟩:=e;cases r with
 |tu l=>simp[Wn]at h
 |bo u=>simp[Wn]at h
 |v u=>
  simp only[Wn]at h;split at h
  ·rename_i e _;cases e;cases h;exact okp hp xs z hx hz
  ·cases h
def fI(tb:List (FN T))(f:Nat)(vs:VL T)(aa:List Ty)(t:Ty):Option (PU T.car aa t):=
 match Wl f tb with
 |some e=>if e.pl=true then(match KU e.ps aa vs,Wn e t with
  |some k,some φ=>some ⟨λys=>φ (k ys),f,vs.den⟩
  |_,_=>none)else none
 |none=>none
theorem zEj{tb:List (FN T)}{f:Nat}{vs:VL T}{aa:List Ty}{t:Ty}{c:PU T.car aa t}(h:fI tb f vs aa t=some c):c.g=f/\c.caps=vs.den/\Us T (.fn aa t) c:=by
 unfold fI at h;split at h
 ·rename_i e he;split at h
  ·rename_i hp;split at h
   ·rename_i k φ hk hφ;cases h;refine⟨rfl,rfl,λys z hz=> ?_⟩;obtain⟨h1,h2⟩:=wU e.ps aa vs hk ys;have:=zBr hφ hp h2 hz;rw[nI he]at this;rw[show(PU.mk (λys=>φ (k ys)) f vs.den).caps=vs.den from rfl,h1];exact this
   ·cases h
  ·cases h
 ·cases h
def V.l6(tb:List (FN T))(w:V T):(p:PT)->Option (PV T.car p)
 | .v t=>w.to t
 | .rf t=>w.ld t
 | .rr t=>w.jv t
 | .fn aa t=>match w with
  | .cl f vs=>fI tb f vs aa t
  | .pf bs u c _=>match Ty.ln bs aa,Ty.lj u t with
   |some ⟨h⟩,some ⟨e⟩=>some (h▸e▸c)
   |_,_=>none
  |_=>none
theorem V.ku{tb:List (FN T)}{w:V T}:∀{p:PT} {x:PV T.car p},w.l6 tb p=some x->w.den=Lz T p x/\Us T p x
 | .v t,x,h=>⟨V.cj w h,trivial⟩
 | .rf t,x,h=>⟨V.fj h,trivial⟩
 | .rr t,x,h=>⟨V.ga h,trivial⟩
 | .fn aa t,x,h=>by
  simp only[V.l6]at h;split at h
  ·obtain⟨h1,h2,h3⟩:=zEj h;exact⟨by simp only[V.den,Lz,h1,h2],h3⟩
  ·rename_i bs u c hc;split at h
   ·rename_i h1 h2 _ _;cases h1;cases h2;cases h;exact⟨rfl,hc⟩
   ·cases h
  ·cases h
def Qm(tb:List (FN T)):VL T->(ps:List PT)->Option (HP T.car ps)
 | .nil,[]=>some ()
 | .cons x vs,p::ps=>match x.l6 tb p,Qm tb vs ps with
  |some a,some b=>some (a,b)
  |_,_=>none
 |_,_=>none
theorem zz1{tb:List (FN T)}:∀{vs:VL T} {ps:List PT} {x:HP T.car ps},Qm tb vs ps=some x->vs.den=F3 T ps x/\IU T ps x
 | .nil,[],x,h=>⟨rfl,trivial⟩
 | .cons y vs,p::ps,x,h=>by
  simp only[Qm]at h;split at h
  ·rename_i h1 h2;cases h;obtain⟨h3,h4⟩:=V.ku h1;obtain⟨h5,h6⟩:=zz1 h2;exact⟨by simp only[VL.den,F3,h3,h5],h4,h6⟩
  ·cases h
 | .nil,_::_,x,h=>by simp[Qm]at h
 | .cons _ _,[],x,h=>by simp[Qm]at h
def vP:(p:PT)->(x:PV T.car p)->Us T p x->V T
 | .v t,x,_=> .v t x
 | .rf t,x,_=>if Xc t then .rf (.ag (.cons (.v t x) .nil))else .rf (.v t x)
 | .rr t,x,_=> .rf (.ag (.cons (if Xc t then .rf (.ag (.cons (.v t x) .nil))else .rf (.v t x)) .nil))
 | .fn aa r,c,h=> .pf aa r c h
def W4:(ps:List PT)->(x:HP T.car ps)->IU T ps x->List (V T)
 | [],_,_=> []
 |p::ps,x,h=>vP p x.1 h.1::W4 ps x.2 h.2
theorem rS:∀(ps:List PT) (x:HP T.car ps) (h:IU T ps x),(W4 ps x h).map V.den=F3 T ps x
 | [],_,_=>rfl
 |p::ps,x,h=>by
  simp only[W4,List.map_cons,F3,rS ps x.2 h.2];congr 1;cases p with
  |v t=>rfl
  |rf t=>simp only[vP,Lz,MW];split<;>simp[V.den,VL.den]
  |rr t=>simp only[vP,Lz,MW];split<;>simp[V.den,VL.den]
  |fn aa t=>rfl
end
section
variable {T:IW}
mutual
theorem E.bw{n m:Nat}(hm:n<=m):∀(a:E),a.sc n=true->a.sc m=true
 |a,h=>by
  cases a<;>simp only[E.sc,Ab,AR]at h ⊢
  case var=>omega
  case lst|mk|tup|fn=>exact EL.bw hm _ h
  case ref|fld|proj|deref|len|slen|conv|not|neg|bytes|text=>exact E.bw hm _ h
  case idx|sidx|app|put|rep|bin|sbin|bbin|aeq=>exact⟨E.bw hm _ h.1,E.bw hm _ h.2⟩
  case win|swin|set|ite=>exact⟨⟨E.bw hm _ h.1.1,E.bw hm _ h.1.2⟩,E.bw hm _ h.2⟩
theorem EL.bw{n m:Nat}(hm:n<=m):∀(a:EL),a.sc n=true->a.sc m=true
 | .nil,_=>rfl
 | .cons a aa,h=>by simp only[EL.sc,Ab]at h ⊢;exact⟨E.bw hm _ h.1,EL.bw hm _ h.2⟩
end
theorem Fa.bw{n m:Nat}(hm:n<=m){f:Fa T}(h:f.sc n=true):f.sc m=true:=by
 cases f<;>simp only[Fa.sc,Ab]at h ⊢
 ·exact⟨E.bw hm _ h.1,E.bw hm _ h.2⟩
 ·exact⟨E.bw hm _ h.1,E.bw hm _ h.2⟩
 ·exact E.bw hm _ h
 ·exact E.bw hm _ h
inductive GS where
 |yes
 |no
 |ask (c:E)
def SS(fa:List (Fa T)):E->E
 | .not a=>SS fa a
 | .ite c a b=>match Jj fa c with
  |none=>SS fa c
  |some true=>SS fa a
  |some false=>SS fa b
 |e=>e
def Sh(fa:List (Fa T)):Gd->GS
 | []=> .yes
 |(e,b)::gs=>match Jj fa e with
  |some v=>if v=b then Sh fa gs else .no
  |none=>match Sh fa gs with
   | .no=> .no
   |_=> .ask (SS fa e)
theorem Zq{fa:List (Fa T)}{ρ:List AV}(ho:DG ρ fa):∀{gs:Gd},Sh fa gs= .no-> ¬Bt ρ gs
 | [],h=>by cases h
 |(e,b)::gs,h=>by
  simp only[Sh]at h;intro hg;have h1:=hg (e,b) (by simp);have h2:Bt ρ gs:=λg hm=>hg g (by simp[hm]);split at h
  ·rename_i v hv;split at h
   ·exact Zq ho h h2
   ·rename_i BF;have:=Ke ho hv;rw[this]at h1;cases h1;exact BF rfl
  ·split at h
   ·rename_i hn;exact Zq ho hn h2
   ·cases h
def V.sk:V T->SK->Bool
 | .v (.i k) _, .int k'=>k==k'
 | .v .b _, .bool=>true
 | .v .s _, .str=>true
 |_,_=>false
def Qd:List (V T)->List SK->Bool
 | [],[]=>true
 |v::vs,k::ks=>v.sk k&&Qd vs ks
 |_,_=>false
theorem sI:∀{vs:List (V T)} {ks:List SK},Qd vs ks=true->(vs.map V.den).map AV.sk=ks.map some
 | [],[],_=>rfl
 |v::vs,k::ks,h=>by
  simp only[Qd,Ab]at h;simp only[List.map_cons,sI h.2];congr 1;unfold V.sk at h;have h1:=h.1;split at h1
  ·simp only[AK]at h1;subst h1;rfl
  ·rfl
  ·rfl
  ·cases h1
 | [],_::_,h=>by simp[Qd]at h
 |_::_,[],h=>by simp[Qd]at h
def V.l5:V T->Bool
 | .rf _=>true
 | .cl _ _=>true
 | .pf .. =>true
 |x=>x.one
theorem V.kq{v:V T}(h:v.l5=true):(∀cs,v.den≠ .agg cs)/\ ∀cs,v.den≠ .tup cs:=by
 cases v with
 |rf x=>simp[V.den]
 |cl f vs=>simp[V.den]
 |pf=>simp[V.den]
 |v t x=>exact(V.one_cells (v:= .v t x) h).2
 |nl=>exact(V.one_cells (v:= .nl) rfl).2
 |li vs=>exact(V.one_cells (v:= .li vs) rfl).2
 |rp n z=>exact(V.one_cells (v:= .rp n z) rfl).2
 |ag|tu|no=>simp[V.l5,V.one]at h
def V.there:V T->Bool
 | .no=>false
 |_=>true
section
variable (env:List (V T)) (fa:List (Fa T))
def Xp:Cn->Bool
 | .dfd x=>match AS env fa x with
  |some v=>v.there
  |none=>false
 | .agg x n=>match(AS env fa x).bind V.lv with
  |some l=>l.toL.length==n
  |none=>false
 | .cells x _=>match AS env fa x with
  |some v=>v.l5
  |none=>false
 | .isref x n=>match AS env fa x with
  |some (.rf y)=>(match y.nc with
   |some m=>decide (n<=m)
   |none=>false)
  |_=>false
 | .issl x sz=>match AS env fa x with
  |some v=>v.l0 sz
  |none=>false
 | .flat x n g=>match AS env fa x with
  |some v=>v.nc==some n&&v.flat&&(if g then v.lv.isSome else v.scalar)
  |none=>false
 | .flatS x sz=>match AS env fa x with
  |some v=>v.l0 sz&&v.gl
  |none=>false
 | .kinds x ks=>match(AS env fa x).bind V.lv with
  |some l=>Qd l.toL ks
  |none=>false
 | .inb i x sz=>match AS env fa (.idx x i)with
  |some v=>v.nc==some sz&&(Wo fa i x)
  |none=>false
 | .inbS i x=>(SE x i fa).isSome
 | .nz x=>match x with
  | .int _ n=>decide (n≠0)
  |_=>false
 | .nn x=>match x with
  | .int _ n=>decide (0<=n)
  |_=>false
 |_=>false
end
theorem V.iu{v:V T}(h:v.there=true):v.den≠ .undef:=by
 cases v with
 |v t x=>
  cases t with
  |st n=>simp only[V.den,B1];rw[T.gq];intro h;cases h
  |_=>intro h;cases h
 |no=>cases h
 |_=>intro h;cases h
theorem zzs{env:List (V T)}{fa:List (Fa T)}(ho:DG (env.map V.den) fa){c:Cn}(h:Xp env fa c=true):c.den (env.map V.den):=by
 cases c<;>simp only[Xp]at h
 case dfd x=>
  split at h
  ·rename_i v hv;simp only[Cn.den,BS ho x hv];exact V.iu h
  ·cases h
 case agg x n=>
  split at h
  ·rename_i l hl;obtain⟨v,hv,hl⟩:=As.1 hl;exact⟨l.den,by rw[BS ho x hv,V.c9 hl],by rw[<-VL.df];simpa using h⟩
  ·cases h
 case cells x n=>
  split at h
  ·rename_i v hv;simp only[Cn.den,BS ho x hv];exact V.kq h
  ·cases h
 case isref x n=>
  split at h
  ·rename_i y hv;split at h
   ·rename_i m hm;exact⟨y.den,BS ho x hv,by rw[V.er hm];simpa using h⟩
   ·cases h
  ·cases h
 case issl x sz=>
  split at h
  ·rename_i v hv;simp only[Cn.den,BS ho x hv];exact V.gm h
  ·cases h
 case flat x n g=>
  split at h
  ·rename_i v hv;simp only[Ab,AK]at h;simp only[Cn.den,BS ho x hv];refine⟨V.er h.1.1,V.eu h.1.2,λhg=> ?_,λhg=> ?_⟩
   ·rw[if_pos hg]at h;obtain⟨l,hl⟩:=Option.isSome_iff_exists.1 h.2;exact⟨_,V.c9 hl⟩
   ·rw[if_neg (by rw[hg];simp)]at h;exact V.dv h.2
  ·cases h
 case flatS x sz=>
  split at h
  ·rename_i v hv;simp only[Ab]at h;simp only[Cn.den,BS ho x hv];obtain⟨xs,h1,h2⟩:=V.gm h.1;obtain⟨ys,h3,h4⟩:=V.gk h.2;rw[h1]at h3;cases h3;exact⟨xs,h1,λy hy=>⟨h2 y hy,h4 y hy⟩⟩
  ·cases h
 case kinds x ks=>
  split at h
  ·rename_i l hl;obtain⟨v,hv,hl⟩:=As.1 hl;exact⟨l.den,by rw[BS ho x hv,V.c9 hl],by rw[<-VL.bh];exact sI h⟩
  ·cases h
 case inb i x sz=>
  split at h
  ·rename_i v hv;simp only[Ab,AK]at h;obtain⟨xs,k,n,h1,h2,h3,h4⟩:=zP ho h.2;have h5:=BS ho (.idx x i) hv;simp only[E.den,h1,h2,AV.idx]at h5;refine⟨k,n,xs.length,h2,h3,by rw[h1];rfl,h4,?_⟩;rw[h1,h5];exact V.er h.1
  ·cases h
 case inbS i x=>
  obtain⟨y,hy⟩:=Option.isSome_iff_exists.1 h;obtain⟨k,n,s,h1,h2,h3,h4,_⟩:=Zt hy ho;exact⟨k,n,s,h1,h2,h3,h4⟩
 case nz x=>
  split at h
  ·rename_i k n;exact⟨k,n,rfl,by simpa using h⟩
  ·cases h
 case nn x=>
  split at h
  ·rename_i k n;exact⟨k,n,rfl,by simpa using h⟩
  ·cases h
 all_goals cases h
def Tr.jl:Tr->Nat
 | .ite _ a b=>a.jl+b.jl
 | .ca _ _ k=>k.jl
 | .call _ _ _ k=>k.jl
 | .b8 _ _ k=>k.jl
 | .join t k=>t.jl+k.jl+1
 | .loop _ b k=>b.jl+k.jl+1
 |_=>0
abbrev JT(T:IW)(X:Type):=List (Fa T)->VL T->Option X
def SO{X σ:Type}(j:JT T X):JT T (σ ⊕ Option X):=λfa vs=>some (.inr (j fa vs))
def ask{X:Type}(env:List (V T))(fa:List (Fa T))(c:E)(go:List (Fa T)->Option X):Option X:=
 match(AS env fa c).bind V.bool? with
 |some x=>if x=true then go (LF env.length fa c true)else go (LF env.length fa c false)
 |none=>none
def Qi(n:Nat)(fa:List (Fa T))(f:Fa T):List (Fa T):=if f.sc n then f::fa else fa
noncomputable def fH{X:Type}(env:List (V T))(fa:List (Fa T))(c:Cn)(go:List (Fa T)->Option X):Option X:=
 match c with
 | .inb i x sz=>match(AS env fa x).bind V.ma,(AS env fa i).bind V.int? with
  |some ⟨t,xs⟩,some p=>if W3 T t=sz then(An xs p.2).bind λy=>go (Qi env.length fa (.ix x i (.v t y)))else none
  |_,_=>none
 | .inbS i x=>match(AS env fa x).bind V.str?,(AS env fa i).bind V.int? with
  |some s,some p=>(An s p.2).bind λy=>go (Qi env.length fa (.sx x i y))
  |_,_=>none
 | .win x a b=>match(AS env fa x).bind V.gj,(AS env fa a).bind V.int?,(AS env fa b).bind V.int? with
  |some m,some p,some q=>AL (0<=p.2/\p.2<=q.2/\q.2<=m) (go fa)
  |_,_,_=>none
 | .winS x a b=>match(AS env fa x).bind V.str?,(AS env fa a).bind V.int?,(AS env fa b).bind V.int? with
  |some s,some p,some q=>AL (0<=p.2/\p.2<=q.2/\q.2<=(s.length:Int)) (go fa)
  |_,_,_=>none
 | .room x y bytes=>match(AS env fa x).bind V.gj,(AS env fa y).bind V.gj with
  |some m,some k=>AL ((m+k)*bytes<=140737488355328/\m+k<=140737488355328) (go fa)
  |_,_=>none
 | .roomS x y=>match(AS env fa x).bind V.str?,(AS env fa y).bind V.str? with
  |some a,some b=>AL (a.length+b.length<=9223372036854775807) (go fa)
  |_,_=>none
 | .mkroom n bytes=>match(AS env fa n).bind V.int? with
  |some p=>AL (0<=p.2/\p.2*bytes<=140737488355328/\p.2<=140737488355328) (go fa)
  |none=>none
 | .nz x=>match(AS env fa x).bind V.int? with
  |some p=>AL (p.2≠0) (go fa)
  |none=>none
 | .nn x=>match(AS env fa x).bind V.int? with
  |some p=>AL (0<=p.2) (go fa)
  |none=>none
 | .dfd (.text y)=>match AS env fa y with
  |some v=>(match v.to (.l (.i .u8))with
   |some l=>AL (l.length<=9223372036854775807) (go (Qi env.length fa (.tx y)))
   |none=>none)
  |none=>none
 |_=>none
inductive JM where
 |inl
 |pt
 |sp (ts:List Ty)
def W8(n:Nat)(fa:List (Fa T)):List (Fa T):=fa.filter λf=>f.sc n
noncomputable def CC(tb:List (FN T)):Nat->{X:Type}->(V T->Option X)->Tr->List JM->List (V T)->List (Fa T)->List (JT T X)->Option X
 |0,_,_,_,_,_,_,_=>none
 |n+1,X,rt,t,h,env,fa,js=>match t with
  | .ret r=>match AS env fa r with
   |some v=>rt v
   |none=>none
  | .jmp d es=>match js[d]?,Jp env fa es with
   |some j,some vs=>j fa vs
   |_,_=>none
  | .ite c a b=>match Jj fa c with
   |some true=>CC tb n rt a h env fa js
   |some false=>CC tb n rt b (h.drop a.jl) env fa js
   |none=>match(AS env fa c).bind V.bool? with
    |some x=>if x=true then CC tb n rt a h env (LF env.length fa c true) js else CC tb n rt b (h.drop a.jl) env (LF env.length fa c false) js
    |none=>ask env fa (SS fa c) λfa=>CC tb n rt t h env fa js
  | .ca gs c k=>match Sh fa gs with
   | .no=>CC tb n rt k h env fa js
   | .yes=>(match Xp env fa c with
    |true=>CC tb n rt k h env fa js
    |false=>fH env fa c λfa=>CC tb n rt k h env fa js)
   | .ask a=>(match Xp env fa c with
    |true=>CC tb n rt k h env fa js
    |false=>ask env fa a λfa=>CC tb n rt t h env fa js)
  | .call gs f args k=>match Sh fa gs with
   | .no=>CC tb n rt k h (env++ [.no]) fa js
   | .ask a=>ask env fa a λfa=>CC tb n rt t h env fa js
   | .yes=>match f with
    | .inl g=>(match Wl g tb,Jp env fa args with
     |some e,some vs=>(match Qm tb vs e.ps with
      |some xs=>(e.φ xs).bind λy=>CC tb n rt k h (env++ [vR e.r y]) fa js
      |none=>none)
     |_,_=>none)
    | .inr x=>(match x with
     | .var i=>(match env[i]? with
      |some (.pf aa r c _)=>if o6 T r then(match(Jp env fa args).bind λvs=>vs.ko aa with
       |some ys=>(c.φ ys).bind λy=>CC tb n rt k h (env++ [.v r y]) fa js
       |none=>none)else none
      |_=>none)
     |_=>none)
  | .join t k=>match h with
   | .sp ts::h=>sV (σ:=HS T.car ts) (CC tb n (λv=>some (.inr (rt v))) t h env fa ((λ_ vs=>match MR ts vs.toL with
     |some s=>some (.inl s)
     |none=>none)::js.map SO)) λs=>CC tb n rt k (h.drop t.jl) (env++Hn ts s) fa js
   | .pt::h=>CC tb n rt t h env fa ((λ_ vs=>CC tb n rt k (h.drop t.jl) (env++vs.toL) fa js)::js)
   |h=>CC tb n rt t h.tail env fa ((λfa' vs=>CC tb n rt k (h.tail.drop t.jl) (env++vs.toL) (W8 env.length fa') js)::js)
  | .loop i b k=>match h with
   | .sp ts::h=>(match(Jp env fa i).bind λvs=>MR ts vs.toL with
    |some s=>Av (σ:=HS T.car ts) (λs=>CC tb n (λv=>some (.inr (rt v))) b h (env++Hn ts s) fa ((λ_ vs=>match MR ts vs.toL with
      |some s=>some (.inl s)
      |none=>none)::(λ_ vs=>some (.inr (CC tb n rt k (h.drop b.jl) (env++vs.toL) fa js)))::js.map SO)) s
    |none=>none)
   |_=>none
  |_=>none
end
section
variable {T:IW}
inductive HJ(ρ:List AV){X:Type}(x:X):List (JT T X)->List JK->Prop where
 |nil:HJ ρ x [] []
 |cons {j:JT T X} {jk:JK} {js jks}:(∀fa vs τ,DG (ρ++τ) fa->(∀f∈fa,f.sc (ρ++τ).length=true)->j fa vs=some x->jk vs.den)->HJ ρ x js jks->HJ ρ x (j::js) (jk::jks)
theorem HJ.get{ρ:List AV}{X:Type}{x:X}{js:List (JT T X)}{jks:List JK}(h:HJ ρ x js jks):∀{d:Nat} {j:JT T X},js[d]?=some j-> ∃jk,jks[d]?=some jk/\ ∀fa vs τ,DG (ρ++τ) fa->(∀f∈fa,f.sc (ρ++τ).length=true)->j fa vs=some x->jk vs.den:=by
 induction h with
 |nil=>intro d j hd;simp at hd
 |cons h1 _ ih=>
  intro d j hd;cases d with
  |zero=>simp at hd;subst hd;exact⟨_,rfl,h1⟩
  |succ d=>simpa using ih (by simpa using hd)
theorem HJ.ext{ρ σ:List AV}{X:Type}{x:X}{js:List (JT T X)}{jks:List JK}(h:HJ ρ x js jks):HJ (ρ++σ) x js jks:=by
 induction h with
 |nil=>exact .nil
 |cons h1 _ ih=>exact .cons (λfa vs τ ha hs hj=>h1 fa vs (σ++τ) (by rwa[<-List.append_assoc]) (by rwa[<-List.append_assoc]) hj) ih
theorem HJ.lift{ρ:List AV}{X σ:Type}{x:X}{js:List (JT T X)}{jks:List JK}(h:HJ ρ x js jks):HJ ρ (.inr (some x):σ ⊕ Option X) (js.map SO) jks:=by
 induction h with
 |nil=>exact .nil
 |cons h1 _ ih=>exact .cons (λfa vs τ ha hs hj=>h1 fa vs τ ha hs (by simpa[SO]using hj)) ih
theorem HJ.ki{ρ:List AV}{X σ:Type}{x:X}{s:σ}{js:List (JT T X)}{jks:List JK}(h:HJ ρ x js jks):HJ ρ (.inl s:σ ⊕ Option X) (js.map SO) jks:=by
 induction h with
 |nil=>exact .nil
 |cons h1 _ ih=>exact .cons (λfa vs τ ha hs hj=>by simp[SO]at hj) ih
theorem Pl{ρ τ:List AV}{fa:List (Fa T)}(ho:DG ρ fa)(hs:∀f∈fa,f.sc ρ.length=true):DG (ρ++τ) fa/\ ∀f∈fa,f.sc (ρ++τ).length=true:=
 ⟨λf hf=>Fa.move (τ:=[]) (hs f hf) (by simpa using ho f hf),λf hf=>Fa.bw (by simp) (hs f hf)⟩
theorem zCC{ρ τ τ':List AV}{fa:List (Fa T)}(ho:DG (ρ++τ) fa):DG (ρ++τ') (W8 ρ.length fa)/\ ∀f∈W8 ρ.length fa,f.sc (ρ++τ').length=true:=by
 constructor
 ·intro f hf;obtain⟨h1,h2⟩:=List.mem_filter.1 hf;exact Fa.move h2 (ho f h1)
 ·intro f hf;obtain⟨h1,h2⟩:=List.mem_filter.1 hf;exact Fa.bw (by simp) h2
theorem oX{ρ:List AV}{fa:List (Fa T)}{f:Fa T}(ho:DG ρ fa)(hs:∀g∈fa,g.sc ρ.length=true)(hf:f.OK ρ):DG ρ (Qi ρ.length fa f)/\ ∀g∈Qi ρ.length fa f,g.sc ρ.length=true:=by
 unfold Qi;split
 ·rename_i hc;exact⟨λg hg=>by rcases Ae.1 hg with rfl|hg;exact hf;exact ho g hg,λg hg=>by rcases Ae.1 hg with rfl|hg;exact hc;exact hs g hg⟩
 ·exact⟨ho,hs⟩
section
variable {env:List (V T)} {fa:List (Fa T)} {X:Type} {x:X}
theorem zE0(ho:DG (env.map V.den) fa)(hs:∀f∈fa,f.sc env.length=true){c:E}{go:List (Fa T)->Option X}(h:ask env fa c go=some x):∃fa',DG (env.map V.den) fa'/\(∀f∈fa',f.sc env.length=true)/\go fa'=some x:=by
 unfold ask at h;split at h
 ·rename_i b hb;obtain⟨v,hv,hb⟩:=As.1 hb;have hc:c.den (env.map V.den)= .bool b:=by rw[BS ho c hv,V.bool?_den hb]
  cases b with
  |true=>rw[if_pos rfl]at h;exact⟨_,VU ho hc,VV hs,h⟩
  |false=>rw[if_neg (by simp)]at h;exact⟨_,VU ho hc,VV hs,h⟩
 ·cases h
theorem L0(ho:DG (env.map V.den) fa){e:E}{p:IntKind × Int}(h:(AS env fa e).bind V.int?=some p):e.den (env.map V.den)= .int p.1 p.2:=by obtain⟨v,hv,hp⟩:=As.1 h;rw[BS ho e hv,V.int?_den (k:=p.1) (n:=p.2) hp]
theorem Z1(ho:DG (env.map V.den) fa){e:E}{s:List UInt8}(h:(AS env fa e).bind V.str?=some s):e.den (env.map V.den)= .str s:=by obtain⟨v,hv,hp⟩:=As.1 h;rw[BS ho e hv,V.str?_den hp]
theorem oU(ho:DG (env.map V.den) fa){e:E}{m:Int}(h:(AS env fa e).bind V.gj=some m):(e.den (env.map V.den)).len= .int .i64 m:=by obtain⟨v,hv,hp⟩:=As.1 h;obtain⟨xs,h1,h2⟩:=V.fm hp;rw[BS ho e hv,h1,<-h2];rfl
theorem zB6(ho:DG (env.map V.den) fa)(hs:∀f∈fa,f.sc env.length=true){c:Cn}{go:List (Fa T)->Option X}(h:fH env fa c go=some x):c.den (env.map V.den)/\ ∃fa',DG (env.map V.den) fa'/\(∀f∈fa',f.sc env.length=true)/\go fa'=some x:=by
 have hl:(env.map V.den).length=env.length:=by simp
 have A4:∀f∈fa,f.sc (env.map V.den).length=true:=by rwa[hl]
 unfold fH at h;split at h
 case h_1 i y sz=>
  split at h
  ·rename_i t xs p hx hp;split at h
   ·rename_i ht;obtain⟨z,hz,h⟩:=KX h;obtain⟨h1,h2,h3⟩:=Xa hz;obtain⟨vx,WV,hx2⟩:=As.1 hx;have DU:=(BS ho y WV).trans (V.jj hx2);have B6:=L0 ho hp;have Qc:(xs.map (B1 T.av t))[p.2.toNat]?=some (B1 T.av t z):=by rw[List.getElem?_map,h3];rfl
    refine⟨⟨p.1,p.2,xs.length,B6,h1,by rw[DU];simp[AV.len],h2,?_⟩,?_⟩
    ·rw[DU];simp only[AV.nth,Qc,Df];rw[Np,ht]
    ·rw[<-hl]at h;obtain⟨g1,g2⟩:=oX (f:= .ix y i (.v t z)) ho A4 ⟨p.1,p.2,_,B6,DU,h1,by simpa using h2,Qc⟩;rw[hl]at g1 g2;exact⟨_,g1,g2,by rw[hl]at h;exact h⟩
   ·cases h
  ·cases h
 case h_2 i y=>
  split at h
  ·rename_i s p hx hp;obtain⟨z,hz,h⟩:=KX h;obtain⟨h1,h2,h3⟩:=Xa hz;have DU:=Z1 ho hx;have B6:=L0 ho hp;refine⟨⟨p.1,p.2,s,B6,DU,h1,h2⟩,?_⟩;rw[<-hl]at h;obtain⟨g1,g2⟩:=oX (f:= .sx y i z) ho A4 ⟨p.1,p.2,_,B6,DU,h1,h2,h3⟩;rw[hl]at g1 g2;exact⟨_,g1,g2,by rw[hl]at h;exact h⟩
  ·cases h
 case h_3 y a b=>
  split at h
  ·rename_i m p q hm hp hq;obtain⟨hr,h⟩:=F6 h;exact⟨⟨_,_,_,_,m,L0 ho hp,L0 ho hq,oU ho hm,hr.1,hr.2.1,hr.2.2⟩,fa,ho,hs,h⟩
  ·cases h
 case h_4 y a b=>
  split at h
  ·rename_i s p q hm hp hq;obtain⟨hr,h⟩:=F6 h;exact⟨⟨_,_,_,_,s,L0 ho hp,L0 ho hq,Z1 ho hm,hr.1,hr.2.1,hr.2.2⟩,fa,ho,hs,h⟩
  ·cases h
 case h_5 a b bytes=>
  split at h
  ·rename_i m k hm hk;obtain⟨hr,h⟩:=F6 h;exact⟨⟨m,k,oU ho hm,oU ho hk,hr.1,hr.2⟩,fa,ho,hs,h⟩
  ·cases h
 case h_6 a b=>
  split at h
  ·rename_i m k hm hk;obtain⟨hr,h⟩:=F6 h;exact⟨⟨m,k,Z1 ho hm,Z1 ho hk,hr⟩,fa,ho,hs,h⟩
  ·cases h
 case h_7 a bytes=>
  split at h
  ·rename_i p hp;obtain⟨hr,h⟩:=F6 h;exact⟨⟨p.1,p.2,L0 ho hp,hr.1,hr.2.1,hr.2.2⟩,fa,ho,hs,h⟩
  ·cases h
 case h_8 a=>
  split at h
  ·rename_i p hp;obtain⟨hr,h⟩:=F6 h;exact⟨⟨p.1,p.2,L0 ho hp,hr⟩,fa,ho,hs,h⟩
  ·cases h
 case h_9 a=>
  split at h
  ·rename_i p hp;obtain⟨hr,h⟩:=F6 h;exact⟨⟨p.1,p.2,L0 ho hp,hr⟩,fa,ho,hs,h⟩
  ·cases h
 case h_10 y=>
  split at h
  ·rename_i v hv;split at h
   ·rename_i l JG;obtain⟨hr,h⟩:=F6 h;have h2:=BS ho y hv;rw[V.cj _ JG]at h2;have key:∀l:List Int,MS (l.map λn=>AV.int .u8 n)=some (l.map λn=>UInt8.ofNat n.toNat):=by
     intro l
     induction l with
     |nil=>rfl
     |cons n l ih=>simp[MS,ih]
    have ht:(y.den (env.map V.den)).text≠ .undef:=by rw[h2];simp only[AV.text,B1,show(List.map (B1 T.av (.i .u8)) l)=l.map (λn=>AV.int .u8 n)from rfl,key l,List.length_map];rw[if_pos hr];intro h;cases h
    refine⟨by simpa[Cn.den,E.den]using ht,?_⟩;rw[<-hl]at h;obtain⟨g1,g2⟩:=oX (f:= .tx y) ho A4 ht;rw[hl]at g1 g2;exact⟨_,g1,g2,by rw[hl]at h;exact h⟩
   ·cases h
  ·cases h
 case h_11=>cases h
end
theorem E2(tb:List (FN T)){R:AV->Prop}{L:LK}:∀(n:Nat) {X:Type} {rt:V T->Option X} {t:Tr} {h:List JM} {env:List (V T)} {fa:List (Fa T)} {js:List (JT T X)} {jks:List JK} {x:X},
  DG (env.map V.den) fa->(∀f∈fa,f.sc env.length=true)->(∀v,rt v=some x->R v.den)->HJ (env.map V.den) x js jks->CC tb n rt t h env fa js=some x->t.den T.Rt R L jks (env.map V.den)
 |0,_,_,_,_,_,_,_,_,_,_,_,_,_,e=>by simp[CC]at e
 |n+1,X,rt,t,h,env,fa,js,jks,x,ho,hs,hr,hj,e=>by
  have hl:(env.map V.den).length=env.length:=by simp
  have A4:∀f∈fa,f.sc (env.map V.den).length=true:=by rwa[hl]
  have K9:∀{c:E},(ask env fa c λfa=>CC tb n rt t h env fa js)=some x->t.den T.Rt R L jks (env.map V.den):=λe=>by obtain⟨fa',h1,h2,h3⟩:=zE0 ho hs e;exact E2 tb n h1 h2 hr hj h3
  cases t with
  |leaf|stuck|b8=>simp[CC]at e
  |ret r=>
   simp only[CC]at e;split at e
   ·rename_i v hv;show R (r.den _);rw[BS ho r hv];exact hr v e
   ·cases e
  |jmp d es=>
   simp only[CC]at e;split at e
   ·rename_i j vs hd hv;obtain⟨jk,hk,hq⟩:=hj.get hd;show match jks[d]? with|some j=>j (es.den _)|none=>False
    rw[hk,L1 ho es hv];exact hq fa vs [] (by simpa using ho) (by simpa using hs) e
   ·cases e
  |ite c a b=>
   simp only[CC]at e;split at e
   ·rename_i hc;exact⟨true,Ke ho hc,λ_=>E2 tb n ho hs hr hj e,λh=>by cases h⟩
   ·rename_i hc;exact⟨false,Ke ho hc,λh=>(by cases h),λ_=>E2 tb n ho hs hr hj e⟩
   ·split at e
    ·rename_i y hy;obtain⟨v,hv,hy⟩:=As.1 hy;have hc:c.den (env.map V.den)= .bool y:=by rw[BS ho c hv,V.bool?_den hy]
     cases y with
     |true=>rw[if_pos rfl]at e;exact⟨true,hc,λ_=>E2 tb n (VU ho hc) (VV hs) hr hj e,λh=>by cases h⟩
     |false=>rw[if_neg (by simp)]at e;exact⟨false,hc,λh=>(by cases h),λ_=>E2 tb n (VU ho hc) (VV hs) hr hj e⟩
    ·exact K9 e
  |ca gs c k=>
   simp only[CC]at e;split at e
   ·rename_i hg;exact⟨λh=>absurd h (Zq ho hg),E2 tb n ho hs hr hj e⟩
   ·split at e
    ·rename_i hc;exact⟨λ_=>zzs ho hc,E2 tb n ho hs hr hj e⟩
    ·obtain⟨hc,fa',h1,h2,h3⟩:=zB6 ho hs e;exact⟨λ_=>hc,E2 tb n h1 h2 hr hj h3⟩
   ·split at e
    ·rename_i hc;exact⟨λ_=>zzs ho hc,E2 tb n ho hs hr hj e⟩
    ·exact K9 e
  |call gs f args k=>
   simp only[CC]at e;split at e
   ·rename_i hg;refine⟨.undef,λh=>absurd h (Zq ho hg),?_⟩;obtain⟨h1,h2⟩:=Pl (τ:=[AV.undef]) ho A4;have:=E2 tb n (R:=R) (L:=L) (env:=env++ [.no]) (by simpa[V.den]using h1) (by simpa using h2) hr (by simpa[V.den]using hj.ext (σ:=[AV.undef])) e;simpa[V.den]using this
   ·exact K9 e
   ·split at e
    ·rename_i g;split at e
     ·rename_i d vs hd hv;split at e
      ·rename_i xs Ck;obtain⟨y,hy,e⟩:=KX e;obtain⟨g1,g2⟩:=zz1 Ck;refine⟨GC T d.r y,λ_=> ?_,?_⟩
       ·show T.Rt g (args.den _) _;rw[L1 ho args hv,g1,<-nI hd];exact d.ok xs y g2 hy
       ·obtain⟨h1,h2⟩:=Pl (τ:=[GC T d.r y]) ho A4;have:=E2 tb n (R:=R) (L:=L) (env:=env++ [vR d.r y]) (by simpa[Wb]using h1) (by simpa using h2) hr (by simpa[Wb]using hj.ext (σ:=[GC T d.r y])) e;simpa[Wb]using this
      ·cases e
     ·cases e
    ·rename_i z;split at e
     ·rename_i i;split at e
      ·rename_i aa r c hc hi;split at e
       ·rename_i B5;split at e
        ·rename_i ys Dn;obtain⟨vs,hv,Dn⟩:=As.1 Dn;obtain⟨y,hy,e⟩:=KX e;refine⟨B1 T.av r y,λ_=>⟨c.g,c.caps,?_,?_,Ph B5 y⟩,?_⟩
         ·simp only[E.den,List.getElem?_map,hi];rfl
         ·rw[L1 ho args hv,VL.fh vs Dn];exact hc ys y hy
         ·obtain⟨h1,h2⟩:=Pl (τ:=[B1 T.av r y]) ho A4;have:=E2 tb n (R:=R) (L:=L) (env:=env++ [.v r y]) (by simpa[V.den]using h1) (by simpa using h2) hr (by simpa[V.den]using hj.ext (σ:=[B1 T.av r y])) e;simpa[V.den]using this
        ·cases e
       ·cases e
      ·cases e
     ·cases e
  |join a k=>
   have inl:∀h',CC tb n rt a h' env fa ((λfa' vs=>CC tb n rt k (h'.drop a.jl) (env++vs.toL) (W8 env.length fa') js)::js)=some x->(Tr.join a k).den T.Rt R L jks (env.map V.den):=by intro h' e;show a.den T.Rt R L _ _;refine E2 tb n ho hs hr (.cons (λfa' vs τ h1 h2 h3=> ?_) hj) e;have hf:=zCC (τ':=vs.den) h1;rw[hl]at hf;have:=E2 tb n (R:=R) (L:=L) (env:=env++vs.toL) (by simpa[VL.bh]using hf.1) (by have:=hf.2;simpa[VL.df]using this) hr (by simpa[VL.bh]using hj.ext (σ:=vs.den)) h3;simpa[VL.bh]using this
   cases h with
   |nil=>exact inl [] (by simpa[CC]using e)
   |cons o h=>
    cases o with
    |inl=>exact inl h (by simpa[CC]using e)
    |pt=>simp only[CC]at e;show a.den T.Rt R L _ _;refine E2 tb n ho hs hr (.cons (λfa' vs τ h1 h2 h3=> ?_) hj) e;obtain⟨h4,h5⟩:=Pl (τ:=vs.den) ho A4;have:=E2 tb n (R:=R) (L:=L) (env:=env++vs.toL) (by simpa[VL.bh]using h4) (by simpa[VL.df]using h5) hr (by simpa[VL.bh]using hj.ext (σ:=vs.den)) h3;simpa[VL.bh]using this
    |sp ts=>
     simp only[CC]at e;show a.den T.Rt R L _ _;unfold sV at e;split at e
     ·cases e
     ·rename_i s BM;have hk:k.den T.Rt R L jks (env.map V.den++(Hn ts s).map V.den):=by
       obtain⟨h1,h2⟩:=Pl (τ:=(Hn ts s).map V.den) ho A4;have:=E2 tb n (R:=R) (L:=L) (env:=env++Hn ts s) (by simpa using h1) (by simpa using h2) hr (by simpa using hj.ext (σ:=(Hn ts s).map V.den)) e;simpa using this
      refine E2 tb n ho hs (λv hv=>by simp at hv) (.cons (λfa' vs τ h1 h2 h3=> ?_) hj.ki) BM;split at h3
      ·rename_i s' A4;simp only[Ad,Sum.inl.injEq]at h3;subst h3;rw[<-VL.bh,Z8 ts A4];exact hk
      ·cases h3
     ·rename_i o WK;subst e;refine E2 tb n ho hs (λv hv=>hr v (by simpa using hv)) (.cons (λfa' vs τ h1 h2 h3=> ?_) hj.lift) WK;split at h3<;>simp at h3
  |loop i b k=>
   cases h with
   |nil=>simp[CC]at e
   |cons o h=>
    cases o with
    |inl|pt=>simp[CC]at e
    |sp ts=>
     simp only[CC]at e;split at e
     ·rename_i s TV;obtain⟨vs,hv,BM⟩:=As.1 TV;clear TV;obtain⟨m,hm⟩:=Zj.1 e;refine⟨m,?_⟩;rw[L1 ho i hv,<-VL.bh,Z8 ts BM];clear BM e hv K9;have fx:∀s:HS T.car ts,DG ((env++Hn ts s).map V.den) fa/\(∀f∈fa,f.sc (env++Hn ts s).length=true)/\HJ ((env++Hn ts s).map V.den) x js jks:=λs=>by
       obtain⟨h1,h2⟩:=Pl (τ:=(Hn ts s).map V.den) ho A4;exact⟨by simpa using h1,by simpa using h2,by simpa using hj.ext (σ:=(Hn ts s).map V.den)⟩
      have hA:∀(vs:VL T),CC tb n rt k (h.drop b.jl) (env++vs.toL) fa js=some x->k.den T.Rt R L jks (env.map V.den++vs.den):=λvs h3=>by obtain⟨h4,h5⟩:=Pl (τ:=vs.den) ho A4;have:=E2 tb n (R:=R) (L:=L) (env:=env++vs.toL) (by simpa[VL.bh]using h4) (by simpa[VL.df]using h5) hr (by simpa[VL.bh]using hj.ext (σ:=vs.den)) h3;simpa[VL.bh]using this
      induction m generalizing s with
      |zero=>cases hm
      |succ m ihm=>
       obtain⟨h1,h2,h3⟩:=fx s;show b.den T.Rt R L _ _;rw[<-List.map_append];simp only[FG]at hm;split at hm
       ·cases hm
       ·rename_i s' hb;refine E2 tb n h1 h2 (λv hv=>by simp at hv) (.cons (λfa' vs τ q1 q2 q3=> ?_) (.cons (λfa' vs τ q1 q2 q3=>by simp at q3) h3.ki)) hb;split at q3
        ·rename_i s2 A7;simp only[Ad,Sum.inl.injEq]at q3;subst q3;rw[<-VL.bh,Z8 ts A7];exact ihm _ hm
        ·cases q3
       ·rename_i o hb;subst hm;refine E2 tb n h1 h2 (λv hv=>hr v (by simpa using hv)) (.cons (λfa' vs τ q1 q2 q3=> ?_) (.cons (λfa' vs τ q1 q2 q3=> ?_) h3.lift)) hb
        ·split at q3<;>simp at q3
        ·exact hA vs (by simpa using q3)
     ·cases e
end
section
structure Fix where
 w0:World
 A:Al
 Mu:Nat->Prop
 lp:∀t v,A.pin t=some v->NH t=true
def G4(F:Fix)(ρ:List AV)(σ:St)(a:Act)(w:World):Prop:=
 ∃c:Cx,c.ρ=ρ/\c.w=w/\c.w0=F.w0/\c.A=F.A/\c.Mu=F.Mu/\ρ.length=σ.nv/\(∀t,c.U t->t<σ.nx)/\Rel c σ.sl.length (BR σ) (AJ σ.hp) a
def Xt.ex:Xt->Exit
 | .normal=> .normal
 | .exit i=> .exit i
 | .ret=> .ret
section
variable (P:Program) (sg:BZ) (Rt:Nat->List AV->AV->Prop)
def zK:Prop:= ∀(id:Nat) (ops:Array Oper) (draw:Bool) (σ:St) (t:Tr),sN ops=false->σ.sc=true->(σ.hp.all λ(t,_)=>decide (t<σ.nx))=true->
 Mc P sg ops draw σ.nx (List.range ops.size) [] σ=some t-> ∀(F:Fix) (R:AV->Prop) (L:LK) (js:List JK) (ρ:List AV) (a:Act) (w:World),Kn L->t.den Rt R L js ρ->G4 F ρ σ a w->
 ∀Q,(∀i x τ ρ' a' w',ρ<+:ρ'->L (i++js) x τ ρ'->G4 F ρ' τ a' w'->Q x.ex a' w')->(Code.region id ops draw).wp P Q a w
def aL:Prop:= ∀(F:Fix) (nv:Nat) (pat τ:St) (es:List E) (ρ ρ':List AV) (a:Act) (w:World),Kz nv pat τ=some es->ρ.length=nv->ρ<+:ρ'->G4 F ρ' τ a w->G4 F (ρ++(EL.of es).den ρ') pat a w
end
section
variable {P:Program} {sg:BZ} {Rt:Nat->List AV->AV->Prop} {rs:Nat}
theorem G4.ct{F:Fix}{ρ:List AV}{σ:St}{a:Act}{w:World}(h:G4 F ρ σ a w){x:Operand}{s:SV}(hx:BK (BR σ) [] x=some s):∃c:Cx,c.ρ=ρ/\SR c [s] [a.eval x]:=by obtain⟨c,rfl,_,_,_,_,_,_,hr⟩:=h;exact⟨c,rfl,Y8 hx (λt _=>hr.cy t) (E1 _)⟩
theorem vE{run:St->Option Tr}{nv live:Nat}{σ:St}:∀(n:Nat) (p:St × Nat) {pat:St} {t:Tr},VQ run nv live σ n p=some (pat,t)->run pat=some t
 |0,p,pat,t,h=>by simp[VQ]at h
 |n+1,p,pat,t,h=>by
  simp only[VQ]at h;split at h
  ·cases h
  ·rename_i t' ht;split at h
   ·simp at h;obtain⟨rfl,rfl⟩:=h;exact ht
   ·exact vE n _ h
theorem zz6{i js:List JK}{j:JK}{d:Nat}(h:d=i.length):(i++j::js)[d]?=some j:=by subst h;simp
theorem zCW{i js:List JK}{j k:JK}{d:Nat}(h:d=i.length):(i++j::k::js)[d+1]?=some k:=by subst h;rw[List.getElem?_append_right (by omega)];simp
def IL(P:Program)(sg:BZ)(Rt:Nat->List AV->AV->Prop)(rs:Nat)(c:Code):Prop:=
 ∀(ex:List (Nat × Nat)) (l:Nat) (σ:St) (t:Tr),EC P sg rs c ex l σ=some t-> ∀(F:Fix) (R:AV->Prop) (L:LK) (js:List JK) (ρ:List AV) (a:Act) (w:World),Kn L->t.den Rt R L js ρ->G4 F ρ σ a w->
  ∀Q,(∀i x τ ρ' a' w',ρ<+:ρ'->L (i++js) x τ ρ'->G4 F ρ' τ a' w'->Q x.ex a' w')->c.wp P Q a w
theorem IL.leaf{c:Code}(h:IL P sg Rt rs c){ex:List (Nat × Nat)}{l:Nat}{σ:St}{t:Tr}(he:EC P sg rs c ex l σ=some t){F:Fix}{R:AV->Prop}{L:LK}{js:List JK}{ρ:List AV}{a:Act}{w:World}(hL:Kn L)(hd:t.den Rt R L js ρ)(hr:G4 F ρ σ a w)
  {Q:Exit->Act->World->Prop} (hq:∀i x τ ρ' a' w',ρ<+:ρ'->t.dy x τ->L (i++js) x τ ρ'->G4 F ρ' τ a' w'->Q x.ex a' w'):c.wp P Q a w:=
 h ex l σ t he F R (λjs x τ ρ=>t.dy x τ/\L js x τ ρ) js ρ a w (λ_ _ _ _ _ hj hh=>⟨hh.1,hL _ _ _ _ _ hj hh.2⟩) (t.ee hd (Ef.refl js) λ_ _ _ _ _ hf hi hl=>⟨hf,hL _ _ _ _ _ (hi.app (Ef.refl js)) hl⟩) hr Q λi x τ ρ' a' w' hp hh hs=>hq i x τ ρ' a' w' hp hh.1 hh.2 hs
theorem zx5{id:Nat}{b:Code}(ih:IL P sg Rt rs b):IL P sg Rt rs (.block id b):=by
 intro ex l σ t he F R L js ρ a w hL hd hr Q hq;simp only[EC,As]at he;obtain⟨t0,h0,hs⟩:=he;have h1:=Tr.ed _ hL t0 hs hd;refine wp_block (ih _ _ _ _ h0 F R _ js ρ a w (Vx hL _ _) h1 hr _ λi x τ ρ' a' w' hp hl hrel=> ?_);obtain⟨r,d',e1,e2,e3⟩:=hl;simp only[Ad]at e1;subst e1;have:=hq i _ τ ρ' a' w' hp e3 hrel;cases x with
 |normal=>exact this
 |ret=>exact this
 |exit j=>
  simp only[Xt.ex,Exit.inBlock]at this ⊢;split
  ·rename_i hj;simpa[hj,Xt.ex]using this
  ·rename_i hj;simpa[hj,Xt.ex]using this
theorem zCo(hi:aL){x y:Code}(ihx:IL P sg Rt rs x)(ihy:IL P sg Rt rs y):IL P sg Rt rs (.seq x y):=by
 intro ex l σ t he F R L js ρ a w hL hd hr Q hq;simp only[EC]at he;split at he
 ·cases he
 ·rename_i t0 h0;refine wp_seq ?_;split at he
  ·rename_i hn;simp at he;subst he;refine ihx.leaf h0 hL hd hr λi x τ ρ' a' w' hp hf hl hrel=> ?_;cases x with
   |normal=>have:=hf.norm;rw[hn]at this;simp at this
   |exit j=>exact hq i _ τ ρ' a' w' hp hl hrel
   |ret=>exact hq i _ τ ρ' a' w' hp hl hrel
  ·rename_i τ0 hn;split at he
   ·cases he
   ·rename_i k hk;have h1:=Tr.ed _ hL t0 he hd;refine ihx.leaf h0 (Vx hL _ _) h1 hr λi x τ ρ' a' w' hp hf hl hrel=> ?_;obtain⟨r,d',e1,e2,e3⟩:=hl;simp only[Ad]at e1;subst e1;cases x with
    |normal=>have:=hf.norm;rw[hn]at this;simp at this;subst this;exact ihy _ _ _ _ hk F R L _ ρ' a' w' hL e3 hrel Q λi' x' τ' ρ'' a'' w'' hp' BL Db=>hq (i'++i) x' τ' ρ'' a'' w'' (hp.trans hp') (by simpa using BL) Db
    |exit j=>exact hq i _ τ ρ' a' w' hp e3 hrel
    |ret=>exact hq i _ τ ρ' a' w' hp e3 hrel
  ·split at he
   ·cases he
   ·rename_i pat hpat
    split at he
    ·cases he
    ·rename_i k hk;obtain⟨t',MI,rfl⟩:=Ar.1 he;have h1:=Tr.ed _ hL t0 MI hd;refine ihx _ _ _ _ h0 F R _ _ ρ a w (Vx hL _ _) h1 hr _ λi x τ ρ' a' w' hp hl hrel=> ?_;obtain⟨r,d',e1,e2,e3⟩:=hl;cases x with
     |normal=>
      obtain⟨es,Is,rfl⟩:=Ar.1 e1;have Ld:d'=i.length:=by simp only[AO,A6]at e2;omega
      simp only[Tr.den,zz6 Ld]at e3;obtain⟨c0,Ch,_,_,_,_,Gk,_⟩:=hr;have Db:=hi F _ pat τ es ρ ρ' a' w' Is Gk hp hrel;refine ihy _ _ _ _ hk F R L js _ a' w' hL e3 Db Q λi' x' τ' ρ'' a'' w'' hp' BL Db=>hq i' x' τ' ρ'' a'' w'' ((List.prefix_append _ _).trans hp') BL Db
     |exit j=>simp only[Ad]at e1;subst e1;exact hq (i++ [_]) _ τ ρ' a' w' hp (by simpa[Tr.den]using e3) hrel
     |ret=>simp only[Ad]at e1;subst e1;exact hq (i++ [_]) _ τ ρ' a' w' hp (by simpa[Tr.den]using e3) hrel
theorem zAf{x:Operand}{p q:Code}(ihp:IL P sg Rt rs p)(ihq:IL P sg Rt rs q):IL P sg Rt rs (.cond x p q):=by
 intro ex l σ t he F R L js ρ a w hL hd hr Q hq;simp only[EC]at he;split at he
 ·rename_i hx;obtain⟨c,rfl,hs⟩:=hr.ct hx;have:a.eval x= .bool true:=by
   generalize a.eval x=v at hs;cases hs with
   |e h1 _ _=>exact IK h1 rfl
  exact wp_cond_true this (ihp _ _ _ _ he F R L js _ a w hL hd hr Q hq)
 ·rename_i hx;obtain⟨c,rfl,hs⟩:=hr.ct hx;have:a.eval x= .bool false:=by
   generalize a.eval x=v at hs;cases hs with
   |e h1 _ _=>exact IK h1 rfl
  exact wp_cond_false this (ihq _ _ _ _ he F R L js _ a w hL hd hr Q hq)
 ·rename_i y _ _ hx;split at he
  ·rename_i ta tb MK WT;simp at he;subst he;obtain⟨b,hb,d1,d2⟩:=hd;obtain⟨c,rfl,hs⟩:=hr.ct hx;have:a.eval x= .bool b:=by
    generalize a.eval x=v at hs;cases hs with
    |e h1 _ _=>exact IK h1 hb
   exact wp_cond_split this (λhh=>ihp _ _ _ _ MK F R L js _ a w hL (d1 hh) hr Q hq) (λhh=>ihq _ _ _ _ WT F R L js _ a w hL (d2 hh) hr Q hq)
  ·cases he
 ·cases he
theorem Uo{p:Nat->Prop}(h:∃n,p n):∃n,p n/\ ∀m,p m->n<=m:=by
 obtain⟨n,hn⟩:=h
 induction n using Nat.strongRecOn with
 |_ n ih=>
  by_cases hh:∃m,m<n/\p m
  ·obtain⟨m,hm,hp⟩:=hh;exact ih m hm hp
  ·exact⟨n,hn,λm hm=>Nat.le_of_not_lt λAG=>hh ⟨m,AG,hm⟩⟩
theorem zzh(hi:aL){b:Code}(ih:IL P sg Rt rs b):IL P sg Rt rs (.loop b):=by
 intro ex l σ tr he F R L js ρ a w hL hd hr Q hq;simp only[EC]at he;split at he
 ·cases he
 ·rename_i pat t El;have AQ:=vE _ _ El;split at he
  ·cases he
  ·rename_i i0 hi0;obtain⟨k,f,t',BX,htr,It,Ob,hk⟩:∃(k:Tr) (f:Nat->Xt->St->Option Tr) (t':Tr),t.sub f 0=some t'/\tr= .loop (EL.of i0) t' k/\
     (∀d τ,f d .normal τ=(Kz σ.nv pat τ).map λes=> .jmp d (EL.of es))/\
     (∀d x τ r,x≠ .normal->f d x τ=some r->r= .leaf x τ\/ ∃post es,k= .leaf x post/\Kz σ.nv post τ=some es/\r= .jmp (d+1) (EL.of es))/\True:=by
    split at he
    ·obtain⟨t',MI,rfl⟩:=Ar.1 he;refine⟨_,_,t',MI,rfl,λ_ _=>rfl,λd x τ r hx hr=> .inl ?_,trivial⟩;cases x with
     |normal=>exact absurd rfl hx
     |exit j=>simpa using hr.symm
     |ret=>simpa using hr.symm
    ·rename_i id hid;split at he
     ·cases he
     ·rename_i post qR;obtain⟨t',MI,rfl⟩:=Ar.1 he;refine⟨_,_,t',MI,rfl,λ_ _=>rfl,λd x τ r hx hr=> ?_,trivial⟩;cases x with
      |normal=>exact absurd rfl hx
      |exit j=>
       simp only at hr;split at hr
       ·rename_i hj;subst hj;obtain⟨es,Is,rfl⟩:=Ar.1 hr;exact .inr ⟨post,es,rfl,Is,rfl⟩
       ·exact .inl (by simpa using hr.symm)
      |ret=>exact .inl (by simpa using hr.symm)
   subst htr;obtain⟨n0,qN⟩:=hd;obtain⟨c0,Ch,hc2,hc3,hc4,hc5,Gk,hc7,hc8⟩:=id hr;generalize D7:(λ(W:JK) (vs:List AV)=>t'.den Rt R L (W::(λus=>k.den Rt R L js (ρ++us))::js) (ρ++vs))=body at qN;let J:Nat->Act->World->Prop:=λn a w=> ∃vs,Jh body n vs/\G4 F (ρ++vs) pat a w;have hJ0:J n0 a w:=⟨_,qN,hi F _ pat σ i0 ρ ρ a w hi0 Gk (List.prefix_refl _) hr⟩
   classical
   let μ:Act->World->Nat:=λa w=>if h:∃n,J n a w then Classical.choose (Uo h)else 0;refine wp_loop (λa w=> ∃n,J n a w) μ ⟨n0,hJ0⟩ λa1 w1 hI=> ?_;have hμ:μ a1 w1=Classical.choose (Uo hI):=by simp only[μ];rw[dif_pos hI]
   have hJ:=(Classical.choose_spec (Uo hI)).1;rw[hμ];generalize Classical.choose (Uo hI)=m at hJ;obtain⟨vs,Kx,hrel⟩:=hJ;cases m with
   |zero=>exact Kx.elim
   |succ m=>
    have hb:t'.den Rt R L (Jh body m::(λus=>k.den Rt R L js (ρ++us))::js) (ρ++vs):=by have h9:Jh body (m+1) vs=body (Jh body m) vs:=rfl;rw[h9]at Kx;have:=congrFun (congrFun D7 (Jh body m)) vs;rw[<-this]at Kx;exact Kx
    have h1:=Tr.ed _ hL t BX hb;refine ih _ _ _ _ AQ F R _ _ _ a1 w1 (Vx hL _ _) h1 hrel _ λi x τ ρ' a' w' hp hl Db=> ?_;obtain⟨r,d',e1,e2,e3⟩:=hl;have Ld:d'=i.length:=by simp only[AO,A6]at e2;omega
    have hp':ρ<+:ρ':=(List.prefix_append _ _).trans hp;by_cases hx:x= .normal
    ·subst hx;rw[It]at e1;obtain⟨es,Is,rfl⟩:=Ar.1 e1;simp only[Tr.den,zz6 Ld]at e3;have Wy:J m a' w':=⟨_,e3,hi F _ pat τ es ρ ρ' a' w' Is Gk hp' Db⟩
     refine⟨⟨m,Wy⟩,?_⟩;simp only[μ];rw[dif_pos ⟨m,Wy⟩];exact Nat.lt_succ_of_le ((Classical.choose_spec (Uo ⟨m,Wy⟩)).2 _ Wy)
    ·have T0:Q x.ex a' w'->Exit.then (λa' w'=>(∃n,J n a' w')/\μ a' w'<m+1) Q x.ex a' w':=by
      cases x with
      |normal=>exact absurd rfl hx
      |exit j=>exact id
      |ret=>exact id
     apply T0;rcases Ob _ _ _ _ hx e1 with rfl|⟨post,es,rfl,Is,rfl⟩
     ·exact hq (i++ [_,_]) x τ ρ' a' w' hp' (by simpa[Tr.den]using e3) Db
     ·simp only[Tr.den,zCW Ld]at e3;have:=hi F _ post τ es ρ ρ' a' w' Is Gk hp' Db;exact hq [] x post _ a' w' (List.prefix_append _ _) e3 this
theorem zyI(hr:zK P sg Rt)(hi:aL):∀c,IL P sg Rt rs c:=by
 intro c
 induction c with
 |skip=>intro ex l σ t he F R L js ρ a w hL hd hr Q hq;simp only[EC,Ad]at he;subst he;exact wp_skip (hq [] _ _ _ _ _ (List.prefix_refl _) hd hr)
 |label=>intro ex l σ t he F R L js ρ a w hL hd hr Q hq;simp only[EC,Ad]at he;subst he;exact wp_label (hq [] _ _ _ _ _ (List.prefix_refl _) hd hr)
 |ret=>intro ex l σ t he F R L js ρ a w hL hd hr Q hq;simp only[EC,Ad]at he;subst he;exact wp_ret (hq [] _ _ _ _ _ (List.prefix_refl _) hd hr)
 |exit id=>intro ex l σ t he F R L js ρ a w hL hd hr Q hq;simp only[EC,Ad]at he;subst he;exact wp_exit (hq [] _ _ _ _ _ (List.prefix_refl _) hd hr)
 |region id ops draw=>
  intro ex l σ t he F R L js ρ a w hL hd hrel Q hq;simp only[EC]at he;split at he
  ·simp at he;subst he;exact hd.elim
  ·rename_i hp;split at he
   ·cases he
   ·rename_i hs;simp only[Bool.or_eq_true,Bf,not_or,Bool.not_eq_false]at hs;exact hr id ops draw σ t (by simpa using hp) hs.1 hs.2 he F R L js ρ a w hL hd hrel Q hq
 |scope b ih=>intro ex l σ t he F R L js ρ a w hL hd hr Q hq;simp only[EC]at he;refine wp_scope_straight (ih _ _ _ _ he F R L js ρ a w hL hd hr _ λi x τ ρ' a' w' hp hl hrel=> ?_);have:=hq i x τ ρ' a' w' hp hl hrel;cases x<;>exact this
 |cond x p q ihp ihq=>exact zAf ihp ihq
 |block id b ih=>exact zx5 ih
 |seq x y ihx ihy=>exact zCo hi ihx ihy
 |loop b ih=>exact zzh hi ih
 |_=>intro ex l σ t he;simp[EC]at he
end
end
end Go.Proofs.YtalagilebkaegaaGreat
